/-
  The walks of asm.laid, asm.Size and asm.plain.
-/
import Derived.Test.YtgalkidhgjgbhaaWalkLayout
import Derived.Test.YtgalkidhgjgbhaaWalkFormG
namespace Go.Proofs.Ytgalkidhgjgbhaa
open Go.RowKit
set_option linter.unusedVariables false

def TellsPlaced (l : List It) (w : World) (e : Ending) (w' : World) : Prop :=
  ∃ (F : Nat → Bool) (g cap : Nat), Laid l F ∧ e = .returned (.tuple #[.slice (some ⟨g, 0, none⟩) (ins l).length cap, .int .i64 (plN l F (ins l).length : Nat)]) ∧ w.heap.size ≤ g ∧ RowK w' g 104 (cap * 11) (cellsS (stL (ins l) (yesN l) (noN l) F (plN l F) fun n => !reachB l n)) ∧ (ins l).length ≤ cap ∧ cap ≤ maxLen ∧ Below w.heap.size w w'
set_option maxRecDepth 100000 in
theorem laid_any (l : List It) (hok : ∀ x ∈ l, x.Ok) (hF : Form l) (A : Option Addr) (n c : Nat) (w : World) (hr : Reads w w.heap.size 5 A n (cellsT l)) (hn : n ≤ 100000) :
    Calls Try.prog 51 #[.slice A n c] w (TellsPlaced l w) := by
  have hl : n = l.length := by have := hr.1; rw [cellsT_length] at this; omega
  have hN : (ins l).length ≤ 100000 := by
    have := cnt_le l l.length (Nat.le_refl _)
    rw [cnt_all] at this; omega
  have HL := Lib.hid hl
  clear hl
  go_enter Try.func51, Try.ntmps51
  go_wp2_with fail
  refine (steps_any l hok hF A n c w hr hn).mono ?_
  rintro e w1 ⟨g, cap, rfl, hg, hrow, hcap, hmx, hB⟩
  rw [stL_length] at hcap ⊢
  go_wp2_with fail
  refine (reached_any l hF z0B z0N z0B g cap cap w.heap.size w1 hg hrow hN).mono ?_
  rintro e w2 ⟨rfl, hrow2, hB2⟩
  have hB2w := hB.trans hB2
  go_wp2_with fail
  refine (layout_any l hF g cap cap w.heap.size w2 hg hrow2 hN).mono ?_
  rintro e w3 ⟨F, hL, rfl, hrow3, hB3⟩
  go_wp2_with fail
  go_ret2
  exact ⟨F, g, cap, hL, rfl, hg, hrow3, hcap, hmx, hB2w.trans hB3⟩
set_option maxRecDepth 100000 in
theorem size_no (l : List It) (hok : ∀ x ∈ l, x.Ok) (hF : ¬ Form l) (A : Option Addr) (n c : Nat) (w : World) (hr : Reads w w.heap.size 5 A n (cellsT l)) (hn : n ≤ 100000) :
    Calls Try.prog 36 #[.slice A n c] w fun e w' => e = .returned (.int .i64 0) ∧ Below w.heap.size w w' := by
  go_enter Try.func36, Try.ntmps36
  go_wp2_with fail
  refine (formedG_any l hok A n c w hr (by omega)).mono ?_
  rintro e w1 ⟨b, rfl, hb, hB⟩
  have hbf : b = false := by
    cases b with
    | false => rfl
    | true => exact absurd (hb.1 rfl) hF
  subst hbf
  clear hb
  go_wp2_with fail
  go_ret
  exact ⟨rfl, hB⟩
set_option maxRecDepth 100000 in
theorem size_yes (l : List It) (hok : ∀ x ∈ l, x.Ok) (hF : Form l) (A : Option Addr) (n c : Nat) (w : World) (hr : Reads w w.heap.size 5 A n (cellsT l)) (hn : n ≤ 100000) :
    Calls Try.prog 36 #[.slice A n c] w fun e w' => (∃ F, Laid l F ∧ e = .returned (.int .i64 (plN l F (ins l).length : Nat))) ∧ Below w.heap.size w w' := by
  go_enter Try.func36, Try.ntmps36
  go_wp2_with fail
  refine (formedG_any l hok A n c w hr (by omega)).mono ?_
  rintro e w1 ⟨b, rfl, hb, hB⟩
  have hbt : b = true := hb.2 hF
  subst hbt
  clear hb
  go_wp2_with fail
  refine (laid_any l hok hF A n c w1 ((hr.below hB).more hB.size) hn).mono ?_
  rintro e w2 ⟨F, g, cap, hL, rfl, hg, hrow, hcap, hmx, hB2⟩
  go_wp2_with fail
  go_ret
  exact ⟨⟨F, hL, rfl⟩, hB.trans (hB2.mono hB.size)⟩
set_option maxRecDepth 100000 in
theorem plain_any (fr : Nat) (s : St) (hle : fr + 1 ≤ s.at_) (hhi : s.at_ ≤ 1000000) (w : World) : Calls Try.prog 52 #[.int .i64 fr, .agg #[.int .i64 s.it.mark, .int .u16 s.it.code, .int .u32 s.it.k, .int .i64 s.it.tr, .int .i64 s.it.fa, .int .i64 (s.it.kd : Nat), .int .i64 s.yes, .int .i64 s.no, .bool s.far, .int .i64 (s.at_ : Nat), .bool s.dead]] w fun e w' =>
    e = .returned (.agg #[.int .u16 5, .int .u8 0, .int .u8 0, .int .u32 (s.at_ - fr - 1 : Nat)]) ∧ Below w.heap.size w w' := by
  obtain ⟨it, y, o, f, p, d⟩ := s
  simp only at hle hhi ⊢
  generalize it.kd = kk
  obtain ⟨xm, xc, xk, xt, xf⟩ := it
  simp only
  have hw : IntKind.u32.wrap ((p : Int) - (fr : Int) - 1) = ((p - fr - 1 : Nat) : Int) := by simp [IntKind.wrap, IntKind.bits, IntKind.signed]; omega
  have HW := Lib.hid hw
  clear hw
  go_enter Try.func52, Try.ntmps52
  go_wp2_with fail
  refine bodyPost_ret (v := .agg #[.int .u16 5, .int .u8 0, .int .u8 0, .int .u32 ((p : Int) - (fr : Int) - 1)]) (by simp [results, Try.results52, go_sem]) rfl ⟨?_, ((Below.refl _ w).alloc (Nat.le_refl _) _).alloc (by simp) _⟩
  rw [show ((p : Int) - (fr : Int) - 1) = ((p - fr - 1 : Nat) : Int) by omega]
end Go.Proofs.Ytgalkidhgjgbhaa
