/-
  The walk of strainerlaw21.awake: true.
-/
import Derived.Test.YtgalkidhgjgbhaaWalkAssemble
import Derived.Test.YtgalkidhgjgbhaaAsmOk2
import Derived.Test.YtgalkidhgjgbhaaAsmData
/-! The walk of strainerlaw21.awake: true. -/
namespace Go.Proofs.Ytgalkidhgjgbhaa
open Go.RowKit
set_option linter.unusedVariables false

theorem li0_asmR : asmR li0 (fun _ => false) = ([⟨21, 1, 0, 5⟩, ⟨6, 0, 0, 1⟩, ⟨6, 0, 0, 2⟩], 0) := by
  unfold asmR
  rw [li0_pl, if_neg (by decide), li0_asm, li0_check, if_neg (by decide)]

set_option maxRecDepth 100000 in
set_option maxHeartbeats 1000000 in
theorem awake21_any (w : World) : Calls Try.prog 33 #[] w fun e w' => e = .returned (.bool true) ∧ Below w.heap.size w w' := by
  go_enter Try.func33, Try.ntmps33
  go_wp2_with fail
  have hB1 : Below w.heap.size w (w.alloc (.cells (cellsT li0).toArray 61)) := (Below.refl _ w).alloc (Nat.le_refl _) _
  refine (assemble_yes li0 li0_ok li0_form (some ⟨w.heap.size, 0, none⟩) 4 4 _ ?hr (by omega)).mono ?_
  case hr => exact (reads_lit w (cellsT li0) 61 5 4 rfl).more (by simp)
  rintro e w1 ⟨F, v, hL, rfl, hown, hB⟩
  obtain rfl := far_few li0_form (by decide) hL
  rw [li0_asmR] at *
  obtain ⟨A5, c5, rfl, hr5⟩ := own_reads hown
  obtain ⟨b, off, rfl, hb, c00, c01, c02, c03⟩ := hr5.at4 (k := 0) (by decide)
  obtain ⟨b', off', e', hb', c20, c21, c22, c23⟩ := hr5.at4 (k := 2) (by decide)
  cases e'
  have hBw : Below w.heap.size w w1 := hB1.trans (hB.mono (by simp))
  simp only [Nat.zero_mul, Nat.add_zero, Nat.reduceMul, List.getD_cons_zero, List.getD_cons_succ, List.length_cons, List.length_nil, Nat.reduceAdd] at *
  clear hB1 hB hL hr5 hown
  go_wp2_with fail
  go_ret
  exact ⟨rfl, hBw⟩
end Go.Proofs.Ytgalkidhgjgbhaa

/-! The walk of strainerlaw21.of: a document's items as the program's. -/
namespace Go.Proofs.Ytgalkidhgjgbhaa
open Go.RowKit

theorem info_item : (Try.prog.info? 61).map (fun i => (i.zero, i.size, i.bytes)) = some (some (.agg #[.int .i64 0, .int .u16 0, .int .u32 0, .int .i64 0, .int .i64 0]), 5, 32) := by kernel_rfl
theorem take_snocIt (l : List It) (k : Nat) (hk : k < l.length) : l.take (k + 1) = l.take k ++ [l.getD k default] := take_snocT l k hk
/-- What a call that makes items hands back. -/
def MakesItems (l : List It) (w : World) (e : Ending) (w' : World) : Prop :=
  ∃ v, e = .returned v ∧ w'.ownsRow w.heap.size 61 5 v l.length (cellsT l) ∧ Below w.heap.size w w'

set_option maxRecDepth 100000 in
theorem of_items (l : List It) (hok : ∀ i ∈ l, i.Ok) (A : Option Addr) (n c : Nat) (w : World) (hr : Reads w w.heap.size 5 A n (cellsT l)) (hn : n ≤ 1000000) :
    Calls Try.prog 35 #[.slice A n c] w (MakesItems l w) := by
  obtain ⟨i0, hi0, hz0, hz1, hz2⟩ := info_parts info_item
  have hl : n = l.length := by have := hr.1; rw [cellsT_length] at this; omega
  have Hl := Lib.hid hl
  clear hl
  go_enter Try.func35, Try.ntmps35
  go_wp2_with fail
  go_loopw [3, 4] (fun v i wr => ∃ k : Nat, k ≤ n ∧ i = .int .i64 k ∧ wr.ownsRow w.heap.size 61 5 v k (cellsT (l.take k)) ∧ Below w.heap.size w wr) (fun _ i _ => n - (intOf i).toNat)
  case atStart => exact ⟨0, by omega, rfl, World.ownsRow_nil _ _ _ _, Below.refl _ _⟩
  case round =>
    obtain ⟨k, hk, rfl, hown, hB⟩ := hrel
    by_cases hlt : k < n
    · obtain ⟨b, off, rfl, hb, hcs⟩ := (hr.below hB).at5 hlt
      obtain ⟨h0, h1, h2, h3, h4⟩ := hcs k hlt
      have hok' := getD_okT hok (k := k) (by have := Hl.out; omega)
      generalize hx : l.getD k default = x at *
      obtain ⟨xm, xc, xk, xt, xf⟩ := x
      obtain ⟨o1, o2, o3, o4, o5⟩ := hok'
      simp only at h0 h1 h2 h3 h4 o1 o2 o3 o4 o5
      have hnk : n = l.length := Hl.out
      have hstep := take_snocIt l k (by omega)
      rw [hx] at hstep
      clear hx hnk hcs
      have HS := Lib.hid hstep
      clear hstep
      go_wp2_with fail
      have hz0' : (0 : Int) ≤ (k : Int) := Int.natCast_nonneg _
      have hz1' : (k : Int) < (n : Int) := by omega
      have ag : u3.ownBlock ≠ some b := fun e => by have := (hown.lt b e).1; omega
      have hsz := hB.size
      go_region_held3 (fun w' => w'.cell? ⟨b, off + k * 5, none⟩ = some (.int .i64 xm) ∧ w'.cell? ⟨b, off + k * 5 + 1, none⟩ = some (.int .u16 xc) ∧ w'.cell? ⟨b, off + k * 5 + 2, none⟩ = some (.int .u32 xk) ∧ w'.cell? ⟨b, off + k * 5 + 3, none⟩ = some (.int .i64 xt) ∧ w'.cell? ⟨b, off + k * 5 + 4, none⟩ = some (.int .i64 xf))
        (first
          | go_keep
          | (go_split_ands
             refine ⟨?_, ?_, ?_, ?_, ?_⟩ <;> (rw [hgrow.cell_far _ (by simp; omega) (Ne.symm ag)]; assumption)))
        ((refine step_append_lies _ (by rfl) _ _ _ (by rfl) w.heap.size 61 i0 _ 5 32 Try.underlying62 hi0 hz0 hz1 hz2 rfl (by omega) u3 k (cellsT (l.take k)) (by rfl) ((hown.alloc _).drew)
            ⟨wr.heap.size, 0, none⟩ 1 1 [.int .i64 xm, .int .u16 xc, .int .u32 xk, .int .i64 xt, .int .i64 xf] (by rfl) (by rfl) (World.news_of_block (cs := #[.int .i64 xm, .int .u16 xc, .int .u32 xk, .int .i64 xt, .int .i64 xf]) (t := 61) (fr := (0, 0)) (heap_alloc_new wr _)) (by simp [Value.oneCell'])
            (by omega) (by simp only [maxLen]; omega) (by omega) (by simp; omega) (wr.heap.size + 1) (by simp) ?_; intro gg cap w1 hown1 hgrow hat hlt1))
      go_wp2_with fail
      go_roundw
      case rel =>
        refine ⟨k + 1, by omega, by go_num, ?_, below_held hB hsz hgrow hown⟩
        rw [HS.out, cellsT_append]
        simpa [cellsT, It.vals] using hown1
      case measure => simp [intOf]; omega
    · obtain rfl : k = n := by omega
      have hfin : l.take k = l := List.take_of_length_le (by have := Hl.out; omega)
      have HF := Lib.hid hfin
      clear hfin hr
      go_wp2_with fail
      go_ret
      refine ⟨_, rfl, ?_, hB⟩
      rw [HF.out] at hown
      rw [← Hl.out]
      exact hown
end Go.Proofs.Ytgalkidhgjgbhaa
