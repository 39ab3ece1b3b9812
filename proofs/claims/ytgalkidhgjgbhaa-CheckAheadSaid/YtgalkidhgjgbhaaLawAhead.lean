/-
  The walk of CheckAhead.
-/
import Derived.Test.YtgalkidhgjgbhaaLawFree
import Derived.Test.YtgalkidhgjgbhaaChkAhead
import Derived.Test.YtgalkidhgjgbhaaWalkAlone
namespace Go.Proofs.Ytgalkidhgjgbhaa
open Go.RowKit
set_option linter.unusedVariables false

theorem own_one4 (w : World) (e : TypeId) (a b c d : Value) : (w.alloc (.cells #[a, b, c, d] e)).ownsRow w.heap.size e 4 (.slice (some ⟨w.heap.size, 0, none⟩) 1 1) 1 [a, b, c, d] :=
  ⟨by simp, .inr ⟨w.heap.size, 1, #[a, b, c, d], rfl, Nat.le_refl _, heap_alloc_new w _, Nat.le_refl _, by simp [maxLen], rfl, by simp⟩⟩
def I.val (i : I) : Value := .agg #[.int .u16 i.code, .int .u8 i.jt, .int .u8 i.jf, .int .u32 i.k]

set_option maxRecDepth 100000 in
set_option maxHeartbeats 4000000 in
theorem checkAhead_few (w : World) (l : List I) (hok : ∀ i ∈ l, i.Ok) (A : Option Addr) (n c : Nat) (hr : Reads w w.heap.size 4 A n (cellsI l)) (hn : n ≤ 200) (x : I) (hx : x.Ok) :
    Calls Try.prog 7 #[.slice A n c, x.val] w fun e w' => e = .returned (.bool true) ∧ Below w.heap.size w w' := by
  obtain ⟨i0, hi0, hz0, hz1, hz2⟩ := info_parts info_refinst
  have hz0' := hz0
  have hl : n = l.length := by have := hr.1; rw [cellsI_length] at this; omega
  have HL := Lib.hid hl
  clear hl
  have hle1 : ¬ (200 : Int) < (n : Int) := by omega
  have hal := fun W => alone_ref x hx n (by omega) W
  have hcall := fun W => refOf_any x.code hx.1 W
  have hkd : kd x = (ofN x.code).1 := rfl
  have hd := ofN_le x.code
  have hgood : ¬ isLd (ofN x.code).1 → ¬ isEnd (ofN x.code).1 → (ofN x.code).1 ≠ 13 → ¬ 25 ≤ (ofN x.code).1 → aloneN x n = 0 → (checkN l).2 = 0 → checkN (x :: l) = (0, 0) := fun h1 h2 h3 h4 h5 h6 =>
    ahead_check ⟨h1, h2, h3, h4, by rw [← HL.out]; exact h5⟩ h6 (by have := HL.out; omega)
  have hokx : ∀ i ∈ x :: l, i.Ok := fun i hi => by
    rcases List.mem_cons.1 hi with rfl | h
    · exact hx
    · exact hok i h
  have hvals : x.vals = [.int .u16 x.code, .int .u8 x.jt, .int .u8 x.jf, .int .u32 x.k] := rfl
  unfold TellsOf at hcall
  unfold I.val
  generalize (ofN x.code).1 = d at *
  generalize (ofN x.code).2 = xx at *
  generalize hp : checkN l = p at *
  have HC := Lib.hid hcall
  have HA := Lib.hid hal
  have HG := Lib.hid hgood
  clear hcall hal hgood hkd
  go_enter Try.func7, Try.ntmps7
  go_wp2_with fail
  refine (HC.out _).mono ?_
  rintro e w1 ⟨rfl, hB1⟩
  clear HC
  have b1 := (Blk.new w 51 #[.int .u16 x.code, .int .u8 x.jt, .int .u8 x.jf, .int .u32 x.k]).below hB1 (by simp)
  have hB1w : Below w.heap.size w w1 := ((Below.refl _ w).alloc (Nat.le_refl _) _).trans (hB1.mono (by simp))
  clear hB1
  go_wp2_with fail
  refine (all_insts l hok A n c w1 ((hr.below hB1w).more hB1w.size) (by omega)).mono ?_
  rintro e w2 ⟨v2, rfl, own2, hB2⟩
  rw [← HL.out] at own2
  obtain ⟨A2, c2, rfl, hr2⟩ := own_reads own2
  have hB2w := hB1w.trans (hB2.mono hB1w.size)
  have b2 := b1.below hB2 b1.lt
  clear own2 hB2 b1 hB1w
  go_wp2_with fail
  refine (check_any l hok A2 n c2 w2 hr2 (by omega)).mono ?_
  rintro e w3 ⟨rfl, hB3⟩
  rw [hp]
  have hB3w := hB2w.trans (hB3.mono hB2w.size)
  have b3 := b2.below hB3 b2.lt
  clear hB3 hB2w hr2 b2
  have k0 : w3.cell? ⟨w.heap.size, 0, none⟩ = some (.int .u16 x.code) := by rw [b3.cell]; rfl
  have k1 : w3.cell? ⟨w.heap.size, 1, none⟩ = some (.int .u8 x.jt) := by rw [b3.cell]; rfl
  have k2 : w3.cell? ⟨w.heap.size, 2, none⟩ = some (.int .u8 x.jf) := by rw [b3.cell]; rfl
  have k3 : w3.cell? ⟨w.heap.size, 3, none⟩ = some (.int .u32 x.k) := by rw [b3.cell]; rfl
  go_wp2_with fail
  all_goals first
    | (refine (awake04_any _).mono ?_
       rintro e w4 ⟨rfl, hB4⟩
       go_wp2_with fail
       go_ret
       exact ⟨rfl, hB3w.trans (hB4.mono hB3w.size)⟩)
    | skip
  refine (HA.out _).mono ?_
  rintro e w4 ⟨rfl, hB4⟩
  have hB4w := hB3w.trans (hB4.mono hB3w.size)
  have b4 := b3.below hB4 b3.lt
  clear hB4 hB3w b3 k0 k1 k2 k3
  have hck := fun h5 h6 => HG.out (by unfold isLd; omega) (by unfold isEnd; omega) (by omega) (by omega) h5 h6
  have k0 : w4.cell? ⟨w.heap.size, 0, none⟩ = some (.int .u16 x.code) := by rw [b4.cell]; rfl
  have k1 : w4.cell? ⟨w.heap.size, 1, none⟩ = some (.int .u8 x.jt) := by rw [b4.cell]; rfl
  have k2 : w4.cell? ⟨w.heap.size, 2, none⟩ = some (.int .u8 x.jf) := by rw [b4.cell]; rfl
  have k3 : w4.cell? ⟨w.heap.size, 3, none⟩ = some (.int .u32 x.k) := by rw [b4.cell]; rfl
  by_cases ha : aloneN x n = 0
  · have hsame := hck ha (by omega)
    rw [ha]
    have hr4 := (hr.below hB4w).more hB4w.size
    clear hr hck HG HA
    have own4 := own_one4 w4 51 (.int .u16 x.code) (.int .u8 x.jt) (.int .u8 x.jf) (.int .u32 x.k)
    have hr4' := hr4.alloc (Nat.le_refl _) (.cells #[.int .u16 x.code, .int .u8 x.jt, .int .u8 x.jf, .int .u32 x.k] 51)
    have hml : 1 + n ≤ maxLen := by simp only [maxLen]; omega
    have hby : (1 + n) * 8 ≤ 140737488355328 := by omega
    have hsz4 : w4.heap.size ≤ (w4.alloc (.cells #[.int .u16 x.code, .int .u8 x.jt, .int .u8 x.jf, .int .u32 x.k] 51)).heap.size := by simp
    go_wp2_with (at_builtin; go_loud (refine wpList_append_any _ rfl (.tmp 62) (.tmp 63) 22 rfl w4.heap.size 51 i0 _ 4 8 Try.underlying22 hi0 hz0' hz1 hz2 rfl (by omega) (.slice (some ⟨w4.heap.size, 0, none⟩) 1 1) 1 [.int .u16 x.code, .int .u8 x.jt, .int .u8 x.jf, .int .u32 x.k] rfl own4 w4.heap.size A n c (cellsI l) rfl hr4' (cellsI_one l) hml hby hsz4 ?_); intro v5 w5 own5 hg5 hat5)
    all_goals first
      | (refine (awake04_any _).mono ?_
         rintro e w5 ⟨rfl, hB5⟩
         go_wp2_with fail
         go_ret
         exact ⟨rfl, hB4w.trans (hB5.mono hB4w.size)⟩)
      | skip
    have hB5 : Below w.heap.size w w5 := (hB4w.alloc hB4w.size _).grown hg5 (by have := hB4w.size; simp; omega) (fun k e => by cases e; exact hB4w.size)
    rw [show ([.int .u16 x.code, .int .u8 x.jt, .int .u8 x.jf, .int .u32 x.k] : List Value) ++ cellsI l = cellsI (x :: l) by rw [← hvals]; rfl] at own5
    obtain ⟨A5, c5, rfl, hr5⟩ := own_reads own5
    clear own5 hg5 hat5 hr4 hr4' own4
    go_wp2_with fail
    refine (all_insts (x :: l) hokx A5 (1 + n) c5 w5 hr5 (by omega)).mono ?_
    rintro e w6 ⟨v6, rfl, own6, hB6⟩
    obtain ⟨A6, c6, rfl, hr6⟩ := own_reads own6
    have hB6w := hB5.trans (hB6.mono hB5.size)
    clear own6 hB6 hr5
    go_wp2_with fail
    refine (check_any (x :: l) hokx A6 _ c6 w6 hr6 (by have := HL.out; simp; omega)).mono ?_
    rintro e w7 ⟨rfl, hB7⟩
    rw [hsame]
    have hB7w := hB6w.trans (hB7.mono hB6w.size)
    clear hB7 hr6
    go_wp2_with fail
    refine (awake04_any _).mono ?_
    rintro e w8 ⟨rfl, hB8⟩
    go_wp2_with fail
    go_ret
    exact ⟨rfl, hB7w.trans (hB8.mono hB7w.size)⟩
  · have hne : (((aloneN x n : Nat) : Int) != 0) = true := by simp; omega
    generalize aloneN x n = q at *
    go_wp2_with fail
    refine (awake04_any _).mono ?_
    rintro e w5 ⟨rfl, hB5⟩
    go_wp2_with fail
    go_ret
    exact ⟨rfl, hB4w.trans (hB5.mono hB4w.size)⟩

set_option maxRecDepth 100000 in
theorem checkAhead_walk (w : World) (l : List I) (hok : ∀ i ∈ l, i.Ok) (A : Option Addr) (n c : Nat) (hr : Reads w w.heap.size 4 A n (cellsI l)) (_hc : n ≤ c) (_hm : c ≤ maxLen) (x : I) (hx : x.Ok) :
    Calls Try.prog 7 #[.slice A n c, x.val] w fun e w' => e = .returned (.bool true) ∧ Below w.heap.size w w' := by
  by_cases hn : n ≤ 200
  · exact checkAhead_few w l hok A n c hr hn x hx
  · have h1 : (200 : Int) < (n : Int) := by omega
    unfold I.val
    go_enter Try.func7, Try.ntmps7
    go_wp2_with fail
    go_ret
    exact ⟨rfl, (Below.refl _ w).alloc (Nat.le_refl _) _⟩
end Go.Proofs.Ytgalkidhgjgbhaa
