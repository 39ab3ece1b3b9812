/-
  The walk of flow.next: where an instruction may go on.
-/
import Derived.Test.YtgalkidhgjgbhaaWalkVm1
import Derived.Test.YtgalkidhgjgbhaaWalkReach
namespace Go.Proofs.Ytgalkidhgjgbhaa
open Go.RowKit
set_option linter.unusedVariables false

set_option maxRecDepth 100000 in
set_option maxHeartbeats 1000000 in
theorem next_any (l : List I) (hok : ∀ i ∈ l, i.Ok) (A : Option Addr) (n c k : Nat) (w : World) (hr : Reads w w.heap.size 4 A n (cellsI l)) (hn : n ≤ 100000) (hlt : k < n) :
    Calls Try.prog 45 #[.slice A n c, .int .i64 k] w (TellsNats (nextN l k) w) := by
  have hl : n = l.length := by have := hr.1; rw [cellsI_length] at this; omega
  obtain ⟨b, off, rfl, hb, c0, c1, c2, c3⟩ := hr.at4 hlt
  have hok' := getD_ok hok (k := k) (by omega)
  have hof : ∀ W, Calls Try.prog 47 #[.int .u16 (l.getD k default).code] W fun e w' => e = .returned (.tuple #[.int .i64 (kd (l.getD k default) : Nat), .bool (kx (l.getD k default)), .bool (kd (l.getD k default) != 0)]) ∧ Below W.heap.size W w' := fun W => of_any _ hok'.1 W
  have hnx : nextN l k = if isEnd (kd (l.getD k default)) then [] else if kd (l.getD k default) = 13 then [k + 1 + (l.getD k default).k] else if 25 ≤ kd (l.getD k default) then [k + 1 + (l.getD k default).jt, k + 1 + (l.getD k default).jf] else [k + 1] := rfl
  have hd28 := kd_le (l.getD k default)
  generalize nextN l k = N at *
  generalize kd (l.getD k default) = d at *
  generalize kx (l.getD k default) = x at *
  generalize l.getD k default = i at *
  obtain ⟨xc, xt, xf, xk⟩ := i
  obtain ⟨o1, o2, o3, o4⟩ := hok'
  simp only at c0 c1 c2 c3 o1 o2 o3 o4 hof hnx
  have z0 : (0 : Int) ≤ (k : Int) := by omega
  have z1 : (k : Int) < (n : Int) := by omega
  have HOF := Lib.hid hof
  have HNX := Lib.hid hnx
  clear hof hnx hr hok
  go_enter Try.func45, Try.ntmps45
  go_wp2_with fail
  refine (HOF.out _).mono ?_
  rintro e w1 ⟨rfl, hB1⟩
  have hri := (RowK.new w 37 #[.int .u16 xc, .int .u8 xt, .int .u8 xf, .int .u32 xk] [.int .u16 xc, .int .u8 xt, .int .u8 xf, .int .u32 xk] rfl).below hB1 (by simp)
  have d1 := hri.cell (k := 1) rfl
  have d2 := hri.cell (k := 2) rfl
  have d3 := hri.cell (k := 3) rfl
  have HB := Lib.hid (((Below.refl _ w).alloc (Nat.le_refl _) (.cells #[.int .u16 xc, .int .u8 xt, .int .u8 xf, .int .u32 xk] 37)).trans (hB1.mono (by simp)))
  have HS := Lib.hid hB1.size
  clear hri hB1 c0 c1 c2 c3
  by_cases he : isEnd d
  · have hN : N = [] := by rw [HNX.out, if_pos he]
    subst hN
    rcases he with rfl | rfl
    all_goals
      go_wp2_with fail
      go_ret
      exact ⟨none, 0, rfl, Reads.none_, HB.out, fun _ h => by (cases h)⟩
  · have e14 : ((d : Int) == 14) = false := by
      have : ¬ (d : Int) = 14 := fun e => he (.inl (by omega))
      simpa using this
    have e15 : ((d : Int) == 15) = false := by
      have : ¬ (d : Int) = 15 := fun e => he (.inr (by omega))
      simpa using this
    have h14 : ¬ (d : Int) = 14 := fun e => he (.inl (by omega))
    have h15 : ¬ (d : Int) = 15 := fun e => he (.inr (by omega))
    by_cases h13 : d = 13
    · subst h13
      have hN : N = [k + 1 + xk] := by rw [HNX.out, if_neg he, if_pos rfl]
      subst hN
      go_wp2_with fail
      go_ret
      refine ⟨some ⟨w1.heap.size, 0, none⟩, 1, rfl, ?_, (HB.out).alloc (by have := HS.out; simp at this; omega) _, fun ad h => by (cases h; exact Nat.le_trans (Nat.le_succ _) (by have := HS.out; simpa using this))⟩
      have := reads_lit w1 (natsV [k + 1 + xk]) 3 1 1 rfl
      simpa [natsV] using this
    · have h13' : ¬ (d : Int) = 13 := by omega
      by_cases h25 : 25 ≤ d
      · have h25' : (25 : Int) ≤ (d : Int) := by omega
        have hN : N = [k + 1 + xt, k + 1 + xf] := by rw [HNX.out, if_neg he, if_neg h13, if_pos h25]
        subst hN
        go_wp2_with fail
        go_ret
        refine ⟨some ⟨w1.heap.size, 0, none⟩, 2, rfl, ?_, (HB.out).alloc (by have := HS.out; simp at this; omega) _, fun ad h => by (cases h; exact Nat.le_trans (Nat.le_succ _) (by have := HS.out; simpa using this))⟩
        have := reads_lit w1 (natsV [k + 1 + xt, k + 1 + xf]) 3 1 2 rfl
        simpa [natsV] using this
      · have h25' : ¬ (25 : Int) ≤ (d : Int) := by omega
        have hN : N = [k + 1] := by rw [HNX.out, if_neg he, if_neg h13, if_neg h25]
        subst hN
        go_wp2_with fail
        go_ret
        refine ⟨some ⟨w1.heap.size, 0, none⟩, 1, rfl, ?_, (HB.out).alloc (by have := HS.out; simp at this; omega) _, fun ad h => by (cases h; exact Nat.le_trans (Nat.le_succ _) (by have := HS.out; simpa using this))⟩
        have := reads_lit w1 (natsV [k + 1]) 3 1 1 rfl
        simpa [natsV] using this
end Go.Proofs.Ytgalkidhgjgbhaa
