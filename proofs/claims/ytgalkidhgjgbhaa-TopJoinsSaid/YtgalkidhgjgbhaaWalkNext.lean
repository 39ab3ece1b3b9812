/-
  The walk of the reference's Next.
-/
import Derived.Test.YtgalkidhgjgbhaaWalkStored
namespace Go.Proofs.Ytgalkidhgjgbhaa
open Go.RowKit
set_option linter.unusedVariables false

theorem cell_of_below' {w w' : World} {p : Addr} {v : Value} (h : Below w.heap.size w w') (hc : w.cell? p = some v) (_h : True ∨ p.block < w.heap.size) : w'.cell? p = some v := (h.cell (block_lt_of_cell hc)).trans hc
def natsV (l : List Nat) : List Value := l.map fun n : Nat => Value.int .i64 n
/-- A slice of ints that a call hands back. -/
def TellsNats (l : List Nat) (w : World) (e : Ending) (w' : World) : Prop := ∃ A c, e = .returned (.slice A l.length c) ∧ Reads w' w'.heap.size 1 A l.length (natsV l) ∧ Below w.heap.size w w' ∧ ∀ ad, A = some ad → w.heap.size ≤ ad.block

theorem nextN_end {l : List I} {n : Nat} (h : isEnd (kd (l.getD n default))) : nextN l n = [] := by unfold nextN; rw [if_pos h]
theorem nextN_jump {l : List I} {n : Nat} (h : kd (l.getD n default) = 13) : nextN l n = [n + 1 + (l.getD n default).k] := by unfold nextN; rw [if_neg (by unfold isEnd; omega), if_pos h]
theorem nextN_branch {l : List I} {n : Nat} (h : 25 ≤ kd (l.getD n default)) : nextN l n = [n + 1 + (l.getD n default).jt, n + 1 + (l.getD n default).jf] := by unfold nextN; rw [if_neg (by unfold isEnd; omega), if_neg (by omega), if_pos h]
theorem nextN_on {l : List I} {n : Nat} (h1 : ¬ isEnd (kd (l.getD n default))) (h2 : kd (l.getD n default) ≠ 13) (h3 : ¬ 25 ≤ kd (l.getD n default)) : nextN l n = [n + 1] := by unfold nextN; rw [if_neg h1, if_neg h2, if_neg h3]

set_option maxRecDepth 100000 in
set_option maxHeartbeats 4000000 in
theorem refNext_any (l : List I) (hok : ∀ i ∈ l, i.Ok) (A : Option Addr) (n c : Nat) (w : World) (hr : Reads w w.heap.size 4 A n (cellsI l)) (hn : n ≤ 1000000) (k : Nat) (hk : k < n) :
    Calls Try.prog 66 #[.slice A n c, .int .i64 k] w (TellsNats (nextN l k) w) := by
  have hl : n = l.length := by have := hr.1; rw [cellsI_length] at this; omega
  obtain ⟨b, off, rfl, hb, h0', h1', h2', h3'⟩ := hr.at4 hk
  have hok' := getD_ok hok (k := k) (by omega)
  have q1 := @nextN_end l k
  have q2 := @nextN_jump l k
  have q3 := @nextN_branch l k
  have q4 := @nextN_on l k
  have hof : ∀ W, Calls Try.prog 28 #[.int .u16 (l.getD k default).code] W fun e w' => e = .returned (.tuple #[.int .i64 (kd (l.getD k default) : Nat), .bool (kx (l.getD k default))]) ∧ Below W.heap.size W w' := fun W => refOf_any _ hok'.1 W
  have hdl := kd_le (l.getD k default)
  generalize nextN l k = nx at *
  generalize kd (l.getD k default) = d at *
  generalize kx (l.getD k default) = x at *
  generalize l.getD k default = i at *
  obtain ⟨xc, xt, xf, xk⟩ := i
  obtain ⟨o1, o2, o3, o4⟩ := hok'
  simp only at h0' h1' h2' h3' o1 o2 o3 o4 hof q1 q2 q3 q4
  have HOF := Lib.hid hof
  have Q1 := Lib.hid q1
  have Q2 := Lib.hid q2
  have Q3 := Lib.hid q3
  have Q4 := Lib.hid q4
  have z0 : (0 : Int) ≤ (k : Int) := by omega
  have z1 : (k : Int) < (n : Int) := by omega
  clear hof q1 q2 q3 q4 hr hl
  go_enter Try.func66, Try.ntmps66
  go_wp2_with fail
  refine (HOF.out _).mono ?_
  rintro e w1 ⟨rfl, hB1⟩
  have g1 := cell_of_below' hB1 h1' (.inl trivial)
  have g2 := cell_of_below' hB1 h2' (.inl trivial)
  have g3 := cell_of_below' hB1 h3' (.inl trivial)
  clear HOF h0' h1' h2' h3'
  by_cases hend : isEnd d
  · have hq := Q1.out hend
    have HQ := Lib.hid hq
    clear hq Q1 Q2 Q3 Q4
    rcases hend with rfl | rfl
    all_goals
      go_wp2_with fail
      go_ret
      rw [HQ.out]
      exact ⟨none, 0, rfl, Reads.none_, hB1, fun ad e => by cases e⟩
  · have n14 : ((d : Int) == 14) = false := by unfold isEnd at hend; simp; omega
    have n15 : ((d : Int) == 15) = false := by unfold isEnd at hend; simp; omega
    by_cases h13 : d = 13
    · have hq := Q2.out h13
      subst h13
      have HQ := Lib.hid hq
      clear hq Q1 Q2 Q3 Q4 hend
      go_wp2_with fail
      go_ret
      rw [HQ.out]
      refine ⟨_, _, rfl, ?_, hB1.alloc hB1.size _, fun ad e => by cases e; exact hB1.size⟩
      have := reads_lit w1 (natsV [k + 1 + xk]) 3 1 1 rfl
      simpa [natsV] using this
    · have n13 : ((d : Int) == 13) = false := by simp; omega
      by_cases h25 : 25 ≤ d
      · have hq := Q3.out h25
        have HQ := Lib.hid hq
        have y25 : (25 : Int) ≤ (d : Int) := by omega
        clear hq Q1 Q2 Q3 Q4 hend h13 h25
        go_wp2_with fail
        have e1 : IntKind.i64.wrap ((k : Int) + 1) = (k : Int) + 1 := IntWalk.i64_in _ (by omega)
        have e2 : IntKind.i64.wrap (xt : Int) = (xt : Int) := IntWalk.i64_in _ (by omega)
        have e3 : IntKind.i64.wrap (xf : Int) = (xf : Int) := IntWalk.i64_in _ (by omega)
        have e4 : IntKind.i64.wrap ((k : Int) + 1 + (xt : Int)) = (k : Int) + 1 + (xt : Int) := IntWalk.i64_in _ (by omega)
        have e5 : IntKind.i64.wrap ((k : Int) + 1 + (xf : Int)) = (k : Int) + 1 + (xf : Int) := IntWalk.i64_in _ (by omega)
        go_region_held3 (fun w' => w'.cell? ⟨b, off + k * 4 + 1, none⟩ = some (.int .u8 xt) ∧ w'.cell? ⟨b, off + k * 4 + 2, none⟩ = some (.int .u8 xf)) (go_keep) (fail)
        clear e1 e2 e3 e4 e5
        go_wp2_with fail
        go_ret
        rw [HQ.out]
        refine ⟨_, _, rfl, ?_, (hB1.alloc hB1.size _).drew, fun ad e => by cases e; exact hB1.size⟩
        have := reads_lit w1 (natsV [k + 1 + xt, k + 1 + xf]) 3 1 2 rfl
        exact Reads.drew (by simpa [natsV] using this)
      · have hq := Q4.out hend h13 h25
        have HQ := Lib.hid hq
        have y25 : ¬ (25 : Int) ≤ (d : Int) := by omega
        clear hq Q1 Q2 Q3 Q4 hend h13 h25
        go_wp2_with fail
        go_ret
        rw [HQ.out]
        refine ⟨_, _, rfl, ?_, hB1.alloc hB1.size _, fun ad e => by cases e; exact hB1.size⟩
        have := reads_lit w1 (natsV [k + 1]) 3 1 1 rfl
        simpa [natsV] using this
end Go.Proofs.Ytgalkidhgjgbhaa
