/-
  Where an instruction leads: facts.
-/
import Derived.Test.YtpinnockcnmofaaGreatDoorWalkStored
namespace Go.Proofs.YtpinnockcnmofaaGreatDoor
open Go.RowKit
set_option linter.unusedVariables false

theorem cell_of_below' {w w' : World} {p : Addr} {v : Value} (h : Below w.heap.size w w') (hc : w.cell? p = some v) (_h : True ∨ p.block < w.heap.size) : w'.cell? p = some v := (h.cell (block_lt_of_cell hc)).trans hc
def natsV (l : List Nat) : List Value := l.map fun n : Nat => Value.int .i64 n
/-- A slice of ints that a call hands back. -/
def TellsNats (l : List Nat) (w : World) (e : Ending) (w' : World) : Prop := ∃ A c, e = .returned (.slice A l.length c) ∧ Reads w' w'.heap.size 1 A l.length (natsV l) ∧ Below w.heap.size w w' ∧ ∀ ad, A = some ad → w.heap.size ≤ ad.block

theorem nextN_end {l : List I} {n : Nat} (h : isEnd (kd (l.getD n default))) : nextN l n = [] := by unfold nextN; rw [if_pos h]
theorem nextN_jump {l : List I} {n : Nat} (h : kd (l.getD n default) = 13) : nextN l n = [n + 1 + (l.getD n default).k] := by unfold nextN; rw [if_neg (by unfold isEnd; omega), if_pos h]
theorem nextN_branch {l : List I} {n : Nat} (h : 25 ≤ kd (l.getD n default)) : nextN l n = [n + 1 + (l.getD n default).jt, n + 1 + (l.getD n default).jf] := by unfold nextN; rw [if_neg (by unfold isEnd; omega), if_neg (by omega), if_pos h]
theorem nextN_on {l : List I} {n : Nat} (h1 : ¬ isEnd (kd (l.getD n default))) (h2 : kd (l.getD n default) ≠ 13) (h3 : ¬ 25 ≤ kd (l.getD n default)) : nextN l n = [n + 1] := by unfold nextN; rw [if_neg h1, if_neg h2, if_neg h3]
end Go.Proofs.YtpinnockcnmofaaGreatDoor
