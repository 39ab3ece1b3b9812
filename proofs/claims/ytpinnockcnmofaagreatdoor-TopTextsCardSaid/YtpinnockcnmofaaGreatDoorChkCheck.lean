/-
  Whether a program may run: in plain words.
-/
import Derived.Test.YtpinnockcnmofaaGreatDoorChkFacts
namespace Go.Proofs.YtpinnockcnmofaaGreatDoor
set_option linter.unusedVariables false

def isLd (d : Nat) : Prop := d = 3 ∨ d = 6
instance (d : Nat) : Decidable (isLd d) := by unfold isLd; infer_instance
def initE (l : List I) (n : Nat) : Nat := if isLd (kd (l.getD n default)) ∧ ((storedN l).getD n 0).testBit (l.getD n default).k = false then 12 else 0
/-- The number, and an error's number. -/
def checkN (l : List I) : Nat × Nat :=
  if (formedN l).2 ≠ 0 then formedN l
  else match findBad (initE l) l.length 0 with
    | some n => (n, 12)
    | none => (0, 0)
theorem checkN_bad (l : List I) (hf : (formedN l).2 = 0) (k : Nat) (hk : k < l.length) (hz : ∀ i, i < k → initE l i = 0) (hb : initE l k ≠ 0) : checkN l = (k, 12) := by
  unfold checkN
  rw [if_neg (by omega), findBad_found (initE l) l.length 0 k (by omega) (by omega) (fun i _ hi => hz i hi) hb]
theorem checkN_end (l : List I) (hf : (formedN l).2 = 0) (hz : ∀ i, i < l.length → initE l i = 0) : checkN l = (0, 0) := by
  unfold checkN
  rw [if_neg (by omega), findBad_none (initE l) l.length 0 (fun i _ hi => hz i (by omega))]
theorem storedN_length (l : List I) (hf : (formedN l).2 = 0) : (storedN l).length = l.length := by unfold storedN; rw [if_pos hf, uptoN_length]
theorem storedN_lt (l : List I) : ∀ x ∈ storedN l, x < 65536 := by
  unfold storedN
  split
  · exact uptoN_lt l _
  · intro x hx; cases hx
end Go.Proofs.YtpinnockcnmofaaGreatDoor
