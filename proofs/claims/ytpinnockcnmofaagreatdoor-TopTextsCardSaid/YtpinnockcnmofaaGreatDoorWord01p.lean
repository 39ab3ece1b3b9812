/-
  Numbers in bytes: the plain functions; the walks of the reference's functions, and of the two that ask whether there are so many bytes.
-/
import Derived.Test.YtpinnockcnmofaaGreatDoorKinds
import Derived.Test.YtpinnockcnmofaaGreatDoorOpen
namespace Go.Proofs.YtpinnockcnmofaaGreatDoor
open Go.RowKit
set_option linter.unusedVariables false

/-- An error's number of a place and a width in so many bytes. -/
def wrongN (size at_ width : Int) : Nat := if width ≠ 1 ∧ width ≠ 2 ∧ width ≠ 4 ∧ width ≠ 8 then 1 else if at_ < 0 ∨ size - width < at_ then 2 else 0
/-- A number out of its bytes, the highest first. -/
def valBE (l : List Nat) : Nat := l.foldl (fun n b => 256 * n + b) 0
theorem valBE_snoc (l : List Nat) (b : Nat) : valBE (l ++ [b]) = 256 * valBE l + b := by unfold valBE; rw [List.foldl_append]; rfl
theorem foldBE_lt : ∀ (l : List Nat) (a : Nat), (∀ b ∈ l, b < 256) → l.foldl (fun n b => 256 * n + b) a < (a + 1) * 256 ^ l.length
  | [], a, _ => by simp
  | x :: l, a, h => by
    have h1 := foldBE_lt l (256 * a + x) (fun b hb => h b (by simp [hb]))
    have h2 := h x (by simp)
    have h3 : (256 * a + x + 1) * 256 ^ l.length ≤ (a + 1) * 256 * 256 ^ l.length := Nat.mul_le_mul_right _ (by omega)
    rw [List.foldl_cons, List.length_cons, Nat.pow_succ, Nat.mul_comm (256 ^ l.length) 256, ← Nat.mul_assoc]
    omega
theorem valBE_cons_lt (l : List Nat) (h : ∀ b ∈ l, b < 256) : valBE l < 256 ^ l.length := by
  have := foldBE_lt l 0 h
  unfold valBE
  omega

def Wide (width : Int) : Prop := width = 1 ∨ width = 2 ∨ width = 4 ∨ width = 8

/-- Bytes from the last one on. -/
theorem take_rev (l : List Nat) (k : Nat) (hk : k < l.length) : (l.drop (l.length - k - 1)).reverse = (l.drop (l.length - k)).reverse ++ [l.getD (l.length - k - 1) 0] := by
  have : l.drop (l.length - k - 1) = l.getD (l.length - k - 1) 0 :: l.drop (l.length - k) := by
    rw [List.drop_eq_getElem_cons (by omega)]
    congr 1
    · simp [show l.length - k - 1 < l.length by omega]
    · rw [show l.length - k - 1 + 1 = l.length - k by omega]
  rw [this, List.reverse_cons]
end Go.Proofs.YtpinnockcnmofaaGreatDoor
