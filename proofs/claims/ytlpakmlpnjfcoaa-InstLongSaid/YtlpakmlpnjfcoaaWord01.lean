/-
  Numbers in bytes: the plain functions; the walks of the reference's functions, and of the two that ask whether there are so many bytes.
-/
import Derived.Test.YtlpakmlpnjfcoaaKinds
import Derived.Test.YtlpakmlpnjfcoaaOpen
namespace Go.Proofs.Ytlpakmlpnjfcoaa
open Go.RowKit
set_option linter.unusedVariables false

/-- An error's number of a place and a width in so many bytes. -/
def wrongN (size at_ width : Int) : Nat := if width ≠ 1 ∧ width ≠ 2 ∧ width ≠ 4 ∧ width ≠ 8 then 1 else if at_ < 0 ∨ size - width < at_ then 2 else 0
/-- A number out of its bytes, the highest first. -/
def valBE (l : List Nat) : Nat := l.foldl (fun n b => 256 * n + b) 0
theorem valBE_snoc (l : List Nat) (b : Nat) : valBE (l ++ [b]) = 256 * valBE l + b := by unfold valBE; rw [List.foldl_append]; rfl
theorem foldBE_lt : ∀ (l : List Nat) (a : Nat), (∀ b ∈ l, b < 256) → l.foldl (fun n b => 256 * n + b) a < (a + 1) * 256 ^ l.length
  | [], a, _ => by simp
  | x :: l, a, h => by
    have h1 := foldBE_lt l (256 * a + x) (fun b hb => h b (by simp [hb]))
    have h2 := h x (by simp)
    have h3 : (256 * a + x + 1) * 256 ^ l.length ≤ (a + 1) * 256 * 256 ^ l.length := Nat.mul_le_mul_right _ (by omega)
    rw [List.foldl_cons, List.length_cons, Nat.pow_succ, Nat.mul_comm (256 ^ l.length) 256, ← Nat.mul_assoc]
    omega
theorem valBE_cons_lt (l : List Nat) (h : ∀ b ∈ l, b < 256) : valBE l < 256 ^ l.length := by
  have := foldBE_lt l 0 h
  unfold valBE
  omega

def Wide (width : Int) : Prop := width = 1 ∨ width = 2 ∨ width = 4 ∨ width = 8

set_option maxRecDepth 100000 in
theorem wrong_any (size at_ width : Int) (w : World) (h0 : 0 ≤ size) (h1 : size ≤ 9223372036854775807) : Calls Try.prog 29 #[.int .i64 size, .int .i64 at_, .int .i64 width] w fun e w' => e = .returned (.int .i64 (wrongN size at_ width : Nat)) ∧ w = w' := by
  by_cases hw : Wide width
  · have hfin : ∀ c : Prop, [Decidable c] → (if width ≠ 1 ∧ width ≠ 2 ∧ width ≠ 4 ∧ width ≠ 8 then 1 else if c then 2 else 0) = if c then 2 else 0 := fun c _ => if_neg (by rcases hw with h | h | h | h <;> omega)
    by_cases ha : at_ < 0
    · have hv : wrongN size at_ width = 2 := by unfold wrongN; rw [hfin, if_pos (.inl ha)]
      rw [hv]
      rcases hw with rfl | rfl | rfl | rfl
      all_goals
        clear hfin hv
        go_enter Try.func29, Try.ntmps29
        go_wp2
        go_ret
        exact ⟨rfl, rfl⟩
    · by_cases hb : size - width < at_
      · have hv : wrongN size at_ width = 2 := by unfold wrongN; rw [hfin, if_pos (.inr hb)]
        rw [hv]
        rcases hw with rfl | rfl | rfl | rfl
        all_goals
          clear hfin hv
          go_enter Try.func29, Try.ntmps29
          go_wp2
          go_ret
          exact ⟨rfl, rfl⟩
      · have hv : wrongN size at_ width = 0 := by unfold wrongN; rw [hfin, if_neg (by omega)]
        rw [hv]
        rcases hw with rfl | rfl | rfl | rfl
        all_goals
          clear hfin hv
          go_enter Try.func29, Try.ntmps29
          go_wp2
          go_ret
          exact ⟨rfl, rfl⟩
  · have hv : wrongN size at_ width = 1 := by unfold wrongN; rw [if_pos (by unfold Wide at hw; omega)]
    rw [hv]
    have e1 : (width != 1) = true := by unfold Wide at hw; simp; omega
    have e2 : (width != 2) = true := by unfold Wide at hw; simp; omega
    have e4 : (width != 4) = true := by unfold Wide at hw; simp; omega
    have e8 : (width != 8) = true := by unfold Wide at hw; simp; omega
    clear hv hw
    go_enter Try.func29, Try.ntmps29
    go_wp2
    go_ret
    exact ⟨rfl, rfl⟩

/-- Bytes from the last one on. -/
theorem take_rev (l : List Nat) (k : Nat) (hk : k < l.length) : (l.drop (l.length - k - 1)).reverse = (l.drop (l.length - k)).reverse ++ [l.getD (l.length - k - 1) 0] := by
  have : l.drop (l.length - k - 1) = l.getD (l.length - k - 1) 0 :: l.drop (l.length - k) := by
    rw [List.drop_eq_getElem_cons (by omega)]
    congr 1
    · simp [show l.length - k - 1 < l.length by omega]
    · rw [show l.length - k - 1 + 1 = l.length - k by omega]
  rw [this, List.reverse_cons]
end Go.Proofs.Ytlpakmlpnjfcoaa
