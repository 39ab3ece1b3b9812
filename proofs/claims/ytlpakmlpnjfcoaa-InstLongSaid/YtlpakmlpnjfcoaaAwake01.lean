/-
  word.Get, whatever the place and the width; strainerlaw01.awake: true; word.Halves, word.Join.
-/
import Derived.Test.YtlpakmlpnjfcoaaWalkGet
namespace Go.Proofs.Ytlpakmlpnjfcoaa
open Go.RowKit
set_option linter.unusedVariables false

theorem wrongN_zero {size at_ width : Int} (h : wrongN size at_ width = 0) : Wide width ∧ 0 ≤ at_ ∧ at_ + width ≤ size := by
  unfold wrongN at h
  by_cases h1 : width ≠ 1 ∧ width ≠ 2 ∧ width ≠ 4 ∧ width ≠ 8
  · rw [if_pos h1] at h; omega
  · rw [if_neg h1] at h
    by_cases h2 : at_ < 0 ∨ size - width < at_
    · rw [if_pos h2] at h; omega
    · exact ⟨by unfold Wide; omega, by omega, by omega⟩

theorem get_any (l : List Nat) (hok : ∀ b ∈ l, b < 256) (A : Option Addr) (n c : Nat) (at_ width : Int) (big : Bool) (w : World) (hr : Reads w w.heap.size 1 A n (bytesV l)) (hn : n ≤ 1000000) :
    Calls Try.prog 28 #[.slice A n c, .int .i64 at_, .int .i64 width, .bool big] w (TellsGet l at_ width big w) := by
  have hl : n = l.length := by have := hr.1; rw [bytesV_length] at this; omega
  by_cases hw : wrongN n at_ width = 0
  · obtain ⟨hwide, h0, h1⟩ := wrongN_zero hw
    obtain ⟨a, rfl⟩ : ∃ a : Nat, at_ = a := ⟨at_.toNat, by omega⟩
    have hwb : 1 ≤ width ∧ width ≤ 8 := by rcases hwide with h | h | h | h <;> omega
    obtain ⟨v, rfl⟩ : ∃ v : Nat, width = v := ⟨width.toNat, by omega⟩
    exact get_yes l hok A n c a v big w hr hl hn hw (by omega) (by omega) (by omega)
  · exact get_no l A n c at_ width big w hl hn hw

theorem getN_1 : getN [1, 2, 3, 4] 1 2 false = 770 := by decide
theorem getN_2 : getN [1, 2, 3, 4] 1 2 true = 515 := by decide
theorem wrongN_1 : wrongN ([1, 2, 3, 4] : List Nat).length 1 2 = 0 := by decide
theorem small4 : ∀ b ∈ ([1, 2, 3, 4] : List Nat), b < 256 := by decide

set_option maxRecDepth 100000 in
theorem awake01_any (w : World) : Calls Try.prog 30 #[] w fun e w' => e = .returned (.bool true) ∧ Below w.heap.size w w' := by
  go_enter Try.func30, Try.ntmps30
  go_wp2_with fail
  refine (get_any [1, 2, 3, 4] small4 _ _ _ _ _ _ _ ((reads_lit w (bytesV [1, 2, 3, 4]) 5 1 4 rfl).more (by simp)) (by omega)).mono ?_
  rintro e w1 ⟨rfl, hB1⟩
  rw [getN_1, wrongN_1]
  have hB1w : Below w.heap.size w w1 := ((Below.refl _ w).alloc (Nat.le_refl _) _).trans (hB1.mono (by simp))
  clear hB1
  go_wp2_with fail
  refine (get_any [1, 2, 3, 4] small4 _ _ _ _ _ _ _ ((reads_lit w1 (bytesV [1, 2, 3, 4]) 5 1 4 rfl).more (by simp)) (by omega)).mono ?_
  rintro e w2 ⟨rfl, hB2⟩
  rw [getN_2, wrongN_1]
  have hB2w : Below w.heap.size w w2 := hB1w.trans (((Below.refl _ w1).alloc hB1w.size _).trans (hB2.mono (by have := hB1w.size; simp; omega)))
  clear hB2
  go_wp2_with fail
  go_ret
  exact ⟨rfl, hB2w⟩

set_option maxRecDepth 100000 in
theorem halves_any (n : Nat) (hn : n < 18446744073709551616) (w : World) : Calls Try.prog 34 #[.int .u64 n] w fun e w' => e = .returned (.tuple #[.int .u32 ((n % 4294967296 : Nat) : Int), .int .u32 ((n / 4294967296 : Nat) : Int)]) ∧ w = w' := by
  have h1 : n / 4294967296 < 4294967296 := by omega
  go_enter Try.func34, Try.ntmps34
  go_wp2_with fail
  go_ret2
  refine ⟨?_, rfl⟩
  simp

theorem or_halves (a b : Nat) (ha : a < 4294967296) (hb : b < 4294967296) : bits .or .u64 ((b : Int) * 4294967296) (a : Int) = (b : Int) * 4294967296 + (a : Int) := by
  have e : ((b : Int) * 4294967296) = ((b * 4294967296 : Nat) : Int) := by simp
  rw [e, u64_or_nat (b * 4294967296) a (by omega) (by omega), nat_join 32 (b * 4294967296) a (by omega) (by omega)]
  simp

set_option maxRecDepth 100000 in
theorem join_any (a b : Nat) (ha : a < 4294967296) (hb : b < 4294967296) (w : World) : Calls Try.prog 33 #[.int .u32 a, .int .u32 b] w fun e w' => e = .returned (.int .u64 ((b * 4294967296 + a : Nat) : Int)) ∧ w = w' := by
  go_enter Try.func33, Try.ntmps33
  go_wp2_with fail
  go_ret
  refine ⟨?_, rfl⟩
  simp
  exact or_halves a b ha hb
end Go.Proofs.Ytlpakmlpnjfcoaa
