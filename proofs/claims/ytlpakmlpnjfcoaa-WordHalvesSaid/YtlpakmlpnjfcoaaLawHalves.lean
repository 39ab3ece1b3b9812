/-
  The walk of strainerlaw01.WordHalves: true.
-/
import Derived.Test.YtlpakmlpnjfcoaaAwake01
namespace Go.Proofs.Ytlpakmlpnjfcoaa
open Go.RowKit
set_option linter.unusedVariables false

set_option maxRecDepth 100000 in
theorem wordHalves_walk (w : World) (n : Nat) (hn : n < 18446744073709551616) (a : Nat) (ha : a < 4294967296) (b : Nat) (hb : b < 4294967296) :
    Calls Try.prog 10 #[.int .u64 n, .int .u32 a, .int .u32 b] w fun e w' => e = .returned (.bool true) ∧ Below w.heap.size w w' := by
  obtain ⟨m, hm⟩ : ∃ m, m = b * 4294967296 + a := ⟨_, rfl⟩
  have hm1 : m % 4294967296 = a := by omega
  have hm2 : m / 4294967296 = b := by omega
  have hm3 : m < 18446744073709551616 := by omega
  have hn1 : n % 4294967296 < 4294967296 := by omega
  have hn2 : n / 4294967296 < 4294967296 := by omega
  have hn3 : n / 4294967296 * 4294967296 + n % 4294967296 = n := by omega
  have HM := Lib.hid hm
  have HM1 := Lib.hid hm1
  have HM2 := Lib.hid hm2
  have HM3 := Lib.hid hm3
  have HN := Lib.hid hn
  have HN3 := Lib.hid hn3
  clear hm hm1 hm2 hm3 hn hn3
  go_enter Try.func10, Try.ntmps10
  go_wp2_with fail
  refine (halves_any n HN.out w).mono ?_
  rintro e w1 ⟨rfl, rfl⟩
  go_wp2_with fail
  refine (join_any a b ha hb w).mono ?_
  rintro e w1 ⟨rfl, rfl⟩
  rw [← HM.out]
  go_wp2_with fail
  refine (halves_any m HM3.out w).mono ?_
  rintro e w1 ⟨rfl, rfl⟩
  rw [HM1.out, HM2.out]
  go_wp2_with fail
  rw [show ((n : Int) % 4294967296) = ((n % 4294967296 : Nat) : Int) from by simp, show ((n : Int) / 4294967296) = ((n / 4294967296 : Nat) : Int) from by simp]
  refine (join_any _ _ hn1 hn2 w).mono ?_
  rintro e w1 ⟨rfl, rfl⟩
  rw [HN3.out]
  go_wp2_with fail
  refine (awake01_any w).mono ?_
  rintro e w1 ⟨rfl, hB⟩
  go_wp2_with fail
  go_ret
  exact ⟨rfl, hB⟩
end Go.Proofs.Ytlpakmlpnjfcoaa
