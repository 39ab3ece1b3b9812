/-
  Where a half of an argument is: data.at, data.Low, data.High; strainerlaw05.awake.
-/
import Derived.Test.YtlpakmlpnjfcoaaKinds
namespace Go.Proofs.Ytlpakmlpnjfcoaa
open Go.RowKit
set_option linter.unusedVariables false

def placeD (arg : Int) (second : Bool) : Int := if arg < 0 ∨ 5 < arg then 0 else 16 + 8 * arg + (if second then 4 else 0)
def errD (arg : Int) : Int := if arg < 0 ∨ 5 < arg then 16 else 0

set_option maxRecDepth 100000 in
theorem at_any (arg : Int) (h0 : -9223372036854775808 ≤ arg) (h1 : arg ≤ 9223372036854775807) (second : Bool) (w : World) :
    Calls Try.prog 56 #[.int .i64 arg, .bool second] w fun e w' => e = .returned (.tuple #[.int .i64 (placeD arg second), .int .i64 (errD arg)]) ∧ w = w' := by
  by_cases ha : arg < 0
  · have e1 : placeD arg second = 0 := if_pos (.inl ha)
    have e2 : errD arg = 16 := if_pos (.inl ha)
    have E1 := Lib.hid e1
    have E2 := Lib.hid e2
    clear e1 e2
    go_enter Try.func56, Try.ntmps56
    go_wp2_with fail
    go_ret2
    exact ⟨by rw [E1.out, E2.out]; rfl, rfl⟩
  · by_cases hb : 5 < arg
    · have e1 : placeD arg second = 0 := if_pos (.inr hb)
      have e2 : errD arg = 16 := if_pos (.inr hb)
      have E1 := Lib.hid e1
      have E2 := Lib.hid e2
      clear e1 e2
      go_enter Try.func56, Try.ntmps56
      go_wp2_with fail
      go_ret2
      exact ⟨by rw [E1.out, E2.out]; rfl, rfl⟩
    · have e1 : placeD arg second = 16 + 8 * arg + (if second then 4 else 0) := if_neg (by omega)
      have e2 : errD arg = 0 := if_neg (by omega)
      have E1 := Lib.hid e1
      have E2 := Lib.hid e2
      clear e1 e2
      cases second
      · go_enter Try.func56, Try.ntmps56
        go_wp2_with fail
        go_ret2
        refine ⟨?_, rfl⟩
        rw [E1.out, E2.out]
        simp
      · go_enter Try.func56, Try.ntmps56
        go_wp2_with fail
        go_ret2
        refine ⟨?_, rfl⟩
        rw [E1.out, E2.out]
        simp

set_option maxRecDepth 100000 in
theorem low_any (arg : Int) (h0 : -9223372036854775808 ≤ arg) (h1 : arg ≤ 9223372036854775807) (big : Bool) (w : World) :
    Calls Try.prog 43 #[.int .i64 arg, .bool big] w fun e w' => e = .returned (.tuple #[.int .i64 (placeD arg big), .int .i64 (errD arg)]) ∧ w = w' := by
  go_enter Try.func43, Try.ntmps43
  go_wp2_with fail
  refine (at_any arg h0 h1 big w).mono ?_
  rintro e w1 ⟨rfl, rfl⟩
  go_wp2_with fail
  go_ret2
  exact ⟨rfl, rfl⟩

set_option maxRecDepth 100000 in
theorem high_any (arg : Int) (h0 : -9223372036854775808 ≤ arg) (h1 : arg ≤ 9223372036854775807) (big : Bool) (w : World) :
    Calls Try.prog 44 #[.int .i64 arg, .bool big] w fun e w' => e = .returned (.tuple #[.int .i64 (placeD arg (!big)), .int .i64 (errD arg)]) ∧ w = w' := by
  go_enter Try.func44, Try.ntmps44
  go_wp2_with fail
  refine (at_any arg h0 h1 (!big) w).mono ?_
  rintro e w1 ⟨rfl, rfl⟩
  go_wp2_with fail
  go_ret2
  exact ⟨rfl, rfl⟩

set_option maxRecDepth 100000 in
theorem awake05_any (w : World) : Calls Try.prog 39 #[] w fun e w' => e = .returned (.bool true) ∧ w = w' := by
  have e1 : placeD 1 false = 24 := by decide
  have e2 : placeD 1 true = 28 := by decide
  have e3 : errD 1 = 0 := by decide
  go_enter Try.func39, Try.ntmps39
  go_wp2_with fail
  refine (low_any 1 (by omega) (by omega) false w).mono ?_
  rintro e w1 ⟨rfl, rfl⟩
  rw [e1, e3]
  go_wp2_with fail
  refine (high_any 1 (by omega) (by omega) false w).mono ?_
  rintro e w1 ⟨rfl, rfl⟩
  rw [Bool.not_false, e2, e3]
  go_wp2_with fail
  refine (low_any 1 (by omega) (by omega) true w).mono ?_
  rintro e w1 ⟨rfl, rfl⟩
  rw [e2, e3]
  go_wp2_with fail
  go_ret
  exact ⟨rfl, rfl⟩
end Go.Proofs.Ytlpakmlpnjfcoaa
