/-
  word.Halves; strainertop.awake: true.
-/
import Derived.Test.YtpinnockcnmofaaGreatDoorData
namespace Go.Proofs.YtpinnockcnmofaaGreatDoor
open Go.RowKit
set_option linter.unusedVariables false

set_option maxRecDepth 100000 in
theorem halves_any (n : Nat) (hn : n < 18446744073709551616) (w : World) : Calls Tryz.prog 24 #[.int .u64 n] w fun e w' => e = .returned (.tuple #[.int .u32 ((n % 4294967296 : Nat) : Int), .int .u32 ((n / 4294967296 : Nat) : Int)]) ∧ w = w' := by
  have h1 : n / 4294967296 < 4294967296 := by omega
  go_enter Tryz.func24, Tryz.ntmps24
  go_wp2_with fail
  go_ret2
  refine ⟨?_, rfl⟩
  simp

set_option maxRecDepth 100000 in
theorem awakeT_any (w : World) : Calls Tryz.prog 11 #[] w fun e w' => e = .returned (.bool true) ∧ Below w.heap.size w w' := by
  go_enter Tryz.func11, Tryz.ntmps11
  go_wp2_with fail
  refine (halves_any 4294967298 (by decide) w).mono ?_
  rintro e w1 ⟨rfl, rfl⟩
  go_wp2_with fail
  go_ret
  exact ⟨rfl, Below.refl _ w⟩
end Go.Proofs.YtpinnockcnmofaaGreatDoor
