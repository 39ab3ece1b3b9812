/-
  The walk of strainerlaw02.InstCodes: true.
-/
import Derived.Test.YtlpakmlpnjfcoaaAwake02
import Derived.Test.YtlpakmlpnjfcoaaRefOf
namespace Go.Proofs.Ytlpakmlpnjfcoaa
open Go.RowKit

set_option maxRecDepth 100000 in
theorem instCodes_walk (c : Nat) (hc : c < 65536) (w : World) : Calls Try.prog 3 #[.int .u16 c] w fun e w' => e = .returned (.bool true) ∧ Below w.heap.size w w' := by
  go_enter Try.func3, Try.ntmps3
  go_wp2_with fail
  refine (of_gives c hc _).mono ?_
  rintro e w1 ⟨rfl, hB1⟩
  go_wp2_with fail
  refine (refOf_any c hc _).mono ?_
  rintro e w2 ⟨rfl, hB2⟩
  generalize ofN c = p at *
  go_wp2_with fail
  refine (awake02_any _).mono ?_
  rintro e w3 ⟨rfl, hB3⟩
  go_wp2_with fail
  go_ret
  have h2 := hB1.trans (hB2.mono hB1.size)
  exact ⟨rfl, h2.trans (hB3.mono h2.size)⟩
end Go.Proofs.Ytlpakmlpnjfcoaa
