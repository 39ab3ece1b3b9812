/-
  The walk of strainerlaw02.awake: true.
-/
import Derived.Test.YtlpakmlpnjfcoaaWalkWrite
import Derived.Test.YtlpakmlpnjfcoaaWalkOf
namespace Go.Proofs.Ytlpakmlpnjfcoaa
open Go.RowKit

theorem ofN_29 : ofN 29 = (25, true) := by decide

set_option maxRecDepth 100000 in
theorem awake02_any (w : World) : Calls Try.prog 24 #[] w fun e w' => e = .returned (.bool true) ∧ Below w.heap.size w w' := by
  go_enter Try.func24, Try.ntmps24
  go_wp2_with fail
  refine (write_any [⟨21, 1, 2, 3⟩] (by intro i hi; simp at hi; subst hi; simp [I.Ok]) _ 1 1 _ ((reads_lit w _ _ 4 1 rfl).more (by simp)) (by omega)).mono ?_
  rintro e w1 ⟨v, rfl, hown, hB⟩
  obtain ⟨A1, c1, rfl, hrd⟩ := own_reads hown
  have hBw : Below w.heap.size w w1 := ((Below.refl _ w).alloc (Nat.le_refl _) _).trans (hB.mono (by simp))
  clear hown hB
  generalize (writeN [⟨21, 1, 2, 3⟩]).length = n at *
  go_wp2_with fail
  refine (of_any 29 (by omega) w1).mono ?_
  rintro e w2 ⟨rfl, hB2⟩
  have hcv := run_conv (P := Try.prog) (c := c1) (hrd.below hB2) 31 5 9 Try.underlying31 Try.underlying5 Try.underlying9
  rw [ofN_29]
  have hs : (strB (writeN [⟨21, 1, 2, 3⟩])).toList = [21, 0, 1, 2, 3, 0, 0, 0] := by rw [ByteArray.toList_eq]; decide
  generalize strB (writeN [⟨21, 1, 2, 3⟩]) = s at *
  go_wp2_with fail
  go_ret
  exact ⟨rfl, hBw.trans (hB2.mono hBw.size)⟩
end Go.Proofs.Ytlpakmlpnjfcoaa
