/-
  The walk of strainerlaw04.free.
-/
import Derived.Test.YtgalkidhgjgbhaaChkFree
import Derived.Test.YtgalkidhgjgbhaaWalkAsk
import Derived.Test.YtgalkidhgjgbhaaRefOf
namespace Go.Proofs.Ytgalkidhgjgbhaa
open Go.RowKit
set_option linter.unusedVariables false

set_option maxRecDepth 100000 in
set_option maxHeartbeats 4000000 in
theorem free_any (c : Nat) (hc : c < 65536) (w : World) : Calls Try.prog 27 #[.int .u16 c] w fun e w' => e = .returned (.bool (freeN c)) ∧ Below w.heap.size w w' := by
  have hd := ofN_le c
  have hcall := fun W => refOf_any c hc W
  unfold TellsOf at hcall
  unfold freeN
  generalize (ofN c).1 = d at *
  generalize (ofN c).2 = x at *
  have HC := Lib.hid hcall
  clear hcall
  go_enter Try.func27, Try.ntmps27
  go_wp2_with fail
  refine (HC.out _).mono ?_
  rintro e w1 ⟨rfl, hB⟩
  clear HC
  cases x
  all_goals go_wp2
  all_goals
    go_ret
    refine ⟨ret_bool ?_, hB⟩
    unfold freeD
    simp only [beq_iff_eq, beq_eq_false_iff_ne, ne_eq] at *
    rw [Bool.eq_iff_iff]
    simp only [Bool.or_eq_true, decide_eq_true_eq, Bool.or_true, Bool.or_false, Bool.true_or, true_iff, iff_true, Bool.false_eq_true, false_iff, decide_eq_false_iff_not, bne_iff_ne, ne_eq, Bool.and_eq_true, not_or, not_and, beq_iff_eq]
    first | done | omega
end Go.Proofs.Ytgalkidhgjgbhaa
