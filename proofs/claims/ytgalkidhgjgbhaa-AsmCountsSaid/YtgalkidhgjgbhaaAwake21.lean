/-
  The walk of strainerlaw21.awake: true.
-/
import Derived.Test.YtgalkidhgjgbhaaWalkAssemble
import Derived.Test.YtgalkidhgjgbhaaAsmFew
namespace Go.Proofs.Ytgalkidhgjgbhaa
open Go.RowKit
set_option linter.unusedVariables false

theorem li0_asmR : asmR li0 (fun _ => false) = ([⟨21, 1, 0, 5⟩, ⟨6, 0, 0, 1⟩, ⟨6, 0, 0, 2⟩], 0) := by
  unfold asmR
  rw [li0_pl, if_neg (by decide), li0_asm, li0_check, if_neg (by decide)]

set_option maxRecDepth 100000 in
set_option maxHeartbeats 1000000 in
theorem awake21_any (w : World) : Calls Try.prog 33 #[] w fun e w' => e = .returned (.bool true) ∧ Below w.heap.size w w' := by
  go_enter Try.func33, Try.ntmps33
  go_wp2_with fail
  have hB1 : Below w.heap.size w (w.alloc (.cells (cellsT li0).toArray 61)) := (Below.refl _ w).alloc (Nat.le_refl _) _
  refine (assemble_yes li0 li0_ok li0_form (some ⟨w.heap.size, 0, none⟩) 4 4 _ ?hr (by omega)).mono ?_
  case hr => exact (reads_lit w (cellsT li0) 61 5 4 rfl).more (by simp)
  rintro e w1 ⟨F, v, hL, rfl, hown, hB⟩
  obtain rfl := far_few li0_form (by decide) hL
  rw [li0_asmR] at *
  obtain ⟨A5, c5, rfl, hr5⟩ := own_reads hown
  obtain ⟨b, off, rfl, hb, c00, c01, c02, c03⟩ := hr5.at4 (k := 0) (by decide)
  obtain ⟨b', off', e', hb', c20, c21, c22, c23⟩ := hr5.at4 (k := 2) (by decide)
  cases e'
  have hBw : Below w.heap.size w w1 := hB1.trans (hB.mono (by simp))
  simp only [Nat.zero_mul, Nat.add_zero, Nat.reduceMul, List.getD_cons_zero, List.getD_cons_succ, List.length_cons, List.length_nil, Nat.reduceAdd] at *
  clear hB1 hB hL hr5 hown
  go_wp2_with fail
  go_ret
  exact ⟨rfl, hBw⟩
end Go.Proofs.Ytgalkidhgjgbhaa
