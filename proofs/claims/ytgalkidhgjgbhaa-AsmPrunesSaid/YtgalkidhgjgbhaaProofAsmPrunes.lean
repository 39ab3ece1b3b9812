/-
  The statement of the law AsmPrunes: whatever the input, the call returns true, and the input reads as it did. No condition.
-/
import Derived.Test.YtgalkidhgjgbhaaLawAsmPrunes
import Derived.Test.YtgalkidhgjgbhaaOpenItems
import Derived.Test.YtgalkidhgjgbhaaOpen
namespace Go.Proofs.Ytgalkidhgjgbhaa.asmPrunes
open Go.ChangeShapes Go.WideShapes Go.ChangeAt Go.RowKit
open Go.ChangeMaps (open_string shut_string)
set_option linter.unusedVariables false

theorem own : ownKnob Try.prog.godebug = none := by kernel_rfl
theorem laidOut : laidOutB Try.prog = true := by kernel_rfl

set_option maxRecDepth 100000 in
theorem lifted (os : Os) (started : os.Started) (H : Type) (enc : TypeId × Value → H) :
    ReturnsInHanded {} Try.checked os 11 .any (Rows.asmPrunesSpec.pre6 enc Try.prog Try.f11 Rows.asmPrunesRow.domain false) (Rows.asmPrunesSpec.post enc Try.prog Try.f11 false true false false) := by
  refine returnsInHanded_of_change (C := Try.checked) own started (by kernel_rfl) Try.func11
    (ChangeSpec.witness6 (enc := enc) (C := Try.checked) false ⟨#[], #[.slice none 0 0, .slice none 0 0], []⟩ 8 (by kernel_rfl) (by kernel_rfl) (by kernel_rfl) (by kernel_rfl)) ?_
  intro W base args ds gs before hval0 hW hcnd _
  have hval : ∀ (j : Nat) t v, Try.f11.params[j]? = some t → args[j]? = some v → Value.okWide Try.prog W .any base t v := hval0
  have hW' := hW
  obtain ⟨p, q, hA0, hV, rfl, hfz, hnd⟩ := hW
  have hA : DataW.TrodAll enc Try.prog W 0 (fun _ => true) true Try.f11.params.toList args.toList ds p := hA0
  rw [Try.params11] at hA hval
  obtain ⟨v0, vs0, d0, ds0, p0, q0, hargs, rfl, rfl, h0, r0⟩ := trodAll_cons hA
  obtain ⟨v1, vs1, d1, ds1, p1, q1, rfl, rfl, rfl, h1, r1⟩ := trodAll_cons r0
  obtain ⟨rfl, rfl, rfl⟩ := trodAll_nil r1
  obtain rfl : args = #[v0, v1] := by cases args; simp_all
  obtain ⟨rfl, rfl⟩ := trodVars_none hV
  have k0 := h0
  have lt0 : ∀ x ∈ p0, x.block < W.heap.size := by obtain ⟨m, hm⟩ := k0; exact DataW.trod_lt m _ _ _ hm
  obtain ⟨a0, len0, cap0, rfl⟩ := okWide_slice Try.underlying70 (hval 0 70 v0 rfl rfl)
  obtain ⟨l0, rd0, ok0, hl0, hc0, hm0⟩ := open_items Try.underlying70 Try.underlying73 Try.underlying3 Try.underlying35 Try.underlying26 (by kernel_rfl) (by kernel_rfl) h0 lt0
  have k1 := h1
  have lt1 : ∀ x ∈ p1, x.block < W.heap.size := by obtain ⟨m, hm⟩ := k1; exact DataW.trod_lt m _ _ _ hm
  obtain ⟨a1, len1, cap1, rfl⟩ := okWide_slice Try.underlying70 (hval 1 70 v1 rfl rfl)
  obtain ⟨l1, rd1, ok1, hl1, hc1, hm1⟩ := open_items Try.underlying70 Try.underlying73 Try.underlying3 Try.underlying35 Try.underlying26 (by kernel_rfl) (by kernel_rfl) h1 lt1
  clear hA0 hval0
  refine (asmPrunes_walk W l0 ok0 a0 len0 cap0 rd0 hc0 hm0 l1 ok1 a1 len1 cap1 rd1 hc1 hm1).mono fun e W' ⟨he, bel⟩ => ?_
  subst he
  exact ⟨_, rfl, _, _, _, [], _, [], hW', trodAll_mk1 (shut_bool Try.underlying4 _), (trodAll_cons_mk (Below.trod laidOut (by kernel_rfl) (of_decide_eq_true (by kernel_rfl)) k0 bel lt0) (trodAll_cons_mk (Below.trod laidOut (by kernel_rfl) (of_decide_eq_true (by kernel_rfl)) k1 bel lt1) trodAll_mk0)), rfl, bel.frame _, fun h => by cases h⟩

theorem over : Rows.asmPrunesRow.holds Try.pinned (OpenSpec.ofChange Rows.asmPrunesSpec) :=
  OpenClaim.holds_of_wide 11 Try.f11 rfl rfl rfl rfl rfl rfl rfl ⟨rfl, rfl, rfl, rfl, rfl⟩ rfl rfl rfl rfl rfl (by kernel_rfl) Try.func11 (by kernel_rfl)
    (of_decide_eq_true (by kernel_rfl)) (by unfold Func.isWrapper; first | (rw [if_pos (by decide +kernel)]; kernel_rfl) | (rw [if_neg (by decide +kernel)]; exact ⟨rfl, rfl⟩))
    (fun os started H enc _ => lifted os started H enc)

end Go.Proofs.Ytgalkidhgjgbhaa.asmPrunes
namespace Go.Proofs.Ytgalkidhgjgbhaa
/-- The statement. -/
theorem asmPrunes_holds : Rows.AsmPrunesSaid := asmPrunes.over
#print axioms asmPrunes_holds
end Go.Proofs.Ytgalkidhgjgbhaa
