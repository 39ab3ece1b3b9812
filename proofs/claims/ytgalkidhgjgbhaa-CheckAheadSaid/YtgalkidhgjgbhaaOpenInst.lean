/-
  An argument of type Inst opened.
-/
import Derived.Test.YtgalkidhgjgbhaaOpen
import Derived.Test.YtgalkidhgjgbhaaLawAhead
namespace Go.Proofs.Ytgalkidhgjgbhaa
open Go.ChangeShapes Go.WideShapes Go.ChangeAt Go.RowKit Go.Deep
set_option linter.unusedVariables false
section
variable {H : Type} {enc : TypeId × Value → H} {P : Program} {w : World}
theorem open_inst {t t0 t1 t3 : TypeId} (hs : P.underlying t = some (.struct (instFields t0 t1 t3))) (h0 : P.underlying t0 = some (.int .u16)) (h1 : P.underlying t1 = some (.int .u8)) (h3 : P.underlying t3 = some (.int .u32))
    (hone : oneCellFields P (instFields t0 t1 t3) = true) (hC : P.cellsOf t = 4)
    {r : Reach} {b0 base : Nat} {spare : Nat → Bool} {held : Bool} {v : Value} {d : DataW H} {p : List MemPlace} (hv : Value.okWide P w r b0 t v) (h : DataW.Trod enc P w base spare held t v d p) : ∃ x : I, x.Ok ∧ v = x.val := by
  obtain ⟨v0, v1, v2, v3, y0, y1, y2, y3, n, rfl, rfl, rfl, q0, q1, q2, q3⟩ := Go.Joins.open_agg4 hs hone hC hv h
  obtain ⟨m0, e0, _, w0⟩ := DataW.trod_int h0 q0
  obtain ⟨m1, e1, _, w1⟩ := DataW.trod_int h1 q1
  obtain ⟨m2, e2, _, w2⟩ := DataW.trod_int h1 q2
  obtain ⟨m3, e3, _, w3⟩ := DataW.trod_int h3 q3
  simp at e0 e1 e2 e3
  subst e0; subst e1; subst e2; subst e3
  obtain ⟨k0, rfl, b0⟩ := nat_u16 w0
  obtain ⟨k1, rfl, b1⟩ := nat_u8 w1
  obtain ⟨k2, rfl, b2⟩ := nat_u8 w2
  obtain ⟨k3, rfl, b3⟩ := nat_u32 w3
  exact ⟨⟨k0, k1, k2, k3⟩, ⟨b0, b1, b2, b3⟩, rfl⟩
end
end Go.Proofs.Ytgalkidhgjgbhaa
