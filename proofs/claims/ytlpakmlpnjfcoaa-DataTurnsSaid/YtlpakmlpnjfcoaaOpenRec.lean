/-
  An argument of type Record opened.
-/
import Derived.Test.YtlpakmlpnjfcoaaOpenArr
namespace Go.Proofs.Ytlpakmlpnjfcoaa
open Go.ChangeShapes Go.WideShapes Go.ChangeAt Go.RowKit
set_option linter.unusedVariables false

/-- What a program looks at. -/
structure RecV where
  number : Nat
  arch : Nat
  pointer : Nat
  args : List Nat
def u64sV (l : List Nat) : List Value := l.map fun n : Nat => Value.int .u64 n
def RecV.cells (x : RecV) : List Value := .int .u32 x.number :: .int .u32 x.arch :: .int .u64 x.pointer :: u64sV x.args
abbrev RecV.val (x : RecV) : Value := .agg x.cells.toArray
structure RecV.Ok (x : RecV) : Prop where
  number : x.number < 4294967296
  arch : x.arch < 4294967296
  pointer : x.pointer < 18446744073709551616
  args : x.args.length = 6
  arg : ∀ n ∈ x.args, n < 18446744073709551616
section
variable {H : Type} {enc : TypeId × Value → H} {P : Program} {w : World} {base : Nat} {spare : Nat → Bool} {held : Bool}
theorem open_rec {t t0 t2 t3 : TypeId} {n0 n1 n2 n3 a0 a1 a2 a3 p0 p1 p2 p3 : String} {y0 y1 y2 y3 : Nat}
    (hs : P.underlying t = some (.struct #[{ name := n0, type := t0, offset := 0, embedded := false, tag := a0, pkgPath := p0, byteOffset := y0 }, { name := n1, type := t0, offset := 1, embedded := false, tag := a1, pkgPath := p1, byteOffset := y1 }, { name := n2, type := t2, offset := 2, embedded := false, tag := a2, pkgPath := p2, byteOffset := y2 }, { name := n3, type := t3, offset := 3, embedded := false, tag := a3, pkgPath := p3, byteOffset := y3 }]))
    (h0 : P.underlying t0 = some (.int .u32)) (h2 : P.underlying t2 = some (.int .u64)) (h3 : P.underlying t3 = some (.array 6 t2)) (hC : P.cellsOf t = 9) (hC0 : P.cellsOf t0 = 1) (hC2 : P.cellsOf t2 = 1) (hC3 : P.cellsOf t3 = 6)
    {r : Reach} {b0 : Nat} {v : Value} {d : DataW H} {p : List MemPlace} (hv : Value.okWide P w r b0 t v) (h : DataW.Trod enc P w base spare held t v d p) : ∃ x : RecV, x.Ok ∧ v = x.val := by
  obtain ⟨cs, rfl, hsz⟩ := okWide_struct hs hv
  obtain ⟨fuel, hf⟩ := h
  rw [hC] at hsz
  have hcells : (Value.agg cs).cells.toList = cs.toList := by simp [Value.cells]
  rw [hcells] at hf
  obtain ⟨xs, m, _, _, hl, hxl, hx⟩ := DataW.trod_struct hs hf
  have g0 : DataW.trod enc P w base spare held m t0 ((cs.toList.drop 0).take (P.cellsOf t0)) = xs[0]? := hx 0 _ rfl
  have g1 : DataW.trod enc P w base spare held m t0 ((cs.toList.drop 1).take (P.cellsOf t0)) = xs[1]? := hx 1 _ rfl
  have g2 : DataW.trod enc P w base spare held m t2 ((cs.toList.drop 2).take (P.cellsOf t2)) = xs[2]? := hx 2 _ rfl
  have g3 : DataW.trod enc P w base spare held m t3 ((cs.toList.drop 3).take (P.cellsOf t3)) = xs[3]? := hx 3 _ rfl
  have hxl' : xs.length = 4 := by simpa using hxl
  rw [hC0, List.getElem?_eq_getElem (by omega)] at g0 g1
  rw [hC2, List.getElem?_eq_getElem (by omega)] at g2
  rw [hC3, List.getElem?_eq_getElem (by omega)] at g3
  have one : ∀ i, i < 9 → (cs.toList.drop i).take 1 = [cs.toList.getD i undef] := by
    intro i hi
    rw [List.drop_eq_getElem_cons (by simp; omega)]
    simp [show i < cs.size by omega]
  rw [one 0 (by omega)] at g0
  rw [one 1 (by omega)] at g1
  rw [one 2 (by omega)] at g2
  obtain ⟨m0, e0, _, w0⟩ := DataW.trod_int h0 g0
  obtain ⟨m1, e1, _, w1⟩ := DataW.trod_int h0 g1
  obtain ⟨m2, e2, _, w2⟩ := DataW.trod_int h2 g2
  obtain ⟨q0, u0, b0'⟩ := nat_u32 w0
  obtain ⟨q1, u1, b1'⟩ := nat_u32 w1
  obtain ⟨q2, u2, b2'⟩ := nat_u64 w2
  subst u0; subst u1; subst u2
  obtain ⟨ys, m', _, _, hl', hyl, hy⟩ := DataW.trod_array h3 g3
  have hb : ∀ i, i < 6 → ∃ n : Nat, cs.toList.getD (3 + i) undef = .int .u64 n ∧ n < 18446744073709551616 := by
    intro i hi
    have h1 := hy i hi
    rw [hC2, List.getElem?_eq_getElem (by omega : i < ys.length)] at h1
    have h2' : ((((cs.toList.drop 3).take 6).drop (i * 1)).take 1) = [cs.toList.getD (3 + i) undef] := by
      rw [List.drop_eq_getElem_cons (by simp; omega)]
      simp [show 3 + i < cs.size by omega]
    rw [h2'] at h1
    obtain ⟨m3, e3, _, w3⟩ := DataW.trod_int h2 h1
    obtain ⟨n, rfl, hn⟩ := nat_u64 w3
    injection e3 with e3
    exact ⟨n, e3, hn⟩
  have hc : ∃ f : Nat → Nat, ∀ i, i < 6 → cs.toList.getD (3 + i) undef = .int .u64 (f i : Nat) ∧ f i < 18446744073709551616 := by
    refine ⟨fun i => if h : i < 6 then (hb i h).choose else 0, fun i hi => ?_⟩
    simp only [hi, dif_pos]
    exact (hb i hi).choose_spec
  obtain ⟨f, hf6⟩ := hc
  injection e0 with e0
  injection e1 with e1
  injection e2 with e2
  refine ⟨⟨q0, q1, q2, (List.range 6).map f⟩, ⟨b0', b1', b2', by simp, fun n hn => ?_⟩, ?_⟩
  · obtain ⟨i, hi, rfl⟩ := List.mem_map.1 hn
    exact (hf6 i (List.mem_range.1 hi)).2
  · unfold RecV.val
    congr 1
    have e : cs.toList = RecV.cells ⟨q0, q1, q2, (List.range 6).map f⟩ := by
      apply List.ext_getElem (by simp [RecV.cells, u64sV]; omega)
      intro i h1 _
      have h9 : i < 9 := by simp at h1; omega
      have g : cs.toList.getD i undef = (RecV.cells ⟨q0, q1, q2, (List.range 6).map f⟩).getD i undef := by
        match i, h9 with
        | 0, _ => exact e0
        | 1, _ => exact e1
        | 2, _ => exact e2
        | 3, _ => exact (hf6 0 (by omega)).1
        | 4, _ => exact (hf6 1 (by omega)).1
        | 5, _ => exact (hf6 2 (by omega)).1
        | 6, _ => exact (hf6 3 (by omega)).1
        | 7, _ => exact (hf6 4 (by omega)).1
        | 8, _ => exact (hf6 5 (by omega)).1
      simpa [List.getD, h1, *] using g
    rw [← e]
end
end Go.Proofs.Ytlpakmlpnjfcoaa
