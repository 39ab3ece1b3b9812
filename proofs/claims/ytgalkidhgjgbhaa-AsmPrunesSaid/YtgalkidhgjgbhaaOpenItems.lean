/-
  Arguments of items and of a Far opened.
-/
import Derived.Test.YtgalkidhgjgbhaaOpen
import Derived.Test.YtgalkidhgjgbhaaAsmData
namespace Go.Proofs.Ytgalkidhgjgbhaa
open Go.ChangeShapes Go.WideShapes Go.ChangeAt Go.RowKit Go.Deep
set_option linter.unusedVariables false
def itemFields (t0 t1 t2 : TypeId) : Array Field :=
  #[{ name := "Mark", type := t0, offset := 0, embedded := false, tag := "", pkgPath := "", byteOffset := 0 }, { name := "Code", type := t1, offset := 1, embedded := false, tag := "", pkgPath := "", byteOffset := 8 },
    { name := "K", type := t2, offset := 2, embedded := false, tag := "", pkgPath := "", byteOffset := 12 }, { name := "True", type := t0, offset := 3, embedded := false, tag := "", pkgPath := "", byteOffset := 16 },
    { name := "False", type := t0, offset := 4, embedded := false, tag := "", pkgPath := "", byteOffset := 24 }]
def farFields (t0 t1 t2 : TypeId) : Array Field :=
  #[{ name := "Between", type := t0, offset := 0, embedded := false, tag := "", pkgPath := "", byteOffset := 0 }, { name := "A", type := t1, offset := 1, embedded := false, tag := "", pkgPath := "", byteOffset := 4 },
    { name := "K", type := t1, offset := 2, embedded := false, tag := "", pkgPath := "", byteOffset := 8 }, { name := "Swap", type := t2, offset := 3, embedded := false, tag := "", pkgPath := "", byteOffset := 12 }]
theorem cellsT_get (l : List It) (k j : Nat) (hk : k < l.length) (hj : j < 5) : (cellsT l)[k * 5 + j]? = (l.getD k default).vals[j]? := flat_get It.vals 5 It.vals_length default l k j hk hj
/-- How many stand in between, what is held against what, and which way leads far. -/
structure FarV where
  between : Nat
  a : Nat
  k : Nat
  swap : Bool
structure FarV.Ok (x : FarV) : Prop where
  between : x.between < 65536
  a : x.a < 4294967296
  k : x.k < 4294967296
abbrev FarV.val (x : FarV) : Value := .agg #[.int .u16 x.between, .int .u32 x.a, .int .u32 x.k, .bool x.swap]
section
variable {H : Type} {enc : TypeId × Value → H} {P : Program} {w : World}
theorem open_far {t t0 t1 t2 : TypeId} (hs : P.underlying t = some (.struct (farFields t0 t1 t2))) (h0 : P.underlying t0 = some (.int .u16)) (h1 : P.underlying t1 = some (.int .u32)) (h2 : P.underlying t2 = some .bool)
    (hone : oneCellFields P (farFields t0 t1 t2) = true) (hC : P.cellsOf t = 4)
    {r : Go.Reach} {b0 base : Nat} {spare : Nat → Bool} {held : Bool} {v : Value} {d : DataW H} {p : List MemPlace} (hv : Value.okWide P w r b0 t v) (h : DataW.Trod enc P w base spare held t v d p) : ∃ x : FarV, x.Ok ∧ v = x.val := by
  obtain ⟨v0, v1, v2, v3, y0, y1, y2, y3, n, rfl, rfl, rfl, q0, q1, q2, q3⟩ := Go.Joins.open_agg4 hs hone hC hv h
  obtain ⟨m0, e0, _, w0⟩ := DataW.trod_int h0 q0
  obtain ⟨m1, e1, _, w1⟩ := DataW.trod_int h1 q1
  obtain ⟨m2, e2, _, w2⟩ := DataW.trod_int h1 q2
  obtain ⟨m3, e3, _⟩ := DataW.trod_bool h2 q3
  simp at e0 e1 e2 e3
  subst e0; subst e1; subst e2; subst e3
  obtain ⟨k0, rfl, b0⟩ := nat_u16 w0
  obtain ⟨k1, rfl, b1⟩ := nat_u32 w1
  obtain ⟨k2, rfl, b2⟩ := nat_u32 w2
  exact ⟨⟨k0, k1, k2, m3⟩, ⟨b0, b1, b2⟩, rfl⟩
theorem open_items {t e t0 t1 t2 : TypeId} (ht : P.underlying t = some (.slice e)) (he : P.underlying e = some (.struct (itemFields t0 t1 t2))) (h0 : P.underlying t0 = some (.int .i64)) (h1 : P.underlying t1 = some (.int .u16)) (h3 : P.underlying t2 = some (.int .u32))
    (hone : oneCellFields P (itemFields t0 t1 t2) = true) (hC : P.cellsOf e = 5) {a0 : Option Addr} {len cap : Nat} {d : DataW H} {p : List MemPlace}
    (h : DataW.Trod enc P w 0 (fun _ => true) true t (.slice a0 len cap) d p) (hlt : ∀ x ∈ p, x.block < w.heap.size) :
    ∃ l : List It, Reads w w.heap.size 5 a0 len (cellsT l) ∧ (∀ i ∈ l, i.Ok) ∧ l.length = len ∧ len ≤ cap ∧ cap ≤ maxLen := by
  obtain ⟨fuel, hf⟩ := h
  rcases open_slice_fields ht he hone (by rw [hC]; rfl) hf with ⟨hcs, _⟩ | ⟨a, l, c, m, D, Pl, hcs, _, hl, hm, hmm, hx, hi⟩
  · simp [Value.cells] at hcs
    obtain ⟨rfl, rfl, rfl⟩ := hcs
    exact ⟨[], Reads.none_, by simp, rfl, Nat.le_refl _, by simp [maxLen]⟩
  · simp [Value.cells] at hcs
    obtain ⟨rfl, rfl, rfl⟩ := hcs
    simp at hmm
    subst hmm
    obtain ⟨xs, hxl, hxs⟩ := exists_list (fun i (x : It) => x.Ok ∧ ∀ j u, x.vals[j]? = some u → w.cell? (a.add (i * 5 + j)) = some u) m (fun i hic => by
      obtain ⟨ys, n, _, _, _, hfd⟩ := hi i hic
      obtain ⟨v0, y0, c0, _, q0⟩ := hfd 0 _ rfl
      obtain ⟨v1, y1, c1, _, q1⟩ := hfd 1 _ rfl
      obtain ⟨v2, y2, c2, _, q2⟩ := hfd 2 _ rfl
      obtain ⟨v3, y3, c3, _, q3⟩ := hfd 3 _ rfl
      obtain ⟨v4, y4, c4, _, q4⟩ := hfd 4 _ rfl
      obtain ⟨n0, e0, _, w0⟩ := DataW.trod_int h0 q0
      obtain ⟨n1, e1, _, w1⟩ := DataW.trod_int h1 q1
      obtain ⟨n2, e2, _, w2⟩ := DataW.trod_int h3 q2
      obtain ⟨n3, e3, _, w3⟩ := DataW.trod_int h0 q3
      obtain ⟨n4, e4, _, w4⟩ := DataW.trod_int h0 q4
      simp at e0 e1 e2 e3 e4
      subst e0; subst e1; subst e2; subst e3; subst e4
      obtain ⟨m1, rfl, b1⟩ := nat_u16 w1
      obtain ⟨m2, rfl, b2⟩ := nat_u32 w2
      refine ⟨⟨n0, m1, m2, n3, n4⟩, ⟨int_of_wf w0, b1, b2, int_of_wf w3, int_of_wf w4⟩, fun j u hu => ?_⟩
      have hj : j < 5 := by have := (List.getElem?_eq_some_iff.1 hu).1; simpa [It.vals] using this
      match j, hj with
      | 0, _ => simp [It.vals] at hu; subst hu; exact c0
      | 1, _ => simp [It.vals] at hu; subst hu; exact c1
      | 2, _ => simp [It.vals] at hu; subst hu; exact c2
      | 3, _ => simp [It.vals] at hu; subst hu; exact c3
      | 4, _ => simp [It.vals] at hu; subst hu; exact c4)
    refine ⟨xs.take len, ⟨by rw [cellsT_length]; simp; omega, fun hpos => ⟨a, rfl, ?_, ?_⟩⟩, ?_, by simp; omega, hl, hm⟩
    · refine hlt (.cell a.block a.off) ?_
      simp only [Prod.mk.injEq] at hx
      rw [hx.2]
      refine List.mem_append.2 (.inl ?_)
      unfold MemPlace.row
      exact List.mem_map.2 ⟨0, by simp [itemFields]; omega, by simp⟩
    · intro j u hu
      have hj := (List.getElem?_eq_some_iff.1 hu).1
      rw [cellsT_length] at hj
      simp at hj
      have hg := cellsT_get (xs.take len) (j / 5) (j % 5) (by simp; omega) (by omega)
      rw [show j / 5 * 5 + j % 5 = j by omega] at hg
      rw [hu] at hg
      have hgd : (xs.take len).getD (j / 5) default = xs[j / 5]'(by omega) := by
        simp [List.getD, show j / 5 < len by omega, show j / 5 < xs.length by omega]
      rw [hgd] at hg
      have := (hxs (j / 5) (by omega)).2 (j % 5) u hg.symm
      rwa [show j / 5 * 5 + j % 5 = j by omega] at this
    · intro i hi'
      obtain ⟨k, hk, rfl⟩ := List.getElem_of_mem (List.mem_of_mem_take hi')
      exact (hxs k hk).1
end
end Go.Proofs.Ytgalkidhgjgbhaa
