/-
  Arguments that came in, opened: slices of bytes, slices of instructions; structs by value.
-/
import Derived.Test.YtpinnockcnmofaaGreatDoorData
import Derived.Deep.Slices
import Derived.Deep.Fields
import Derived.ChangeSame
import Derived.Lib.SmallJoins
namespace Go.Proofs.YtpinnockcnmofaaGreatDoor
open Go.RowKit Go.ChangeShapes Go.WideShapes Go.Deep

section
variable {H : Type} {enc : TypeId × Value → H} {P : Program} {w : World} {base : Nat} {spare : Nat → Bool} {held : Bool}
theorem open_slice_fields {t e : TypeId} {fs : Array Field} {fuel : Nat} {cs : List Value} {x : DataW H × List MemPlace} (ht : P.underlying t = some (.slice e)) (he : P.underlying e = some (.struct fs))
    (hone : oneCellFields P fs = true) (hC : P.cellsOf e = fs.size) (h : DataW.trod enc P w base spare held fuel t cs = some x) :
    (cs = [.slice none 0 0] ∧ x = (.nil, [])) ∨
    ∃ (a : Addr) (len cap m : Nat) (D : Nat → DataW H) (Pl : Nat → List MemPlace), cs = [.slice (some a) len cap] ∧ base ≤ a.block ∧ len ≤ cap ∧ cap ≤ maxLen ∧ m = (if spare a.block then cap else len) ∧
      x = (.slice ((List.range len).map D) ((List.range (m - len)).map fun j => D (len + j)), MemPlace.row a (m * fs.size) ++ (List.range m).flatMap Pl) ∧
      ∀ i, i < m → ∃ (ys : List (DataW H × List MemPlace)) (n : Nat), D i = .agg (ys.map (·.1)) ∧ Pl i = ys.flatMap (·.2) ∧ ys.length = fs.size ∧
        ∀ (j : Nat) (f : Field), fs[j]? = some f → ∃ (v : Value) (y : DataW H × List MemPlace), w.cell? (a.add (i * fs.size + j)) = some v ∧ ys[j]? = some y ∧ DataW.trod enc P w base spare held n f.type [v] = some y := by
  rcases open_slice ht h with h0 | ⟨a, len, cap, m, n, D, Pl, hcs, hb, hl, hm, hmm, hx, hi⟩
  · exact .inl h0
  · refine .inr ⟨a, len, cap, m, D, Pl, hcs, hb, hl, hm, hmm, by rw [hC] at hx; exact hx, fun i him => ?_⟩
    obtain ⟨cs', hc, ht'⟩ := hi i him
    rw [hC] at hc
    obtain ⟨ys, n', hn', hy, hlen, hyl, hf⟩ := DataW.trod_struct he ht'
    obtain ⟨_, hcl, hat⟩ := World.cells?_some hc
    simp only [Prod.mk.injEq] at hy
    refine ⟨ys, n', hy.1, hy.2, hyl, fun j f hj => ?_⟩
    obtain ⟨ho, hk⟩ := hone_of hone j f hj
    have hjl : j < fs.size := (Array.getElem?_eq_some_iff.1 hj).1
    have hcell := hat j hjl
    have hv : cs'[j]? = some (cs'[j]'(by omega)) := List.getElem?_eq_getElem (by omega)
    have h1 := hf j f hj
    rw [ho, hk] at h1
    have hone' : (cs'.drop j).take 1 = [cs'[j]'(by omega)] := by
      rw [List.drop_eq_getElem_cons (by omega)]
      rfl
    rw [hone'] at h1
    have hys : ys[j]? = some (ys[j]'(by omega)) := List.getElem?_eq_getElem (by omega)
    refine ⟨_, _, ?_, hys, h1.trans hys⟩
    rw [← Go.Deep.add_add, hcell, hv]
end
section
variable {H : Type} {enc : TypeId × Value → H} {P : Program} {w : World} {base : Nat} {spare : Nat → Bool} {held : Bool}
theorem open_agg5 {r : Reach} {b0 : Nat} {t : TypeId} {f0 f1 f2 f3 f4 : Field} {v : Value} {d : DataW H} {p : List MemPlace} (hs : P.underlying t = some (.struct #[f0, f1, f2, f3, f4])) (hone : oneCellFields P #[f0, f1, f2, f3, f4] = true) (hC : P.cellsOf t = 5)
    (hv : Value.okWide P w r b0 t v) (h : DataW.Trod enc P w base spare held t v d p) :
    ∃ (v0 v1 v2 v3 v4 : Value) (y0 y1 y2 y3 y4 : DataW H × List MemPlace) (n : Nat), v = .agg #[v0, v1, v2, v3, v4] ∧ d = .agg [y0.1, y1.1, y2.1, y3.1, y4.1] ∧ p = y0.2 ++ (y1.2 ++ (y2.2 ++ (y3.2 ++ y4.2))) ∧
      DataW.trod enc P w base spare held n f0.type [v0] = some y0 ∧ DataW.trod enc P w base spare held n f1.type [v1] = some y1 ∧ DataW.trod enc P w base spare held n f2.type [v2] = some y2 ∧ DataW.trod enc P w base spare held n f3.type [v3] = some y3 ∧ DataW.trod enc P w base spare held n f4.type [v4] = some y4 := by
  obtain ⟨cs, rfl, hsz⟩ := okWide_struct hs hv
  obtain ⟨l⟩ := cs
  match l, hsz.trans hC with
  | [c0, c1, c2, c3, c4], _ =>
    obtain ⟨fuel, hf⟩ := h
    obtain ⟨xs, n, _, hx, _, hlen, hg⟩ := DataW.trod_struct hs hf
    obtain ⟨o0, k0⟩ := hone_of hone 0 f0 rfl
    obtain ⟨o1, k1⟩ := hone_of hone 1 f1 rfl
    obtain ⟨o2, k2⟩ := hone_of hone 2 f2 rfl
    obtain ⟨o3, k3⟩ := hone_of hone 3 f3 rfl
    obtain ⟨o4, k4⟩ := hone_of hone 4 f4 rfl
    match xs, hlen with
    | [y0, y1, y2, y3, y4], _ =>
      simp only [Prod.mk.injEq] at hx
      exact ⟨c0, c1, c2, c3, c4, y0, y1, y2, y3, y4, n, rfl, by simpa using hx.1, by simpa using hx.2, by simpa [Value.cells, o0, k0] using hg 0 f0 rfl, by simpa [Value.cells, o1, k1] using hg 1 f1 rfl, by simpa [Value.cells, o2, k2] using hg 2 f2 rfl, by simpa [Value.cells, o3, k3] using hg 3 f3 rfl, by simpa [Value.cells, o4, k4] using hg 4 f4 rfl⟩

theorem open_agg6 {r : Reach} {b0 : Nat} {t : TypeId} {f0 f1 f2 f3 f4 f5 : Field} {v : Value} {d : DataW H} {p : List MemPlace} (hs : P.underlying t = some (.struct #[f0, f1, f2, f3, f4, f5])) (hone : oneCellFields P #[f0, f1, f2, f3, f4, f5] = true) (hC : P.cellsOf t = 6)
    (hv : Value.okWide P w r b0 t v) (h : DataW.Trod enc P w base spare held t v d p) :
    ∃ (v0 v1 v2 v3 v4 v5 : Value) (y0 y1 y2 y3 y4 y5 : DataW H × List MemPlace) (n : Nat), v = .agg #[v0, v1, v2, v3, v4, v5] ∧ d = .agg [y0.1, y1.1, y2.1, y3.1, y4.1, y5.1] ∧ p = y0.2 ++ (y1.2 ++ (y2.2 ++ (y3.2 ++ (y4.2 ++ y5.2)))) ∧
      DataW.trod enc P w base spare held n f0.type [v0] = some y0 ∧ DataW.trod enc P w base spare held n f1.type [v1] = some y1 ∧ DataW.trod enc P w base spare held n f2.type [v2] = some y2 ∧ DataW.trod enc P w base spare held n f3.type [v3] = some y3 ∧ DataW.trod enc P w base spare held n f4.type [v4] = some y4 ∧ DataW.trod enc P w base spare held n f5.type [v5] = some y5 := by
  obtain ⟨cs, rfl, hsz⟩ := okWide_struct hs hv
  obtain ⟨l⟩ := cs
  match l, hsz.trans hC with
  | [c0, c1, c2, c3, c4, c5], _ =>
    obtain ⟨fuel, hf⟩ := h
    obtain ⟨xs, n, _, hx, _, hlen, hg⟩ := DataW.trod_struct hs hf
    obtain ⟨o0, k0⟩ := hone_of hone 0 f0 rfl
    obtain ⟨o1, k1⟩ := hone_of hone 1 f1 rfl
    obtain ⟨o2, k2⟩ := hone_of hone 2 f2 rfl
    obtain ⟨o3, k3⟩ := hone_of hone 3 f3 rfl
    obtain ⟨o4, k4⟩ := hone_of hone 4 f4 rfl
    obtain ⟨o5, k5⟩ := hone_of hone 5 f5 rfl
    match xs, hlen with
    | [y0, y1, y2, y3, y4, y5], _ =>
      simp only [Prod.mk.injEq] at hx
      exact ⟨c0, c1, c2, c3, c4, c5, y0, y1, y2, y3, y4, y5, n, rfl, by simpa using hx.1, by simpa using hx.2, by simpa [Value.cells, o0, k0] using hg 0 f0 rfl, by simpa [Value.cells, o1, k1] using hg 1 f1 rfl, by simpa [Value.cells, o2, k2] using hg 2 f2 rfl, by simpa [Value.cells, o3, k3] using hg 3 f3 rfl, by simpa [Value.cells, o4, k4] using hg 4 f4 rfl, by simpa [Value.cells, o5, k5] using hg 5 f5 rfl⟩
end

section
variable {H : Type} {enc : TypeId × Value → H} {P : Program} {w : World}

theorem nat_of_wf {k : IntKind} {n : Int} (h : (Lit.int k n).wf = true) (hk : k.signed = false) : ∃ m : Nat, n = m ∧ m < 2 ^ k.bits := by
  simp only [Lit.wf, Bool.and_eq_true, decide_eq_true_eq, IntKind.min, IntKind.max, hk] at h
  obtain ⟨h1, h2⟩ := h
  refine ⟨n.toNat, by simp at h1; omega, ?_⟩
  simp at h1 h2
  have : ((2 ^ k.bits : Nat) : Int) = (2 : Int) ^ k.bits := by simp
  omega

theorem open_bytes {t e : TypeId} (ht : P.underlying t = some (.slice e)) (he : P.underlying e = some (.int .u8)) (hc : P.cellsOf e = 1) {a0 : Option Addr} {len cap : Nat} {d : DataW H} {p : List MemPlace}
    (h : DataW.Trod enc P w 0 (fun _ => true) true t (.slice a0 len cap) d p) (hlt : ∀ x ∈ p, x.block < w.heap.size) :
    ∃ l : List Nat, Reads w w.heap.size 1 a0 len (bytesV l) ∧ (∀ n ∈ l, n < 256) ∧ l.length = len ∧ len ≤ cap ∧ cap ≤ maxLen := by
  obtain ⟨fuel, hf⟩ := h
  rcases open_ints ht he hc hf with ⟨hcs, _⟩ | ⟨x, l, c, zs, hcs, _, hl, hm, hz, hx, hcell, hwz⟩
  · simp [Value.cells] at hcs
    obtain ⟨rfl, rfl, rfl⟩ := hcs
    exact ⟨[], Reads.none_, by simp, rfl, Nat.le_refl _, by simp [maxLen]⟩
  · simp [Value.cells] at hcs
    obtain ⟨rfl, rfl, rfl⟩ := hcs
    simp at hz
    have hnat : ∀ i, i < zs.length → ∃ m : Nat, zs.getD i 0 = (m : Int) ∧ m < 256 := fun i hi => by
      obtain ⟨m, hm1, hm2⟩ := nat_of_wf (hwz _ (List.getElem_mem hi)) rfl
      exact ⟨m, by simpa [hi] using hm1, hm2⟩
    refine ⟨(zs.take len).map Int.toNat, ⟨by simp [bytesV]; omega, fun h0 => ⟨x, rfl, ?_, ?_⟩⟩, ?_, by simp; omega, hl, hm⟩
    · have := hlt (.cell x.block x.off)
      refine this ?_
      simp only [Prod.mk.injEq] at hx
      rw [hx.2]
      unfold MemPlace.row
      exact List.mem_map.2 ⟨0, by simp; omega, by simp⟩
    · intro j u hu
      have hj : j < len := by
        have := (List.getElem?_eq_some_iff.1 hu).1
        simp [bytesV] at this; omega
      obtain ⟨m, hm1, hm2⟩ := hnat j (by omega)
      rw [hcell j (by omega), hm1]
      have : (bytesV ((zs.take len).map Int.toNat))[j]? = some (.int .u8 (m : Int)) := by
        have hzj : zs[j]'(by omega) = (m : Int) := by rw [← hm1]; simp [show j < zs.length by omega]
        simp [bytesV, hj, show j < zs.length by omega, hzj]
      rw [this] at hu
      exact hu
    · intro n hn
      obtain ⟨z, hz1, rfl⟩ := List.mem_map.1 hn
      obtain ⟨m, hm1, hm2⟩ := nat_of_wf (hwz z (List.mem_of_mem_take hz1)) rfl
      subst hm1
      have h256 : 2 ^ IntKind.u8.bits = 256 := rfl
      rw [h256] at hm2
      simpa using hm2

theorem nat_u8 {n : Int} (h : (Lit.int .u8 n).wf = true) : ∃ m : Nat, n = m ∧ m < 256 := nat_of_wf h rfl
theorem nat_u16 {n : Int} (h : (Lit.int .u16 n).wf = true) : ∃ m : Nat, n = m ∧ m < 65536 := nat_of_wf h rfl
theorem nat_u32 {n : Int} (h : (Lit.int .u32 n).wf = true) : ∃ m : Nat, n = m ∧ m < 4294967296 := nat_of_wf h rfl
theorem nat_u64 {n : Int} (h : (Lit.int .u64 n).wf = true) : ∃ m : Nat, n = m ∧ m < 18446744073709551616 := nat_of_wf h rfl

def instFields (t0 t1 t3 : TypeId) : Array Field :=
  #[{ name := "Code", type := t0, offset := 0, embedded := false, tag := "", pkgPath := "", byteOffset := 0 }, { name := "Jt", type := t1, offset := 1, embedded := false, tag := "", pkgPath := "", byteOffset := 2 },
    { name := "Jf", type := t1, offset := 2, embedded := false, tag := "", pkgPath := "", byteOffset := 3 }, { name := "K", type := t3, offset := 3, embedded := false, tag := "", pkgPath := "", byteOffset := 4 }]

theorem exists_list {α : Type} (p : Nat → α → Prop) : ∀ n : Nat, (∀ i, i < n → ∃ x, p i x) → ∃ l : List α, l.length = n ∧ ∀ i (h : i < l.length), p i l[i]
  | 0, _ => ⟨[], rfl, fun i h => absurd h (by simp)⟩
  | n + 1, h => by
    obtain ⟨l, hl, hp⟩ := exists_list p n (fun i hi => h i (by omega))
    obtain ⟨x, hx⟩ := h n (by omega)
    refine ⟨l ++ [x], by simp [hl], fun i hi => ?_⟩
    by_cases e : i < l.length
    · rw [List.getElem_append_left e]; exact hp i e
    · have : i = n := by simp at hi; omega
      subst this
      rw [List.getElem_append_right (by omega)]
      simpa [hl] using hx

theorem open_insts {t e t0 t1 t3 : TypeId} (ht : P.underlying t = some (.slice e)) (he : P.underlying e = some (.struct (instFields t0 t1 t3))) (h0 : P.underlying t0 = some (.int .u16)) (h1 : P.underlying t1 = some (.int .u8)) (h3 : P.underlying t3 = some (.int .u32))
    (hone : oneCellFields P (instFields t0 t1 t3) = true) (hC : P.cellsOf e = 4) {a0 : Option Addr} {len cap : Nat} {d : DataW H} {p : List MemPlace}
    (h : DataW.Trod enc P w 0 (fun _ => true) true t (.slice a0 len cap) d p) (hlt : ∀ x ∈ p, x.block < w.heap.size) :
    ∃ l : List I, Reads w w.heap.size 4 a0 len (cellsI l) ∧ (∀ i ∈ l, i.Ok) ∧ l.length = len ∧ len ≤ cap ∧ cap ≤ maxLen := by
  obtain ⟨fuel, hf⟩ := h
  rcases open_slice_fields ht he hone (by rw [hC]; rfl) hf with ⟨hcs, _⟩ | ⟨a, l, c, m, D, Pl, hcs, _, hl, hm, hmm, hx, hi⟩
  · simp [Value.cells] at hcs
    obtain ⟨rfl, rfl, rfl⟩ := hcs
    exact ⟨[], Reads.none_, by simp, rfl, Nat.le_refl _, by simp [maxLen]⟩
  · simp [Value.cells] at hcs
    obtain ⟨rfl, rfl, rfl⟩ := hcs
    simp at hmm
    subst hmm
    obtain ⟨xs, hxl, hxs⟩ := exists_list (fun i (x : I) => x.Ok ∧ ∀ j u, x.vals[j]? = some u → w.cell? (a.add (i * 4 + j)) = some u) m (fun i hic => by
      obtain ⟨ys, n, _, _, _, hfd⟩ := hi i hic
      obtain ⟨v0, y0, c0, _, q0⟩ := hfd 0 _ rfl
      obtain ⟨v1, y1, c1, _, q1⟩ := hfd 1 _ rfl
      obtain ⟨v2, y2, c2, _, q2⟩ := hfd 2 _ rfl
      obtain ⟨v3, y3, c3, _, q3⟩ := hfd 3 _ rfl
      obtain ⟨n0, e0, _, w0⟩ := DataW.trod_int h0 q0
      obtain ⟨n1, e1, _, w1⟩ := DataW.trod_int h1 q1
      obtain ⟨n2, e2, _, w2⟩ := DataW.trod_int h1 q2
      obtain ⟨n3, e3, _, w3⟩ := DataW.trod_int h3 q3
      simp at e0 e1 e2 e3
      subst e0; subst e1; subst e2; subst e3
      obtain ⟨m0, rfl, b0⟩ := nat_u16 w0
      obtain ⟨m1, rfl, b1⟩ := nat_u8 w1
      obtain ⟨m2, rfl, b2⟩ := nat_u8 w2
      obtain ⟨m3, rfl, b3⟩ := nat_u32 w3
      refine ⟨⟨m0, m1, m2, m3⟩, ⟨b0, b1, b2, b3⟩, fun j u hu => ?_⟩
      have hj : j < 4 := by have := (List.getElem?_eq_some_iff.1 hu).1; simpa [I.vals] using this
      match j, hj with
      | 0, _ => simp [I.vals] at hu; subst hu; exact c0
      | 1, _ => simp [I.vals] at hu; subst hu; exact c1
      | 2, _ => simp [I.vals] at hu; subst hu; exact c2
      | 3, _ => simp [I.vals] at hu; subst hu; exact c3)
    refine ⟨xs.take len, ⟨by rw [cellsI_length]; simp; omega, fun hpos => ⟨a, rfl, ?_, ?_⟩⟩, ?_, by simp; omega, hl, hm⟩
    · refine hlt (.cell a.block a.off) ?_
      simp only [Prod.mk.injEq] at hx
      rw [hx.2]
      refine List.mem_append.2 (.inl ?_)
      unfold MemPlace.row
      exact List.mem_map.2 ⟨0, by simp [instFields]; omega, by simp⟩
    · intro j u hu
      have hj := (List.getElem?_eq_some_iff.1 hu).1
      rw [cellsI_length] at hj
      simp at hj
      have hg := cellsI_get (xs.take len) (j / 4) (j % 4) (by simp; omega) (by omega)
      rw [show j / 4 * 4 + j % 4 = j by omega] at hg
      rw [hu] at hg
      have hgd : (xs.take len).getD (j / 4) default = xs[j / 4]'(by omega) := by
        simp [List.getD, show j / 4 < len by omega, show j / 4 < xs.length by omega]
      rw [hgd] at hg
      have := (hxs (j / 4) (by omega)).2 (j % 4) u hg.symm
      rwa [show j / 4 * 4 + j % 4 = j by omega] at this
    · intro i hi'
      obtain ⟨k, hk, rfl⟩ := List.getElem_of_mem (List.mem_of_mem_take hi')
      exact (hxs k hk).1

theorem int_of_wf {n : Int} (h : (Lit.int .i64 n).wf = true) : -9223372036854775808 ≤ n ∧ n ≤ 9223372036854775807 := by
  simp only [Lit.wf, Bool.and_eq_true, decide_eq_true_eq] at h
  have h1 : IntKind.i64.min = -9223372036854775808 := by decide
  have h2 : IntKind.i64.max = 9223372036854775807 := by decide
  omega

/-- Where a word is. -/
structure PlaceV where
  at_ : Int
  width : Int
  big : Bool
def PlaceV.val (p : PlaceV) : Value := .agg #[.int .i64 p.at_, .int .i64 p.width, .bool p.big]
def PlaceV.Ok (p : PlaceV) : Prop := (-9223372036854775808 ≤ p.at_ ∧ p.at_ ≤ 9223372036854775807) ∧ (-9223372036854775808 ≤ p.width ∧ p.width ≤ 9223372036854775807)

theorem open_place {t t0 t2 : TypeId} {n0 n1 n2 a0 a1 a2 p0 p1 p2 : String} {o0 o1 o2 y0 y1 y2 : Nat}
    (hs : P.underlying t = some (.struct #[{ name := n0, type := t0, offset := o0, embedded := false, tag := a0, pkgPath := p0, byteOffset := y0 }, { name := n1, type := t0, offset := o1, embedded := false, tag := a1, pkgPath := p1, byteOffset := y1 }, { name := n2, type := t2, offset := o2, embedded := false, tag := a2, pkgPath := p2, byteOffset := y2 }]))
    (h0 : P.underlying t0 = some (.int .i64)) (h2 : P.underlying t2 = some .bool) (hone : oneCellFields P #[{ name := n0, type := t0, offset := o0, embedded := false, tag := a0, pkgPath := p0, byteOffset := y0 }, { name := n1, type := t0, offset := o1, embedded := false, tag := a1, pkgPath := p1, byteOffset := y1 }, { name := n2, type := t2, offset := o2, embedded := false, tag := a2, pkgPath := p2, byteOffset := y2 }] = true) (hC : P.cellsOf t = 3)
    {r : Reach} {b0 base : Nat} {spare : Nat → Bool} {held : Bool} {v : Value} {d : DataW H} {p : List MemPlace} (hv : Value.okWide P w r b0 t v) (h : DataW.Trod enc P w base spare held t v d p) : ∃ x : PlaceV, x.Ok ∧ v = x.val := by
  obtain ⟨v0, v1, v2, y0, y1, y2, n, rfl, rfl, rfl, q0, q1, q2⟩ := Go.Joins.open_agg3 hs hone hC hv h
  obtain ⟨m0, e0, _, w0⟩ := DataW.trod_int h0 q0
  obtain ⟨m1, e1, _, w1⟩ := DataW.trod_int h0 q1
  obtain ⟨m2, e2, _⟩ := DataW.trod_bool h2 q2
  simp at e0 e1 e2
  subst e0; subst e1; subst e2
  exact ⟨⟨m0, m1, m2⟩, ⟨int_of_wf w0, int_of_wf w1⟩, rfl⟩
end
end Go.Proofs.YtpinnockcnmofaaGreatDoor
