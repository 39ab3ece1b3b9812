/-
  Equality of arrays of integers, and of records; the walk of strainerlaw05.of.
-/
import Derived.Test.YtlpakmlpnjfcoaaWalkRec
import Derived.Test.YtlpakmlpnjfcoaaGrow
namespace Go.Proofs.Ytlpakmlpnjfcoaa
open Go.RowKit
set_option linter.unusedVariables false

theorem eqItems_ints {P : Program} {e : TypeId} {q q' : IntKind} (hu : P.underlying e = some (.int q')) (hp : P.plainKey e = true) (hc : P.cellsOf e = 1) (d : Nat) (l1 l2 : List Int) (w : World) : ∀ is : List Nat, (∀ j ∈ is, j < l1.length ∧ j < l2.length) →
    (Op.eqItems (d + 1) e 1 (l1.map (Value.int q)).toArray (l2.map (Value.int q)).toArray is).run P w = .ok (is.all fun j => l1.getD j 0 == l2.getD j 0) w
  | [], _ => by simp [Op.eqItems]
  | j :: is, h => by
    obtain ⟨h1, h2⟩ := h j (by simp)
    have e1 : (l1.map (Value.int q)).toArray[j * 1]? = some (.int q (l1.getD j 0)) := by simp [h1]
    have e2 : (l2.map (Value.int q)).toArray[j * 1]? = some (.int q (l2.getD j 0)) := by simp [h2]
    have ih := eqItems_ints (q := q) hu hp hc d l1 l2 w is (fun k hk => h k (by simp [hk]))
    simp only [Op.eqItems, Sem.run_bind, run_part_plain w hp e1, run_part_plain w hp e2, Result.andThen_ok, run_equalIn_int w d e q q' _ _ hu]
    rw [List.all_cons]
    generalize (l1.getD j 0 == l2.getD j 0) = b
    cases b
    · rfl
    · exact ih
theorem all_range_eq (l1 l2 : List Int) (n : Nat) (h1 : l1.length = n) (h2 : l2.length = n) : ((List.range n).all fun j => l1.getD j 0 == l2.getD j 0) = decide (l1 = l2) := by
  rw [Bool.eq_iff_iff]
  simp only [List.all_eq_true, List.mem_range, beq_iff_eq, decide_eq_true_eq]
  constructor
  · intro h
    apply List.ext_getElem (by omega)
    intro i g1 g2
    have := h i (by omega)
    simpa [g1, g2] using this
  · rintro rfl j _; rfl
theorem run_equalIn_ints {P : Program} {t e : TypeId} {q q' : IntKind} {n : Nat} {i : TypeInfo} (ht : P.underlying t = some (.array n e)) (hi : P.info? e = some i) (hu : P.underlying e = some (.int q')) (hp : P.plainKey e = true) (hc : P.cellsOf e = 1)
    (d : Nat) (l1 l2 : List Int) (h1 : l1.length = n) (h2 : l2.length = n) (w : World) :
    (Op.equalIn (d + 2) t (.agg (l1.map (Value.int q)).toArray) (.agg (l2.map (Value.int q)).toArray)).run P w = .ok (decide (l1 = l2)) w := by
  rw [run_equalIn_array w (d + 1) _ _ ht hi, hc, eqItems_ints hu hp hc d l1 l2 w _ (fun j hj => by have := List.mem_range.1 hj; omega), all_range_eq l1 l2 n h1 h2]

theorem bytesV_ints (l : List Nat) : bytesV l = (l.map Int.ofNat).map (Value.int .u8) := by unfold bytesV; rw [List.map_map]; rfl
theorem u64sV_ints (l : List Nat) : u64sV l = (l.map Int.ofNat).map (Value.int .u64) := by unfold u64sV; rw [List.map_map]; rfl
theorem ofNat_inj (a b : List Nat) : decide (a.map Int.ofNat = b.map Int.ofNat) = decide (a = b) := by
  rw [Bool.eq_iff_iff]
  simp only [decide_eq_true_eq]
  refine ⟨fun h => ?_, fun h => by rw [h]⟩
  have := congrArg (List.map Int.toNat) h
  simpa [List.map_map, Function.comp_def] using this

set_option maxRecDepth 100000 in
/-- Two arrays of 64 bytes. -/
theorem run_eql_64 (a b : List Nat) (ha : a.length = 64) (hb : b.length = 64) (w : World) : (binOp .eql 71 (.agg (bytesV a).toArray) (.agg (bytesV b).toArray)).run Try.prog w = .ok (.bool (decide (a = b))) w := by
  obtain ⟨i0, hi0⟩ : ∃ i0, Try.prog.info? 5 = some i0 := ⟨_, rfl⟩
  rw [run_eql_struct, bytesV_ints, bytesV_ints, run_equalIn_ints (n := 64) (d := 9998) Try.underlying71 hi0 Try.underlying5 (by kernel_rfl) (by kernel_rfl) _ _ (by simp [ha]) (by simp [hb]) w, ofNat_inj]
  rfl

def recEq (x y : RecV) : Bool := decide (x.number = y.number) && (decide (x.arch = y.arch) && (decide (x.pointer = y.pointer) && decide (x.args = y.args)))
theorem recEq_iff (x y : RecV) : recEq x y = true ↔ x = y := by
  unfold recEq
  simp only [Bool.and_eq_true, decide_eq_true_eq]
  constructor
  · rintro ⟨h1, h2, h3, h4⟩
    cases x; cases y; simp_all
  · rintro rfl; simp
theorem recEq_self (x : RecV) : recEq x x = true := (recEq_iff x x).2 rfl

theorem eqFields_cons {P : Program} {w : World} (d : Nat) (xs ys : Array Value) (f : Field) (fs : List Field) (hn : f.name ≠ "_") {a b : Value} {r : Bool} (ha : (part f.type xs f.offset).run P w = .ok a w) (hb : (part f.type ys f.offset).run P w = .ok b w)
    (hr : (Op.equalIn d f.type a b).run P w = .ok r w) {s : Bool} (ht : (Op.eqFields d xs ys fs).run P w = .ok s w) : (Op.eqFields d xs ys (f :: fs)).run P w = .ok (r && s) w := by
  unfold Op.eqFields
  rw [if_pos hn]
  simp only [Sem.run_bind, ha, hb, hr, Result.andThen_ok]
  cases r
  · rfl
  · exact ht
theorem part_agg {P : Program} {w : World} {t e : TypeId} {n off size : Nat} {i : TypeInfo} (ht : P.underlying t = some (.array n e)) (hi : P.info? t = some i) (hs : P.cellsOf t = size) (cs : Array Value) : (part t cs off).run P w = .ok (.agg (cs.extract off (off + size))) w := by
  unfold part
  simp [isAgg, run_underlying ht, run_sizeOf w hi, hs, Result.andThen]
theorem rec_extract (x : RecV) (hx : x.args.length = 6) : x.cells.toArray.extract 3 (3 + 6) = (u64sV x.args).toArray := by
  unfold RecV.cells
  have : (u64sV x.args).length = 6 := by simp [u64sV, hx]
  rw [List.extract_toArray, List.extract_eq_take_drop]
  congr 1
  simp [List.take_of_length_le, this]
theorem recOf_fields {P : Program} {t0 t1 t2 : TypeId} {n0 n1 n2 n3 a0 a1 a2 a3 p0 p1 p2 p3 : String} {y0 y1 y2 y3 : Nat} {e0 e1 e2 e3' : Bool} (h0 : P.underlying t0 = some (.int .u32)) (h1 : P.underlying t1 = some (.int .u64)) (h2 : P.underlying t2 = some (.array 6 t1))
    (k0 : P.plainKey t0 = true) (k1 : P.plainKey t1 = true) (hc1 : P.cellsOf t1 = 1) (hc2 : P.cellsOf t2 = 6) {i1 i2 : TypeInfo} (hi1 : P.info? t1 = some i1) (hi2 : P.info? t2 = some i2) (hn0 : n0 ≠ "_") (hn1 : n1 ≠ "_") (hn2 : n2 ≠ "_") (hn3 : n3 ≠ "_") (d : Nat)
    (x y : RecV) (hx : x.Ok) (hy : y.Ok) (w : World) :
    (Op.eqFields (d + 2) x.cells.toArray y.cells.toArray [{ name := n0, type := t0, offset := 0, embedded := e0, tag := a0, pkgPath := p0, byteOffset := y0 }, { name := n1, type := t0, offset := 1, embedded := e1, tag := a1, pkgPath := p1, byteOffset := y1 }, { name := n2, type := t1, offset := 2, embedded := e2, tag := a2, pkgPath := p2, byteOffset := y2 }, { name := n3, type := t2, offset := 3, embedded := e3', tag := a3, pkgPath := p3, byteOffset := y3 }]).run P w = .ok (recEq x y) w := by
  have c : ∀ (x : RecV), (x.cells.toArray[0]? = some (.int .u32 x.number)) ∧ (x.cells.toArray[1]? = some (.int .u32 x.arch)) ∧ (x.cells.toArray[2]? = some (.int .u64 x.pointer)) := fun x => by simp [RecV.cells]
  obtain ⟨x0, x1, x2⟩ := c x
  obtain ⟨z0, z1, z2⟩ := c y
  have ia : ∀ q t (a b : Nat), P.underlying t = some (.int q) → (Op.equalIn (d + 2) t (.int q a) (.int q b)).run P w = .ok (decide (a = b)) w := fun q t a b h => by
    rw [run_equalIn_int w (d + 1) t q q _ _ h]
    congr 1
    rw [Bool.eq_iff_iff]
    simp only [beq_iff_eq, decide_eq_true_eq]
    omega
  have ex := rec_extract x hx.args
  have ey := rec_extract y hy.args
  have lx := hx.args
  have ly := hy.args
  unfold recEq
  generalize x.cells.toArray = X at *
  generalize y.cells.toArray = Y at *
  have e3 : (Op.equalIn (d + 2) t2 (.agg (X.extract 3 (3 + 6))) (.agg (Y.extract 3 (3 + 6)))).run P w = .ok (decide (x.args = y.args)) w := by
    rw [ex, ey, u64sV_ints, u64sV_ints, run_equalIn_ints h2 hi1 h1 k1 hc1 _ _ _ (by simp [lx]) (by simp [ly]) w, ofNat_inj]
  have f3 : (Op.eqFields (d + 2) X Y [{ name := n3, type := t2, offset := 3, embedded := e3', tag := a3, pkgPath := p3, byteOffset := y3 }]).run P w = .ok (decide (x.args = y.args)) w := by
    have := eqFields_cons (P := P) (w := w) (d + 2) X Y { name := n3, type := t2, offset := 3, embedded := e3', tag := a3, pkgPath := p3, byteOffset := y3 } [] hn3 (part_agg h2 hi2 hc2 X) (part_agg h2 hi2 hc2 Y) e3 (s := true) (by simp [Op.eqFields])
    rwa [Bool.and_true] at this
  have f2 := eqFields_cons (P := P) (w := w) (d + 2) X Y { name := n2, type := t1, offset := 2, embedded := e2, tag := a2, pkgPath := p2, byteOffset := y2 } _ hn2 (run_part_plain w k1 x2) (run_part_plain w k1 z2) (ia .u64 t1 x.pointer y.pointer h1) f3
  have f1 := eqFields_cons (P := P) (w := w) (d + 2) X Y { name := n1, type := t0, offset := 1, embedded := e1, tag := a1, pkgPath := p1, byteOffset := y1 } _ hn1 (run_part_plain w k0 x1) (run_part_plain w k0 z1) (ia .u32 t0 x.arch y.arch h0) f2
  have f0 := eqFields_cons (P := P) (w := w) (d + 2) X Y { name := n0, type := t0, offset := 0, embedded := e0, tag := a0, pkgPath := p0, byteOffset := y0 } _ hn0 (run_part_plain w k0 x0) (run_part_plain w k0 z0) (ia .u32 t0 x.number y.number h0) f1
  exact f0

set_option maxRecDepth 100000 in
theorem run_eql_recR (x y : RecV) (hx : x.Ok) (hy : y.Ok) (w : World) : (binOp .eql 68 x.val y.val).run Try.prog w = .ok (.bool (recEq x y)) w := by
  obtain ⟨i1, hi1⟩ : ∃ i0, Try.prog.info? 41 = some i0 := ⟨_, rfl⟩
  obtain ⟨i2, hi2⟩ : ∃ i0, Try.prog.info? 63 = some i0 := ⟨_, rfl⟩
  unfold RecV.val
  rw [run_eql_struct, run_equalIn_struct w 9999 _ _ _ Try.underlying68 (by kernel_rfl)]
  have e := recOf_fields (P := Try.prog) (n0 := "Number") (n1 := "Arch") (n2 := "Pointer") (n3 := "Args") (a0 := "") (a1 := "") (a2 := "") (a3 := "") (p0 := "") (p1 := "") (p2 := "") (p3 := "") (e0 := false) (e1 := false) (e2 := false) (e3' := false) (y0 := 0) (y1 := 4) (y2 := 8) (y3 := 16)
    Try.underlying53 Try.underlying41 Try.underlying63 (by kernel_rfl) (by kernel_rfl) (by kernel_rfl) (by kernel_rfl) hi1 hi2 (by decide) (by decide) (by decide) (by decide) 9997 x y hx hy w
  have hf : (Try.prog.fieldsOf 68).toList = [{ name := "Number", type := 53, offset := 0, embedded := false, tag := "", pkgPath := "", byteOffset := 0 }, { name := "Arch", type := 53, offset := 1, embedded := false, tag := "", pkgPath := "", byteOffset := 4 }, { name := "Pointer", type := 41, offset := 2, embedded := false, tag := "", pkgPath := "", byteOffset := 8 }, { name := "Args", type := 63, offset := 3, embedded := false, tag := "", pkgPath := "", byteOffset := 16 }] := by
    simp [Program.fieldsOf, Try.underlying68]
  rw [hf, e]
  rfl
set_option maxRecDepth 100000 in
theorem run_eql_recD (x y : RecV) (hx : x.Ok) (hy : y.Ok) (w : World) : (binOp .eql 65 x.val y.val).run Try.prog w = .ok (.bool (recEq x y)) w := by
  obtain ⟨i1, hi1⟩ : ∃ i0, Try.prog.info? 41 = some i0 := ⟨_, rfl⟩
  obtain ⟨i2, hi2⟩ : ∃ i0, Try.prog.info? 63 = some i0 := ⟨_, rfl⟩
  unfold RecV.val
  rw [run_eql_struct, run_equalIn_struct w 9999 _ _ _ Try.underlying65 (by kernel_rfl)]
  have e := recOf_fields (P := Try.prog) (n0 := "Number") (n1 := "Arch") (n2 := "Pointer") (n3 := "Args") (a0 := "") (a1 := "") (a2 := "") (a3 := "") (p0 := "") (p1 := "") (p2 := "") (p3 := "") (e0 := false) (e1 := false) (e2 := false) (e3' := false) (y0 := 0) (y1 := 4) (y2 := 8) (y3 := 16)
    Try.underlying53 Try.underlying41 Try.underlying63 (by kernel_rfl) (by kernel_rfl) (by kernel_rfl) (by kernel_rfl) hi1 hi2 (by decide) (by decide) (by decide) (by decide) 9997 x y hx hy w
  have hf : (Try.prog.fieldsOf 65).toList = [{ name := "Number", type := 53, offset := 0, embedded := false, tag := "", pkgPath := "", byteOffset := 0 }, { name := "Arch", type := 53, offset := 1, embedded := false, tag := "", pkgPath := "", byteOffset := 4 }, { name := "Pointer", type := 41, offset := 2, embedded := false, tag := "", pkgPath := "", byteOffset := 8 }, { name := "Args", type := 63, offset := 3, embedded := false, tag := "", pkgPath := "", byteOffset := 16 }] := by
    simp [Program.fieldsOf, Try.underlying65]
  rw [hf, e]
  rfl
end Go.Proofs.Ytlpakmlpnjfcoaa
