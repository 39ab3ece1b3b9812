/-
  A map whose keys are ints, anywhere in memory: what is put into it, and looked up in it.
-/
import Derived.Test.YtpinnockcnmofaaGreatDoorIntMaps
import Derived.Laws.AppendOwn
namespace Go.Proofs.YtpinnockcnmofaaGreatDoor
open Go.RowKit
set_option linter.unusedVariables false
variable {P : Program}

def MapRow (W : World) (r : Nat) (l : List (Int × Value)) : Prop := W.heap[r]? = some (.map (IntMaps.lit .i64 l) l.length)
section
variable {W W' : World} {r : Nat} {l : List (Int × Value)}
theorem MapRow.lt (h : MapRow W r l) : r < W.heap.size := (Array.getElem?_eq_some_iff.1 h).1
theorem MapRow.of_heap (h : MapRow W r l) (e : W'.heap[r]? = W.heap[r]?) : MapRow W' r l := e.trans h
theorem MapRow.below {B : Nat} (h : MapRow W r l) (hb : Below B W W') (hr : r < B) : MapRow W' r l := h.of_heap (hb.block r hr)
theorem MapRow.alloc (h : MapRow W r l) (o : Obj) : MapRow (W.alloc o) r l := h.of_heap (Below.heap_alloc W o r h.lt)
theorem MapRow.drew (h : MapRow W r l) : MapRow W.drew r l := h
theorem MapRow.setCell (h : MapRow W r l) {p : Addr} (hp : r ≠ p.block) (u : Value) : MapRow (W.setCell p u) r l := h.of_heap (Below.heap_setCell W p u r hp)
theorem MapRow.grown {row : Option Nat} (h : MapRow W r l) (hb : W.grownBy W' row) (hg : some r ≠ row) : MapRow W' r l := h.of_heap (hb.block r h.lt hg)
theorem MapRow.new (w : World) : MapRow (w.alloc (.map #[] 0)) w.heap.size [] := heap_alloc_new w _
end

theorem run_lookup_row {W : World} {r : Nat} {l : List (Int × Value)} (h : MapRow W r l) (t kt et : TypeId) (ht : P.underlying t = some (.map kt et)) (hk : P.underlying kt = some (.int .i64)) (k : Int) (z : Value) (hw : (Lit.int .i64 k).wf = true) (hz : (zeroValue et).run P W = .ok z W) :
    (Instr.lookup t (.map (some r)) (.int .i64 k) false).run P W = .ok ((IntMaps.look l k).getD z) W := by
  obtain ⟨x, h1, h2⟩ := IntMaps.findNow_lit .i64 k l 0 0
  have hf : (Instr.findKey kt (.int .i64 k) (IntMaps.lit .i64 l).toList).run P W = .ok x W := by
    have h1' : Instr.findNow (.int .i64) (.int .i64 k) (IntMaps.lit .i64 l).toList 0 = some x := by simpa [IntMaps.lit] using h1
    simp [Instr.findKey, run_underlying hk, h1', Result.andThen]
  have hc := fun b => (Maps.int_keyed hk).check W b (Maps.keyOf_int_mk hk hw)
  rw [← h2]
  cases x with
  | none => simp [Instr.lookup, run_underlying ht, MapKept.run_getObj_map h, hc, hf, hz, Result.andThen]
  | some p => simp [Instr.lookup, run_underlying ht, MapKept.run_getObj_map h, hc, hf, Result.andThen]

theorem run_put_row {W : World} {r : Nat} {l : List (Int × Value)} (h : MapRow W r l) (t kt et : TypeId) (ht : P.underlying t = some (.map kt et)) (hk : P.underlying kt = some (.int .i64)) (k : Int) (v : Value) (hw : (Lit.int .i64 k).wf = true) (hn : IntMaps.look l k = none) :
    ∃ W', (Instr.mapUpdate t (.map (some r)) (.int .i64 k) v).run P W = .ok () W' ∧ MapRow W' r (l ++ [(k, v)]) ∧ W.grownBy W' (some r) := by
  obtain ⟨x, h1, h2⟩ := IntMaps.findNow_lit .i64 k l 0 0
  rw [hn] at h2
  have hx : x = none := by cases x <;> simp_all
  subst hx
  have hf : (Instr.findKey kt (.int .i64 k) (IntMaps.lit .i64 l).toList).run P W = .ok none W := by
    have h1' : Instr.findNow (.int .i64) (.int .i64 k) (IntMaps.lit .i64 l).toList 0 = some none := by simpa [IntMaps.lit] using h1
    simp [Instr.findKey, run_underlying hk, h1', Result.andThen]
  have hc := (Maps.int_keyed hk).check W false (Maps.keyOf_int_mk hk hw)
  have hs := MapKept.run_setObj_map (P := P) (.map (IntMaps.lit .i64 (l ++ [(k, v)])) (l.length + 1)) h
  refine ⟨{ W with heap := W.heap.setIfInBounds r (.map (IntMaps.lit .i64 (l ++ [(k, v)])) (l.length + 1)) }, ?_, ?_, ?_⟩
  · simp only [Instr.mapUpdate, Sem.run_bind, run_underlying ht, Result.andThen, MapKept.run_getObj_map h, hc, hf, IntMaps.lit_push]
    exact hs
  · unfold MapRow
    simp [h.lt]
  · refine ⟨rfl, rfl, rfl, by simp, fun k' hk' hne => ?_⟩
    show (W.heap.setIfInBounds r _)[k']? = _
    rw [Array.getElem?_setIfInBounds_ne (fun e => hne (by rw [e]))]

theorem wpList_put_row {ops : Array Oper} {rest : List Oper} {o : Oper} {a : Act} {Q : Exit → Act → World → Prop} {W : World} (hgd : o.guard = none) (t : TypeId) (m x y : Operand) (ho : o.op = .mapUpdate t m x y) (kt et : TypeId) (ht : P.underlying t = some (.map kt et)) (hk : P.underlying kt = some (.int .i64))
    (r : Nat) (l : List (Int × Value)) (k : Int) (v : Value) (hm : a.eval m = .map (some r)) (hx : a.eval x = .int .i64 k) (hy : a.eval y = v) (h : MapRow W r l) (hw : (Lit.int .i64 k).wf = true) (hn : IntMaps.look l k = none)
    (hK : ∀ W', MapRow W' r (l ++ [(k, v)]) → W.grownBy W' (some r) → wpList P ops Q rest (a.put o.dst undef) W') : wpList P ops Q (o :: rest) a W := by
  refine wpList_plain hgd fun K hK' => ?_
  obtain ⟨W', hr, h1, h2⟩ := run_put_row (P := P) h t kt et ht hk k v hw hn
  unfold Oper.wp execOp
  simp only [ho, hm, hx, hy, Sem.run_bind, hr, Result.andThen]
  exact hK' _ _ (hK W' h1 h2)
end Go.Proofs.YtpinnockcnmofaaGreatDoor
