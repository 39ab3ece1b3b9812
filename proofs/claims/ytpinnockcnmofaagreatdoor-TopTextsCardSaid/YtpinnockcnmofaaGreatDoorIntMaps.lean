/-
  A map whose keys are integers, made by a literal: what it holds, and a look-up in it.
-/
import Derived.Test.YtpinnockcnmofaaGreatDoorWords
import Derived.MapKept
import Derived.Maps.Own
import Derived.ChangeMaps4
import Derived.Laws.Entries
import Derived.WalkKit
import Derived.Carry
namespace Go.Proofs.YtpinnockcnmofaaGreatDoor
open Go.RowKit
namespace IntMaps
variable {P : Program}

def entry (q : IntKind) (p : (Int × Value) × Nat) : MapEntry := { key := .int q p.1.1, val := p.1.2, born := p.2 }
def lit (q : IntKind) (l : List (Int × Value)) : Array MapEntry := (l.zipIdx.map (entry q)).toArray
def look (l : List (Int × Value)) (k : Int) : Option Value := (l.find? (fun p => p.1 == k)).map (·.2)

theorem lit_push (q : IntKind) (l : List (Int × Value)) (k : Int) (v : Value) : (lit q l).push { key := .int q k, val := v, born := l.length } = lit q (l ++ [(k, v)]) := by
  unfold lit
  rw [List.push_toArray, List.zipIdx_append]
  simp [entry]

theorem findNow_lit (q : IntKind) (k : Int) : ∀ (l : List (Int × Value)) (i j : Nat), ∃ r, Instr.findNow (.int q) (.int q k) ((l.zipIdx j).map (entry q)) i = some r ∧ r.map (·.2) = look l k := by
  intro l
  induction l with
  | nil => intro i j; exact ⟨none, rfl, rfl⟩
  | cons p l ih =>
    intro i j
    by_cases h : p.1 = k
    · refine ⟨some (i, p.2), ?_, ?_⟩
      · simp [List.zipIdx_cons, Instr.findNow, Instr.sameNow, entry, h]
      · simp [look, h]
    · obtain ⟨r, h1, h2⟩ := ih (i + 1) (j + 1)
      refine ⟨r, ?_, ?_⟩
      · have hk : (k == p.1) = false := by simp; exact fun e => h e.symm
        simp only [List.zipIdx_cons, List.map_cons, Instr.findNow, entry, Instr.sameNow, if_true, hk]
        exact h1
      · rw [h2]
        have hk : (p.1 == k) = false := by simpa using h
        simp [look, hk]

theorem run_insert (t kt et : TypeId) (q : IntKind) (ht : P.underlying t = some (.map kt et)) (hk : P.underlying kt = some (.int q)) (w : World) (l : List (Int × Value)) (k : Int) (v : Value) (hw : (Lit.int q k).wf = true) (hn : look l k = none) :
    (Instr.mapUpdate t (.map (some w.heap.size)) (.int q k) v).run P (w.alloc (.map (lit q l) l.length)) = .ok () (w.alloc (.map (lit q (l ++ [(k, v)])) (l ++ [(k, v)]).length)) := by
  obtain ⟨r, h1, h2⟩ := findNow_lit q k l 0 0
  rw [hn] at h2
  have hr : r = none := by cases r <;> simp_all
  subst hr
  have hb : (w.alloc (.map (lit q l) l.length)).heap[w.heap.size]? = some (.map (lit q l) l.length) := heap_alloc_new w _
  have hf : (Instr.findKey kt (.int q k) (lit q l).toList).run P (w.alloc (.map (lit q l) l.length)) = .ok none (w.alloc (.map (lit q l) l.length)) := by
    have h1' : Instr.findNow (.int q) (.int q k) (lit q l).toList 0 = some none := by simpa [lit] using h1
    simp [Instr.findKey, run_underlying hk, h1', Result.andThen]
  have hc := (Maps.int_keyed hk).check (w.alloc (.map (lit q l) l.length)) false (Maps.keyOf_int_mk hk hw)
  have hset : ChangeMaps.setBlock (w.alloc (.map (lit q l) l.length)) w.heap.size (.map (lit q (l ++ [(k, v)])) (l.length + 1)) = w.alloc (.map (lit q (l ++ [(k, v)])) (l.length + 1)) := by
    have hp : (w.heap.push (.map (lit q l) l.length)).setIfInBounds w.heap.size (.map (lit q (l ++ [(k, v)])) (l.length + 1)) = w.heap.push (.map (lit q (l ++ [(k, v)])) (l.length + 1)) := by
      apply Array.ext_getElem?
      intro i
      rw [Array.getElem?_setIfInBounds, Array.getElem?_push, Array.getElem?_push]
      by_cases h : w.heap.size = i
      · subst h; simp
      · rw [if_neg h, if_neg (fun e => h e.symm), if_neg (fun e => h e.symm)]
    exact congrArg (fun h => ({ w with heap := h } : World)) hp
  have hs : (setObj w.heap.size (.map (lit q (l ++ [(k, v)])) (l.length + 1))).run P (w.alloc (.map (lit q l) l.length)) = .ok () (w.alloc (.map (lit q (l ++ [(k, v)])) (l.length + 1))) := by
    rw [MapKept.run_setObj_map _ hb]
    exact congrArg _ hset
  simp only [Instr.mapUpdate, Sem.run_bind, run_underlying ht, Result.andThen, MapKept.run_getObj_map hb, hc, hf, lit_push, List.length_append, List.length_cons, List.length_nil]
  exact hs

theorem run_lookup (t kt et : TypeId) (q : IntKind) (ht : P.underlying t = some (.map kt et)) (hk : P.underlying kt = some (.int q)) (w : World) (r : Nat) (l : List (Int × Value)) (n : Nat) (k : Int) (z : Value)
    (hw : (Lit.int q k).wf = true) (hz : (zeroValue et).run P w = .ok z w) (hb : w.heap[r]? = some (.map (lit q l) n)) :
    (Instr.lookup t (.map (some r)) (.int q k) true).run P w = .ok (.tuple #[(look l k).getD z, .bool (look l k).isSome]) w := by
  obtain ⟨x, h1, h2⟩ := findNow_lit q k l 0 0
  have hf : (Instr.findKey kt (.int q k) (lit q l).toList).run P w = .ok x w := by
    have h1' : Instr.findNow (.int q) (.int q k) (lit q l).toList 0 = some x := by simpa [lit] using h1
    simp [Instr.findKey, run_underlying hk, h1', Result.andThen]
  have hc := fun b => (Maps.int_keyed hk).check w b (Maps.keyOf_int_mk hk hw)
  rw [← h2]
  cases x with
  | none => simp [Instr.lookup, run_underlying ht, MapKept.run_getObj_map hb, hc, hf, hz, Result.andThen]
  | some p => simp [Instr.lookup, run_underlying ht, MapKept.run_getObj_map hb, hc, hf, Result.andThen]

theorem wpList_insert {ops : Array Oper} {rest : List Oper} {o : Oper} {a : Act} {Q : Exit → Act → World → Prop} (hgd : o.guard = none) (t : TypeId) (m : Operand) (q : IntKind) (k : Int) (v : Value)
    (ho : o.op = .insert t m (.const (.int q k)) (.const v)) (kt et : TypeId) (ht : P.underlying t = some (.map kt et)) (hk : P.underlying kt = some (.int q)) (w : World) (l : List (Int × Value))
    (hw : (Lit.int q k).wf = true) (hm : a.eval m = .map (some w.heap.size)) (hn : look l k = none)
    (h : wpList P ops Q rest (a.put o.dst undef) (w.alloc (.map (lit q (l ++ [(k, v)])) (l ++ [(k, v)]).length))) :
    wpList P ops Q (o :: rest) a (w.alloc (.map (lit q l) l.length)) := by
  refine wpList_plain hgd fun K hK => ?_
  have hr := run_insert (P := P) t kt et q ht hk w l k v hw hn
  have e1 : a.eval (.const (.int q k)) = .int q k := rfl
  have e2 : a.eval (.const v) = v := rfl
  unfold Oper.wp execOp
  simp only [ho, hm, e1, e2, Sem.run_bind, hr, Result.andThen]
  exact hK _ _ h

theorem wpList_make {ops : Array Oper} {rest : List Oper} {o : Oper} {a : Act} {Q : Exit → Act → World → Prop} (hgd : o.guard = none) (t : TypeId) (ho : o.op = .makeMap t none) (q : IntKind) (w : World)
    (h : wpList P ops Q rest (a.put o.dst (.map (some w.heap.size))) (w.alloc (.map (lit q []) ([] : List (Int × Value)).length))) : wpList P ops Q (o :: rest) a w := by
  refine wpList_plain hgd fun K hK => ?_
  have hr := run_makeMap (P := P) t w
  unfold Oper.wp execOp
  simp only [ho, Option.map_none, Sem.run_bind, hr, Result.andThen]
  exact hK _ _ h

theorem wpList_lookup {ops : Array Oper} {rest : List Oper} {o : Oper} {a : Act} {Q : Exit → Act → World → Prop} (hgd : o.guard = none) (t : TypeId) (m x : Operand) (ho : o.op = .lookup t m x true) (kt et : TypeId) (q : IntKind)
    (ht : P.underlying t = some (.map kt et)) (hk : P.underlying kt = some (.int q)) (w : World) (r : Nat) (l : List (Int × Value)) (n : Nat) (k : Int) (z : Value) (res : Option Value)
    (hm : a.eval m = .map (some r)) (hx : a.eval x = .int q k) (hw : (Lit.int q k).wf = true) (hz : ∀ w, (zeroValue et).run P w = .ok z w) (hb : w.heap[r]? = some (.map (lit q l) n)) (hl : look l k = res)
    (h : wpList P ops Q rest (a.put o.dst (.tuple #[res.getD z, .bool res.isSome])) w) : wpList P ops Q (o :: rest) a w := by
  refine wpList_plain hgd fun K hK => ?_
  have hr := run_lookup (P := P) t kt et q ht hk w r l n k z hw (hz w) hb
  rw [hl] at hr
  unfold Oper.wp execOp
  simp only [ho, hm, hx, Sem.run_bind, hr, Result.andThen]
  exact hK _ _ h
end IntMaps
end Go.Proofs.YtpinnockcnmofaaGreatDoor
