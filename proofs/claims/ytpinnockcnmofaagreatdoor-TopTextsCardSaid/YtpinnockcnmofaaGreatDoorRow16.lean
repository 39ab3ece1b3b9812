/-
  A row of cells in a block: what it begins with. A variable of a large array, made of noughts.
-/
import Derived.Test.YtpinnockcnmofaaGreatDoorData
import Derived.ChangeKeysEq
namespace Go.Proofs.YtpinnockcnmofaaGreatDoor
open Go.RowKit
set_option linter.unusedVariables false

/-- The block's cells begin with these. -/
def RowK (W : World) (g : Nat) (t : TypeId) (cap : Nat) (vs : List Value) : Prop := ∃ cur, W.heap[g]? = some (.cells cur t (0, 0)) ∧ cur.size = cap ∧ cur.toList.take vs.length = vs
section
variable {W W' : World} {g cap : Nat} {t : TypeId} {vs : List Value}
theorem RowK.len (h : RowK W g t cap vs) : vs.length ≤ cap := by
  obtain ⟨cur, _, hs, ht⟩ := h
  have := congrArg List.length ht
  rw [List.length_take] at this
  simp at this
  omega
theorem RowK.cell (h : RowK W g t cap vs) {k : Nat} {v : Value} (hk : vs[k]? = some v) : W.cell? ⟨g, k, none⟩ = some v := by
  obtain ⟨cur, hb, hs, ht⟩ := h
  rw [← ht] at hk
  rw [List.getElem?_take] at hk
  split at hk
  · simp only [World.cell?, hb]
    simpa using hk
  · cases hk
theorem RowK.frozen (h : RowK W g t cap vs) (k : Nat) : W.frozen? ⟨g, k, none⟩ = false := by
  obtain ⟨cur, hb, hs, ht⟩ := h
  simp [World.frozen?, hb]
theorem RowK.set_ (h : RowK W g t cap vs) (k : Nat) (v : Value) : RowK (W.setCell ⟨g, k, none⟩ v) g t cap (vs.set k v) := by
  obtain ⟨cur, hb, hs, ht⟩ := h
  refine ⟨_, heap_setCell_same _ _ _ _ _ _ hb, by simp [hs], ?_⟩
  rw [Array.toList_setIfInBounds, List.length_set, List.take_set, ht]
theorem RowK.of_heap (h : RowK W g t cap vs) (e : W'.heap[g]? = W.heap[g]?) : RowK W' g t cap vs := by
  obtain ⟨cur, hb, r⟩ := h
  exact ⟨cur, e.trans hb, r⟩
theorem RowK.lt (h : RowK W g t cap vs) : g < W.heap.size := by
  obtain ⟨cur, hb, r⟩ := h
  exact (Array.getElem?_eq_some_iff.1 hb).1
theorem RowK.below {B : Nat} (h : RowK W g t cap vs) (hb : Below B W W') (hg : g < B) : RowK W' g t cap vs := h.of_heap (hb.block g hg)
theorem RowK.alloc (h : RowK W g t cap vs) (o : Obj) : RowK (W.alloc o) g t cap vs := h.of_heap (Below.heap_alloc W o g h.lt)
theorem RowK.drew (h : RowK W g t cap vs) : RowK W.drew g t cap vs := h
theorem RowK.far (h : RowK W g t cap vs) {p : Addr} (hp : g ≠ p.block) (u : Value) : RowK (W.setCell p u) g t cap vs := h.of_heap (Below.heap_setCell W p u g hp)
theorem RowK.grown {row : Option Nat} (h : RowK W g t cap vs) (hb : W.grownBy W' row) (hg : some g ≠ row) : RowK W' g t cap vs := h.of_heap (hb.block g h.lt hg)
theorem RowK.reads (h : RowK W g t cap vs) : Reads W W.heap.size 1 (some ⟨g, 0, none⟩) vs.length vs := by
  refine ⟨by simp, fun _ => ⟨_, rfl, h.lt, fun j u hu => ?_⟩⟩
  have e : (⟨g, 0, none⟩ : Addr).add j = ⟨g, j, none⟩ := by unfold Addr.add; split <;> simp_all
  rw [e]
  exact h.cell hu
theorem RowK.new (W : World) (t : TypeId) (cs : Array Value) (vs : List Value) (h : cs.toList.take vs.length = vs) : RowK (W.alloc (.cells cs t)) W.heap.size t cs.size vs := ⟨cs, heap_alloc_new W _, rfl, h⟩
end

/-- A new variable, its cells not written out. -/
theorem wpList_alloc_zero {P : Program} {ops : Array Oper} {rest : List Oper} {o : Oper} {a : Act} {w : World} {Q : Exit → Act → World → Prop} (hgd : o.guard = none) (ty : TypeId) (ho : o.op = .alloc ty) (i : TypeInfo) (hi : P.info? ty = some i) (z : Value) (hz : i.zero = some z)
    (h : wpList P ops Q rest (a.put o.dst (.pointer (some ⟨w.heap.size, 0, none⟩))) (w.alloc (.cells z.cells ty))) : wpList P ops Q (o :: rest) a w := by
  refine wpList_plain hgd fun K hK => ?_
  unfold Oper.wp execOp
  have hrun : (zeroValue ty).run P w = .ok z w := by
    unfold zeroValue
    simp only [Sem.run_bind, run_typeInfo w hi, Result.andThen_ok, hz, Sem.run_pure]
  simp only [ho, Instr.alloc, Sem.run_bind, hrun, Result.andThen_ok]
  simp [go_sem]
  exact hK _ _ h
theorem RowK.toBlk {W : World} {g cap : Nat} {t : TypeId} {vs : List Value} (h : RowK W g t cap vs) : ∃ cs, cs.size = cap ∧ Blk W g t cs := by
  obtain ⟨cur, hb, hs, _⟩ := h
  exact ⟨cur, hs, hb⟩

def u16sV (l : List Nat) : List Value := l.map fun n : Nat => Value.int .u16 n
theorem u16sV_length (l : List Nat) : (u16sV l).length = l.length := by simp [u16sV]
theorem u16sV_set (l : List Nat) (k n : Nat) : (u16sV l).set k (.int .u16 n) = u16sV (l.set k n) := by unfold u16sV; rw [List.map_set]
theorem u16sV_get (l : List Nat) (k : Nat) (hk : k < l.length) : (u16sV l)[k]? = some (.int .u16 (l.getD k 0 : Nat)) := by simp [u16sV, hk]
theorem u16sV_one (l : List Nat) : ∀ u ∈ u16sV l, u.oneCell' = true := fun u hu => by
  obtain ⟨n, _, rfl⟩ := List.mem_map.1 hu; rfl
end Go.Proofs.YtpinnockcnmofaaGreatDoor
