/-
  A region that draws its order, with calls and loads at its head and an append and an assignment at its end.
-/
import Derived.Test.YtgalkidhgjgbhaaAnyTail
import Derived.Deep.MidRow
namespace Go.Proofs.Ytgalkidhgjgbhaa
open Go.RowKit
set_option linter.unusedVariables false
namespace Any
variable {P : Program}

/-- **THE LAW, by kinds, with a tail that may write slots.** -/
theorem wp_region_tailD {id : Nat} {Q : Exit → Act → World → Prop} {l : List Oper} {a0 : Act} {w : World} (k : Nat) (hm : P.follows .mixedOrders = true) (S : Tmp → Kd) (J : Act → World → Prop) (hJ0 : J a0 w.drew) (D Dk : List Tmp) (hD : dsts l.toArray = D) (hDk : dsts (l.take k).toArray = Dk)
    (hsz : D.all (fun d => decide (d < a0.tmps.size)) = true) (hback : backB l.toArray = true) (hcov : coverB l.toArray k = true) (hk : k ≤ l.length)
    (steps : StepsTo P l.toArray Q (fun d v w => (S d).sat v w) J a0 w.drew k l)
    (done : ∀ (f : Tmp → Value) (w' : World), Grows w.drew w' → (∀ d, Dk.contains d = true → (S d).sat (f d) w') → wpList P l.toArray Q (l.drop k) { tmps := fill f D a0.tmps, defers := a0.defers } w') :
    (Code.region id l.toArray true).wp P Q a0 w := by
  refine wp_region_any hm ?_
  have hsz' : ∀ d ∈ dsts l.toArray, d < a0.tmps.size := fun d hd => by
    rw [hD] at hd
    simpa using List.all_eq_true.1 hsz d hd
  refine wpAny_head (k := k) (F := fun d v w => (S d).sat v w) (J := J) (a0 := a0) (w0 := w.drew) hcov (fun d v w w' hg h => (S d).mono v w w' hg h) hsz' (back_of hback) (by simpa using hk) (fun i o hi ho => stepsTo_of steps i o hi (by simpa using ho)) (fun a w' listed hh hj hall => ?_) _ _ _ _ ⟨by simp, fun j oj hj hl => ?_⟩ ?_ hJ0 (fun j h1 h2 => by simp only [Array.getD_eq_getD_getElem?, Array.getElem?_replicate, if_pos h2]; rfl) ?_
  · have hsh := hh.shape
    rw [hD] at hsh
    rw [hsh]
    have := done (fun d => a.tmps.getD d undef) w' hh.grows (fun d hd => ?_)
    · simpa using this
    · have hd' : d ∈ dsts (l.take k).toArray := by rw [hDk]; simpa using hd
      unfold dsts at hd'
      obtain ⟨o, ho, hod⟩ := List.mem_filterMap.1 hd'
      obtain ⟨j, hj⟩ := List.getElem?_of_mem ho
      have hj2 : (l.take k)[j]? = some o := by simpa using hj
      rw [List.getElem?_take] at hj2
      by_cases hjk : j < k
      · rw [if_pos hjk] at hj2
        exact hh.new j o d (by simpa using hj2) (hall j hjk) hod
      · rw [if_neg hjk] at hj2; cases hj2
  · have hjs : j < l.toArray.size := (Array.getElem?_eq_some_iff.1 hj).1
    simp only [Array.getD_eq_getD_getElem?, Array.getElem?_replicate, if_pos hjs] at hl
    cases hl
  · refine ⟨Grows.refl _, rfl, rfl, fun _ _ => rfl, fun j oj d hj hl => ?_⟩
    have hjs : j < l.toArray.size := (Array.getElem?_eq_some_iff.1 hj).1
    simp only [Array.getD_eq_getD_getElem?, Array.getElem?_replicate, if_pos hjs] at hl
    cases hl
  · have := List.countP_le_length (p := fun i => !(Array.replicate l.toArray.size false).getD i true) (l := List.range l.toArray.size)
    simpa using this

/-- What is kept: a slot that only the tail writes. -/
def Slot (t : Nat) (v : Value) (a : Act) (w : World) : Prop := a.tmps.getD t undef = v
theorem sj {ops : Array Oper} {Q : Exit → Act → World → Prop} {S : Tmp → Kd} {a0 : Act} {w0 : World} {o : Oper} {t : Nat} {v : Value} {d : Nat} (hd : o.dst = some d) (hne : d ≠ t) (h : St P ops Q S a0 w0 o) : StepJ P ops Q (fun d v w => (S d).sat v w) (Slot t v) a0 w0 o :=
  stepJ_of h (fun a w u w' hj _ => by rw [hd]; exact (put_other hne).trans hj)
theorem sj_move {ops : Array Oper} {Q : Exit → Act → World → Prop} {S : Tmp → Kd} {a0 : Act} {w0 : World} {o : Oper} {t : Nat} {v : Value} {d : Nat} (hg : o.guard = none) (ho : o.op = .move (.tmp t)) (hd : o.dst = some d) (hne : d ≠ t) (hS : S d = .eq v) : StepJ P ops Q (fun d v w => (S d).sat v w) (Slot t v) a0 w0 o := by
  intro a w h1 h2 h3 hj
  rw [if_pos (by simp [Region.wanted, hg])]
  unfold Oper.wp
  rw [run_copy (.inl ho)]
  refine ⟨_, rfl, fun d' hd' => ?_, Grows.refl _, ?_⟩
  · rw [hd] at hd'; cases hd'
    rw [hS]
    exact hj
  · rw [hd]; exact (put_other hne).trans hj
/-- A load by a pointer out of a slot of the region. -/
theorem sx_load_at {ops : Array Oper} {Q : Exit → Act → World → Prop} {S : Tmp → Kd} {a0 : Act} {w0 : World} {o : Oper} (d t : Tmp) (ty : TypeId) (p : Addr) (v : Value) (hw : Runs ops S o) (ho : o.op = .load ty (.tmp t)) (hd : o.dst = some d) (ht : (deps ops o).contains t = true) (hS1 : S t = .eq (.pointer (some p)))
    (hc : w0.cell? p = some v) (hr : ∀ w : World, w.cell? p = some v → (Instr.loadAt ty (.pointer (some p))).run P w = .ok v w) (hS : S d = .eq v) : St P ops Q S a0 w0 o :=
  st_run hw fun a w hc' => wp_value d hd (v := v) (by
    have e1 := hc'.at t ht
    rw [hS1] at e1
    have e2 : a.eval (.tmp t) = .pointer (some p) := e1
    unfold execOp
    simp only [ho, e2, Sem.run_bind, hr w ((hc'.grows.cell (block_lt_of_cell hc)).trans hc), Result.andThen]
    rfl) (by rw [hS]; rfl)
/-- A load of many cells in the middle of a block. -/
theorem sx_load_mid {ops : Array Oper} {Q : Exit → Act → World → Prop} {S : Tmp → Kd} {a0 : Act} {w0 : World} {o : Oper} (d t : Tmp) (ty : TypeId) (g off : Nat) (cs : List Value) (dd : TypeDesc) (hw : Runs ops S o) (ho : o.op = .load ty (.tmp t)) (hd : o.dst = some d) (ht : (deps ops o).contains t = true) (hS1 : S t = .eq (.pointer (some ⟨g, off, none⟩)))
    (hg : g < w0.heap.size) (hc : w0.rangeAt g off cs) (hu : P.underlying ty = some dd) (hdd : dd.isRow = true) (hi : (P.info? ty).map (·.size) = some cs.length) (hS : S d = .eq (.agg cs.toArray)) : St P ops Q S a0 w0 o :=
  st_run hw fun a w hc' => wp_value d hd (v := .agg cs.toArray) (by
    have e1 := hc'.at t ht
    rw [hS1] at e1
    have e2 : a.eval (.tmp t) = .pointer (some ⟨g, off, none⟩) := e1
    have hc2 : w.rangeAt g off cs := fun j v hv => (hc'.grows.cell (p := ⟨g, off + j, none⟩) hg).trans (hc j v hv)
    unfold execOp
    simp only [ho, e2, Sem.run_bind, run_loadAt_mid w g off ty cs dd hc2 hu hdd hi, Result.andThen]
    rfl) (by rw [hS]; rfl)
/-- An operation that reckons a value out of one slot of the region. -/
theorem sx_one {ops : Array Oper} {Q : Exit → Act → World → Prop} {S : Tmp → Kd} {a0 : Act} {w0 : World} {o : Oper} (d t : Tmp) (u v : Value) (hw : Runs ops S o) (hd : o.dst = some d) (ht : (deps ops o).contains t = true) (hS1 : S t = .eq u)
    (hr : ∀ (a : Act) (w : World), a.eval (.tmp t) = u → (execOp a.eval o).run P w = .ok (.value v) w) (hS : S d = .eq v) : St P ops Q S a0 w0 o :=
  st_run hw fun a w hc => wp_value d hd (v := v) (hr a w (by have e1 := hc.at t ht; rw [hS1] at e1; exact e1)) (by rw [hS]; rfl)
/-- An operation that reckons a value out of two slots of the region. -/
theorem sx_two {ops : Array Oper} {Q : Exit → Act → World → Prop} {S : Tmp → Kd} {a0 : Act} {w0 : World} {o : Oper} (d t t2 : Tmp) (u u2 v : Value) (hw : Runs ops S o) (hd : o.dst = some d) (ht : (deps ops o).contains t = true) (ht2 : (deps ops o).contains t2 = true) (hS1 : S t = .eq u) (hS2 : S t2 = .eq u2)
    (hr : ∀ (a : Act) (w : World), a.eval (.tmp t) = u → a.eval (.tmp t2) = u2 → (execOp a.eval o).run P w = .ok (.value v) w) (hS : S d = .eq v) : St P ops Q S a0 w0 o :=
  st_run hw fun a w hc => wp_value d hd (v := v) (hr a w (by have e1 := hc.at t ht; rw [hS1] at e1; exact e1) (by have e1 := hc.at t2 ht2; rw [hS2] at e1; exact e1)) (by rw [hS]; rfl)
/-- A slice literal, out of slots. -/
theorem sx_builtSlice {ops : Array Oper} {Q : Exit → Act → World → Prop} {S : Tmp → Kd} {a0 : Act} {w0 : World} {o : Oper} (d : Tmp) (t e : TypeId) (len size : Nat) (parts : Array (Nat × Operand)) (vals : Array (Nat × Value)) (cells : List Value) (hw : Runs ops S o) (ho : o.op = .buildSlice t len parts) (hd : o.dst = some d)
    (hp : ∀ (a : Act) (w : World), Ctx ops S a0 w0 o a w → (parts.map fun (i, x) => (i, a.eval x)) = vals) (hb : ∀ w, (Instr.buildSlice t len vals).run P w = .ok (.slice (some ⟨w.heap.size, 0, none⟩) len len) (w.alloc (.cells cells.toArray e))) (hl : cells.length = len * size)
    (hS : S d = .row size len cells) : St P ops Q S a0 w0 o :=
  st_run hw fun a w hc => by
    unfold Oper.wp execOp
    simp only [ho, hp a w hc, Sem.run_bind, hb w, Result.andThen_ok]
    refine ⟨_, rfl, fun d' hd' => ?_, (Grows.refl w).alloc _⟩
    rw [hd] at hd'
    cases hd'
    rw [hS]
    exact ⟨_, _, rfl, (reads_lit w cells e size len hl).more (by simp)⟩
end Any
end Go.Proofs.Ytgalkidhgjgbhaa
