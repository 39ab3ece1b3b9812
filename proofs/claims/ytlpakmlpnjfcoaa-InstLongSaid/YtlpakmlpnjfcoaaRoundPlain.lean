/-
  A region that draws its order, within a round of a range over a function, walked as outside of one: its head by facts about its slots, one tail behind.
-/
import Derived.Test.YtlpakmlpnjfcoaaAnyTail
import Derived.StillTail
import Derived.RangeFuncCalls
import Derived.RangeFuncWrites
import Derived.OwnWalkIn
namespace Go.Proofs.Ytlpakmlpnjfcoaa
open Go.RowKit
variable {P : Program}

theorem rowsIn_round {l n : Nat} {row : String} {args : Array Value} {w : World} {R : Value → World → Prop} (h : Rows P row args w R) : RowsIn (Fence.wide.inRound l) n P row args w R :=
  fun c cs _ => let ⟨v, w', r, s⟩ := h c cs; ⟨v, w', r, stepsIn_wide.2 s⟩
theorem Oper.wpIn_round {l n : Nat} {o : Oper} {a : Act} {w : World} {K : Act → World → Prop} {Q : Exit → Act → World → Prop} (hd : ∀ c, o.op ≠ .defer c) (h : o.wp P a w K Q) : o.wpIn (Fence.wide.inRound l) n P a w K Q := by
  refine ⟨fun _ _ => trivial, ?_⟩
  rw [Oper.semAt_plain _ _ _ hd]
  unfold Oper.wp at h
  generalize (execOp a.eval o).run P w = r at *
  cases r with
  | ok x w' =>
    cases x with
    | enter f args => exact ⟨(fun e => by cases e), CallsIn.inRound l (callsIn_wide.2 h)⟩
    | row row args => exact ⟨(fun e => by cases e), rowsIn_round h⟩
    | round => exact h.elim
    | _ => exact h
  | halt x w' => cases x <;> exact h
theorem wpAnyIn_round {l n : Nat} {md : Region.Mode} {ops : Array Oper} {Q : Exit → Act → World → Prop} (hd : ∀ (i : Nat) (o : Oper) (c : Call), ops[i]? = some o → o.op ≠ .defer c) (hQ : ¬ LetsOut Q) : ∀ (fuel : Nat) (listed : Array Bool) (a : Act) (w : World),
    wpAny P md ops Q fuel listed a w → wpAnyIn (Fence.wide.inRound l) n P md ops Q fuel listed a w
  | 0, _, _, _, h => h
  | fuel + 1, listed, a, w, h => ⟨h.1, fun i hi => by
    have h2 := h.2 i hi
    unfold wpOp at h2
    unfold wpOpIn
    split
    · rename_i ho; simp only [ho] at h2; exact wpAnyIn_round hd hQ fuel _ _ _ h2
    · rename_i o ho
      simp only [ho] at h2
      split
      · rename_i hw
        rw [if_pos hw] at h2
        rcases h2 with h2 | ⟨_, h2⟩
        · exact Oper.wpIn_mono (fun a w h => wpAnyIn_round hd hQ fuel _ a w h) (Oper.wpIn_round (fun c => hd i o c ho) h2)
        · exact (hQ h2).elim
      · rename_i hw
        rw [if_neg hw] at h2
        exact ⟨fun _ _ => trivial, wpAnyIn_round hd hQ fuel _ _ _ h2⟩⟩
def noDeferB (ops : Array Oper) : Bool := ops.all fun o => match o.op with | .defer _ => false | _ => true
theorem noDefer_of {ops : Array Oper} (h : noDeferB ops = true) (i : Nat) (o : Oper) (c : Call) (ho : ops[i]? = some o) : o.op ≠ .defer c := fun e => by
  unfold noDeferB at h
  rw [Array.all_eq_true_iff_forall_mem] at h
  have := h o (Array.mem_of_getElem? ho)
  rw [e] at this
  cases this
theorem notOut_ownG {α : Type} {B : Nat} {Kp : World → World → Prop} {I : List α → World → Prop} {Ix : Code → List α → World → Prop} {xs : List α} {W : World} : ¬ LetsOut (ownPostG B Kp I Ix xs W) := fun ⟨_, _, h⟩ => h

namespace Any
/-- **THE LAW, by kinds, with a tail that may write slots, within a round.** -/
theorem wpIn_round_tail {id r n' : Nat} {Q : Exit → Act → World → Prop} {l : List Oper} {a0 : Act} {w : World} (k : Nat) (hm : P.follows .mixedOrders = true) (S : Tmp → Kd) (D Dk : List Tmp) (hD : dsts l.toArray = D) (hDk : dsts (l.take k).toArray = Dk)
    (hsz : D.all (fun d => decide (d < a0.tmps.size)) = true) (hback : backB l.toArray = true) (hcov : coverB l.toArray k = true) (hk : k ≤ l.length) (hdef : noDeferB l.toArray = true) (hQ : ¬ LetsOut Q)
    (steps : StepsTo P l.toArray Q (fun d v w => (S d).sat v w) (fun _ _ => True) a0 w.drew k l)
    (done : ∀ (f : Tmp → Value) (w' : World), Grows w.drew w' → (∀ d, Dk.contains d = true → (S d).sat (f d) w') → wpList P l.toArray Q (l.drop k) { tmps := fill f D a0.tmps, defers := a0.defers } w') :
    (Code.region id l.toArray true).wpIn (Fence.wide.inRound r) n' P Q a0 w := by
  refine wpIn_region_any hm (wpAnyIn_round (fun i o c ho => noDefer_of hdef i o c ho) hQ _ _ _ _ ?_)
  have hsz' : ∀ d ∈ dsts l.toArray, d < a0.tmps.size := fun d hd => by
    rw [hD] at hd
    simpa using List.all_eq_true.1 hsz d hd
  refine wpAny_head (k := k) (F := fun d v w => (S d).sat v w) (J := fun _ _ => True) (a0 := a0) (w0 := w.drew) hcov (fun d v w w' hg h => (S d).mono v w w' hg h) hsz' (back_of hback) (by simpa using hk) (fun i o hi ho => stepsTo_of steps i o hi (by simpa using ho)) (fun a w' listed hh hj hall => ?_) _ _ _ _ ⟨by simp, fun j oj hj hl => ?_⟩ ?_ trivial (fun j h1 h2 => by simp only [Array.getD_eq_getD_getElem?, Array.getElem?_replicate, if_pos h2]; rfl) ?_
  · have hsh := hh.shape
    rw [hD] at hsh
    rw [hsh]
    have := done (fun d => a.tmps.getD d undef) w' hh.grows (fun d hd => ?_)
    · simpa using this
    · have hd' : d ∈ dsts (l.take k).toArray := by rw [hDk]; simpa using hd
      unfold dsts at hd'
      obtain ⟨o, ho, hod⟩ := List.mem_filterMap.1 hd'
      obtain ⟨j, hj⟩ := List.getElem?_of_mem ho
      have hj2 : (l.take k)[j]? = some o := by simpa using hj
      rw [List.getElem?_take] at hj2
      by_cases hjk : j < k
      · rw [if_pos hjk] at hj2
        exact hh.new j o d (by simpa using hj2) (hall j hjk) hod
      · rw [if_neg hjk] at hj2; cases hj2
  · have hjs : j < l.toArray.size := (Array.getElem?_eq_some_iff.1 hj).1
    simp only [Array.getD_eq_getD_getElem?, Array.getElem?_replicate, if_pos hjs] at hl
    cases hl
  · refine ⟨Grows.refl _, rfl, rfl, fun _ _ => rfl, fun j oj d hj hl => ?_⟩
    have hjs : j < l.toArray.size := (Array.getElem?_eq_some_iff.1 hj).1
    simp only [Array.getD_eq_getD_getElem?, Array.getElem?_replicate, if_pos hjs] at hl
    cases hl
  · have := List.countP_le_length (p := fun i => !(Array.replicate l.toArray.size false).getD i true) (l := List.range l.toArray.size)
    simpa using this
/-- An operation of the head, with nothing to be kept besides. -/
theorem st_j {ops : Array Oper} {Q : Exit → Act → World → Prop} {S : Tmp → Kd} {a0 : Act} {w0 : World} {o : Oper} (h : St P ops Q S a0 w0 o) : StepJ P ops Q (fun d v w => (S d).sat v w) (fun _ _ => True) a0 w0 o := stepJ_of h (fun _ _ _ _ _ _ => trivial)
/-- A load by a pointer that stood before. -/
theorem st_load_was {ops : Array Oper} {Q : Exit → Act → World → Prop} {S : Tmp → Kd} {a0 : Act} {w0 : World} {o : Oper} (d t : Tmp) (ty : TypeId) (p : Addr) (v : Value) (hw : Runs ops S o) (ho : o.op = .load ty (.tmp t)) (hd : o.dst = some d) (ht : (dsts ops).contains t = false) (hp : a0.tmps.getD t undef = .pointer (some p))
    (hc : w0.cell? p = some v) (hr : ∀ w : World, w.cell? p = some v → (Instr.loadAt ty (.pointer (some p))).run P w = .ok v w) (hS : S d = .eq v) : St P ops Q S a0 w0 o :=
  st_run hw fun a w hc' => wp_value d hd (v := v) (by
    have e1 := hc'.was t ht
    rw [hp] at e1
    unfold execOp
    simp only [ho, e1, Sem.run_bind, hr w ((hc'.grows.cell (block_lt_of_cell hc)).trans hc), Result.andThen]
    rfl) (by rw [hS]; rfl)
theorem st_load_at {ops : Array Oper} {Q : Exit → Act → World → Prop} {S : Tmp → Kd} {a0 : Act} {w0 : World} {o : Oper} (d t : Tmp) (ty : TypeId) (p : Addr) (v : Value) (hw : Runs ops S o) (ho : o.op = .load ty (.tmp t)) (hd : o.dst = some d) (ht : (deps ops o).contains t = true) (hS1 : S t = .eq (.pointer (some p)))
    (hc : w0.cell? p = some v) (hr : ∀ w : World, w.cell? p = some v → (Instr.loadAt ty (.pointer (some p))).run P w = .ok v w) (hS : S d = .eq v) : St P ops Q S a0 w0 o :=
  st_run hw fun a w hc' => wp_value d hd (v := v) (by
    have e1 := hc'.at t ht
    rw [hS1] at e1
    have e2 : a.eval (.tmp t) = .pointer (some p) := e1
    unfold execOp
    simp only [ho, e2, Sem.run_bind, hr w ((hc'.grows.cell (block_lt_of_cell hc)).trans hc), Result.andThen]
    rfl) (by rw [hS]; rfl)
/-- An operation that reckons a value out of one slot of the region. -/
theorem st_one {ops : Array Oper} {Q : Exit → Act → World → Prop} {S : Tmp → Kd} {a0 : Act} {w0 : World} {o : Oper} (d t : Tmp) (u v : Value) (hw : Runs ops S o) (hd : o.dst = some d) (ht : (deps ops o).contains t = true) (hS1 : S t = .eq u)
    (hr : ∀ (a : Act) (w : World), a.eval (.tmp t) = u → (execOp a.eval o).run P w = .ok (.value v) w) (hS : S d = .eq v) : St P ops Q S a0 w0 o :=
  st_run hw fun a w hc => wp_value d hd (v := v) (hr a w (by have e1 := hc.at t ht; rw [hS1] at e1; exact e1)) (by rw [hS]; rfl)
/-- A struct's value, out of slots. -/
theorem st_built {ops : Array Oper} {Q : Exit → Act → World → Prop} {S : Tmp → Kd} {a0 : Act} {w0 : World} {o : Oper} (d : Tmp) (t : TypeId) (parts : Array (Nat × Operand)) (vals : Array (Nat × Value)) (cells : Array Value) (hw : Runs ops S o) (ho : o.op = .build t parts) (hd : o.dst = some d)
    (hp : ∀ (a : Act) (w : World), Ctx ops S a0 w0 o a w → (parts.map fun (i, x) => (i, a.eval x)) = vals) (hb : ∀ w, (Instr.build t vals).run P w = .ok (.agg cells) w) (hS : S d = .eq (.agg cells)) : St P ops Q S a0 w0 o :=
  st_run hw fun a w hc => wp_value d hd (v := .agg cells) (by
    unfold execOp
    simp only [ho, hp a w hc, Sem.run_bind, hb w, Result.andThen]
    rfl) (by rw [hS]; rfl)
/-- A slice literal, out of slots. -/
theorem st_builtSlice {ops : Array Oper} {Q : Exit → Act → World → Prop} {S : Tmp → Kd} {a0 : Act} {w0 : World} {o : Oper} (d : Tmp) (t e : TypeId) (len size : Nat) (parts : Array (Nat × Operand)) (vals : Array (Nat × Value)) (cells : List Value) (hw : Runs ops S o) (ho : o.op = .buildSlice t len parts) (hd : o.dst = some d)
    (hp : ∀ (a : Act) (w : World), Ctx ops S a0 w0 o a w → (parts.map fun (i, x) => (i, a.eval x)) = vals) (hb : ∀ w, (Instr.buildSlice t len vals).run P w = .ok (.slice (some ⟨w.heap.size, 0, none⟩) len len) (w.alloc (.cells cells.toArray e))) (hl : cells.length = len * size)
    (hS : S d = .row size len cells) : St P ops Q S a0 w0 o :=
  st_run hw fun a w hc => by
    unfold Oper.wp execOp
    simp only [ho, hp a w hc, Sem.run_bind, hb w, Result.andThen_ok]
    refine ⟨_, rfl, fun d' hd' => ?_, (Grows.refl w).alloc _⟩
    rw [hd] at hd'
    cases hd'
    rw [hS]
    exact ⟨_, _, rfl, (reads_lit w cells e size len hl).more (by simp)⟩
end Any
end Go.Proofs.Ytlpakmlpnjfcoaa
