/-
  More small laws for the slots of a region that draws its order.
-/
import Derived.Test.YtgalkidhgjgbhaaKinds
namespace Go.Proofs.Ytgalkidhgjgbhaa
open Go.RowKit
set_option linter.unusedVariables false
namespace Any
variable {P : Program} {ops : Array Oper} {Q : Exit → Act → World → Prop} {S : Tmp → Kd} {a0 : Act} {w0 : World}

theorem Ctx.eqv {o : Oper} {a : Act} {w : World} (h : Ctx ops S a0 w0 o a w) (t : Tmp) {v : Value} (ht : (deps ops o).contains t = true) (hS : S t = .eq v) : a.eval (.tmp t) = v := by
  have := h.at t ht
  rw [hS] at this
  exact this
/-- A load of a whole row, by a pointer that stood before. -/
theorem st_load_row {o : Oper} (d t : Tmp) (ty : TypeId) (g : Nat) (tt : TypeId) (cs : Array Value) (dd : TypeDesc) (hw : Runs ops S o) (ho : o.op = .load ty (.tmp t)) (hd : o.dst = some d) (ht : (dsts ops).contains t = false)
    (hp : a0.tmps.getD t undef = .pointer (some ⟨g, 0, none⟩)) (hb : w0.heap[g]? = some (.cells cs tt (0, 0))) (hu : P.underlying ty = some dd) (hdd : (match dd with | .struct _ | .array _ _ => true | _ => false) = true) (hi : (P.info? ty).map (·.size) = some cs.size)
    (hS : S d = .eq (.agg cs)) : St P ops Q S a0 w0 o :=
  st_run hw fun a w hc => by
    have e1 := hc.was t ht
    rw [hp] at e1
    have hlt : g < w0.heap.size := by
      rcases Nat.lt_or_ge g w0.heap.size with h | h
      · exact h
      · rw [Array.getElem?_eq_none h] at hb; cases hb
    have hb' : w.heap[g]? = some (.cells cs tt (0, 0)) := (hc.grows.block g hlt).trans hb
    refine wp_value d hd (v := .agg cs) ?_ (by rw [hS]; rfl)
    unfold execOp
    simp only [ho, e1, Instr.loadAt, Instr.sureAddr, Sem.run_bind, Sem.run_pure, Result.andThen_ok, run_loadVar_row w g tt ty cs (0, 0) dd hb' hu hdd hi]
/-- An operation on a slot that stood before. -/
theorem st_old1 {o : Oper} (d t : Tmp) (v u : Value) (hw : Runs ops S o) (hd : o.dst = some d) (ht : (dsts ops).contains t = false) (hp : a0.tmps.getD t undef = u)
    (hr : ∀ (a : Act) (w : World), a.eval (.tmp t) = u → (execOp a.eval o).run P w = .ok (.value v) w) (hS : ∀ w, Grows w0 w → (S d).sat v w) : St P ops Q S a0 w0 o :=
  st_run hw fun a w hc => wp_value d hd (hr a w (by rw [hc.was t ht, hp])) (hS w hc.grows)
/-- A call whose arguments are known. -/
theorem st_callv {o : Oper} (d : Tmp) (vs : Array Value) {f : FuncId} {xs : Array Operand} {ts : Array TypeId} (hw : Runs ops S o) (ho : o.op = .call { callee := .value (.func f), args := xs, argTypes := ts }) (hd : o.dst = some d) {fn : Func} (hf : P.funcs[f]? = some fn)
    (hn : (fn.name == "runtime.NumGoroutine") = false) (hb : fn.body.isNone = false) (hvs : ∀ (a : Act) (w : World), Ctx ops S a0 w0 o a w → xs.map a.eval = vs)
    (hc : ∀ w, Grows w0 w → Calls P f vs w fun e w' => ∃ v, e = .returned v ∧ (S d).sat v w' ∧ Grows w w') : St P ops Q S a0 w0 o :=
  st_run hw fun a w h => wp_call d hd ho hf hn hb (hvs a w h) (hc w h.grows)
end Any
end Go.Proofs.Ytgalkidhgjgbhaa
