/-
  What a slot of a region that draws its order holds, as a kind; one small law for each sort of operation.
-/
import Derived.Test.YtpinnockcnmofaaGreatDoorData
namespace Go.Proofs.YtpinnockcnmofaaGreatDoor
open Go.RowKit

theorem Grows.reads {w w' : World} (h : Grows w w') {size n : Nat} {A : Option Addr} {xs : List Value} (hr : Reads w w.heap.size size A n xs) : Reads w' w'.heap.size size A n xs := (hr.below h).more h.size

/-- A kind: what is said of a value in a world, and that new blocks do not change it. -/
structure Kd where
  sat : Value → World → Prop
  mono : ∀ v w w', Grows w w' → sat v w → sat v w'

def Kd.eq (v : Value) : Kd := ⟨fun u _ => u = v, fun _ _ _ _ h => h⟩
def Kd.any : Kd := ⟨fun _ _ => True, fun _ _ _ _ _ => trivial⟩
def IsRow (size : Nat) (n : Nat) (xs : List Value) (v : Value) (w : World) : Prop := ∃ A c, v = .slice A n c ∧ Reads w w.heap.size size A n xs
def Kd.row (size n : Nat) (xs : List Value) : Kd := ⟨IsRow size n xs, fun _ _ _ hg ⟨A, c, h1, h2⟩ => ⟨A, c, h1, hg.reads h2⟩⟩
/-- A row of a call's own. -/
def IsOwn (e : TypeId) (size n : Nat) (xs : List Value) (v : Value) (w : World) : Prop := w.ownsRow 0 e size v n xs
theorem own_grows {w w' : World} {B : Nat} {e : TypeId} {size n : Nat} {xs : List Value} {v : Value} (hg : Grows w w') (h : w.ownsRow B e size v n xs) : w'.ownsRow B e size v n xs := by
  refine ⟨h.1, ?_⟩
  rcases h.2 with h0 | ⟨g, cap, cur, h1, h2, h3, h4⟩
  · exact .inl h0
  · exact .inr ⟨g, cap, cur, h1, h2, (hg.block g (Array.getElem?_eq_some_iff.1 h3).1).trans h3, h4⟩
theorem own_zero {w : World} {B : Nat} {e : TypeId} {size n : Nat} {xs : List Value} {v : Value} (h : w.ownsRow B e size v n xs) : w.ownsRow 0 e size v n xs := by
  refine ⟨h.1, ?_⟩
  rcases h.2 with h0 | ⟨g, cap, cur, h1, h2, h3⟩
  · exact .inl h0
  · exact .inr ⟨g, cap, cur, h1, Nat.zero_le _, h3⟩
def Kd.own (e : TypeId) (size n : Nat) (xs : List Value) : Kd := ⟨IsOwn e size n xs, fun _ _ _ hg h => own_grows hg h⟩

def kdOf : List (Tmp × Kd) → Tmp → Kd
  | [], _ => .any
  | p :: l, d => if p.1 = d then p.2 else kdOf l d

namespace Any
variable {P : Program} {ops : Array Oper} {Q : Exit → Act → World → Prop} {S : Tmp → Kd} {a0 : Act} {w0 : World}

abbrev St (P : Program) (ops : Array Oper) (Q : Exit → Act → World → Prop) (S : Tmp → Kd) (a0 : Act) (w0 : World) (o : Oper) : Prop := Step P ops Q (fun d v w => (S d).sat v w) a0 w0 o

/-- What is known when an operation comes up. -/
structure Ctx (ops : Array Oper) (S : Tmp → Kd) (a0 : Act) (w0 : World) (o : Oper) (a : Act) (w : World) : Prop where
  grows : Grows w0 w
  old : ∀ t, t ∉ dsts ops → a.tmps.getD t undef = a0.tmps.getD t undef
  dep : ∀ d, d ∈ deps ops o → (S d).sat (a.tmps.getD d undef) w

theorem Ctx.at {o : Oper} {a : Act} {w : World} (h : Ctx ops S a0 w0 o a w) (t : Tmp) (ht : (deps ops o).contains t = true) : (S t).sat (a.eval (.tmp t)) w := h.dep t (by simpa using ht)
theorem Ctx.was {o : Oper} {a : Act} {w : World} (h : Ctx ops S a0 w0 o a w) (t : Tmp) (ht : (dsts ops).contains t = false) : a.eval (.tmp t) = a0.tmps.getD t undef := h.old t (by simpa using ht)

def guardB (ops : Array Oper) (o : Oper) : Option (Tmp × Bool) := o.guard.bind fun p => ((ops[p.1]?).bind (·.dst)).map fun d => (d, p.2)

theorem yielded_of {a : Act} {j : Nat} {g : Tmp} {b : Bool} (hj : (ops[j]?).bind (·.dst) = some g) (hv : a.tmps.getD g undef = .bool b) : yielded ops a.tmps j = some b := by
  unfold yielded
  rw [hj]
  simp only [Option.bind_some]
  have : a.tmps[g]? = some (.bool b) := by
    rw [Array.getD_eq_getD_getElem?] at hv
    cases h : a.tmps[g]? with
    | none => rw [h] at hv; simp [undef] at hv
    | some x => rw [h] at hv; simp at hv; rw [hv]
  rw [this]

/-- An operation is carried out: it has no guard, or the guard's slot is known. -/
def Runs (ops : Array Oper) (S : Tmp → Kd) (o : Oper) : Prop := o.guard = none ∨ ∃ j b g, o.guard = some (j, b) ∧ (ops[j]?).bind (·.dst) = some g ∧ (deps ops o).contains g = true ∧ S g = .eq (.bool b)
theorem Runs.plain {o : Oper} (h : o.guard = none) : Runs ops S o := .inl h
theorem Runs.known {o : Oper} {j : Nat} {b : Bool} (g : Tmp) (hg : o.guard = some (j, b)) (hj : (ops[j]?).bind (·.dst) = some g) (hd : (deps ops o).contains g = true) (hS : S g = .eq (.bool b)) : Runs ops S o := .inr ⟨j, b, g, hg, hj, hd, hS⟩

theorem st_run {o : Oper} (hw : Runs ops S o) (h : ∀ a w, Ctx ops S a0 w0 o a w → o.wp P a w (fun a' w' => ∃ v, a' = a.put o.dst v ∧ (∀ d, o.dst = some d → (S d).sat v w') ∧ Grows w w') Q) : St P ops Q S a0 w0 o := by
  intro a w h1 h2 h3
  have hwant : Region.wanted o (yielded ops a.tmps) = true := by
    rcases hw with hg | ⟨j, b, g, hg, hj, hd, hS⟩
    · simp [Region.wanted, hg]
    · have hv : (S g).sat (a.tmps.getD g undef) w := h3 g (by simpa using hd)
      rw [hS] at hv
      simp [Region.wanted, hg, yielded_of hj hv]
  rw [if_pos hwant]
  exact h a w ⟨h1, h2, h3⟩
theorem st_skip {o : Oper} {j : Nat} {b : Bool} (g : Tmp) (hg : o.guard = some (j, b)) (hj : (ops[j]?).bind (·.dst) = some g) (hd : (deps ops o).contains g = true) (hS : S g = .eq (.bool (!b)))
    (d : Tmp) (hdst : o.dst = some d) (hSd : S d = .eq undef ∨ S d = .any) : St P ops Q S a0 w0 o := by
  intro a w h1 h2 h3
  have hv : (S g).sat (a.tmps.getD g undef) w := h3 g (by simpa using hd)
  rw [hS] at hv
  rw [if_neg (by simp [Region.wanted, hg, yielded_of hj hv])]
  intro d' hd'
  rw [hdst] at hd'
  cases hd'
  rcases hSd with e | e <;> rw [e]
  · rfl
  · exact trivial

/-- An operation that reckons a value. -/
theorem wp_value {o : Oper} {a : Act} {w : World} (d : Tmp) (hd : o.dst = some d) {v : Value} (hr : (execOp a.eval o).run P w = .ok (.value v) w) (hS : (S d).sat v w) :
    o.wp P a w (fun a' w' => ∃ v, a' = a.put o.dst v ∧ (∀ d, o.dst = some d → (S d).sat v w') ∧ Grows w w') Q := by
  unfold Oper.wp
  rw [hr]
  exact ⟨v, rfl, fun d' hd' => by rw [hd] at hd'; cases hd'; exact hS, Grows.refl _⟩

theorem run_copy {o : Oper} {a : Act} {w : World} {x : Operand} (ho : o.op = .move x ∨ o.op = .assign x) : (execOp a.eval o).run P w = .ok (.value (a.eval x)) w := by
  rcases ho with ho | ho <;> (unfold execOp; simp only [ho]; rfl)
theorem run_pick {o : Oper} {a : Act} {w : World} {c x y : Operand} {b : Bool} (ho : o.op = .pick c x y) (hc : a.eval c = .bool b) : (execOp a.eval o).run P w = .ok (.value (if b then a.eval x else a.eval y)) w := by
  unfold execOp
  simp only [ho, hc]
  cases b <;> rfl
theorem run_convert_op {o : Oper} {a : Act} {w : World} {s d : TypeId} {x : Operand} {u v : Value} (ho : o.op = .convert s d x) (hx : a.eval x = u) (hr : (convert s d u).run P w = .ok v w) : (execOp a.eval o).run P w = .ok (.value v) w := by
  unfold execOp
  simp only [ho, hx, Sem.run_bind, hr, Result.andThen]
  rfl
theorem exec_call {o : Oper} {a : Act} {w : World} {f : FuncId} {xs : Array Operand} {ts : Array TypeId} (ho : o.op = .call { callee := .value (.func f), args := xs, argTypes := ts }) {fn : Func} (hf : P.funcs[f]? = some fn)
    (hn : (fn.name == "runtime.NumGoroutine") = false) (hb : fn.body.isNone = false) : (execOp a.eval o).run P w = .ok (.enter f (xs.map a.eval)) w := by
  have hn' : ¬ fn.name = "runtime.NumGoroutine" := by simpa using hn
  have hcf : (callFunc f (xs.map a.eval)).run P w = .ok (.enter f (xs.map a.eval)) w := by
    unfold callFunc
    simp [hf, hn']
    intro h0
    rw [h0] at hb
    cases hb
  unfold execOp
  simp only [ho]
  simp [go_sem, hcf]

/-- A call. -/
theorem wp_call {o : Oper} {a : Act} {w : World} (d : Tmp) (hd : o.dst = some d) {f : FuncId} {xs : Array Operand} {ts : Array TypeId} (ho : o.op = .call { callee := .value (.func f), args := xs, argTypes := ts }) {fn : Func} (hf : P.funcs[f]? = some fn)
    (hn : (fn.name == "runtime.NumGoroutine") = false) (hb : fn.body.isNone = false) {vs : Array Value} (hvs : xs.map a.eval = vs) (hc : Calls P f vs w fun e w' => ∃ v, e = .returned v ∧ (S d).sat v w' ∧ Grows w w') :
    o.wp P a w (fun a' w' => ∃ v, a' = a.put o.dst v ∧ (∀ d, o.dst = some d → (S d).sat v w') ∧ Grows w w') Q := by
  unfold Oper.wp
  rw [exec_call ho hf hn hb, hvs]
  refine hc.mono ?_
  rintro e w' ⟨v, rfl, h1, h2⟩
  exact ⟨v, rfl, fun d' hd' => by rw [hd] at hd'; cases hd'; exact h1, h2⟩

/-! Tryz# one law for each sort -/

theorem st_copy {o : Oper} (d t : Tmp) (hw : Runs ops S o) (ho : o.op = .move (.tmp t) ∨ o.op = .assign (.tmp t)) (hd : o.dst = some d) (ht : (deps ops o).contains t = true) (hS : S d = S t) : St P ops Q S a0 w0 o :=
  st_run hw fun _ _ hc => wp_value d hd (run_copy ho) (by rw [hS]; exact hc.at t ht)
theorem st_was {o : Oper} (d t : Tmp) (hw : Runs ops S o) (ho : o.op = .move (.tmp t) ∨ o.op = .assign (.tmp t)) (hd : o.dst = some d) (ht : (dsts ops).contains t = false) (hS : (S d).sat (a0.tmps.getD t undef) w0) : St P ops Q S a0 w0 o :=
  st_run hw fun _ _ hc => wp_value d hd (run_copy ho) (by rw [hc.was t ht]; exact (S d).mono _ _ _ hc.grows hS)
theorem st_const {o : Oper} (d : Tmp) (v : Value) (hw : Runs ops S o) (ho : o.op = .move (.const v) ∨ o.op = .assign (.const v)) (hd : o.dst = some d) (hS : S d = .eq v) : St P ops Q S a0 w0 o :=
  st_run hw fun _ _ _ => wp_value d hd (run_copy ho) (by rw [hS]; rfl)
theorem st_and {o : Oper} (d g t : Tmp) (b : Bool) (hw : Runs ops S o) (ho : o.op = .pick (.tmp g) (.tmp t) (.const (.bool false))) (hd : o.dst = some d) (h1 : (deps ops o).contains g = true) (h2 : (deps ops o).contains t = true)
    (hS1 : S g = .eq (.bool true)) (hS2 : S t = .eq (.bool b)) (hS : S d = .eq (.bool b)) : St P ops Q S a0 w0 o :=
  st_run hw fun a w hc => by
    have e1 := hc.at g h1
    have e2 := hc.at t h2
    rw [hS1] at e1
    rw [hS2] at e2
    exact wp_value d hd (run_pick ho e1) (by rw [if_pos rfl, hS]; exact e2)
/-- Bytes as a string. -/
theorem st_string {o : Oper} (d t : Tmp) (s e k : TypeId) (n : Nat) (l : List Nat) (hw : Runs ops S o) (ho : o.op = .convert s k (.tmp t)) (hd : o.dst = some d) (ht : (deps ops o).contains t = true)
    (hs : P.underlying s = some (.slice e)) (he : P.underlying e = some (.int .u8)) (hk : P.underlying k = some .string) (hS1 : S t = .row 1 n (bytesV l)) (hS : S d = .eq (.string (strB l))) : St P ops Q S a0 w0 o :=
  st_run hw fun a w hc => by
    have e1 := hc.at t ht
    rw [hS1] at e1
    obtain ⟨A, c, h1, h2⟩ := e1
    exact wp_value d hd (run_convert_op ho h1 (run_conv h2 s e k hs he hk)) (by rw [hS]; rfl)
theorem st_conv {o : Oper} (d t : Tmp) (s k : TypeId) (u v : Value) (hw : Runs ops S o) (ho : o.op = .convert s k (.tmp t)) (hd : o.dst = some d) (ht : (deps ops o).contains t = true)
    (hr : ∀ w, (convert s k u).run P w = .ok v w) (hS1 : S t = .eq u) (hS : S d = .eq v) : St P ops Q S a0 w0 o :=
  st_run hw fun a w hc => by
    have e1 := hc.at t ht
    rw [hS1] at e1
    exact wp_value d hd (run_convert_op ho e1 (hr w)) (by rw [hS]; rfl)
/-- An operation on two slots whose values are known. -/
theorem run_bin {o : Oper} {a : Act} {w : World} {op : BinOp} {t t' : TypeId} {x y : Operand} {u v r : Value} (ho : o.op = .binOp op t x y t') (hx : a.eval x = u) (hy : a.eval y = v) (hg : (eqGuard op t x y u v).run P w = .ok () w)
    (hr : (binOp op t u v).run P w = .ok r w) : (execOp a.eval o).run P w = .ok (.value r) w := by
  unfold execOp
  simp only [ho, hx, hy, Sem.run_bind, hg, hr, Result.andThen]
  rfl
theorem st_bin {o : Oper} (d t1 t2 : Tmp) (op : BinOp) (t t' : TypeId) (u v r : Value) (hw : Runs ops S o) (ho : o.op = .binOp op t (.tmp t1) (.tmp t2) t') (hd : o.dst = some d) (h1 : (deps ops o).contains t1 = true) (h2 : (deps ops o).contains t2 = true)
    (hS1 : S t1 = .eq u) (hS2 : S t2 = .eq v) (hq : ∀ w, (eqGuard op t (.tmp t1) (.tmp t2) u v).run P w = .ok () w) (hr : ∀ w, (binOp op t u v).run P w = .ok r w) (hS : S d = .eq r) : St P ops Q S a0 w0 o :=
  st_run hw fun a w hc => by
    have e1 := hc.at t1 h1
    have e2 := hc.at t2 h2
    rw [hS1] at e1
    rw [hS2] at e2
    exact wp_value d hd (run_bin ho e1 e2 (hq w) (hr w)) (by rw [hS]; rfl)
theorem st_binL {o : Oper} (d t2 : Tmp) (op : BinOp) (t t' : TypeId) (u v r : Value) (hw : Runs ops S o) (ho : o.op = .binOp op t (.const u) (.tmp t2) t') (hd : o.dst = some d) (h2 : (deps ops o).contains t2 = true)
    (hS2 : S t2 = .eq v) (hq : ∀ w, (eqGuard op t (.const u) (.tmp t2) u v).run P w = .ok () w) (hr : ∀ w, (binOp op t u v).run P w = .ok r w) (hS : S d = .eq r) : St P ops Q S a0 w0 o :=
  st_run hw fun a w hc => by
    have e2 := hc.at t2 h2
    rw [hS2] at e2
    exact wp_value d hd (run_bin ho rfl e2 (hq w) (hr w)) (by rw [hS]; rfl)
theorem st_binR {o : Oper} (d t1 : Tmp) (op : BinOp) (t t' : TypeId) (u v r : Value) (hw : Runs ops S o) (ho : o.op = .binOp op t (.tmp t1) (.const v) t') (hd : o.dst = some d) (h1 : (deps ops o).contains t1 = true)
    (hS1 : S t1 = .eq u) (hq : ∀ w, (eqGuard op t (.tmp t1) (.const v) u v).run P w = .ok () w) (hr : ∀ w, (binOp op t u v).run P w = .ok r w) (hS : S d = .eq r) : St P ops Q S a0 w0 o :=
  st_run hw fun a w hc => by
    have e1 := hc.at t1 h1
    rw [hS1] at e1
    exact wp_value d hd (run_bin ho e1 rfl (hq w) (hr w)) (by rw [hS]; rfl)
/-- A call whose answer is known. -/
theorem st_call0 {o : Oper} (d : Tmp) (v : Value) {f : FuncId} (hw : Runs ops S o) (ho : o.op = .call { callee := .value (.func f), args := #[], argTypes := #[] }) (hd : o.dst = some d) {fn : Func} (hf : P.funcs[f]? = some fn)
    (hn : (fn.name == "runtime.NumGoroutine") = false) (hb : fn.body.isNone = false) (hS : S d = .eq v) (hc : ∀ w, Calls P f #[] w fun e w' => e = .returned v ∧ Below w.heap.size w w') : St P ops Q S a0 w0 o :=
  st_run hw fun _ w _ => wp_call d hd ho hf hn hb (vs := #[]) (by simp) ((hc w).mono fun e w' h => ⟨v, h.1, by rw [hS]; rfl, h.2⟩)
/-- A call on one row. -/
theorem st_call1 {o : Oper} (d t : Tmp) (size n : Nat) (xs : List Value) {f : FuncId} {ts : Array TypeId} (hw : Runs ops S o) (ho : o.op = .call { callee := .value (.func f), args := #[.tmp t], argTypes := ts }) (hd : o.dst = some d) {fn : Func} (hf : P.funcs[f]? = some fn)
    (hn : (fn.name == "runtime.NumGoroutine") = false) (hb : fn.body.isNone = false) (ht : (deps ops o).contains t = true) (hS1 : S t = .row size n xs)
    (hc : ∀ w A c, Reads w w.heap.size size A n xs → Calls P f #[.slice A n c] w fun e w' => ∃ v, e = .returned v ∧ (S d).sat v w' ∧ Grows w w') : St P ops Q S a0 w0 o :=
  st_run hw fun a w h => by
    have e1 := h.at t ht
    rw [hS1] at e1
    obtain ⟨A, c, h1, h2⟩ := e1
    exact wp_call d hd ho hf hn hb (vs := #[.slice A n c]) (by simp [h1]) (hc w A c h2)
/-- The length of a row. -/
theorem st_len {o : Oper} (d t : Tmp) (ty e : TypeId) (size n : Nat) (xs : List Value) (hw : Runs ops S o) (ho : o.op = .call { callee := .builtin .len, args := #[.tmp t], argTypes := #[ty] }) (hd : o.dst = some d) (ht : (deps ops o).contains t = true)
    (hty : P.underlying ty = some (.slice e)) (hS1 : S t = .row size n xs) (hS : S d = .eq (.int .i64 n)) : St P ops Q S a0 w0 o :=
  st_run hw fun a w h => by
    have e1 := h.at t ht
    rw [hS1] at e1
    obtain ⟨A, c, h1, h2⟩ := e1
    refine wp_value d hd (v := .int .i64 n) ?_ (by rw [hS]; rfl)
    have hl : (Builtin.len_ #[ty] o.type #[.slice A n c]).run P w = .ok (.int .i64 n) w := by
      simp [Builtin.len_, run_underlying hty, goInt]
    unfold execOp
    simp only [ho, resolve, invoke, builtin, Sem.run_bind, Sem.run_pure, Result.andThen_ok, List.map_toArray, List.map_cons, List.map_nil, h1, hl]

/-- **THE LAW, by kinds.** -/
theorem wp_region_kinds {id : Nat} {l : List Oper} {a0 : Act} {w : World} (hm : P.follows .mixedOrders = true) (S : Tmp → Kd) (D : List Tmp) (hD : dsts l.toArray = D)
    (hsz : D.all (fun d => decide (d < a0.tmps.size)) = true) (hback : backB l.toArray = true)
    (steps : Steps P l.toArray Q (fun d v w => (S d).sat v w) a0 w.drew l)
    (done : ∀ (f : Tmp → Value) (w' : World), Grows w.drew w' → (∀ d, D.contains d = true → (S d).sat (f d) w') → Q .normal { tmps := fill f D a0.tmps, defers := a0.defers } w') :
    (Code.region id l.toArray true).wp P Q a0 w := by
  subst hD
  exact wp_region hm (fun d v w => (S d).sat v w) (fun d v w w' hg h => (S d).mono v w w' hg h) hsz hback steps (fun f w' hg hf => done f w' hg (fun d hd => hf d (by simpa using hd)))
end Any
end Go.Proofs.YtpinnockcnmofaaGreatDoor
