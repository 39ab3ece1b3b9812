/-
  More small laws for the slots of a region that draws its order.
-/
import Derived.Test.YtpinnockcnmofaaGreatDoorKinds
import Derived.ChangeKeysEq
import Derived.Deep.MidRow
/-! More small laws for the slots of a region that draws its order. -/
namespace Go.Proofs.YtpinnockcnmofaaGreatDoor
open Go.RowKit
set_option linter.unusedVariables false
namespace Any
variable {P : Program} {ops : Array Oper} {Q : Exit → Act → World → Prop} {S : Tmp → Kd} {a0 : Act} {w0 : World}

theorem Ctx.eqv {o : Oper} {a : Act} {w : World} (h : Ctx ops S a0 w0 o a w) (t : Tmp) {v : Value} (ht : (deps ops o).contains t = true) (hS : S t = .eq v) : a.eval (.tmp t) = v := by
  have := h.at t ht
  rw [hS] at this
  exact this
/-- A load of a whole row, by a pointer that stood before. -/
theorem st_load_row {o : Oper} (d t : Tmp) (ty : TypeId) (g : Nat) (tt : TypeId) (cs : Array Value) (dd : TypeDesc) (hw : Runs ops S o) (ho : o.op = .load ty (.tmp t)) (hd : o.dst = some d) (ht : (dsts ops).contains t = false)
    (hp : a0.tmps.getD t undef = .pointer (some ⟨g, 0, none⟩)) (hb : w0.heap[g]? = some (.cells cs tt (0, 0))) (hu : P.underlying ty = some dd) (hdd : (match dd with | .struct _ | .array _ _ => true | _ => false) = true) (hi : (P.info? ty).map (·.size) = some cs.size)
    (hS : S d = .eq (.agg cs)) : St P ops Q S a0 w0 o :=
  st_run hw fun a w hc => by
    have e1 := hc.was t ht
    rw [hp] at e1
    have hlt : g < w0.heap.size := by
      rcases Nat.lt_or_ge g w0.heap.size with h | h
      · exact h
      · rw [Array.getElem?_eq_none h] at hb; cases hb
    have hb' : w.heap[g]? = some (.cells cs tt (0, 0)) := (hc.grows.block g hlt).trans hb
    refine wp_value d hd (v := .agg cs) ?_ (by rw [hS]; rfl)
    unfold execOp
    simp only [ho, e1, Instr.loadAt, Instr.sureAddr, Sem.run_bind, Sem.run_pure, Result.andThen_ok, run_loadVar_row w g tt ty cs (0, 0) dd hb' hu hdd hi]
/-- An operation on a slot that stood before. -/
theorem st_old1 {o : Oper} (d t : Tmp) (v u : Value) (hw : Runs ops S o) (hd : o.dst = some d) (ht : (dsts ops).contains t = false) (hp : a0.tmps.getD t undef = u)
    (hr : ∀ (a : Act) (w : World), a.eval (.tmp t) = u → (execOp a.eval o).run P w = .ok (.value v) w) (hS : ∀ w, Grows w0 w → (S d).sat v w) : St P ops Q S a0 w0 o :=
  st_run hw fun a w hc => wp_value d hd (hr a w (by rw [hc.was t ht, hp])) (hS w hc.grows)
/-- A call whose arguments are known. -/
theorem st_callv {o : Oper} (d : Tmp) (vs : Array Value) {f : FuncId} {xs : Array Operand} {ts : Array TypeId} (hw : Runs ops S o) (ho : o.op = .call { callee := .value (.func f), args := xs, argTypes := ts }) (hd : o.dst = some d) {fn : Func} (hf : P.funcs[f]? = some fn)
    (hn : (fn.name == "runtime.NumGoroutine") = false) (hb : fn.body.isNone = false) (hvs : ∀ (a : Act) (w : World), Ctx ops S a0 w0 o a w → xs.map a.eval = vs)
    (hc : ∀ w, Grows w0 w → Calls P f vs w fun e w' => ∃ v, e = .returned v ∧ (S d).sat v w' ∧ Grows w w') : St P ops Q S a0 w0 o :=
  st_run hw fun a w h => wp_call d hd ho hf hn hb (hvs a w h) (hc w h.grows)
end Any
end Go.Proofs.YtpinnockcnmofaaGreatDoor

/-! A region that draws its order and whose last operations (stores) wait for all that stand ahead of them: the head by facts about its slots, the tail one after the other. -/
namespace Go.Proofs.YtpinnockcnmofaaGreatDoor
open Go.RowKit
set_option linter.unusedVariables false
namespace Any
variable {P : Program} {ops : Array Oper} {Q : Exit → Act → World → Prop}

/-- Does number i wait, by way of others, for number j? -/
def reachB (ops : Array Oper) : Nat → Nat → Nat → Bool
  | 0, _, _ => false
  | n + 1, i, j => ((ops[i]?).map fun o => o.after.any fun e => Region.binds .any e && (e.on == j || reachB ops n e.on j)).getD false
/-- From k on each operation waits for all that stand ahead of it. -/
def coverB (ops : Array Oper) (k : Nat) : Bool := (List.range ops.size).all fun i => decide (i < k) || (List.range i).all fun j => reachB ops ops.size i j

structure Closed (ops : Array Oper) (listed : Array Bool) : Prop where
  size : listed.size = ops.size
  deps : ∀ (j : Nat) (oj : Oper), ops[j]? = some oj → listed.getD j false = true → ∀ e ∈ oj.after, Region.binds .any e = true → listed.getD e.on false = true
theorem reach_listed {listed : Array Bool} (hc : Closed ops listed) : ∀ (n i j : Nat) (o : Oper), ops[i]? = some o → (∀ e ∈ o.after, Region.binds .any e = true → listed.getD e.on false = true) → reachB ops n i j = true → listed.getD j false = true
  | 0, _, _, _, _, _, h => by cases h
  | n + 1, i, j, o, ho, hd, h => by
    unfold reachB at h
    rw [ho] at h
    simp only [Option.map_some, Option.getD_some, Array.any_eq_true'] at h
    obtain ⟨e, he, h2⟩ := h
    simp only [Bool.and_eq_true, Bool.or_eq_true, beq_iff_eq] at h2
    obtain ⟨hb, h3⟩ := h2
    have hl := hd e he hb
    rcases h3 with rfl | h3
    · exact hl
    · cases hoe : ops[e.on]? with
      | none =>
        cases n with
        | zero => cases h3
        | succ n => unfold reachB at h3; rw [hoe] at h3; cases h3
      | some oe => exact reach_listed hc n e.on j oe hoe (hc.deps e.on oe hoe hl) h3
theorem getD_set_true {listed : Array Bool} {i j : Nat} (h : (listed.setIfInBounds i true).getD j false = true) : j = i ∨ listed.getD j false = true := by
  by_cases e : j = i
  · exact .inl e
  · right
    simp only [Array.getD_eq_getD_getElem?] at h ⊢
    rwa [Array.getElem?_setIfInBounds_ne (fun h => e h.symm)] at h
theorem getD_set_keep {listed : Array Bool} {i j : Nat} (h : listed.getD j false = true) : (listed.setIfInBounds i true).getD j false = true := by
  simp only [Array.getD_eq_getD_getElem?] at h ⊢
  by_cases e : i = j
  · subst e
    by_cases hi : i < listed.size
    · simp [hi]
    · rw [Array.getElem?_eq_none (by omega)] at h; simp at h
  · rw [Array.getElem?_setIfInBounds_ne e]; exact h
theorem Closed.set_ {listed : Array Bool} (hc : Closed ops listed) {i : Nat} {o : Oper} (ho : ops[i]? = some o) (hd : ∀ e ∈ o.after, Region.binds .any e = true → listed.getD e.on false = true) : Closed ops (listed.setIfInBounds i true) :=
  ⟨by simp [hc.size], fun j oj hj hl e he hb => by
    rcases getD_set_true hl with rfl | hl
    · rw [ho] at hj; cases hj
      exact getD_set_keep (hd e he hb)
    · exact getD_set_keep (hc.deps j oj hj hl e he hb)⟩

/-- The tail, one after the other. -/
theorem wpAny_tail {k : Nat} (hcov : coverB ops k = true) (hlt : ∀ (i : Nat) (o : Oper), ops[i]? = some o → ∀ e ∈ o.after, Region.binds .any e = true → e.on < i) :
    ∀ (fuel m : Nat) (listed : Array Bool) (a : Act) (w : World), k ≤ m → m ≤ ops.size → Closed ops listed → (∀ j, j < m → listed.getD j false = true) → (∀ j, m ≤ j → j < ops.size → listed.getD j true = false) →
      ops.size - m ≤ fuel → wpList P ops Q (ops.toList.drop m) a w → wpAny P .any ops Q fuel listed a w := by
  have only : ∀ (m : Nat) (listed : Array Bool) (i : Nat), k ≤ m → Closed ops listed → (∀ j, j < m → listed.getD j false = true) → i ∈ Region.ready .any ops listed → (∀ j, m ≤ j → j < ops.size → listed.getD j true = false) → i = m := by
    intro m listed i hkm hc hl hi hu
    obtain ⟨h1, h2, h3⟩ := ready_mem hi
    have him : m ≤ i := by
      rcases Nat.lt_or_ge i m with h | h
      · have := hl i h
        simp only [Array.getD_eq_getD_getElem?] at this h2
        cases hh : listed[i]? with
        | none => rw [hh] at this; simp at this
        | some x => rw [hh] at this h2; simp at this h2; rw [this] at h2; cases h2
      · exact h
    by_cases e : i = m
    · exact e
    · exfalso
      have ho : ops[i]? = some (ops[i]'h1) := Array.getElem?_eq_getElem h1
      have hcv := List.all_eq_true.1 hcov i (List.mem_range.2 h1)
      simp only [Bool.or_eq_true, decide_eq_true_eq] at hcv
      rcases hcv with hcv | hcv
      · omega
      · have hr := List.all_eq_true.1 hcv m (List.mem_range.2 (by omega))
        have := reach_listed hc _ i m _ ho (h3 _ ho) hr
        have h4 := hu m (Nat.le_refl _) (by omega)
        simp only [Array.getD_eq_getD_getElem?] at this h4
        cases hh : listed[m]? with
        | none => rw [hh] at this; simp at this
        | some x => rw [hh] at this h4; simp at this h4; rw [this] at h4; cases h4
  have fin : ∀ (m : Nat) (listed : Array Bool) (a : Act) (w : World), m ≤ ops.size → Closed ops listed → (∀ j, j < m → listed.getD j false = true) → Region.ready .any ops listed = [] → (∀ j, m ≤ j → j < ops.size → listed.getD j true = false) → wpList P ops Q (ops.toList.drop m) a w → Q .normal a w := by
    intro m listed a w hm hc hl hr hu h
    have hmm : m = ops.size := by
      rcases Nat.lt_or_ge m ops.size with h | h
      · have := all_listed hc.size hlt hr (m + 1) m (by omega) h
        have h4 := hu m (Nat.le_refl _) h
        simp only [Array.getD_eq_getD_getElem?] at this h4
        cases hh : listed[m]? with
        | none => rw [hh] at this; simp at this
        | some x => rw [hh] at this h4; simp at this h4; rw [this] at h4; cases h4
      · omega
    subst hmm
    rw [List.drop_eq_nil_of_le (by simp)] at h
    exact h
  intro fuel
  induction fuel with
  | zero =>
    intro m listed a w hkm hm hc hl hu hf h
    have hr : Region.ready .any ops listed = [] := by
      cases hr : Region.ready .any ops listed with
      | nil => rfl
      | cons i l =>
        have hi : i ∈ Region.ready .any ops listed := by rw [hr]; exact List.mem_cons_self
        have := only m listed i hkm hc hl hi hu
        obtain ⟨h1, _, _⟩ := ready_mem hi
        omega
    exact ⟨hr, fin m listed a w hm hc hl hr hu h⟩
  | succ fuel ih =>
    intro m listed a w hkm hm hc hl hu hf h
    refine ⟨fun hr => fin m listed a w hm hc hl hr hu h, fun i hi => ?_⟩
    have him := only m listed i hkm hc hl hi hu
    subst him
    obtain ⟨h1, h2, h3⟩ := ready_mem hi
    have ho : ops[i]? = some (ops[i]'h1) := Array.getElem?_eq_getElem h1
    have hd : ops.toList.drop i = ops[i]'h1 :: ops.toList.drop (i + 1) := by rw [List.drop_eq_getElem_cons (by simpa using h1)]; simp
    rw [hd] at h
    have hc' := hc.set_ ho (h3 _ ho)
    have hl' : ∀ j, j < i + 1 → (listed.setIfInBounds i true).getD j false = true := fun j hj => by
      by_cases e : j = i
      · subst e; simp [Array.getD_eq_getD_getElem?, hc.size, h1]
      · exact getD_set_keep (hl j (by omega))
    have hu' : ∀ j, i + 1 ≤ j → j < ops.size → (listed.setIfInBounds i true).getD j true = false := fun j hj1 hj2 => by
      have := hu j (by omega) hj2
      simp only [Array.getD_eq_getD_getElem?] at this ⊢
      rwa [Array.getElem?_setIfInBounds_ne (by omega)]
    generalize ops[i]'h1 = o at *
    unfold wpOp
    simp only [ho]
    unfold wpList at h
    by_cases hw : Region.wanted o (yielded ops a.tmps) = true
    · rw [if_pos hw] at h ⊢
      rcases h with h | h
      · exact .inl (Oper.wp_mono (fun a' w' hk => ih (i + 1) _ a' w' (by omega) (by omega) hc' hl' hu' (by omega) hk) h)
      · exact .inr h
    · rw [if_neg hw] at h ⊢
      exact ih (i + 1) _ _ _ (by omega) (by omega) hc' hl' hu' (by omega) h

/-- What is asked of one operation, with a word on the whole frame besides. -/
def StepJ (P : Program) (ops : Array Oper) (Q : Exit → Act → World → Prop) (F : Tmp → Value → World → Prop) (J : Act → World → Prop) (a0 : Act) (w0 : World) (o : Oper) : Prop :=
  ∀ (a : Act) (w : World), Grows w0 w →
    (∀ t, t ∉ dsts ops → a.tmps.getD t undef = a0.tmps.getD t undef) →
    (∀ d ∈ deps ops o, F d (a.tmps.getD d undef) w) → J a w →
    if Region.wanted o (yielded ops a.tmps) then o.wp P a w (fun a' w' => ∃ v, a' = a.put o.dst v ∧ (∀ d, o.dst = some d → F d v w') ∧ Grows w w' ∧ J a' w') Q
    else (∀ d, o.dst = some d → F d undef w) ∧ J (a.put o.dst undef) w
theorem stepJ_of {F : Tmp → Value → World → Prop} {J : Act → World → Prop} {a0 : Act} {w0 : World} {o : Oper} (h : Step P ops Q F a0 w0 o) (hp : ∀ a w v w', J a w → Grows w w' → J (a.put o.dst v) w') : StepJ P ops Q F J a0 w0 o := by
  intro a w h1 h2 h3 hj
  have := h a w h1 h2 h3
  by_cases hw : Region.wanted o (yielded ops a.tmps) = true
  · rw [if_pos hw] at this ⊢
    refine Oper.wp_mono (fun a' w' hk => ?_) this
    obtain ⟨v, rfl, hv, hg⟩ := hk
    exact ⟨v, rfl, hv, hg, hp a w v w' hj hg⟩
  · rw [if_neg hw] at this ⊢
    exact ⟨this, hp a w undef w hj (Grows.refl _)⟩

theorem wpAny_head {F : Tmp → Value → World → Prop} {J : Act → World → Prop} {a0 : Act} {w0 : World} {k : Nat} (hcov : coverB ops k = true)
    (hmono : ∀ d v w w', Grows w w' → F d v w → F d v w') (hsz : ∀ d ∈ dsts ops, d < a0.tmps.size)
    (hlt : ∀ (i : Nat) (o : Oper), ops[i]? = some o → ∀ e ∈ o.after, Region.binds .any e = true → e.on < i) (hk : k ≤ ops.size)
    (steps : ∀ (i : Nat) (o : Oper), i < k → ops[i]? = some o → StepJ P ops Q F J a0 w0 o)
    (done : ∀ (a : Act) (w : World) (listed : Array Bool), Holds ops F a0 w0 listed a w → J a w → (∀ j, j < k → listed.getD j false = true) → wpList P ops Q (ops.toList.drop k) a w) :
    ∀ (fuel : Nat) (listed : Array Bool) (a : Act) (w : World), Closed ops listed → Holds ops F a0 w0 listed a w → J a w → (∀ j, k ≤ j → j < ops.size → listed.getD j true = false) →
      (List.range ops.size).countP (fun i => !listed.getD i true) ≤ fuel → wpAny P .any ops Q fuel listed a w := by
  have conv : ∀ {listed : Array Bool} {j : Nat}, listed.size = ops.size → j < ops.size → listed.getD j true = true → listed.getD j false = true := by
    intro listed j hs hj h
    simp only [Array.getD_eq_getD_getElem?] at h ⊢
    rw [Array.getElem?_eq_getElem (by omega)] at h ⊢
    simpa using h
  have count0 : ∀ (listed : Array Bool), (∀ j, k ≤ j → j < ops.size → listed.getD j true = false) → ops.size - k ≤ (List.range ops.size).countP (fun i => !listed.getD i true) := by
    intro listed hu
    have h1 : (List.range ops.size).countP (fun i => decide (k ≤ i)) ≤ (List.range ops.size).countP (fun i => !listed.getD i true) := by
      apply List.countP_mono_left
      intro x hx hp
      rw [hu x (by simpa using hp) (List.mem_range.1 hx)]; rfl
    have h2 : ∀ n, n - k ≤ (List.range n).countP (fun i => decide (k ≤ i)) := by
      intro n
      induction n with
      | zero => simp
      | succ n ih =>
        rw [List.range_succ, List.countP_append]
        by_cases h : k ≤ n
        · simp [h]; omega
        · omega
    exact Nat.le_trans (h2 _) h1
  intro fuel
  induction fuel with
  | zero =>
    intro listed a w hc hh hJ hu hcnt
    have hks : k = ops.size := by have := count0 listed hu; omega
    have hall : ∀ j, j < k → listed.getD j false = true := by
      intro j hj
      cases hl : listed.getD j true with
      | true => exact conv hc.size (by omega) hl
      | false =>
        exfalso
        have hpos : 0 < (List.range ops.size).countP (fun i => !listed.getD i true) := List.countP_pos_iff.2 ⟨j, List.mem_range.2 (by omega), by rw [hl]; rfl⟩
        omega
    exact wpAny_tail hcov hlt 0 k listed a w (Nat.le_refl _) hk hc hall hu (by omega) (done a w listed hh hJ hall)
  | succ fuel ih =>
    intro listed a w hc hh hJ hu hcnt
    by_cases hall : ∀ j, j < k → listed.getD j false = true
    · exact wpAny_tail hcov hlt _ k listed a w (Nat.le_refl _) hk hc hall hu (by have := count0 listed hu; omega) (done a w listed hh hJ hall)
    · obtain ⟨j0, hj0⟩ := Classical.not_forall.1 hall
      obtain ⟨hj0k, hj0u⟩ := Classical.not_imp.1 hj0
      refine ⟨fun hr => absurd (all_listed hc.size hlt hr (j0 + 1) j0 (by omega) (by omega)) hj0u, fun i hi => ?_⟩
      obtain ⟨h1, h2, h3⟩ := ready_mem hi
      have ho : ops[i]? = some (ops[i]'h1) := Array.getElem?_eq_getElem h1
      generalize ops[i]'h1 = o at ho
      have hik : i < k := by
        rcases Nat.lt_or_ge i k with h | h
        · exact h
        · exfalso
          have hcv := List.all_eq_true.1 hcov i (List.mem_range.2 h1)
          simp only [Bool.or_eq_true, decide_eq_true_eq] at hcv
          rcases hcv with hcv | hcv
          · omega
          · exact hj0u (reach_listed hc _ i j0 o ho (h3 o ho) (List.all_eq_true.1 hcv j0 (List.mem_range.2 (by omega))))
      have hst := steps i o hik ho a w hh.grows
        (fun t ht => by simp only [Array.getD_eq_getD_getElem?]; rw [hh.old t ht])
        (fun d hd => by
          unfold deps at hd
          obtain ⟨e, he, hed⟩ := List.mem_filterMap.1 hd
          unfold depOf at hed
          by_cases hb : Region.binds .any e = true
          · rw [if_pos hb] at hed
            cases hoj : ops[e.on]? with
            | none => rw [hoj] at hed; cases hed
            | some oj =>
              rw [hoj] at hed
              exact hh.new e.on oj d hoj (h3 o ho e (by simpa using he) hb) hed
          · rw [if_neg hb] at hed; cases hed) hJ
      have hcnt' : (List.range ops.size).countP (fun j => !(listed.setIfInBounds i true).getD j true) ≤ fuel := by
        have hle := countP_less (p := fun j => !listed.getD j true) (i := i) (l := List.range ops.size) (List.mem_range.2 h1) (by rw [h2]; rfl)
        have heq : (List.range ops.size).countP (fun j => !(listed.setIfInBounds i true).getD j true) = (List.range ops.size).countP (fun x => (!listed.getD x true) && x != i) := by
          apply List.countP_congr
          intro x hx
          have hxs : x < ops.size := List.mem_range.1 hx
          by_cases e : x = i
          · subst e
            simp [Array.getD_eq_getD_getElem?, hc.size, h1]
          · simp only [Array.getD_eq_getD_getElem?]
            rw [Array.getElem?_setIfInBounds_ne (fun h => e h.symm)]
            simp [e]
        omega
      have hc' := hc.set_ ho (h3 o ho)
      have hu' : ∀ j, k ≤ j → j < ops.size → (listed.setIfInBounds i true).getD j true = false := fun j hj1 hj2 => by
        have := hu j hj1 hj2
        simp only [Array.getD_eq_getD_getElem?] at this ⊢
        rwa [Array.getElem?_setIfInBounds_ne (by omega)]
      unfold wpOp
      simp only [ho]
      by_cases hw : Region.wanted o (yielded ops a.tmps) = true
      · rw [if_pos hw] at hst ⊢
        refine .inl (Oper.wp_mono (fun a' w' hk => ?_) hst)
        obtain ⟨v, rfl, hv, hg, hj⟩ := hk
        exact ih _ _ _ hc' (hh.put hmono hsz ho hg hv) hj hu' hcnt'
      · rw [if_neg hw] at hst ⊢
        exact ih _ _ _ hc' (hh.put hmono hsz ho (Grows.refl _) hst.1) hst.2 hu' hcnt'

/-- For a list of operations, so many of them. -/
def StepsTo (P : Program) (ops : Array Oper) (Q : Exit → Act → World → Prop) (F : Tmp → Value → World → Prop) (J : Act → World → Prop) (a0 : Act) (w0 : World) : Nat → List Oper → Prop
  | 0, _ => True
  | _, [] => True
  | n + 1, o :: l => StepJ P ops Q F J a0 w0 o ∧ StepsTo P ops Q F J a0 w0 n l
theorem stepsTo_of {F : Tmp → Value → World → Prop} {J : Act → World → Prop} {a0 : Act} {w0 : World} : ∀ {n : Nat} {l : List Oper}, StepsTo P ops Q F J a0 w0 n l → ∀ i o, i < n → l[i]? = some o → StepJ P ops Q F J a0 w0 o
  | 0, _, _, i, _, hi, _ => absurd hi (by omega)
  | n + 1, [], _, i, o, _, ho => by simp at ho
  | n + 1, x :: l, h, i, o, hi, ho => by
    have h' : StepJ P ops Q F J a0 w0 x ∧ StepsTo P ops Q F J a0 w0 n l := h
    cases i with
    | zero => simp at ho; subst ho; exact h'.1
    | succ i => exact stepsTo_of h'.2 i o (by omega) (by simpa using ho)

/-- **THE LAW, by kinds, with a tail.** The tail's operations write no slot. -/
theorem wp_region_tail {id : Nat} {l : List Oper} {a0 : Act} {w : World} (k : Nat) (hm : P.follows .mixedOrders = true) (S : Tmp → Kd) (J : Act → World → Prop) (hJ0 : J a0 w.drew) (D : List Tmp) (hD : dsts l.toArray = D) (hDk : dsts (l.take k).toArray = D)
    (hsz : D.all (fun d => decide (d < a0.tmps.size)) = true) (hback : backB l.toArray = true) (hcov : coverB l.toArray k = true) (hk : k ≤ l.length)
    (steps : StepsTo P l.toArray Q (fun d v w => (S d).sat v w) J a0 w.drew k l)
    (done : ∀ (f : Tmp → Value) (w' : World), Grows w.drew w' → (∀ d, D.contains d = true → (S d).sat (f d) w') → J { tmps := fill f D a0.tmps, defers := a0.defers } w' → wpList P l.toArray Q (l.drop k) { tmps := fill f D a0.tmps, defers := a0.defers } w') :
    (Code.region id l.toArray true).wp P Q a0 w := by
  refine wp_region_any hm ?_
  have hsz' : ∀ d ∈ dsts l.toArray, d < a0.tmps.size := fun d hd => by
    rw [hD] at hd
    simpa using List.all_eq_true.1 hsz d hd
  refine wpAny_head (k := k) (F := fun d v w => (S d).sat v w) (J := J) (a0 := a0) (w0 := w.drew) hcov (fun d v w w' hg h => (S d).mono v w w' hg h) hsz' (back_of hback) (by simpa using hk) (fun i o hi ho => stepsTo_of steps i o hi (by simpa using ho)) (fun a w' listed hh hj hall => ?_) _ _ _ _ ⟨by simp, fun j oj hj hl => ?_⟩ ?_ hJ0 (fun j h1 h2 => by simp only [Array.getD_eq_getD_getElem?, Array.getElem?_replicate, if_pos h2]; rfl) ?_
  · have hsh := hh.shape
    rw [hD] at hsh
    rw [hsh] at hj ⊢
    have := done (fun d => a.tmps.getD d undef) w' hh.grows (fun d hd => ?_) hj
    · simpa using this
    · have hd' : d ∈ dsts (l.take k).toArray := by rw [hDk]; simpa using hd
      unfold dsts at hd'
      obtain ⟨o, ho, hod⟩ := List.mem_filterMap.1 hd'
      obtain ⟨j, hj⟩ := List.getElem?_of_mem ho
      have hj2 : (l.take k)[j]? = some o := by simpa using hj
      rw [List.getElem?_take] at hj2
      by_cases hjk : j < k
      · rw [if_pos hjk] at hj2
        exact hh.new j o d (by simpa using hj2) (hall j hjk) hod
      · rw [if_neg hjk] at hj2; cases hj2
  · have hjs : j < l.toArray.size := (Array.getElem?_eq_some_iff.1 hj).1
    simp only [Array.getD_eq_getD_getElem?, Array.getElem?_replicate, if_pos hjs] at hl
    cases hl
  · refine ⟨Grows.refl _, rfl, rfl, fun _ _ => rfl, fun j oj d hj hl => ?_⟩
    have hjs : j < l.toArray.size := (Array.getElem?_eq_some_iff.1 hj).1
    simp only [Array.getD_eq_getD_getElem?, Array.getElem?_replicate, if_pos hjs] at hl
    cases hl
  · have := List.countP_le_length (p := fun i => !(Array.replicate l.toArray.size false).getD i true) (l := List.range l.toArray.size)
    simpa using this

theorem put_other {a : Act} {d t : Nat} {v : Value} (h : d ≠ t) : (a.put (some d) v).tmps.getD t undef = a.tmps.getD t undef := by
  simp only [Act.put, Array.getD_eq_getD_getElem?]
  rw [Array.getElem?_setIfInBounds_ne h]
/-- A pointer to a new block. -/
def IsNewPtr (B : Nat) (t : TypeId) (n : Nat) (v : Value) (w : World) : Prop := ∃ g cs, v = .pointer (some ⟨g, 0, none⟩) ∧ B ≤ g ∧ cs.size = n ∧ Blk w g t cs
def _root_.Go.Proofs.YtpinnockcnmofaaGreatDoor.Kd.newPtr (B : Nat) (t : TypeId) (n : Nat) : Kd := ⟨IsNewPtr B t n, fun _ _ _ hg ⟨g, cs, h1, h2, h3, h4⟩ => ⟨g, cs, h1, h2, h3, h4.below hg h4.lt⟩⟩
/-- Two slots that hold pointers to different blocks. -/
def Apart (s t : Nat) (a : Act) (w : World) : Prop :=
  (∀ g, a.tmps.getD s undef = .pointer (some ⟨g, 0, none⟩) → g < w.heap.size) ∧ (∀ g, a.tmps.getD t undef = .pointer (some ⟨g, 0, none⟩) → g < w.heap.size) ∧
    ∀ g g', a.tmps.getD s undef = .pointer (some ⟨g, 0, none⟩) → a.tmps.getD t undef = .pointer (some ⟨g', 0, none⟩) → g ≠ g'
theorem Apart.keep {s t d : Nat} (hs : d ≠ s) (ht : d ≠ t) {a : Act} {w w' : World} {v : Value} (h : Apart s t a w) (hg : Grows w w') : Apart s t (a.put (some d) v) w' := by
  obtain ⟨h1, h2, h3⟩ := h
  have hz := hg.size
  unfold Apart
  rw [put_other hs, put_other ht]
  exact ⟨fun g e => Nat.lt_of_lt_of_le (h1 g e) hz, fun g e => Nat.lt_of_lt_of_le (h2 g e) hz, h3⟩
theorem put_same {a : Act} {d g : Nat} {v : Value} (h : (a.put (some d) v).tmps.getD d undef = .pointer (some ⟨g, 0, none⟩)) : v = .pointer (some ⟨g, 0, none⟩) := by
  simp only [Act.put, Array.getD_eq_getD_getElem?] at h
  by_cases hd : d < a.tmps.size
  · simpa [hd] using h
  · rw [Array.getElem?_eq_none (by simp; omega)] at h; simp [undef] at h
theorem Apart.one {s t : Nat} (hne : s ≠ t) {a : Act} {w : World} {o : Obj} (h : Apart s t a w) : Apart s t (a.put (some s) (.pointer (some ⟨w.heap.size, 0, none⟩))) (w.alloc o) := by
  obtain ⟨h1, h2, h3⟩ := h
  unfold Apart
  rw [put_other hne]
  refine ⟨fun g e => ?_, fun g e => ?_, fun g g' e e' => ?_⟩
  · have := put_same e; simp at this; subst this; simp
  · have := h2 g e; simp; omega
  · have := put_same e; simp at this; have := h2 g' e'; omega
theorem Apart.two {s t : Nat} (hne : s ≠ t) {a : Act} {w : World} {o : Obj} (h : Apart s t a w) : Apart s t (a.put (some t) (.pointer (some ⟨w.heap.size, 0, none⟩))) (w.alloc o) := by
  obtain ⟨h1, h2, h3⟩ := h
  unfold Apart
  rw [put_other (Ne.symm hne)]
  refine ⟨fun g e => ?_, fun g e => ?_, fun g g' e e' => ?_⟩
  · have := h1 g e; simp; omega
  · have := put_same e; simp at this; subst this; simp
  · have := put_same e'; simp at this; have := h1 g e; omega
theorem stj_alloc {S : Tmp → Kd} {J : Act → World → Prop} {a0 : Act} {w0 : World} {o : Oper} (d : Tmp) (hd : o.dst = some d) (hgd : o.guard = none) (ty : TypeId) (ho : o.op = .alloc ty) (i : TypeInfo) (hi : P.info? ty = some i) (z : Value) (hz : i.zero = some z)
    (hF : ∀ w, Grows w0 w → (S d).sat (.pointer (some ⟨w.heap.size, 0, none⟩)) (w.alloc (.cells z.cells ty))) (hJ : ∀ a w, J a w → J (a.put (some d) (.pointer (some ⟨w.heap.size, 0, none⟩))) (w.alloc (.cells z.cells ty))) :
    StepJ P ops Q (fun d v w => (S d).sat v w) J a0 w0 o := by
  intro a w h1 h2 h3 hj
  have hwant : Region.wanted o (yielded ops a.tmps) = true := by simp [Region.wanted, hgd]
  rw [if_pos hwant]
  have hrun : (zeroValue ty).run P w = .ok z w := by
    unfold zeroValue
    simp only [Sem.run_bind, run_typeInfo w hi, Result.andThen_ok, hz, Sem.run_pure]
  unfold Oper.wp execOp
  simp only [ho, Instr.alloc, Sem.run_bind, hrun, Result.andThen_ok]
  simp [go_sem]
  refine ⟨_, rfl, fun d' hd' => ?_, (Below.refl _ w).alloc (Nat.le_refl _) _, ?_⟩
  · rw [hd] at hd'; cases hd'; exact hF w h1
  · rw [hd]; exact hJ a w hj
end Any
end Go.Proofs.YtpinnockcnmofaaGreatDoor

/-! A region that draws its order, with calls and loads at its head and an append and an assignment at its end. -/
namespace Go.Proofs.YtpinnockcnmofaaGreatDoor
open Go.RowKit
set_option linter.unusedVariables false
namespace Any
variable {P : Program}

/-- **THE LAW, by kinds, with a tail that may write slots.** -/
theorem wp_region_tailD {id : Nat} {Q : Exit → Act → World → Prop} {l : List Oper} {a0 : Act} {w : World} (k : Nat) (hm : P.follows .mixedOrders = true) (S : Tmp → Kd) (J : Act → World → Prop) (hJ0 : J a0 w.drew) (D Dk : List Tmp) (hD : dsts l.toArray = D) (hDk : dsts (l.take k).toArray = Dk)
    (hsz : D.all (fun d => decide (d < a0.tmps.size)) = true) (hback : backB l.toArray = true) (hcov : coverB l.toArray k = true) (hk : k ≤ l.length)
    (steps : StepsTo P l.toArray Q (fun d v w => (S d).sat v w) J a0 w.drew k l)
    (done : ∀ (f : Tmp → Value) (w' : World), Grows w.drew w' → (∀ d, Dk.contains d = true → (S d).sat (f d) w') → wpList P l.toArray Q (l.drop k) { tmps := fill f D a0.tmps, defers := a0.defers } w') :
    (Code.region id l.toArray true).wp P Q a0 w := by
  refine wp_region_any hm ?_
  have hsz' : ∀ d ∈ dsts l.toArray, d < a0.tmps.size := fun d hd => by
    rw [hD] at hd
    simpa using List.all_eq_true.1 hsz d hd
  refine wpAny_head (k := k) (F := fun d v w => (S d).sat v w) (J := J) (a0 := a0) (w0 := w.drew) hcov (fun d v w w' hg h => (S d).mono v w w' hg h) hsz' (back_of hback) (by simpa using hk) (fun i o hi ho => stepsTo_of steps i o hi (by simpa using ho)) (fun a w' listed hh hj hall => ?_) _ _ _ _ ⟨by simp, fun j oj hj hl => ?_⟩ ?_ hJ0 (fun j h1 h2 => by simp only [Array.getD_eq_getD_getElem?, Array.getElem?_replicate, if_pos h2]; rfl) ?_
  · have hsh := hh.shape
    rw [hD] at hsh
    rw [hsh]
    have := done (fun d => a.tmps.getD d undef) w' hh.grows (fun d hd => ?_)
    · simpa using this
    · have hd' : d ∈ dsts (l.take k).toArray := by rw [hDk]; simpa using hd
      unfold dsts at hd'
      obtain ⟨o, ho, hod⟩ := List.mem_filterMap.1 hd'
      obtain ⟨j, hj⟩ := List.getElem?_of_mem ho
      have hj2 : (l.take k)[j]? = some o := by simpa using hj
      rw [List.getElem?_take] at hj2
      by_cases hjk : j < k
      · rw [if_pos hjk] at hj2
        exact hh.new j o d (by simpa using hj2) (hall j hjk) hod
      · rw [if_neg hjk] at hj2; cases hj2
  · have hjs : j < l.toArray.size := (Array.getElem?_eq_some_iff.1 hj).1
    simp only [Array.getD_eq_getD_getElem?, Array.getElem?_replicate, if_pos hjs] at hl
    cases hl
  · refine ⟨Grows.refl _, rfl, rfl, fun _ _ => rfl, fun j oj d hj hl => ?_⟩
    have hjs : j < l.toArray.size := (Array.getElem?_eq_some_iff.1 hj).1
    simp only [Array.getD_eq_getD_getElem?, Array.getElem?_replicate, if_pos hjs] at hl
    cases hl
  · have := List.countP_le_length (p := fun i => !(Array.replicate l.toArray.size false).getD i true) (l := List.range l.toArray.size)
    simpa using this

/-- What is kept: a slot that only the tail writes. -/
def Slot (t : Nat) (v : Value) (a : Act) (w : World) : Prop := a.tmps.getD t undef = v
theorem sj {ops : Array Oper} {Q : Exit → Act → World → Prop} {S : Tmp → Kd} {a0 : Act} {w0 : World} {o : Oper} {t : Nat} {v : Value} {d : Nat} (hd : o.dst = some d) (hne : d ≠ t) (h : St P ops Q S a0 w0 o) : StepJ P ops Q (fun d v w => (S d).sat v w) (Slot t v) a0 w0 o :=
  stepJ_of h (fun a w u w' hj _ => by rw [hd]; exact (put_other hne).trans hj)
theorem sj_move {ops : Array Oper} {Q : Exit → Act → World → Prop} {S : Tmp → Kd} {a0 : Act} {w0 : World} {o : Oper} {t : Nat} {v : Value} {d : Nat} (hg : o.guard = none) (ho : o.op = .move (.tmp t)) (hd : o.dst = some d) (hne : d ≠ t) (hS : S d = .eq v) : StepJ P ops Q (fun d v w => (S d).sat v w) (Slot t v) a0 w0 o := by
  intro a w h1 h2 h3 hj
  rw [if_pos (by simp [Region.wanted, hg])]
  unfold Oper.wp
  rw [run_copy (.inl ho)]
  refine ⟨_, rfl, fun d' hd' => ?_, Grows.refl _, ?_⟩
  · rw [hd] at hd'; cases hd'
    rw [hS]
    exact hj
  · rw [hd]; exact (put_other hne).trans hj
/-- A load by a pointer out of a slot of the region. -/
theorem sx_load_at {ops : Array Oper} {Q : Exit → Act → World → Prop} {S : Tmp → Kd} {a0 : Act} {w0 : World} {o : Oper} (d t : Tmp) (ty : TypeId) (p : Addr) (v : Value) (hw : Runs ops S o) (ho : o.op = .load ty (.tmp t)) (hd : o.dst = some d) (ht : (deps ops o).contains t = true) (hS1 : S t = .eq (.pointer (some p)))
    (hc : w0.cell? p = some v) (hr : ∀ w : World, w.cell? p = some v → (Instr.loadAt ty (.pointer (some p))).run P w = .ok v w) (hS : S d = .eq v) : St P ops Q S a0 w0 o :=
  st_run hw fun a w hc' => wp_value d hd (v := v) (by
    have e1 := hc'.at t ht
    rw [hS1] at e1
    have e2 : a.eval (.tmp t) = .pointer (some p) := e1
    unfold execOp
    simp only [ho, e2, Sem.run_bind, hr w ((hc'.grows.cell (block_lt_of_cell hc)).trans hc), Result.andThen]
    rfl) (by rw [hS]; rfl)
/-- A load of many cells in the middle of a block. -/
theorem sx_load_mid {ops : Array Oper} {Q : Exit → Act → World → Prop} {S : Tmp → Kd} {a0 : Act} {w0 : World} {o : Oper} (d t : Tmp) (ty : TypeId) (g off : Nat) (cs : List Value) (dd : TypeDesc) (hw : Runs ops S o) (ho : o.op = .load ty (.tmp t)) (hd : o.dst = some d) (ht : (deps ops o).contains t = true) (hS1 : S t = .eq (.pointer (some ⟨g, off, none⟩)))
    (hg : g < w0.heap.size) (hc : w0.rangeAt g off cs) (hu : P.underlying ty = some dd) (hdd : dd.isRow = true) (hi : (P.info? ty).map (·.size) = some cs.length) (hS : S d = .eq (.agg cs.toArray)) : St P ops Q S a0 w0 o :=
  st_run hw fun a w hc' => wp_value d hd (v := .agg cs.toArray) (by
    have e1 := hc'.at t ht
    rw [hS1] at e1
    have e2 : a.eval (.tmp t) = .pointer (some ⟨g, off, none⟩) := e1
    have hc2 : w.rangeAt g off cs := fun j v hv => (hc'.grows.cell (p := ⟨g, off + j, none⟩) hg).trans (hc j v hv)
    unfold execOp
    simp only [ho, e2, Sem.run_bind, run_loadAt_mid w g off ty cs dd hc2 hu hdd hi, Result.andThen]
    rfl) (by rw [hS]; rfl)
/-- An operation that reckons a value out of one slot of the region. -/
theorem sx_one {ops : Array Oper} {Q : Exit → Act → World → Prop} {S : Tmp → Kd} {a0 : Act} {w0 : World} {o : Oper} (d t : Tmp) (u v : Value) (hw : Runs ops S o) (hd : o.dst = some d) (ht : (deps ops o).contains t = true) (hS1 : S t = .eq u)
    (hr : ∀ (a : Act) (w : World), a.eval (.tmp t) = u → (execOp a.eval o).run P w = .ok (.value v) w) (hS : S d = .eq v) : St P ops Q S a0 w0 o :=
  st_run hw fun a w hc => wp_value d hd (v := v) (hr a w (by have e1 := hc.at t ht; rw [hS1] at e1; exact e1)) (by rw [hS]; rfl)
/-- An operation that reckons a value out of two slots of the region. -/
theorem sx_two {ops : Array Oper} {Q : Exit → Act → World → Prop} {S : Tmp → Kd} {a0 : Act} {w0 : World} {o : Oper} (d t t2 : Tmp) (u u2 v : Value) (hw : Runs ops S o) (hd : o.dst = some d) (ht : (deps ops o).contains t = true) (ht2 : (deps ops o).contains t2 = true) (hS1 : S t = .eq u) (hS2 : S t2 = .eq u2)
    (hr : ∀ (a : Act) (w : World), a.eval (.tmp t) = u → a.eval (.tmp t2) = u2 → (execOp a.eval o).run P w = .ok (.value v) w) (hS : S d = .eq v) : St P ops Q S a0 w0 o :=
  st_run hw fun a w hc => wp_value d hd (v := v) (hr a w (by have e1 := hc.at t ht; rw [hS1] at e1; exact e1) (by have e1 := hc.at t2 ht2; rw [hS2] at e1; exact e1)) (by rw [hS]; rfl)
/-- A slice literal, out of slots. -/
theorem sx_builtSlice {ops : Array Oper} {Q : Exit → Act → World → Prop} {S : Tmp → Kd} {a0 : Act} {w0 : World} {o : Oper} (d : Tmp) (t e : TypeId) (len size : Nat) (parts : Array (Nat × Operand)) (vals : Array (Nat × Value)) (cells : List Value) (hw : Runs ops S o) (ho : o.op = .buildSlice t len parts) (hd : o.dst = some d)
    (hp : ∀ (a : Act) (w : World), Ctx ops S a0 w0 o a w → (parts.map fun (i, x) => (i, a.eval x)) = vals) (hb : ∀ w, (Instr.buildSlice t len vals).run P w = .ok (.slice (some ⟨w.heap.size, 0, none⟩) len len) (w.alloc (.cells cells.toArray e))) (hl : cells.length = len * size)
    (hS : S d = .row size len cells) : St P ops Q S a0 w0 o :=
  st_run hw fun a w hc => by
    unfold Oper.wp execOp
    simp only [ho, hp a w hc, Sem.run_bind, hb w, Result.andThen_ok]
    refine ⟨_, rfl, fun d' hd' => ?_, (Grows.refl w).alloc _⟩
    rw [hd] at hd'
    cases hd'
    rw [hS]
    exact ⟨_, _, rfl, (reads_lit w cells e size len hl).more (by simp)⟩
end Any
end Go.Proofs.YtpinnockcnmofaaGreatDoor
