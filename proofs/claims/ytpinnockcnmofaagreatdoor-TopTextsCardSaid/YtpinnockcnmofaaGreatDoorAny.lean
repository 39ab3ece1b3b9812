/-
  A region that draws its order, met once for each operation: each operation shows what its own slot holds, as a fact that new blocks do not change.
-/
import Derived.Orders
import Derived.Below
namespace Go.Proofs.YtpinnockcnmofaaGreatDoor
open Go.RowKit

/-- New blocks alone: all that there was is as it was. -/
def Grows (w w' : World) : Prop := Below w.heap.size w w'
theorem Grows.refl (w : World) : Grows w w := Below.refl _ _
theorem Grows.trans {a b c : World} (h : Grows a b) (k : Grows b c) : Grows a c := Below.trans h (Below.mono k h.size)
theorem Grows.drew {a b : World} (h : Grows a b) : Grows a b.drew := Below.drew h
theorem Grows.alloc {a b : World} (h : Grows a b) (o : Obj) : Grows a (b.alloc o) := Below.alloc h h.size o

namespace Any
variable {P : Program} {ops : Array Oper} {Q : Exit → Act → World → Prop}

def depOf (ops : Array Oper) (e : Edge) : Option Tmp := if Region.binds .any e then (ops[e.on]?).bind (·.dst) else none
def deps (ops : Array Oper) (o : Oper) : List Tmp := o.after.toList.filterMap (depOf ops)
def dsts (ops : Array Oper) : List Tmp := ops.toList.filterMap (·.dst)

/-- What is asked of one operation. -/
def Step (P : Program) (ops : Array Oper) (Q : Exit → Act → World → Prop) (F : Tmp → Value → World → Prop) (a0 : Act) (w0 : World) (o : Oper) : Prop :=
  ∀ (a : Act) (w : World), Grows w0 w →
    (∀ t, t ∉ dsts ops → a.tmps.getD t undef = a0.tmps.getD t undef) →
    (∀ d ∈ deps ops o, F d (a.tmps.getD d undef) w) →
    if Region.wanted o (yielded ops a.tmps) then o.wp P a w (fun a' w' => ∃ v, a' = a.put o.dst v ∧ (∀ d, o.dst = some d → F d v w') ∧ Grows w w') Q
    else ∀ d, o.dst = some d → F d undef w

structure Holds (ops : Array Oper) (F : Tmp → Value → World → Prop) (a0 : Act) (w0 : World) (listed : Array Bool) (a : Act) (w : World) : Prop where
  grows : Grows w0 w
  defers : a.defers = a0.defers
  size : a.tmps.size = a0.tmps.size
  old : ∀ t, t ∉ dsts ops → a.tmps[t]? = a0.tmps[t]?
  new : ∀ (j : Nat) (oj : Oper) (d : Tmp), ops[j]? = some oj → listed.getD j false = true → oj.dst = some d → F d (a.tmps.getD d undef) w

theorem mem_dsts {j : Nat} {oj : Oper} {d : Tmp} (h : ops[j]? = some oj) (hd : oj.dst = some d) : d ∈ dsts ops := by
  unfold dsts
  refine List.mem_filterMap.2 ⟨oj, ?_, hd⟩
  have := Array.mem_of_getElem? h
  simpa using this

theorem Holds.put {F : Tmp → Value → World → Prop} {a0 : Act} {w0 : World} {listed : Array Bool} {a : Act} {w w' : World}
    (hmono : ∀ d v w w', Grows w w' → F d v w → F d v w') (hsz : ∀ d ∈ dsts ops, d < a0.tmps.size)
    (h : Holds ops F a0 w0 listed a w) {i : Nat} {o : Oper} (hi : ops[i]? = some o) {v : Value} (hg : Grows w w')
    (hv : ∀ d, o.dst = some d → F d v w') : Holds ops F a0 w0 (listed.setIfInBounds i true) (a.put o.dst v) w' := by
  have hlist : ∀ j, (listed.setIfInBounds i true).getD j false = true → j = i ∨ listed.getD j false = true := by
    intro j hj
    by_cases e : j = i
    · exact .inl e
    · right
      simp only [Array.getD_eq_getD_getElem?] at hj ⊢
      rwa [Array.getElem?_setIfInBounds_ne (fun h => e h.symm)] at hj
  cases hd : o.dst with
  | none =>
    refine ⟨h.grows.trans hg, h.defers, h.size, h.old, fun j oj d hj hl hdj => ?_⟩
    rcases hlist j hl with rfl | hl
    · rw [hi] at hj; cases hj; rw [hd] at hdj; cases hdj
    · exact hmono _ _ _ _ hg (h.new j oj d hj hl hdj)
  | some d0 =>
    have hd0 : d0 < a.tmps.size := by rw [h.size]; exact hsz _ (mem_dsts hi hd)
    refine ⟨h.grows.trans hg, h.defers, by simp [Act.put, h.size], fun t ht => ?_, fun j oj d hj hl hdj => ?_⟩
    · have hne : d0 ≠ t := fun e => ht (e ▸ mem_dsts hi hd)
      simp only [Act.put]
      rw [Array.getElem?_setIfInBounds_ne hne]
      exact h.old t ht
    · by_cases e : d = d0
      · subst e
        have : (a.put (some d) v).tmps.getD d undef = v := by simp [Act.put, Array.getD_eq_getD_getElem?, hd0]
        rw [this]
        exact hv d hd
      · have hke : (a.put (some d0) v).tmps.getD d undef = a.tmps.getD d undef := by
          simp only [Act.put, Array.getD_eq_getD_getElem?]
          rw [Array.getElem?_setIfInBounds_ne (fun h => e h.symm)]
        rw [hke]
        rcases hlist j hl with rfl | hl
        · rw [hi] at hj; cases hj; rw [hd] at hdj; cases hdj; exact absurd rfl e
        · exact hmono _ _ _ _ hg (h.new j oj d hj hl hdj)

theorem countP_less {p : Nat → Bool} {i : Nat} : ∀ {l : List Nat}, i ∈ l → p i = true → l.countP (fun x => p x && x != i) + 1 ≤ l.countP p
  | x :: l, hm, hp => by
    have hle : ∀ l : List Nat, l.countP (fun x => p x && x != i) ≤ l.countP p := fun l =>
      List.countP_mono_left (fun x _ h => by simp at h; exact h.1)
    rcases List.mem_cons.1 hm with rfl | hm'
    · rw [List.countP_cons, List.countP_cons]
      have := hle l
      simp [hp]
      exact this
    · have ih := countP_less hm' hp
      rw [List.countP_cons, List.countP_cons]
      cases hpx : p x <;> simp <;> try omega
      split <;> omega

theorem ready_mem {listed : Array Bool} {i : Nat} (h : i ∈ Region.ready .any ops listed) :
    i < ops.size ∧ listed.getD i true = false ∧ ∀ o, ops[i]? = some o → ∀ e ∈ o.after, Region.binds .any e = true → listed.getD e.on false = true := by
  unfold Region.ready at h
  simp only [List.mem_filter, List.mem_range, Bool.and_eq_true, Bool.not_eq_true'] at h
  refine ⟨h.1, h.2.1, fun o ho e he hb => ?_⟩
  have h2 := h.2.2
  rw [ho] at h2
  simp only [Option.map_some, Option.getD_some] at h2
  rw [Array.all_eq_true_iff_forall_mem] at h2
  have := h2 e he
  simpa [hb] using this

theorem all_listed {listed : Array Bool} (hs : listed.size = ops.size)
    (hlt : ∀ (i : Nat) (o : Oper), ops[i]? = some o → ∀ e ∈ o.after, Region.binds .any e = true → e.on < i)
    (h : Region.ready .any ops listed = []) : ∀ n i, i < n → i < ops.size → listed.getD i false = true := by
  intro n
  induction n with
  | zero => intro i hi; omega
  | succ n ih =>
    intro i hi his
    cases hl : listed.getD i false with
    | true => rfl
    | false =>
      exfalso
      have : i ∈ Region.ready .any ops listed := by
        unfold Region.ready
        simp only [List.mem_filter, List.mem_range, Bool.and_eq_true, Bool.not_eq_true']
        refine ⟨his, ?_, ?_⟩
        · simp only [Array.getD_eq_getD_getElem?] at hl ⊢
          rw [Array.getElem?_eq_getElem (by omega)] at hl ⊢
          simpa using hl
        · have ho : ops[i]? = some (ops[i]'his) := Array.getElem?_eq_getElem his
          rw [ho]
          simp only [Option.map_some, Option.getD_some]
          rw [Array.all_eq_true_iff_forall_mem]
          intro e he
          cases hb : Region.binds .any e with
          | false => simp
          | true =>
            have hlt' := hlt i _ ho e he hb
            simp [ih e.on (by omega) (by omega)]
      rw [h] at this
      cases this

theorem wpAny_of {F : Tmp → Value → World → Prop} {a0 : Act} {w0 : World}
    (hmono : ∀ d v w w', Grows w w' → F d v w → F d v w') (hsz : ∀ d ∈ dsts ops, d < a0.tmps.size)
    (hlt : ∀ (i : Nat) (o : Oper), ops[i]? = some o → ∀ e ∈ o.after, Region.binds .any e = true → e.on < i)
    (steps : ∀ (i : Nat) (o : Oper), ops[i]? = some o → Step P ops Q F a0 w0 o)
    (done : ∀ a w, Holds ops F a0 w0 (Array.replicate ops.size true) a w → Q .normal a w) :
    ∀ (fuel : Nat) (listed : Array Bool) (a : Act) (w : World), listed.size = ops.size → Holds ops F a0 w0 listed a w →
      (List.range ops.size).countP (fun i => !listed.getD i true) ≤ fuel → wpAny P .any ops Q fuel listed a w := by
  have fin : ∀ (listed : Array Bool) (a : Act) (w : World), listed.size = ops.size → Holds ops F a0 w0 listed a w → Region.ready .any ops listed = [] → Q .normal a w := by
    intro listed a w hs hh hr
    refine done a w ⟨hh.grows, hh.defers, hh.size, hh.old, fun j oj d hj _ hd => ?_⟩
    have hjs : j < ops.size := (Array.getElem?_eq_some_iff.1 hj).1
    exact hh.new j oj d hj (all_listed hs hlt hr (j + 1) j (by omega) hjs) hd
  intro fuel
  induction fuel with
  | zero =>
    intro listed a w hs hh hc
    have hr : Region.ready .any ops listed = [] := by
      cases hr : Region.ready .any ops listed with
      | nil => rfl
      | cons i l =>
        exfalso
        have hi : i ∈ Region.ready .any ops listed := by rw [hr]; exact List.mem_cons_self
        obtain ⟨h1, h2, _⟩ := ready_mem hi
        have hpos : 0 < (List.range ops.size).countP (fun i => !listed.getD i true) := List.countP_pos_iff.2 ⟨i, List.mem_range.2 h1, by rw [h2]; rfl⟩
        omega
    exact ⟨hr, fin listed a w hs hh hr⟩
  | succ fuel ih =>
    intro listed a w hs hh hc
    refine ⟨fin listed a w hs hh, fun i hi => ?_⟩
    obtain ⟨h1, h2, h3⟩ := ready_mem hi
    have ho : ops[i]? = some (ops[i]'h1) := Array.getElem?_eq_getElem h1
    generalize ops[i]'h1 = o at ho
    have hst := steps i o ho a w hh.grows
      (fun t ht => by simp only [Array.getD_eq_getD_getElem?]; rw [hh.old t ht])
      (fun d hd => by
        unfold deps at hd
        obtain ⟨e, he, hed⟩ := List.mem_filterMap.1 hd
        unfold depOf at hed
        by_cases hb : Region.binds .any e = true
        · rw [if_pos hb] at hed
          cases hoj : ops[e.on]? with
          | none => rw [hoj] at hed; cases hed
          | some oj =>
            rw [hoj] at hed
            exact hh.new e.on oj d hoj (h3 o ho e (by simpa using he) hb) hed
        · rw [if_neg hb] at hed; cases hed)
    have hcnt : (List.range ops.size).countP (fun j => !(listed.setIfInBounds i true).getD j true) ≤ fuel := by
      have hle := countP_less (p := fun j => !listed.getD j true) (i := i) (l := List.range ops.size) (List.mem_range.2 h1) (by rw [h2]; rfl)
      have heq : (List.range ops.size).countP (fun j => !(listed.setIfInBounds i true).getD j true) = (List.range ops.size).countP (fun x => (!listed.getD x true) && x != i) := by
        apply List.countP_congr
        intro x hx
        have hxs : x < ops.size := List.mem_range.1 hx
        by_cases e : x = i
        · subst e
          simp [Array.getD_eq_getD_getElem?, hs, h1]
        · simp only [Array.getD_eq_getD_getElem?]
          rw [Array.getElem?_setIfInBounds_ne (fun h => e h.symm)]
          simp [e]
      omega
    unfold wpOp
    simp only [ho]
    by_cases hw : Region.wanted o (yielded ops a.tmps) = true
    · rw [if_pos hw] at hst ⊢
      refine .inl (Oper.wp_mono (fun a' w' hk => ?_) hst)
      obtain ⟨v, rfl, hv, hg⟩ := hk
      exact ih _ _ _ (by simp [hs]) (hh.put hmono hsz ho hg hv) hcnt
    · rw [if_neg hw] at hst ⊢
      exact ih _ _ _ (by simp [hs]) (hh.put hmono hsz ho (Grows.refl _) hst) hcnt

/-- The slots that were written, written anew. -/
def fill (f : Tmp → Value) (l : List Tmp) (t : Array Value) : Array Value := l.foldl (fun t d => t.setIfInBounds d (f d)) t

theorem fill_size (f : Tmp → Value) : ∀ (l : List Tmp) (t : Array Value), (fill f l t).size = t.size
  | [], t => rfl
  | d :: l, t => by
    show (fill f l (t.setIfInBounds d (f d))).size = _
    rw [fill_size f l]; simp

theorem fill_get (f : Tmp → Value) : ∀ (l : List Tmp) (t : Array Value) (x : Nat), x < t.size → (fill f l t)[x]? = if x ∈ l then some (f x) else t[x]?
  | [], t, x, _ => by simp [fill]
  | d :: l, t, x, hx => by
    show (fill f l (t.setIfInBounds d (f d)))[x]? = _
    rw [fill_get f l _ x (by simpa using hx)]
    by_cases hm : x ∈ l
    · simp [hm]
    · by_cases e : x = d
      · subst e; simp [hm, hx]
      · rw [if_neg hm, if_neg (by simp [e, hm]), Array.getElem?_setIfInBounds_ne (fun h => e h.symm)]

theorem Holds.shape {F : Tmp → Value → World → Prop} {a0 : Act} {w0 : World} {listed : Array Bool} {a : Act} {w : World} (h : Holds ops F a0 w0 listed a w) :
    a = { tmps := fill (fun d => a.tmps.getD d undef) (dsts ops) a0.tmps, defers := a0.defers } := by
  obtain ⟨tmps, defers⟩ := a
  have e1 : defers = a0.defers := h.defers
  have hs : tmps.size = a0.tmps.size := h.size
  have e2 : tmps = fill (fun d => tmps.getD d undef) (dsts ops) a0.tmps := by
    apply Array.ext_getElem?
    intro x
    by_cases hx : x < a0.tmps.size
    · rw [fill_get _ _ _ _ hx]
      by_cases hm : x ∈ dsts ops
      · rw [if_pos hm, Array.getElem?_eq_getElem (by omega)]
        simp [Array.getD_eq_getD_getElem?, Array.getElem?_eq_getElem (show x < tmps.size by omega)]
      · rw [if_neg hm]; exact h.old x hm
    · rw [Array.getElem?_eq_none (by omega), Array.getElem?_eq_none (by rw [fill_size]; omega)]
  show ({ tmps := tmps, defers := defers } : Act) = { tmps := fill (fun d => tmps.getD d undef) (dsts ops) a0.tmps, defers := a0.defers }
  rw [← e2, e1]

/-- Each operation's binding edges lead back. -/
def backB (ops : Array Oper) : Bool := (List.range ops.size).all fun i => ((ops[i]?).map fun o => o.after.all fun e => !Region.binds .any e || decide (e.on < i)).getD true

theorem back_of (h : backB ops = true) : ∀ (i : Nat) (o : Oper), ops[i]? = some o → ∀ e ∈ o.after, Region.binds .any e = true → e.on < i := by
  intro i o ho e he hb
  have hi : i < ops.size := (Array.getElem?_eq_some_iff.1 ho).1
  have h1 := List.all_eq_true.1 h i (List.mem_range.2 hi)
  rw [ho] at h1
  simp only [Option.map_some, Option.getD_some, Array.all_eq_true_iff_forall_mem] at h1
  have := h1 e he
  simpa [hb] using this

/-- For a list of operations, one after the other. -/
def Steps (P : Program) (ops : Array Oper) (Q : Exit → Act → World → Prop) (F : Tmp → Value → World → Prop) (a0 : Act) (w0 : World) : List Oper → Prop
  | [] => True
  | o :: l => Step P ops Q F a0 w0 o ∧ Steps P ops Q F a0 w0 l

theorem steps_of {F : Tmp → Value → World → Prop} {a0 : Act} {w0 : World} {l : List Oper} (h : Steps P ops Q F a0 w0 l) (o : Oper) (ho : o ∈ l) : Step P ops Q F a0 w0 o := by
  induction l with
  | nil => cases ho
  | cons x l ih =>
    have h' : Step P ops Q F a0 w0 x ∧ Steps P ops Q F a0 w0 l := h
    rcases List.mem_cons.1 ho with e | ho
    · rw [e]; exact h'.1
    · exact ih h'.2 ho

/-- **THE LAW.** -/
theorem wp_region {id : Nat} {l : List Oper} {a0 : Act} {w : World} (hm : P.follows .mixedOrders = true) (F : Tmp → Value → World → Prop)
    (hmono : ∀ d v w w', Grows w w' → F d v w → F d v w') (hsz : (dsts l.toArray).all (fun d => decide (d < a0.tmps.size)) = true) (hback : backB l.toArray = true)
    (steps : Steps P l.toArray Q F a0 w.drew l)
    (done : ∀ (f : Tmp → Value) (w' : World), Grows w.drew w' → (∀ d ∈ dsts l.toArray, F d (f d) w') → Q .normal { tmps := fill f (dsts l.toArray) a0.tmps, defers := a0.defers } w') :
    (Code.region id l.toArray true).wp P Q a0 w := by
  refine wp_region_any hm ?_
  have hst : ∀ i o, l.toArray[i]? = some o → Step P l.toArray Q F a0 w.drew o := fun i o ho => steps_of steps o (by
    have := Array.mem_of_getElem? ho
    simpa using this)
  refine wpAny_of hmono (fun d hd => by simpa using List.all_eq_true.1 hsz d hd) (back_of hback) hst (fun a w' hh => ?_) _ _ _ _ (by simp) ?_ ?_
  · rw [hh.shape]
    refine done _ _ hh.grows (fun d hd => ?_)
    unfold dsts at hd
    obtain ⟨o, ho, hod⟩ := List.mem_filterMap.1 hd
    obtain ⟨j, hj⟩ := List.getElem?_of_mem ho
    have hj' : l.toArray[j]? = some o := by simpa using hj
    have hjs : j < l.toArray.size := (Array.getElem?_eq_some_iff.1 hj').1
    exact hh.new j o d hj' (by simp only [Array.getD_eq_getD_getElem?, Array.getElem?_replicate, if_pos hjs]; rfl) hod
  · refine ⟨Grows.refl _, rfl, rfl, fun _ _ => rfl, fun j oj d hj hl => ?_⟩
    have hjs : j < l.toArray.size := (Array.getElem?_eq_some_iff.1 hj).1
    simp only [Array.getD_eq_getD_getElem?, Array.getElem?_replicate, if_pos hjs] at hl
    cases hl
  · have := List.countP_le_length (p := fun i => !(Array.replicate l.toArray.size false).getD i true) (l := List.range l.toArray.size)
    simpa using this
end Any
end Go.Proofs.YtpinnockcnmofaaGreatDoor
