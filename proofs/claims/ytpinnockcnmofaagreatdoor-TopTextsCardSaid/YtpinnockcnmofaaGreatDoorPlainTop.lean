/-
  What a machine does, step by step: in plain words.
-/
import Derived.Test.YtpinnockcnmofaaGreatDoorChkCheck
import Derived.Test.YtpinnockcnmofaaGreatDoorChkFacts
/-! What a machine does, step by step: in plain words. -/
namespace Go.Proofs.YtpinnockcnmofaaGreatDoor
set_option linter.unusedVariables false

/-- The state of a run. -/
structure Vs where
  at_ : Nat
  a : Nat
  x : Nat
  cells : List Nat
structure Vs.Ok (s : Vs) : Prop where
  a : s.a < 4294967296
  x : s.x < 4294967296
  len : s.cells.length = 16
  cell : ∀ n ∈ s.cells, n < 4294967296
/-- What reckons. -/
def reckN (d a n : Nat) : Nat :=
  if d = 16 then (a + n) % 4294967296
  else if d = 17 then (a + (4294967296 - n)) % 4294967296
  else if d = 18 then a * n % 4294967296
  else if d = 19 then a / n
  else if d = 20 then a ||| n
  else if d = 21 then a &&& n
  else if d = 22 then a * 2 ^ (n % 32) % 4294967296
  else if d = 23 then a / 2 ^ (n % 32)
  else a ^^^ n
def isN (d a n : Nat) : Bool := if d = 25 then decide (a = n) else if d = 26 then decide (n < a) else if d = 27 then decide (n ≤ a) else decide (a &&& n ≠ 0)
def othN (i : I) (s : Vs) : Nat := if kx i = true then s.x else i.k
/-- One step: the place counts on already. -/
def stepV (W : Nat → Nat) (i : I) (s : Vs) : Vs :=
  if kd i = 1 then { s with a := W i.k }
  else if kd i = 2 then { s with a := i.k }
  else if kd i = 3 then { s with a := s.cells.getD i.k 0 }
  else if kd i = 4 then { s with a := 64 }
  else if kd i = 5 then { s with x := i.k }
  else if kd i = 6 then { s with x := s.cells.getD i.k 0 }
  else if kd i = 7 then { s with x := 64 }
  else if kd i = 8 then { s with cells := s.cells.set i.k s.a }
  else if kd i = 9 then { s with cells := s.cells.set i.k s.x }
  else if kd i = 10 then { s with x := s.a }
  else if kd i = 11 then { s with a := s.x }
  else if kd i = 12 then { s with a := (4294967296 - s.a) % 4294967296 }
  else if kd i = 13 then { s with at_ := s.at_ + i.k }
  else if 25 ≤ kd i then { s with at_ := s.at_ + if isN (kd i) s.a (othN i s) = true then i.jt else i.jf }
  else { s with a := reckN (kd i) s.a (othN i s) }
/-- Where a run ends, and with what. -/
def stopV (i : I) (s : Vs) : Option Nat := if kd i = 14 then some i.k else if kd i = 15 then some s.a else if kd i = 19 ∧ othN i s = 0 then some 0 else none
/-- A run from a state on: what it tells, and how many steps it takes. -/
def runV (p : List I) (W : Nat → Nat) : Nat → Vs → Nat × Nat
  | 0, s => (0, 0)
  | f + 1, s => match stopV (p.getD s.at_ default) s with
    | some v => (v, 1)
    | none => ((runV p W f (stepV W (p.getD s.at_ default) { s with at_ := s.at_ + 1 })).1, (runV p W f (stepV W (p.getD s.at_ default) { s with at_ := s.at_ + 1 })).2 + 1)
def v0 : Vs := ⟨0, 0, 0, List.replicate 16 0⟩
end Go.Proofs.YtpinnockcnmofaaGreatDoor

/-! A formed program's run: its state stays sound, and it ends. -/
namespace Go.Proofs.YtpinnockcnmofaaGreatDoor
set_option linter.unusedVariables false

theorem FormedP.load {l : List I} (h : FormedP l) {n : Nat} (hn : n < l.length) : kd (l.getD n default) = 1 → (l.getD n default).k ≤ 60 := fun e => by
  have := h.alone hn
  unfold aloneN aloneV at this
  rw [if_neg (by omega), if_pos (by omega)] at this
  split at this <;> omega
theorem reckN_lt (d : Nat) {a n : Nat} (ha : a < 4294967296) (hn : n < 4294967296) : reckN d a n < 4294967296 := by
  have ha' : a < 2 ^ 32 := ha
  have hn' : n < 2 ^ 32 := hn
  unfold reckN
  repeat' split
  · omega
  · omega
  · exact Nat.mod_lt _ (by omega)
  · exact Nat.lt_of_le_of_lt (Nat.div_le_self a n) ha
  · exact Nat.or_lt_two_pow ha' hn'
  · exact Nat.lt_of_le_of_lt Nat.and_le_left ha
  · exact Nat.mod_lt _ (by omega)
  · exact Nat.lt_of_le_of_lt (Nat.div_le_self a _) ha
  · exact Nat.xor_lt_two_pow ha' hn'
theorem Vs.Ok.cells {s : Vs} (h : s.Ok) (k : Nat) : s.cells.getD k 0 < 4294967296 := by
  rw [List.getD_eq_getElem?_getD]
  cases e : s.cells[k]? with
  | none => decide
  | some v => exact h.cell _ (List.mem_of_getElem? e)
theorem ite_p {α : Type} {P : α → Prop} {c : Prop} [Decidable c] {a b : α} (ha : P a) (hb : P b) : P (if c then a else b) := by split <;> assumption
theorem stepV_ok {W : Nat → Nat} {i : I} {s : Vs} (hs : s.Ok) (hi : i.Ok) (hW : ∀ k, W k < 4294967296) : (stepV W i s).Ok := by
  have hk := hi.2.2.2
  have set_ : ∀ (k v : Nat), v < 4294967296 → ∀ n ∈ s.cells.set k v, n < 4294967296 := fun k v hv n hn => by
    rcases List.mem_or_eq_of_mem_set hn with h | rfl
    · exact hs.cell _ h
    · exact hv
  have ho : othN i s < 4294967296 := by
    unfold othN
    split
    · exact hs.x
    · exact hk
  unfold stepV
  refine ite_p (P := Vs.Ok) ⟨hW _, hs.x, hs.len, hs.cell⟩ ?_
  refine ite_p (P := Vs.Ok) ⟨hk, hs.x, hs.len, hs.cell⟩ ?_
  refine ite_p (P := Vs.Ok) ⟨hs.cells _, hs.x, hs.len, hs.cell⟩ ?_
  refine ite_p (P := Vs.Ok) ⟨by show 64 < _; decide, hs.x, hs.len, hs.cell⟩ ?_
  refine ite_p (P := Vs.Ok) ⟨hs.a, hk, hs.len, hs.cell⟩ ?_
  refine ite_p (P := Vs.Ok) ⟨hs.a, hs.cells _, hs.len, hs.cell⟩ ?_
  refine ite_p (P := Vs.Ok) ⟨hs.a, by show 64 < _; decide, hs.len, hs.cell⟩ ?_
  refine ite_p (P := Vs.Ok) ⟨hs.a, hs.x, by simp [hs.len], set_ _ _ hs.a⟩ ?_
  refine ite_p (P := Vs.Ok) ⟨hs.a, hs.x, by simp [hs.len], set_ _ _ hs.x⟩ ?_
  refine ite_p (P := Vs.Ok) ⟨hs.a, hs.a, hs.len, hs.cell⟩ ?_
  refine ite_p (P := Vs.Ok) ⟨hs.x, hs.x, hs.len, hs.cell⟩ ?_
  refine ite_p (P := Vs.Ok) ⟨Nat.mod_lt _ (by decide), hs.x, hs.len, hs.cell⟩ ?_
  refine ite_p (P := Vs.Ok) ⟨hs.a, hs.x, hs.len, hs.cell⟩ ?_
  refine ite_p (P := Vs.Ok) ⟨hs.a, hs.x, hs.len, hs.cell⟩ ?_
  exact ⟨reckN_lt _ hs.a ho, hs.x, hs.len, hs.cell⟩
theorem v0_ok : v0.Ok := ⟨by decide, by decide, by decide, by decide⟩
/-- Where a step that does not end the run comes to. -/
theorem stepV_at {l : List I} (h : FormedP l) {s : Vs} (hn : s.at_ < l.length) (W : Nat → Nat) (hs : stopV (l.getD s.at_ default) s = none) : s.at_ < (stepV W (l.getD s.at_ default) { s with at_ := s.at_ + 1 }).at_ ∧ (stepV W (l.getD s.at_ default) { s with at_ := s.at_ + 1 }).at_ < l.length := by
  have he : ¬ isEnd (kd (l.getD s.at_ default)) := by
    intro e
    unfold stopV at hs
    rcases e with e | e
    · rw [if_pos e] at hs; cases hs
    · rw [if_neg (by omega), if_pos e] at hs; cases hs
  have h1 := h.on hn he
  have hj := h.jump hn
  have hb := h.branch hn
  generalize l.getD s.at_ default = i at *
  unfold stepV
  have u : s.at_ < s.at_ + 1 := by omega
  by_cases e13 : kd i = 13
  · simp only [e13]
    have := hj e13
    simp
    omega
  by_cases e25 : 25 ≤ kd i
  · have := hb e25
    rw [if_neg (by omega), if_neg (by omega), if_neg (by omega), if_neg (by omega), if_neg (by omega), if_neg (by omega), if_neg (by omega), if_neg (by omega), if_neg (by omega), if_neg (by omega), if_neg (by omega), if_neg (by omega), if_neg (by omega), if_pos e25]
    simp only
    split <;> omega
  rw [if_neg e13, if_neg e25]
  repeat' refine ite_p (P := fun v : Vs => s.at_ < v.at_ ∧ v.at_ < l.length) ⟨u, h1⟩ ?_
  exact ⟨u, h1⟩
/-- More fuel does no more. -/
theorem runV_fuel {l : List I} (h : FormedP l) (W : Nat → Nat) : ∀ (f g : Nat) (s : Vs), s.at_ < l.length → l.length - s.at_ ≤ f → l.length - s.at_ ≤ g → runV l W f s = runV l W g s
  | 0, g, s, hn, h1, h2 => by omega
  | f + 1, 0, s, hn, h1, h2 => by omega
  | f + 1, g + 1, s, hn, h1, h2 => by
    unfold runV
    cases e : stopV (l.getD s.at_ default) s with
    | some v => rfl
    | none =>
      have := stepV_at h hn W e
      simp only
      rw [runV_fuel h W f g _ this.2 (by omega) (by omega)]
theorem runV_stop {l : List I} {W : Nat → Nat} {f : Nat} {s : Vs} {v : Nat} (hf : 0 < f) (e : stopV (l.getD s.at_ default) s = some v) : runV l W f s = (v, 1) := by
  obtain ⟨f, rfl⟩ : ∃ q, f = q + 1 := ⟨f - 1, by omega⟩
  unfold runV
  rw [e]
theorem runV_goes {l : List I} (h : FormedP l) {W : Nat → Nat} {s : Vs} (hn : s.at_ < l.length) (e : stopV (l.getD s.at_ default) s = none) :
    runV l W (l.length - s.at_) s = ((runV l W (l.length - (stepV W (l.getD s.at_ default) { s with at_ := s.at_ + 1 }).at_) (stepV W (l.getD s.at_ default) { s with at_ := s.at_ + 1 })).1, (runV l W (l.length - (stepV W (l.getD s.at_ default) { s with at_ := s.at_ + 1 }).at_) (stepV W (l.getD s.at_ default) { s with at_ := s.at_ + 1 })).2 + 1) := by
  have hat := stepV_at h hn W e
  have e1 : runV l W (l.length - s.at_) s = runV l W (l.length - s.at_ - 1 + 1) s := by rw [show l.length - s.at_ - 1 + 1 = l.length - s.at_ by omega]
  rw [e1]
  conv => lhs; unfold runV
  rw [e]
  simp only
  rw [runV_fuel h W (l.length - s.at_ - 1) (l.length - (stepV W (l.getD s.at_ default) { s with at_ := s.at_ + 1 }).at_) _ hat.2 (by omega) (by omega)]
end Go.Proofs.YtpinnockcnmofaaGreatDoor

/-! A program with an instruction more ahead of it: in plain words. -/
namespace Go.Proofs.YtpinnockcnmofaaGreatDoor
set_option linter.unusedVariables false

structure Sup (b a : List Nat) : Prop where
  len : b.length = a.length
  bit : ∀ m c, (a.getD m 0).testBit c = true → (b.getD m 0).testBit c = true
theorem sup_goes {b a : List Nat} (h : Sup b a) {nb na : Nat} (hn : ∀ c, na.testBit c = true → nb.testBit c = true) (to : Nat) : Sup (goesN b to nb) (goesN a to na) := by
  refine ⟨by rw [goesN_length, goesN_length, h.len], fun m c hm => ?_⟩
  unfold goesN at hm ⊢
  by_cases e : to = m
  · subst e
    by_cases hl : to < a.length
    · rw [getD_set_self _ _ _ _ hl, Nat.testBit_and, Bool.and_eq_true] at hm
      rw [getD_set_self _ _ _ _ (by rw [h.len]; exact hl), Nat.testBit_and, Bool.and_eq_true]
      exact ⟨h.bit _ _ hm.1, hn _ hm.2⟩
    · rw [List.set_eq_of_length_le (by omega)] at hm
      rw [List.set_eq_of_length_le (by rw [h.len]; omega)]
      exact h.bit _ _ hm
  · rw [getD_set_other _ _ _ _ _ e] at hm ⊢
    exact h.bit _ _ hm
theorem sup_fold {nb na : Nat} (hn : ∀ c, na.testBit c = true → nb.testBit c = true) : ∀ (ts b a : List Nat), Sup b a → Sup (ts.foldl (fun a to => goesN a to nb) b) (ts.foldl (fun a to => goesN a to na) a)
  | [], _, _, h => h
  | t :: ts, b, a, h => sup_fold hn ts _ _ (sup_goes h hn t)
theorem sup_now (i : I) {nb na : Nat} (hn : ∀ c, na.testBit c = true → nb.testBit c = true) : ∀ c, (nowN i na).testBit c = true → (nowN i nb).testBit c = true := fun c h => by
  unfold nowN at h ⊢
  split
  · rename_i hs
    rw [if_pos hs, Nat.testBit_or, Bool.or_eq_true] at h
    rw [Nat.testBit_or, Bool.or_eq_true]
    exact h.imp (hn c) id
  · rename_i hs
    rw [if_neg hs] at h
    exact hn c h
theorem sup_step (l : List I) {b a : List Nat} (h : Sup b a) (n : Nat) : Sup (stepN l b n) (stepN l a n) := sup_fold (sup_now _ (h.bit n)) _ _ _ h
theorem sup_steps (l : List I) {b a : List Nat} (h : Sup b a) : ∀ k, Sup ((List.range k).foldl (stepN l) b) ((List.range k).foldl (stepN l) a)
  | 0 => h
  | k + 1 => by
    rw [List.range_succ, List.foldl_append, List.foldl_append]
    exact sup_step l (sup_steps l h k) k
theorem cons_getD {α : Type} (x : α) (l : List α) (n : Nat) (d : α) : (x :: l).getD (n + 1) d = l.getD n d := by simp
theorem next_cons (i : I) (l : List I) (n : Nat) : nextN (i :: l) (n + 1) = (nextN l n).map (· + 1) := by
  unfold nextN
  rw [cons_getD]
  (repeat' split) <;> simp <;> omega
theorem fold_cons (x now : Nat) : ∀ (ts b : List Nat), (ts.map (· + 1)).foldl (fun a to => goesN a to now) (x :: b) = x :: ts.foldl (fun a to => goesN a to now) b
  | [], _ => rfl
  | t :: ts, b => by
    rw [List.map_cons, List.foldl_cons, List.foldl_cons, ← fold_cons x now ts]
    unfold goesN
    simp
theorem step_cons (i : I) (l : List I) (x : Nat) (b : List Nat) (n : Nat) : stepN (i :: l) (x :: b) (n + 1) = x :: stepN l b n := by
  unfold stepN
  rw [next_cons, cons_getD, cons_getD, fold_cons]
theorem upto_cons (i : I) (l : List I) (x : Nat) (b : List Nat) (h : uptoN (i :: l) 1 = x :: b) : ∀ k, uptoN (i :: l) (k + 1) = x :: (List.range k).foldl (stepN l) b
  | 0 => h
  | k + 1 => by
    rw [uptoN_succ, upto_cons i l x b h k, step_cons, List.range_succ, List.foldl_append]
    rfl
/-- An instruction that may stand ahead. -/
structure AheadOk (i : I) (l : List I) : Prop where
  ld : ¬ isLd (kd i)
  end_ : ¬ isEnd (kd i)
  jump : kd i ≠ 13
  branch : ¬ 25 ≤ kd i
  alone : aloneN i l.length = 0
theorem ahead_formed {i : I} {l : List I} (ha : AheadOk i l) (hf : FormedP l) (hlen : l.length ≤ 200) : FormedP (i :: l) := by
  refine ⟨by simp, by simp; omega, fun n hn => ?_, ?_⟩
  · cases n with
    | zero =>
      unfold badAt
      simpa using ha.alone
    | succ n =>
      have h := hf.good n (by simpa using hn)
      unfold badAt at h ⊢
      rw [cons_getD, List.length_cons, show l.length + 1 - 1 - (n + 1) = l.length - 1 - n by omega]
      exact h
  · have := hf.pos
    rw [List.length_cons, show l.length + 1 - 1 = (l.length - 1) + 1 by omega, cons_getD]
    exact hf.last
theorem ahead_first {i : I} {l : List I} (ha : AheadOk i l) (hpos : 0 < l.length) : ∃ x b, uptoN (i :: l) 1 = x :: b ∧ Sup b (startN l.length) := by
  have h1 : uptoN (i :: l) 1 = goesN (startN (l.length + 1)) 1 (nowN i 0) := by
    rw [uptoN_succ]
    show stepN (i :: l) (startN (i :: l).length) 0 = _
    unfold stepN nextN
    simp only [List.getD_cons_zero, if_neg ha.end_, if_neg ha.jump, if_neg ha.branch, List.foldl_cons, List.foldl_nil, List.length_cons]
    simp [startN]
  rw [h1]
  refine ⟨0, goesN (List.replicate l.length 65535) 0 (nowN i 0), ?_, ⟨by simp [goesN, startN], fun m c hm => ?_⟩⟩
  · unfold goesN startN
    simp [List.replicate_succ]
  · unfold startN at hm
    unfold goesN
    by_cases e : 0 = m
    · subst e
      rw [getD_set_self _ _ _ _ (by simpa using hpos)] at hm
      simp at hm
    · rw [getD_set_other _ _ _ _ _ e] at hm ⊢
      exact hm
theorem checkN_ok {l : List I} (h : (checkN l).2 = 0) : (formedN l).2 = 0 ∧ ∀ n, n < l.length → initE l n = 0 := by
  unfold checkN at h
  by_cases hf : (formedN l).2 ≠ 0
  · rw [if_pos hf] at h; exact absurd h hf
  · rw [if_neg hf] at h
    cases hb : findBad (initE l) l.length 0 with
    | some n => rw [hb] at h; simp at h
    | none => exact ⟨by omega, fun n hn => findBad_all _ _ _ hb n (by omega) (by omega)⟩
theorem ahead_check {i : I} {l : List I} (ha : AheadOk i l) (hc : (checkN l).2 = 0) (hlen : l.length ≤ 200) : checkN (i :: l) = (0, 0) := by
  obtain ⟨hf, hi⟩ := checkN_ok hc
  have hP := formed_of hf
  have hP' := ahead_formed ha hP hlen
  have hf' : (formedN (i :: l)).2 = 0 := by rw [formed_iff hP']
  obtain ⟨x, b, h1, hs⟩ := ahead_first ha hP.pos
  refine checkN_end _ hf' (fun n hn => ?_)
  cases n with
  | zero =>
    unfold initE
    rw [if_neg (fun h => ha.ld (by simpa using h.1))]
  | succ n =>
    have hn' : n < l.length := by simpa using hn
    have h := hi n hn'
    unfold initE at h ⊢
    rw [cons_getD]
    have est : storedN (i :: l) = x :: (List.range l.length).foldl (stepN l) b := by
      unfold storedN
      rw [if_pos hf', List.length_cons, upto_cons i l x b h1]
    have est' : storedN l = uptoN l l.length := if_pos hf
    rw [est, cons_getD]
    rw [est'] at h
    have hsup := (sup_steps l hs l.length).bit n (l.getD n default).k
    by_cases hld : isLd (kd (l.getD n default))
    · by_cases hbit : ((uptoN l l.length).getD n 0).testBit (l.getD n default).k = true
      · rw [if_neg (fun g => by have h9 := g.2; rw [hsup hbit] at h9; cases h9)]
      · rw [if_pos ⟨hld, by simpa using hbit⟩] at h; cases h
    · rw [if_neg (fun g => hld g.1)]
end Go.Proofs.YtpinnockcnmofaaGreatDoor

/-! A program ahead of which a jump stands, and so many that are jumped over: in plain words. -/
namespace Go.Proofs.YtpinnockcnmofaaGreatDoor
set_option linter.unusedVariables false

theorem app_getD {α : Type} (pre l : List α) (n : Nat) (d : α) : (pre ++ l).getD (pre.length + n) d = l.getD n d := by
  rw [List.getD_eq_getElem?_getD, List.getD_eq_getElem?_getD, List.getElem?_append_right (by omega), Nat.add_sub_cancel_left]
theorem app_getD_lt {α : Type} (pre l : List α) (n : Nat) (d : α) (h : n < pre.length) : (pre ++ l).getD n d = pre.getD n d := by
  rw [List.getD_eq_getElem?_getD, List.getD_eq_getElem?_getD, List.getElem?_append_left h]
theorem next_app (pre l : List I) (n : Nat) : nextN (pre ++ l) (pre.length + n) = (nextN l n).map (pre.length + ·) := by
  unfold nextN
  rw [app_getD]
  (repeat' split) <;> simp <;> omega
theorem step_app (l : List I) (b : List Nat) (n : Nat) : ∀ (pre : List I) (p : List Nat), p.length = pre.length → stepN (pre ++ l) (p ++ b) (pre.length + n) = p ++ stepN l b n
  | [], [], _ => by simp
  | [], x :: p, h => by simp at h
  | i :: pre, [], h => by simp at h
  | i :: pre, x :: p, h => by
    rw [List.cons_append, List.cons_append, List.length_cons, show pre.length + 1 + n = pre.length + n + 1 by omega, step_cons, step_app l b n pre p (by simpa using h)]
    rfl
theorem upto_app (pre l : List I) (p b : List Nat) (hp : p.length = pre.length) (h : uptoN (pre ++ l) pre.length = p ++ b) : ∀ k, uptoN (pre ++ l) (pre.length + k) = p ++ (List.range k).foldl (stepN l) b
  | 0 => h
  | k + 1 => by
    rw [show pre.length + (k + 1) = pre.length + k + 1 by omega, uptoN_succ, upto_app pre l p b hp h k, step_app l _ k pre p hp, List.range_succ, List.foldl_append]
    rfl
theorem and_65535 {v : Nat} (h : v < 65536) : v &&& 65535 = v := by
  have := Nat.and_two_pow_sub_one_eq_mod v 16
  rw [show (2 : Nat) ^ 16 - 1 = 65535 by decide] at this
  rw [this]
  omega
theorem set_self_getD (l : List Nat) (k : Nat) : l.set k (l.getD k 0) = l := by
  apply List.ext_getElem?
  intro q
  rw [List.getElem?_set]
  split
  · rename_i e
    subst e
    split
    · rename_i h; simp [h]
    · rename_i h; simp at h; simp [h]
  · rfl

def jumpI (n : Nat) : I := ⟨5, 0, 0, n⟩
def negI : I := ⟨132, 0, 0, 0⟩
def preN (n : Nat) : List I := jumpI n :: List.replicate n negI
def joinN (n : Nat) (x : List I) : List I := preN n ++ x
theorem kd_jump (n : Nat) : kd (jumpI n) = 13 := by show (ofN 5).1 = 13; decide
theorem kd_neg : kd negI = 12 := by decide
theorem preN_length (n : Nat) : (preN n).length = n + 1 := by simp [preN]
theorem joinN_length (n : Nat) (x : List I) : (joinN n x).length = n + 1 + x.length := by unfold joinN; rw [List.length_append, preN_length]
theorem joinN_at (n : Nat) (x : List I) (k : Nat) : (joinN n x).getD (n + 1 + k) default = x.getD k default := by
  have := app_getD (preN n) x k default
  rwa [preN_length] at this
theorem joinN_0 (n : Nat) (x : List I) : (joinN n x).getD 0 default = jumpI n := rfl
theorem joinN_neg (n : Nat) (x : List I) (k : Nat) (h0 : 0 < k) (hk : k ≤ n) : (joinN n x).getD k default = negI := by
  unfold joinN
  rw [app_getD_lt _ _ _ _ (by rw [preN_length]; omega)]
  obtain ⟨k, rfl⟩ : ∃ q, k = q + 1 := ⟨k - 1, by omega⟩
  unfold preN
  rw [cons_getD, List.getD_eq_getElem?_getD, List.getElem?_replicate, if_pos (by omega)]
  rfl
theorem join_next (n : Nat) (x : List I) (k : Nat) : nextN (joinN n x) (n + 1 + k) = (nextN x k).map (n + 1 + ·) := by
  have := next_app (preN n) x k
  rwa [preN_length] at this
theorem join_next_0 (n : Nat) (x : List I) : nextN (joinN n x) 0 = [n + 1] := by
  unfold nextN
  rw [joinN_0, if_neg (by rw [kd_jump]; unfold isEnd; omega), if_pos (kd_jump n)]
  simp [jumpI]; omega
theorem join_next_neg (n : Nat) (x : List I) (k : Nat) (h0 : 0 < k) (hk : k ≤ n) : nextN (joinN n x) k = [k + 1] := by
  unfold nextN
  rw [joinN_neg n x k h0 hk, if_neg (by rw [kd_neg]; unfold isEnd; omega), if_neg (by rw [kd_neg]; omega), if_neg (by rw [kd_neg]; omega)]
theorem join_formed {n : Nat} {x : List I} (hP : FormedP x) (hlen : n + 1 + x.length ≤ 4096) : FormedP (joinN n x) := by
  have hpos := hP.pos
  refine ⟨by rw [joinN_length]; omega, by rw [joinN_length]; exact hlen, fun m hm => ?_, ?_⟩
  · rw [joinN_length] at hm
    unfold badAt
    rw [joinN_length]
    by_cases h0 : m = 0
    · subst h0
      rw [joinN_0]
      unfold aloneN aloneV
      rw [kd_jump]
      simp [jumpI]; omega
    · by_cases hk : m ≤ n
      · rw [joinN_neg n x m (by omega) hk]
        unfold aloneN aloneV
        rw [kd_neg]
        simp
      · obtain ⟨k, rfl⟩ : ∃ q, m = n + 1 + q := ⟨m - (n + 1), by omega⟩
        rw [joinN_at]
        have h := hP.good k (by omega)
        unfold badAt at h
        rw [show n + 1 + x.length - 1 - (n + 1 + k) = x.length - 1 - k by omega]
        exact h
  · rw [joinN_length, show n + 1 + x.length - 1 = n + 1 + (x.length - 1) by omega, joinN_at]
    exact hP.last
theorem join_upto (n : Nat) (x : List I) (hx : 0 < x.length) : ∀ k, k ≤ n → uptoN (joinN n x) (k + 1) = (0 :: List.replicate n 65535) ++ startN x.length
  | 0, _ => by
    rw [uptoN_succ]
    show stepN (joinN n x) (startN (joinN n x).length) 0 = _
    unfold stepN
    rw [join_next_0, joinN_length, joinN_0]
    simp only [List.foldl_cons, List.foldl_nil]
    unfold nowN
    rw [if_neg (by rw [kd_jump]; unfold isSt; omega)]
    unfold goesN startN
    obtain ⟨q, hq⟩ : ∃ q, x.length = q + 1 := ⟨x.length - 1, by omega⟩
    rw [hq]
    have e0 : ((List.replicate (n + 1 + (q + 1)) 65535).set 0 0).getD 0 0 = 0 := by
      rw [getD_set_self _ _ _ _ (by rw [List.length_replicate]; omega)]
    rw [e0, Nat.and_zero]
    rw [show n + 1 + (q + 1) = (n + (q + 1)) + 1 by omega, List.replicate_succ, List.set_cons_zero, List.set_cons_succ, List.cons_append]
    congr 1
    rw [← List.replicate_append_replicate, List.set_append_right _ _ (by simp)]
    simp
  | k + 1, hk => by
    rw [uptoN_succ, join_upto n x hx k (by omega)]
    unfold stepN
    rw [join_next_neg n x (k + 1) (by omega) hk, joinN_neg n x (k + 1) (by omega) hk]
    simp only [List.foldl_cons, List.foldl_nil]
    unfold nowN
    rw [if_neg (by rw [kd_neg]; unfold isSt; omega)]
    have hlt : ∀ v ∈ (0 :: List.replicate n 65535) ++ startN x.length, v < 65536 := by
      have := uptoN_lt (joinN n x) (k + 1)
      rwa [join_upto n x hx k (by omega)] at this
    have e1 : ((0 :: List.replicate n 65535) ++ startN x.length).getD (k + 1) 0 = 65535 := by
      rw [app_getD_lt _ _ _ _ (by simp; omega), cons_getD, List.getD_eq_getElem?_getD, List.getElem?_replicate, if_pos (by omega)]
      rfl
    rw [e1]
    unfold goesN
    rw [and_65535 (getD_lt (by omega) hlt _), set_self_getD]
theorem join_stored {n : Nat} {x : List I} (hP : FormedP x) (hlen : n + 1 + x.length ≤ 4096) : storedN (joinN n x) = (0 :: List.replicate n 65535) ++ storedN x := by
  have hP' := join_formed hP hlen
  unfold storedN
  rw [formed_iff hP', formed_iff hP, if_pos rfl, if_pos rfl, joinN_length]
  have h := upto_app (preN n) x (0 :: List.replicate n 65535) (startN x.length) (by simp [preN]) (by rw [preN_length]; exact join_upto n x hP.pos n (Nat.le_refl _)) x.length
  rw [preN_length] at h
  exact h
theorem join_check {n : Nat} {x : List I} (hc : (checkN x).2 = 0) (hlen : n + 1 + x.length ≤ 4096) : checkN (joinN n x) = (0, 0) := by
  obtain ⟨hf, hi⟩ := checkN_ok hc
  have hP := formed_of hf
  have hP' := join_formed hP hlen
  refine checkN_end _ (by rw [formed_iff hP']) (fun m hm => ?_)
  rw [joinN_length] at hm
  unfold initE
  by_cases h0 : m = 0
  · subst h0
    rw [joinN_0, if_neg (fun h => by have := h.1; rw [kd_jump] at this; unfold isLd at this; omega)]
  · by_cases hk : m ≤ n
    · rw [joinN_neg n x m (by omega) hk, if_neg (fun h => by have := h.1; rw [kd_neg] at this; unfold isLd at this; omega)]
    · obtain ⟨k, rfl⟩ : ∃ q, m = n + 1 + q := ⟨m - (n + 1), by omega⟩
      have h := hi k (by omega)
      unfold initE at h
      rw [joinN_at, join_stored hP hlen]
      have e := app_getD (0 :: List.replicate n 65535) (storedN x) k 0
      rw [show (0 :: List.replicate n 65535).length = n + 1 by simp] at e
      rw [e]
      exact h

/-- A run moved. -/
def Vs.at' (s : Vs) (n : Nat) : Vs := { s with at_ := n }
theorem stopV_at' (i : I) (s : Vs) (n : Nat) : stopV i (s.at' n) = stopV i s := rfl
theorem ite_at {c : Prop} [Decidable c] {a b : Vs} {n : Nat} : (if c then a else b).at' n = if c then a.at' n else b.at' n := by split <;> rfl
/-- What a step does to all but the place, and to the place. -/
theorem stepV_move (W : Nat → Nat) (i : I) (s : Vs) (c : Nat) : stepV W i (s.at' (c + s.at_)) = (stepV W i s).at' (c + (stepV W i s).at_) := by
  unfold stepV
  by_cases n1 : kd i = 1
  · simp [n1, Vs.at']
  by_cases n2 : kd i = 2
  · simp [n2, Vs.at']
  by_cases n3 : kd i = 3
  · simp [n3, Vs.at']
  by_cases n4 : kd i = 4
  · simp [n4, Vs.at']
  by_cases n5 : kd i = 5
  · simp [n5, Vs.at']
  by_cases n6 : kd i = 6
  · simp [n6, Vs.at']
  by_cases n7 : kd i = 7
  · simp [n7, Vs.at']
  by_cases n8 : kd i = 8
  · simp [n8, Vs.at']
  by_cases n9 : kd i = 9
  · simp [n9, Vs.at']
  by_cases n10 : kd i = 10
  · simp [n10, Vs.at']
  by_cases n11 : kd i = 11
  · simp [n11, Vs.at']
  by_cases n12 : kd i = 12
  · simp [n12, Vs.at']
  by_cases n13 : kd i = 13
  · simp [n13, Vs.at', Nat.add_assoc]
  by_cases e25 : 25 ≤ kd i
  · simp only [n1, n2, n3, n4, n5, n6, n7, n8, n9, n10, n11, n12, n13, e25, if_false, if_true, Vs.at', othN, Nat.add_assoc]
    rfl
  · simp only [n1, n2, n3, n4, n5, n6, n7, n8, n9, n10, n11, n12, n13, e25, if_false, Vs.at', othN]
theorem runV_app (pre l : List I) (W : Nat → Nat) : ∀ (f : Nat) (s : Vs), runV (pre ++ l) W f (s.at' (pre.length + s.at_)) = runV l W f s
  | 0, s => rfl
  | f + 1, s => by
    unfold runV
    have e : (pre ++ l).getD (s.at' (pre.length + s.at_)).at_ default = l.getD s.at_ default := app_getD pre l s.at_ default
    rw [e, stopV_at']
    cases stopV (l.getD s.at_ default) s with
    | some v => rfl
    | none =>
      simp only
      have e2 : ({ s.at' (pre.length + s.at_) with at_ := (s.at' (pre.length + s.at_)).at_ + 1 } : Vs) = (s.at' (s.at_ + 1)).at' (pre.length + (s.at' (s.at_ + 1)).at_) := by simp [Vs.at']; omega
      rw [e2, stepV_move, runV_app pre l W f]
      rfl
theorem join_run {n : Nat} {x : List I} (hP : FormedP x) (hlen : n + 1 + x.length ≤ 4096) (W : Nat → Nat) : runV (joinN n x) W (joinN n x).length v0 = ((runV x W x.length v0).1, (runV x W x.length v0).2 + 1) := by
  have hP' := join_formed hP hlen
  rw [joinN_length, show n + 1 + x.length = n + x.length + 1 by omega]
  have hpos := hP.pos
  conv => lhs; unfold runV
  have e0 : (joinN n x).getD v0.at_ default = jumpI n := joinN_0 n x
  have e1 : stopV (jumpI n) v0 = none := by
    unfold stopV
    rw [kd_jump]
    simp
  have e2 : stepV W (jumpI n) { v0 with at_ := v0.at_ + 1 } = v0.at' ((preN n).length + v0.at_) := by
    unfold stepV
    rw [kd_jump]
    simp [Vs.at', v0, jumpI, preN]; omega
  rw [e0, e1]
  simp only
  rw [e2]
  unfold joinN
  rw [runV_app, runV_fuel hP W (n + x.length) x.length v0 hpos (by simp [v0]) (by simp [v0])]
end Go.Proofs.YtpinnockcnmofaaGreatDoor

/-! A program without what no way leads to: in plain words. -/
namespace Go.Proofs.YtpinnockcnmofaaGreatDoor
set_option linter.unusedVariables false
set_option linter.unusedSimpArgs false
set_option linter.unusedSectionVars false

/-- How many of the first so many are reached. -/
def cntN (R : List Bool) : Nat → Nat
  | 0 => 0
  | m + 1 => cntN R m + if R.getD m false = true then 1 else 0
theorem cntN_le (R : List Bool) : ∀ m, cntN R m ≤ m
  | 0 => Nat.le_refl _
  | m + 1 => by have := cntN_le R m; unfold cntN; split <;> omega
theorem cntN_mono (R : List Bool) (m : Nat) : ∀ d, cntN R m ≤ cntN R (m + d)
  | 0 => Nat.le_refl _
  | d + 1 => by
    have := cntN_mono R m d
    show _ ≤ cntN R (m + d) + _
    omega
theorem cntN_le_of {R : List Bool} {m k : Nat} (h : m ≤ k) : cntN R m ≤ cntN R k := by
  obtain ⟨d, rfl⟩ : ∃ d, k = m + d := ⟨k - m, by omega⟩
  exact cntN_mono R m d
theorem cntN_true {R : List Bool} {m : Nat} (h : R.getD m false = true) : cntN R (m + 1) = cntN R m + 1 := by
  show cntN R m + _ = _
  rw [if_pos h]
theorem cntN_false {R : List Bool} {m : Nat} (h : ¬ R.getD m false = true) : cntN R (m + 1) = cntN R m := by
  show cntN R m + _ = _
  rw [if_neg h]; rfl
theorem cntN_lt {R : List Bool} {m k : Nat} (hm : R.getD m false = true) (h : m < k) : cntN R m < cntN R k := by
  have h1 := cntN_true hm
  have h2 := cntN_le_of (R := R) (show m + 1 ≤ k from h)
  omega
theorem cntN_inj {R : List Bool} {m k : Nat} (hm : R.getD m false = true) (hk : R.getD k false = true) (h : cntN R m = cntN R k) : m = k := by
  rcases Nat.lt_trichotomy m k with h1 | h1 | h1
  · have := cntN_lt hm h1; omega
  · exact h1
  · have := cntN_lt hk h1; omega
/-- An instruction whose jumps are shortened. -/
def fixN (R : List Bool) (y : List I) (m : Nat) : I :=
  let i := y.getD m default
  if kd i = 13 then { i with k := cntN R (m + 1 + i.k) - cntN R (m + 1) }
  else if 25 ≤ kd i then { i with jt := cntN R (m + 1 + i.jt) - cntN R (m + 1), jf := cntN R (m + 1 + i.jf) - cntN R (m + 1) }
  else i
def pruneU (R : List Bool) (y : List I) : Nat → List I
  | 0 => []
  | m + 1 => pruneU R y m ++ if R.getD m false = true then [fixN R y m] else []
def pruneN (R : List Bool) (y : List I) : List I := pruneU R y y.length
theorem fix_code (R : List Bool) (y : List I) (m : Nat) : (fixN R y m).code = (y.getD m default).code := by unfold fixN; simp only; (repeat' split) <;> rfl
theorem fix_kd (R : List Bool) (y : List I) (m : Nat) : kd (fixN R y m) = kd (y.getD m default) := by unfold kd; rw [fix_code]
theorem fix_kx (R : List Bool) (y : List I) (m : Nat) : kx (fixN R y m) = kx (y.getD m default) := by unfold kx; rw [fix_code]
theorem fix_k {R : List Bool} {y : List I} {m : Nat} (h : kd (y.getD m default) ≠ 13) : (fixN R y m).k = (y.getD m default).k := by unfold fixN; simp only [if_neg h]; split <;> rfl
theorem fix_jump {R : List Bool} {y : List I} {m : Nat} (h : kd (y.getD m default) = 13) : (fixN R y m).k = cntN R (m + 1 + (y.getD m default).k) - cntN R (m + 1) := by unfold fixN; simp only [if_pos h]
theorem fix_jt {R : List Bool} {y : List I} {m : Nat} (h : 25 ≤ kd (y.getD m default)) : (fixN R y m).jt = cntN R (m + 1 + (y.getD m default).jt) - cntN R (m + 1) := by unfold fixN; simp only [if_neg (show ¬ kd (y.getD m default) = 13 by omega), if_pos h]
theorem fix_jf {R : List Bool} {y : List I} {m : Nat} (h : 25 ≤ kd (y.getD m default)) : (fixN R y m).jf = cntN R (m + 1 + (y.getD m default).jf) - cntN R (m + 1) := by unfold fixN; simp only [if_neg (show ¬ kd (y.getD m default) = 13 by omega), if_pos h]
theorem fix_ok {R : List Bool} {y : List I} {m : Nat} (h : (y.getD m default).Ok) : (fixN R y m).Ok := by
  obtain ⟨h1, h2, h3, h4⟩ := h
  have key : ∀ d, cntN R (m + 1 + d) - cntN R (m + 1) ≤ d := fun d => by
    induction d with
    | zero => simp
    | succ d ih =>
      have e : cntN R (m + 1 + (d + 1)) ≤ cntN R (m + 1 + d) + 1 := by
        show cntN R (m + 1 + d) + _ ≤ _
        split <;> omega
      omega
  have k1 := key (y.getD m default).k
  have k2 := key (y.getD m default).jt
  have k3 := key (y.getD m default).jf
  unfold fixN
  simp only
  (repeat' split)
  · exact ⟨h1, h2, h3, by show cntN R _ - cntN R _ < _; omega⟩
  · exact ⟨h1, by show cntN R _ - cntN R _ < _; omega, by show cntN R _ - cntN R _ < _; omega, h4⟩
  · exact ⟨h1, h2, h3, h4⟩
theorem pruneU_length (R : List Bool) (y : List I) : ∀ m, (pruneU R y m).length = cntN R m
  | 0 => rfl
  | m + 1 => by
    show (pruneU R y m ++ _).length = cntN R m + _
    rw [List.length_append, pruneU_length R y m]
    split <;> rfl
theorem pruneU_at (R : List Bool) (y : List I) {m : Nat} (hm : R.getD m false = true) : ∀ N, m < N → (pruneU R y N).getD (cntN R m) default = fixN R y m
  | 0, h => by omega
  | N + 1, h => by
    show (pruneU R y N ++ _).getD _ _ = _
    by_cases e : m = N
    · subst e
      rw [if_pos hm]
      have := app_getD (pruneU R y m) [fixN R y m] 0 default
      rw [pruneU_length] at this
      simpa using this
    · have h1 : m < N := by omega
      rw [app_getD_lt _ _ _ _ (by rw [pruneU_length]; exact cntN_lt hm h1), pruneU_at R y hm N h1]
theorem cntN_has (R : List Bool) : ∀ (N p : Nat), p < cntN R N → ∃ m, m < N ∧ R.getD m false = true ∧ cntN R m = p
  | 0, p, h => by exact absurd h (Nat.not_lt_zero _)
  | N + 1, p, h => by
    by_cases hr : R.getD N false = true
    · rw [cntN_true hr] at h
      by_cases e : p = cntN R N
      · exact ⟨N, by omega, hr, e.symm⟩
      · obtain ⟨m, h1, h2, h3⟩ := cntN_has R N p (by omega)
        exact ⟨m, by omega, h2, h3⟩
    · rw [cntN_false hr] at h
      obtain ⟨m, h1, h2, h3⟩ := cntN_has R N p h
      exact ⟨m, by omega, h2, h3⟩

/-- What is kept: the first, and with each where it leads. -/
structure Kept (R : List Bool) (y : List I) : Prop where
  first : R.getD 0 false = true
  on : ∀ m, m < y.length → R.getD m false = true → ∀ t ∈ nextN y m, R.getD t false = true
section
variable {R : List Bool} {y : List I} (hk : Kept R y) (hP : FormedP y)
include hk hP
theorem prune_length : (pruneN R y).length = cntN R y.length := pruneU_length R y y.length
theorem prune_at {m : Nat} (hm : m < y.length) (hr : R.getD m false = true) : (pruneN R y).getD (cntN R m) default = fixN R y m := pruneU_at R y hr y.length hm
theorem prune_pos : 0 < (pruneN R y).length := by
  rw [prune_length hk hP]
  exact Nat.lt_of_le_of_lt (Nat.zero_le _) (cntN_lt hk.first hP.pos)
theorem prune_next {m : Nat} (hm : m < y.length) (hr : R.getD m false = true) : nextN (pruneN R y) (cntN R m) = (nextN y m).map (cntN R) := by
  have h1 := cntN_true hr
  unfold nextN
  rw [prune_at hk hP hm hr, fix_kd]
  by_cases he : isEnd (kd (y.getD m default))
  · rw [if_pos he, if_pos he]; rfl
  rw [if_neg he, if_neg he]
  by_cases h13 : kd (y.getD m default) = 13
  · rw [if_pos h13, if_pos h13, fix_jump h13]
    have h2 := cntN_le_of (R := R) (show m + 1 ≤ m + 1 + (y.getD m default).k by omega)
    simp only [List.map_cons, List.map_nil]
    congr 1
    omega
  rw [if_neg h13, if_neg h13]
  by_cases h25 : 25 ≤ kd (y.getD m default)
  · rw [if_pos h25, if_pos h25, fix_jt h25, fix_jf h25]
    have h2 := cntN_le_of (R := R) (show m + 1 ≤ m + 1 + (y.getD m default).jt by omega)
    have h3 := cntN_le_of (R := R) (show m + 1 ≤ m + 1 + (y.getD m default).jf by omega)
    simp only [List.map_cons, List.map_nil]
    rw [show cntN R m + 1 + (cntN R (m + 1 + (y.getD m default).jt) - cntN R (m + 1)) = cntN R (m + 1 + (y.getD m default).jt) by omega,
      show cntN R m + 1 + (cntN R (m + 1 + (y.getD m default).jf) - cntN R (m + 1)) = cntN R (m + 1 + (y.getD m default).jf) by omega]
  · rw [if_neg h25, if_neg h25]
    simp only [List.map_cons, List.map_nil]
    rw [h1]
theorem prune_formed : FormedP (pruneN R y) := by
  have hlen := prune_length hk hP
  refine ⟨prune_pos hk hP, by rw [hlen]; exact Nat.le_trans (cntN_le R _) hP.le, fun p hp => ?_, ?_⟩
  · rw [hlen] at hp
    obtain ⟨m, hm, hr, rfl⟩ := cntN_has R y.length p hp
    have h := hP.alone hm
    have hj := hP.jump hm
    have hb := hP.branch hm
    have h1 := cntN_true hr
    have hon := hk.on m hm hr
    unfold badAt
    rw [prune_at hk hP hm hr, hlen]
    unfold aloneN at h ⊢
    rw [fix_kd, fix_kx]
    by_cases h13 : kd (y.getD m default) = 13
    · have ht : R.getD (m + 1 + (y.getD m default).k) false = true := hon _ (by unfold nextN; rw [if_neg (by unfold isEnd; omega), if_pos h13]; simp)
      have h2 := cntN_lt ht (hj h13)
      have h3 := cntN_le_of (R := R) (show m + 1 ≤ m + 1 + (y.getD m default).k by omega)
      rw [fix_jump h13]
      unfold aloneV
      rw [if_neg (by omega), if_neg (by omega), if_neg (by omega), if_neg (by omega), if_neg (by omega), if_pos h13, if_neg (by omega)]
    · rw [fix_k h13]
      by_cases h25 : 25 ≤ kd (y.getD m default)
      · have ht : R.getD (m + 1 + (y.getD m default).jt) false = true := hon _ (by unfold nextN; rw [if_neg (by unfold isEnd; omega), if_neg h13, if_pos h25]; simp)
        have hf : R.getD (m + 1 + (y.getD m default).jf) false = true := hon _ (by unfold nextN; rw [if_neg (by unfold isEnd; omega), if_neg h13, if_pos h25]; simp)
        have h2 := cntN_lt ht (hb h25).1
        have h3 := cntN_lt hf (hb h25).2
        have h4 := cntN_le_of (R := R) (show m + 1 ≤ m + 1 + (y.getD m default).jt by omega)
        have h5 := cntN_le_of (R := R) (show m + 1 ≤ m + 1 + (y.getD m default).jf by omega)
        rw [fix_jt h25, fix_jf h25]
        unfold aloneV
        rw [if_neg (by omega), if_neg (by omega), if_neg (by omega), if_neg (by omega), if_neg (by omega), if_neg h13]
        split
        · rw [if_neg (by omega)]
        · rfl
      · unfold aloneV at h ⊢
        have hno : ¬ (kd (y.getD m default) = 25 ∨ kd (y.getD m default) = 26 ∨ kd (y.getD m default) = 27 ∨ kd (y.getD m default) = 28) := by omega
        rw [if_neg h13, if_neg hno] at h ⊢
        exact h
  · rw [hlen]
    have hp := prune_pos hk hP
    rw [hlen] at hp
    obtain ⟨m, hm, hr, he⟩ := cntN_has R y.length (cntN R y.length - 1) (by omega)
    rw [← he, prune_at hk hP hm hr, fix_kd]
    by_cases hend : isEnd (kd (y.getD m default))
    · exact hend
    exfalso
    have h1 : nextN y m ≠ [] := by
      unfold nextN
      rw [if_neg hend]
      (repeat' split) <;> simp
    obtain ⟨t, ht⟩ := List.exists_mem_of_ne_nil _ h1
    have h2 := hP.next hm t ht
    have h3 := hk.on m hm hr t ht
    have h4 := cntN_lt hr h2.1
    have h5 := cntN_lt h3 h2.2
    omega

/-- What is stored in the whole is stored in the pruned. -/
def SupR (R : List Bool) (n : Nat) (b a : List Nat) : Prop := b.length = cntN R n ∧ a.length = n ∧ ∀ m, m < n → R.getD m false = true → ∀ c, (a.getD m 0).testBit c = true → (b.getD (cntN R m) 0).testBit c = true
omit hk hP in
theorem goes_bits {a : List Nat} {t now m c : Nat} (h : ((goesN a t now).getD m 0).testBit c = true) : (a.getD m 0).testBit c = true := by
  unfold goesN at h
  by_cases e : t = m
  · subst e
    by_cases hl : t < a.length
    · rw [getD_set_self _ _ _ _ hl, Nat.testBit_and, Bool.and_eq_true] at h
      exact h.1
    · rw [List.set_eq_of_length_le (by omega)] at h; exact h
  · rwa [getD_set_other _ _ _ _ _ e] at h
omit hk hP in
theorem supR_low {n : Nat} {b : List Nat} (now : Nat) : ∀ (ts a : List Nat), SupR R n b a → SupR R n b (ts.foldl (fun a to => goesN a to now) a)
  | [], a, h => h
  | t :: ts, a, h => supR_low now ts _ ⟨h.1, by rw [goesN_length]; exact h.2.1, fun m hm hr c hc => h.2.2 m hm hr c (goes_bits hc)⟩
omit hk hP in
theorem supR_goes {n : Nat} {b a : List Nat} (h : SupR R n b a) {nb na : Nat} (hn : ∀ c, na.testBit c = true → nb.testBit c = true) {t : Nat} (ht : t < n) (hr : R.getD t false = true) : SupR R n (goesN b (cntN R t) nb) (goesN a t na) := by
  refine ⟨by rw [goesN_length]; exact h.1, by rw [goesN_length]; exact h.2.1, fun m hm hrm c hc => ?_⟩
  by_cases e : t = m
  · subst e
    unfold goesN at hc ⊢
    rw [getD_set_self _ _ _ _ (by rw [h.2.1]; exact ht), Nat.testBit_and, Bool.and_eq_true] at hc
    rw [getD_set_self _ _ _ _ (by rw [h.1]; exact cntN_lt hr ht), Nat.testBit_and, Bool.and_eq_true]
    exact ⟨h.2.2 t ht hr c hc.1, hn c hc.2⟩
  · unfold goesN at hc ⊢
    rw [getD_set_other _ _ _ _ _ e] at hc
    rw [getD_set_other _ _ _ _ _ (fun q => e (cntN_inj hr hrm q))]
    exact h.2.2 m hm hrm c hc
omit hk hP in
theorem supR_fold {n : Nat} {nb na : Nat} (hn : ∀ c, na.testBit c = true → nb.testBit c = true) : ∀ (ts b a : List Nat), (∀ t ∈ ts, t < n ∧ R.getD t false = true) → SupR R n b a → SupR R n ((ts.map (cntN R)).foldl (fun a to => goesN a to nb) b) (ts.foldl (fun a to => goesN a to na) a)
  | [], b, a, _, h => h
  | t :: ts, b, a, ht, h => supR_fold hn ts _ _ (fun u hu => ht u (by simp [hu])) (supR_goes h hn (ht t (by simp)).1 (ht t (by simp)).2)
theorem supR_upto : ∀ k, k ≤ y.length → SupR R y.length (uptoN (pruneN R y) (cntN R k)) (uptoN y k)
  | 0, _ => by
    refine ⟨by rw [uptoN_length, prune_length hk hP], by rw [uptoN_length], fun m hm hr c hc => ?_⟩
    have e1 : uptoN y 0 = startN y.length := rfl
    have e2 : uptoN (pruneN R y) (cntN R 0) = startN (pruneN R y).length := rfl
    rw [e1] at hc
    rw [e2]
    unfold startN at hc ⊢
    by_cases h0 : m = 0
    · subst h0
      rw [getD_set_self _ _ _ _ (by simpa using hm)] at hc
      simp at hc
    · rw [getD_set_other _ _ _ _ _ (fun e => h0 e.symm), List.getD_eq_getElem?_getD, List.getElem?_replicate, if_pos hm] at hc
      have hlt := cntN_lt hr hm
      have hgt := cntN_lt hk.first (show 0 < m by omega)
      rw [getD_set_other _ _ _ _ _ (by omega), List.getD_eq_getElem?_getD, List.getElem?_replicate, if_pos (by rw [prune_length hk hP]; exact hlt)]
      exact hc
  | k + 1, h => by
    have ih := supR_upto k (by omega)
    rw [uptoN_succ]
    by_cases hr : R.getD k false = true
    · rw [cntN_true hr, uptoN_succ]
      unfold stepN
      rw [prune_next hk hP (by omega) hr]
      refine supR_fold ?_ _ _ _ (fun t ht => ⟨(hP.next (by omega) t ht).2, hk.on k (by omega) hr t ht⟩) ih
      rw [prune_at hk hP (by omega) hr]
      intro c hc
      have hb := ih.2.2 k (by omega) hr
      unfold nowN at hc ⊢
      rw [fix_kd]
      by_cases hs : isSt (kd (y.getD k default))
      · rw [if_pos hs, Nat.testBit_or, Bool.or_eq_true] at hc
        rw [if_pos hs, Nat.testBit_or, Bool.or_eq_true, fix_k (by unfold isSt at hs; omega)]
        exact hc.imp (hb c) id
      · rw [if_neg hs] at hc ⊢
        exact hb c hc
    · rw [cntN_false hr]
      exact supR_low _ _ _ ih
theorem prune_check (hc : (checkN y).2 = 0) : checkN (pruneN R y) = (0, 0) := by
  obtain ⟨hf, hi⟩ := checkN_ok hc
  have hP' := prune_formed hk hP
  refine checkN_end _ (by rw [formed_iff hP']) (fun p hp => ?_)
  rw [prune_length hk hP] at hp
  obtain ⟨m, hm, hr, rfl⟩ := cntN_has R y.length p hp
  have h := hi m hm
  unfold initE at h ⊢
  rw [prune_at hk hP hm hr, fix_kd]
  by_cases hld : isLd (kd (y.getD m default))
  · have e1 : storedN y = uptoN y y.length := if_pos hf
    have e2 : storedN (pruneN R y) = uptoN (pruneN R y) (cntN R y.length) := by
      unfold storedN
      rw [if_pos (by rw [formed_iff hP']), prune_length hk hP]
    have hs := (supR_upto hk hP y.length (Nat.le_refl _)).2.2 m hm hr (y.getD m default).k
    rw [e1] at h
    rw [e2, fix_k (by unfold isLd at hld; omega)]
    by_cases hb : ((uptoN y y.length).getD m 0).testBit (y.getD m default).k = true
    · rw [if_neg (fun g => by have g2 := g.2; rw [hs hb] at g2; cases g2)]
    · rw [if_pos ⟨hld, by simpa using hb⟩] at h; cases h
  · rw [if_neg (fun g => hld g.1)]

/-- Where a step leads is among the next. -/
theorem stepV_next {s : Vs} (hn : s.at_ < y.length) (W : Nat → Nat) (hs : stopV (y.getD s.at_ default) s = none) : (stepV W (y.getD s.at_ default) { s with at_ := s.at_ + 1 }).at_ ∈ nextN y s.at_ := by
  have he : ¬ isEnd (kd (y.getD s.at_ default)) := by
    intro e
    unfold stopV at hs
    rcases e with e | e
    · rw [if_pos e] at hs; cases hs
    · rw [if_neg (by omega), if_pos e] at hs; cases hs
  unfold nextN
  rw [if_neg he]
  generalize y.getD s.at_ default = i at *
  unfold stepV
  by_cases e13 : kd i = 13
  · simp [e13]
  by_cases n1 : kd i = 1
  · simp [n1]
  by_cases n2 : kd i = 2
  · simp [n2]
  by_cases n3 : kd i = 3
  · simp [n3]
  by_cases n4 : kd i = 4
  · simp [n4]
  by_cases n5 : kd i = 5
  · simp [n5]
  by_cases n6 : kd i = 6
  · simp [n6]
  by_cases n7 : kd i = 7
  · simp [n7]
  by_cases n8 : kd i = 8
  · simp [n8]
  by_cases n9 : kd i = 9
  · simp [n9]
  by_cases n10 : kd i = 10
  · simp [n10]
  by_cases n11 : kd i = 11
  · simp [n11]
  by_cases n12 : kd i = 12
  · simp [n12]
  by_cases e25 : 25 ≤ kd i
  · simp only [n1, n2, n3, n4, n5, n6, n7, n8, n9, n10, n11, n12, e13, e25, if_false, if_true]
    split <;> simp
  · simp only [n1, n2, n3, n4, n5, n6, n7, n8, n9, n10, n11, n12, e13, e25, if_false]
    simp
theorem prune_step {s : Vs} (hn : s.at_ < y.length) (hr : R.getD s.at_ false = true) (W : Nat → Nat) :
    stepV W (fixN R y s.at_) (s.at' (cntN R s.at_ + 1)) = (stepV W (y.getD s.at_ default) { s with at_ := s.at_ + 1 }).at' (cntN R (stepV W (y.getD s.at_ default) { s with at_ := s.at_ + 1 }).at_) := by
  have h1 := cntN_true hr
  have hk13 := fix_k (R := R) (y := y) (m := s.at_)
  have hj := fix_jump (R := R) (y := y) (m := s.at_)
  have hjt := fix_jt (R := R) (y := y) (m := s.at_)
  have hjf := fix_jf (R := R) (y := y) (m := s.at_)
  have hx := fix_kx R y s.at_
  have hle : ∀ d, cntN R (s.at_ + 1) ≤ cntN R (s.at_ + 1 + d) := cntN_mono R (s.at_ + 1)
  unfold stepV
  rw [fix_kd]
  generalize y.getD s.at_ default = i at *
  generalize fixN R y s.at_ = i' at *
  by_cases e13 : kd i = 13
  · have := hle i.k
    simp only [e13]
    simp [Vs.at', hj e13]
    omega
  have hoth : ∀ q : Vs, othN i' q = othN i q := fun q => by unfold othN; rw [hx, hk13 e13]
  by_cases n1 : kd i = 1
  · have h13 : ¬ kd i = 13 := by omega
    simp [n1, Vs.at', h1, hk13 h13]
  by_cases n2 : kd i = 2
  · have h13 : ¬ kd i = 13 := by omega
    simp [n2, Vs.at', h1, hk13 h13]
  by_cases n3 : kd i = 3
  · have h13 : ¬ kd i = 13 := by omega
    simp [n3, Vs.at', h1, hk13 h13]
  by_cases n4 : kd i = 4
  · have h13 : ¬ kd i = 13 := by omega
    simp [n4, Vs.at', h1, hk13 h13]
  by_cases n5 : kd i = 5
  · have h13 : ¬ kd i = 13 := by omega
    simp [n5, Vs.at', h1, hk13 h13]
  by_cases n6 : kd i = 6
  · have h13 : ¬ kd i = 13 := by omega
    simp [n6, Vs.at', h1, hk13 h13]
  by_cases n7 : kd i = 7
  · have h13 : ¬ kd i = 13 := by omega
    simp [n7, Vs.at', h1, hk13 h13]
  by_cases n8 : kd i = 8
  · have h13 : ¬ kd i = 13 := by omega
    simp [n8, Vs.at', h1, hk13 h13]
  by_cases n9 : kd i = 9
  · have h13 : ¬ kd i = 13 := by omega
    simp [n9, Vs.at', h1, hk13 h13]
  by_cases n10 : kd i = 10
  · have h13 : ¬ kd i = 13 := by omega
    simp [n10, Vs.at', h1, hk13 h13]
  by_cases n11 : kd i = 11
  · have h13 : ¬ kd i = 13 := by omega
    simp [n11, Vs.at', h1, hk13 h13]
  by_cases n12 : kd i = 12
  · have h13 : ¬ kd i = 13 := by omega
    simp [n12, Vs.at', h1, hk13 h13]
  by_cases e25 : 25 ≤ kd i
  · have a1 := hle i.jt
    have a2 := hle i.jf
    have ho : othN i (s.at' (cntN R s.at_ + 1)) = othN i { s with at_ := s.at_ + 1 } := rfl
    simp only [n1, n2, n3, n4, n5, n6, n7, n8, n9, n10, n11, n12, e13, e25, if_false, if_true, hoth, hjt e25, hjf e25, ho]
    by_cases hi : isN (kd i) s.a (othN i { s with at_ := s.at_ + 1 }) = true
    · simp only [Vs.at', hi, if_true]
      rw [show cntN R s.at_ + 1 + (cntN R (s.at_ + 1 + i.jt) - cntN R (s.at_ + 1)) = cntN R (s.at_ + 1 + i.jt) by omega]
    · simp only [Vs.at', hi, Bool.false_eq_true, if_false]
      rw [show cntN R s.at_ + 1 + (cntN R (s.at_ + 1 + i.jf) - cntN R (s.at_ + 1)) = cntN R (s.at_ + 1 + i.jf) by omega]
  · simp only [n1, n2, n3, n4, n5, n6, n7, n8, n9, n10, n11, n12, e13, e25, if_false, hoth]
    simp only [Vs.at', h1, othN]
theorem prune_runV (W : Nat → Nat) : ∀ (f : Nat) (s : Vs), s.at_ < y.length → R.getD s.at_ false = true → runV (pruneN R y) W f (s.at' (cntN R s.at_)) = runV y W f s
  | 0, s, _, _ => rfl
  | f + 1, s, hn, hr => by
    unfold runV
    have e : (pruneN R y).getD (s.at' (cntN R s.at_)).at_ default = fixN R y s.at_ := prune_at hk hP hn hr
    have e1 : stopV (fixN R y s.at_) (s.at' (cntN R s.at_)) = stopV (y.getD s.at_ default) s := by
      rw [stopV_at']
      unfold stopV
      rw [fix_kd]
      by_cases e13 : kd (y.getD s.at_ default) = 13
      · rw [e13]; simp
      · have : othN (fixN R y s.at_) s = othN (y.getD s.at_ default) s := by unfold othN; rw [fix_kx, fix_k e13]
        rw [this, fix_k e13]
    rw [e, e1]
    cases es : stopV (y.getD s.at_ default) s with
    | some v => rfl
    | none =>
      have hx := stepV_next hk hP hn W es
      have hin := (hP.next hn _ hx).2
      have hrn := hk.on _ hn hr _ hx
      have e2 : ({ s.at' (cntN R s.at_) with at_ := (s.at' (cntN R s.at_)).at_ + 1 } : Vs) = s.at' (cntN R s.at_ + 1) := rfl
      simp only
      rw [e2, prune_step hk hP hn hr W, prune_runV W f _ hin hrn]
theorem prune_run (W : Nat → Nat) : runV (pruneN R y) W (pruneN R y).length v0 = runV y W y.length v0 := by
  have hP' := prune_formed hk hP
  have hpos := prune_pos hk hP
  have h := prune_runV hk hP W y.length v0 hP.pos hk.first
  have e : v0.at' (cntN R v0.at_) = v0 := rfl
  rw [e] at h
  rw [← h]
  refine runV_fuel hP' W _ _ v0 hpos (by simp [v0]) ?_
  rw [prune_length hk hP]
  exact Nat.le_trans (Nat.sub_le _ _) (cntN_le R _)
end
end Go.Proofs.YtpinnockcnmofaaGreatDoor

/-! flow.Reach in plain words: a queue. -/
namespace Go.Proofs.YtpinnockcnmofaaGreatDoor
set_option linter.unusedVariables false

/-- Looking at one. -/
def lookN (s : List Bool × List Nat) (k : Nat) : List Bool × List Nat := if s.1.getD k false = true then s else (s.1.set k true, s.2 ++ [k])
/-- How many are not seen yet. -/
def falsesN : List Bool → Nat
  | [] => 0
  | b :: l => (if b = true then 0 else 1) + falsesN l
theorem falsesN_le : ∀ l : List Bool, falsesN l ≤ l.length
  | [] => Nat.le_refl _
  | b :: l => by have := falsesN_le l; unfold falsesN; rw [List.length_cons]; split <;> omega
theorem falsesN_set : ∀ (l : List Bool) (k : Nat), k < l.length → l.getD k false = false → falsesN (l.set k true) + 1 = falsesN l
  | [], k, h, _ => by simp at h
  | b :: l, 0, _, hf => by
    have : b = false := by simpa using hf
    subst this
    simp [falsesN]
    omega
  | b :: l, k + 1, h, hf => by
    have := falsesN_set l k (by simpa using h) (by simpa using hf)
    rw [List.set_cons_succ]
    unfold falsesN
    omega
theorem lookN_length (s : List Bool × List Nat) (k : Nat) : (lookN s k).1.length = s.1.length := by unfold lookN; split <;> simp
theorem lookN_sum (s : List Bool × List Nat) (k : Nat) (hk : k < s.1.length) : (lookN s k).2.length + falsesN (lookN s k).1 = s.2.length + falsesN s.1 := by
  unfold lookN
  split
  · rfl
  · rename_i h
    have h1 := falsesN_set s.1 k hk (by simpa using h)
    simp only [List.length_append, List.length_cons, List.length_nil]
    omega
theorem lookN_mem (s : List Bool × List Nat) (k n : Nat) (hk : k < n) (h : ∀ m ∈ s.2, m < n) : ∀ m ∈ (lookN s k).2, m < n := by
  unfold lookN
  split
  · exact h
  · intro m hm
    rcases List.mem_append.1 hm with hm | hm
    · exact h m hm
    · rw [List.mem_singleton.1 hm]; exact hk
theorem setB_getD (l : List Bool) (k m : Nat) : (l.set k true).getD m false = if k = m ∧ k < l.length then true else l.getD m false := by
  rw [List.getD_eq_getElem?_getD, List.getD_eq_getElem?_getD, List.getElem?_set]
  by_cases h : k = m
  · subst h
    by_cases hk : k < l.length
    · simp [hk]
    · simp [hk]
  · simp [h]
theorem lookN_true (s : List Bool × List Nat) (k : Nat) (hk : k < s.1.length) : (lookN s k).1.getD k false = true := by
  unfold lookN
  split
  · assumption
  · simp only; rw [setB_getD, if_pos ⟨rfl, hk⟩]
theorem lookN_keeps (s : List Bool × List Nat) (k m : Nat) (h : s.1.getD m false = true) : (lookN s k).1.getD m false = true := by
  unfold lookN
  split
  · exact h
  · simp only; rw [setB_getD]; split <;> first | rfl | exact h
theorem lookN_new (s : List Bool × List Nat) (k m : Nat) (h : (lookN s k).1.getD m false = true) : s.1.getD m false = true ∨ m ∈ (lookN s k).2 := by
  unfold lookN at h ⊢
  split
  · rename_i h1; rw [if_pos h1] at h; exact .inl h
  · rename_i h1
    rw [if_neg h1] at h
    simp only at h ⊢
    rw [setB_getD] at h
    by_cases e : k = m
    · exact .inr (by simp [e])
    · rw [if_neg (fun q => e q.1)] at h
      exact .inl h
theorem lookN_queue (s : List Bool × List Nat) (k m : Nat) (h : m ∈ s.2) : m ∈ (lookN s k).2 := by
  unfold lookN
  split
  · exact h
  · exact List.mem_append.2 (.inl h)
end Go.Proofs.YtpinnockcnmofaaGreatDoor

/-! flow.Reach in plain words: looking at several. -/
namespace Go.Proofs.YtpinnockcnmofaaGreatDoor
set_option linter.unusedVariables false

theorem foldL_keeps : ∀ (ts : List Nat) (s : List Bool × List Nat) (m : Nat), s.1.getD m false = true → (ts.foldl lookN s).1.getD m false = true
  | [], s, m, h => h
  | t :: ts, s, m, h => foldL_keeps ts (lookN s t) m (lookN_keeps s t m h)
theorem foldL_queue : ∀ (ts : List Nat) (s : List Bool × List Nat) (m : Nat), m ∈ s.2 → m ∈ (ts.foldl lookN s).2
  | [], s, m, h => h
  | t :: ts, s, m, h => foldL_queue ts (lookN s t) m (lookN_queue s t m h)
theorem foldL_new : ∀ (ts : List Nat) (s : List Bool × List Nat) (m : Nat), (ts.foldl lookN s).1.getD m false = true → s.1.getD m false = true ∨ m ∈ (ts.foldl lookN s).2
  | [], s, m, h => .inl h
  | t :: ts, s, m, h => by
    rcases foldL_new ts (lookN s t) m h with h1 | h1
    · rcases lookN_new s t m h1 with h2 | h2
      · exact .inl h2
      · exact .inr (foldL_queue ts (lookN s t) m h2)
    · exact .inr h1
theorem foldL_length : ∀ (ts : List Nat) (s : List Bool × List Nat), (ts.foldl lookN s).1.length = s.1.length
  | [], s => rfl
  | t :: ts, s => (foldL_length ts (lookN s t)).trans (lookN_length s t)
theorem foldL_true : ∀ (ts : List Nat) (s : List Bool × List Nat) (t : Nat), t ∈ ts → t < s.1.length → (ts.foldl lookN s).1.getD t false = true
  | [], s, t, h, _ => by cases h
  | u :: ts, s, t, h, hl => by
    rcases List.mem_cons.1 h with rfl | h
    · exact foldL_keeps ts (lookN s t) t (lookN_true s t hl)
    · exact foldL_true ts (lookN s u) t h (by rw [lookN_length]; exact hl)
end Go.Proofs.YtpinnockcnmofaaGreatDoor

/-! flow.Reach in plain words: what is reached holds the first, and with each where it leads. -/
namespace Go.Proofs.YtpinnockcnmofaaGreatDoor
set_option linter.unusedVariables false

/-- The rounds. -/
def roundN (l : List I) : Nat → List Bool × List Nat → List Bool
  | 0, s => s.1
  | f + 1, s => match s.2 with
    | [] => s.1
    | n :: q => roundN l f ((nextN l n).foldl lookN (s.1, q))
def reachN (l : List I) : List Bool := roundN l (l.length + 1) (lookN (List.replicate l.length false, []) 0)

theorem foldL_sum : ∀ (ts : List Nat) (s : List Bool × List Nat), (∀ t ∈ ts, t < s.1.length) → (ts.foldl lookN s).2.length + falsesN (ts.foldl lookN s).1 = s.2.length + falsesN s.1
  | [], s, _ => rfl
  | t :: ts, s, h => by
    have h1 := foldL_sum ts (lookN s t) (fun u hu => by rw [lookN_length]; exact h u (by simp [hu]))
    rw [List.foldl_cons, h1, lookN_sum s t (h t (by simp))]
theorem foldL_mem (n : Nat) : ∀ (ts : List Nat) (s : List Bool × List Nat), (∀ t ∈ ts, t < n) → (∀ m ∈ s.2, m < n) → ∀ m ∈ (ts.foldl lookN s).2, m < n
  | [], s, _, h => h
  | t :: ts, s, ht, h => foldL_mem n ts (lookN s t) (fun u hu => ht u (by simp [hu])) (lookN_mem s t n (ht t (by simp)) h)
/-- What holds between rounds. -/
structure Round (l : List I) (s : List Bool × List Nat) : Prop where
  len : s.1.length = l.length
  mem : ∀ m ∈ s.2, m < l.length
  first : s.1.getD 0 false = true
  on : ∀ m, m < l.length → s.1.getD m false = true → m ∈ s.2 ∨ ∀ t ∈ nextN l m, s.1.getD t false = true
theorem round_start {l : List I} (hP : FormedP l) : Round l (lookN (List.replicate l.length false, []) 0) := by
  have hpos := hP.pos
  have hf : ∀ m, (List.replicate l.length false).getD m false = false := fun m => by
    rw [List.getD_eq_getElem?_getD, List.getElem?_replicate]; split <;> rfl
  refine ⟨by rw [lookN_length]; simp, lookN_mem _ _ _ hpos (fun m h => by cases h), lookN_true _ _ (by simpa using hpos), fun m hm h => ?_⟩
  rcases lookN_new _ _ _ h with h1 | h1
  · rw [hf] at h1; cases h1
  · exact .inl h1
theorem round_on {l : List I} (hP : FormedP l) {o : List Bool} {n : Nat} {q : List Nat} (h : Round l (o, n :: q)) : Round l ((nextN l n).foldl lookN (o, q)) := by
  have hn : n < l.length := h.mem n (by simp)
  refine ⟨by rw [foldL_length]; exact h.len, foldL_mem _ _ _ (fun t ht => (hP.next hn t ht).2) (fun m hm => h.mem m (by simp [show m ∈ q from hm])), foldL_keeps _ _ _ h.first, fun m hm hr => ?_⟩
  by_cases e : m = n
  · subst e
    right
    intro t ht
    refine foldL_true _ _ t ht ?_
    rw [show (o, q).1 = (o, m :: q).1 from rfl, h.len]
    exact (hP.next hn t ht).2
  · rcases foldL_new _ _ _ hr with h1 | h1
    · rcases h.on m hm h1 with h2 | h2
      · left
        refine foldL_queue _ _ _ ?_
        rcases List.mem_cons.1 h2 with h3 | h3
        · exact absurd h3 e
        · exact h3
      · right
        intro t ht
        exact foldL_keeps _ _ _ (h2 t ht)
    · exact .inl h1
theorem round_kept {l : List I} (hP : FormedP l) : ∀ (f : Nat) (s : List Bool × List Nat), Round l s → s.2.length + falsesN s.1 < f → Kept (roundN l f s) l ∧ (roundN l f s).length = l.length
  | 0, s, _, h => by omega
  | f + 1, (o, []), h, hlt => by
    unfold roundN
    simp only
    refine ⟨⟨h.first, fun m hm hr t ht => ?_⟩, h.len⟩
    rcases h.on m hm hr with h1 | h1
    · cases h1
    · exact h1 t ht
  | f + 1, (o, n :: q), h, hlt => by
    unfold roundN
    simp only
    have hn : n < l.length := h.mem n (by simp)
    refine round_kept hP f _ (round_on hP h) ?_
    rw [foldL_sum _ _ (fun t ht => by rw [show (o, q).1 = (o, n :: q).1 from rfl, h.len]; exact (hP.next hn t ht).2)]
    simp only [List.length_cons] at hlt ⊢
    omega
theorem start_lt (l : List I) (hpos : 0 < l.length) : (lookN (List.replicate l.length false, []) 0).2.length + falsesN (lookN (List.replicate l.length false, []) 0).1 < l.length + 1 := by
  rw [lookN_sum _ _ (by simpa using hpos)]
  have := falsesN_le (List.replicate l.length false)
  simp only [List.length_replicate, List.length_nil] at this ⊢
  omega
theorem reach_kept {l : List I} (hP : FormedP l) : Kept (reachN l) l ∧ (reachN l).length = l.length := round_kept hP _ _ (round_start hP) (start_lt l hP.pos)
end Go.Proofs.YtpinnockcnmofaaGreatDoor
