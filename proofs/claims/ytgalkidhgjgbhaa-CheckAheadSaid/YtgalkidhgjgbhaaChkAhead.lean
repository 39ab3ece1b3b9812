/-
  A program with an instruction more ahead of it: in plain words.
-/
import Derived.Test.YtgalkidhgjgbhaaChkCheck
namespace Go.Proofs.Ytgalkidhgjgbhaa
set_option linter.unusedVariables false

structure Sup (b a : List Nat) : Prop where
  len : b.length = a.length
  bit : ∀ m c, (a.getD m 0).testBit c = true → (b.getD m 0).testBit c = true
theorem sup_goes {b a : List Nat} (h : Sup b a) {nb na : Nat} (hn : ∀ c, na.testBit c = true → nb.testBit c = true) (to : Nat) : Sup (goesN b to nb) (goesN a to na) := by
  refine ⟨by rw [goesN_length, goesN_length, h.len], fun m c hm => ?_⟩
  unfold goesN at hm ⊢
  by_cases e : to = m
  · subst e
    by_cases hl : to < a.length
    · rw [getD_set_self _ _ _ _ hl, Nat.testBit_and, Bool.and_eq_true] at hm
      rw [getD_set_self _ _ _ _ (by rw [h.len]; exact hl), Nat.testBit_and, Bool.and_eq_true]
      exact ⟨h.bit _ _ hm.1, hn _ hm.2⟩
    · rw [List.set_eq_of_length_le (by omega)] at hm
      rw [List.set_eq_of_length_le (by rw [h.len]; omega)]
      exact h.bit _ _ hm
  · rw [getD_set_other _ _ _ _ _ e] at hm ⊢
    exact h.bit _ _ hm
theorem sup_fold {nb na : Nat} (hn : ∀ c, na.testBit c = true → nb.testBit c = true) : ∀ (ts b a : List Nat), Sup b a → Sup (ts.foldl (fun a to => goesN a to nb) b) (ts.foldl (fun a to => goesN a to na) a)
  | [], _, _, h => h
  | t :: ts, b, a, h => sup_fold hn ts _ _ (sup_goes h hn t)
theorem sup_now (i : I) {nb na : Nat} (hn : ∀ c, na.testBit c = true → nb.testBit c = true) : ∀ c, (nowN i na).testBit c = true → (nowN i nb).testBit c = true := fun c h => by
  unfold nowN at h ⊢
  split
  · rename_i hs
    rw [if_pos hs, Nat.testBit_or, Bool.or_eq_true] at h
    rw [Nat.testBit_or, Bool.or_eq_true]
    exact h.imp (hn c) id
  · rename_i hs
    rw [if_neg hs] at h
    exact hn c h
theorem sup_step (l : List I) {b a : List Nat} (h : Sup b a) (n : Nat) : Sup (stepN l b n) (stepN l a n) := sup_fold (sup_now _ (h.bit n)) _ _ _ h
theorem sup_steps (l : List I) {b a : List Nat} (h : Sup b a) : ∀ k, Sup ((List.range k).foldl (stepN l) b) ((List.range k).foldl (stepN l) a)
  | 0 => h
  | k + 1 => by
    rw [List.range_succ, List.foldl_append, List.foldl_append]
    exact sup_step l (sup_steps l h k) k
theorem cons_getD {α : Type} (x : α) (l : List α) (n : Nat) (d : α) : (x :: l).getD (n + 1) d = l.getD n d := by simp
theorem next_cons (i : I) (l : List I) (n : Nat) : nextN (i :: l) (n + 1) = (nextN l n).map (· + 1) := by
  unfold nextN
  rw [cons_getD]
  (repeat' split) <;> simp <;> omega
theorem fold_cons (x now : Nat) : ∀ (ts b : List Nat), (ts.map (· + 1)).foldl (fun a to => goesN a to now) (x :: b) = x :: ts.foldl (fun a to => goesN a to now) b
  | [], _ => rfl
  | t :: ts, b => by
    rw [List.map_cons, List.foldl_cons, List.foldl_cons, ← fold_cons x now ts]
    unfold goesN
    simp
theorem step_cons (i : I) (l : List I) (x : Nat) (b : List Nat) (n : Nat) : stepN (i :: l) (x :: b) (n + 1) = x :: stepN l b n := by
  unfold stepN
  rw [next_cons, cons_getD, cons_getD, fold_cons]
theorem upto_cons (i : I) (l : List I) (x : Nat) (b : List Nat) (h : uptoN (i :: l) 1 = x :: b) : ∀ k, uptoN (i :: l) (k + 1) = x :: (List.range k).foldl (stepN l) b
  | 0 => h
  | k + 1 => by
    rw [uptoN_succ, upto_cons i l x b h k, step_cons, List.range_succ, List.foldl_append]
    rfl
/-- An instruction that may stand ahead. -/
structure AheadOk (i : I) (l : List I) : Prop where
  ld : ¬ isLd (kd i)
  end_ : ¬ isEnd (kd i)
  jump : kd i ≠ 13
  branch : ¬ 25 ≤ kd i
  alone : aloneN i l.length = 0
theorem ahead_formed {i : I} {l : List I} (ha : AheadOk i l) (hf : FormedP l) (hlen : l.length ≤ 200) : FormedP (i :: l) := by
  refine ⟨by simp, by simp; omega, fun n hn => ?_, ?_⟩
  · cases n with
    | zero =>
      unfold badAt
      simpa using ha.alone
    | succ n =>
      have h := hf.good n (by simpa using hn)
      unfold badAt at h ⊢
      rw [cons_getD, List.length_cons, show l.length + 1 - 1 - (n + 1) = l.length - 1 - n by omega]
      exact h
  · have := hf.pos
    rw [List.length_cons, show l.length + 1 - 1 = (l.length - 1) + 1 by omega, cons_getD]
    exact hf.last
theorem ahead_first {i : I} {l : List I} (ha : AheadOk i l) (hpos : 0 < l.length) : ∃ x b, uptoN (i :: l) 1 = x :: b ∧ Sup b (startN l.length) := by
  have h1 : uptoN (i :: l) 1 = goesN (startN (l.length + 1)) 1 (nowN i 0) := by
    rw [uptoN_succ]
    show stepN (i :: l) (startN (i :: l).length) 0 = _
    unfold stepN nextN
    simp only [List.getD_cons_zero, if_neg ha.end_, if_neg ha.jump, if_neg ha.branch, List.foldl_cons, List.foldl_nil, List.length_cons]
    simp [startN]
  rw [h1]
  refine ⟨0, goesN (List.replicate l.length 65535) 0 (nowN i 0), ?_, ⟨by simp [goesN, startN], fun m c hm => ?_⟩⟩
  · unfold goesN startN
    simp [List.replicate_succ]
  · unfold startN at hm
    unfold goesN
    by_cases e : 0 = m
    · subst e
      rw [getD_set_self _ _ _ _ (by simpa using hpos)] at hm
      simp at hm
    · rw [getD_set_other _ _ _ _ _ e] at hm ⊢
      exact hm
theorem checkN_ok {l : List I} (h : (checkN l).2 = 0) : (formedN l).2 = 0 ∧ ∀ n, n < l.length → initE l n = 0 := by
  unfold checkN at h
  by_cases hf : (formedN l).2 ≠ 0
  · rw [if_pos hf] at h; exact absurd h hf
  · rw [if_neg hf] at h
    cases hb : findBad (initE l) l.length 0 with
    | some n => rw [hb] at h; simp at h
    | none => exact ⟨by omega, fun n hn => findBad_all _ _ _ hb n (by omega) (by omega)⟩
theorem ahead_check {i : I} {l : List I} (ha : AheadOk i l) (hc : (checkN l).2 = 0) (hlen : l.length ≤ 200) : checkN (i :: l) = (0, 0) := by
  obtain ⟨hf, hi⟩ := checkN_ok hc
  have hP := formed_of hf
  have hP' := ahead_formed ha hP hlen
  have hf' : (formedN (i :: l)).2 = 0 := by rw [formed_iff hP']
  obtain ⟨x, b, h1, hs⟩ := ahead_first ha hP.pos
  refine checkN_end _ hf' (fun n hn => ?_)
  cases n with
  | zero =>
    unfold initE
    rw [if_neg (fun h => ha.ld (by simpa using h.1))]
  | succ n =>
    have hn' : n < l.length := by simpa using hn
    have h := hi n hn'
    unfold initE at h ⊢
    rw [cons_getD]
    have est : storedN (i :: l) = x :: (List.range l.length).foldl (stepN l) b := by
      unfold storedN
      rw [if_pos hf', List.length_cons, upto_cons i l x b h1]
    have est' : storedN l = uptoN l l.length := if_pos hf
    rw [est, cons_getD]
    rw [est'] at h
    have hsup := (sup_steps l hs l.length).bit n (l.getD n default).k
    by_cases hld : isLd (kd (l.getD n default))
    · by_cases hbit : ((uptoN l l.length).getD n 0).testBit (l.getD n default).k = true
      · rw [if_neg (fun g => by have h9 := g.2; rw [hsup hbit] at h9; cases h9)]
      · rw [if_pos ⟨hld, by simpa using hbit⟩] at h; cases h
    · rw [if_neg (fun g => hld g.1)]
end Go.Proofs.Ytgalkidhgjgbhaa
