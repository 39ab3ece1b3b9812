/-
  Which cells are stored on every way to an instruction: in plain words, both ways.
-/
import Derived.Test.YtpinnockcnmofaaGreatDoorChkPlain
namespace Go.Proofs.YtpinnockcnmofaaGreatDoor
set_option linter.unusedVariables false

def isSt (d : Nat) : Prop := d = 8 ∨ d = 9
instance (d : Nat) : Decidable (isSt d) := by unfold isSt; infer_instance
/-- What is stored behind an instruction. -/
def nowN (i : I) (a : Nat) : Nat := if isSt (kd i) then a ||| 2 ^ i.k else a
def goesN (at_ : List Nat) (to now : Nat) : List Nat := at_.set to (at_.getD to 0 &&& now)
/-- Where a formed program's instruction may go on. -/
def nextN (l : List I) (n : Nat) : List Nat :=
  if isEnd (kd (l.getD n default)) then [] else if kd (l.getD n default) = 13 then [n + 1 + (l.getD n default).k] else if 25 ≤ kd (l.getD n default) then [n + 1 + (l.getD n default).jt, n + 1 + (l.getD n default).jf] else [n + 1]
def stepN (l : List I) (at_ : List Nat) (n : Nat) : List Nat := (nextN l n).foldl (fun a to => goesN a to (nowN (l.getD n default) (at_.getD n 0))) at_
def startN (n : Nat) : List Nat := (List.replicate n 65535).set 0 0
def uptoN (l : List I) (k : Nat) : List Nat := (List.range k).foldl (stepN l) (startN l.length)
theorem uptoN_succ (l : List I) (k : Nat) : uptoN l (k + 1) = stepN l (uptoN l k) k := by unfold uptoN; rw [List.range_succ, List.foldl_append]; rfl
def storedN (l : List I) : List Nat := if (formedN l).2 = 0 then uptoN l l.length else []

theorem goesN_length (a : List Nat) (to now : Nat) : (goesN a to now).length = a.length := by simp [goesN]
theorem foldl_goes_length (now : Nat) : ∀ (ts a : List Nat), (ts.foldl (fun a to => goesN a to now) a).length = a.length
  | [], _ => rfl
  | t :: ts, a => by rw [List.foldl_cons, foldl_goes_length now ts, goesN_length]
theorem stepN_length (l : List I) (a : List Nat) (n : Nat) : (stepN l a n).length = a.length := foldl_goes_length _ _ _
theorem uptoN_length (l : List I) : ∀ k, (uptoN l k).length = l.length
  | 0 => by simp [uptoN, startN]
  | k + 1 => by rw [uptoN_succ, stepN_length, uptoN_length l k]

/-- The reference's: which instructions some way leads to at which nothing was stored in a cell. -/
def rstepN (l : List I) (cell : Nat) (out : List Bool) (n : Nat) : List Bool :=
  if out.getD n false = false ∨ (isSt (kd (l.getD n default)) ∧ (l.getD n default).k = cell) then out else (nextN l n).foldl (fun o to => o.set to true) out
def rstartN (n : Nat) : List Bool := (List.replicate n false).set 0 true
def ruptoN (l : List I) (cell k : Nat) : List Bool := (List.range k).foldl (rstepN l cell) (rstartN l.length)
theorem ruptoN_succ (l : List I) (cell k : Nat) : ruptoN l cell (k + 1) = rstepN l cell (ruptoN l cell k) k := by unfold ruptoN; rw [List.range_succ, List.foldl_append]; rfl
theorem foldl_set_length : ∀ (ts : List Nat) (o : List Bool), (ts.foldl (fun o to => o.set to true) o).length = o.length
  | [], _ => rfl
  | t :: ts, o => by rw [List.foldl_cons, foldl_set_length ts, List.length_set]
theorem rstepN_length (l : List I) (cell : Nat) (o : List Bool) (n : Nat) : (rstepN l cell o n).length = o.length := by
  unfold rstepN
  split
  · rfl
  · exact foldl_set_length _ _
theorem ruptoN_length (l : List I) (cell : Nat) : ∀ k, (ruptoN l cell k).length = l.length
  | 0 => by simp [ruptoN, rstartN]
  | k + 1 => by rw [ruptoN_succ, rstepN_length, ruptoN_length l cell k]
def orN (l : List I) (n cells : Nat) : Nat := (List.range cells).foldl (fun a c => if (ruptoN l c l.length).getD n false = true then a else a ||| 2 ^ c) 0
theorem orN_succ (l : List I) (n c : Nat) : orN l n (c + 1) = if (ruptoN l c l.length).getD n false = true then orN l n c else orN l n c ||| 2 ^ c := by unfold orN; rw [List.range_succ, List.foldl_append]; rfl
def rstoredN (l : List I) : List Nat := (List.range l.length).map fun n => orN l n 16

theorem getD_set_self {α : Type} (l : List α) (i : Nat) (v d : α) (hi : i < l.length) : (l.set i v).getD i d = v := by simp [hi]
theorem getD_set_other {α : Type} (l : List α) (i j : Nat) (v d : α) (h : i ≠ j) : (l.set i v).getD j d = l.getD j d := by simp [h]

/-- The two agree, bit by bit. -/
def Agree (c : Nat) (a : List Nat) (o : List Bool) : Prop := a.length = o.length ∧ ∀ m, m < a.length → (a.getD m 0).testBit c = !(o.getD m false)
theorem agree_goes {c now : Nat} {b : Bool} {a : List Nat} {o : List Bool} (h : Agree c a o) (hb : now.testBit c = !b) (to : Nat) (ht : to < a.length) : Agree c (goesN a to now) (if b = true then o.set to true else o) := by
  obtain ⟨hl, hm⟩ := h
  refine ⟨by rw [goesN_length]; split <;> simp [hl], fun m h1 => ?_⟩
  rw [goesN_length] at h1
  unfold goesN
  by_cases e : to = m
  · subst e
    rw [getD_set_self _ _ _ _ ht, Nat.testBit_and, hm to ht, hb]
    cases b
    · simp
    · rw [if_pos rfl, getD_set_self _ _ _ _ (by omega)]; simp
  · rw [getD_set_other _ _ _ _ _ e, hm m h1]
    split
    · rw [getD_set_other _ _ _ _ _ e]
    · rfl
theorem agree_fold {c now : Nat} {b : Bool} (hb : now.testBit c = !b) : ∀ (ts : List Nat) (a : List Nat) (o : List Bool), Agree c a o → (∀ t ∈ ts, t < a.length) → Agree c (ts.foldl (fun a to => goesN a to now) a) (if b = true then ts.foldl (fun o to => o.set to true) o else o)
  | [], a, o, h, _ => by simpa using h
  | t :: ts, a, o, h, ht => by
    have h1 := agree_goes h hb t (ht t (by simp))
    have h2 := agree_fold hb ts _ _ h1 (fun x hx => by rw [goesN_length]; exact ht x (by simp [hx]))
    cases b
    · simpa using h2
    · simpa using h2
theorem now_bit (i : I) (av c : Nat) (q : Bool) (h : av.testBit c = !q) : (nowN i av).testBit c = !(q && !decide (isSt (kd i) ∧ i.k = c)) := by
  unfold nowN
  by_cases hs : isSt (kd i)
  · rw [if_pos hs, Nat.testBit_or, h, Nat.testBit_two_pow]
    by_cases hk : i.k = c
    · rw [decide_eq_true hk, decide_eq_true (show isSt (kd i) ∧ i.k = c from ⟨hs, hk⟩)]; simp
    · rw [decide_eq_false hk, decide_eq_false (fun g : isSt (kd i) ∧ i.k = c => hk g.2)]; simp
  · rw [if_neg hs, h, decide_eq_false (fun g : isSt (kd i) ∧ i.k = c => hs g.1)]
    simp
theorem if_bool {α : Type} (q : Bool) (p : Prop) [Decidable p] (x y : α) : (if q = false ∨ p then x else y) = if (q && !decide p) = true then y else x := by
  cases q <;> by_cases hp : p <;> simp [hp]
theorem agree_step (l : List I) (c n : Nat) (a : List Nat) (o : List Bool) (h : Agree c a o) (hn : n < a.length) (ht : ∀ t ∈ nextN l n, t < a.length) : Agree c (stepN l a n) (rstepN l c o n) := by
  have h1 := agree_fold (now_bit (l.getD n default) (a.getD n 0) c (o.getD n false) (h.2 n hn)) (nextN l n) a o h ht
  unfold stepN rstepN
  rw [if_bool]
  exact h1
theorem bit_65535 (c : Nat) (hc : c < 16) : (65535 : Nat).testBit c = true := by
  match c, hc with
  | 0, _ => decide
  | 1, _ => decide
  | 2, _ => decide
  | 3, _ => decide
  | 4, _ => decide
  | 5, _ => decide
  | 6, _ => decide
  | 7, _ => decide
  | 8, _ => decide
  | 9, _ => decide
  | 10, _ => decide
  | 11, _ => decide
  | 12, _ => decide
  | 13, _ => decide
  | 14, _ => decide
  | 15, _ => decide
  | c + 16, h => exact absurd h (by omega)
theorem agree_start (c n : Nat) (hc : c < 16) : Agree c (startN n) (rstartN n) := by
  refine ⟨by simp [startN, rstartN], fun m hm => ?_⟩
  have hn : m < n := by simpa [startN] using hm
  unfold startN rstartN
  by_cases h0 : m = 0
  · subst h0
    rw [getD_set_self _ _ _ _ (by simp; omega), getD_set_self _ _ _ _ (by simp; omega)]
    simp
  · rw [getD_set_other _ _ _ _ _ (fun e => h0 e.symm), getD_set_other _ _ _ _ _ (fun e => h0 e.symm)]
    simp [hn, bit_65535 c hc]
/-- All targets lie in the program. -/
def Inside (l : List I) : Prop := ∀ n, n < l.length → ∀ t ∈ nextN l n, t < l.length
theorem agree_upto (l : List I) (hin : Inside l) (c : Nat) (hc : c < 16) : ∀ k, k ≤ l.length → Agree c (uptoN l k) (ruptoN l c k)
  | 0, _ => agree_start c l.length hc
  | k + 1, h => by
    rw [uptoN_succ, ruptoN_succ]
    exact agree_step l c k _ _ (agree_upto l hin c hc k (by omega)) (by rw [uptoN_length]; omega) (fun t ht => by rw [uptoN_length]; exact hin k (by omega) t ht)
theorem orN_bit (l : List I) (n : Nat) : ∀ cells c, (orN l n cells).testBit c = (decide (c < cells) && !((ruptoN l c l.length).getD n false))
  | 0, c => by simp [orN]
  | k + 1, c => by
    rw [orN_succ]
    by_cases hk : (ruptoN l k l.length).getD n false = true
    · rw [if_pos hk, orN_bit l n k c]
      by_cases e : c = k
      · subst e; rw [hk]; simp
      · have : decide (c < k + 1) = decide (c < k) := by rw [Bool.eq_iff_iff]; simp; omega
        rw [this]
    · rw [if_neg hk, Nat.testBit_or, Nat.testBit_two_pow, orN_bit l n k c]
      by_cases e : c = k
      · subst e
        have : (ruptoN l c l.length).getD n false = false := by cases hh : (ruptoN l c l.length).getD n false <;> simp_all
        simp only [this]; simp
      · have h1 : decide (c < k + 1) = decide (c < k) := by rw [Bool.eq_iff_iff]; simp; omega
        have h2 : decide (k = c) = false := by simp; omega
        rw [h1, h2, Bool.or_false]
theorem goes_le (a : List Nat) (to now : Nat) (h : ∀ x ∈ a, x < 65536) : ∀ x ∈ goesN a to now, x < 65536 := by
  intro x hx
  unfold goesN at hx
  rcases List.mem_or_eq_of_mem_set hx with h1 | h1
  · exact h x h1
  · rw [h1]
    have h2 : a.getD to 0 < 65536 := by
      rw [List.getD_eq_getElem?_getD]
      cases hh : a[to]? with
      | none => simp
      | some y => simp; exact h y (List.mem_of_getElem? hh)
    exact Nat.lt_of_le_of_lt Nat.and_le_left h2
theorem fold_le (now : Nat) : ∀ (ts a : List Nat), (∀ x ∈ a, x < 65536) → ∀ x ∈ ts.foldl (fun a to => goesN a to now) a, x < 65536
  | [], _, h => h
  | t :: ts, a, h => fold_le now ts _ (goes_le a t now h)
theorem uptoN_lt (l : List I) : ∀ k, ∀ x ∈ uptoN l k, x < 65536
  | 0 => by
    intro x hx
    have hx : x ∈ (List.replicate l.length 65535).set 0 0 := hx
    rcases List.mem_or_eq_of_mem_set hx with h1 | h1
    · have := List.eq_of_mem_replicate h1; omega
    · omega
  | k + 1 => by rw [uptoN_succ]; exact fold_le _ _ _ (uptoN_lt l k)
theorem getD_lt {l : List Nat} {B : Nat} (hB : 0 < B) (h : ∀ x ∈ l, x < B) (n : Nat) : l.getD n 0 < B := by
  rw [List.getD_eq_getElem?_getD]
  cases hh : l[n]? with
  | none => simpa using hB
  | some y => simp; exact h y (List.mem_of_getElem? hh)
/-- Both ways tell the same. -/
theorem stored_eq (l : List I) (hin : Inside l) : uptoN l l.length = rstoredN l := by
  apply List.ext_getElem (by rw [uptoN_length]; simp [rstoredN])
  intro n h1 h2
  rw [uptoN_length] at h1
  have e1 : (uptoN l l.length)[n]'(by rw [uptoN_length]; exact h1) = (uptoN l l.length).getD n 0 := by simp [uptoN_length, h1]
  have e2 : (rstoredN l)[n] = orN l n 16 := by simp [rstoredN]
  rw [e1, e2]
  apply Nat.eq_of_testBit_eq
  intro c
  rw [orN_bit]
  by_cases hc : c < 16
  · rw [((agree_upto l hin c hc l.length (Nat.le_refl _)).2 n (by rw [uptoN_length]; exact h1))]
    simp [hc]
  · have hlt := getD_lt (by omega) (uptoN_lt l l.length) n
    rw [Nat.testBit_lt_two_pow (Nat.lt_of_lt_of_le hlt (Nat.pow_le_pow_right (n := 2) (by omega) (show 16 ≤ c by omega)))]
    simp [hc]
end Go.Proofs.YtpinnockcnmofaaGreatDoor
