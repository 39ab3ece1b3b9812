/-
  A program without jumps that stores and loads cells: in plain words.
-/
import Derived.Test.YtgalkidhgjgbhaaChkLong
namespace Go.Proofs.Ytgalkidhgjgbhaa
set_option linter.unusedVariables false

def stCode (b : Nat) : Nat := [2, 96, 3, 97].getD (b / 16 % 4) 0
def stInst (b : Nat) : I := ⟨stCode b, 0, 0, b % 16⟩
def stProg (l : List Nat) : List I := l.map stInst ++ [retI]
theorem stProg_length (l : List Nat) : (stProg l).length = l.length + 1 := by simp [stProg]
theorem stProg_at (l : List Nat) (n : Nat) (h : n < l.length) : (stProg l).getD n default = stInst (l.getD n 0) := by
  unfold stProg
  rw [List.getD_eq_getElem?_getD, List.getElem?_append_left (by simpa using h)]
  simp [h]
theorem stProg_end (l : List Nat) : (stProg l).getD l.length default = retI := by
  unfold stProg
  rw [List.getD_eq_getElem?_getD, List.getElem?_append_right (by simp)]
  simp
theorem stInst_kd (b : Nat) : kd (stInst b) = [8, 3, 9, 6].getD (b / 16 % 4) 0 := by
  have h4 : b / 16 % 4 < 4 := by omega
  show (ofN ([2, 96, 3, 97].getD (b / 16 % 4) 0)).1 = _
  generalize b / 16 % 4 = q at *
  match q, h4 with
  | 0, _ => decide
  | 1, _ => decide
  | 2, _ => decide
  | 3, _ => decide
theorem stInst_kds (b : Nat) : kd (stInst b) = 8 ∨ kd (stInst b) = 3 ∨ kd (stInst b) = 9 ∨ kd (stInst b) = 6 := by
  rw [stInst_kd]
  have h4 : b / 16 % 4 < 4 := by omega
  generalize b / 16 % 4 = q at *
  match q, h4 with
  | 0, _ => simp
  | 1, _ => simp
  | 2, _ => simp
  | 3, _ => simp
theorem stInst_alone (b rest : Nat) : aloneN (stInst b) rest = 0 := by
  have hk : (stInst b).k < 16 := by show b % 16 < 16; omega
  have h := stInst_kds b
  unfold aloneN aloneV
  rw [if_neg (by omega), if_neg (by omega), if_pos (by omega), if_neg (by omega)]
theorem stProg_formed (l : List Nat) (h : l.length ≤ 60) : FormedP (stProg l) := by
  refine ⟨by rw [stProg_length]; omega, by rw [stProg_length]; omega, fun n hn => ?_, ?_⟩
  · rw [stProg_length] at hn
    unfold badAt
    by_cases e : n < l.length
    · rw [stProg_at l n e]; exact stInst_alone _ _
    · obtain rfl : n = l.length := by omega
      rw [stProg_end]
      unfold aloneN
      rw [retI_kd]; rfl
  · rw [stProg_length, Nat.add_sub_cancel, stProg_end, retI_kd]
    exact .inr rfl
def maskN (l : List Nat) (j : Nat) : Nat := (l.take j).foldl (fun a b => nowN (stInst b) a) 0
theorem maskN_succ (l : List Nat) (j : Nat) (h : j < l.length) : maskN l (j + 1) = nowN (stInst (l.getD j 0)) (maskN l j) := by
  unfold maskN
  rw [List.take_succ_eq_append_getElem h, List.foldl_append]
  simp [h]
theorem maskN_lt (l : List Nat) : ∀ j, j ≤ l.length → maskN l j < 65536
  | 0, _ => by simp [maskN]
  | j + 1, h => by
    rw [maskN_succ l j (by omega)]
    have ih := maskN_lt l j (by omega)
    unfold nowN
    split
    · have hk : (stInst (l.getD j 0)).k < 16 := by show l.getD j 0 % 16 < 16; omega
      exact Nat.or_lt_two_pow (n := 16) ih (Nat.pow_lt_pow_right (by omega) hk)
    · exact ih
theorem and_65535 (x : Nat) (h : x < 65536) : 65535 &&& x = x := by
  rw [Nat.and_comm]
  have := Nat.and_two_pow_sub_one_eq_mod x 16
  rw [show (2 : Nat) ^ 16 - 1 = 65535 by decide] at this
  rw [this]; omega
theorem stProg_upto (l : List Nat) : ∀ j, j ≤ l.length → ∀ m, m < l.length + 1 → (uptoN (stProg l) j).getD m 0 = if m ≤ j then maskN l m else 65535
  | 0, _, m, hm => by
    show (startN (stProg l).length).getD m 0 = _
    unfold startN
    rw [stProg_length]
    by_cases e : 0 = m
    · subst e
      rw [getD_set_self _ _ _ _ (by simp)]
      simp [maskN]
    · rw [getD_set_other _ _ _ _ _ e, if_neg (by omega)]
      simp [hm]
  | j + 1, h, m, hm => by
    have ih := stProg_upto l j (by omega)
    have hlen := uptoN_length (stProg l) j
    rw [stProg_length] at hlen
    rw [uptoN_succ, stepN_cases, stProg_at l j (by omega)]
    have hkd := stInst_kds (l.getD j 0)
    rw [if_neg (by unfold isEnd; omega), if_neg (by omega), if_neg (by omega), ih j (by omega), if_pos (Nat.le_refl j), ← maskN_succ l j (by omega)]
    unfold goesN
    by_cases e : j + 1 = m
    · subst e
      rw [getD_set_self _ _ _ _ (by omega), ih (j + 1) hm, if_neg (by omega), if_pos (Nat.le_refl _), and_65535 _ (maskN_lt l (j + 1) h)]
    · rw [getD_set_other _ _ _ _ _ e, ih m hm]
      by_cases e2 : m ≤ j
      · rw [if_pos e2, if_pos (by omega)]
      · rw [if_neg e2, if_neg (by omega)]
def initS (l : List Nat) (n : Nat) : Nat := if isLd (kd (stInst (l.getD n 0))) ∧ (maskN l n).testBit (l.getD n 0 % 16) = false then 12 else 0
theorem stProg_init (l : List Nat) (h : l.length ≤ 60) (n : Nat) (hn : n < l.length) : initE (stProg l) n = initS l n := by
  have hf : (formedN (stProg l)).2 = 0 := by rw [formed_iff (stProg_formed l h)]
  unfold initE initS
  rw [stProg_at l n hn]
  have e : (storedN (stProg l)).getD n 0 = maskN l n := by
    unfold storedN
    rw [if_pos hf, stProg_length, uptoN_succ, stepN_cases, stProg_end, if_pos (by rw [retI_kd]; exact .inr rfl), stProg_upto l l.length (Nat.le_refl _) n (by omega), if_pos (by omega)]
  rw [e]
  rfl
theorem stProg_init_end (l : List Nat) : initE (stProg l) l.length = 0 := by
  unfold initE
  rw [stProg_end, retI_kd, if_neg (fun h => by have := h.1; unfold isLd at this; omega)]
theorem findBad_snoc (f : Nat → Nat) (n : Nat) : findBad f (n + 1) 0 = match findBad f n 0 with | some m => some m | none => if f n ≠ 0 then some n else none := by
  cases h : findBad f n 0 with
  | some m =>
    obtain ⟨h1, h2, h3, h4⟩ := findBad_some f n 0 m h
    exact findBad_found f (n + 1) 0 m h1 (by omega) h4 h3
  | none =>
    have hz := findBad_all f n 0 h
    by_cases e : f n ≠ 0
    · simp only [if_pos e]
      exact findBad_found f (n + 1) 0 n (by omega) (by omega) (fun i _ hi => hz i (by omega) (by omega)) e
    · simp only [if_neg e]
      refine findBad_none f (n + 1) 0 (fun i _ hi => ?_)
      by_cases e2 : i = n
      · subst e2; omega
      · exact hz i (by omega) (by omega)
theorem stProg_check (l : List Nat) (h : l.length ≤ 60) : checkN (stProg l) = match findBad (initS l) l.length 0 with | some m => (m, 12) | none => (0, 0) := by
  have hf : (formedN (stProg l)).2 = 0 := by rw [formed_iff (stProg_formed l h)]
  cases hb : findBad (initS l) l.length 0 with
  | some m =>
    obtain ⟨h1, h2, h3, h4⟩ := findBad_some _ _ _ _ hb
    exact checkN_bad _ hf m (by rw [stProg_length]; omega) (fun i hi => by rw [stProg_init l h i (by omega)]; exact h4 i (by omega) hi) (by rw [stProg_init l h m (by omega)]; exact h3)
  | none =>
    have hz := findBad_all _ _ _ hb
    refine checkN_end _ hf (fun i hi => ?_)
    rw [stProg_length] at hi
    by_cases e : i < l.length
    · rw [stProg_init l h i e]; exact hz i (by omega) (by omega)
    · obtain rfl : i = l.length := by omega
      exact stProg_init_end l
end Go.Proofs.Ytgalkidhgjgbhaa
