/-
  Which programs may run: in plain words.
-/
import Derived.Test.YtpinnockcnmofaaGreatDoorPlainOf
import Derived.Test.YtpinnockcnmofaaGreatDoorData
namespace Go.Proofs.YtpinnockcnmofaaGreatDoor
set_option linter.unusedVariables false

def codeE (d : Nat) : Nat := if d = 0 then 5 else 0
def loadE (d k : Nat) : Nat := if d = 1 ∧ (k % 4 ≠ 0 ∨ 64 ≤ k) then 6 else 0
def cellsB (d : Nat) : Bool := decide (d = 3 ∨ d = 6 ∨ d = 8 ∨ d = 9)
def cellE (d k : Nat) : Nat := if (d = 3 ∨ d = 6 ∨ d = 8 ∨ d = 9) ∧ 16 ≤ k then 7 else 0
def numE (d : Nat) (x : Bool) (k : Nat) : Nat := if x = true then 0 else if d = 19 ∧ k = 0 then 8 else if (d = 22 ∨ d = 23) ∧ 31 < k then 9 else 0
def jumpE (d k jt jf rest : Nat) : Nat := if d = 13 then (if rest ≤ k then 10 else 0) else if 25 ≤ d then (if rest ≤ max jt jf then 10 else 0) else 0
/-- What is wrong with an instruction alone, by the five questions. -/
def askE (d : Nat) (x : Bool) (k jt jf rest : Nat) : Nat → Nat
  | 0 => codeE d
  | 1 => loadE d k
  | 2 => cellE d k
  | 3 => numE d x k
  | _ => jumpE d k jt jf rest
def firstE (f : Nat → Nat) : Nat → Nat → Nat
  | 0, _ => 0
  | n + 1, j => if f j ≠ 0 then f j else firstE f n (j + 1)
def wrongE (d : Nat) (x : Bool) (k jt jf rest : Nat) : Nat := firstE (askE d x k jt jf rest) 5 0

def kd (i : I) : Nat := (ofN i.code).1
def kx (i : I) : Bool := (ofN i.code).2
/-- What is wrong with an instruction behind which so many stand. -/
def aloneV (d : Nat) (x : Bool) (k jt jf rest : Nat) : Nat :=
  if d = 0 then 5
  else if d = 1 then (if k % 4 ≠ 0 ∨ 64 ≤ k then 6 else 0)
  else if d = 3 ∨ d = 6 ∨ d = 8 ∨ d = 9 then (if 15 < k then 7 else 0)
  else if d = 19 then (if x = false ∧ k = 0 then 8 else 0)
  else if d = 22 ∨ d = 23 then (if x = false ∧ 31 < k then 9 else 0)
  else if d = 13 then (if rest ≤ k then 10 else 0)
  else if d = 25 ∨ d = 26 ∨ d = 27 ∨ d = 28 then (if rest ≤ jt ∨ rest ≤ jf then 10 else 0)
  else 0
def aloneN (i : I) (rest : Nat) : Nat := aloneV (kd i) (kx i) i.k i.jt i.jf rest
theorem wrongE_eq (d : Nat) (hd : d ≤ 28) (x : Bool) (k jt jf rest : Nat) : wrongE d x k jt jf rest = aloneV d x k jt jf rest := by
  have hm : rest ≤ max jt jf ↔ rest ≤ jt ∨ rest ≤ jf := by omega
  simp only [wrongE, firstE, askE, codeE, loadE, cellE, numE, jumpE, aloneV, hm]
  match d, hd with
  | 0, _ => simp
  | 1, _ => simp
  | 2, _ => simp
  | 3, _ => simp; split <;> simp_all <;> omega
  | 4, _ => simp
  | 5, _ => simp
  | 6, _ => simp; split <;> simp_all <;> omega
  | 7, _ => simp
  | 8, _ => simp; split <;> simp_all <;> omega
  | 9, _ => simp; split <;> simp_all <;> omega
  | 10, _ => simp
  | 11, _ => simp
  | 12, _ => simp
  | 13, _ => simp
  | 14, _ => simp
  | 15, _ => simp
  | 16, _ => simp
  | 17, _ => simp
  | 18, _ => simp
  | 19, _ => cases x <;> simp
  | 20, _ => simp
  | 21, _ => simp
  | 22, _ => cases x <;> simp
  | 23, _ => cases x <;> simp
  | 24, _ => simp
  | 25, _ => simp
  | 26, _ => simp
  | 27, _ => simp
  | 28, _ => simp
  | d + 29, h => exact absurd h (by omega)
theorem firstE_found (f : Nat → Nat) : ∀ (n j k : Nat), j ≤ k → k < j + n → (∀ i, j ≤ i → i < k → f i = 0) → f k ≠ 0 → firstE f n j = f k
  | 0, j, k, h1, h2, _, _ => absurd h2 (by omega)
  | n + 1, j, k, h1, h2, h3, h4 => by
    unfold firstE
    by_cases e : j = k
    · subst e; rw [if_pos h4]
    · rw [if_neg (by rw [h3 j (Nat.le_refl _) (by omega)]; omega)]
      exact firstE_found f n (j + 1) k (by omega) (by omega) (fun i hi => h3 i (by omega)) h4
theorem firstE_none (f : Nat → Nat) : ∀ (n j : Nat), (∀ i, j ≤ i → i < j + n → f i = 0) → firstE f n j = 0
  | 0, _, _ => rfl
  | n + 1, j, h => by
    unfold firstE
    rw [if_neg (by rw [h j (Nat.le_refl _) (by omega)]; omega)]
    exact firstE_none f n (j + 1) (fun i h1 h2 => h i (by omega) (by omega))
/-- The first number from j on, of n, at which f is not 0. -/
def findBad (f : Nat → Nat) : Nat → Nat → Option Nat
  | 0, _ => none
  | n + 1, j => if f j ≠ 0 then some j else findBad f n (j + 1)
theorem findBad_found (f : Nat → Nat) : ∀ (n j k : Nat), j ≤ k → k < j + n → (∀ i, j ≤ i → i < k → f i = 0) → f k ≠ 0 → findBad f n j = some k
  | 0, j, k, h1, h2, _, _ => absurd h2 (by omega)
  | n + 1, j, k, h1, h2, h3, h4 => by
    unfold findBad
    by_cases e : j = k
    · subst e; rw [if_pos h4]
    · rw [if_neg (by rw [h3 j (Nat.le_refl _) (by omega)]; omega)]
      exact findBad_found f n (j + 1) k (by omega) (by omega) (fun i hi => h3 i (by omega)) h4
theorem findBad_none (f : Nat → Nat) : ∀ (n j : Nat), (∀ i, j ≤ i → i < j + n → f i = 0) → findBad f n j = none
  | 0, _, _ => rfl
  | n + 1, j, h => by
    unfold findBad
    rw [if_neg (by rw [h j (Nat.le_refl _) (by omega)]; omega)]
    exact findBad_none f n (j + 1) (fun i h1 h2 => h i (by omega) (by omega))
theorem findBad_some (f : Nat → Nat) : ∀ (n j k : Nat), findBad f n j = some k → j ≤ k ∧ k < j + n ∧ f k ≠ 0 ∧ ∀ i, j ≤ i → i < k → f i = 0
  | 0, j, k, h => by cases h
  | n + 1, j, k, h => by
    unfold findBad at h
    by_cases e : f j ≠ 0
    · rw [if_pos e] at h
      cases h
      exact ⟨Nat.le_refl _, by omega, e, fun i h1 h2 => absurd h2 (by omega)⟩
    · rw [if_neg e] at h
      obtain ⟨a, b, c, d⟩ := findBad_some f n (j + 1) k h
      refine ⟨by omega, by omega, c, fun i h1 h2 => ?_⟩
      by_cases e2 : i = j
      · subst e2; omega
      · exact d i (by omega) h2
theorem findBad_all (f : Nat → Nat) : ∀ (n j : Nat), findBad f n j = none → ∀ i, j ≤ i → i < j + n → f i = 0
  | 0, j, _, i, h1, h2 => absurd h2 (by omega)
  | n + 1, j, h, i, h1, h2 => by
    unfold findBad at h
    by_cases e : f j ≠ 0
    · rw [if_pos e] at h; cases h
    · rw [if_neg e] at h
      by_cases e2 : i = j
      · subst e2; omega
      · exact findBad_all f n (j + 1) h i (by omega) (by omega)

/-- What is wrong with the instruction of such a number. -/
def badAt (l : List I) (n : Nat) : Nat := aloneN (l.getD n default) (l.length - 1 - n)
def isEnd (d : Nat) : Prop := d = 14 ∨ d = 15
instance (d : Nat) : Decidable (isEnd d) := by unfold isEnd; infer_instance
/-- The first three points of the list: the number, and an error's number. -/
def formedN (l : List I) : Nat × Nat :=
  if l.length = 0 then (0, 4)
  else if 4096 < l.length then (0, 3)
  else match findBad (badAt l) l.length 0 with
    | some n => (n, badAt l n)
    | none => if isEnd (kd (l.getD (l.length - 1) default)) then (0, 0) else (l.length - 1, 11)
theorem formedN_bad (l : List I) (k : Nat) (h0 : l.length ≠ 0) (h1 : l.length ≤ 4096) (hk : k < l.length) (hz : ∀ i, i < k → badAt l i = 0) (hb : badAt l k ≠ 0) : formedN l = (k, badAt l k) := by
  unfold formedN
  rw [if_neg h0, if_neg (by omega), findBad_found (badAt l) l.length 0 k (by omega) (by omega) (fun i _ hi => hz i hi) hb]
theorem formedN_end (l : List I) (h0 : l.length ≠ 0) (h1 : l.length ≤ 4096) (hz : ∀ i, i < l.length → badAt l i = 0) : formedN l = if isEnd (kd (l.getD (l.length - 1) default)) then (0, 0) else (l.length - 1, 11) := by
  unfold formedN
  rw [if_neg h0, if_neg (by omega), findBad_none (badAt l) l.length 0 (fun i _ hi => hz i (by omega))]
theorem kd_le (i : I) : kd i ≤ 28 := ofN_le _
end Go.Proofs.YtpinnockcnmofaaGreatDoor
