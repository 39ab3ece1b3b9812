/-
  The instructions of bytes: in plain words.
-/
import Derived.Test.YtlpakmlpnjfcoaaData
namespace Go.Proofs.Ytlpakmlpnjfcoaa
set_option linter.unusedVariables false

def instAt (b : List Nat) (i : Nat) : I := ⟨b.getD i 0 + 256 * b.getD (i + 1) 0, b.getD (i + 2) 0, b.getD (i + 3) 0, b.getD (i + 4) 0 + 256 * (b.getD (i + 5) 0 + 256 * (b.getD (i + 6) 0 + 256 * b.getD (i + 7) 0))⟩
def readUp (b : List Nat) (k : Nat) : List I := (List.range k).map fun k => instAt b (8 * k)
def readN (b : List Nat) : List I := readUp b (b.length / 8)
def readE (n : Nat) : Nat := if 32768 < n then 3 else if n % 8 ≠ 0 then 2 else 0
theorem readUp_succ (b : List Nat) (k : Nat) : readUp b (k + 1) = readUp b k ++ [instAt b (8 * k)] := by simp [readUp, List.range_succ]
theorem readUp_length (b : List Nat) (k : Nat) : (readUp b k).length = k := by simp [readUp]
theorem getD_lt {b : List Nat} (hb : ∀ x ∈ b, x < 256) (i : Nat) : b.getD i 0 < 256 := by
  by_cases h : i < b.length
  · have : b.getD i 0 = b[i] := by simp [h]
    rw [this]; exact hb _ (List.getElem_mem h)
  · simp [show b.length ≤ i by omega]
theorem instAt_ok {b : List Nat} (hb : ∀ x ∈ b, x < 256) (i : Nat) : (instAt b i).Ok := by
  have h := getD_lt hb
  have h0 := h i
  have h1 := h (i + 1)
  have h2 := h (i + 2)
  have h3 := h (i + 3)
  have h4 := h (i + 4)
  have h5 := h (i + 5)
  have h6 := h (i + 6)
  have h7 := h (i + 7)
  unfold instAt I.Ok
  simp only
  omega
theorem readUp_ok {b : List Nat} (hb : ∀ x ∈ b, x < 256) (k : Nat) : ∀ i ∈ readUp b k, i.Ok := fun i hi => by
  unfold readUp at hi
  obtain ⟨j, _, rfl⟩ := List.mem_map.1 hi
  exact instAt_ok hb _
theorem writeN_getD (l : List I) (k j : Nat) (hk : k < l.length) (hj : j < 8) : (writeN l).getD (8 * k + j) 0 = (writeI (l.getD k default)).getD j 0 := by
  induction l generalizing k with
  | nil => simp at hk
  | cons i l ih =>
    have e : writeN (i :: l) = writeI i ++ writeN l := by simp [writeN]
    rw [e]
    cases k with
    | zero =>
      rw [List.getD_eq_getElem?_getD, List.getElem?_append_left (by simp [writeI]; omega)]
      simp
    | succ k =>
      rw [List.getD_eq_getElem?_getD, List.getElem?_append_right (by simp [writeI]; omega)]
      have := ih k (by simpa using hk)
      rw [show 8 * (k + 1) + j - (writeI i).length = 8 * k + j by simp [writeI]; omega, ← List.getD_eq_getElem?_getD, this]
      simp
theorem instAt_write {l : List I} (hok : ∀ i ∈ l, i.Ok) (k : Nat) (hk : k < l.length) : instAt (writeN l) (8 * k) = l.getD k default := by
  obtain ⟨h1, h2, h3, h4⟩ := getD_ok hok hk
  unfold instAt
  have g := fun j hj => writeN_getD l k j hk hj
  have g0 := g 0 (by omega)
  rw [Nat.add_zero] at g0
  rw [g0, g 1 (by omega), g 2 (by omega), g 3 (by omega), g 4 (by omega), g 5 (by omega), g 6 (by omega), g 7 (by omega)]
  generalize l.getD k default = x at *
  obtain ⟨a, b, c, d⟩ := x
  simp only at h1 h2 h3 h4
  simp only [writeI, List.getD_cons_zero, List.getD_cons_succ]
  congr 1
  · omega
  · omega
theorem list_ext_getD {α : Type} [Inhabited α] {a b : List α} (d : α) (h : a.length = b.length) (hg : ∀ i, i < a.length → a.getD i d = b.getD i d) : a = b := by
  apply List.ext_getElem h
  intro i h1 h2
  have := hg i h1
  simpa [h1, h2] using this
theorem readN_write {l : List I} (hok : ∀ i ∈ l, i.Ok) : readN (writeN l) = l := by
  have hl : (writeN l).length / 8 = l.length := by rw [writeN_length]; omega
  unfold readN
  rw [hl]
  refine list_ext_getD default (readUp_length _ _) (fun i hi => ?_)
  rw [readUp_length] at hi
  rw [← instAt_write hok i hi]
  simp [readUp, hi]
theorem write_readN {b : List Nat} (hb : ∀ x ∈ b, x < 256) (h8 : b.length % 8 = 0) : writeN (readN b) = b := by
  have hl : (writeN (readN b)).length = b.length := by rw [writeN_length]; unfold readN; rw [readUp_length]; omega
  refine list_ext_getD 0 hl (fun i hi => ?_)
  rw [hl] at hi
  have hk : i / 8 < (readN b).length := by unfold readN; rw [readUp_length]; omega
  have hj : i % 8 < 8 := by omega
  have e := writeN_getD (readN b) (i / 8) (i % 8) hk hj
  rw [show 8 * (i / 8) + i % 8 = i by omega] at e
  have hg : (readN b).getD (i / 8) default = instAt b (8 * (i / 8)) := by
    unfold readN readUp at hk ⊢
    simp at hk
    simp [hk]
  rw [e, hg]
  have h := getD_lt hb
  have a0 := h (8 * (i / 8))
  have a1 := h (8 * (i / 8) + 1)
  have a4 := h (8 * (i / 8) + 4)
  have a5 := h (8 * (i / 8) + 5)
  have a6 := h (8 * (i / 8) + 6)
  have a7 := h (8 * (i / 8) + 7)
  obtain ⟨m, r, hm, hr⟩ : ∃ m r, i = 8 * m + r ∧ r < 8 := ⟨i / 8, i % 8, by omega, hj⟩
  have e1 : i / 8 = m := by omega
  have e2 : i % 8 = r := by omega
  rw [e1] at a0 a1 a4 a5 a6 a7
  rw [e1, e2, hm]
  unfold instAt writeI
  match r, hr with
  | 0, _ => simp only [List.getD_cons_zero, Nat.add_zero]; omega
  | 1, _ => simp only [List.getD_cons_zero, List.getD_cons_succ]; omega
  | 2, _ => rfl
  | 3, _ => rfl
  | 4, _ => simp only [List.getD_cons_zero, List.getD_cons_succ]; omega
  | 5, _ => simp only [List.getD_cons_zero, List.getD_cons_succ]; omega
  | 6, _ => simp only [List.getD_cons_zero, List.getD_cons_succ]; omega
  | 7, _ => simp only [List.getD_cons_zero, List.getD_cons_succ]; omega
end Go.Proofs.Ytlpakmlpnjfcoaa
