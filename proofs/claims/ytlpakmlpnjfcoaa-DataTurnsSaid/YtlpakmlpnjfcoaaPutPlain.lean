/-
  What is put, in plain words: which bytes turn, which stay, what is read again.
-/
import Derived.Test.YtlpakmlpnjfcoaaWalkPut
import Derived.Test.YtlpakmlpnjfcoaaWord02
namespace Go.Proofs.Ytlpakmlpnjfcoaa
theorem bytesN_get (n width j : Nat) : (bytesN n width)[j]? = if j < width then some (n / 256 ^ j % 256) else none := by
  unfold bytesN
  rw [List.getElem?_map]
  split <;> simp_all
theorem putL_small (l : List Nat) (at_ width n i : Nat) (hin : at_ + width ≤ l.length) : ∀ k, k ≤ width → (putL l at_ width false n k)[i]? = if at_ ≤ i ∧ i < at_ + k then some (n / 256 ^ (i - at_) % 256) else l[i]?
  | 0, _ => by rw [if_neg (by omega)]; rfl
  | k + 1, hk => by
    rw [putL_succ, List.getElem?_set, putL_small l at_ width n i hin k (by omega), putL_length]
    simp only [placeN, Bool.not_false, if_true]
    by_cases h : at_ + k = i
    · rw [if_pos h, if_pos (by omega), if_pos (by omega), show i - at_ = k by omega]
    · rw [if_neg h]
      by_cases h2 : at_ ≤ i ∧ i < at_ + k
      · rw [if_pos h2, if_pos (by omega)]
      · rw [if_neg h2, if_neg (by omega)]
theorem putL_big (l : List Nat) (at_ width n i : Nat) (hin : at_ + width ≤ l.length) : ∀ k, k ≤ width → (putL l at_ width true n k)[i]? = if at_ + width - k ≤ i ∧ i < at_ + width then some (n / 256 ^ (at_ + width - 1 - i) % 256) else l[i]?
  | 0, _ => by rw [if_neg (by omega)]; rfl
  | k + 1, hk => by
    rw [putL_succ, List.getElem?_set, putL_big l at_ width n i hin k (by omega), putL_length]
    simp only [placeN, Bool.not_true, Bool.false_eq_true, if_false]
    by_cases h : at_ + (width - 1 - k) = i
    · rw [if_pos h, if_pos (by omega), if_pos (by omega), show at_ + width - 1 - i = k by omega]
    · rw [if_neg h]
      by_cases h2 : at_ + width - k ≤ i ∧ i < at_ + width
      · rw [if_pos h2, if_pos (by omega)]
      · rw [if_neg h2, if_neg (by omega)]
/-- The part put in. -/
def partN (n width : Nat) (big : Bool) : List Nat := if big then (bytesN n width).reverse else bytesN n width
theorem partN_length (n width : Nat) (big : Bool) : (partN n width big).length = width := by unfold partN; split <;> simp [bytesN_length]
theorem partN_get (n width j : Nat) (big : Bool) : (partN n width big)[j]? = if j < width then some (n / 256 ^ (if big then width - 1 - j else j) % 256) else none := by
  unfold partN
  cases big
  · simpa using bytesN_get n width j
  · simp only [if_true]
    by_cases h : j < width
    · rw [List.getElem?_reverse (by rw [bytesN_length]; exact h), bytesN_get, bytesN_length, if_pos (by omega), if_pos h]
    · rw [if_neg h, List.getElem?_eq_none (by simp [bytesN_length]; omega)]
theorem putL_parts (l : List Nat) (at_ width n : Nat) (big : Bool) (hin : at_ + width ≤ l.length) : putL l at_ width big n width = l.take at_ ++ partN n width big ++ l.drop (at_ + width) := by
  apply List.ext_getElem?
  intro i
  have e : (putL l at_ width big n width)[i]? = if at_ ≤ i ∧ i < at_ + width then some (n / 256 ^ (if big then at_ + width - 1 - i else i - at_) % 256) else l[i]? := by
    cases big
    · simpa using putL_small l at_ width n i hin width (Nat.le_refl _)
    · have := putL_big l at_ width n i hin width (Nat.le_refl _)
      simpa using this
  rw [e, List.append_assoc, List.getElem?_append, List.getElem?_append, partN_length, List.length_take, partN_get]
  by_cases h1 : i < at_
  · rw [if_neg (by omega), if_pos (by omega), List.getElem?_take, if_pos h1]
  · rw [if_neg (show ¬ i < min at_ l.length by omega)]
    by_cases h2 : i < at_ + width
    · have h5 : i - min at_ l.length < width := by omega
      rw [if_pos (show at_ ≤ i ∧ i < at_ + width by omega), if_pos h5, if_pos h5]
      cases big
      · simp only [Bool.false_eq_true, if_false]; rw [show i - min at_ l.length = i - at_ by omega]
      · simp only [if_true]; rw [show width - 1 - (i - min at_ l.length) = at_ + width - 1 - i by omega]
    · rw [if_neg (by omega), if_neg (by omega), List.getElem?_drop]
      congr 1
      omega
theorem bytesN_val (n : Nat) : ∀ w, valBE (bytesN n w).reverse = n % 256 ^ w
  | 0 => by rw [Nat.pow_zero, Nat.mod_one]; rfl
  | w + 1 => by
    have h : ∀ (x : Nat) (l : List Nat), valBE (x :: l) = x * 256 ^ l.length + valBE l := by
      intro x l
      have g : ∀ (l : List Nat) (a : Nat), l.foldl (fun n b => 256 * n + b) a = a * 256 ^ l.length + l.foldl (fun n b => 256 * n + b) 0 := by
        intro l
        induction l with
        | nil => intro a; simp
        | cons y l ih =>
          intro a
          rw [List.foldl_cons, List.foldl_cons, ih, ih (256 * 0 + y), List.length_cons, Nat.pow_succ]
          rw [Nat.add_mul, Nat.mul_zero, Nat.zero_add]
          have : 256 * a * 256 ^ l.length = a * (256 ^ l.length * 256) := by
            rw [Nat.mul_comm 256 a, Nat.mul_assoc, Nat.mul_comm 256]
          omega
      unfold valBE
      rw [List.foldl_cons, g]
      simp
    rw [bytesN_succ, List.reverse_append]
    show valBE ((n / 256 ^ w % 256) :: (bytesN n w).reverse) = _
    rw [h, List.length_reverse, bytesN_length, bytesN_val n w, Nat.pow_succ, Nat.mod_mul]
    rw [Nat.mul_comm, Nat.add_comm]
theorem bytesN_mod (n w k : Nat) (h : k < w) : (n % 256 ^ w) / 256 ^ k % 256 = n / 256 ^ k % 256 := by
  have e : 256 ^ w = 256 ^ k * (256 * 256 ^ (w - k - 1)) := by
    rw [← Nat.pow_succ', ← Nat.pow_add]; congr 1; omega
  rw [e, Nat.mod_mul_right_div_self, Nat.mod_mul_right_mod]
theorem putL_mod (l : List Nat) (at_ width n : Nat) (big : Bool) : ∀ k, k ≤ width → putL l at_ width big (n % 256 ^ width) k = putL l at_ width big n k
  | 0, _ => rfl
  | k + 1, h => by rw [putL_succ, putL_succ, putL_mod l at_ width n big k (by omega), bytesN_mod n width k (by omega)]
/-- What is put in twice. -/
theorem putL_twice (l : List Nat) (at_ width n m : Nat) (big : Bool) (hin : at_ + width ≤ l.length) : putL (putL l at_ width big n width) at_ width big m width = putL l at_ width big m width := by
  apply List.ext_getElem?
  intro i
  cases big
  · rw [putL_small _ at_ width m i (by rw [putL_length]; exact hin) width (Nat.le_refl _), putL_small l at_ width n i hin width (Nat.le_refl _), putL_small l at_ width m i hin width (Nat.le_refl _)]
    split <;> rfl
  · rw [putL_big _ at_ width m i (by rw [putL_length]; exact hin) width (Nat.le_refl _), putL_big l at_ width n i hin width (Nat.le_refl _), putL_big l at_ width m i hin width (Nat.le_refl _)]
    split <;> rfl
theorem putL_word (l : List Nat) (at_ width n : Nat) (big : Bool) (hin : at_ + width ≤ l.length) : wordN (putL l at_ width big n width) at_ width big = (bytesN n width).reverse := by
  apply List.ext_getElem?
  intro i
  unfold wordN
  rw [List.getElem?_map]
  by_cases h : i < width
  · rw [List.getElem?_reverse (by rw [bytesN_length]; exact h), bytesN_get, bytesN_length, if_pos (by omega), List.getElem?_range h]
    simp only [Option.map_some]
    rw [List.getD_eq_getElem?_getD]
    cases big
    · rw [putL_small l at_ width n _ hin width (Nat.le_refl _)]
      simp only [placeN, Bool.false_eq_true, if_false]
      rw [if_pos (by omega), show at_ + (width - 1 - i) - at_ = width - 1 - i by omega]; rfl
    · rw [putL_big l at_ width n _ hin width (Nat.le_refl _)]
      simp only [placeN, if_true]
      rw [if_pos (by omega), show at_ + width - 1 - (at_ + i) = width - 1 - i by omega]; rfl
  · rw [List.getElem?_eq_none (by simp; omega), List.getElem?_eq_none (by rw [List.length_reverse, bytesN_length]; omega)]; rfl
theorem putL_lt (l : List Nat) (hok : ∀ b ∈ l, b < 256) (at_ width n : Nat) (big : Bool) : ∀ k, ∀ b ∈ putL l at_ width big n k, b < 256
  | 0 => hok
  | k + 1 => by
    rw [putL_succ]
    intro b hb
    rcases List.mem_or_eq_of_mem_set hb with h | h
    · exact putL_lt l hok at_ width n big k b h
    · omega
theorem putL_out (l : List Nat) (at_ width n i : Nat) (big : Bool) (hin : at_ + width ≤ l.length) (hi : i < at_ ∨ at_ + width ≤ i) : (putL l at_ width big n width).getD i 0 = l.getD i 0 := by
  rw [List.getD_eq_getElem?_getD, List.getD_eq_getElem?_getD]
  cases big
  · rw [putL_small l at_ width n i hin width (Nat.le_refl _), if_neg (by omega)]
  · rw [putL_big l at_ width n i hin width (Nat.le_refl _), if_neg (by omega)]
end Go.Proofs.Ytlpakmlpnjfcoaa
