/-
  A record's bytes, read again: in plain words.
-/
import Derived.Test.YtlpakmlpnjfcoaaWalkRead
namespace Go.Proofs.Ytlpakmlpnjfcoaa
set_option linter.unusedVariables false

theorem bytesN_step (n k : Nat) : bytesN n (k + 1) = n % 256 :: bytesN (n / 256) k := by
  unfold bytesN
  rw [List.range_succ_eq_map, List.map_cons, List.map_map]
  congr 1
  · simp
  · apply List.map_congr_left
    intro j _
    simp only [Function.comp]
    rw [Nat.pow_succ', Nat.div_div_eq_div_mul]
theorem bytesN_valBE (m : List Nat) (h : ∀ b ∈ m, b < 256) : bytesN (valBE m) m.length = m.reverse := by
  suffices H : ∀ r : List Nat, (∀ b ∈ r, b < 256) → bytesN (valBE r.reverse) r.length = r by
    have := H m.reverse (fun b hb => h b (List.mem_reverse.1 hb))
    rwa [List.reverse_reverse, List.length_reverse] at this
  intro r
  induction r with
  | nil => intro _; rfl
  | cons b r ih =>
    intro hr
    have hb := hr b (by simp)
    rw [List.reverse_cons, valBE_snoc, List.length_cons, bytesN_step]
    congr 1
    · omega
    · rw [show (256 * valBE r.reverse + b) / 256 = valBE r.reverse by omega]
      exact ih (fun x hx => hr x (by simp [hx]))

theorem wordN_big (l : List Nat) (at_ width : Nat) (h : at_ + width ≤ l.length) : wordN l at_ width true = (l.drop at_).take width := by
  unfold wordN
  apply List.ext_getElem?
  intro i
  rw [List.getElem?_map, List.getElem?_take]
  by_cases hi : i < width
  · rw [List.getElem?_range hi, if_pos hi, List.getElem?_drop]
    simp [placeN, show at_ + i < l.length by omega]
  · rw [if_neg hi, List.getElem?_eq_none (by simp; omega)]; rfl
theorem wordN_small (l : List Nat) (at_ width : Nat) (h : at_ + width ≤ l.length) : wordN l at_ width false = ((l.drop at_).take width).reverse := by
  unfold wordN
  have hlen : ((l.drop at_).take width).length = width := by simp; omega
  apply List.ext_getElem?
  intro i
  rw [List.getElem?_map]
  by_cases hi : i < width
  · rw [List.getElem?_range hi, List.getElem?_reverse (by omega), hlen, List.getElem?_take, if_pos (by omega), List.getElem?_drop]
    simp [placeN, show at_ + (width - 1 - i) < l.length by omega]
  · rw [List.getElem?_eq_none (by simp; omega), List.getElem?_eq_none (by simp; omega)]; rfl
theorem getN_yes (l : List Nat) (at_ width : Nat) (big : Bool) (h : wrongN l.length at_ width = 0) : getN l at_ width big = valBE (wordN l at_ width big) := by
  unfold getN
  rw [if_pos h]
  rfl
/-- What is got is put. -/
theorem partN_get_ (l : List Nat) (hok : ∀ b ∈ l, b < 256) (at_ width : Nat) (big : Bool) (h : wrongN l.length at_ width = 0) (hin : at_ + width ≤ l.length) : partN (getN l at_ width big) width big = (l.drop at_).take width := by
  rw [getN_yes _ _ _ _ h]
  have hlen : ((l.drop at_).take width).length = width := by simp; omega
  have hok2 : ∀ b ∈ (l.drop at_).take width, b < 256 := fun b hb => hok b (List.mem_of_mem_drop (List.mem_of_mem_take hb))
  unfold partN
  cases big
  · simp only [Bool.false_eq_true, if_false]
    rw [wordN_small _ _ _ hin]
    have := bytesN_valBE ((l.drop at_).take width).reverse (fun b hb => hok2 b (List.mem_reverse.1 hb))
    rwa [List.length_reverse, hlen, List.reverse_reverse] at this
  · simp only [if_true]
    rw [wordN_big _ _ _ hin]
    have := bytesN_valBE ((l.drop at_).take width) hok2
    rw [hlen] at this
    rw [this, List.reverse_reverse]
theorem wrong_in (n at_ width : Nat) (hw : width = 4 ∨ width = 8) (h : at_ + width ≤ n) : wrongN n at_ width = 0 := by
  unfold wrongN
  rw [if_neg (by omega), if_neg (by omega)]
/-- What is put is got. -/
theorem getN_part (p q : List Nat) (n width : Nat) (big : Bool) (hw : width = 4 ∨ width = 8) (hn : n < 256 ^ width) : getN (p ++ (partN n width big ++ q)) p.length width big = n := by
  have e : p ++ (partN n width big ++ q) = putL (p ++ (List.replicate width 0 ++ q)) p.length width big n width := by
    have hd : (p ++ (List.replicate width 0 ++ q)).drop (p.length + width) = q := by
      rw [← List.append_assoc]
      exact List.drop_left' (by simp)
    rw [putL_parts _ _ _ _ _ (by simp <;> omega), List.take_append_of_le_length (Nat.le_refl _), List.take_length, hd, List.append_assoc]
  rw [e, getN_yes _ _ _ _ (wrong_in _ _ _ hw (by rw [putL_length]; simp <;> omega)), putL_word _ _ _ _ _ (by simp <;> omega), bytesN_val, Nat.mod_eq_of_lt hn]

theorem part_split (n : Nat) (big : Bool) : partN n 8 big = if big then partN (n / 4294967296) 4 big ++ partN (n % 4294967296) 4 big else partN (n % 4294967296) 4 big ++ partN (n / 4294967296) 4 big := by
  have e : bytesN n 8 = bytesN (n % 4294967296) 4 ++ bytesN (n / 4294967296) 4 := by
    simp only [bytesN, List.range_succ, List.range_zero, List.nil_append, List.map_append, List.map_cons, List.map_nil]
    simp only [List.cons_append, List.nil_append]
    congr 1
    · omega
    congr 1
    · omega
    congr 1
    · omega
    congr 1
    · omega
    congr 1
    · omega
    congr 1
    · omega
    congr 1
    · omega
    congr 1
    omega
  cases big
  · exact e
  · show (bytesN n 8).reverse = _
    rw [e, List.reverse_append]
    rfl

theorem argsB_split (l : List Nat) (big : Bool) (i : Nat) (hi : i < l.length) : argsB l big = argsB (l.take i) big ++ (partN (l.getD i 0) 8 big ++ argsB (l.drop (i + 1)) big) := by
  conv => lhs; rw [← List.take_append_drop i l, List.drop_eq_getElem_cons hi]
  unfold argsB
  rw [List.flatMap_append, List.flatMap_cons]
  simp [hi]
theorem recB_parts (x : RecV) (hx : x.args.length = 6) (big : Bool) : recB x big = partN x.number 4 big ++ (partN x.arch 4 big ++ (partN x.pointer 8 big ++ argsB x.args big)) := by
  unfold recB recPre
  rw [List.take_of_length_le (by omega)]
theorem recB_arg (x : RecV) (hx : x.args.length = 6) (big : Bool) (i : Nat) (hi : i < 6) : ∃ p q, p.length = 16 + 8 * i ∧ recB x big = p ++ (partN (x.args.getD i 0) 8 big ++ q) := by
  refine ⟨partN x.number 4 big ++ (partN x.arch 4 big ++ (partN x.pointer 8 big ++ argsB (x.args.take i) big)), argsB (x.args.drop (i + 1)) big, ?_, ?_⟩
  · simp [partN_length, argsB_length]; omega
  · rw [recB_parts x hx, argsB_split x.args big i (by omega)]
    simp only [List.append_assoc]
theorem getD_mem {l : List Nat} {i : Nat} (hi : i < l.length) : l.getD i 0 ∈ l := by
  have : l.getD i 0 = l[i] := by simp [hi]
  rw [this]; exact List.getElem_mem hi

/-- What is written is read as it was. -/
theorem recR_recB (x : RecV) (hx : x.Ok) (big : Bool) : recR (recB x big) big = x := by
  have h6 := hx.args
  have p4 : 256 ^ 4 = 4294967296 := by decide
  have p8 : 256 ^ 8 = 18446744073709551616 := by decide
  have g1 : getN (recB x big) 0 4 big = x.number := by
    rw [recB_parts x h6]
    exact getN_part [] _ x.number 4 big (.inl rfl) (by rw [p4]; exact hx.number)
  have g2 : getN (recB x big) 4 4 big = x.arch := by
    rw [recB_parts x h6]
    have := getN_part (partN x.number 4 big) (partN x.pointer 8 big ++ argsB x.args big) x.arch 4 big (.inl rfl) (by rw [p4]; exact hx.arch)
    rwa [partN_length] at this
  have g3 : getN (recB x big) 8 8 big = x.pointer := by
    rw [recB_parts x h6]
    have := getN_part (partN x.number 4 big ++ partN x.arch 4 big) (argsB x.args big) x.pointer 8 big (.inr rfl) (by rw [p8]; exact hx.pointer)
    rw [List.length_append, partN_length, partN_length, List.append_assoc] at this
    exact this
  have g4 : ∀ i, i < 6 → getN (recB x big) ((16 + 8 * i : Nat) : Int) 8 big = x.args.getD i 0 := fun i hi => by
    obtain ⟨p, q, hp, e⟩ := recB_arg x h6 big i hi
    rw [e, ← hp]
    exact getN_part p q _ 8 big (.inr rfl) (by rw [p8]; exact hx.arg _ (getD_mem (by omega)))
  obtain ⟨a0, a1, a2, a3, a4, a5, ha⟩ := six x.args h6
  have g5 : ((List.range 6).map fun i : Nat => getN (recB x big) ((16 + 8 * i : Nat) : Int) 8 big) = x.args := by
    have : ((List.range 6).map fun i : Nat => getN (recB x big) ((16 + 8 * i : Nat) : Int) 8 big) = (List.range 6).map fun i => x.args.getD i 0 := by
      apply List.map_congr_left
      intro i hi
      exact g4 i (List.mem_range.1 hi)
    rw [this, ha]
    rfl
  unfold recR
  rw [g1, g2, g3, g5]

/-- What is read is written as it was. -/
theorem recB_recR (l : List Nat) (hok : ∀ b ∈ l, b < 256) (hl : l.length = 64) (big : Bool) : recB (recR l big) big = l := by
  have g : ∀ at_ width : Nat, (width = 4 ∨ width = 8) → at_ + width ≤ 64 → partN (getN l at_ width big) width big = (l.drop at_).take width := fun at_ width hw h => partN_get_ l hok at_ width big (by rw [hl]; exact wrong_in 64 at_ width hw h) (by omega)
  rw [recB_parts _ (by simp [recR])]
  have g0 := g 0 4 (.inl rfl) (by omega)
  have g1 := g 4 4 (.inl rfl) (by omega)
  have g2 := g 8 8 (.inr rfl) (by omega)
  have a : argsB (recR l big).args big = (List.range 6).flatMap fun i => (l.drop (16 + 8 * i)).take 8 := by
    unfold argsB recR
    rw [List.flatMap_def, List.flatMap_def, List.map_map]
    congr 1
    apply List.map_congr_left
    intro i hi
    exact g (16 + 8 * i) 8 (.inr rfl) (by have := List.mem_range.1 hi; omega)
  rw [a]
  have n0 : (recR l big).number = getN l (0 : Nat) (4 : Nat) big := rfl
  have n1 : (recR l big).arch = getN l (4 : Nat) (4 : Nat) big := rfl
  have n2 : (recR l big).pointer = getN l (8 : Nat) (8 : Nat) big := rfl
  rw [n0, n1, n2, g0, g1, g2]
  have step : ∀ at_ width : Nat, l.drop at_ = (l.drop at_).take width ++ l.drop (at_ + width) := fun at_ width => by
    rw [← List.drop_drop, List.take_append_drop]
  conv => rhs; rw [← List.drop_zero (l := l), step 0 4, step (0 + 4) 4, step (0 + 4 + 4) 8, step 16 8, step 24 8, step 32 8, step 40 8, step 48 8, step 56 8, List.drop_eq_nil_of_le (show l.length ≤ 56 + 8 by omega)]
  simp [List.range_succ]
end Go.Proofs.Ytlpakmlpnjfcoaa
