/-
  Items that only negate, and return: in plain words.
-/
import Derived.Test.YtgalkidhgjgbhaaAsmShape
import Derived.Test.YtgalkidhgjgbhaaAsmOk
namespace Go.Proofs.Ytgalkidhgjgbhaa
set_option linter.unusedVariables false

def negT : It := ⟨0, 132, 0, 0, 0⟩
def retT : It := ⟨0, 22, 0, 0, 0⟩
def longT (k : Nat) : List It := List.replicate k negT ++ [retT]
theorem negT_kd : negT.kd = 12 := by show (ofN 132).1 = 12; decide +kernel
theorem retT_kd : retT.kd = 15 := by show (ofN 22).1 = 15; decide +kernel
theorem longT_length (k : Nat) : (longT k).length = k + 1 := by simp [longT]
theorem longT_neg {k n : Nat} (h : n < k) : (longT k).getD n default = negT := by
  unfold longT
  rw [getD_leftT _ _ (by simpa using h), List.getD_eq_getElem?_getD, List.getElem?_replicate, if_pos h]; rfl
theorem longT_ret (k : Nat) : (longT k).getD k default = retT := by
  unfold longT
  rw [getD_rightT _ _ (by simp)]; simp
theorem longT_ok (k : Nat) : ∀ x ∈ longT k, x.Ok := fun x hx => by
  have : x = negT ∨ x = retT := by
    unfold longT at hx
    rcases List.mem_append.1 hx with h | h
    · exact .inl (List.eq_of_mem_replicate h)
    · exact .inr (by simpa using h)
  rcases this with rfl | rfl <;> unfold It.Ok <;> decide
theorem longT_ins (k : Nat) : ins (longT k) = longT k := by
  unfold ins
  refine List.filter_eq_self.2 fun x hx => ?_
  unfold longT at hx
  rcases List.mem_append.1 hx with h | h
  · rw [List.eq_of_mem_replicate h]; rfl
  · rw [show x = retT by simpa using h]; rfl
theorem longT_form (k : Nat) : Form (longT k) := by
  refine ⟨fun i hi => ?_, by simp [longT], ?_, ?_⟩
  · rw [longT_length] at hi
    unfold OkAt
    by_cases h : i < k
    · rw [longT_neg h, if_neg (by decide)]
      exact ⟨by rw [negT_kd]; decide, fun h => absurd rfl h, fun h => absurd rfl h⟩
    · obtain rfl : i = k := by omega
      rw [longT_ret, if_neg (by decide)]
      exact ⟨by rw [retT_kd]; decide, fun h => absurd rfl h, fun h => absurd rfl h⟩
  · rw [longT_length, Nat.add_sub_cancel, longT_ret]; rfl
  · rw [longT_length, Nat.add_sub_cancel, longT_ret, retT_kd]; exact .inr rfl
theorem longT_it {k n : Nat} (h : n < k) : itAt (longT k) n = negT := by unfold itAt; rw [longT_ins, longT_neg h]
theorem longT_it1 (k : Nat) : itAt (longT k) k = retT := by unfold itAt; rw [longT_ins, longT_ret]
theorem longT_yes {k n : Nat} (h : n < k) : yesN (longT k) n = ((n + 1 : Nat) : Int) := by
  unfold yesN
  rw [longT_ins, longT_neg h, negT_kd, if_neg (by unfold isEnd; omega)]
  rfl
theorem longT_reach {k n : Nat} (h : n ≤ k) : reachB (longT k) n = true := by
  refine ((longT_form k).reachB_iff (by rw [longT_ins, longT_length]; omega)).2 (reach_all (N := k + 1) (by rw [longT_ins, longT_length]; omega) (fun n hn => .inl (longT_yes (by omega))) n (by omega))
theorem longT_kds {k n : Nat} (h : n < (ins (longT k)).length) : (itAt (longT k) n).kd = 12 ∨ (itAt (longT k) n).kd = 15 := by
  rw [longT_ins, longT_length] at h
  by_cases h1 : n < k
  · rw [longT_it h1]; exact .inl negT_kd
  · obtain rfl : n = k := by omega
    rw [longT_it1]; exact .inr retT_kd
theorem longT_far {k : Nat} {F : Nat → Bool} (hL : Laid (longT k) F) (n : Nat) : F n = false := by
  cases h : F n with
  | false => rfl
  | true =>
    have hb := hL.br n h
    have h1 := longT_kds hb.1
    have h2 := hb.2.2
    unfold itAt at h1
    omega
theorem longT_pl {k : Nat} {F : Nat → Bool} (hL : Laid (longT k) F) : ∀ n, n ≤ k + 1 → plN (longT k) F n = n
  | 0, _ => rfl
  | n + 1, h => by
    rw [plN_succ, longT_pl hL n (by omega)]
    unfold szN
    rw [longT_reach (by omega), longT_far hL]; rfl
theorem longT_len {k : Nat} {F : Nat → Bool} (hL : Laid (longT k) F) : plN (longT k) F (ins (longT k)).length = k + 1 := by
  rw [longT_ins, longT_length]; exact longT_pl hL _ (Nat.le_refl _)
theorem longT_check {k : Nat} {F : Nat → Bool} (hL : Laid (longT k) F) (hk : k + 1 ≤ 4096) : checkN (asmN (longT k) F) = (0, 0) := by
  refine asm_check (longT_form k) hL (fun n hn => ?_) (by rw [longT_len hL]; exact hk)
  rcases longT_kds hn with h | h
  · exact .inr (.inr (.inl h))
  · exact .inr (.inr (.inr (.inr (.inr (.inl h)))))
theorem longT_first {k : Nat} {F : Nat → Bool} (hL : Laid (longT k) F) (hk : 0 < k) : (asmN (longT k) F).getD 0 default = ⟨132, 0, 0, 0⟩ := by
  have h1 : szN (longT k) F 0 = 1 := by unfold szN; rw [longT_reach (by omega), longT_far hL]; rfl
  have h2 := asmN_at (longT k) F (k := 0) (j := 0) (by rw [longT_ins, longT_length]; omega) (by omega)
  rw [outAt_other (longT_reach (by omega)) (longT_far hL 0) (by rw [longT_it hk, negT_kd]; decide) (by rw [longT_it hk, negT_kd]; decide), longT_it hk] at h2
  exact h2
/-- As the loop builds them. -/
theorem longT_take (k j : Nat) : List.replicate (j + 1) negT = List.replicate j negT ++ [negT] := List.replicate_succ' ..
theorem asmLen (l : List It) (F : Nat → Bool) : (asmN l F).length = plN l F (ins l).length := asmUp_length l F _
end Go.Proofs.Ytgalkidhgjgbhaa
