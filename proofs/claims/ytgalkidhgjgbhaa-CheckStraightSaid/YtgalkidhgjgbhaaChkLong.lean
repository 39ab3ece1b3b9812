/-
  A program of returns alone: in plain words.
-/
import Derived.Test.YtgalkidhgjgbhaaChkCheck
namespace Go.Proofs.Ytgalkidhgjgbhaa
set_option linter.unusedVariables false

def retI : I := ⟨22, 0, 0, 0⟩
def retL (k : Nat) : List I := List.replicate k retI
theorem retL_length (k : Nat) : (retL k).length = k := List.length_replicate
theorem retL_getD (k n : Nat) (h : n < k) : (retL k).getD n default = retI := by unfold retL; simp [h]
theorem retI_kd : kd retI = 15 := by decide
theorem retL_ok (k : Nat) : ∀ i ∈ retL k, i.Ok := fun i hi => by
  rw [List.eq_of_mem_replicate hi]
  exact ⟨by decide, by decide, by decide, by decide⟩
theorem retL_formed (k : Nat) (h0 : 0 < k) (h1 : k ≤ 4096) : FormedP (retL k) := by
  refine ⟨by rw [retL_length]; exact h0, by rw [retL_length]; exact h1, fun n hn => ?_, ?_⟩
  · rw [retL_length] at hn
    unfold badAt aloneN
    rw [retL_getD k n hn, retI_kd]
    rfl
  · rw [retL_length, retL_getD k _ (by omega), retI_kd]
    exact .inr rfl
theorem retL_check (k : Nat) (h0 : 0 < k) (h1 : k ≤ 4096) : checkN (retL k) = (0, 0) := by
  have hf : (formedN (retL k)).2 = 0 := by rw [formed_iff (retL_formed k h0 h1)]
  refine checkN_end _ hf (fun n hn => ?_)
  rw [retL_length] at hn
  unfold initE
  rw [retL_getD k n hn, retI_kd, if_neg (fun h => by have := h.1; unfold isLd at this; omega)]
theorem retL_stored (k : Nat) (h0 : 0 < k) (h1 : k ≤ 4096) : (storedN (retL k)).length = k := by
  rw [storedN_length _ (by rw [formed_iff (retL_formed k h0 h1)]), retL_length]
theorem retL_long (k : Nat) (h1 : 4096 < k) : formedN (retL k) = (0, 3) := by
  unfold formedN
  rw [retL_length, if_neg (by omega), if_pos h1]
theorem retL_check_long (k : Nat) (h1 : 4096 < k) : checkN (retL k) = (0, 3) := by
  unfold checkN
  rw [retL_long k h1, if_pos (by decide)]
theorem retL_stored_long (k : Nat) (h1 : 4096 < k) : storedN (retL k) = [] := by
  unfold storedN
  rw [retL_long k h1, if_neg (by decide)]
def fillI (n k : Nat) : List I := List.replicate k retI ++ List.replicate (n - k) default
theorem fillI_length (n k : Nat) (hk : k ≤ n) : (fillI n k).length = n := by unfold fillI; simp; omega
theorem fillI_set (n k : Nat) (hk : k < n) : (fillI n k).set k retI = fillI n (k + 1) := by
  unfold fillI
  rw [List.set_append_right _ _ (by simp), List.length_replicate, Nat.sub_self, show n - k = n - (k + 1) + 1 by omega, List.replicate_succ, List.set_cons_zero, List.replicate_succ', List.append_assoc]
  rfl
theorem fillI_full (n : Nat) : fillI n n = retL n := by unfold fillI retL; simp
end Go.Proofs.Ytgalkidhgjgbhaa
