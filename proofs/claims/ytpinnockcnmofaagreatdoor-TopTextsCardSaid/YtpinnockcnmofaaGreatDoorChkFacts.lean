/-
  What is known of a formed program.
-/
import Derived.Test.YtpinnockcnmofaaGreatDoorChkStored
namespace Go.Proofs.YtpinnockcnmofaaGreatDoor
set_option linter.unusedVariables false

structure FormedP (l : List I) : Prop where
  pos : 0 < l.length
  le : l.length ≤ 4096
  good : ∀ i, i < l.length → badAt l i = 0
  last : isEnd (kd (l.getD (l.length - 1) default))
theorem formed_of {l : List I} (h : (formedN l).2 = 0) : FormedP l := by
  unfold formedN at h
  by_cases h0 : l.length = 0
  · rw [if_pos h0] at h; simp at h
  · rw [if_neg h0] at h
    by_cases h1 : 4096 < l.length
    · rw [if_pos h1] at h; simp at h
    · rw [if_neg h1] at h
      cases hf : findBad (badAt l) l.length 0 with
      | some n =>
        rw [hf] at h
        simp only at h
        exact absurd h (findBad_some _ _ _ _ hf).2.2.1
      | none =>
        rw [hf] at h
        simp only at h
        have hz := findBad_all _ _ _ hf
        by_cases he : isEnd (kd (l.getD (l.length - 1) default))
        · exact ⟨by omega, by omega, fun i hi => hz i (by omega) (by omega), he⟩
        · rw [if_neg he] at h; simp at h
theorem formed_iff {l : List I} (h : FormedP l) : formedN l = (0, 0) := by
  rw [formedN_end l (by have := h.pos; omega) h.le h.good, if_pos h.last]
theorem formed_zero (l : List I) (h : (formedN l).2 = 0) : formedN l = (0, 0) := formed_iff (formed_of h)

section
variable {l : List I} (h : FormedP l) {n : Nat} (hn : n < l.length)
include h hn
theorem FormedP.alone : aloneN (l.getD n default) (l.length - 1 - n) = 0 := h.good n hn
theorem FormedP.kd0 : kd (l.getD n default) ≠ 0 := fun e => by
  have := h.alone hn
  unfold aloneN aloneV at this
  rw [if_pos e] at this
  omega
theorem FormedP.store : isSt (kd (l.getD n default)) → (l.getD n default).k ≤ 15 := fun e => by
  have := h.alone hn
  unfold aloneN aloneV at this
  unfold isSt at e
  rw [if_neg (by omega), if_neg (by omega), if_pos (by omega)] at this
  split at this <;> omega
theorem FormedP.cell : (kd (l.getD n default) = 3 ∨ kd (l.getD n default) = 6) → (l.getD n default).k ≤ 15 := fun e => by
  have := h.alone hn
  unfold aloneN aloneV at this
  rw [if_neg (by omega), if_neg (by omega), if_pos (by omega)] at this
  split at this <;> omega
theorem FormedP.jump : kd (l.getD n default) = 13 → n + 1 + (l.getD n default).k < l.length := fun e => by
  have := h.alone hn
  unfold aloneN aloneV at this
  rw [if_neg (by omega), if_neg (by omega), if_neg (by omega), if_neg (by omega), if_neg (by omega), if_pos e] at this
  split at this <;> omega
theorem FormedP.branch : 25 ≤ kd (l.getD n default) → n + 1 + (l.getD n default).jt < l.length ∧ n + 1 + (l.getD n default).jf < l.length := fun e => by
  have := h.alone hn
  have hk := kd_le (l.getD n default)
  unfold aloneN aloneV at this
  rw [if_neg (by omega), if_neg (by omega), if_neg (by omega), if_neg (by omega), if_neg (by omega), if_neg (by omega), if_pos (by omega)] at this
  split at this <;> omega
theorem FormedP.on : ¬ isEnd (kd (l.getD n default)) → n + 1 < l.length := fun e => by
  by_cases hl : n = l.length - 1
  · subst hl; exact absurd h.last e
  · omega
theorem FormedP.next : ∀ t ∈ nextN l n, n < t ∧ t < l.length := fun t ht => by
  unfold nextN at ht
  split at ht
  · cases ht
  · rename_i h1
    split at ht
    · rename_i h2
      have := h.jump hn h2
      simp only [List.mem_cons, List.not_mem_nil, or_false] at ht; omega
    · split at ht
      · rename_i h3
        have := h.branch hn h3
        simp only [List.mem_cons, List.not_mem_nil, or_false] at ht; omega
      · have := h.on hn h1
        simp only [List.mem_cons, List.not_mem_nil, or_false] at ht; omega
end
theorem FormedP.inside {l : List I} (h : FormedP l) : Inside l := fun n hn t ht => (h.next hn t ht).2
theorem stepN_cases (l : List I) (a : List Nat) (n : Nat) : stepN l a n =
    if isEnd (kd (l.getD n default)) then a
    else if kd (l.getD n default) = 13 then goesN a (n + 1 + (l.getD n default).k) (nowN (l.getD n default) (a.getD n 0))
    else if 25 ≤ kd (l.getD n default) then goesN (goesN a (n + 1 + (l.getD n default).jt) (nowN (l.getD n default) (a.getD n 0))) (n + 1 + (l.getD n default).jf) (nowN (l.getD n default) (a.getD n 0))
    else goesN a (n + 1) (nowN (l.getD n default) (a.getD n 0)) := by
  unfold stepN nextN
  by_cases h1 : isEnd (kd (l.getD n default))
  · rw [if_pos h1, if_pos h1]; rfl
  · rw [if_neg h1, if_neg h1]
    by_cases h2 : kd (l.getD n default) = 13
    · rw [if_pos h2, if_pos h2]; rfl
    · rw [if_neg h2, if_neg h2]
      by_cases h3 : 25 ≤ kd (l.getD n default)
      · rw [if_pos h3, if_pos h3]; rfl
      · rw [if_neg h3, if_neg h3]; rfl
end Go.Proofs.YtpinnockcnmofaaGreatDoor
