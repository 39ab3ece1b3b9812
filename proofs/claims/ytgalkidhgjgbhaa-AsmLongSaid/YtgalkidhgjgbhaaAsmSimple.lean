/-
  The assembled program of items without cells may run: in plain words.
-/
import Derived.Test.YtgalkidhgjgbhaaAsmOut
import Derived.Test.YtgalkidhgjgbhaaChkCheck
namespace Go.Proofs.Ytgalkidhgjgbhaa
set_option linter.unusedVariables false

theorem plN_split (l : List It) (F : Nat → Bool) : ∀ K i, i < plN l F K → ∃ k, k < K ∧ plN l F k ≤ i ∧ i < plN l F k + szN l F k
  | 0, i, h => by simp [plN, posN] at h
  | K + 1, i, h => by
    rw [plN_succ] at h
    by_cases h1 : i < plN l F K
    · obtain ⟨k, a, b⟩ := plN_split l F K i h1
      exact ⟨k, by omega, b⟩
    · exact ⟨K, by omega, by omega, h⟩
theorem asmN_at (l : List It) (F : Nat → Bool) {k j : Nat} (hk : k < (ins l).length) (hj : j < szN l F k) : (asmN l F).getD (plN l F k + j) default = (outAt l F k).getD j default := by
  have key : ∀ K, k < K → (asmUp l F K).getD (plN l F k + j) default = (outAt l F k).getD j default := by
    intro K
    induction K with
    | zero => omega
    | succ K ih =>
      intro h
      rw [asmUp_succ, List.getD_eq_getElem?_getD]
      by_cases e : k = K
      · subst e
        rw [List.getElem?_append_right (by rw [asmUp_length]; omega), asmUp_length, show plN l F k + j - plN l F k = j by omega, List.getD_eq_getElem?_getD]
      · have h1 := plN_mono l F (show k + 1 ≤ K by omega)
        rw [plN_succ] at h1
        rw [List.getElem?_append_left (by rw [asmUp_length]; omega), ← List.getD_eq_getElem?_getD]
        exact ih (by omega)
  exact key _ hk
theorem asmN_length (l : List It) (F : Nat → Bool) : (asmN l F).length = plN l F (ins l).length := asmUp_length _ _ _
theorem kd_jump (jt jf k : Nat) : kd ⟨5, jt, jf, k⟩ = 13 := by show (ofN 5).1 = 13; decide +kernel

/-- An instruction that uses no cell, and is as it may be. -/
def Fine (i : I) (rest : Nat) : Prop := (kd i = 1 ∧ i.k % 4 = 0 ∧ i.k < 64) ∨ kd i = 2 ∨ kd i = 12 ∨ (kd i = 13 ∧ i.k < rest) ∨ kd i = 14 ∨ kd i = 15 ∨ (25 ≤ kd i ∧ i.jt < rest ∧ i.jf < rest)
theorem Fine.alone {i : I} {rest : Nat} (h : Fine i rest) : aloneN i rest = 0 := by
  unfold Fine at h
  unfold aloneN aloneV
  have hk := kd_le i
  generalize kd i = d at *
  rw [if_neg (by omega)]
  by_cases h1 : d = 1
  · rw [if_pos h1, if_neg (by omega)]
  rw [if_neg h1, if_neg (by omega), if_neg (by omega), if_neg (by omega)]
  by_cases h2 : d = 13
  · rw [if_pos h2, if_neg (by omega)]
  rw [if_neg h2]
  split
  · rw [if_neg (by omega)]
  · rfl
/-- An item that uses no cell, and loads as it may. -/
def Simple (x : It) : Prop := (x.kd = 1 ∧ x.k % 4 = 0 ∧ x.k < 64) ∨ x.kd = 2 ∨ x.kd = 12 ∨ x.kd = 13 ∨ x.kd = 14 ∨ x.kd = 15 ∨ 25 ≤ x.kd

section
variable {l : List It} {F : Nat → Bool} (hF : Form l) (hL : Laid l F)
include hF
theorem Form.room {k : Nat} (hk : k < (ins l).length) (hrb : reachB l k = true) {t : Nat} (ht : yesN l k = (t : Int) ∨ noN l k = (t : Int)) : (k < t ∧ t < (ins l).length ∧ reachB l t = true) ∧ plN l F k + szN l F k ≤ plN l F t ∧ 1 ≤ szN l F k ∧ plN l F t + 1 ≤ plN l F (ins l).length := by
  have hre := (hF.reachB_iff (by omega)).1 hrb
  have hkt : k < t ∧ t < (ins l).length := by
    rcases ht with e | e
    · rcases hF.yes hk with h | ⟨t', h, a, b⟩
      · rw [e] at h; omega
      · rw [e] at h
        have : t = t' := by omega
        subst this; exact ⟨a, b⟩
    · rcases hF.no hk with h | ⟨t', h, a, b⟩
      · rw [e] at h; omega
      · rw [e] at h
        have : t = t' := by omega
        subst this; exact ⟨a, b⟩
  have hrt : Reach l t := by
    rcases ht with e | e
    · exact .yes hre hk e
    · exact .no hre hk e
  have hrtb := (hF.reachB_iff (Nat.le_of_lt hkt.2)).2 hrt
  have a := plN_ahead F hrb hkt.1
  have b := plN_ahead F hrtb hkt.2
  exact ⟨⟨hkt.1, hkt.2, hrtb⟩, a.1, a.2, by omega⟩
omit hF in
theorem reach_of_sz {k j : Nat} (hj : j < szN l F k) : reachB l k = true := by
  cases h : reachB l k with
  | true => rfl
  | false => unfold szN at hj; rw [h] at hj; simp at hj
theorem asm_pos : 0 < (asmN l F).length := by
  have h0 := hF.lastIns.1
  have := plN_ahead F ((hF.reachB_iff (Nat.zero_le _)).2 .zero) h0
  rw [asmN_length]; omega
include hL
theorem asm_fine (hs : ∀ n, n < (ins l).length → Simple (itAt l n)) {i : Nat} (hi : i < (asmN l F).length) : Fine ((asmN l F).getD i default) ((asmN l F).length - 1 - i) := by
  rw [asmN_length] at hi ⊢
  obtain ⟨k, hk, h1, h2⟩ := plN_split l F _ i hi
  obtain ⟨j, rfl⟩ := Nat.le.dest h1
  rw [asmN_at l F hk (by omega)]
  have hj : j < szN l F k := by omega
  have hrb := reach_of_sz hj
  have hsk := hs k hk
  have room := fun t ht => hF.room (F := F) hk hrb (t := t) ht
  cases hfk : F k with
  | true =>
    have h25 := (hL.br k hfk).2.2
    obtain ⟨t, u, ey, eo, _⟩ := hF.ways hk h25
    obtain ⟨-, t1, t2, t3⟩ := room t (.inl ey)
    obtain ⟨-, u1, u2, u3⟩ := room u (.inr eo)
    have hz : szN l F k = 3 := by unfold szN; rw [hrb, hfk]; rfl
    rw [outAt_far hrb hfk ey eo]
    have hj3 : j = 0 ∨ j = 1 ∨ j = 2 := by omega
    rcases hj3 with rfl | rfl | rfl
    · refine .inr (.inr (.inr (.inr (.inr (.inr ⟨h25, ?_, ?_⟩))))) <;> simp only [List.getD_cons_zero] <;> omega
    · refine .inr (.inr (.inr (.inl ⟨kd_jump _ _ _, ?_⟩)))
      simp only [List.getD_cons_zero, List.getD_cons_succ]; omega
    · refine .inr (.inr (.inr (.inl ⟨kd_jump _ _ _, ?_⟩)))
      simp only [List.getD_cons_zero, List.getD_cons_succ]; omega
  | false =>
    have hz : szN l F k = 1 := by unfold szN; rw [hrb, hfk]; rfl
    obtain rfl : j = 0 := by omega
    by_cases h13 : (itAt l k).kd = 13
    · obtain ⟨t, ey, ht1, ht2⟩ := hF.jumpWay hk h13
      obtain ⟨-, t1, t2, t3⟩ := room t (.inl ey)
      rw [outAt_jump hrb hfk h13 ey]
      refine .inr (.inr (.inr (.inl ⟨h13, ?_⟩)))
      simp only [List.getD_cons_zero]; omega
    · by_cases h25 : 25 ≤ (itAt l k).kd
      · obtain ⟨t, u, ey, eo, _⟩ := hF.ways hk h25
        obtain ⟨-, t1, t2, t3⟩ := room t (.inl ey)
        obtain ⟨-, u1, u2, u3⟩ := room u (.inr eo)
        rw [outAt_near hrb hfk h25 ey eo]
        refine .inr (.inr (.inr (.inr (.inr (.inr ⟨h25, ?_, ?_⟩))))) <;> simp only [List.getD_cons_zero] <;> omega
      · rw [outAt_other hrb hfk h13 h25]
        rcases hsk with h | h | h | h | h | h | h
        · exact .inl h
        · exact .inr (.inl h)
        · exact .inr (.inr (.inl h))
        · exact absurd h h13
        · exact .inr (.inr (.inr (.inr (.inl h))))
        · exact .inr (.inr (.inr (.inr (.inr (.inl h)))))
        · exact absurd h h25
/-- The last one returns. -/
theorem asm_last : isEnd (kd ((asmN l F).getD ((asmN l F).length - 1) default)) := by
  have hp := asm_pos (F := F) hF
  rw [asmN_length] at hp ⊢
  obtain ⟨k, hk, h1, h2⟩ := plN_split l F (ins l).length (plN l F (ins l).length - 1) (by omega)
  obtain ⟨j, ej⟩ := Nat.le.dest h1
  rw [← ej, asmN_at l F hk (by omega)]
  have hj : j < szN l F k := by omega
  have hrb := reach_of_sz hj
  have room := fun t ht => hF.room (F := F) hk hrb (t := t) ht
  have he : isEnd (itAt l k).kd := by
    refine Classical.byContradiction fun hne => ?_
    have hy := hF.yes hk
    rcases hy with e | ⟨t, e, _, _⟩
    · unfold yesN at e
      unfold itAt at hne
      rw [if_neg hne] at e; omega
    · obtain ⟨-, t1, t2, t3⟩ := room t (.inl e)
      omega
  have hfk : F k = false := by
    cases h : F k with
    | false => rfl
    | true =>
      have := (hL.br k h).2.2
      unfold isEnd itAt at he; omega
  have hz : szN l F k = 1 := by unfold szN; rw [hrb, hfk]; rfl
  obtain rfl : j = 0 := by omega
  unfold isEnd at he
  rw [outAt_other hrb hfk (by omega) (by omega)]
  exact he
/-- It may run. -/
theorem asm_check (hs : ∀ n, n < (ins l).length → Simple (itAt l n)) (hp : plN l F (ins l).length ≤ 4096) : checkN (asmN l F) = (0, 0) := by
  have hform : FormedP (asmN l F) := ⟨asm_pos (F := F) hF, by rw [asmN_length]; exact hp, fun i hi => (asm_fine hF hL hs hi).alone, asm_last hF hL⟩
  refine checkN_end _ (by rw [formed_iff hform]) fun i hi => ?_
  have := asm_fine hF hL hs hi
  unfold Fine at this
  unfold initE
  rw [if_neg fun h => by have := h.1; unfold isLd at this; omega]
end
end Go.Proofs.Ytgalkidhgjgbhaa
