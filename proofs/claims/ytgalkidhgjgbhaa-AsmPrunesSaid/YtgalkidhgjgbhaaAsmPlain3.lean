/-
  The assembled program of items without cells may run: in plain words.
-/
import Derived.Test.YtgalkidhgjgbhaaAsmOut
import Derived.Test.YtgalkidhgjgbhaaChkCheck
import Derived.Test.YtgalkidhgjgbhaaAsmOk2
/-! The assembled program of items without cells may run: in plain words. -/
/-! The assembled program of items without cells may run: in plain words. -/
namespace Go.Proofs.Ytgalkidhgjgbhaa
set_option linter.unusedVariables false

theorem plN_split (l : List It) (F : Nat → Bool) : ∀ K i, i < plN l F K → ∃ k, k < K ∧ plN l F k ≤ i ∧ i < plN l F k + szN l F k
  | 0, i, h => by simp [plN, posN] at h
  | K + 1, i, h => by
    rw [plN_succ] at h
    by_cases h1 : i < plN l F K
    · obtain ⟨k, a, b⟩ := plN_split l F K i h1
      exact ⟨k, by omega, b⟩
    · exact ⟨K, by omega, by omega, h⟩
theorem asmN_at (l : List It) (F : Nat → Bool) {k j : Nat} (hk : k < (ins l).length) (hj : j < szN l F k) : (asmN l F).getD (plN l F k + j) default = (outAt l F k).getD j default := by
  have key : ∀ K, k < K → (asmUp l F K).getD (plN l F k + j) default = (outAt l F k).getD j default := by
    intro K
    induction K with
    | zero => omega
    | succ K ih =>
      intro h
      rw [asmUp_succ, List.getD_eq_getElem?_getD]
      by_cases e : k = K
      · subst e
        rw [List.getElem?_append_right (by rw [asmUp_length]; omega), asmUp_length, show plN l F k + j - plN l F k = j by omega, List.getD_eq_getElem?_getD]
      · have h1 := plN_mono l F (show k + 1 ≤ K by omega)
        rw [plN_succ] at h1
        rw [List.getElem?_append_left (by rw [asmUp_length]; omega), ← List.getD_eq_getElem?_getD]
        exact ih (by omega)
  exact key _ hk
theorem asmN_length (l : List It) (F : Nat → Bool) : (asmN l F).length = plN l F (ins l).length := asmUp_length _ _ _
theorem kd_jump (jt jf k : Nat) : kd ⟨5, jt, jf, k⟩ = 13 := by show (ofN 5).1 = 13; decide +kernel

/-- An instruction that uses no cell, and is as it may be. -/
def Fine (i : I) (rest : Nat) : Prop := (kd i = 1 ∧ i.k % 4 = 0 ∧ i.k < 64) ∨ kd i = 2 ∨ kd i = 12 ∨ (kd i = 13 ∧ i.k < rest) ∨ kd i = 14 ∨ kd i = 15 ∨ (25 ≤ kd i ∧ i.jt < rest ∧ i.jf < rest)
theorem Fine.alone {i : I} {rest : Nat} (h : Fine i rest) : aloneN i rest = 0 := by
  unfold Fine at h
  unfold aloneN aloneV
  have hk := kd_le i
  generalize kd i = d at *
  rw [if_neg (by omega)]
  by_cases h1 : d = 1
  · rw [if_pos h1, if_neg (by omega)]
  rw [if_neg h1, if_neg (by omega), if_neg (by omega), if_neg (by omega)]
  by_cases h2 : d = 13
  · rw [if_pos h2, if_neg (by omega)]
  rw [if_neg h2]
  split
  · rw [if_neg (by omega)]
  · rfl
/-- An item that uses no cell, and loads as it may. -/
def Simple (x : It) : Prop := (x.kd = 1 ∧ x.k % 4 = 0 ∧ x.k < 64) ∨ x.kd = 2 ∨ x.kd = 12 ∨ x.kd = 13 ∨ x.kd = 14 ∨ x.kd = 15 ∨ 25 ≤ x.kd

section
variable {l : List It} {F : Nat → Bool} (hF : Form l) (hL : Laid l F)
include hF
theorem Form.room {k : Nat} (hk : k < (ins l).length) (hrb : reachB l k = true) {t : Nat} (ht : yesN l k = (t : Int) ∨ noN l k = (t : Int)) : (k < t ∧ t < (ins l).length ∧ reachB l t = true) ∧ plN l F k + szN l F k ≤ plN l F t ∧ 1 ≤ szN l F k ∧ plN l F t + 1 ≤ plN l F (ins l).length := by
  have hre := (hF.reachB_iff (by omega)).1 hrb
  have hkt : k < t ∧ t < (ins l).length := by
    rcases ht with e | e
    · rcases hF.yes hk with h | ⟨t', h, a, b⟩
      · rw [e] at h; omega
      · rw [e] at h
        have : t = t' := by omega
        subst this; exact ⟨a, b⟩
    · rcases hF.no hk with h | ⟨t', h, a, b⟩
      · rw [e] at h; omega
      · rw [e] at h
        have : t = t' := by omega
        subst this; exact ⟨a, b⟩
  have hrt : Reach l t := by
    rcases ht with e | e
    · exact .yes hre hk e
    · exact .no hre hk e
  have hrtb := (hF.reachB_iff (Nat.le_of_lt hkt.2)).2 hrt
  have a := plN_ahead F hrb hkt.1
  have b := plN_ahead F hrtb hkt.2
  exact ⟨⟨hkt.1, hkt.2, hrtb⟩, a.1, a.2, by omega⟩
omit hF in
theorem reach_of_sz {k j : Nat} (hj : j < szN l F k) : reachB l k = true := by
  cases h : reachB l k with
  | true => rfl
  | false => unfold szN at hj; rw [h] at hj; simp at hj
theorem asm_pos : 0 < (asmN l F).length := by
  have h0 := hF.lastIns.1
  have := plN_ahead F ((hF.reachB_iff (Nat.zero_le _)).2 .zero) h0
  rw [asmN_length]; omega
include hL
theorem asm_fine (hs : ∀ n, n < (ins l).length → Simple (itAt l n)) {i : Nat} (hi : i < (asmN l F).length) : Fine ((asmN l F).getD i default) ((asmN l F).length - 1 - i) := by
  rw [asmN_length] at hi ⊢
  obtain ⟨k, hk, h1, h2⟩ := plN_split l F _ i hi
  obtain ⟨j, rfl⟩ := Nat.le.dest h1
  rw [asmN_at l F hk (by omega)]
  have hj : j < szN l F k := by omega
  have hrb := reach_of_sz hj
  have hsk := hs k hk
  have room := fun t ht => hF.room (F := F) hk hrb (t := t) ht
  cases hfk : F k with
  | true =>
    have h25 := (hL.br k hfk).2.2
    obtain ⟨t, u, ey, eo, _⟩ := hF.ways hk h25
    obtain ⟨-, t1, t2, t3⟩ := room t (.inl ey)
    obtain ⟨-, u1, u2, u3⟩ := room u (.inr eo)
    have hz : szN l F k = 3 := by unfold szN; rw [hrb, hfk]; rfl
    rw [outAt_far hrb hfk ey eo]
    have hj3 : j = 0 ∨ j = 1 ∨ j = 2 := by omega
    rcases hj3 with rfl | rfl | rfl
    · refine .inr (.inr (.inr (.inr (.inr (.inr ⟨h25, ?_, ?_⟩))))) <;> simp only [List.getD_cons_zero] <;> omega
    · refine .inr (.inr (.inr (.inl ⟨kd_jump _ _ _, ?_⟩)))
      simp only [List.getD_cons_zero, List.getD_cons_succ]; omega
    · refine .inr (.inr (.inr (.inl ⟨kd_jump _ _ _, ?_⟩)))
      simp only [List.getD_cons_zero, List.getD_cons_succ]; omega
  | false =>
    have hz : szN l F k = 1 := by unfold szN; rw [hrb, hfk]; rfl
    obtain rfl : j = 0 := by omega
    by_cases h13 : (itAt l k).kd = 13
    · obtain ⟨t, ey, ht1, ht2⟩ := hF.jumpWay hk h13
      obtain ⟨-, t1, t2, t3⟩ := room t (.inl ey)
      rw [outAt_jump hrb hfk h13 ey]
      refine .inr (.inr (.inr (.inl ⟨h13, ?_⟩)))
      simp only [List.getD_cons_zero]; omega
    · by_cases h25 : 25 ≤ (itAt l k).kd
      · obtain ⟨t, u, ey, eo, _⟩ := hF.ways hk h25
        obtain ⟨-, t1, t2, t3⟩ := room t (.inl ey)
        obtain ⟨-, u1, u2, u3⟩ := room u (.inr eo)
        rw [outAt_near hrb hfk h25 ey eo]
        refine .inr (.inr (.inr (.inr (.inr (.inr ⟨h25, ?_, ?_⟩))))) <;> simp only [List.getD_cons_zero] <;> omega
      · rw [outAt_other hrb hfk h13 h25]
        rcases hsk with h | h | h | h | h | h | h
        · exact .inl h
        · exact .inr (.inl h)
        · exact .inr (.inr (.inl h))
        · exact absurd h h13
        · exact .inr (.inr (.inr (.inr (.inl h))))
        · exact .inr (.inr (.inr (.inr (.inr (.inl h)))))
        · exact absurd h h25
/-- The last one returns. -/
theorem asm_last : isEnd (kd ((asmN l F).getD ((asmN l F).length - 1) default)) := by
  have hp := asm_pos (F := F) hF
  rw [asmN_length] at hp ⊢
  obtain ⟨k, hk, h1, h2⟩ := plN_split l F (ins l).length (plN l F (ins l).length - 1) (by omega)
  obtain ⟨j, ej⟩ := Nat.le.dest h1
  rw [← ej, asmN_at l F hk (by omega)]
  have hj : j < szN l F k := by omega
  have hrb := reach_of_sz hj
  have room := fun t ht => hF.room (F := F) hk hrb (t := t) ht
  have he : isEnd (itAt l k).kd := by
    refine Classical.byContradiction fun hne => ?_
    have hy := hF.yes hk
    rcases hy with e | ⟨t, e, _, _⟩
    · unfold yesN at e
      unfold itAt at hne
      rw [if_neg hne] at e; omega
    · obtain ⟨-, t1, t2, t3⟩ := room t (.inl e)
      omega
  have hfk : F k = false := by
    cases h : F k with
    | false => rfl
    | true =>
      have := (hL.br k h).2.2
      unfold isEnd itAt at he; omega
  have hz : szN l F k = 1 := by unfold szN; rw [hrb, hfk]; rfl
  obtain rfl : j = 0 := by omega
  unfold isEnd at he
  rw [outAt_other hrb hfk (by omega) (by omega)]
  exact he
/-- It may run. -/
theorem asm_check (hs : ∀ n, n < (ins l).length → Simple (itAt l n)) (hp : plN l F (ins l).length ≤ 4096) : checkN (asmN l F) = (0, 0) := by
  have hform : FormedP (asmN l F) := ⟨asm_pos (F := F) hF, by rw [asmN_length]; exact hp, fun i hi => (asm_fine hF hL hs hi).alone, asm_last hF hL⟩
  refine checkN_end _ (by rw [formed_iff hform]) fun i hi => ?_
  have := asm_fine hF hL hs hi
  unfold Fine at this
  unfold initE
  rw [if_neg fun h => by have := h.1; unfold isLd at this; omega]
end
end Go.Proofs.Ytgalkidhgjgbhaa

/-! What a run of simple items tells, the assembled program tells: in plain words. -/
namespace Go.Proofs.Ytgalkidhgjgbhaa
set_option linter.unusedVariables false

/-- A run of a program from a place on, with so much in the first register, tells so much. -/
inductive Goes (p : List I) (W : Nat → Nat) : Nat → Nat → Nat → Prop
  | load {a at_ v : Nat} : at_ < p.length → kd (p.getD at_ default) = 1 → (p.getD at_ default).k ≤ 60 → Goes p W (W (p.getD at_ default).k) (at_ + 1) v → Goes p W a at_ v
  | imm {a at_ v : Nat} : at_ < p.length → kd (p.getD at_ default) = 2 → Goes p W (p.getD at_ default).k (at_ + 1) v → Goes p W a at_ v
  | neg {a at_ v : Nat} : at_ < p.length → kd (p.getD at_ default) = 12 → Goes p W ((4294967296 - a) % 4294967296) (at_ + 1) v → Goes p W a at_ v
  | jump {a at_ v : Nat} : at_ < p.length → kd (p.getD at_ default) = 13 → Goes p W a (at_ + 1 + (p.getD at_ default).k) v → Goes p W a at_ v
  | ret {a at_ : Nat} : at_ < p.length → kd (p.getD at_ default) = 14 → Goes p W a at_ (p.getD at_ default).k
  | yes {a at_ v : Nat} : at_ < p.length → kd (p.getD at_ default) = 25 → kx (p.getD at_ default) = false → a = (p.getD at_ default).k → Goes p W a (at_ + 1 + (p.getD at_ default).jt) v → Goes p W a at_ v
  | no {a at_ v : Nat} : at_ < p.length → kd (p.getD at_ default) = 25 → kx (p.getD at_ default) = false → a ≠ (p.getD at_ default).k → Goes p W a (at_ + 1 + (p.getD at_ default).jf) v → Goes p W a at_ v
def It.kx (x : It) : Bool := (ofN x.code).2
/-- A run of items. -/
inductive GoesT (l : List It) (W : Nat → Nat) : Nat → Nat → Nat → Prop
  | load {a n v : Nat} : n < (ins l).length → (itAt l n).kd = 1 → (itAt l n).k ≤ 60 → yesN l n = ((n + 1 : Nat) : Int) → GoesT l W (W (itAt l n).k) (n + 1) v → GoesT l W a n v
  | imm {a n v : Nat} : n < (ins l).length → (itAt l n).kd = 2 → yesN l n = ((n + 1 : Nat) : Int) → GoesT l W (itAt l n).k (n + 1) v → GoesT l W a n v
  | neg {a n v : Nat} : n < (ins l).length → (itAt l n).kd = 12 → yesN l n = ((n + 1 : Nat) : Int) → GoesT l W ((4294967296 - a) % 4294967296) (n + 1) v → GoesT l W a n v
  | ret {a n : Nat} : n < (ins l).length → (itAt l n).kd = 14 → GoesT l W a n (itAt l n).k
  | yes {a n t v : Nat} : n < (ins l).length → (itAt l n).kd = 25 → (itAt l n).kx = false → a = (itAt l n).k → yesN l n = (t : Int) → GoesT l W a t v → GoesT l W a n v
  | no {a n t v : Nat} : n < (ins l).length → (itAt l n).kd = 25 → (itAt l n).kx = false → a ≠ (itAt l n).k → noN l n = (t : Int) → GoesT l W a t v → GoesT l W a n v

theorem goes_asm {l : List It} {F : Nat → Bool} (hF : Form l) (hL : Laid l F) {W : Nat → Nat} {a n v : Nat} (h : GoesT l W a n v) : reachB l n = true → Goes (asmN l F) W a (plN l F n) v := by
  have at0 : ∀ {n : Nat}, n < (ins l).length → reachB l n = true → plN l F n < (asmN l F).length ∧ (asmN l F).getD (plN l F n) default = (outAt l F n).getD 0 default := fun {n} hn hr => by
    have h1 := plN_ahead F hr hn
    have h2 := asmN_at l F hn (j := 0) (by omega)
    exact ⟨by rw [asmN_length]; omega, by simpa using h2⟩
  have plain : ∀ {n : Nat}, n < (ins l).length → reachB l n = true → (itAt l n).kd ≠ 13 → ¬ 25 ≤ (itAt l n).kd → (outAt l F n).getD 0 default = ⟨(itAt l n).code, 0, 0, (itAt l n).k⟩ ∧ plN l F (n + 1) = plN l F n + 1 := fun {n} hn hr h13 h25 => by
    have hfk : F n = false := by
      cases h : F n with
      | false => rfl
      | true => exact absurd (hL.br n h).2.2 h25
    rw [outAt_other hr hfk h13 h25, plN_succ]
    refine ⟨rfl, ?_⟩
    unfold szN
    rw [hr, hfk]; rfl
  have next : ∀ {n : Nat}, n < (ins l).length → reachB l n = true → ∀ {t : Nat}, (yesN l n = (t : Int) ∨ noN l n = (t : Int)) → reachB l t = true := fun {n} hn hr {t} ht => (hF.room (F := F) hn hr ht).1.2.2
  induction h with
  | @load a n v hn hk h60 hy _ ih =>
    intro hr
    obtain ⟨p1, p2⟩ := at0 hn hr
    obtain ⟨q1, q2⟩ := plain hn hr (by omega) (by omega)
    have e := p2.trans q1
    refine .load p1 (by rw [e]; exact hk) (by rw [e]; exact h60) ?_
    rw [e, ← q2]
    exact ih (next hn hr (.inl hy))
  | @imm a n v hn hk hy _ ih =>
    intro hr
    obtain ⟨p1, p2⟩ := at0 hn hr
    obtain ⟨q1, q2⟩ := plain hn hr (by omega) (by omega)
    have e := p2.trans q1
    refine .imm p1 (by rw [e]; exact hk) ?_
    rw [e, ← q2]
    exact ih (next hn hr (.inl hy))
  | @neg a n v hn hk hy _ ih =>
    intro hr
    obtain ⟨p1, p2⟩ := at0 hn hr
    obtain ⟨q1, q2⟩ := plain hn hr (by omega) (by omega)
    have e := p2.trans q1
    refine .neg p1 (by rw [e]; exact hk) ?_
    rw [← q2]
    exact ih (next hn hr (.inl hy))
  | @ret a n hn hk =>
    intro hr
    obtain ⟨p1, p2⟩ := at0 hn hr
    obtain ⟨q1, q2⟩ := plain hn hr (by omega) (by omega)
    have e := p2.trans q1
    have := Goes.ret (W := W) (a := a) p1 (by rw [e]; exact hk)
    rw [e] at this
    exact this
  | @yes a n t v hn hk hx ha hy _ ih =>
    intro hr
    obtain ⟨p1, p2⟩ := at0 hn hr
    obtain ⟨t0, u0, ey, eo, _⟩ := hF.ways hn (by unfold itAt at hk; omega)
    obtain rfl : t0 = t := by rw [hy] at ey; omega
    obtain ⟨⟨_, _, hrt⟩, r1, r2, r3⟩ := hF.room (F := F) hn hr (.inl hy)
    have ih := ih hrt
    cases hf : F n with
    | false =>
      rw [outAt_near hr hf (by omega) ey eo] at p2
      refine .yes p1 (by rw [p2]; exact hk) (by rw [p2]; exact hx) (by rw [p2]; exact ha) ?_
      rw [p2]
      simp only [List.getD_cons_zero]
      rw [show plN l F n + 1 + (plN l F t0 - plN l F n - 1) = plN l F t0 by omega]
      exact ih
    | true =>
      have hz : szN l F n = 3 := by unfold szN; rw [hr, hf]; rfl
      have p3 := asmN_at l F hn (j := 1) (by omega)
      rw [outAt_far hr hf ey eo] at p2 p3
      refine .yes p1 (by rw [p2]; exact hk) (by rw [p2]; exact hx) (by rw [p2]; exact ha) ?_
      rw [p2]
      simp only [List.getD_cons_zero, List.getD_cons_succ, Nat.add_zero] at p3 ⊢
      refine .jump (by rw [asmN_length]; omega) (by rw [p3]; exact kd_jump _ _ _) ?_
      rw [p3]
      simp only
      rw [show plN l F n + 1 + 1 + (plN l F t0 - (plN l F n + 1) - 1) = plN l F t0 by omega]
      exact ih
  | @no a n t v hn hk hx ha hy _ ih =>
    intro hr
    obtain ⟨p1, p2⟩ := at0 hn hr
    obtain ⟨t0, u0, ey, eo, _⟩ := hF.ways hn (by unfold itAt at hk; omega)
    obtain rfl : u0 = t := by rw [hy] at eo; omega
    obtain ⟨⟨_, _, hrt⟩, r1, r2, r3⟩ := hF.room (F := F) hn hr (.inr hy)
    have ih := ih hrt
    cases hf : F n with
    | false =>
      rw [outAt_near hr hf (by omega) ey eo] at p2
      refine .no p1 (by rw [p2]; exact hk) (by rw [p2]; exact hx) (by rw [p2]; exact ha) ?_
      rw [p2]
      simp only [List.getD_cons_zero]
      rw [show plN l F n + 1 + (plN l F u0 - plN l F n - 1) = plN l F u0 by omega]
      exact ih
    | true =>
      have hz : szN l F n = 3 := by unfold szN; rw [hr, hf]; rfl
      have p3 := asmN_at l F hn (j := 2) (by omega)
      rw [outAt_far hr hf ey eo] at p2 p3
      refine .no p1 (by rw [p2]; exact hk) (by rw [p2]; exact hx) (by rw [p2]; exact ha) ?_
      rw [p2]
      simp only [List.getD_cons_zero, List.getD_cons_succ] at p3 ⊢
      refine .jump (by rw [asmN_length]; omega) (by rw [p3]; exact kd_jump _ _ _) ?_
      rw [p3]
      simp only
      rw [show plN l F n + 1 + 1 + 1 + (plN l F u0 - (plN l F n + 2) - 1) = plN l F u0 by omega]
      exact ih
end Go.Proofs.Ytgalkidhgjgbhaa

/-! Items behind the end that nothing names do not stand in the program: in plain words. -/
namespace Go.Proofs.Ytgalkidhgjgbhaa
set_option linter.unusedVariables false

theorem getD_leftT (a b : List It) {i : Nat} (h : i < a.length) : (a ++ b).getD i default = a.getD i default := by
  rw [List.getD_eq_getElem?_getD, List.getElem?_append_left h, List.getD_eq_getElem?_getD]
theorem getD_rightT (a b : List It) {i : Nat} (h : a.length ≤ i) : (a ++ b).getD i default = b.getD (i - a.length) default := by
  rw [List.getD_eq_getElem?_getD, List.getElem?_append_right h, List.getD_eq_getElem?_getD]
theorem getD_memT {a : List It} {i : Nat} (h : i < a.length) : a.getD i default ∈ a := by
  rw [List.getD_eq_getElem?_getD, List.getElem?_eq_getElem h]
  exact List.getElem_mem h
/-- Instructions that nothing names and that name nothing, the last of which returns. -/
structure Dead (d : List It) : Prop where
  all : ∀ x ∈ d, x.mark = 0 ∧ x.kd ≠ 0 ∧ x.tr = 0 ∧ x.fa = 0
  pos : 0 < d.length
  last : isEnd (d.getD (d.length - 1) default).kd

theorem cnt_left (l d : List It) {p : Nat} (h : p ≤ l.length) : cnt (l ++ d) p = cnt l p := by
  unfold cnt
  rw [List.take_append_of_le_length h]
section
variable {l d : List It} (hF : Form l) (hd : Dead d)
include hd
theorem Dead.ins : ins (l ++ d) = ins l ++ d := by
  rw [ins_append]
  congr 1
  unfold Go.Proofs.Ytgalkidhgjgbhaa.ins
  exact List.filter_eq_self.2 fun x hx => by simpa using (hd.all x hx).1
theorem Dead.uniq {m : Int} {j : Nat} (h : Uniq l m j) : Uniq (l ++ d) m j := by
  obtain ⟨h1, h2, h3⟩ := h
  refine ⟨h1, by rw [List.length_append]; omega, fun p hp => ?_⟩
  by_cases hpl : p < l.length
  · rw [getD_leftT _ _ hpl]; exact h3 p hpl
  · rw [getD_rightT _ _ (by omega)]
    rw [List.length_append] at hp
    have := (hd.all _ (getD_memT (a := d) (i := p - l.length) (by omega))).1
    rw [this]
    exact ⟨fun e => absurd e.symm h1, fun e => by omega⟩
include hF
theorem Dead.form : Form (l ++ d) := by
  have hpos := hd.pos
  refine ⟨fun i hi => ?_, ?_, ?_, ?_⟩
  · rw [List.length_append] at hi
    unfold OkAt
    by_cases hil : i < l.length
    · rw [getD_leftT _ _ hil]
      have h1 := hF.1 i hil
      unfold OkAt at h1
      split at h1
      · rename_i hm
        rw [if_pos hm]
        exact ⟨h1.1, hd.uniq h1.2.1, h1.2.2⟩
      · rename_i hm
        rw [if_neg hm]
        refine ⟨h1.1, fun ht => ?_, fun ht => ?_⟩
        · obtain ⟨a, j, b, c⟩ := h1.2.1 ht
          exact ⟨a, j, b, hd.uniq c⟩
        · obtain ⟨a, j, b, c⟩ := h1.2.2 ht
          exact ⟨a, j, b, hd.uniq c⟩
    · rw [getD_rightT _ _ (by omega)]
      obtain ⟨a, b, c, e⟩ := hd.all _ (getD_memT (a := d) (i := i - l.length) (by omega))
      rw [if_neg (by rw [a]; simp)]
      exact ⟨b, fun h => absurd c h, fun h => absurd e h⟩
  · intro h
    have := congrArg List.length h
    rw [List.length_append, List.length_nil] at this; omega
  · rw [List.length_append, getD_rightT _ _ (by omega), show l.length + d.length - 1 - l.length = d.length - 1 by omega]
    exact (hd.all _ (getD_memT (by omega))).1
  · rw [List.length_append, getD_rightT _ _ (by omega), show l.length + d.length - 1 - l.length = d.length - 1 by omega]
    exact hd.last
omit hF in
theorem Dead.itAt {n : Nat} (hn : n < (Go.Proofs.Ytgalkidhgjgbhaa.ins l).length) : Go.Proofs.Ytgalkidhgjgbhaa.itAt (l ++ d) n = Go.Proofs.Ytgalkidhgjgbhaa.itAt l n := by
  unfold Go.Proofs.Ytgalkidhgjgbhaa.itAt
  rw [hd.ins, getD_leftT _ _ hn]
theorem Dead.to {n : Nat} (hn : n < (Go.Proofs.Ytgalkidhgjgbhaa.ins l).length) (m : Int) (hm : m = (Go.Proofs.Ytgalkidhgjgbhaa.itAt l n).tr ∨ m = (Go.Proofs.Ytgalkidhgjgbhaa.itAt l n).fa) : toN (l ++ d) n m = toN l n m := by
  unfold toN
  by_cases e : m = 0
  · rw [if_pos e, if_pos e]
  · rw [if_neg e, if_neg e]
    obtain ⟨p, h1, h2, h3, h4, h5⟩ := hF.okIns hn
    unfold OkAt at h5
    rw [if_neg (by omega), h4] at h5
    have hu : ∃ j, Uniq l m j := by
      rcases hm with rfl | rfl
      · obtain ⟨_, j, _, hu⟩ := h5.2.1 e; exact ⟨j, hu⟩
      · obtain ⟨_, j, _, hu⟩ := h5.2.2 e; exact ⟨j, hu⟩
    obtain ⟨j, hu⟩ := hu
    rw [tgtN_uniq hu, tgtN_uniq (hd.uniq hu), cnt_left _ _ (Nat.le_of_lt hu.2.1)]
theorem Dead.yes {n : Nat} (hn : n < (Go.Proofs.Ytgalkidhgjgbhaa.ins l).length) : yesN (l ++ d) n = yesN l n := by
  have h1 := hd.itAt hn
  have h2 := hd.to hF hn (Go.Proofs.Ytgalkidhgjgbhaa.itAt l n).tr (.inl rfl)
  unfold Go.Proofs.Ytgalkidhgjgbhaa.itAt at h1 h2
  unfold yesN
  rw [h1, h2]
theorem Dead.no {n : Nat} (hn : n < (Go.Proofs.Ytgalkidhgjgbhaa.ins l).length) : noN (l ++ d) n = noN l n := by
  have h1 := hd.itAt hn
  have h2 := hd.to hF hn (Go.Proofs.Ytgalkidhgjgbhaa.itAt l n).fa (.inr rfl)
  unfold Go.Proofs.Ytgalkidhgjgbhaa.itAt at h1 h2
  unfold noN
  rw [h1, h2]
omit hF in
theorem Dead.len : (Go.Proofs.Ytgalkidhgjgbhaa.ins (l ++ d)).length = (Go.Proofs.Ytgalkidhgjgbhaa.ins l).length + d.length := by rw [hd.ins, List.length_append]
theorem Dead.reach1 {m : Nat} (h : Reach (l ++ d) m) : m < (Go.Proofs.Ytgalkidhgjgbhaa.ins l).length ∧ Reach l m := by
  induction h with
  | zero => exact ⟨hF.lastIns.1, .zero⟩
  | @yes n m _ _ hy ih =>
    rw [hd.yes hF ih.1] at hy
    refine ⟨?_, .yes ih.2 ih.1 hy⟩
    rcases hF.yes ih.1 with e | ⟨t, e, _, h2⟩
    · rw [hy] at e; omega
    · rw [hy] at e; omega
  | @no n m _ _ hy ih =>
    rw [hd.no hF ih.1] at hy
    refine ⟨?_, .no ih.2 ih.1 hy⟩
    rcases hF.no ih.1 with e | ⟨t, e, _, h2⟩
    · rw [hy] at e; omega
    · rw [hy] at e; omega
theorem Dead.reach2 {m : Nat} (h : Reach l m) : Reach (l ++ d) m := by
  have hl := hd.len (l := l)
  induction h with
  | zero => exact .zero
  | @yes n m _ hn hy ih => exact .yes ih (by omega) (by rw [hd.yes hF hn]; exact hy)
  | @no n m _ hn hy ih => exact .no ih (by omega) (by rw [hd.no hF hn]; exact hy)
theorem Dead.reachB1 {n : Nat} (hn : n < (Go.Proofs.Ytgalkidhgjgbhaa.ins l).length) : reachB (l ++ d) n = reachB l n := by
  have hl := hd.len (l := l)
  rw [Bool.eq_iff_iff, (hd.form hF).reachB_iff (by omega), hF.reachB_iff (by omega)]
  exact ⟨fun h => (hd.reach1 hF h).2, hd.reach2 hF⟩
theorem Dead.reachB2 {n : Nat} (hn : (Go.Proofs.Ytgalkidhgjgbhaa.ins l).length ≤ n) (hn2 : n < (Go.Proofs.Ytgalkidhgjgbhaa.ins (l ++ d)).length) : reachB (l ++ d) n = false := by
  cases h : reachB (l ++ d) n with
  | false => rfl
  | true =>
    have := (hd.reach1 hF (((hd.form hF).reachB_iff (by omega)).1 h)).1
    omega
theorem Dead.pl (F : Nat → Bool) {n : Nat} (hn : n ≤ (Go.Proofs.Ytgalkidhgjgbhaa.ins l).length) : plN (l ++ d) F n = plN l F n := by
  unfold plN
  refine posN_congr _ _ n fun m hm => ?_
  unfold szN
  rw [hd.reachB1 hF (by omega)]
theorem Dead.plEnd (F : Nat → Bool) : plN (l ++ d) F (Go.Proofs.Ytgalkidhgjgbhaa.ins (l ++ d)).length = plN l F (Go.Proofs.Ytgalkidhgjgbhaa.ins l).length := by
  rw [← hd.pl hF F (Nat.le_refl _)]
  have hl := hd.len (l := l)
  have key : ∀ k, (Go.Proofs.Ytgalkidhgjgbhaa.ins l).length + k ≤ (Go.Proofs.Ytgalkidhgjgbhaa.ins (l ++ d)).length → plN (l ++ d) F ((Go.Proofs.Ytgalkidhgjgbhaa.ins l).length + k) = plN (l ++ d) F (Go.Proofs.Ytgalkidhgjgbhaa.ins l).length := by
    intro k
    induction k with
    | zero => intro _; rfl
    | succ k ih =>
      intro hk
      have h1 := ih (by omega)
      rw [show (Go.Proofs.Ytgalkidhgjgbhaa.ins l).length + (k + 1) = (Go.Proofs.Ytgalkidhgjgbhaa.ins l).length + k + 1 by omega, plN_succ, h1]
      unfold szN
      rw [hd.reachB2 hF (by omega) (by omega)]
      simp
  have := key d.length (by omega)
  rw [← hl] at this
  exact this
theorem Dead.br {n : Nat} : Br (l ++ d) n ↔ Br l n := by
  have hl := hd.len (l := l)
  unfold Br
  constructor
  · rintro ⟨a, b, c⟩
    obtain ⟨h1, h2⟩ := hd.reach1 hF b
    have := hd.itAt h1
    unfold Go.Proofs.Ytgalkidhgjgbhaa.itAt at this
    rw [this] at c
    exact ⟨h1, h2, c⟩
  · rintro ⟨a, b, c⟩
    have := hd.itAt a
    unfold Go.Proofs.Ytgalkidhgjgbhaa.itAt at this
    rw [← this] at c
    exact ⟨by omega, hd.reach2 hF b, c⟩
theorem Dead.far (F : Nat → Bool) {n : Nat} (h : Br l n) : farN (l ++ d) F n = farN l F n := by
  obtain ⟨t, u, ey, eo, h1, h2, h3, h4⟩ := hF.ways h.1 h.2.2
  rw [farN_ways F ey eo, farN_ways F (by rw [hd.yes hF h.1]; exact ey) (by rw [hd.no hF h.1]; exact eo), hd.pl hF F (by omega), hd.pl hF F (by omega), hd.pl hF F (by omega)]
theorem Dead.closed {G : Nat → Bool} : Closed (l ++ d) G ↔ Closed l G := by
  constructor
  · intro h n hb hg
    rw [← hd.far hF G hb]
    exact h n ((hd.br hF).2 hb) hg
  · intro h n hb hg
    rw [hd.far hF G ((hd.br hF).1 hb)]
    exact h n ((hd.br hF).1 hb) hg
theorem Dead.laid {F G : Nat → Bool} (h1 : Laid l F) (h2 : Laid (l ++ d) G) : G = F := by
  funext n
  rw [Bool.eq_iff_iff]
  exact ⟨h2.least F ((hd.closed hF).2 h1.closed) n, h1.least G ((hd.closed hF).1 h2.closed) n⟩
theorem Dead.out (F : Nat → Bool) (hb : ∀ n, F n = true → Br l n) {n : Nat} (hn : n < (Go.Proofs.Ytgalkidhgjgbhaa.ins l).length) : outAt (l ++ d) F n = outAt l F n := by
  have e1 := hd.itAt hn
  cases hr : reachB l n with
  | false => rw [outAt_none hr, outAt_none (by rw [hd.reachB1 hF hn]; exact hr)]
  | true =>
    have hr' : reachB (l ++ d) n = true := by rw [hd.reachB1 hF hn]; exact hr
    by_cases hk : 25 ≤ (Go.Proofs.Ytgalkidhgjgbhaa.itAt l n).kd
    · obtain ⟨t, u, ey, eo, h1, h2, h3, h4⟩ := hF.ways hn hk
      have ey' : yesN (l ++ d) n = (t : Int) := by rw [hd.yes hF hn]; exact ey
      have eo' : noN (l ++ d) n = (u : Int) := by rw [hd.no hF hn]; exact eo
      cases hf : F n with
      | true => rw [outAt_far hr hf ey eo, outAt_far hr' hf ey' eo', e1, hd.pl hF F (by omega), hd.pl hF F (by omega), hd.pl hF F (by omega)]
      | false => rw [outAt_near hr hf hk ey eo, outAt_near hr' hf (by rw [e1]; exact hk) ey' eo', e1, hd.pl hF F (by omega), hd.pl hF F (by omega), hd.pl hF F (by omega)]
    · have hf : F n = false := by
        cases h : F n with
        | false => rfl
        | true => exact absurd (hb n h).2.2 hk
      by_cases h13 : (Go.Proofs.Ytgalkidhgjgbhaa.itAt l n).kd = 13
      · obtain ⟨t, ey, h1, h2⟩ := hF.jumpWay hn h13
        rw [outAt_jump hr hf h13 ey, outAt_jump hr' hf (by rw [e1]; exact h13) (by rw [hd.yes hF hn]; exact ey), e1, hd.pl hF F (by omega), hd.pl hF F (by omega)]
      · rw [outAt_other hr hf h13 hk, outAt_other hr' hf (by rw [e1]; exact h13) (by rw [e1]; exact hk), e1]
theorem Dead.asm {F : Nat → Bool} (h1 : Laid l F) : asmN (l ++ d) F = asmN l F := by
  have hl := hd.len (l := l)
  have key : ∀ k, k ≤ (Go.Proofs.Ytgalkidhgjgbhaa.ins l).length → asmUp (l ++ d) F k = asmUp l F k := by
    intro k
    induction k with
    | zero => intro _; rfl
    | succ k ih => intro hk; rw [asmUp_succ, asmUp_succ, ih (by omega), hd.out hF F h1.br (by omega)]
  have key2 : ∀ k, (Go.Proofs.Ytgalkidhgjgbhaa.ins l).length + k ≤ (Go.Proofs.Ytgalkidhgjgbhaa.ins (l ++ d)).length → asmUp (l ++ d) F ((Go.Proofs.Ytgalkidhgjgbhaa.ins l).length + k) = asmUp l F (Go.Proofs.Ytgalkidhgjgbhaa.ins l).length := by
    intro k
    induction k with
    | zero => intro _; exact key _ (Nat.le_refl _)
    | succ k ih =>
      intro hk
      rw [show (Go.Proofs.Ytgalkidhgjgbhaa.ins l).length + (k + 1) = (Go.Proofs.Ytgalkidhgjgbhaa.ins l).length + k + 1 by omega, asmUp_succ, ih (by omega), outAt_none (hd.reachB2 hF (by omega) (by omega)), List.append_nil]
  have := key2 d.length (by omega)
  rw [← hl] at this
  exact this
end
end Go.Proofs.Ytgalkidhgjgbhaa

/-! Items that end in two returns, the second behind a mark; and items without marks: in plain words. -/
namespace Go.Proofs.Ytgalkidhgjgbhaa
set_option linter.unusedVariables false

def tailT : List It := [⟨0, 6, 1, 0, 0⟩, ⟨1, 0, 0, 0, 0⟩, ⟨0, 6, 2, 0, 0⟩]
structure Body (b : List It) : Prop where
  mark : ∀ x ∈ b, x.mark = 0
  kind : ∀ x ∈ b, x.kd ≠ 0 ∧ ¬ isEnd x.kd
  tr : ∀ x ∈ b, x.tr = 0 ∨ (x.tr = 1 ∧ 25 ≤ x.kd)
  fa : ∀ x ∈ b, x.fa = 0 ∨ (x.fa = 1 ∧ 25 ≤ x.kd)
theorem kd_six : (ofN 6).1 = 14 := by decide +kernel
theorem tail_at (b : List It) (j : Nat) : (b ++ tailT).getD (b.length + j) default = tailT.getD j default := by
  rw [getD_rightT _ _ (by omega), show b.length + j - b.length = j by omega]
section
variable {b : List It} (h : Body b)
include h
theorem Body.ins : ins (b ++ tailT) = b ++ [⟨0, 6, 1, 0, 0⟩, ⟨0, 6, 2, 0, 0⟩] := by
  rw [ins_append]
  congr 1
  unfold Go.Proofs.Ytgalkidhgjgbhaa.ins
  exact List.filter_eq_self.2 fun x hx => by simpa using h.mark x hx
theorem Body.len : (Go.Proofs.Ytgalkidhgjgbhaa.ins (b ++ tailT)).length = b.length + 2 := by rw [h.ins]; simp
theorem Body.uniq : Uniq (b ++ tailT) 1 (b.length + 1) := by
  refine ⟨by decide, by simp [tailT], fun p hp => ?_⟩
  by_cases hpl : p < b.length
  · rw [getD_leftT _ _ hpl, h.mark _ (getD_memT hpl)]
    exact ⟨fun e => absurd e (by decide), fun e => by omega⟩
  · obtain ⟨j, rfl⟩ := Nat.le.dest (Nat.le_of_not_lt hpl)
    rw [tail_at]
    have hj : j = 0 ∨ j = 1 ∨ j = 2 := by simp [tailT] at hp; omega
    rcases hj with rfl | rfl | rfl
    · exact ⟨fun e => absurd e (by decide), fun e => by omega⟩
    · exact ⟨fun _ => rfl, fun _ => rfl⟩
    · exact ⟨fun e => absurd e (by decide), fun e => by omega⟩
theorem Body.form : Form (b ++ tailT) := by
  have hu := h.uniq
  refine ⟨fun i hi => ?_, by simp [tailT], ?_, ?_⟩
  · unfold OkAt
    by_cases hil : i < b.length
    · have hm := getD_memT hil
      have h2 := h.kind _ hm
      have h3 := h.tr _ hm
      have h4 := h.fa _ hm
      rw [getD_leftT _ _ hil, if_neg (by rw [h.mark _ hm]; simp)]
      refine ⟨h2.1, fun ht => ?_, fun ht => ?_⟩
      · rcases h3 with e | ⟨e, hk⟩
        · exact absurd e ht
        · exact ⟨.inr hk, b.length + 1, by omega, by rw [e]; exact hu⟩
      · rcases h4 with e | ⟨e, hk⟩
        · exact absurd e ht
        · exact ⟨hk, b.length + 1, by omega, by rw [e]; exact hu⟩
    · obtain ⟨j, rfl⟩ := Nat.le.dest (Nat.le_of_not_lt hil)
      rw [tail_at]
      have hj : j = 0 ∨ j = 1 ∨ j = 2 := by simp [tailT] at hi; omega
      rcases hj with rfl | rfl | rfl
      · rw [if_neg (by decide)]
        refine ⟨?_, fun h => absurd rfl h, fun h => absurd rfl h⟩
        show (ofN 6).1 ≠ 0
        rw [kd_six]; decide
      · rw [if_pos (by decide)]
        exact ⟨by decide, hu, rfl, rfl, rfl, rfl⟩
      · rw [if_neg (by decide)]
        refine ⟨?_, fun h => absurd rfl h, fun h => absurd rfl h⟩
        show (ofN 6).1 ≠ 0
        rw [kd_six]; decide
  · rw [show (b ++ tailT).length - 1 = b.length + 2 by simp [tailT], tail_at]; rfl
  · rw [show (b ++ tailT).length - 1 = b.length + 2 by simp [tailT], tail_at]
    show isEnd (ofN 6).1
    rw [kd_six]; exact .inl rfl
theorem Body.it {n : Nat} (hn : n < b.length) : itAt (b ++ tailT) n = b.getD n default := by unfold itAt; rw [h.ins, getD_leftT _ _ hn]
theorem Body.it0 : itAt (b ++ tailT) b.length = ⟨0, 6, 1, 0, 0⟩ := by
  unfold itAt; rw [h.ins, getD_rightT _ _ (by omega), Nat.sub_self]; rfl
theorem Body.it1 : itAt (b ++ tailT) (b.length + 1) = ⟨0, 6, 2, 0, 0⟩ := by
  unfold itAt; rw [h.ins, getD_rightT _ _ (by omega), show b.length + 1 - b.length = 1 by omega]; rfl
theorem Body.cnt {p : Nat} (hp : p ≤ b.length) : cnt (b ++ tailT) p = p := by
  rw [cnt_left _ _ hp]
  unfold Go.Proofs.Ytgalkidhgjgbhaa.cnt Go.Proofs.Ytgalkidhgjgbhaa.ins
  rw [List.filter_eq_self.2 fun x hx => by simpa using h.mark x (List.mem_of_mem_take hx)]
  simp; omega
theorem Body.tgt : tgtN (b ++ tailT) 1 = b.length + 1 := by
  rw [tgtN_uniq h.uniq, cnt_succ _ _ (by simp [tailT]), if_pos (by have := tail_at b 0; rw [Nat.add_zero] at this; rw [this]; rfl), h.cnt (Nat.le_refl _)]
theorem Body.yes {n : Nat} (hn : n < b.length) : yesN (b ++ tailT) n = ((if (b.getD n default).tr = 0 then n + 1 else b.length + 1 : Nat) : Int) := by
  have hit := h.it hn
  unfold itAt at hit
  have hm := getD_memT hn
  unfold yesN
  rw [hit, if_neg (h.kind _ hm).2]
  unfold toN
  rcases h.tr _ hm with e | ⟨e, _⟩
  · rw [e, if_pos rfl, if_pos rfl]
  · rw [e, if_neg (by decide), if_neg (by decide), h.tgt]
theorem Body.no {n : Nat} (hn : n < b.length) (hk : 25 ≤ (b.getD n default).kd) : noN (b ++ tailT) n = ((if (b.getD n default).fa = 0 then n + 1 else b.length + 1 : Nat) : Int) := by
  have hit := h.it hn
  unfold itAt at hit
  have hm := getD_memT hn
  unfold noN
  rw [hit, if_pos hk]
  unfold toN
  rcases h.fa _ hm with e | ⟨e, _⟩
  · rw [e, if_pos rfl, if_pos rfl]
  · rw [e, if_neg (by decide), if_neg (by decide), h.tgt]
theorem Body.ret0 (W : Nat → Nat) (a : Nat) : GoesT (b ++ tailT) W a b.length 1 := by
  have := GoesT.ret (l := b ++ tailT) (W := W) (a := a) (n := b.length) (by rw [h.len]; omega) (by rw [h.it0]; exact kd_six)
  rw [h.it0] at this
  exact this
theorem Body.ret1 (W : Nat → Nat) (a : Nat) : GoesT (b ++ tailT) W a (b.length + 1) 2 := by
  have := GoesT.ret (l := b ++ tailT) (W := W) (a := a) (n := b.length + 1) (by rw [h.len]; omega) (by rw [h.it1]; exact kd_six)
  rw [h.it1] at this
  exact this
theorem Body.simple (hs : ∀ x ∈ b, Simple x) : ∀ n, n < (Go.Proofs.Ytgalkidhgjgbhaa.ins (b ++ tailT)).length → Simple (itAt (b ++ tailT) n) := by
  intro n hn
  rw [h.len] at hn
  by_cases h1 : n < b.length
  · rw [h.it h1]; exact hs _ (getD_memT h1)
  · have h2 : n = b.length ∨ n = b.length + 1 := by omega
    rcases h2 with rfl | rfl
    · rw [h.it0]; exact .inr (.inr (.inr (.inr (.inl kd_six))))
    · rw [h.it1]; exact .inr (.inr (.inr (.inr (.inl kd_six))))
end
/-- Where each leads to the next, all are reached. -/
theorem reach_all {l : List It} {N : Nat} (hN : N ≤ (ins l).length) (h : ∀ n, n + 1 < N → yesN l n = ((n + 1 : Nat) : Int) ∨ noN l n = ((n + 1 : Nat) : Int)) : ∀ n, n < N → Reach l n
  | 0, _ => .zero
  | n + 1, hn => by
    have ih := reach_all hN h n (by omega)
    rcases h n hn with e | e
    · exact .yes ih (by omega) e
    · exact .no ih (by omega) e
theorem laid_eq {l : List It} {F G : Nat → Bool} (h1 : Laid l F) (h2 : Laid l G) : F = G := by
  funext n
  rw [Bool.eq_iff_iff]
  exact ⟨h1.least G h2.closed n, h2.least F h1.closed n⟩
end Go.Proofs.Ytgalkidhgjgbhaa

/-! Items that only negate, and return: in plain words. -/
namespace Go.Proofs.Ytgalkidhgjgbhaa
set_option linter.unusedVariables false

def negT : It := ⟨0, 132, 0, 0, 0⟩
def retT : It := ⟨0, 22, 0, 0, 0⟩
def longT (k : Nat) : List It := List.replicate k negT ++ [retT]
theorem negT_kd : negT.kd = 12 := by show (ofN 132).1 = 12; decide +kernel
theorem retT_kd : retT.kd = 15 := by show (ofN 22).1 = 15; decide +kernel
theorem longT_length (k : Nat) : (longT k).length = k + 1 := by simp [longT]
theorem longT_neg {k n : Nat} (h : n < k) : (longT k).getD n default = negT := by
  unfold longT
  rw [getD_leftT _ _ (by simpa using h), List.getD_eq_getElem?_getD, List.getElem?_replicate, if_pos h]; rfl
theorem longT_ret (k : Nat) : (longT k).getD k default = retT := by
  unfold longT
  rw [getD_rightT _ _ (by simp)]; simp
theorem longT_ok (k : Nat) : ∀ x ∈ longT k, x.Ok := fun x hx => by
  have : x = negT ∨ x = retT := by
    unfold longT at hx
    rcases List.mem_append.1 hx with h | h
    · exact .inl (List.eq_of_mem_replicate h)
    · exact .inr (by simpa using h)
  rcases this with rfl | rfl <;> unfold It.Ok <;> decide
theorem longT_ins (k : Nat) : ins (longT k) = longT k := by
  unfold ins
  refine List.filter_eq_self.2 fun x hx => ?_
  unfold longT at hx
  rcases List.mem_append.1 hx with h | h
  · rw [List.eq_of_mem_replicate h]; rfl
  · rw [show x = retT by simpa using h]; rfl
theorem longT_form (k : Nat) : Form (longT k) := by
  refine ⟨fun i hi => ?_, by simp [longT], ?_, ?_⟩
  · rw [longT_length] at hi
    unfold OkAt
    by_cases h : i < k
    · rw [longT_neg h, if_neg (by decide)]
      exact ⟨by rw [negT_kd]; decide, fun h => absurd rfl h, fun h => absurd rfl h⟩
    · obtain rfl : i = k := by omega
      rw [longT_ret, if_neg (by decide)]
      exact ⟨by rw [retT_kd]; decide, fun h => absurd rfl h, fun h => absurd rfl h⟩
  · rw [longT_length, Nat.add_sub_cancel, longT_ret]; rfl
  · rw [longT_length, Nat.add_sub_cancel, longT_ret, retT_kd]; exact .inr rfl
theorem longT_it {k n : Nat} (h : n < k) : itAt (longT k) n = negT := by unfold itAt; rw [longT_ins, longT_neg h]
theorem longT_it1 (k : Nat) : itAt (longT k) k = retT := by unfold itAt; rw [longT_ins, longT_ret]
theorem longT_yes {k n : Nat} (h : n < k) : yesN (longT k) n = ((n + 1 : Nat) : Int) := by
  unfold yesN
  rw [longT_ins, longT_neg h, negT_kd, if_neg (by unfold isEnd; omega)]
  rfl
theorem longT_reach {k n : Nat} (h : n ≤ k) : reachB (longT k) n = true := by
  refine ((longT_form k).reachB_iff (by rw [longT_ins, longT_length]; omega)).2 (reach_all (N := k + 1) (by rw [longT_ins, longT_length]; omega) (fun n hn => .inl (longT_yes (by omega))) n (by omega))
theorem longT_kds {k n : Nat} (h : n < (ins (longT k)).length) : (itAt (longT k) n).kd = 12 ∨ (itAt (longT k) n).kd = 15 := by
  rw [longT_ins, longT_length] at h
  by_cases h1 : n < k
  · rw [longT_it h1]; exact .inl negT_kd
  · obtain rfl : n = k := by omega
    rw [longT_it1]; exact .inr retT_kd
theorem longT_far {k : Nat} {F : Nat → Bool} (hL : Laid (longT k) F) (n : Nat) : F n = false := by
  cases h : F n with
  | false => rfl
  | true =>
    have hb := hL.br n h
    have h1 := longT_kds hb.1
    have h2 := hb.2.2
    unfold itAt at h1
    omega
theorem longT_pl {k : Nat} {F : Nat → Bool} (hL : Laid (longT k) F) : ∀ n, n ≤ k + 1 → plN (longT k) F n = n
  | 0, _ => rfl
  | n + 1, h => by
    rw [plN_succ, longT_pl hL n (by omega)]
    unfold szN
    rw [longT_reach (by omega), longT_far hL]; rfl
theorem longT_len {k : Nat} {F : Nat → Bool} (hL : Laid (longT k) F) : plN (longT k) F (ins (longT k)).length = k + 1 := by
  rw [longT_ins, longT_length]; exact longT_pl hL _ (Nat.le_refl _)
theorem longT_check {k : Nat} {F : Nat → Bool} (hL : Laid (longT k) F) (hk : k + 1 ≤ 4096) : checkN (asmN (longT k) F) = (0, 0) := by
  refine asm_check (longT_form k) hL (fun n hn => ?_) (by rw [longT_len hL]; exact hk)
  rcases longT_kds hn with h | h
  · exact .inr (.inr (.inl h))
  · exact .inr (.inr (.inr (.inr (.inr (.inl h)))))
theorem longT_first {k : Nat} {F : Nat → Bool} (hL : Laid (longT k) F) (hk : 0 < k) : (asmN (longT k) F).getD 0 default = ⟨132, 0, 0, 0⟩ := by
  have h1 : szN (longT k) F 0 = 1 := by unfold szN; rw [longT_reach (by omega), longT_far hL]; rfl
  have h2 := asmN_at (longT k) F (k := 0) (j := 0) (by rw [longT_ins, longT_length]; omega) (by omega)
  rw [outAt_other (longT_reach (by omega)) (longT_far hL 0) (by rw [longT_it hk, negT_kd]; decide) (by rw [longT_it hk, negT_kd]; decide), longT_it hk] at h2
  exact h2
/-- As the loop builds them. -/
theorem longT_take (k j : Nat) : List.replicate (j + 1) negT = List.replicate j negT ++ [negT] := List.replicate_succ' ..
theorem asmLen (l : List It) (F : Nat → Bool) : (asmN l F).length = plN l F (ins l).length := asmUp_length l F _
end Go.Proofs.Ytgalkidhgjgbhaa

/-! One branch over many, and many branches to one place: in plain words. -/
namespace Go.Proofs.Ytgalkidhgjgbhaa
set_option linter.unusedVariables false

theorem kd_imm : (ofN 0).1 = 2 := by decide +kernel
theorem kd_load : (ofN 32).1 = 1 := by decide +kernel
theorem kd_eq : (ofN 21).1 = 25 := by decide +kernel
theorem kx_eq : (ofN 21).2 = false := by decide +kernel
def immT (a : Nat) : It := ⟨0, 0, a, 0, 0⟩
def eqT (k : Nat) (s : Bool) : It := ⟨0, 21, k, if s then 0 else 1, if s then 1 else 0⟩
def farB (a k : Nat) (s : Bool) (n : Nat) : List It := [immT a, eqT k s] ++ List.replicate n negT
def farT (a k : Nat) (s : Bool) (n : Nat) : List It := farB a k s n ++ tailT
theorem farB_length (a k : Nat) (s : Bool) (n : Nat) : (farB a k s n).length = n + 2 := by simp [farB]
theorem farB_succ (a k : Nat) (s : Bool) (n : Nat) : farB a k s (n + 1) = farB a k s n ++ [negT] := by unfold farB; rw [List.replicate_succ', List.append_assoc]
theorem farB_mem {a k n : Nat} {s : Bool} {x : It} (h : x ∈ farB a k s n) : x = immT a ∨ x = eqT k s ∨ x = negT := by
  unfold farB at h
  rcases List.mem_append.1 h with h | h
  · have h2 : x = immT a ∨ x = eqT k s := by simpa using h
    exact h2.elim .inl fun h => .inr (.inl h)
  · exact .inr (.inr (List.eq_of_mem_replicate h))
theorem farB_0 (a k : Nat) (s : Bool) (n : Nat) : (farB a k s n).getD 0 default = immT a := rfl
theorem farB_1 (a k : Nat) (s : Bool) (n : Nat) : (farB a k s n).getD 1 default = eqT k s := rfl
theorem farB_neg {a k n j : Nat} {s : Bool} (h : j < n) : (farB a k s n).getD (j + 2) default = negT := by
  unfold farB
  rw [getD_rightT _ _ (by simp), List.getD_eq_getElem?_getD, List.getElem?_replicate]
  rw [if_pos (by simp; omega)]; rfl
theorem immT_kd (a : Nat) : (immT a).kd = 2 := kd_imm
theorem eqT_kd (k : Nat) (s : Bool) : (eqT k s).kd = 25 := kd_eq
theorem eqT_kx (k : Nat) (s : Bool) : (eqT k s).kx = false := kx_eq
theorem tail_ok : ∀ x ∈ tailT, x.Ok := fun x hx => by
  simp only [tailT, List.mem_cons, List.not_mem_nil, or_false] at hx
  rcases hx with rfl | rfl | rfl <;> unfold It.Ok <;> decide
theorem immT_ok {a : Nat} (h : a < 4294967296) : (immT a).Ok := by
  unfold immT It.Ok
  refine ⟨?_, ?_, h, ?_, ?_⟩ <;> simp
theorem eqT_ok {k : Nat} {s : Bool} (h : k < 4294967296) : (eqT k s).Ok := by
  unfold eqT It.Ok
  refine ⟨by simp, by simp, h, ?_, ?_⟩ <;> cases s <;> simp
theorem farT_ok {a k n : Nat} {s : Bool} (ha : a < 4294967296) (hk : k < 4294967296) : ∀ x ∈ farT a k s n, x.Ok := fun x hx => by
  rcases List.mem_append.1 hx with h | h
  · rcases farB_mem h with rfl | rfl | rfl
    · exact immT_ok ha
    · exact eqT_ok hk
    · unfold It.Ok; decide
  · exact tail_ok x h
theorem farB_body (a k : Nat) (s : Bool) (n : Nat) : Body (farB a k s n) := by
  refine ⟨fun x hx => ?_, fun x hx => ?_, fun x hx => ?_, fun x hx => ?_⟩ <;> rcases farB_mem hx with rfl | rfl | rfl
  · rfl
  · rfl
  · rfl
  · rw [immT_kd]; unfold isEnd; omega
  · rw [eqT_kd]; unfold isEnd; omega
  · rw [negT_kd]; unfold isEnd; omega
  · exact .inl rfl
  · cases s
    · exact .inr ⟨rfl, by rw [eqT_kd]; omega⟩
    · exact .inl rfl
  · exact .inl rfl
  · exact .inl rfl
  · cases s
    · exact .inl rfl
    · exact .inr ⟨rfl, by rw [eqT_kd]; omega⟩
  · exact .inl rfl
theorem farT_simple (a k : Nat) (s : Bool) (n : Nat) : ∀ x ∈ farB a k s n, Simple x := fun x hx => by
  rcases farB_mem hx with rfl | rfl | rfl
  · exact .inr (.inl (immT_kd a))
  · exact .inr (.inr (.inr (.inr (.inr (.inr (by rw [eqT_kd]; omega))))))
  · exact .inr (.inr (.inl negT_kd))
section
variable (a k : Nat) (s : Bool) (n : Nat)
theorem farT_form : Form (farT a k s n) := (farB_body a k s n).form
theorem farT_len : (ins (farT a k s n)).length = n + 4 := by unfold farT; rw [(farB_body a k s n).len, farB_length]
theorem farT_yes0 : yesN (farT a k s n) 0 = ((1 : Nat) : Int) := by
  unfold farT
  rw [(farB_body a k s n).yes (by rw [farB_length]; omega), farB_0, if_pos (show (immT a).tr = 0 from rfl)]
theorem farT_yes1 : yesN (farT a k s n) 1 = ((if s then 2 else n + 3 : Nat) : Int) := by
  unfold farT
  rw [(farB_body a k s n).yes (by rw [farB_length]; omega), farB_1, farB_length]
  cases s <;> rfl
theorem farT_no1 : noN (farT a k s n) 1 = ((if s then n + 3 else 2 : Nat) : Int) := by
  unfold farT
  rw [(farB_body a k s n).no (by rw [farB_length]; omega) (by rw [farB_1, eqT_kd]; omega), farB_1, farB_length]
  cases s <;> rfl
theorem farT_yes2 {j : Nat} (hj : j < n) : yesN (farT a k s n) (j + 2) = ((j + 2 + 1 : Nat) : Int) := by
  unfold farT
  rw [(farB_body a k s n).yes (by rw [farB_length]; omega), farB_neg hj, if_pos (show negT.tr = 0 from rfl)]
theorem farT_it0 : itAt (farT a k s n) 0 = immT a := by unfold farT; rw [(farB_body a k s n).it (by rw [farB_length]; omega), farB_0]
theorem farT_it1 : itAt (farT a k s n) 1 = eqT k s := by unfold farT; rw [(farB_body a k s n).it (by rw [farB_length]; omega), farB_1]
theorem farT_it2 {j : Nat} (hj : j < n) : itAt (farT a k s n) (j + 2) = negT := by unfold farT; rw [(farB_body a k s n).it (by rw [farB_length]; omega), farB_neg hj]
theorem farT_reach {i : Nat} (hi : i < n + 4) : reachB (farT a k s n) i = true := by
  have hl := farT_len a k s n
  refine ((farT_form a k s n).reachB_iff (by omega)).2 ?_
  have up : ∀ i, i < n + 3 → Reach (farT a k s n) i := reach_all (N := n + 3) (by omega) fun i hi => by
    by_cases h0 : i = 0
    · subst h0; exact .inl (farT_yes0 a k s n)
    · by_cases h1 : i = 1
      · subst h1
        cases s
        · exact .inr (farT_no1 a k false n)
        · exact .inl (farT_yes1 a k true n)
      · obtain ⟨j, rfl⟩ : ∃ j, i = j + 2 := ⟨i - 2, by omega⟩
        exact .inl (farT_yes2 a k s n (by omega))
  by_cases h : i < n + 3
  · exact up i h
  · obtain rfl : i = n + 3 := by omega
    cases s
    · exact .yes (up 1 (by omega)) (by omega) (farT_yes1 a k false n)
    · exact .no (up 1 (by omega)) (by omega) (farT_no1 a k true n)
theorem farT_kds {i : Nat} (hi : i < n + 4) (h1 : i ≠ 1) : ¬ 25 ≤ (itAt (farT a k s n) i).kd := by
  by_cases h0 : i = 0
  · subst h0; rw [farT_it0, immT_kd]; omega
  · obtain ⟨j, rfl⟩ : ∃ j, i = j + 2 := ⟨i - 2, by omega⟩
    by_cases hj : j < n
    · rw [farT_it2 a k s n hj, negT_kd]; omega
    · have hl := farB_length a k s n
      by_cases hj2 : j = n
      · subst hj2
        have := (farB_body a k s j).it0
        rw [hl] at this
        unfold farT
        rw [this]
        show ¬ 25 ≤ (ofN 6).1
        rw [kd_six]; omega
      · obtain rfl : j = n + 1 := by omega
        have := (farB_body a k s n).it1
        rw [hl] at this
        unfold farT
        rw [show n + 1 + 2 = n + 2 + 1 by omega, this]
        show ¬ 25 ≤ (ofN 6).1
        rw [kd_six]; omega
variable {F : Nat → Bool}
theorem farT_pl (hF : ∀ i, F i = true → Br (farT a k s n) i) : plN (farT a k s n) F 1 = 1 ∧ ∀ j, j ≤ n + 2 → plN (farT a k s n) F (j + 2) = (if F 1 then 4 else 2) + j := by
  have hno : ∀ i, i < n + 4 → i ≠ 1 → F i = false := fun i hi h1 => by
    cases h : F i with
    | false => rfl
    | true => exact absurd (hF i h).2.2 (farT_kds a k s n hi h1)
  have h1 : plN (farT a k s n) F 1 = 1 := by
    rw [plN_succ]
    unfold szN
    rw [farT_reach a k s n (by omega), hno 0 (by omega) (by omega)]; rfl
  refine ⟨h1, fun j => ?_⟩
  induction j with
  | zero =>
    intro _
    rw [show 0 + 2 = 1 + 1 by rfl, plN_succ, h1]
    unfold szN
    rw [farT_reach a k s n (by omega)]
    cases F 1 <;> rfl
  | succ j ih =>
    intro hj
    rw [show j + 1 + 2 = j + 2 + 1 by omega, plN_succ, ih (by omega)]
    unfold szN
    rw [farT_reach a k s n (by omega), hno (j + 2) (by omega) (by omega)]
    simp; omega
theorem farT_farN (hF : ∀ i, F i = true → Br (farT a k s n) i) : farN (farT a k s n) F 1 = (if F 1 then 4 else 2) + n - 1 := by
  obtain ⟨h1, h2⟩ := farT_pl a k s n hF
  have e2 := h2 0 (by omega)
  have e3 := h2 (n + 1) (by omega)
  rw [show n + 1 + 2 = n + 3 by omega] at e3
  rw [show 0 + 2 = 2 by rfl] at e2
  cases s
  · rw [farN_ways F (farT_yes1 a k false n) (farT_no1 a k false n)]
    simp only [Bool.false_eq_true, if_false]
    rw [e2, e3, h1]; omega
  · rw [farN_ways F (farT_yes1 a k true n) (farT_no1 a k true n)]
    simp only [if_true]
    rw [e2, e3, h1]; omega
theorem farT_F (hL : Laid (farT a k s n) F) : F 1 = decide (255 < n + 1) := by
  have hl := farT_len a k s n
  have hb : Br (farT a k s n) 1 := by
    refine ⟨by omega, ((farT_form a k s n).reachB_iff (by omega)).1 (farT_reach a k s n (by omega)), ?_⟩
    have := farT_it1 a k s n
    unfold itAt at this
    rw [this, eqT_kd]; omega
  cases h : F 1 with
  | false =>
    have h1 := hL.closed 1 hb h
    rw [farT_farN a k s n hL.br, h] at h1
    simp at h1
    simp; omega
  | true =>
    by_cases h2 : 255 < n + 1
    · simp; omega
    · exfalso
      have hc : Closed (farT a k s n) (fun _ => false) := fun i hi _ => by
        by_cases h1 : i = 1
        · subst h1
          rw [farT_farN a k s n (F := fun _ => false) (fun i h => by cases h)]
          simp; omega
        · have h3 := hi.1
          exact absurd hi.2.2 (farT_kds a k s n (by omega) h1)
      have := hL.least _ hc 1 h
      cases this
theorem farT_pN (hL : Laid (farT a k s n) F) : plN (farT a k s n) F (ins (farT a k s n)).length = n + 4 + if 255 < n + 1 then 2 else 0 := by
  have h := (farT_pl a k s n hL.br).2 (n + 2) (by omega)
  rw [farT_len, show n + 4 = n + 2 + 2 by omega, h, farT_F a k s n hL]
  by_cases h2 : 255 < n + 1
  · rw [if_pos h2, if_pos (by simpa using h2)]; omega
  · rw [if_neg h2, if_neg (by simpa using h2)]; omega
theorem farT_check (hL : Laid (farT a k s n) F) (hn : n ≤ 1000) : checkN (asmN (farT a k s n) F) = (0, 0) := by
  refine asm_check (farT_form a k s n) hL ((farB_body a k s n).simple (farT_simple a k s n)) ?_
  rw [farT_pN a k s n hL]
  split <;> omega
theorem farT_run (W : Nat → Nat) : GoesT (farT a k s n) W 0 0 (if (decide (a = k) != s) then 2 else 1) := by
  have hl := farT_len a k s n
  have hbl := farB_length a k s n
  have r0 : ∀ x, GoesT (farT a k s n) W x (n + 2) 1 := fun x => by have := (farB_body a k s n).ret0 W x; rw [hbl] at this; exact this
  have r1 : ∀ x, GoesT (farT a k s n) W x (n + 3) 2 := fun x => by have := (farB_body a k s n).ret1 W x; rw [hbl] at this; exact this
  have down : ∀ d, d ≤ n → ∀ x, GoesT (farT a k s n) W x (n - d + 2) 1 := by
    intro d
    induction d with
    | zero => intro _ x; exact r0 x
    | succ d ih =>
      intro hd x
      refine .neg (by omega) (by rw [farT_it2 a k s n (by omega)]; exact negT_kd) (farT_yes2 a k s n (by omega)) ?_
      rw [show n - (d + 1) + 2 + 1 = n - d + 2 by omega]
      exact ih (by omega) _
  have r2 : ∀ x, GoesT (farT a k s n) W x 2 1 := fun x => by have := down n (Nat.le_refl _) x; rw [Nat.sub_self] at this; exact this
  refine .imm (by omega) (by rw [farT_it0]; exact immT_kd a) (farT_yes0 a k s n) ?_
  rw [farT_it0]
  show GoesT (farT a k s n) W a 1 _
  by_cases e : a = k
  · refine .yes (by omega) (by rw [farT_it1]; exact eqT_kd k s) (by rw [farT_it1]; exact eqT_kx k s) (by rw [farT_it1]; exact e) (farT_yes1 a k s n) ?_
    rw [decide_eq_true e]
    cases s
    · exact r1 _
    · exact r2 _
  · refine .no (by omega) (by rw [farT_it1]; exact eqT_kd k s) (by rw [farT_it1]; exact eqT_kx k s) (by rw [farT_it1]; exact e) (farT_no1 a k s n) ?_
    rw [decide_eq_false e]
    cases s
    · exact r2 _
    · exact r1 _
end

/-! Try# many branches to one place -/
def loadT : It := ⟨0, 32, 0, 0, 0⟩
def chB (n : Nat) : List It := loadT :: (List.range n).map fun i => eqT i false
def chT (n : Nat) : List It := chB n ++ tailT
theorem chB_length (n : Nat) : (chB n).length = n + 1 := by simp [chB]
theorem chB_succ (n : Nat) : chB (n + 1) = chB n ++ [eqT n false] := by unfold chB; rw [List.range_succ, List.map_append]; rfl
theorem chB_mem {n : Nat} {x : It} (h : x ∈ chB n) : x = loadT ∨ ∃ i, i < n ∧ x = eqT i false := by
  unfold chB at h
  rcases List.mem_cons.1 h with h | h
  · exact .inl h
  · obtain ⟨i, hi, rfl⟩ := List.mem_map.1 h
    exact .inr ⟨i, List.mem_range.1 hi, rfl⟩
theorem chB_0 (n : Nat) : (chB n).getD 0 default = loadT := rfl
theorem chB_at {n i : Nat} (h : i < n) : (chB n).getD (i + 1) default = eqT i false := by simp [chB, h]
theorem loadT_kd : loadT.kd = 1 := kd_load
theorem chT_ok {n : Nat} (hn : n ≤ 1000) : ∀ x ∈ chT n, x.Ok := fun x hx => by
  rcases List.mem_append.1 hx with h | h
  · rcases chB_mem h with rfl | ⟨i, hi, rfl⟩
    · unfold It.Ok; decide
    · exact eqT_ok (by omega)
  · exact tail_ok x h
theorem chB_body (n : Nat) : Body (chB n) := by
  refine ⟨fun x hx => ?_, fun x hx => ?_, fun x hx => ?_, fun x hx => ?_⟩ <;> rcases chB_mem hx with rfl | ⟨i, hi, rfl⟩
  · rfl
  · rfl
  · rw [loadT_kd]; unfold isEnd; omega
  · rw [eqT_kd]; unfold isEnd; omega
  · exact .inl rfl
  · exact .inr ⟨rfl, by rw [eqT_kd]; omega⟩
  · exact .inl rfl
  · exact .inl rfl
theorem chT_simple (n : Nat) : ∀ x ∈ chB n, Simple x := fun x hx => by
  rcases chB_mem hx with rfl | ⟨i, hi, rfl⟩
  · exact .inl ⟨loadT_kd, by decide, by decide⟩
  · exact .inr (.inr (.inr (.inr (.inr (.inr (by rw [eqT_kd]; omega))))))
theorem chT_form (n : Nat) : Form (chT n) := (chB_body n).form
theorem chT_len (n : Nat) : (ins (chT n)).length = n + 3 := by unfold chT; rw [(chB_body n).len, chB_length]
theorem chT_yes0 (n : Nat) : yesN (chT n) 0 = ((0 + 1 : Nat) : Int) := by
  unfold chT
  rw [(chB_body n).yes (by rw [chB_length]; omega), chB_0, if_pos (show loadT.tr = 0 from rfl)]
theorem chT_yes {n i : Nat} (hi : i < n) : yesN (chT n) (i + 1) = ((n + 2 : Nat) : Int) := by
  unfold chT
  rw [(chB_body n).yes (by rw [chB_length]; omega), chB_at hi, chB_length]
  rfl
theorem chT_no {n i : Nat} (hi : i < n) : noN (chT n) (i + 1) = ((i + 1 + 1 : Nat) : Int) := by
  unfold chT
  rw [(chB_body n).no (by rw [chB_length]; omega) (by rw [chB_at hi, eqT_kd]; omega), chB_at hi]
  rfl
theorem chT_it0 (n : Nat) : itAt (chT n) 0 = loadT := by unfold chT; rw [(chB_body n).it (by rw [chB_length]; omega), chB_0]
theorem chT_it {n i : Nat} (hi : i < n) : itAt (chT n) (i + 1) = eqT i false := by unfold chT; rw [(chB_body n).it (by rw [chB_length]; omega), chB_at hi]
theorem chT_check {n : Nat} {F : Nat → Bool} (hL : Laid (chT n) F) (hn : n ≤ 1000) : plN (chT n) F (ins (chT n)).length ≤ 4096 ∧ checkN (asmN (chT n) F) = (0, 0) := by
  have h := plN_le (chT n) F (ins (chT n)).length
  rw [chT_len] at h ⊢
  have h2 : plN (chT n) F (n + 3) ≤ 4096 := by omega
  exact ⟨h2, asm_check (chT_form n) hL ((chB_body n).simple (chT_simple n)) (by rw [chT_len]; exact h2)⟩
theorem chT_run (n ask : Nat) (W : Nat → Nat) (hW : W 0 = ask) : GoesT (chT n) W 0 0 (if ask < n then 2 else 1) := by
  have hl := chT_len n
  have hbl := chB_length n
  have r0 : ∀ x, GoesT (chT n) W x (n + 1) 1 := fun x => by have := (chB_body n).ret0 W x; rw [hbl] at this; exact this
  have r1 : ∀ x, GoesT (chT n) W x (n + 2) 2 := fun x => by have := (chB_body n).ret1 W x; rw [hbl] at this; exact this
  refine .load (by omega) (by rw [chT_it0]; exact loadT_kd) (by rw [chT_it0]; decide) (chT_yes0 n) ?_
  rw [chT_it0]
  show GoesT (chT n) W (W 0) 1 _
  rw [hW]
  by_cases h : ask < n
  · rw [if_pos h]
    have down : ∀ d, d ≤ ask → GoesT (chT n) W ask (ask - d + 1) 2 := by
      intro d
      induction d with
      | zero =>
        intro _
        exact .yes (by omega) (by rw [chT_it (by omega)]; exact eqT_kd _ _) (by rw [chT_it (by omega)]; exact eqT_kx _ _) (by rw [chT_it (by omega)]; rfl) (chT_yes (by omega)) (r1 _)
      | succ d ih =>
        intro hd
        refine .no (by omega) (by rw [chT_it (by omega)]; exact eqT_kd _ _) (by rw [chT_it (by omega)]; exact eqT_kx _ _) (by rw [chT_it (by omega)]; show ask ≠ ask - (d + 1); omega) (chT_no (by omega)) ?_
        rw [show ask - (d + 1) + 1 + 1 = ask - d + 1 by omega]
        exact ih (by omega)
    have := down ask (Nat.le_refl _)
    rw [Nat.sub_self] at this
    exact this
  · rw [if_neg h]
    have down : ∀ d, d ≤ n → GoesT (chT n) W ask (n - d + 1) 1 := by
      intro d
      induction d with
      | zero => intro _; exact r0 _
      | succ d ih =>
        intro hd
        refine .no (by omega) (by rw [chT_it (by omega)]; exact eqT_kd _ _) (by rw [chT_it (by omega)]; exact eqT_kx _ _) (by rw [chT_it (by omega)]; show ask ≠ n - (d + 1); omega) (chT_no (by omega)) ?_
        rw [show n - (d + 1) + 1 + 1 = n - d + 1 by omega]
        exact ih (by omega)
    have := down n (Nat.le_refl _)
    rw [Nat.sub_self] at this
    exact this
/-- The program's answer of simple items, as Assemble tells it. -/
theorem asmR_ok {l : List It} {F : Nat → Bool} (h1 : plN l F (ins l).length ≤ 4096) (h2 : checkN (asmN l F) = (0, 0)) : (if 4096 < plN l F (ins l).length then (([] : List I), 3) else if (checkN (asmN l F)).2 ≠ 0 then ([], (checkN (asmN l F)).2) else (asmN l F, 0)) = (asmN l F, 0) := by
  rw [if_neg (by omega), h2, if_neg (by simp)]
end Go.Proofs.Ytgalkidhgjgbhaa
