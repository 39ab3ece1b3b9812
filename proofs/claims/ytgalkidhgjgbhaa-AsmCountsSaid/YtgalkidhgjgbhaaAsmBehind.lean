/-
  Which instructions some way leads to, by places: in plain words.
-/
import Derived.Test.YtgalkidhgjgbhaaWalkBehind
import Derived.Test.YtgalkidhgjgbhaaAsmSteps
namespace Go.Proofs.Ytgalkidhgjgbhaa
set_option linter.unusedVariables false

theorem cnt_marks {l : List It} {p q : Nat} (hpq : p ≤ q) (hq : q ≤ l.length) (h : ∀ j, p ≤ j → j < q → (l.getD j default).mark ≠ 0) : cnt l q = cnt l p := by
  obtain ⟨d, rfl⟩ := Nat.le.dest hpq
  clear hpq
  induction d with
  | zero => rfl
  | succ d ih =>
    have h1 := cnt_succ l (p + d) (by omega)
    rw [if_neg (h (p + d) (by omega) (by omega))] at h1
    rw [← ih (by omega) (fun j a b => h j a (by omega))]
    exact h1
theorem Behind.cnt {l : List It} {p q : Nat} (h : Behind l p q) : Go.Proofs.Ytgalkidhgjgbhaa.cnt l q = Go.Proofs.Ytgalkidhgjgbhaa.cnt l p := cnt_marks h.le h.hi h.marks
theorem Behind.eq {l : List It} {p q p' : Nat} (h : Behind l p q) (hp : p' < l.length) (hm : (l.getD p' default).mark = 0) : Go.Proofs.Ytgalkidhgjgbhaa.cnt l p' = Go.Proofs.Ytgalkidhgjgbhaa.cnt l p ↔ p' = q := by
  constructor
  · intro e
    rw [← h.cnt] at e
    rcases Nat.lt_trichotomy p' q with h1 | h1 | h1
    · have := cnt_lt l h1 h.hi hm; omega
    · exact h1
    · have := cnt_lt l h1 (Nat.le_of_lt hp) (h.ends (by omega)); omega
  · rintro rfl
    exact h.cnt
theorem Placed.uniq {l : List It} {m : Int} {q j : Nat} (h : Placed l m q) (hu : Uniq l m j) : q = j := by
  have hj := hu.2.1
  rcases Nat.lt_trichotomy q j with h1 | h1 | h1
  · exact (hu.2.2 q (by omega)).1 (h.ends (by omega))
  · exact h1
  · exact absurd ((hu.2.2 j hj).2 rfl) (h.not j h1)
/-- Where a way leads, by places. -/
def Way (l : List It) (i : Nat) (m : Int) (q : Nat) : Prop := if m = 0 then Behind l (i + 1) q else ∃ a, Placed l m a ∧ Behind l a q
theorem Way.iff {l : List It} {i : Nat} (hi : i < l.length) (hm : (l.getD i default).mark = 0) {m : Int} (hu : m ≠ 0 → ∃ j, Uniq l m j) {q : Nat} (hq : Way l i m q) {p : Nat} (hp : p < l.length) (hp0 : (l.getD p default).mark = 0) : toN l (cnt l i) m = cnt l p ↔ p = q := by
  unfold Way at hq
  unfold toN
  by_cases h0 : m = 0
  · rw [if_pos h0] at hq
    rw [if_pos h0]
    have h1 := cnt_succ l i hi
    rw [if_pos hm] at h1
    rw [← h1]
    exact ⟨fun e => (hq.eq hp hp0).1 e.symm, fun e => ((hq.eq hp hp0).2 e).symm⟩
  · rw [if_neg h0] at hq
    rw [if_neg h0]
    obtain ⟨j, hj⟩ := hu h0
    obtain ⟨a, ha, hb⟩ := hq
    have e := ha.uniq hj
    subst e
    rw [tgtN_uniq hj]
    exact ⟨fun e => (hb.eq hp hp0).1 e.symm, fun e => ((hb.eq hp hp0).2 e).symm⟩
/-- What the row of places holds when the first i items have been gone through. -/
def Holds21 (l : List It) (i : Nat) (out : List Bool) : Prop := out.length = l.length + 1 ∧ ∀ p, p < l.length → (l.getD p default).mark = 0 → (out.getD p false = true ↔ Reach1 l (cnt l i) (cnt l p))
theorem getD_set21 (a : List Bool) (q p : Nat) (hq : q < a.length) : ((a.set q true).getD p false = true) ↔ (a.getD p false = true ∨ p = q) := by
  simp only [List.getD_eq_getElem?_getD]
  by_cases e : q = p
  · subst e; simp [hq]
  · rw [List.getElem?_set_ne e]
    exact ⟨.inl, fun h => h.elim id fun h => absurd h.symm e⟩
theorem Holds21.first {l : List It} {q : Nat} (h : Behind l 0 q) : Holds21 l 0 ((List.replicate (l.length + 1) false).set q true) := by
  refine ⟨by simp, fun p hp hm => ?_⟩
  rw [getD_set21 _ _ _ (by have := h.hi; simp; omega)]
  have h1 := h.eq hp hm
  rw [cnt_zero] at h1 ⊢
  unfold Reach1
  constructor
  · rintro (h2 | h2)
    · rw [List.getD_eq_getElem?_getD, List.getElem?_replicate] at h2
      split at h2 <;> cases h2
    · exact .inl (h1.2 h2)
  · rintro (h2 | ⟨j, h2, _⟩)
    · exact .inr (h1.1 h2)
    · omega
theorem Holds21.mark {l : List It} {i : Nat} {out : List Bool} (h : Holds21 l i out) (hi : i < l.length) (hm : (l.getD i default).mark ≠ 0) : Holds21 l (i + 1) out := by
  have h1 := cnt_succ l i hi
  rw [if_neg hm] at h1
  exact ⟨h.1, fun p hp hp0 => by rw [h1]; exact h.2 p hp hp0⟩
theorem Holds21.reach {l : List It} (hF : Form l) {i : Nat} {out : List Bool} (h : Holds21 l i out) (hi : i < l.length) (hm : (l.getD i default).mark = 0) : out.getD i false = true ↔ Reach l (cnt l i) := by
  rw [h.2 i hi hm]
  exact (hF.reach_iff (Nat.le_refl _) (by rw [← cnt_all]; exact cnt_mono' l (Nat.le_of_lt hi) (Nat.le_refl _))).symm
/-- No way leads there, or none leads on. -/
theorem Holds21.skip {l : List It} (hF : Form l) {i : Nat} {out : List Bool} (h : Holds21 l i out) (hi : i < l.length) (hm : (l.getD i default).mark = 0) (hn : ¬ Reach l (cnt l i) ∨ (yesN l (cnt l i) = -1 ∧ noN l (cnt l i) = -1)) : Holds21 l (i + 1) out := by
  have h1 := cnt_succ l i hi
  rw [if_pos hm] at h1
  refine ⟨h.1, fun p hp hp0 => ?_⟩
  rw [h1, h.2 p hp hp0, Reach1.succ]
  constructor
  · exact .inl
  · rintro (h2 | ⟨h2, h3⟩)
    · exact h2
    · rcases hn with hn | hn
      · exact absurd h2 hn
      · rw [hn.1, hn.2] at h3; omega
/-- One way on. -/
theorem Holds21.one {l : List It} (hF : Form l) {i : Nat} {out : List Bool} (h : Holds21 l i out) (hi : i < l.length) (hm : (l.getD i default).mark = 0) (hr : Reach l (cnt l i)) {m : Int} {y : Nat} (hu : m ≠ 0 → ∃ j, Uniq l m j) (hy : Way l i m y) (hyl : y ≤ l.length) (ey : yesN l (cnt l i) = (toN l (cnt l i) m : Nat)) (en : noN l (cnt l i) = -1) : Holds21 l (i + 1) (out.set y true) := by
  have h1 := cnt_succ l i hi
  rw [if_pos hm] at h1
  refine ⟨by rw [List.length_set]; exact h.1, fun p hp hp0 => ?_⟩
  rw [getD_set21 _ _ _ (by rw [h.1]; omega), h1, h.2 p hp hp0, Reach1.succ, ey, en, ← hy.iff hi hm hu hp hp0]
  constructor
  · rintro (h2 | h2)
    · exact .inl h2
    · exact .inr ⟨hr, .inl (by omega)⟩
  · rintro (h2 | ⟨_, h2 | h2⟩)
    · exact .inl h2
    · exact .inr (by omega)
    · omega
/-- Two ways on. -/
theorem Holds21.two {l : List It} (hF : Form l) {i : Nat} {out : List Bool} (h : Holds21 l i out) (hi : i < l.length) (hm : (l.getD i default).mark = 0) (hr : Reach l (cnt l i)) {m m' : Int} {y y' : Nat} (hu : m ≠ 0 → ∃ j, Uniq l m j) (hu' : m' ≠ 0 → ∃ j, Uniq l m' j) (hy : Way l i m y) (hy' : Way l i m' y') (hyl : y ≤ l.length) (hyl' : y' ≤ l.length)
    (ey : yesN l (cnt l i) = (toN l (cnt l i) m : Nat)) (en : noN l (cnt l i) = (toN l (cnt l i) m' : Nat)) : Holds21 l (i + 1) ((out.set y true).set y' true) := by
  have h1 := cnt_succ l i hi
  rw [if_pos hm] at h1
  refine ⟨by rw [List.length_set, List.length_set]; exact h.1, fun p hp hp0 => ?_⟩
  rw [getD_set21 _ _ _ (by rw [List.length_set, h.1]; omega), getD_set21 _ _ _ (by rw [h.1]; omega), h1, h.2 p hp hp0, Reach1.succ, ey, en, ← hy.iff hi hm hu hp hp0, ← hy'.iff hi hm hu' hp hp0]
  constructor
  · rintro ((h2 | h2) | h2)
    · exact .inl h2
    · exact .inr ⟨hr, .inl (by omega)⟩
    · exact .inr ⟨hr, .inr (by omega)⟩
  · rintro (h2 | ⟨_, h2 | h2⟩)
    · exact .inl (.inl h2)
    · exact .inl (.inr (by omega))
    · exact .inr (by omega)
end Go.Proofs.Ytgalkidhgjgbhaa
