/-
  Items' instructions, where they go on, and which some way leads to: in plain words.
-/
import Derived.Test.YtgalkidhgjgbhaaAsmItems
namespace Go.Proofs.Ytgalkidhgjgbhaa
set_option linter.unusedVariables false

/-- The instructions of items, and how many stand ahead of a place. -/
def ins (l : List It) : List It := l.filter fun x => decide (x.mark = 0)
def cnt (l : List It) (p : Nat) : Nat := (ins (l.take p)).length
theorem ins_append (a b : List It) : ins (a ++ b) = ins a ++ ins b := by unfold ins; rw [List.filter_append]
theorem cnt_zero (l : List It) : cnt l 0 = 0 := rfl
theorem take_snocT (l : List It) (p : Nat) (h : p < l.length) : l.take (p + 1) = l.take p ++ [l.getD p default] := by
  rw [List.take_succ_eq_append_getElem h]
  simp [h]
theorem ins_succ (l : List It) (p : Nat) (h : p < l.length) : ins (l.take (p + 1)) = if (l.getD p default).mark = 0 then ins (l.take p) ++ [l.getD p default] else ins (l.take p) := by
  rw [take_snocT l p h, ins_append]
  unfold ins
  by_cases e : (l.getD p default).mark = 0
  · rw [if_pos e, List.filter_cons, if_pos (by simpa using e)]; rfl
  · rw [if_neg e, List.filter_cons, if_neg (by simpa using e)]; simp
theorem cnt_succ (l : List It) (p : Nat) (h : p < l.length) : cnt l (p + 1) = if (l.getD p default).mark = 0 then cnt l p + 1 else cnt l p := by
  unfold cnt
  rw [ins_succ l p h]
  split <;> simp
theorem cnt_all (l : List It) : cnt l l.length = (ins l).length := by unfold cnt; rw [List.take_length]
theorem cnt_le (l : List It) (p : Nat) (h : p ≤ l.length) : cnt l p ≤ p := by
  unfold cnt ins
  exact Nat.le_trans (List.length_filter_le _ _) (List.length_take_le _ _)
theorem cnt_mono (l : List It) : ∀ (d p : Nat), p + d ≤ l.length → cnt l p ≤ cnt l (p + d)
  | 0, p, _ => Nat.le_refl _
  | d + 1, p, h => by
    have := cnt_mono l d p (by omega)
    have h2 := cnt_succ l (p + d) (by omega)
    rw [show p + (d + 1) = p + d + 1 by omega, h2]
    split <;> omega
theorem cnt_mono' (l : List It) {p q : Nat} (h : p ≤ q) (hq : q ≤ l.length) : cnt l p ≤ cnt l q := by
  obtain ⟨d, rfl⟩ := Nat.le.dest h
  exact cnt_mono l d p hq
theorem cnt_lt (l : List It) {p q : Nat} (h : p < q) (hq : q ≤ l.length) (hp : (l.getD p default).mark = 0) : cnt l p < cnt l q := by
  have h1 := cnt_succ l p (by omega)
  rw [if_pos hp] at h1
  have h2 := cnt_mono' l (show p + 1 ≤ q by omega) hq
  omega
/-- An instruction stands in its place among the instructions. -/
theorem ins_at (l : List It) (p : Nat) (h : p < l.length) (hp : (l.getD p default).mark = 0) : (ins l).getD (cnt l p) default = l.getD p default := by
  have e : ins l = ins (l.take (p + 1)) ++ ins (l.drop (p + 1)) := by rw [← ins_append, List.take_append_drop]
  rw [e, ins_succ l p h, if_pos hp]
  unfold cnt
  rw [List.getD_eq_getElem?_getD, List.getElem?_append_left (by simp), List.getElem?_append_right (by simp)]
  simp
/-- Each instruction stands somewhere. -/
theorem ins_place (l : List It) (n : Nat) (hn : n < (ins l).length) : ∃ p, p < l.length ∧ (l.getD p default).mark = 0 ∧ cnt l p = n := by
  have key : ∀ q, q ≤ l.length → n < cnt l q → ∃ p, p < q ∧ (l.getD p default).mark = 0 ∧ cnt l p = n := by
    intro q
    induction q with
    | zero => intro _ h; rw [cnt_zero] at h; omega
    | succ q ih =>
      intro hq h
      have h1 := cnt_succ l q (by omega)
      by_cases h2 : n < cnt l q
      · obtain ⟨p, a, b⟩ := ih (by omega) h2
        exact ⟨p, by omega, b⟩
      · rw [h1] at h
        by_cases hm : (l.getD q default).mark = 0
        · rw [if_pos hm] at h
          exact ⟨q, by omega, hm, by omega⟩
        · rw [if_neg hm] at h; omega
  obtain ⟨p, a, b⟩ := key l.length (Nat.le_refl _) (by rw [cnt_all]; exact hn)
  exact ⟨p, a, b⟩
theorem ins_mark (l : List It) (n : Nat) (hn : n < (ins l).length) : ((ins l).getD n default).mark = 0 := by
  obtain ⟨p, h1, h2, h3⟩ := ins_place l n hn
  rw [← h3, ins_at l p h1 h2]; exact h2

/-- To which instruction a mark leads. -/
def tgtN (l : List It) (m : Int) : Nat := match uniqAt l m with | some j => cnt l j | none => 0
theorem tgtN_uniq {l : List It} {m : Int} {j : Nat} (h : Uniq l m j) : tgtN l m = cnt l j := by unfold tgtN; rw [uniqAt_uniq h]
def toN (l : List It) (n : Nat) (m : Int) : Nat := if m = 0 then n + 1 else tgtN l m
/-- Where an instruction goes on; -1: nowhere. -/
def yesN (l : List It) (n : Nat) : Int := if isEnd ((ins l).getD n default).kd then -1 else (toN l n ((ins l).getD n default).tr : Nat)
def noN (l : List It) (n : Nat) : Int := if 25 ≤ ((ins l).getD n default).kd then (toN l n ((ins l).getD n default).fa : Nat) else -1

section
variable {l : List It} (h : Form l)
include h
theorem Form.lastIns : 0 < (ins l).length ∧ (ins l).getD ((ins l).length - 1) default = l.getD (l.length - 1) default := by
  obtain ⟨h1, h2, h3⟩ := h.2
  have hl : 0 < l.length := List.length_pos_iff.2 h1
  have e := cnt_succ l (l.length - 1) (by omega)
  rw [if_pos h2, show l.length - 1 + 1 = l.length by omega, cnt_all] at e
  refine ⟨by omega, ?_⟩
  rw [← ins_at l (l.length - 1) (by omega) h2]
  congr 1
  omega
theorem Form.lastEnd : isEnd ((ins l).getD ((ins l).length - 1) default).kd := by rw [h.lastIns.2]; exact h.2.2.2
theorem Form.okIns {n : Nat} (hn : n < (ins l).length) : ∃ p, p < l.length ∧ (l.getD p default).mark = 0 ∧ cnt l p = n ∧ l.getD p default = (ins l).getD n default ∧ OkAt l p := by
  obtain ⟨p, h1, h2, h3⟩ := ins_place l n hn
  exact ⟨p, h1, h2, h3, by rw [← h3, ins_at l p h1 h2], h.1 p h1⟩
theorem Form.kdPos {n : Nat} (hn : n < (ins l).length) : ((ins l).getD n default).kd ≠ 0 := by
  obtain ⟨p, h1, h2, h3, h4, h5⟩ := h.okIns hn
  unfold OkAt at h5
  rw [if_neg (by omega)] at h5
  rw [← h4]; exact h5.1
/-- Each way leads ahead, and to an instruction. -/
theorem Form.target {n : Nat} (hn : n < (ins l).length) (m : Int) (hm : m = ((ins l).getD n default).tr ∨ m = ((ins l).getD n default).fa) (he : ¬ isEnd ((ins l).getD n default).kd) : n < toN l n m ∧ toN l n m < (ins l).length := by
  obtain ⟨p, h1, h2, h3, h4, h5⟩ := h.okIns hn
  unfold toN
  by_cases e : m = 0
  · rw [if_pos e]
    have : n ≠ (ins l).length - 1 := fun e2 => he (by rw [e2]; exact h.lastEnd)
    omega
  · rw [if_neg e]
    unfold OkAt at h5
    rw [if_neg (by omega), h4] at h5
    obtain ⟨j, hj, hu⟩ : ∃ j, p < j ∧ Uniq l m j := by
      rcases hm with rfl | rfl
      · exact (h5.2.1 e).2
      · exact (h5.2.2 e).2
    rw [tgtN_uniq hu, ← h3]
    have h6 := cnt_lt l hj (by have := hu.2.1; omega) h2
    refine ⟨h6, ?_⟩
    have hmj : (l.getD j default).mark ≠ 0 := by rw [(hu.2.2 j hu.2.1).2 rfl]; exact e
    have hjl : j < l.length - 1 := by
      have := hu.2.1
      by_cases e2 : j = l.length - 1
      · subst e2; exact absurd h.2.2.1 hmj
      · omega
    have h7 := cnt_lt l (p := l.length - 1) (q := l.length) (by omega) (Nat.le_refl _) h.2.2.1
    have h8 := cnt_mono' l (show j ≤ l.length - 1 by omega) (by omega)
    rw [cnt_all] at h7
    omega
theorem Form.yes {n : Nat} (hn : n < (ins l).length) : yesN l n = -1 ∨ ∃ t : Nat, yesN l n = (t : Int) ∧ n < t ∧ t < (ins l).length := by
  unfold yesN
  by_cases e : isEnd ((ins l).getD n default).kd
  · rw [if_pos e]; exact .inl rfl
  · rw [if_neg e]
    exact .inr ⟨_, rfl, h.target hn _ (.inl rfl) e⟩
theorem Form.no {n : Nat} (hn : n < (ins l).length) : noN l n = -1 ∨ ∃ t : Nat, noN l n = (t : Int) ∧ n < t ∧ t < (ins l).length := by
  unfold noN
  by_cases e : 25 ≤ ((ins l).getD n default).kd
  · rw [if_pos e]
    exact .inr ⟨_, rfl, h.target hn _ (.inr rfl) (by unfold isEnd; omega)⟩
  · rw [if_neg e]; exact .inl rfl
end

/-- Some way leads to an instruction. -/
inductive Reach (l : List It) : Nat → Prop
  | zero : Reach l 0
  | yes {n m : Nat} : Reach l n → n < (ins l).length → yesN l n = (m : Int) → Reach l m
  | no {n m : Nat} : Reach l n → n < (ins l).length → noN l n = (m : Int) → Reach l m
/-- .. over the first so many alone. -/
def Reach1 (l : List It) (k m : Nat) : Prop := m = 0 ∨ ∃ j, j < k ∧ Reach l j ∧ (yesN l j = (m : Int) ∨ noN l j = (m : Int))
theorem Form.reach_iff {l : List It} (h : Form l) {k m : Nat} (hk : m ≤ k) (hkl : k ≤ (ins l).length) : Reach l m ↔ Reach1 l k m := by
  constructor
  · intro hr
    cases hr with
    | zero => exact .inl rfl
    | @yes n _ hn hl hy =>
      right
      rcases h.yes hl with e | ⟨t, e, h1, _⟩
      · rw [hy] at e; omega
      · rw [hy] at e; exact ⟨n, by omega, hn, .inl hy⟩
    | @no n _ hn hl hy =>
      right
      rcases h.no hl with e | ⟨t, e, h1, _⟩
      · rw [hy] at e; omega
      · rw [hy] at e; exact ⟨n, by omega, hn, .inr hy⟩
  · rintro (rfl | ⟨j, hj, hr, hy | hy⟩)
    · exact .zero
    · exact .yes hr (by omega) hy
    · exact .no hr (by omega) hy
/-- .. reckoned, round by round. -/
def reachStep (l : List It) (a : List Bool) (k : Nat) : List Bool :=
  if a.getD k false then
    let a1 := if yesN l k = -1 then a else a.set (yesN l k).toNat true
    if noN l k = -1 then a1 else a1.set (noN l k).toNat true
  else a
def reachUp (l : List It) (k : Nat) : List Bool := (List.range k).foldl (reachStep l) ((List.replicate ((ins l).length + 1) false).set 0 true)
def reachB (l : List It) (n : Nat) : Bool := (reachUp l (ins l).length).getD n false
theorem reachStep_length (l : List It) (a : List Bool) (k : Nat) : (reachStep l a k).length = a.length := by
  unfold reachStep
  split
  · simp only
    split <;> split <;> simp
  · rfl
theorem reachUp_length (l : List It) (k : Nat) : (reachUp l k).length = (ins l).length + 1 := by
  unfold reachUp
  have key : ∀ (r : List Nat) (a : List Bool), (r.foldl (reachStep l) a).length = a.length := by
    intro r
    induction r with
    | nil => intro a; rfl
    | cons x r ih => intro a; rw [List.foldl_cons, ih, reachStep_length]
  rw [key]; simp
theorem reachUp_succ (l : List It) (k : Nat) : reachUp l (k + 1) = reachStep l (reachUp l k) k := by
  unfold reachUp
  rw [List.range_succ, List.foldl_append]; rfl
theorem getD_setB (a : List Bool) (i m : Nat) (hi : i < a.length) : (a.set i true).getD m false = (a.getD m false || decide (i = m)) := by
  simp only [List.getD_eq_getElem?_getD, List.getElem?_set]
  by_cases e : i = m
  · subst e; simp [hi]
  · simp [e]
theorem Reach1.succ {l : List It} {k m : Nat} : Reach1 l (k + 1) m ↔ Reach1 l k m ∨ (Reach l k ∧ (yesN l k = (m : Int) ∨ noN l k = (m : Int))) := by
  unfold Reach1
  constructor
  · rintro (h | ⟨j, hj, hr⟩)
    · exact .inl (.inl h)
    · by_cases e : j = k
      · subst e; exact .inr hr
      · exact .inl (.inr ⟨j, by omega, hr⟩)
  · rintro ((h | ⟨j, hj, hr⟩) | h)
    · exact .inl h
    · exact .inr ⟨j, by omega, hr⟩
    · exact .inr ⟨k, by omega, h⟩

theorem Form.reachUp_iff {l : List It} (h : Form l) : ∀ k, k ≤ (ins l).length → ∀ m, m ≤ (ins l).length → ((reachUp l k).getD m false = true ↔ Reach1 l k m)
  | 0, _, m, hm => by
    unfold reachUp Reach1
    rw [List.range_zero, List.foldl_nil, getD_setB _ _ _ (by simp)]
    have : (List.replicate ((ins l).length + 1) false).getD m false = false := by simp [List.getD_eq_getElem?_getD, List.getElem?_replicate]; split <;> rfl
    rw [this]
    constructor
    · intro e; left; simp at e; omega
    · rintro (e | ⟨j, hj, _⟩)
      · subst e; rfl
      · omega
  | k + 1, hk, m, hm => by
    have ih := Form.reachUp_iff h k (by omega)
    have hlen := reachUp_length l k
    have hr : (reachUp l k).getD k false = true ↔ Reach l k := (ih k (by omega)).trans (h.reach_iff (Nat.le_refl k) (by omega)).symm
    rw [reachUp_succ, Reach1.succ, ← ih m hm]
    unfold reachStep
    by_cases e : (reachUp l k).getD k false = true
    · rw [if_pos e]
      have hrk := hr.1 e
      simp only
      rcases h.yes (n := k) (by omega) with ey | ⟨t, ey, _, ht⟩ <;> rcases h.no (n := k) (by omega) with en | ⟨u, en, _, hu⟩ <;> rw [ey, en]
      · rw [if_pos rfl, if_pos rfl]
        exact ⟨.inl, fun x => x.elim id fun ⟨_, y⟩ => by omega⟩
      · rw [if_pos rfl, if_neg (by omega), getD_setB _ _ _ (by omega)]
        simp only [Bool.or_eq_true, decide_eq_true_eq, Int.toNat_natCast]
        constructor
        · rintro (x | x)
          · exact .inl x
          · exact .inr ⟨hrk, .inr (by omega)⟩
        · rintro (x | ⟨_, x | x⟩)
          · exact .inl x
          · omega
          · exact .inr (by omega)
      · rw [if_pos rfl, if_neg (by omega), getD_setB _ _ _ (by omega)]
        simp only [Bool.or_eq_true, decide_eq_true_eq, Int.toNat_natCast]
        constructor
        · rintro (x | x)
          · exact .inl x
          · exact .inr ⟨hrk, .inl (by omega)⟩
        · rintro (x | ⟨_, x | x⟩)
          · exact .inl x
          · exact .inr (by omega)
          · omega
      · rw [if_neg (by omega), if_neg (by omega), getD_setB _ _ _ (by simp; omega), getD_setB _ _ _ (by simp; omega)]
        simp only [Bool.or_eq_true, decide_eq_true_eq, Int.toNat_natCast]
        constructor
        · rintro ((x | x) | x)
          · exact .inl x
          · exact .inr ⟨hrk, .inl (by omega)⟩
          · exact .inr ⟨hrk, .inr (by omega)⟩
        · rintro (x | ⟨_, x | x⟩)
          · exact .inl (.inl x)
          · exact .inl (.inr (by omega))
          · exact .inr (by omega)
    · rw [if_neg e]
      exact ⟨.inl, fun x => x.elim id fun ⟨y, _⟩ => absurd (hr.2 y) e⟩
theorem Form.reachB_iff {l : List It} (h : Form l) {n : Nat} (hn : n ≤ (ins l).length) : reachB l n = true ↔ Reach l n :=
  (h.reachUp_iff _ (Nat.le_refl _) n hn).trans (h.reach_iff hn (Nat.le_refl _)).symm
/-- The round's own look is the last one's. -/
theorem Form.reachUp_at {l : List It} (h : Form l) {n : Nat} (hn : n ≤ (ins l).length) : (reachUp l n).getD n false = reachB l n := by
  rw [Bool.eq_iff_iff, h.reachB_iff hn, h.reachUp_iff n hn n hn]
  exact (h.reach_iff (Nat.le_refl n) hn).symm

/-! Try# places -/
/-- Where an instruction stands, of sizes. -/
def posN (sz : Nat → Nat) : Nat → Nat
  | 0 => 0
  | n + 1 => posN sz n + sz n
theorem posN_mono (sz : Nat → Nat) : ∀ d n, posN sz n ≤ posN sz (n + d)
  | 0, n => Nat.le_refl _
  | d + 1, n => by have := posN_mono sz d n; show _ ≤ posN sz (n + d) + sz (n + d); omega
theorem posN_mono' (sz : Nat → Nat) {a b : Nat} (h : a ≤ b) : posN sz a ≤ posN sz b := by
  obtain ⟨d, rfl⟩ := Nat.le.dest h
  exact posN_mono sz d a
theorem posN_le (sz : Nat → Nat) (h : ∀ n, sz n ≤ 3) : ∀ n, posN sz n ≤ 3 * n
  | 0 => Nat.le_refl _
  | n + 1 => by have := posN_le sz h n; have := h n; show posN sz n + sz n ≤ _; omega
/-- Greater sizes, greater distances. -/
theorem posN_far (s t : Nat → Nat) (h : ∀ n, s n ≤ t n) (a : Nat) : ∀ d, posN s (a + d) - posN s a ≤ posN t (a + d) - posN t a
  | 0 => by simp
  | d + 1 => by
    have h1 := posN_far s t h a d
    have h2 := h (a + d)
    have h3 := posN_mono s d a
    have h4 := posN_mono t d a
    show posN s (a + d) + s (a + d) - _ ≤ posN t (a + d) + t (a + d) - _
    omega
theorem posN_congr (s t : Nat → Nat) : ∀ n, (∀ m, m < n → s m = t m) → posN s n = posN t n
  | 0, _ => rfl
  | n + 1, h => by show posN s n + s n = posN t n + t n; rw [posN_congr s t n (fun m hm => h m (by omega)), h n (by omega)]

def szN (l : List It) (F : Nat → Bool) (n : Nat) : Nat := if reachB l n then (if F n then 3 else 1) else 0
def plN (l : List It) (F : Nat → Bool) (n : Nat) : Nat := posN (szN l F) n
theorem szN_le (l : List It) (F : Nat → Bool) (n : Nat) : szN l F n ≤ 3 := by unfold szN; split <;> (try split) <;> omega
/-- How far a branch leads. -/
def farN (l : List It) (F : Nat → Bool) (n : Nat) : Nat := max (plN l F (yesN l n).toNat) (plN l F (noN l n).toNat) - plN l F n - 1
/-- A branch that some way leads to. -/
def Br (l : List It) (n : Nat) : Prop := n < (ins l).length ∧ Reach l n ∧ 25 ≤ ((ins l).getD n default).kd
/-- Nobody else is too far. -/
def Closed (l : List It) (F : Nat → Bool) : Prop := ∀ n, Br l n → F n = false → farN l F n ≤ 255
/-- Who stands apart, in the end: those alone that must. -/
structure Laid (l : List It) (F : Nat → Bool) : Prop where
  br : ∀ n, F n = true → Br l n
  closed : Closed l F
  least : ∀ G : Nat → Bool, Closed l G → ∀ n, F n = true → G n = true
theorem plN_far {l : List It} {F G : Nat → Bool} (h : ∀ n, F n = true → G n = true) {a b : Nat} (hab : a ≤ b) : plN l F b - plN l F a ≤ plN l G b - plN l G a := by
  obtain ⟨d, rfl⟩ := Nat.le.dest hab
  refine posN_far _ _ (fun n => ?_) a d
  unfold szN
  split
  · cases e : F n with
    | true => rw [h n e]; exact Nat.le_refl _
    | false => rw [if_neg (by simp)]; split <;> omega
  · exact Nat.le_refl _
theorem farN_mono {l : List It} (hl : Form l) {F G : Nat → Bool} (h : ∀ n, F n = true → G n = true) {n : Nat} (hn : Br l n) : farN l F n ≤ farN l G n := by
  obtain ⟨h1, _, h3⟩ := hn
  have hy : ∃ t : Nat, yesN l n = (t : Int) ∧ n < t := by
    rcases hl.yes h1 with e | ⟨t, e, h4, _⟩
    · exfalso
      unfold yesN at e
      rw [if_neg (by unfold isEnd; omega)] at e
      omega
    · exact ⟨t, e, h4⟩
  have hno : ∃ t : Nat, noN l n = (t : Int) ∧ n < t := by
    rcases hl.no h1 with e | ⟨t, e, h4, _⟩
    · exfalso
      unfold noN at e
      rw [if_pos h3] at e
      omega
    · exact ⟨t, e, h4⟩
  obtain ⟨t, e1, h4⟩ := hy
  obtain ⟨u, e2, h5⟩ := hno
  unfold farN
  rw [e1, e2]
  simp only [Int.toNat_natCast]
  have a1 := plN_far (l := l) h (show n ≤ t by omega)
  have a2 := plN_far (l := l) h (show n ≤ u by omega)
  omega
/-- One more pass: who is too far now, stands apart in the end. -/
theorem least_step {l : List It} (hl : Form l) {F : Nat → Bool} {G : Nat → Bool} (hG : Closed l G) (h : ∀ n, F n = true → G n = true) {n : Nat} (hn : Br l n) (hf : 255 < farN l F n) : G n = true := by
  cases e : G n with
  | true => rfl
  | false =>
    have h1 := hG n hn e
    have h2 := farN_mono hl h hn
    omega
end Go.Proofs.Ytgalkidhgjgbhaa
