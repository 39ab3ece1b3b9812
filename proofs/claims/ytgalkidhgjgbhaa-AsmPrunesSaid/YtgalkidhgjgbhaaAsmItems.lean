/-
  Items with marks, and when they are formed: in plain words.
-/
import Derived.Test.YtgalkidhgjgbhaaChkCheck
namespace Go.Proofs.Ytgalkidhgjgbhaa
set_option linter.unusedVariables false

structure It where
  mark : Int
  code : Nat
  k : Nat
  tr : Int
  fa : Int
  deriving DecidableEq, Inhabited

def It.kd (x : It) : Nat := (ofN x.code).1
theorem It.kd_le (x : It) : x.kd ≤ 28 := ofN_le _

/-- A mark stands at one place alone. -/
def Uniq (l : List It) (m : Int) (j : Nat) : Prop := m ≠ 0 ∧ j < l.length ∧ ∀ p, p < l.length → ((l.getD p default).mark = m ↔ p = j)
theorem Uniq.eq {l : List It} {m : Int} {j k : Nat} (h : Uniq l m j) (h' : Uniq l m k) : j = k := (h'.2.2 j h.2.1).1 ((h.2.2 j h.2.1).2 rfl)

/-- An item is as it may be. -/
def OkAt (l : List It) (i : Nat) : Prop :=
  if (l.getD i default).mark ≠ 0 then 0 < (l.getD i default).mark ∧ Uniq l (l.getD i default).mark i ∧ (l.getD i default).code = 0 ∧ (l.getD i default).k = 0 ∧ (l.getD i default).tr = 0 ∧ (l.getD i default).fa = 0
  else (l.getD i default).kd ≠ 0 ∧ ((l.getD i default).tr ≠ 0 → ((l.getD i default).kd = 13 ∨ 25 ≤ (l.getD i default).kd) ∧ ∃ j, i < j ∧ Uniq l (l.getD i default).tr j) ∧
    ((l.getD i default).fa ≠ 0 → 25 ≤ (l.getD i default).kd ∧ ∃ j, i < j ∧ Uniq l (l.getD i default).fa j)
def EndOk (l : List It) : Prop := l ≠ [] ∧ (l.getD (l.length - 1) default).mark = 0 ∧ isEnd (l.getD (l.length - 1) default).kd
def Form (l : List It) : Prop := (∀ i, i < l.length → OkAt l i) ∧ EndOk l

/-- What the program asks of an item: the marks behind it are seen. -/
def Seen (l : List It) (i : Nat) (m : Int) : Prop := ∃ j, i ≤ j ∧ j < l.length ∧ (l.getD j default).mark = m
def OkG (l : List It) (i : Nat) : Prop :=
  if (l.getD i default).mark ≠ 0 then 0 < (l.getD i default).mark ∧ ¬ Seen l (i + 1) (l.getD i default).mark ∧ (l.getD i default).code = 0 ∧ (l.getD i default).k = 0 ∧ (l.getD i default).tr = 0 ∧ (l.getD i default).fa = 0
  else (l.getD i default).kd ≠ 0 ∧ ((l.getD i default).tr ≠ 0 → ((l.getD i default).kd = 13 ∨ 25 ≤ (l.getD i default).kd) ∧ Seen l (i + 1) (l.getD i default).tr) ∧
    ((l.getD i default).fa ≠ 0 → 25 ≤ (l.getD i default).kd ∧ Seen l (i + 1) (l.getD i default).fa)

theorem uniq_of_okG {l : List It} (h : ∀ i, i < l.length → OkG l i) {m : Int} (hm : m ≠ 0) {j : Nat} (hj : j < l.length) (he : (l.getD j default).mark = m) : Uniq l m j := by
  refine ⟨hm, hj, fun p hp => ⟨fun e => ?_, fun e => by subst e; exact he⟩⟩
  have key : ∀ a b, a < b → b < l.length → (l.getD a default).mark = m → (l.getD b default).mark = m → False := fun a b hab hb ha hb' => by
    have h1 := h a (by omega)
    unfold OkG at h1
    rw [if_pos (by rw [ha]; exact hm)] at h1
    exact h1.2.1 ⟨b, by omega, hb, by rw [hb', ha]⟩
  rcases Nat.lt_trichotomy p j with h1 | h1 | h1
  · exact (key p j h1 hj e he).elim
  · exact h1
  · exact (key j p h1 hp he e).elim
theorem okAt_of_okG {l : List It} (h : ∀ i, i < l.length → OkG l i) (i : Nat) (hi : i < l.length) : OkAt l i := by
  have h1 := h i hi
  unfold OkG at h1
  unfold OkAt
  split at h1
  · rename_i hm
    rw [if_pos hm]
    exact ⟨h1.1, uniq_of_okG h hm hi rfl, h1.2.2⟩
  · rename_i hm
    rw [if_neg hm]
    refine ⟨h1.1, fun ht => ?_, fun ht => ?_⟩
    · obtain ⟨a, j, b, c, d⟩ := h1.2.1 ht
      exact ⟨a, j, by omega, uniq_of_okG h ht c d⟩
    · obtain ⟨a, j, b, c, d⟩ := h1.2.2 ht
      exact ⟨a, j, by omega, uniq_of_okG h ht c d⟩
theorem okG_of_okAt {l : List It} (i : Nat) (hi : i < l.length) (h1 : OkAt l i) : OkG l i := by
  unfold OkAt at h1
  unfold OkG
  split at h1
  · rename_i hm
    rw [if_pos hm]
    refine ⟨h1.1, fun ⟨j, a, b, c⟩ => ?_, h1.2.2⟩
    have := (h1.2.1.2.2 j b).1 c
    omega
  · rename_i hm
    rw [if_neg hm]
    refine ⟨h1.1, fun ht => ?_, fun ht => ?_⟩
    · obtain ⟨a, j, b, c⟩ := h1.2.1 ht
      exact ⟨a, j, by omega, c.2.1, (c.2.2 j c.2.1).2 rfl⟩
    · obtain ⟨a, j, b, c⟩ := h1.2.2 ht
      exact ⟨a, j, by omega, c.2.1, (c.2.2 j c.2.1).2 rfl⟩
theorem form_iff_G (l : List It) : ((∀ i, i < l.length → OkG l i) ∧ EndOk l) ↔ Form l :=
  ⟨fun h => ⟨fun i hi => okAt_of_okG h.1 i hi, h.2⟩, fun h => ⟨fun i hi => okG_of_okAt i hi (h.1 i hi), h.2⟩⟩

/-- Whether a mark stands at one place alone. -/
def uniqB (l : List It) (m : Int) (j : Nat) : Bool := decide (m ≠ 0) && (decide (j < l.length) && (List.range l.length).all fun p => decide ((l.getD p default).mark = m ↔ p = j))
theorem uniqB_iff (l : List It) (m : Int) (j : Nat) : uniqB l m j = true ↔ Uniq l m j := by
  unfold uniqB Uniq
  simp only [Bool.and_eq_true, decide_eq_true_eq, List.all_eq_true, List.mem_range]
/-- The place of a mark, as the document tells it. -/
def uniqAt (l : List It) (m : Int) : Option Nat := (List.range l.length).find? (uniqB l m)
def atN (l : List It) (m : Int) : Int := match uniqAt l m with | some j => (j : Int) | none => -1
theorem uniqAt_uniq {l : List It} {m : Int} {j : Nat} (h : Uniq l m j) : uniqAt l m = some j := by
  unfold uniqAt
  cases e : (List.range l.length).find? (uniqB l m) with
  | none =>
    have := List.find?_eq_none.1 e j (List.mem_range.2 h.2.1)
    exact absurd ((uniqB_iff l m j).2 h) this
  | some k =>
    have := List.find?_some e
    rw [((uniqB_iff l m k).1 this).eq h]
theorem uniqAt_none {l : List It} {m : Int} (h : ∀ j, ¬ Uniq l m j) : uniqAt l m = none := by
  unfold uniqAt
  exact List.find?_eq_none.2 fun j _ hb => h j ((uniqB_iff l m j).1 hb)
theorem atN_uniq {l : List It} {m : Int} {j : Nat} (h : Uniq l m j) : atN l m = (j : Int) := by unfold atN; rw [uniqAt_uniq h]
theorem atN_none {l : List It} {m : Int} (h : ∀ j, ¬ Uniq l m j) : atN l m = -1 := by unfold atN; rw [uniqAt_none h]
theorem atN_cases (l : List It) (m : Int) : (∃ j : Nat, Uniq l m j ∧ atN l m = (j : Int)) ∨ ((∀ j, ¬ Uniq l m j) ∧ atN l m = -1) := by
  by_cases h : ∃ j, Uniq l m j
  · obtain ⟨j, hj⟩ := h
    exact .inl ⟨j, hj, atN_uniq hj⟩
  · exact .inr ⟨fun j hj => h ⟨j, hj⟩, atN_none fun j hj => h ⟨j, hj⟩⟩
theorem atN_ge (l : List It) (m : Int) : -1 ≤ atN l m ∧ atN l m < l.length := by
  rcases atN_cases l m with ⟨j, h, e⟩ | ⟨_, e⟩
  · rw [e]; have := h.2.1; omega
  · rw [e]; omega
/-- What the document asks of an item. -/
def OkR (l : List It) (i : Nat) : Prop :=
  if (l.getD i default).mark ≠ 0 then 0 < (l.getD i default).mark ∧ 0 ≤ atN l (l.getD i default).mark ∧ (l.getD i default).code = 0 ∧ (l.getD i default).k = 0 ∧ (l.getD i default).tr = 0 ∧ (l.getD i default).fa = 0
  else (l.getD i default).kd ≠ 0 ∧ ((l.getD i default).tr ≠ 0 → ((l.getD i default).kd = 13 ∨ 25 ≤ (l.getD i default).kd) ∧ (i : Int) < atN l (l.getD i default).tr) ∧
    ((l.getD i default).fa ≠ 0 → 25 ≤ (l.getD i default).kd ∧ (i : Int) < atN l (l.getD i default).fa)
theorem lt_atN (l : List It) (m : Int) (i : Nat) : (i : Int) < atN l m ↔ ∃ j, i < j ∧ Uniq l m j := by
  rcases atN_cases l m with ⟨j, h, e⟩ | ⟨h, e⟩
  · rw [e]
    exact ⟨fun hi => ⟨j, by omega, h⟩, fun ⟨k, hk, hu⟩ => by have := hu.eq h; omega⟩
  · rw [e]
    exact ⟨fun hi => by omega, fun ⟨k, hk, hu⟩ => (h k hu).elim⟩
theorem okR_iff (l : List It) (i : Nat) (hi : i < l.length) : OkR l i ↔ OkAt l i := by
  unfold OkR OkAt
  by_cases hm : (l.getD i default).mark ≠ 0
  · rw [if_pos hm, if_pos hm]
    have e : 0 ≤ atN l (l.getD i default).mark ↔ Uniq l (l.getD i default).mark i := by
      rcases atN_cases l (l.getD i default).mark with ⟨j, h, e⟩ | ⟨h, e⟩
      · rw [e]
        refine ⟨fun _ => ?_, fun _ => by omega⟩
        have := (h.2.2 i hi).1 rfl
        subst this; exact h
      · rw [e]; exact ⟨fun hh => by omega, fun hu => (h _ hu).elim⟩
    rw [e]
  · rw [if_neg hm, if_neg hm, lt_atN, lt_atN]
theorem form_iff_R (l : List It) : ((∀ i, i < l.length → OkR l i) ∧ EndOk l) ↔ Form l :=
  ⟨fun h => ⟨fun i hi => (okR_iff l i hi).1 (h.1 i hi), h.2⟩, fun h => ⟨fun i hi => (okR_iff l i hi).2 (h.1 i hi), h.2⟩⟩
end Go.Proofs.Ytgalkidhgjgbhaa
