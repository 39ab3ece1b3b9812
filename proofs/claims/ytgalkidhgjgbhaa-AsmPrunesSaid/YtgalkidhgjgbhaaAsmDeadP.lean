/-
  Which items AsmPrunes puts behind the end: in plain words.
-/
import Derived.Test.YtgalkidhgjgbhaaAsmPlain3
import Derived.Test.YtgalkidhgjgbhaaAsmOk2
namespace Go.Proofs.Ytgalkidhgjgbhaa
set_option linter.unusedVariables false

def endT : It := ⟨0, 6, 0, 0, 0⟩
def bareT (x : It) : It := ⟨0, x.code, x.k, 0, 0⟩
theorem endT_kd : endT.kd = 14 := kd_six
theorem bareT_kd (x : It) : (bareT x).kd = x.kd := rfl
def deadL (d : List It) (k : Nat) : List It := ((d.take k).filter fun x => decide (x.mark = 0 ∧ x.kd ≠ 0)).map bareT
theorem deadL_zero (d : List It) : deadL d 0 = [] := rfl
theorem deadL_yes {d : List It} {k : Nat} (hk : k < d.length) (h : (d.getD k default).mark = 0 ∧ (d.getD k default).kd ≠ 0) : deadL d (k + 1) = deadL d k ++ [bareT (d.getD k default)] := by
  unfold deadL
  rw [take_snocT d k hk, List.filter_append, List.map_append]
  congr 1
  rw [List.filter_cons, if_pos (decide_eq_true h)]; rfl
theorem deadL_no {d : List It} {k : Nat} (hk : k < d.length) (h : ¬ ((d.getD k default).mark = 0 ∧ (d.getD k default).kd ≠ 0)) : deadL d (k + 1) = deadL d k := by
  unfold deadL
  rw [take_snocT d k hk, List.filter_append, List.map_append, List.filter_cons, if_neg (by rw [decide_eq_false h]; simp)]
  simp
theorem deadL_le (d : List It) (k : Nat) : (deadL d k).length ≤ k := by
  unfold deadL
  rw [List.length_map]
  exact Nat.le_trans (List.length_filter_le _ _) (List.length_take_le _ _)
theorem deadL_dead (d : List It) (k : Nat) : Dead (deadL d k ++ [endT]) := by
  refine ⟨fun x hx => ?_, by simp, ?_⟩
  · rcases List.mem_append.1 hx with h | h
    · unfold deadL at h
      obtain ⟨y, hy, rfl⟩ := List.mem_map.1 h
      have := (List.mem_filter.1 hy).2
      have := of_decide_eq_true this
      exact ⟨rfl, this.2, rfl, rfl⟩
    · obtain rfl : x = endT := by simpa using h
      exact ⟨rfl, by rw [endT_kd]; decide, rfl, rfl⟩
  · rw [List.length_append, List.length_singleton, Nat.add_sub_cancel, getD_rightT _ _ (Nat.le_refl _), Nat.sub_self]
    show isEnd endT.kd
    rw [endT_kd]; exact .inl rfl
theorem bareT_ok {x : It} (h : x.Ok) : (bareT x).Ok := ⟨by unfold bareT; simp, h.2.1, h.2.2.1, by unfold bareT; simp, by unfold bareT; simp⟩
theorem deadL_ok {d : List It} (h : ∀ x ∈ d, x.Ok) (k : Nat) : ∀ x ∈ deadL d k ++ [endT], x.Ok := fun x hx => by
  rcases List.mem_append.1 hx with hx | hx
  · unfold deadL at hx
    obtain ⟨y, hy, rfl⟩ := List.mem_map.1 hx
    exact bareT_ok (h y (List.mem_of_mem_take (List.mem_filter.1 hy).1))
  · obtain rfl : x = endT := by simpa using hx
    unfold endT It.Ok; simp
theorem pair_form (x : It) : Form [bareT x, endT] ↔ x.kd ≠ 0 := by
  constructor
  · intro h
    have := h.1 0 (by simp)
    unfold OkAt at this
    rw [if_neg (by simp [bareT])] at this
    exact this.1
  · intro h
    refine ⟨fun i hi => ?_, by simp, rfl, ?_⟩
    · have h2 : i = 0 ∨ i = 1 := by simp at hi; omega
      rcases h2 with rfl | rfl
      · unfold OkAt
        rw [if_neg (by simp [bareT])]
        exact ⟨h, fun h => absurd rfl h, fun h => absurd rfl h⟩
      · unfold OkAt
        rw [if_neg (by simp [endT])]
        exact ⟨by show endT.kd ≠ 0; rw [endT_kd]; decide, fun h => absurd rfl h, fun h => absurd rfl h⟩
    · show isEnd endT.kd
      rw [endT_kd]; exact .inl rfl
theorem pair_ok {x : It} (h : x.Ok) : ∀ y ∈ [bareT x, endT], y.Ok := fun y hy => by
  simp only [List.mem_cons, List.not_mem_nil, or_false] at hy
  rcases hy with rfl | rfl
  · exact bareT_ok h
  · unfold endT It.Ok; simp
end Go.Proofs.Ytgalkidhgjgbhaa
