/-
  Items that end in two returns, the second behind a mark; and items without marks: in plain words.
-/
import Derived.Test.YtgalkidhgjgbhaaAsmGoes
import Derived.Test.YtgalkidhgjgbhaaAsmDead
namespace Go.Proofs.Ytgalkidhgjgbhaa
set_option linter.unusedVariables false

def tailT : List It := [⟨0, 6, 1, 0, 0⟩, ⟨1, 0, 0, 0, 0⟩, ⟨0, 6, 2, 0, 0⟩]
structure Body (b : List It) : Prop where
  mark : ∀ x ∈ b, x.mark = 0
  kind : ∀ x ∈ b, x.kd ≠ 0 ∧ ¬ isEnd x.kd
  tr : ∀ x ∈ b, x.tr = 0 ∨ (x.tr = 1 ∧ 25 ≤ x.kd)
  fa : ∀ x ∈ b, x.fa = 0 ∨ (x.fa = 1 ∧ 25 ≤ x.kd)
theorem kd_six : (ofN 6).1 = 14 := by decide +kernel
theorem tail_at (b : List It) (j : Nat) : (b ++ tailT).getD (b.length + j) default = tailT.getD j default := by
  rw [getD_rightT _ _ (by omega), show b.length + j - b.length = j by omega]
section
variable {b : List It} (h : Body b)
include h
theorem Body.ins : ins (b ++ tailT) = b ++ [⟨0, 6, 1, 0, 0⟩, ⟨0, 6, 2, 0, 0⟩] := by
  rw [ins_append]
  congr 1
  unfold Go.Proofs.Ytgalkidhgjgbhaa.ins
  exact List.filter_eq_self.2 fun x hx => by simpa using h.mark x hx
theorem Body.len : (Go.Proofs.Ytgalkidhgjgbhaa.ins (b ++ tailT)).length = b.length + 2 := by rw [h.ins]; simp
theorem Body.uniq : Uniq (b ++ tailT) 1 (b.length + 1) := by
  refine ⟨by decide, by simp [tailT], fun p hp => ?_⟩
  by_cases hpl : p < b.length
  · rw [getD_leftT _ _ hpl, h.mark _ (getD_memT hpl)]
    exact ⟨fun e => absurd e (by decide), fun e => by omega⟩
  · obtain ⟨j, rfl⟩ := Nat.le.dest (Nat.le_of_not_lt hpl)
    rw [tail_at]
    have hj : j = 0 ∨ j = 1 ∨ j = 2 := by simp [tailT] at hp; omega
    rcases hj with rfl | rfl | rfl
    · exact ⟨fun e => absurd e (by decide), fun e => by omega⟩
    · exact ⟨fun _ => rfl, fun _ => rfl⟩
    · exact ⟨fun e => absurd e (by decide), fun e => by omega⟩
theorem Body.form : Form (b ++ tailT) := by
  have hu := h.uniq
  refine ⟨fun i hi => ?_, by simp [tailT], ?_, ?_⟩
  · unfold OkAt
    by_cases hil : i < b.length
    · have hm := getD_memT hil
      have h2 := h.kind _ hm
      have h3 := h.tr _ hm
      have h4 := h.fa _ hm
      rw [getD_leftT _ _ hil, if_neg (by rw [h.mark _ hm]; simp)]
      refine ⟨h2.1, fun ht => ?_, fun ht => ?_⟩
      · rcases h3 with e | ⟨e, hk⟩
        · exact absurd e ht
        · exact ⟨.inr hk, b.length + 1, by omega, by rw [e]; exact hu⟩
      · rcases h4 with e | ⟨e, hk⟩
        · exact absurd e ht
        · exact ⟨hk, b.length + 1, by omega, by rw [e]; exact hu⟩
    · obtain ⟨j, rfl⟩ := Nat.le.dest (Nat.le_of_not_lt hil)
      rw [tail_at]
      have hj : j = 0 ∨ j = 1 ∨ j = 2 := by simp [tailT] at hi; omega
      rcases hj with rfl | rfl | rfl
      · rw [if_neg (by decide)]
        refine ⟨?_, fun h => absurd rfl h, fun h => absurd rfl h⟩
        show (ofN 6).1 ≠ 0
        rw [kd_six]; decide
      · rw [if_pos (by decide)]
        exact ⟨by decide, hu, rfl, rfl, rfl, rfl⟩
      · rw [if_neg (by decide)]
        refine ⟨?_, fun h => absurd rfl h, fun h => absurd rfl h⟩
        show (ofN 6).1 ≠ 0
        rw [kd_six]; decide
  · rw [show (b ++ tailT).length - 1 = b.length + 2 by simp [tailT], tail_at]; rfl
  · rw [show (b ++ tailT).length - 1 = b.length + 2 by simp [tailT], tail_at]
    show isEnd (ofN 6).1
    rw [kd_six]; exact .inl rfl
theorem Body.it {n : Nat} (hn : n < b.length) : itAt (b ++ tailT) n = b.getD n default := by unfold itAt; rw [h.ins, getD_leftT _ _ hn]
theorem Body.it0 : itAt (b ++ tailT) b.length = ⟨0, 6, 1, 0, 0⟩ := by
  unfold itAt; rw [h.ins, getD_rightT _ _ (by omega), Nat.sub_self]; rfl
theorem Body.it1 : itAt (b ++ tailT) (b.length + 1) = ⟨0, 6, 2, 0, 0⟩ := by
  unfold itAt; rw [h.ins, getD_rightT _ _ (by omega), show b.length + 1 - b.length = 1 by omega]; rfl
theorem Body.cnt {p : Nat} (hp : p ≤ b.length) : cnt (b ++ tailT) p = p := by
  rw [cnt_left _ _ hp]
  unfold Go.Proofs.Ytgalkidhgjgbhaa.cnt Go.Proofs.Ytgalkidhgjgbhaa.ins
  rw [List.filter_eq_self.2 fun x hx => by simpa using h.mark x (List.mem_of_mem_take hx)]
  simp; omega
theorem Body.tgt : tgtN (b ++ tailT) 1 = b.length + 1 := by
  rw [tgtN_uniq h.uniq, cnt_succ _ _ (by simp [tailT]), if_pos (by have := tail_at b 0; rw [Nat.add_zero] at this; rw [this]; rfl), h.cnt (Nat.le_refl _)]
theorem Body.yes {n : Nat} (hn : n < b.length) : yesN (b ++ tailT) n = ((if (b.getD n default).tr = 0 then n + 1 else b.length + 1 : Nat) : Int) := by
  have hit := h.it hn
  unfold itAt at hit
  have hm := getD_memT hn
  unfold yesN
  rw [hit, if_neg (h.kind _ hm).2]
  unfold toN
  rcases h.tr _ hm with e | ⟨e, _⟩
  · rw [e, if_pos rfl, if_pos rfl]
  · rw [e, if_neg (by decide), if_neg (by decide), h.tgt]
theorem Body.no {n : Nat} (hn : n < b.length) (hk : 25 ≤ (b.getD n default).kd) : noN (b ++ tailT) n = ((if (b.getD n default).fa = 0 then n + 1 else b.length + 1 : Nat) : Int) := by
  have hit := h.it hn
  unfold itAt at hit
  have hm := getD_memT hn
  unfold noN
  rw [hit, if_pos hk]
  unfold toN
  rcases h.fa _ hm with e | ⟨e, _⟩
  · rw [e, if_pos rfl, if_pos rfl]
  · rw [e, if_neg (by decide), if_neg (by decide), h.tgt]
theorem Body.ret0 (W : Nat → Nat) (a : Nat) : GoesT (b ++ tailT) W a b.length 1 := by
  have := GoesT.ret (l := b ++ tailT) (W := W) (a := a) (n := b.length) (by rw [h.len]; omega) (by rw [h.it0]; exact kd_six)
  rw [h.it0] at this
  exact this
theorem Body.ret1 (W : Nat → Nat) (a : Nat) : GoesT (b ++ tailT) W a (b.length + 1) 2 := by
  have := GoesT.ret (l := b ++ tailT) (W := W) (a := a) (n := b.length + 1) (by rw [h.len]; omega) (by rw [h.it1]; exact kd_six)
  rw [h.it1] at this
  exact this
theorem Body.simple (hs : ∀ x ∈ b, Simple x) : ∀ n, n < (Go.Proofs.Ytgalkidhgjgbhaa.ins (b ++ tailT)).length → Simple (itAt (b ++ tailT) n) := by
  intro n hn
  rw [h.len] at hn
  by_cases h1 : n < b.length
  · rw [h.it h1]; exact hs _ (getD_memT h1)
  · have h2 : n = b.length ∨ n = b.length + 1 := by omega
    rcases h2 with rfl | rfl
    · rw [h.it0]; exact .inr (.inr (.inr (.inr (.inl kd_six))))
    · rw [h.it1]; exact .inr (.inr (.inr (.inr (.inl kd_six))))
end
/-- Where each leads to the next, all are reached. -/
theorem reach_all {l : List It} {N : Nat} (hN : N ≤ (ins l).length) (h : ∀ n, n + 1 < N → yesN l n = ((n + 1 : Nat) : Int) ∨ noN l n = ((n + 1 : Nat) : Int)) : ∀ n, n < N → Reach l n
  | 0, _ => .zero
  | n + 1, hn => by
    have ih := reach_all hN h n (by omega)
    rcases h n hn with e | e
    · exact .yes ih (by omega) e
    · exact .no ih (by omega) e
theorem laid_eq {l : List It} {F G : Nat → Bool} (h1 : Laid l F) (h2 : Laid l G) : F = G := by
  funext n
  rw [Bool.eq_iff_iff]
  exact ⟨h1.least G h2.closed n, h2.least F h1.closed n⟩
end Go.Proofs.Ytgalkidhgjgbhaa
