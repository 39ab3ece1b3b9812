/-
  The program's instructions fit their fields.
-/
import Derived.Test.YtgalkidhgjgbhaaAsmOut
import Derived.Test.YtgalkidhgjgbhaaAsmData
/-! The program's instructions fit their fields. -/
namespace Go.Proofs.Ytgalkidhgjgbhaa
set_option linter.unusedVariables false

theorem outAt_ok {l : List It} {F : Nat → Bool} (hok : ∀ x ∈ l, x.Ok) (hF : Form l) (hL : Laid l F) (hN : (ins l).length ≤ 100000) {k : Nat} (hk : k < (ins l).length) : ∀ i ∈ outAt l F k, i.Ok := by
  have hx : (itAt l k).Ok := getD_okT (fun x hx => by unfold ins at hx; exact hok x (List.mem_filter.1 hx).1) hk
  obtain ⟨-, hc, hkk, -, -⟩ := hx
  have hp := plN_le l F
  intro i hi
  cases hrb : reachB l k with
  | false => rw [outAt_none hrb] at hi; cases hi
  | true =>
    cases hfk : F k with
    | true =>
      obtain ⟨t, u, ey, eo, ht1, ht2, hu1, hu2⟩ := hF.ways hk (hL.br k hfk).2.2
      have h1 := hp t
      have h2 := hp u
      rw [outAt_far hrb hfk ey eo] at hi
      simp only [List.mem_cons, List.not_mem_nil, or_false] at hi
      rcases hi with rfl | rfl | rfl <;> unfold I.Ok <;> simp only <;> omega
    | false =>
      by_cases h13 : (itAt l k).kd = 13
      · obtain ⟨t, ey, ht1, ht2⟩ := hF.jumpWay hk h13
        have h1 := hp t
        rw [outAt_jump hrb hfk h13 ey] at hi
        simp only [List.mem_cons, List.not_mem_nil, or_false] at hi
        subst hi
        unfold I.Ok; simp only; omega
      · by_cases h25 : 25 ≤ (itAt l k).kd
        · obtain ⟨t, u, ey, eo, ht1, ht2, hu1, hu2⟩ := hF.ways hk h25
          have hcl := hL.closed k ⟨hk, (hF.reachB_iff (by omega)).1 hrb, h25⟩ hfk
          rw [farN_ways F ey eo] at hcl
          rw [outAt_near hrb hfk h25 ey eo] at hi
          simp only [List.mem_cons, List.not_mem_nil, or_false] at hi
          subst hi
          unfold I.Ok; simp only; omega
        · rw [outAt_other hrb hfk h13 h25] at hi
          simp only [List.mem_cons, List.not_mem_nil, or_false] at hi
          subst hi
          unfold I.Ok; simp only; omega
theorem asmN_ok {l : List It} {F : Nat → Bool} (hok : ∀ x ∈ l, x.Ok) (hF : Form l) (hL : Laid l F) (hN : (ins l).length ≤ 100000) : ∀ i ∈ asmN l F, i.Ok := by
  intro i hi
  unfold asmN asmUp at hi
  obtain ⟨k, hk, hi⟩ := List.mem_flatMap.1 hi
  exact outAt_ok hok hF hL hN (List.mem_range.1 hk) i hi
end Go.Proofs.Ytgalkidhgjgbhaa

/-! Few items: none stands far; and four given ones. -/
namespace Go.Proofs.Ytgalkidhgjgbhaa
set_option linter.unusedVariables false

theorem szN_few (l : List It) (n : Nat) : szN l (fun _ => false) n ≤ 1 := by unfold szN; split <;> simp
theorem posN_one (s : Nat → Nat) (h : ∀ n, s n ≤ 1) (a : Nat) : ∀ d, posN s (a + d) ≤ posN s a + d
  | 0 => Nat.le_refl _
  | d + 1 => by have := posN_one s h a d; have := h (a + d); show posN s (a + d) + s (a + d) ≤ _; omega
theorem closed_few {l : List It} (hF : Form l) (hN : (ins l).length ≤ 256) : Closed l (fun _ => false) := by
  intro n hb _
  obtain ⟨t, u, ey, eo, ht1, ht2, hu1, hu2⟩ := hF.ways hb.1 hb.2.2
  rw [farN_ways _ ey eo]
  obtain ⟨d, rfl⟩ := Nat.le.dest (Nat.le_of_lt ht1)
  obtain ⟨d', rfl⟩ := Nat.le.dest (Nat.le_of_lt hu1)
  have h1 := posN_one _ (szN_few l) n d
  have h2 := posN_one _ (szN_few l) n d'
  unfold plN
  omega
theorem far_few {l : List It} (hF : Form l) (hN : (ins l).length ≤ 256) {F : Nat → Bool} (hL : Laid l F) : F = fun _ => false := by
  funext n
  cases h : F n with
  | false => rfl
  | true => exact (hL.least _ (closed_few hF hN) n h).symm
def li0 : List It := [⟨0, 21, 5, 1, 0⟩, ⟨0, 6, 1, 0, 0⟩, ⟨1, 0, 0, 0, 0⟩, ⟨0, 6, 2, 0, 0⟩]
theorem li0_ok : ∀ x ∈ li0, x.Ok := by
  intro x hx
  simp only [li0, List.mem_cons, List.not_mem_nil, or_false] at hx
  rcases hx with rfl | rfl | rfl | rfl <;> unfold It.Ok <;> simp
theorem li0_form : Form li0 := by
  refine (form_iff_G li0).1 ⟨fun i hi => ?_, by decide, by decide, ?_⟩
  · have h4 : i = 0 ∨ i = 1 ∨ i = 2 ∨ i = 3 := by have : li0.length = 4 := rfl; omega
    rcases h4 with rfl | rfl | rfl | rfl
    · unfold OkG; rw [if_neg (by decide)]
      exact ⟨by decide +kernel, fun _ => ⟨.inr (by decide +kernel), 2, by decide, by decide, by decide⟩, fun h => absurd rfl h⟩
    · unfold OkG; rw [if_neg (by decide)]
      exact ⟨by decide +kernel, fun h => absurd rfl h, fun h => absurd rfl h⟩
    · unfold OkG; rw [if_pos (by decide)]
      refine ⟨by decide, ?_, rfl, rfl, rfl, rfl⟩
      rintro ⟨j, h1, h2, h3⟩
      have h2' : j < 4 := h2
      have : j = 3 := by omega
      subst this
      exact absurd h3 (by decide)
    · unfold OkG; rw [if_neg (by decide)]
      exact ⟨by decide +kernel, fun h => absurd rfl h, fun h => absurd rfl h⟩
  · show isEnd _
    unfold isEnd; decide +kernel
theorem li0_asm : asmN li0 (fun _ => false) = [⟨21, 1, 0, 5⟩, ⟨6, 0, 0, 1⟩, ⟨6, 0, 0, 2⟩] := by decide +kernel
theorem li0_pl : plN li0 (fun _ => false) (ins li0).length = 3 := by decide +kernel
theorem li0_check : checkN [⟨21, 1, 0, 5⟩, ⟨6, 0, 0, 1⟩, ⟨6, 0, 0, 2⟩] = (0, 0) := by decide +kernel
end Go.Proofs.Ytgalkidhgjgbhaa
