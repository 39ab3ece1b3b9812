/-
  Few items: none stands far; and four given ones.
-/
import Derived.Test.YtgalkidhgjgbhaaAsmOk
namespace Go.Proofs.Ytgalkidhgjgbhaa
set_option linter.unusedVariables false

theorem szN_few (l : List It) (n : Nat) : szN l (fun _ => false) n ≤ 1 := by unfold szN; split <;> simp
theorem posN_one (s : Nat → Nat) (h : ∀ n, s n ≤ 1) (a : Nat) : ∀ d, posN s (a + d) ≤ posN s a + d
  | 0 => Nat.le_refl _
  | d + 1 => by have := posN_one s h a d; have := h (a + d); show posN s (a + d) + s (a + d) ≤ _; omega
theorem closed_few {l : List It} (hF : Form l) (hN : (ins l).length ≤ 256) : Closed l (fun _ => false) := by
  intro n hb _
  obtain ⟨t, u, ey, eo, ht1, ht2, hu1, hu2⟩ := hF.ways hb.1 hb.2.2
  rw [farN_ways _ ey eo]
  obtain ⟨d, rfl⟩ := Nat.le.dest (Nat.le_of_lt ht1)
  obtain ⟨d', rfl⟩ := Nat.le.dest (Nat.le_of_lt hu1)
  have h1 := posN_one _ (szN_few l) n d
  have h2 := posN_one _ (szN_few l) n d'
  unfold plN
  omega
theorem far_few {l : List It} (hF : Form l) (hN : (ins l).length ≤ 256) {F : Nat → Bool} (hL : Laid l F) : F = fun _ => false := by
  funext n
  cases h : F n with
  | false => rfl
  | true => exact (hL.least _ (closed_few hF hN) n h).symm
def li0 : List It := [⟨0, 21, 5, 1, 0⟩, ⟨0, 6, 1, 0, 0⟩, ⟨1, 0, 0, 0, 0⟩, ⟨0, 6, 2, 0, 0⟩]
theorem li0_ok : ∀ x ∈ li0, x.Ok := by
  intro x hx
  simp only [li0, List.mem_cons, List.not_mem_nil, or_false] at hx
  rcases hx with rfl | rfl | rfl | rfl <;> unfold It.Ok <;> simp
theorem li0_form : Form li0 := by
  refine (form_iff_G li0).1 ⟨fun i hi => ?_, by decide, by decide, ?_⟩
  · have h4 : i = 0 ∨ i = 1 ∨ i = 2 ∨ i = 3 := by have : li0.length = 4 := rfl; omega
    rcases h4 with rfl | rfl | rfl | rfl
    · unfold OkG; rw [if_neg (by decide)]
      exact ⟨by decide +kernel, fun _ => ⟨.inr (by decide +kernel), 2, by decide, by decide, by decide⟩, fun h => absurd rfl h⟩
    · unfold OkG; rw [if_neg (by decide)]
      exact ⟨by decide +kernel, fun h => absurd rfl h, fun h => absurd rfl h⟩
    · unfold OkG; rw [if_pos (by decide)]
      refine ⟨by decide, ?_, rfl, rfl, rfl, rfl⟩
      rintro ⟨j, h1, h2, h3⟩
      have h2' : j < 4 := h2
      have : j = 3 := by omega
      subst this
      exact absurd h3 (by decide)
    · unfold OkG; rw [if_neg (by decide)]
      exact ⟨by decide +kernel, fun h => absurd rfl h, fun h => absurd rfl h⟩
  · show isEnd _
    unfold isEnd; decide +kernel
theorem li0_asm : asmN li0 (fun _ => false) = [⟨21, 1, 0, 5⟩, ⟨6, 0, 0, 1⟩, ⟨6, 0, 0, 2⟩] := by decide +kernel
theorem li0_pl : plN li0 (fun _ => false) (ins li0).length = 3 := by decide +kernel
theorem li0_check : checkN [⟨21, 1, 0, 5⟩, ⟨6, 0, 0, 1⟩, ⟨6, 0, 0, 2⟩] = (0, 0) := by decide +kernel
end Go.Proofs.Ytgalkidhgjgbhaa
