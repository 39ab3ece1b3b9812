/-
  The program's instructions fit their fields.
-/
import Derived.Test.YtgalkidhgjgbhaaAsmOut
import Derived.Test.YtgalkidhgjgbhaaAsmData
namespace Go.Proofs.Ytgalkidhgjgbhaa
set_option linter.unusedVariables false

theorem outAt_ok {l : List It} {F : Nat → Bool} (hok : ∀ x ∈ l, x.Ok) (hF : Form l) (hL : Laid l F) (hN : (ins l).length ≤ 100000) {k : Nat} (hk : k < (ins l).length) : ∀ i ∈ outAt l F k, i.Ok := by
  have hx : (itAt l k).Ok := getD_okT (fun x hx => by unfold ins at hx; exact hok x (List.mem_filter.1 hx).1) hk
  obtain ⟨-, hc, hkk, -, -⟩ := hx
  have hp := plN_le l F
  intro i hi
  cases hrb : reachB l k with
  | false => rw [outAt_none hrb] at hi; cases hi
  | true =>
    cases hfk : F k with
    | true =>
      obtain ⟨t, u, ey, eo, ht1, ht2, hu1, hu2⟩ := hF.ways hk (hL.br k hfk).2.2
      have h1 := hp t
      have h2 := hp u
      rw [outAt_far hrb hfk ey eo] at hi
      simp only [List.mem_cons, List.not_mem_nil, or_false] at hi
      rcases hi with rfl | rfl | rfl <;> unfold I.Ok <;> simp only <;> omega
    | false =>
      by_cases h13 : (itAt l k).kd = 13
      · obtain ⟨t, ey, ht1, ht2⟩ := hF.jumpWay hk h13
        have h1 := hp t
        rw [outAt_jump hrb hfk h13 ey] at hi
        simp only [List.mem_cons, List.not_mem_nil, or_false] at hi
        subst hi
        unfold I.Ok; simp only; omega
      · by_cases h25 : 25 ≤ (itAt l k).kd
        · obtain ⟨t, u, ey, eo, ht1, ht2, hu1, hu2⟩ := hF.ways hk h25
          have hcl := hL.closed k ⟨hk, (hF.reachB_iff (by omega)).1 hrb, h25⟩ hfk
          rw [farN_ways F ey eo] at hcl
          rw [outAt_near hrb hfk h25 ey eo] at hi
          simp only [List.mem_cons, List.not_mem_nil, or_false] at hi
          subst hi
          unfold I.Ok; simp only; omega
        · rw [outAt_other hrb hfk h13 h25] at hi
          simp only [List.mem_cons, List.not_mem_nil, or_false] at hi
          subst hi
          unfold I.Ok; simp only; omega
theorem asmN_ok {l : List It} {F : Nat → Bool} (hok : ∀ x ∈ l, x.Ok) (hF : Form l) (hL : Laid l F) (hN : (ins l).length ≤ 100000) : ∀ i ∈ asmN l F, i.Ok := by
  intro i hi
  unfold asmN asmUp at hi
  obtain ⟨k, hk, hi⟩ := List.mem_flatMap.1 hi
  exact outAt_ok hok hF hL hN (List.mem_range.1 hk) i hi
end Go.Proofs.Ytgalkidhgjgbhaa
