/-
  A slice of uint32, opened.
-/
import Derived.Test.YtgalkidhgjgbhaaOpen
import Derived.Test.YtgalkidhgjgbhaaLawFree
namespace Go.Proofs.Ytgalkidhgjgbhaa
open Go.ChangeShapes Go.WideShapes Go.ChangeAt Go.RowKit
open Go.ChangeMaps (open_string shut_string)
set_option linter.unusedVariables false
section
variable {H : Type} {enc : TypeId × Value → H} {P : Program} {w : World}

theorem open_u32s {t e : TypeId} (ht : P.underlying t = some (.slice e)) (he : P.underlying e = some (.int .u32)) (hc : P.cellsOf e = 1) {a0 : Option Addr} {len cap : Nat} {d : DataW H} {p : List MemPlace}
    (h : DataW.Trod enc P w 0 (fun _ => true) true t (.slice a0 len cap) d p) (hlt : ∀ x ∈ p, x.block < w.heap.size) :
    ∃ l : List Nat, Reads w w.heap.size 1 a0 len (u32sV l) ∧ (∀ n ∈ l, n < 4294967296) ∧ l.length = len ∧ len ≤ cap ∧ cap ≤ maxLen := by
  obtain ⟨fuel, hf⟩ := h
  rcases open_ints ht he hc hf with ⟨hcs, _⟩ | ⟨x, l, c, zs, hcs, _, hl, hm, hz, hx, hcell, hwz⟩
  · simp [Value.cells] at hcs
    obtain ⟨rfl, rfl, rfl⟩ := hcs
    exact ⟨[], Reads.none_, by simp, rfl, Nat.le_refl _, by simp [maxLen]⟩
  · simp [Value.cells] at hcs
    obtain ⟨rfl, rfl, rfl⟩ := hcs
    simp at hz
    have hnat : ∀ i, i < zs.length → ∃ m : Nat, zs.getD i 0 = (m : Int) ∧ m < 4294967296 := fun i hi => by
      obtain ⟨m, hm1, hm2⟩ := nat_of_wf (hwz _ (List.getElem_mem hi)) rfl
      exact ⟨m, by simpa [hi] using hm1, hm2⟩
    refine ⟨(zs.take len).map Int.toNat, ⟨by simp [u32sV]; omega, fun h0 => ⟨x, rfl, ?_, ?_⟩⟩, ?_, by simp; omega, hl, hm⟩
    · have := hlt (.cell x.block x.off)
      refine this ?_
      simp only [Prod.mk.injEq] at hx
      rw [hx.2]
      unfold MemPlace.row
      exact List.mem_map.2 ⟨0, by simp; omega, by simp⟩
    · intro j u hu
      have hj : j < len := by
        have := (List.getElem?_eq_some_iff.1 hu).1
        simp [u32sV] at this; omega
      obtain ⟨m, hm1, hm2⟩ := hnat j (by omega)
      rw [hcell j (by omega), hm1]
      have : (u32sV ((zs.take len).map Int.toNat))[j]? = some (.int .u32 (m : Int)) := by
        have hzj : zs[j]'(by omega) = (m : Int) := by rw [← hm1]; simp [show j < zs.length by omega]
        simp [u32sV, hj, show j < zs.length by omega, hzj]
      rw [this] at hu
      exact hu
    · intro n hn
      obtain ⟨z, hz1, rfl⟩ := List.mem_map.1 hn
      obtain ⟨m, hm1, hm2⟩ := nat_of_wf (hwz z (List.mem_of_mem_take hz1)) rfl
      subst hm1
      have h32 : 2 ^ IntKind.u32.bits = 4294967296 := rfl
      rw [h32] at hm2
      simpa using hm2

end
end Go.Proofs.Ytgalkidhgjgbhaa
