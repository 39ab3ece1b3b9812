/-
  The walk of strainerlaw02.InstWrites: true.
-/
import Derived.Test.YtlpakmlpnjfcoaaAwake02
import Derived.Test.YtlpakmlpnjfcoaaRefWrite
import Derived.Test.YtlpakmlpnjfcoaaWalkOfs
import Derived.Test.YtlpakmlpnjfcoaaKinds
namespace Go.Proofs.Ytlpakmlpnjfcoaa
open Go.RowKit

theorem make_bytes {w : World} {l : List Nat} {e : Ending} {w' : World} (h : MakesBytes l w e w') : ∃ v, e = .returned v ∧ IsRow 1 l.length (bytesV l) v w' ∧ Grows w w' := by
  obtain ⟨v, rfl, ho, hB⟩ := h
  obtain ⟨A, c, rfl, hr⟩ := own_reads ho
  exact ⟨_, rfl, ⟨A, c, rfl, hr⟩, hB⟩
theorem make_insts {w : World} {l : List I} {e : Ending} {w' : World} (h : MakesInsts l w e w') : ∃ v, e = .returned v ∧ IsRow 4 l.length (cellsI l) v w' ∧ Grows w w' := by
  obtain ⟨v, rfl, ho, hB⟩ := h
  obtain ⟨A, c, rfl, hr⟩ := own_reads ho
  exact ⟨_, rfl, ⟨A, c, rfl, hr⟩, hB⟩

def writesK (l : List I) : Tmp → Kd := kdOf [(6, .row 4 l.length (cellsI l)), (7, .row 4 l.length (cellsI l)), (8, .row 1 ((writeN l).length) (bytesV (writeN l))), (9, .eq (.string (strB (writeN l)))), (10, .row 4 l.length (cellsI l)), (11, .row 1 ((writeN l).length) (bytesV (writeN l))), (12, .eq (.string (strB (writeN l)))), (13, .eq (.bool true)), (14, .eq (.bool true)), (15, .eq (.bool true)), (16, .eq (.bool true)), (2, .eq (.bool true))]

set_option maxRecDepth 100000 in
theorem instWrites_few (l : List I) (hok : ∀ i ∈ l, i.Ok) (A : Option Addr) (c : Nat) (w : World) (hr : Reads w w.heap.size 4 A l.length (cellsI l)) (hn : l.length ≤ 300) :
    Calls Try.prog 4 #[.slice A l.length c] w fun e w' => e = .returned (.bool true) ∧ Below w.heap.size w w' := by
  have hn' : ¬ (300 : Int) < (l.length : Int) := by omega
  go_enter Try.func4, Try.ntmps4
  go_wp2_with fail
  refine Any.wp_region_kinds follows (writesK l) [6, 7, 8, 9, 10, 11, 12, 13, 14, 15, 16, 2] (by kernel_rfl) (by kernel_rfl) (by kernel_rfl) ⟨?_, ?_, ?_, ?_, ?_, ?_, ?_, ?_, ?_, ?_, ?_, ?_, trivial⟩ ?_
  · exact Any.st_was 6 0 (.plain rfl) (.inl rfl) rfl (by decide) ⟨A, c, rfl, hr⟩
  · exact Any.st_call1 7 6 _ _ _ (.plain rfl) rfl rfl Try.func26 (by kernel_rfl) rfl (by decide) rfl fun w A c r => (of_insts l hok A _ c w r (by omega)).mono fun e w' h => make_insts h
  · exact Any.st_call1 8 7 _ _ _ (.plain rfl) rfl rfl Try.func25 (by kernel_rfl) rfl (by decide) rfl fun w A c r => (write_any l hok A _ c w r (by omega)).mono fun e w' h => make_bytes h
  · exact Any.st_string 9 8 _ _ _ _ _ (.plain rfl) rfl rfl (by decide) Try.underlying31 Try.underlying5 Try.underlying9 rfl rfl
  · exact Any.st_was 10 0 (.plain rfl) (.inl rfl) rfl (by decide) ⟨A, c, rfl, hr⟩
  · exact Any.st_call1 11 10 _ _ _ (.plain rfl) rfl rfl Try.func27 (by kernel_rfl) rfl (by decide) rfl fun w A c r => (refWrite_any l hok A _ c w r (by omega)).mono fun e w' h => make_bytes h
  · exact Any.st_string 12 11 _ _ _ _ _ (.plain rfl) rfl rfl (by decide) Try.underlying31 Try.underlying5 Try.underlying9 rfl rfl
  · exact Any.st_bin 13 9 12 _ _ _ _ _ _ (.plain rfl) rfl rfl (by decide) (by decide) rfl rfl (fun w => by simp [go_sem]) (fun w => by simp [go_sem]) rfl
  · exact Any.st_copy 14 13 (.plain rfl) (.inl rfl) rfl (by decide) rfl
  · exact Any.st_call0 15 _ (.known 14 rfl rfl (by decide) rfl) rfl rfl Try.func24 (by kernel_rfl) rfl rfl awake02_any
  · exact Any.st_and 16 14 15 _ (.plain rfl) rfl rfl (by decide) (by decide) rfl rfl rfl
  · exact Any.st_copy 2 16 (.plain rfl) (.inr rfl) rfl (by decide) rfl
  intro f w1 hg hf
  have h2 : f 2 = .bool true := hf 2 rfl
  have hB : Below w.heap.size w w1 := (Below.refl _ w).drew.trans hg
  simp only [Any.fill, List.foldl_cons, List.foldl_nil, List.setIfInBounds_toArray, List.set_cons_succ, List.set_cons_zero, h2]
  generalize f 6 = f6, f 7 = f7, f 8 = f8, f 9 = f9, f 10 = f10, f 11 = f11, f 12 = f12, f 13 = f13, f 14 = f14, f 15 = f15, f 16 = f16 at *
  clear hf hg h2
  go_wp2_with fail
  go_ret
  exact ⟨rfl, hB⟩

set_option maxRecDepth 100000 in
theorem instWrites_many (A : Option Addr) (n c : Nat) (w : World) (hn : 300 < n) : Calls Try.prog 4 #[.slice A n c] w fun e w' => e = .returned (.bool true) ∧ Below w.heap.size w w' := by
  have hn' : (300 : Int) < (n : Int) := by omega
  go_enter Try.func4, Try.ntmps4
  go_wp2_with fail
  go_ret
  exact ⟨rfl, Below.refl _ _⟩

theorem instWrites_walk (w : World) (l : List I) (hok : ∀ i ∈ l, i.Ok) (A : Option Addr) (n c : Nat) (hr : Reads w w.heap.size 4 A n (cellsI l)) (_hc : n ≤ c) (_hm : c ≤ maxLen) : Calls Try.prog 4 #[.slice A n c] w fun e w' => e = .returned (.bool true) ∧ Below w.heap.size w w' := by
  have hl : n = l.length := by have := hr.1; rw [cellsI_length] at this; omega
  subst hl
  by_cases h : l.length ≤ 300
  · exact instWrites_few l hok A c w hr h
  · exact instWrites_many A _ c w (by omega)
end Go.Proofs.Ytlpakmlpnjfcoaa
