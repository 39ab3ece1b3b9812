/-
  The walk of strainerlaw04.awake: true.
-/
import Derived.Test.YtgalkidhgjgbhaaWalkCheck
namespace Go.Proofs.Ytgalkidhgjgbhaa
open Go.RowKit
set_option linter.unusedVariables false

theorem ck1 : checkN [⟨22, 0, 0, 0⟩] = (0, 0) := by decide +kernel
theorem ck2 : checkN [⟨5, 0, 0, 0⟩] = (0, 10) := by decide +kernel
theorem ck3 : checkN [⟨96, 0, 0, 3⟩, ⟨22, 0, 0, 0⟩] = (0, 12) := by decide +kernel

set_option maxRecDepth 100000 in
set_option maxHeartbeats 1000000 in
theorem awake04_any (w : World) : Calls Try.prog 23 #[] w fun e w' => e = .returned (.bool true) ∧ Below w.heap.size w w' := by
  go_enter Try.func23, Try.ntmps23
  go_wp2_with fail
  have hB1 : Below w.heap.size w (w.alloc (.cells (cellsI [⟨22, 0, 0, 0⟩]).toArray 37)) := (Below.refl _ w).alloc (Nat.le_refl _) _
  refine (check_any [⟨22, 0, 0, 0⟩] (by simp [I.Ok]) (some ⟨w.heap.size, 0, none⟩) 1 1 _ ?hr (by omega)).mono ?_
  case hr => exact (reads_lit w (cellsI [⟨22, 0, 0, 0⟩]) 37 4 1 rfl).more (by simp)
  rintro e w1 ⟨rfl, hB2⟩
  rw [ck1]
  have hB2w : Below w.heap.size w w1 := hB1.trans (hB2.mono (by simp))
  clear hB1 hB2
  go_wp2_with fail
  refine (check_any [⟨5, 0, 0, 0⟩] (by simp [I.Ok]) (some ⟨w1.heap.size, 0, none⟩) 1 1 _ ?hr2 (by omega)).mono ?_
  case hr2 => exact (reads_lit w1 (cellsI [⟨5, 0, 0, 0⟩]) 37 4 1 rfl).more (by simp)
  rintro e w2 ⟨rfl, hB3⟩
  rw [ck2]
  have hB3w : Below w.heap.size w w2 := (hB2w.alloc hB2w.size _).trans (hB3.mono (by have := hB2w.size; simp; omega))
  clear hB2w hB3
  go_wp2_with fail
  refine (check_any [⟨96, 0, 0, 3⟩, ⟨22, 0, 0, 0⟩] (by simp [I.Ok]) (some ⟨w2.heap.size, 0, none⟩) 2 2 _ ?hr3 (by omega)).mono ?_
  case hr3 => exact (reads_lit w2 (cellsI [⟨96, 0, 0, 3⟩, ⟨22, 0, 0, 0⟩]) 37 4 2 rfl).more (by simp)
  rintro e w3 ⟨rfl, hB4⟩
  rw [ck3]
  have hB4w : Below w.heap.size w w3 := (hB3w.alloc hB3w.size _).trans (hB4.mono (by have := hB3w.size; simp; omega))
  clear hB3w hB4
  go_wp2_with fail
  go_ret
  exact ⟨rfl, hB4w⟩
end Go.Proofs.Ytgalkidhgjgbhaa
