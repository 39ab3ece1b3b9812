/-
  What a call that makes bytes hands back.
-/
import Derived.Test.YtpinnockcnmofaaGreatDoorData
/-! What a call that makes bytes hands back. -/
namespace Go.Proofs.YtpinnockcnmofaaGreatDoor
open Go.RowKit

theorem info_u8 : (Tryz.prog.info? 5).map (fun i => (i.zero, i.size, i.bytes)) = some (some (.int .u8 0), 1, 1) := by kernel_rfl
/-- What a call that makes bytes hands back. -/
def MakesBytes (l : List Nat) (w : World) (e : Ending) (w' : World) : Prop :=
  ∃ v, e = .returned v ∧ w'.ownsRow w.heap.size 5 1 v l.length (bytesV l) ∧ Below w.heap.size w w'
end Go.Proofs.YtpinnockcnmofaaGreatDoor

/-! The walk of slices.Clone on bytes. -/
namespace Go.Proofs.YtpinnockcnmofaaGreatDoor
open Go.RowKit
set_option linter.unusedVariables false

theorem bytesV_one (l : List Nat) : ∀ u ∈ bytesV l, u.oneCell' = true := by
  intro u hu
  unfold bytesV at hu
  obtain ⟨n, _, rfl⟩ := List.mem_map.1 hu
  rfl

theorem own_empty (w : World) (e : TypeId) : (w.alloc (.cells #[] e)).ownsRow w.heap.size e 1 (.slice (some ⟨w.heap.size, 0, none⟩) 0 0) 0 [] :=
  ⟨by simp, .inr ⟨w.heap.size, 0, #[], rfl, Nat.le_refl _, heap_alloc_new w _, Nat.le_refl _, by simp [maxLen], rfl, by simp⟩⟩

set_option maxRecDepth 100000 in
theorem clone_any (l : List Nat) (A : Option Addr) (n c : Nat) (w : World) (hr : Reads w w.heap.size 1 A n (bytesV l)) (hn : n ≤ 1000000) :
    Calls Tryz.prog 45 #[.slice A n c] w (MakesBytes l w) := by
  obtain ⟨i0, hi0, hz0, hz1, hz2⟩ := info_parts info_u8
  have hl : n = l.length := by have := hr.1; rw [bytesV_length] at this; omega
  rcases A with _ | ad
  · have h0 : n = 0 := by
      rcases Nat.eq_zero_or_pos n with h0 | h0
      · exact h0
      · obtain ⟨ad, e, _⟩ := hr.2 h0; cases e
    have hl0 : l = [] := List.eq_nil_of_length_eq_zero (by omega)
    subst hl0
    subst h0
    clear hl hr hn
    have hq : ∀ W, (binOp .eql 29 (.slice none 0 c) (.slice none 0 0)).run Tryz.prog W = .ok (.bool true) W := fun W => Lib.run_eql_slice_nil (P := Tryz.prog) W 29 5 none 0 c 0 0 Tryz.underlying29
    go_enter Tryz.func45, Tryz.ntmps45
    go_wp2_with fail
    go_ret
    exact ⟨_, rfl, World.ownsRow_nil _ _ _ _, Below.refl _ _⟩
  · have Hl := Lib.hid hl
    clear hl
    have hq : ∀ W, (binOp .eql 29 (.slice (some ad) n c) (.slice none 0 0)).run Tryz.prog W = .ok (.bool false) W := fun W => Lib.run_eql_slice_nil (P := Tryz.prog) W 29 5 (some ad) n c 0 0 Tryz.underlying29
    go_enter Tryz.func45, Tryz.ntmps45
    go_wp2_with (at_builtin; refine wpList_append_any _ rfl (.tmp 5) (.tmp 6) 29 rfl w.heap.size 5 i0 _ 1 1 Tryz.underlying29 hi0 hz0 hz1 hz2 rfl (by omega) _ 0 [] rfl (own_empty w 5) w.heap.size (some ad) n c (bytesV l) rfl (hr.alloc (Nat.le_refl _) _) (bytesV_one l) (by simp only [maxLen]; omega) (by omega) (by simp) ?_; intro v3 w3 hown3 hg3 hat3)
    go_wp2_with fail
    go_ret
    exact ⟨_, rfl, by rw [← Hl.out]; simpa using hown3, ((Below.refl _ w).alloc (Nat.le_refl _) _).grown hg3 (by simp) (fun k hk => by cases hk; exact Nat.le_refl _)⟩
end Go.Proofs.YtpinnockcnmofaaGreatDoor
