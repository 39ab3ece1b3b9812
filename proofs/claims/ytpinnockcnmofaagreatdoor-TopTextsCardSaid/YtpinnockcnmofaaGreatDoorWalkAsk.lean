/-
  The walks of check's five questions, and of wrong.
-/
import Derived.Test.YtpinnockcnmofaaGreatDoorChkPlain
namespace Go.Proofs.YtpinnockcnmofaaGreatDoor
open Go.RowKit
set_option linter.unusedVariables false

/-- An instruction of a program that is looked at. -/
def lookedV (c jt jf k d : Nat) (x : Bool) (rest : Nat) : Value := .agg #[.int .u16 c, .int .u8 jt, .int .u8 jf, .int .u32 k, .int .i64 d, .bool x, .int .i64 rest]
def TellsErr (n : Nat) (w : World) (e : Ending) (w' : World) : Prop := e = .returned (.int .i64 (n : Nat)) ∧ Below w.heap.size w w'

theorem ret_num {k : IntKind} {a b : Int} (h : a = b) : Ending.returned (.int k a) = .returned (.int k b) := by rw [h]
theorem ret_bool {a b : Bool} (h : a = b) : Ending.returned (.bool a) = .returned (.bool b) := by rw [h]

set_option maxRecDepth 100000 in
set_option maxHeartbeats 1000000 in
theorem askCode (c jt jf k d : Nat) (x : Bool) (rest : Nat) (w : World) (hk : k < 4294967296) (ht : jt < 256) (hf : jf < 256) (hr : rest ≤ 100000) : Calls Tryz.prog 63 #[lookedV c jt jf k d x rest] w (TellsErr (codeE d) w) := by
  unfold lookedV
  go_enter Tryz.func63, Tryz.ntmps63
  go_wp2
  all_goals
    go_ret
    refine ⟨ret_num ?_, (Below.refl _ w).alloc (Nat.le_refl _) _⟩
    unfold codeE
    simp only [beq_iff_eq, beq_eq_false_iff_ne, ne_eq] at *
    split <;> omega

set_option maxRecDepth 100000 in
set_option maxHeartbeats 1000000 in
theorem askLoad (c jt jf k d : Nat) (x : Bool) (rest : Nat) (w : World) (hk : k < 4294967296) (ht : jt < 256) (hf : jf < 256) (hr : rest ≤ 100000) : Calls Tryz.prog 64 #[lookedV c jt jf k d x rest] w (TellsErr (loadE d k) w) := by
  unfold lookedV
  go_enter Tryz.func64, Tryz.ntmps64
  go_wp2
  all_goals
    go_ret
    refine ⟨ret_num ?_, (Below.refl _ w).alloc (Nat.le_refl _) _⟩
    unfold loadE
    (repeat' split) <;> omega

set_option maxRecDepth 100000 in
theorem cells_any (d : Nat) (w : World) : Calls Tryz.prog 95 #[.int .i64 d] w fun e w' => e = .returned (.bool (cellsB d)) ∧ w = w' := by
  go_enter Tryz.func95, Tryz.ntmps95
  go_wp2
  all_goals
    go_ret
    refine ⟨ret_bool ?_, rfl⟩
    unfold cellsB
    rw [Bool.eq_iff_iff]
    simp only [Bool.or_eq_true, beq_iff_eq, decide_eq_true_eq, true_iff]
    omega

set_option maxRecDepth 100000 in
set_option maxHeartbeats 1000000 in
theorem askNumber (c jt jf k d : Nat) (x : Bool) (rest : Nat) (w : World) (hk : k < 4294967296) (ht : jt < 256) (hf : jf < 256) (hr : rest ≤ 100000) : Calls Tryz.prog 66 #[lookedV c jt jf k d x rest] w (TellsErr (numE d x k) w) := by
  unfold lookedV
  go_enter Tryz.func66, Tryz.ntmps66
  go_wp2
  all_goals
    go_ret
    refine ⟨ret_num ?_, (Below.refl _ w).alloc (Nat.le_refl _) _⟩
    unfold numE
    (repeat' split) <;> simp_all <;> omega

set_option maxRecDepth 100000 in
set_option maxHeartbeats 1000000 in
theorem askJump (c jt jf k d : Nat) (x : Bool) (rest : Nat) (w : World) (hk : k < 4294967296) (ht : jt < 256) (hf : jf < 256) (hr : rest ≤ 100000) : Calls Tryz.prog 67 #[lookedV c jt jf k d x rest] w (TellsErr (jumpE d k jt jf rest) w) := by
  unfold lookedV
  go_enter Tryz.func67, Tryz.ntmps67
  go_wp2
  all_goals
    go_ret
    refine ⟨ret_num ?_, (Below.refl _ w).alloc (Nat.le_refl _) _⟩
    unfold jumpE
    have hm : rest ≤ max jt jf ↔ (if jt < jf then rest ≤ jf else rest ≤ jt) := by split <;> omega
    simp only [hm, beq_iff_eq, beq_eq_false_iff_ne, ne_eq] at *
    by_cases hj : jt < jf
    · simp only [hj, if_true] at *
      all_goals ((repeat' split) <;> omega)
    · simp only [hj, if_false] at *
      all_goals ((repeat' split) <;> omega)

set_option maxRecDepth 100000 in
set_option maxHeartbeats 1000000 in
theorem askCell (c jt jf k d : Nat) (x : Bool) (rest : Nat) (w : World) (hk : k < 4294967296) (ht : jt < 256) (hf : jf < 256) (hr : rest ≤ 100000) : Calls Tryz.prog 65 #[lookedV c jt jf k d x rest] w (TellsErr (cellE d k) w) := by
  unfold lookedV
  cases hb : cellsB d
  · have e : cellE d k = 0 := by unfold cellsB at hb; unfold cellE; simp at hb; rw [if_neg (by omega)]
    rw [e]
    have HB := Lib.hid hb
    clear e hb
    go_enter Tryz.func65, Tryz.ntmps65
    go_wp2_with fail
    refine (cells_any d _).mono ?_
    rintro e w1 ⟨rfl, rfl⟩
    rw [HB.out]
    go_wp2
    go_ret
    exact ⟨rfl, (Below.refl _ w).alloc (Nat.le_refl _) _⟩
  · have e : cellE d k = if 16 ≤ k then 7 else 0 := by
      unfold cellsB at hb; unfold cellE; simp at hb
      by_cases h : 16 ≤ k
      · rw [if_pos ⟨hb, h⟩, if_pos h]
      · rw [if_neg (fun g => h g.2), if_neg h]
    rw [e]
    have HB := Lib.hid hb
    clear e hb
    go_enter Tryz.func65, Tryz.ntmps65
    go_wp2_with fail
    refine (cells_any d _).mono ?_
    rintro e w1 ⟨rfl, rfl⟩
    rw [HB.out]
    go_wp2
    all_goals
      go_ret
      refine ⟨ret_num ?_, (Below.refl _ w).alloc (Nat.le_refl _) _⟩
      first
        | rfl
        | (split <;> omega)
end Go.Proofs.YtpinnockcnmofaaGreatDoor
