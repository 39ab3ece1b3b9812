/-
  The walk of the reference Alone.
-/
import Derived.Test.YtgalkidhgjgbhaaWalkWrong
import Derived.Test.YtgalkidhgjgbhaaWalkOf
import Derived.Test.YtgalkidhgjgbhaaRefOf
namespace Go.Proofs.Ytgalkidhgjgbhaa
open Go.RowKit
set_option linter.unusedVariables false

def TellsTwo (p : Nat × Nat) (w : World) (e : Ending) (w' : World) : Prop := e = .returned (.tuple #[.int .i64 (p.1 : Nat), .int .i64 (p.2 : Nat)]) ∧ Below w.heap.size w w'

set_option maxRecDepth 100000 in
set_option maxHeartbeats 8000000 in
theorem alone_ref (i : I) (hi : i.Ok) (rest : Nat) (hr : rest ≤ 100000) (w : World) : Calls Try.prog 29 #[.agg #[.int .u16 i.code, .int .u8 i.jt, .int .u8 i.jf, .int .u32 i.k], .int .i64 rest] w (TellsErr (aloneN i rest) w) := by
  obtain ⟨c, jt, jf, k⟩ := i
  obtain ⟨o1, o2, o3, o4⟩ := hi
  simp only at o1 o2 o3 o4
  have hd := kd_le ⟨c, jt, jf, k⟩
  have hof : ∀ W, Calls Try.prog 28 #[.int .u16 c] W fun e w' => e = .returned (.tuple #[.int .i64 (kd ⟨c, jt, jf, k⟩ : Nat), .bool (kx ⟨c, jt, jf, k⟩)]) ∧ Below W.heap.size W w' := fun W => refOf_any c o1 W
  unfold aloneN
  have HOF := Lib.hid hof
  clear hof
  generalize kd ⟨c, jt, jf, k⟩ = d at *
  generalize kx ⟨c, jt, jf, k⟩ = x at *
  simp only
  go_enter Try.func29, Try.ntmps29
  go_wp2_with fail
  refine (HOF.out _).mono ?_
  rintro e w1 ⟨rfl, hB1⟩
  have b1 := (Blk.new w 51 #[.int .u16 c, .int .u8 jt, .int .u8 jf, .int .u32 k]).below hB1 (by simp)
  have hB1w : Below w.heap.size w w1 := ((Below.refl _ w).alloc (Nat.le_refl _) _).trans (hB1.mono (by simp))
  have c1 := b1.cell 1
  have c2 := b1.cell 2
  have c3 := b1.cell 3
  clear b1 hB1
  clear HOF
  cases x
  · go_wp2
    all_goals
      go_ret
      refine ⟨ret_num ?_, hB1w⟩
      clear hB1w c1 c2 c3
      unfold aloneV
      simp only [beq_iff_eq, beq_eq_false_iff_ne, ne_eq, true_and] at *
      (repeat' split) <;> omega
  · go_wp2
    all_goals
      go_ret
      refine ⟨ret_num ?_, hB1w⟩
      clear hB1w c1 c2 c3
      unfold aloneV
      simp only [beq_iff_eq, beq_eq_false_iff_ne, ne_eq, Bool.true_eq_false, false_and, if_false] at *
      (repeat' split) <;> omega
end Go.Proofs.Ytgalkidhgjgbhaa
