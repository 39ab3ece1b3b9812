/-
  The walks of strainerlaw05.of and of DataApart.
-/
import Derived.Test.YtlpakmlpnjfcoaaEq05
namespace Go.Proofs.Ytlpakmlpnjfcoaa
open Go.RowKit
set_option linter.unusedVariables false

set_option maxRecDepth 100000 in
theorem ofrec_any (x : RecV) (hx : x.args.length = 6) (w : World) : Calls Try.prog 42 #[x.val] w fun e w' => e = .returned x.val ∧ Below w.heap.size w w' := by
  obtain ⟨a0, a1, a2, a3, a4, a5, ha⟩ := six x.args hx
  have hval : x.val = .agg #[.int .u32 x.number, .int .u32 x.arch, .int .u64 x.pointer, .int .u64 a0, .int .u64 a1, .int .u64 a2, .int .u64 a3, .int .u64 a4, .int .u64 a5] := by
    unfold RecV.val RecV.cells u64sV; rw [ha]; rfl
  rw [hval]
  clear ha hval hx
  go_enter Try.func42, Try.ntmps42
  go_wp2_with fail
  exact bodyPost_ret (v := .agg #[.int .u32 x.number, .int .u32 x.arch, .int .u64 x.pointer, .int .u64 a0, .int .u64 a1, .int .u64 a2, .int .u64 a3, .int .u64 a4, .int .u64 a5]) (by simp [results, Try.results42, go_sem]) rfl ⟨rfl, ((Below.refl _ w).alloc (Nat.le_refl _) _).alloc (by simp) _⟩

theorem decide_eq_self (a b : Bool) (h : a = b) : (a == b) = true := by subst h; simp

set_option maxRecDepth 100000 in
set_option maxHeartbeats 2000000 in
theorem dataApart_walk (w : World) (x : RecV) (hx : x.Ok) (y : RecV) (hy : y.Ok) (big : Bool) : Calls Try.prog 15 #[x.val, y.val, .bool big] w fun e w' => e = .returned (.bool true) ∧ Below w.heap.size w w' := by
  have hplain : decide (recB x big = recB y big) = recEq x y := by
    rw [Bool.eq_iff_iff, recEq_iff, decide_eq_true_eq]
    exact ⟨recB_inj hx hy, fun h => by rw [h]⟩
  have q1 := fun W => run_eql_64 (recB x big) (recB y big) (recB_length x hx.args big) (recB_length y hy.args big) W
  have q2 := fun W => run_eql_recR x y hx hy W
  rw [hplain] at q1
  have ox := hx.args
  have oy := hy.args
  have q3 : (recEq x y == recEq x y) = true := decide_eq_self _ _ rfl
  unfold RecV.val at q2 ⊢
  have hsx : (x.cells.toArray).size = 9 := by simp [RecV.cells, u64sV, ox]
  have hsy : (y.cells.toArray).size = 9 := by simp [RecV.cells, u64sV, oy]
  have HX := Lib.hid hx
  have HY := Lib.hid hy
  have OX := Lib.hid ox
  have OY := Lib.hid oy
  have SX := Lib.hid hsx
  have SY := Lib.hid hsy
  clear hplain hx hy ox oy hsx hsy
  go_enter Try.func15, Try.ntmps15
  go_wp2_with fail
  have b1 := (Blk.new w 68 x.cells.toArray).alloc (.cells y.cells.toArray 68)
  have b2 : Blk ((w.alloc (.cells x.cells.toArray 68)).alloc (.cells y.cells.toArray 68)) (w.heap.size + 1) 68 y.cells.toArray := by
    have := Blk.new (w.alloc (.cells x.cells.toArray 68)) 68 y.cells.toArray
    rwa [World.size_alloc] at this
  have hB0 : Below w.heap.size w ((w.alloc (.cells x.cells.toArray 68)).alloc (.cells y.cells.toArray 68)) := ((Below.refl _ w).alloc (Nat.le_refl _) _).alloc (by simp) _
  generalize ((w.alloc (.cells x.cells.toArray 68)).alloc (.cells y.cells.toArray 68)) = W0 at *
  refine wp_region_grow (by kernel_rfl) (by kernel_rfl) ?_
  repeat (first
    | go_big_quiet_skip
    | (go_big_quiet_want
       first
         | (refine quiet_load_row 68 (.tmp 3) rfl w.heap.size rfl _ _ _ _ (as_row b1) Try.underlying68 rfl (by rw [SX.out]; kernel_rfl) ?_; simp only [Act.put, List.setIfInBounds_toArray, List.set_cons_succ, List.set_cons_zero]; go_big_quiet_on)
         | (refine quiet_load_row 68 (.tmp 4) rfl (w.heap.size + 1) rfl _ _ _ _ (as_row b2) Try.underlying68 rfl (by rw [SY.out]; kernel_rfl) ?_; simp only [Act.put, List.setIfInBounds_toArray, List.set_cons_succ, List.set_cons_zero]; go_big_quiet_on)
         | (go_big_quiet_op
            first
              | go_big_quiet_on
              | go_big_quiet_call (first
                  | (go_at_call 42; exact calls_grow (ofrec_any _ (by first | exact OX.out | exact OY.out) _))
                  | (go_at_call 41; exact calls_grow (dwrite_any _ (by first | exact HX.out | exact HY.out) big _))
                  | (go_at_call 39; exact calls_grow_same (awake05_any _))))))
  refine wpQuiet_nil ?_
  intro w2 hg2
  have hB2 := hB0.trans (Below.mono hg2 hB0.size)
  go_wp2_with fail
  go_ret
  exact ⟨rfl, hB2⟩
end Go.Proofs.Ytlpakmlpnjfcoaa
