/-
  The walk of DataBack.
-/
import Derived.Test.YtlpakmlpnjfcoaaLawApart
import Derived.Test.YtlpakmlpnjfcoaaRec05b
namespace Go.Proofs.Ytlpakmlpnjfcoaa
open Go.RowKit
set_option linter.unusedVariables false

theorem blk_setRow {w : World} {g : Nat} {t : TypeId} {cs : Array Value} (h : Blk w g t cs) (Z : Array Value) : Blk (w.setRow g Z) g t Z := setRow_heap w g _ Z _ _ h
theorem blk_setRow_far {w : World} {g g2 : Nat} {t : TypeId} {cs : Array Value} (h : Blk w g t cs) (hne : g ≠ g2) (Z : Array Value) : Blk (w.setRow g2 Z) g t cs := (setRow_other w g2 g _ hne).trans h

set_option maxRecDepth 100000 in
set_option maxHeartbeats 2000000 in
theorem dataBack_walk (w : World) (x : RecV) (hx : x.Ok) (big : Bool) : Calls Try.prog 21 #[x.val, .bool big] w fun e w' => e = .returned (.bool true) ∧ Below w.heap.size w w' := by
  have hback : recN (recB x big) big = x := by unfold recN; rw [if_pos (recB_length x hx.args big), recR_recB x hx big]
  have herr : errR (recB x big).length = 0 := by rw [recB_length x hx.args big]; decide
  have hself : recEq x x = true := recEq_self x
  have q2 := fun W => run_eql_recD x x hx hx W
  rw [hself] at q2
  have ox := hx.args
  have hsx : (x.cells.toArray).size = 9 := by simp [RecV.cells, u64sV, ox]
  have hsz : (bytesV (recB x big)).toArray.size = 64 := by simp [bytesV_length, recB_length x ox big]
  have hone : (bytesV (recB x big)).toArray.all (·.oneCell') = true := all_oneCell_toArray (bytesV_one _)
  have hone2 : x.cells.toArray.all (·.oneCell') = true := all_oneCell_toArray (fun v hv => by
    simp only [RecV.cells, List.mem_cons] at hv
    rcases hv with rfl | rfl | rfl | h
    · rfl
    · rfl
    · rfl
    · obtain ⟨n, _, rfl⟩ := List.mem_map.1 h; rfl)
  have hlen := recB_length x ox big
  have hlt := recB_lt x big
  unfold RecV.val at q2 ⊢
  have HX := Lib.hid hx
  have OX := Lib.hid ox
  have SX := Lib.hid hsx
  have HB := Lib.hid hback
  have HE := Lib.hid herr
  have HS := Lib.hid hsz
  have HO := Lib.hid hone
  have HO2 := Lib.hid hone2
  have HL := Lib.hid hlen
  have HT := Lib.hid hlt
  clear hx ox hsx hback herr hself hsz hone hone2 hlen hlt
  go_enter Try.func21, Try.ntmps21
  go_wp2_with (refine wpList_load_row rfl 68 (.tmp 2) rfl w.heap.size rfl 68 x.cells.toArray (0, 0) _ (heap_alloc_new w _) Try.underlying68 rfl (by rw [SX.out]; kernel_rfl) ?_)
  refine (ofrec_any x OX.out _).mono ?_
  rintro e w1 ⟨rfl, hB1⟩
  have b1 := (Blk.new w 68 x.cells.toArray).below hB1 (by simp)
  have hB1w : Below w.heap.size w w1 := ((Below.refl _ w).alloc (Nat.le_refl _) _).trans (hB1.mono (by simp))
  clear hB1
  go_wp2_with fail
  refine (dwrite_any x HX.out big _).mono ?_
  rintro e w2 ⟨rfl, hB2⟩
  have b2 := b1.below hB2 b1.lt
  have hB2w := hB1w.trans (hB2.mono hB1w.size)
  clear hB2 b1
  go_wp2_with (refine wpList_store_row rfl 71 (.tmp 5) (.tmp 11) rfl w2.heap.size (bytesV (recB x big)).toArray rfl rfl 71 _ (heap_alloc_new w2 _) (by rw [HS.out]; kernel_rfl) (by rw [HS.out]; rfl) HO.out ?_)
  refine (dread_any (recB x big) HT.out _ 64 64 big _ ?hr (by omega)).mono ?_
  case hr =>
    refine blk_reads (blk_setRow (Blk.new w2 _ _) _) HL.out
  rintro e w3 ⟨rfl, hB3⟩
  rw [HB.out, HE.out]
  have hlt2 : w.heap.size < w2.heap.size := b2.lt
  have b3 := (blk_setRow_far (b2.alloc _) (by omega) _).below hB3 (by simp [World.setRow]; omega)
  have hB3w : Below w.heap.size w w3 := (below_setRow (hB2w.alloc hB2w.size _) (by omega) _).trans (hB3.mono (by have := hB2w.size; simp [World.setRow]; omega))
  clear hB3 hB2w b2
  go_wp2_with (refine wpList_store_row rfl 65 (.tmp 6) (.tmp 16) rfl w3.heap.size x.cells.toArray rfl rfl 65 _ (heap_alloc_new w3 _) (by rw [SX.out]; kernel_rfl) (by rw [SX.out]; rfl) HO2.out ?_)
  have hlt3 : w.heap.size < w3.heap.size := b3.lt
  refine wp_region_grow (by kernel_rfl) (by kernel_rfl) ?_
  repeat (first
    | go_big_quiet_skip
    | (go_big_quiet_want
       first
         | (refine quiet_load_row 65 (.tmp 6) rfl w3.heap.size rfl _ _ _ _ (as_row (blk_setRow (Blk.new w3 _ _) _)) Try.underlying65 rfl (by rw [SX.out]; kernel_rfl) ?_; simp only [Act.put, List.setIfInBounds_toArray, List.set_cons_succ, List.set_cons_zero]; go_big_quiet_on)
         | (refine quiet_load_row 68 (.tmp 2) rfl w.heap.size rfl _ _ _ _ (as_row (blk_setRow_far (b3.alloc _) (by omega) _)) Try.underlying68 rfl (by rw [SX.out]; kernel_rfl) ?_; simp only [Act.put, List.setIfInBounds_toArray, List.set_cons_succ, List.set_cons_zero]; go_big_quiet_on)
         | (go_big_quiet_op
            first
              | go_big_quiet_on
              | go_big_quiet_call (first
                  | (go_at_call 42; exact calls_grow (ofrec_any _ OX.out _))
                  | (go_at_call 39; exact calls_grow_same (awake05_any _))))))
  refine wpQuiet_nil ?_
  intro w5 hg5
  have hB5 := (below_setRow (hB3w.alloc hB3w.size _) (by omega) _).trans (Below.mono hg5 (by have := hB3w.size; simp [World.setRow]; omega))
  go_wp2_with fail
  go_ret
  exact ⟨rfl, hB5⟩
end Go.Proofs.Ytlpakmlpnjfcoaa
