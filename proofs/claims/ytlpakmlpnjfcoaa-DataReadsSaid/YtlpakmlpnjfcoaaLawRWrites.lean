/-
  The walk of DataWrites.
-/
import Derived.Test.YtlpakmlpnjfcoaaLawRBack
import Derived.Test.YtlpakmlpnjfcoaaRefRecW
import Derived.Test.YtlpakmlpnjfcoaaKinds2
import Derived.Test.YtlpakmlpnjfcoaaLawWrites
namespace Go.Proofs.Ytlpakmlpnjfcoaa
open Go.RowKit
set_option linter.unusedVariables false

theorem cells_one (x : RecV) : ∀ v ∈ x.cells, v.oneCell' = true := fun v hv => by
  simp only [RecV.cells, List.mem_cons] at hv
  rcases hv with rfl | rfl | rfl | h
  · rfl
  · rfl
  · rfl
  · obtain ⟨n, _, rfl⟩ := List.mem_map.1 h; rfl

def rwritesK (x : RecV) (big : Bool) : Tmp → Kd := kdOf [(10, .row 1 64 (bytesV (recB x big))), (11, .eq (.string (strB (recB x big)))), (12, .eq (.agg x.cells.toArray)), (13, .eq (.bool big)), (14, .row 1 64 (bytesV (recB x big))), (15, .eq (.string (strB (recB x big)))), (16, .eq (.bool true)), (17, .eq (.bool true)), (18, .eq (.bool true)), (19, .eq (.bool true)), (4, .eq (.bool true))]

theorem row_of_bytes {l : List Nat} {n : Nat} {w : World} {e : Ending} {w' : World} (hn : l.length = n) (h : MakesBytes l w e w') : ∃ v, e = .returned v ∧ IsRow 1 n (bytesV l) v w' ∧ Grows w w' := by
  obtain ⟨v, he, hown, hB⟩ := h
  obtain ⟨A, c, rfl, hr⟩ := own_reads hown
  rw [hn] at hr
  exact ⟨_, he, ⟨A, c, by rw [hn], hr⟩, hB⟩

set_option maxRecDepth 100000 in
set_option maxHeartbeats 1000000 in
theorem dataWrites_walk (w : World) (x : RecV) (hx : x.Ok) (big : Bool) : Calls Try.prog 14 #[x.val, .bool big] w fun e w' => e = .returned (.bool true) ∧ Below w.heap.size w w' := by
  have ox := hx.args
  have hsx : (x.cells.toArray).size = 9 := by simp [RecV.cells, u64sV, ox]
  have hsz : (bytesV (recB x big)).toArray.size = 64 := by simp [bytesV_length, recB_length x ox big]
  have hone : (bytesV (recB x big)).toArray.all (·.oneCell') = true := all_oneCell_toArray (bytesV_one _)
  have hlen := recB_length x ox big
  unfold RecV.val
  have HX := Lib.hid hx
  have OX := Lib.hid ox
  have SX := Lib.hid hsx
  have HS := Lib.hid hsz
  have HO := Lib.hid hone
  have HL := Lib.hid hlen
  clear hx ox hsx hsz hone hlen
  go_enter Try.func14, Try.ntmps14
  go_wp2_with (refine wpList_load_row rfl 68 (.tmp 2) rfl w.heap.size rfl 68 x.cells.toArray (0, 0) _ (heap_alloc_new w _) Try.underlying68 rfl (by rw [SX.out]; kernel_rfl) ?_)
  refine (ofrec_any x OX.out _).mono ?_
  rintro e w1 ⟨rfl, hB1⟩
  have b1 := (Blk.new w 68 x.cells.toArray).below hB1 (by simp)
  have hB1w : Below w.heap.size w w1 := ((Below.refl _ w).alloc (Nat.le_refl _) _).trans (hB1.mono (by simp))
  clear hB1
  go_wp2_with fail
  refine (dwrite_any x HX.out big _).mono ?_
  rintro e w2 ⟨rfl, hB2⟩
  have b2 := b1.below hB2 b1.lt
  have hB2w := hB1w.trans (hB2.mono hB1w.size)
  have hlt2 : w.heap.size < w2.heap.size := b2.lt
  clear hB2 b1
  go_wp2_with (refine wpList_store_row rfl 71 (.tmp 5) (.tmp 9) rfl w2.heap.size (bytesV (recB x big)).toArray rfl rfl 71 _ (heap_alloc_new w2 _) (by rw [HS.out]; kernel_rfl) (by rw [HS.out]; rfl) HO.out ?_)
  simp only [Act.put]
  refine Any.wp_region_kinds follows (rwritesK x big) [10, 11, 12, 13, 14, 15, 16, 17, 18, 19, 4] (by kernel_rfl) (by kernel_rfl) (by kernel_rfl) ⟨?_, ?_, ?_, ?_, ?_, ?_, ?_, ?_, ?_, ?_, ?_, trivial⟩ ?_
  · exact Any.st_old1 10 5 (.slice (some ⟨w2.heap.size, 0, none⟩) 64 64) (.pointer (some ⟨w2.heap.size, 0, none⟩)) (.plain rfl) rfl (by decide) rfl (fun a W h => by unfold execOp; simp only [h]; simp [go_sem]) (fun W hg => ⟨_, _, rfl, Grows.reads (Grows.trans (Grows.drew (Grows.refl _)) hg) (blk_reads (blk_setRow (Blk.new w2 _ _) _) HL.out)⟩)
  · exact Any.st_string 11 10 _ _ _ _ _ (.plain rfl) rfl rfl (by decide) Try.underlying31 Try.underlying5 Try.underlying9 rfl rfl
  · exact Any.st_load_row 12 2 68 w.heap.size 68 x.cells.toArray _ (.plain rfl) rfl rfl (by decide) rfl (blk_setRow_far (b2.alloc _) (by omega) _) Try.underlying68 rfl (by rw [SX.out]; kernel_rfl) rfl
  · exact Any.st_was 13 1 (.plain rfl) (.inl rfl) rfl (by decide) rfl
  · exact Any.st_callv 14 #[.agg x.cells.toArray, .bool big] (.plain rfl) rfl rfl Try.func40 (by kernel_rfl) rfl (fun a W h => by simp [h.eqv 12 (by decide) rfl, h.eqv 13 (by decide) rfl]) (fun W _ => (refrec_any x HX.out big W).mono fun e w' h => row_of_bytes HL.out h)
  · exact Any.st_string 15 14 _ _ _ _ _ (.plain rfl) rfl rfl (by decide) Try.underlying31 Try.underlying5 Try.underlying9 rfl rfl
  · exact Any.st_bin 16 11 15 _ _ _ _ _ _ (.plain rfl) rfl rfl (by decide) (by decide) rfl rfl (fun w => by simp [go_sem]) (fun w => by simp [go_sem]) rfl
  · exact Any.st_copy 17 16 (.plain rfl) (.inl rfl) rfl (by decide) rfl
  · exact Any.st_call0 18 _ (.known 17 rfl rfl (by decide) rfl) rfl rfl Try.func39 (by kernel_rfl) rfl rfl (fun W => (awake05_any W).mono fun e w' h => ⟨h.1, by rw [h.2]; exact Below.refl _ _⟩)
  · exact Any.st_and 19 17 18 _ (.plain rfl) rfl rfl (by decide) (by decide) rfl rfl rfl
  · exact Any.st_copy 4 19 (.plain rfl) (.inr rfl) rfl (by decide) rfl
  intro f w5 hg hf
  have h4 : f 4 = .bool true := hf 4 rfl
  have key : ∀ W : World, Grows W.drew w5 → Grows w W → Below w.heap.size w w5 := fun W h2 h1 => Grows.trans (Grows.drew h1) h2
  have hB5 := key _ hg (below_setRow (hB2w.alloc hB2w.size _) (by omega) _)
  simp only [Any.fill, List.foldl_cons, List.foldl_nil, List.setIfInBounds_toArray, List.set_cons_succ, List.set_cons_zero, h4]
  clear hf hg h4 key
  go_wp2_with fail
  go_ret
  exact ⟨rfl, hB5⟩
end Go.Proofs.Ytlpakmlpnjfcoaa
