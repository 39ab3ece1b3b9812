/-
  The walk of strainerref05.Write: the document's bytes of a record.
-/
import Derived.Test.YtlpakmlpnjfcoaaEq05
import Derived.Test.YtlpakmlpnjfcoaaKinds
namespace Go.Proofs.Ytlpakmlpnjfcoaa
open Go.RowKit
set_option linter.unusedVariables false

set_option maxRecDepth 100000 in
set_option maxHeartbeats 4000000 in
theorem refrec_any (x : RecV) (hx : x.Ok) (big : Bool) (w : World) : Calls Try.prog 40 #[x.val, .bool big] w (MakesBytes (recB x big) w) := by
  obtain ⟨i0, hi0, hz0, hz1, hz2⟩ := info_parts info_u8
  obtain ⟨o1, o2, o3, o4, o5⟩ := hx
  have hp4 : ∀ n, (bytesV (partN n 4 big)).length = 4 := fun n => by rw [bytesV_length, partN_length]
  obtain ⟨a0, a1, a2, a3, a4, a5, ha⟩ := six x.args o4
  have hval : x.val = .agg #[.int .u32 x.number, .int .u32 x.arch, .int .u64 x.pointer, .int .u64 a0, .int .u64 a1, .int .u64 a2, .int .u64 a3, .int .u64 a4, .int .u64 a5] := by
    unfold RecV.val RecV.cells u64sV; rw [ha]; rfl
  have hcells : ∀ k, k < 6 → (#[.int .u32 x.number, .int .u32 x.arch, .int .u64 x.pointer, .int .u64 a0, .int .u64 a1, .int .u64 a2, .int .u64 a3, .int .u64 a4, .int .u64 a5] : Array Value)[3 + k]? = some (.int .u64 (x.args.getD k 0 : Nat)) := fun k hk => by
    rw [ha]
    match k, hk with
    | 0, _ => rfl
    | 1, _ => rfl
    | 2, _ => rfl
    | 3, _ => rfl
    | 4, _ => rfl
    | 5, _ => rfl
  have hlt : ∀ k, k < 6 → x.args.getD k 0 < 18446744073709551616 := fun k hk => o5 _ (by
    have : x.args.getD k 0 = x.args[k]'(by omega) := by simp [show k < x.args.length by omega]
    rw [this]; exact List.getElem_mem _)
  rw [hval]
  have HA := Lib.hid ha
  have HC := Lib.hid hcells
  have H5 := Lib.hid hlt
  have H6 := Lib.hid o4
  have HP := Lib.hid hp4
  clear ha hval o5 hcells hlt o4 hp4
  go_enter Try.func40, Try.ntmps40
  go_wp2_with fail
  have b0 := Blk.new w 68 #[.int .u32 x.number, .int .u32 x.arch, .int .u64 x.pointer, .int .u64 a0, .int .u64 a1, .int .u64 a2, .int .u64 a3, .int .u64 a4, .int .u64 a5]
  have hB0 : Below w.heap.size w (w.alloc (.cells #[.int .u32 x.number, .int .u32 x.arch, .int .u64 x.pointer, .int .u64 a0, .int .u64 a1, .int .u64 a2, .int .u64 a3, .int .u64 a4, .int .u64 a5] 68)) := (Below.refl _ w).alloc (Nat.le_refl _) _
  generalize w.alloc (.cells #[.int .u32 x.number, .int .u32 x.arch, .int .u64 x.pointer, .int .u64 a0, .int .u64 a1, .int .u64 a2, .int .u64 a3, .int .u64 a4, .int .u64 a5] 68) = w0 at *
  have c0 := b0.cell 0
  have c1 := b0.cell 1
  have c2 := b0.cell 2
  have hl0 := b0.lt
  have hw1 : IntKind.u64.wrap (x.number : Int) = (x.number : Int) := by simp [IntKind.wrap, IntKind.bits, IntKind.signed]; omega
  have hw2 : IntKind.u64.wrap (x.arch : Int) = (x.arch : Int) := by simp [IntKind.wrap, IntKind.bits, IntKind.signed]; omega
  have r4 : ∀ N : Nat, N < 18446744073709551616 → ∀ W, Calls Try.prog 54 #[.int .u64 N, .int .i64 4, .bool big] W (MakesBytes (partN N 4 big) W) := fun N h W => refword_any N h 4 (by omega) big W
  have R4 := Lib.hid r4
  clear r4
  go_region_held3 (fun w' => w'.cell? ⟨w.heap.size, 0, none⟩ = some (.int .u32 x.number) ∧ w'.cell? ⟨w.heap.size, 1, none⟩ = some (.int .u32 x.arch))
    (first
      | go_keep
      | (go_split_ands
         refine ⟨?_, ?_⟩ <;> exact cell_of_below (p := ⟨w.heap.size, _, none⟩) hB1 hl0 (by assumption))
      | (go_split_ands
         refine ⟨?_, ?_⟩ <;> exact cell_of_below (p := ⟨w.heap.size, _, none⟩) hB2 (Nat.lt_of_lt_of_le hl0 hB1.size) (by assumption))
      | (go_split_ands
         refine ⟨?_, ?_⟩ <;> exact (hg3.cell_far _ (Nat.lt_of_lt_of_le hl0 (Nat.le_trans hB1.size hB2.size)) (fun e => by have := (own1'.lt _ e.symm).1; have h9 : w0.heap.size ≤ w.heap.size := this; omega)).trans (by assumption)))
    (first
      | (have hguard := hB1
         go_at_call 54
         with_reducible refine (R4.out x.arch (by omega) _).mono ?_
         rintro e w2 ⟨v2, rfl, own2, hB2⟩
         rw [partN_length] at own2
         obtain ⟨A2, d2, rfl, hr2⟩ := own_reads own2
         have own1' := own_grows hB2 own1)
      | (fail_if_success (have hguard := hB1)
         go_at_call 54
         with_reducible refine (R4.out x.number (by omega) _).mono ?_
         rintro e w1 ⟨v1, rfl, own1, hB1⟩
         rw [partN_length] at own1)
      | (refine step_append_any _ (by rfl) (.tmp 11) (.tmp 16) 31 (by rfl) w0.heap.size 5 i0 _ 1 1 Try.underlying31 hi0 hz0 hz1 hz2 rfl (by omega) v1 4 _ (by rfl) own1' _ A2 4 d2 _ (by rfl) hr2 (bytesV_one _) (by simp only [maxLen]; omega) (by omega) (Nat.le_trans hB1.size hB2.size) ?_
         intro v3 w3 own3 hg3 hat3))
  have hB12 : Below w0.heap.size w0 w2 := (below_undrew hB1).trans (hB2.mono hB1.size)
  have hB3 : Below w0.heap.size w0 w3 := hB12.grown hg3 hB12.size (fun k hk => (own1'.lt k hk).1)
  have b3 := b0.below hB3 hl0
  rw [← bytesV_append] at own3
  have hB3w := hB0.trans (hB3.mono hB0.size)
  have own3w := own_mono own3 hB0.size
  have hs3 : w.heap.size < w3.heap.size := b3.lt
  clear hg3 hat3 own1' own2 hr2 own1 hB1 hguard hB2 hB12 hB3 own3 c0 c1 c2 b0 hl0 hw1 hw2
  have c2 := b3.cell 2
  go_wp2_with fail
  refine (refword_any x.pointer (by omega) 8 (by omega) big _).mono ?_
  rintro e w4 ⟨v4, rfl, own4, hB4⟩
  rw [partN_length] at own4
  obtain ⟨A4, d4, rfl, hr4⟩ := own_reads own4
  have own3' := own_grows hB4 own3w
  have b4 := b3.below hB4 b3.lt
  have hB4w := hB3w.trans (hB4.mono hB3w.size)
  clear own3w own4 hB4 b3 hB3w c2
  go_wp2_with (at_builtin; refine wpList_append_any _ rfl (.tmp 18) (.tmp 22) 31 rfl w.heap.size 5 i0 _ 1 1 Try.underlying31 hi0 hz0 hz1 hz2 rfl (by omega) v3 8 _ rfl own3' _ A4 8 d4 _ rfl hr4 (bytesV_one _) (by simp only [maxLen]; omega) (by omega) hB4w.size ?_; intro v5 w5 own5 hg5 hat5)
  have hB5w := hB4w.grown hg5 hB4w.size (fun k hk => (own3'.lt k hk).1)
  have b5 := b4.grown hg5 (own_blk_ne own3' b4 (by decide)).symm
  have hp0 : partN x.number 4 big ++ partN x.arch 4 big ++ partN x.pointer 8 big = recPre x big 0 := by unfold recPre argsB; simp
  rw [← bytesV_append, hp0] at own5
  have hz8 : 8 + 8 = 16 := rfl
  clear hg5 hat5 own3' b4 hB4w hr4 hp0 hz8
  generalize hR : (#[.int .u32 x.number, .int .u32 x.arch, .int .u64 x.pointer, .int .u64 a0, .int .u64 a1, .int .u64 a2, .int .u64 a3, .int .u64 a4, .int .u64 a5] : Array Value) = R at b5 HC
  have HR := Lib.hid hR
  clear hR
  go_loopw [5, 6] (fun v i wr => ∃ k : Nat, k ≤ 6 ∧ i = .int .i64 k ∧ wr.ownsRow w.heap.size 5 1 v (16 + 8 * k) (bytesV (recPre x big k)) ∧ Blk wr w.heap.size 68 R ∧ Below w.heap.size w wr) (fun _ i _ => 6 - (intOf i).toNat)
  case atStart => exact ⟨0, by omega, rfl, own5, b5, hB5w⟩
  case round =>
    obtain ⟨k, hk, rfl, hown, hb, hB⟩ := hrel
    by_cases hlt : k < 6
    · have hc : wr.cell? ⟨w.heap.size, 3 + k, none⟩ = some (.int .u64 (x.args.getD k 0 : Nat)) := (hb.cell (3 + k)).trans (HC.out k hlt)
      have hn := H5.out k hlt
      have hstep := recPre_succ x H6.out big k hlt
      generalize x.args.getD k 0 = n at *
      have HS := Lib.hid hstep
      have z0 : (0 : Int) ≤ (k : Int) := by omega
      have z1 : (k : Int) < 6 := by omega
      clear hstep own5 b5 hB5w
      go_wp2_with fail
      refine (refword_any n hn 8 (by omega) big _).mono ?_
      rintro e w6 ⟨v6, rfl, own6, hB6⟩
      rw [partN_length] at own6
      obtain ⟨A6, d6, rfl, hr6⟩ := own_reads own6
      have hown' := own_grows hB6 hown
      have hb6 := hb.below hB6 hb.lt
      have hB6w := hB.trans (hB6.mono hB.size)
      clear hown own6 hB6 hb hB hc
      go_wp2_with (at_builtin; refine wpList_append_any _ rfl (.tmp 28) (.tmp 34) 31 rfl w.heap.size 5 i0 _ 1 1 Try.underlying31 hi0 hz0 hz1 hz2 rfl (by omega) _ (16 + 8 * k) _ rfl hown' _ A6 8 d6 _ rfl hr6 (bytesV_one _) (by simp only [maxLen]; omega) (by omega) hB6w.size ?_; intro v7 w7 own7 hg7 hat7)
      have hB7w := hB6w.grown hg7 hB6w.size (fun k hk => (hown'.lt k hk).1)
      have hb7 := hb6.grown hg7 (own_blk_ne hown' hb6 (by decide)).symm
      rw [← bytesV_append, ← HS.out] at own7
      go_roundw
      case rel => exact ⟨k + 1, by omega, by go_num, by rw [show 16 + 8 * (k + 1) = 16 + 8 * k + 8 by omega]; exact own7, hb7, hB7w⟩
      case measure => simp [intOf] <;> omega
    · obtain rfl : k = 6 := by omega
      have hlen := recB_length x H6.out big
      have HL := Lib.hid hlen
      clear hlen own5 b5 hB5w
      go_wp2_with fail
      go_ret
      exact ⟨_, rfl, by rw [HL.out]; exact hown, hB⟩
end Go.Proofs.Ytlpakmlpnjfcoaa
