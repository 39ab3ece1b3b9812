/-
  The walk of DataTurns.
-/
import Derived.Test.YtlpakmlpnjfcoaaLawRBack
import Derived.Test.YtlpakmlpnjfcoaaAnyTail
import Derived.Deep.MidRow
import Derived.Deep.DrawnRows
namespace Go.Proofs.Ytlpakmlpnjfcoaa
open Go.RowKit
set_option linter.unusedVariables false
attribute [local go_sem ↓] Go.wp_at_zero Go.wp_at_succ

/-- Where the fields begin, and the end. -/
def atsL : List Nat := [0, 4, 8, 16, 24, 32, 40, 48, 56, 64]
theorem turn_part (p q p' q' : List Nat) (n width a j : Nat) (hp : p.length = a) (hp' : p'.length = a) (hj : j < width) :
    (p ++ (partN n width false ++ q)).getD (a + j) 0 = (p' ++ (partN n width true ++ q')).getD (a + (width - 1 - j)) 0 := by
  simp only [List.getD_eq_getElem?_getD]
  rw [List.getElem?_append_right (l₁ := p) (by omega), List.getElem?_append_right (l₁ := p') (by omega), List.getElem?_append_left (l₁ := partN n width false) (by rw [partN_length]; omega), List.getElem?_append_left (l₁ := partN n width true) (by rw [partN_length]; omega)]
  rw [hp, hp', Nat.add_sub_cancel_left, Nat.add_sub_cancel_left]
  simp only [partN_get, if_pos hj, if_pos (show width - 1 - j < width by omega), Bool.false_eq_true, if_false, if_true, show width - 1 - (width - 1 - j) = j by omega]
theorem turns_plain (x : RecV) (hx : x.args.length = 6) (i k : Nat) (hi : i < 9) (h1 : atsL.getD i 0 ≤ k) (h2 : k < atsL.getD (i + 1) 0) :
    (recB x false).getD k 0 = (recB x true).getD (atsL.getD i 0 + atsL.getD (i + 1) 0 - 1 - k) 0 := by
  have go : ∀ (a width n : Nat), atsL.getD i 0 = a → atsL.getD (i + 1) 0 = a + width → (∃ p q, p.length = a ∧ recB x false = p ++ (partN n width false ++ q)) → (∃ p q, p.length = a ∧ recB x true = p ++ (partN n width true ++ q)) →
      (recB x false).getD k 0 = (recB x true).getD (atsL.getD i 0 + atsL.getD (i + 1) 0 - 1 - k) 0 := by
    rintro a width n e1 e2 ⟨p, q, hp, h⟩ ⟨p', q', hp', h'⟩
    rw [e1] at h1; rw [e2] at h2
    rw [e1, e2, h, h']
    have := turn_part p q p' q' n width a (k - a) hp hp' (by omega)
    rwa [show a + (k - a) = k by omega, show a + (width - 1 - (k - a)) = a + (a + width) - 1 - k by omega] at this
  have arg : ∀ m, m < 6 → i = m + 3 → (recB x false).getD k 0 = (recB x true).getD (atsL.getD i 0 + atsL.getD (i + 1) 0 - 1 - k) 0 := fun m hm e => by
    have ea : atsL.getD i 0 = 16 + 8 * m ∧ atsL.getD (i + 1) 0 = 16 + 8 * m + 8 := by
      rw [e]
      match m, hm with
      | 0, _ => decide
      | 1, _ => decide
      | 2, _ => decide
      | 3, _ => decide
      | 4, _ => decide
      | 5, _ => decide
    exact go _ 8 (x.args.getD m 0) ea.1 ea.2 (recB_arg x hx false m hm) (recB_arg x hx true m hm)
  by_cases i3 : 3 ≤ i
  · exact arg (i - 3) (by omega) (by omega)
  · have : i = 0 ∨ i = 1 ∨ i = 2 := by omega
    rcases this with e | e | e
    · exact go 0 4 x.number (by rw [e]; decide) (by rw [e]; decide) ⟨[], _, rfl, by rw [recB_parts x hx]; rfl⟩ ⟨[], _, rfl, by rw [recB_parts x hx]; rfl⟩
    · exact go 4 4 x.arch (by rw [e]; decide) (by rw [e]; decide) ⟨_, _, partN_length _ _ _, recB_parts x hx false⟩ ⟨_, _, partN_length _ _ _, recB_parts x hx true⟩
    · exact go 8 8 x.pointer (by rw [e]; decide) (by rw [e]; decide) ⟨partN x.number 4 false ++ partN x.arch 4 false, _, by rw [List.length_append, partN_length, partN_length], by rw [recB_parts x hx, List.append_assoc]⟩ ⟨partN x.number 4 true ++ partN x.arch 4 true, _, by rw [List.length_append, partN_length, partN_length], by rw [recB_parts x hx, List.append_assoc]⟩

def turnsK (B : Nat) (R : Array Value) (x : RecV) : Tmp → Kd := kdOf [(8, .eq (.agg R)), (9, .eq (.agg R)), (10, .eq (.agg (bytesV (recB x false)).toArray)), (11, .eq (.agg R)), (12, .eq (.agg R)), (13, .eq (.agg (bytesV (recB x true)).toArray)), (3, .newPtr B 71 64), (4, .newPtr B 71 64)]

/-- Two new blocks, each of 64 bytes, and the record's block as it was. -/
structure TInv (w : World) (R : Array Value) (x : RecV) (g1 g2 : Nat) (wr : World) : Prop where
  rec_ : Blk wr w.heap.size 68 R
  one : Blk wr g1 71 (bytesV (recB x false)).toArray
  two : Blk wr g2 71 (bytesV (recB x true)).toArray
  below : Below w.heap.size w wr

set_option maxRecDepth 100000 in
set_option maxHeartbeats 16000000 in
theorem dataTurns_walk (w : World) (x : RecV) (hx : x.Ok) : Calls Try.prog 16 #[x.val] w fun e w' => e = .returned (.bool true) ∧ Below w.heap.size w w' := by
  have ox := hx.args
  obtain ⟨a0, a1, a2, a3, a4, a5, ha⟩ := six x.args ox
  have hval : x.val = .agg #[.int .u32 x.number, .int .u32 x.arch, .int .u64 x.pointer, .int .u64 a0, .int .u64 a1, .int .u64 a2, .int .u64 a3, .int .u64 a4, .int .u64 a5] := by
    unfold RecV.val RecV.cells u64sV; rw [ha]; rfl
  have hof : ∀ W, Calls Try.prog 42 #[.agg #[.int .u32 x.number, .int .u32 x.arch, .int .u64 x.pointer, .int .u64 a0, .int .u64 a1, .int .u64 a2, .int .u64 a3, .int .u64 a4, .int .u64 a5]] W fun e w' => e = .returned (.agg #[.int .u32 x.number, .int .u32 x.arch, .int .u64 x.pointer, .int .u64 a0, .int .u64 a1, .int .u64 a2, .int .u64 a3, .int .u64 a4, .int .u64 a5]) ∧ Below W.heap.size W w' := fun W => by
    have := ofrec_any x ox W; rwa [hval] at this
  have hwr : ∀ b W, Calls Try.prog 41 #[.agg #[.int .u32 x.number, .int .u32 x.arch, .int .u64 x.pointer, .int .u64 a0, .int .u64 a1, .int .u64 a2, .int .u64 a3, .int .u64 a4, .int .u64 a5], .bool b] W fun e w' => e = .returned (.agg (bytesV (recB x b)).toArray) ∧ Below W.heap.size W w' := fun b W => by
    have := dwrite_any x hx b W; rwa [hval] at this
  rw [hval]
  have HOF := Lib.hid hof
  have HWR := Lib.hid hwr
  have HX := Lib.hid hx
  clear hof hwr hval ha ox hx
  have hu := Try.underlying71
  have hs1 : (bytesV (recB x false)).length = 64 := by rw [bytesV_length, recB_length x HX.out.args]
  have hs2 : (bytesV (recB x true)).length = 64 := by rw [bytesV_length, recB_length x HX.out.args]
  have ho1 := bytesV_one (recB x false)
  have ho2 := bytesV_one (recB x true)
  go_enter Try.func16, Try.ntmps16
  go_wp2_with fail
  have b0 := Blk.new w 68 #[.int .u32 x.number, .int .u32 x.arch, .int .u64 x.pointer, .int .u64 a0, .int .u64 a1, .int .u64 a2, .int .u64 a3, .int .u64 a4, .int .u64 a5]
  have hB0 : Below w.heap.size w (w.alloc (.cells #[.int .u32 x.number, .int .u32 x.arch, .int .u64 x.pointer, .int .u64 a0, .int .u64 a1, .int .u64 a2, .int .u64 a3, .int .u64 a4, .int .u64 a5] 68)) := (Below.refl _ w).alloc (Nat.le_refl _) _
  have hgt : w.heap.size < (w.alloc (.cells #[.int .u32 x.number, .int .u32 x.arch, .int .u64 x.pointer, .int .u64 a0, .int .u64 a1, .int .u64 a2, .int .u64 a3, .int .u64 a4, .int .u64 a5] 68)).heap.size := by simp
  generalize hR : (#[.int .u32 x.number, .int .u32 x.arch, .int .u64 x.pointer, .int .u64 a0, .int .u64 a1, .int .u64 a2, .int .u64 a3, .int .u64 a4, .int .u64 a5] : Array Value) = R at *
  generalize w.alloc (.cells R 68) = w0 at *
  have hload : ∀ w' : World, Blk w' w.heap.size 68 R → (loadVar 68 ⟨w.heap.size, 0, none⟩).run Try.prog w' = .ok (.agg R) w' := fun w' h => run_loadVar_row w' w.heap.size 68 68 R (0, 0) _ h Try.underlying68 rfl (by rw [← hR]; kernel_rfl)
  obtain ⟨i0, hi0, hz0⟩ : ∃ i, Try.prog.info? 71 = some i ∧ i.zero = some (.agg (Array.replicate 64 (.int .u8 0))) := by
    have h : (Try.prog.info? 71).bind (·.zero) = some (.agg (Array.replicate 64 (.int .u8 0))) := by kernel_rfl
    cases hh : Try.prog.info? 71 with
    | none => rw [hh] at h; cases h
    | some i => rw [hh] at h; exact ⟨i, rfl, h⟩
  refine Any.wp_region_tail 8 follows (turnsK w.heap.size R x) (Any.Apart 3 4) ?_ [8, 9, 10, 11, 12, 13, 3, 4] (by kernel_rfl) (by kernel_rfl) (by kernel_rfl) (by kernel_rfl) (by kernel_rfl) (by decide) ⟨?_, ?_, ?_, ?_, ?_, ?_, ?_, ?_, trivial⟩ ?_
  · exact ⟨fun g e => by simp [undef] at e, fun g e => by simp [undef] at e, fun g g' e _ => by simp [undef] at e⟩
  · refine Any.stepJ_of (Any.st_load_row 8 1 68 w.heap.size 68 R _ (.plain rfl) rfl rfl (by decide) rfl b0 Try.underlying68 rfl (by rw [← hR]; kernel_rfl) rfl) (fun a W v W' hj hg => hj.keep (by decide) (by decide) hg)
  · exact Any.stepJ_of (Any.st_callv 9 #[.agg R] (.plain rfl) rfl rfl Try.func42 (by kernel_rfl) rfl (fun a W h => by simp [h.eqv 8 (by decide) rfl]) (fun W _ => (HOF.out W).mono fun e w' h => ⟨_, h.1, rfl, h.2⟩)) (fun a W v W' hj hg => hj.keep (by decide) (by decide) hg)
  · exact Any.stepJ_of (Any.st_callv 10 #[.agg R, .bool false] (.plain rfl) rfl rfl Try.func41 (by kernel_rfl) rfl (fun a W h => by simp [h.eqv 9 (by decide) rfl]; rfl) (fun W _ => (HWR.out false W).mono fun e w' h => ⟨_, h.1, rfl, h.2⟩)) (fun a W v W' hj hg => hj.keep (by decide) (by decide) hg)
  · refine Any.stepJ_of (Any.st_load_row 11 1 68 w.heap.size 68 R _ (.plain rfl) rfl rfl (by decide) rfl b0 Try.underlying68 rfl (by rw [← hR]; kernel_rfl) rfl) (fun a W v W' hj hg => hj.keep (by decide) (by decide) hg)
  · exact Any.stepJ_of (Any.st_callv 12 #[.agg R] (.plain rfl) rfl rfl Try.func42 (by kernel_rfl) rfl (fun a W h => by simp [h.eqv 11 (by decide) rfl]) (fun W _ => (HOF.out W).mono fun e w' h => ⟨_, h.1, rfl, h.2⟩)) (fun a W v W' hj hg => hj.keep (by decide) (by decide) hg)
  · exact Any.stepJ_of (Any.st_callv 13 #[.agg R, .bool true] (.plain rfl) rfl rfl Try.func41 (by kernel_rfl) rfl (fun a W h => by simp [h.eqv 12 (by decide) rfl]; rfl) (fun W _ => (HWR.out true W).mono fun e w' h => ⟨_, h.1, rfl, h.2⟩)) (fun a W v W' hj hg => hj.keep (by decide) (by decide) hg)
  · exact Any.stj_alloc 3 rfl rfl 71 rfl i0 hi0 (.agg (Array.replicate 64 (.int .u8 0))) hz0 (fun W hg => ⟨_, _, rfl, Nat.le_of_lt (Nat.lt_of_lt_of_le hgt hg.size), by simp [Value.cells], Blk.new W _ _⟩) (fun a W hj => hj.one (by decide))
  · exact Any.stj_alloc 4 rfl rfl 71 rfl i0 hi0 (.agg (Array.replicate 64 (.int .u8 0))) hz0 (fun W hg => ⟨_, _, rfl, Nat.le_of_lt (Nat.lt_of_lt_of_le hgt hg.size), by simp [Value.cells], Blk.new W _ _⟩) (fun a W hj => hj.two (by decide))
  intro f w5 hg hf hj
  obtain ⟨g1, c1, e3, hg1, hs1', hb1⟩ := hf 3 rfl
  obtain ⟨g2, c2, e4, hg2, hs2', hb2⟩ := hf 4 rfl
  have e10 : f 10 = _ := hf 10 rfl
  have e13 : f 13 = _ := hf 13 rfl
  simp only [Any.fill, List.foldl_cons, List.foldl_nil, List.setIfInBounds_toArray, List.set_cons_succ, List.set_cons_zero, e3, e4, e10, e13, List.drop_succ_cons, List.drop_zero] at hj ⊢
  have hne : g1 ≠ g2 := hj.2.2 g1 g2 rfl rfl
  refine wpList_store_row rfl 71 (.tmp 3) (.tmp 10) rfl g1 (bytesV (recB x false)).toArray rfl rfl 71 _ hb1 (by rw [List.size_toArray, hs1]; kernel_rfl) (by simp [hs1, hs1']) (all_oneCell_toArray ho1) ?_
  refine wpList_store_row rfl 71 (.tmp 4) (.tmp 13) rfl g2 (bytesV (recB x true)).toArray rfl rfl 71 _ (blk_setRow_far hb2 (Ne.symm hne) _) (by rw [List.size_toArray, hs2]; kernel_rfl) (by simp [hs2, hs2']) (all_oneCell_toArray ho2) ?_
  simp only [wpList, Act.put]
  have hl1 : g1 < w5.heap.size := hb1.lt
  have hl2 : g2 < w5.heap.size := hb2.lt
  have key : ∀ W : World, Grows W.drew w5 → Grows w W → Below w.heap.size w w5 := fun W h2 h1 => Grows.trans (Grows.drew h1) h2
  have hB5 := below_setRow (below_setRow (key _ hg hB0) hg1 (bytesV (recB x false)).toArray) hg2 (bytesV (recB x true)).toArray
  have d1 := blk_reads (blk_setRow_far (blk_setRow hb1 (bytesV (recB x false)).toArray) hne (bytesV (recB x true)).toArray) (recB_length x HX.out.args false)
  have d2 := blk_reads (blk_setRow (blk_setRow_far hb2 (Ne.symm hne) (bytesV (recB x false)).toArray) (bytesV (recB x true)).toArray) (recB_length x HX.out.args true)
  generalize hW : (w5.setRow g1 (bytesV (recB x false)).toArray).setRow g2 (bytesV (recB x true)).toArray = W at *
  clear hb1 hb2 hj hf hg key hW hB0 b0 hload HOF HWR hi0 hz0 hR e3 e4 e10 e13 hg1 hg2 hs1' hs2' hl1 hl2 hgt
  have HX1 := Lib.hid (turns_plain x HX.out.args)
  clear HX
  go_wp2_with fail
  have hB6 : Below w.heap.size w (W.alloc (.cells #[.int .i64 0, .int .i64 4, .int .i64 8, .int .i64 16, .int .i64 24, .int .i64 32, .int .i64 40, .int .i64 48, .int .i64 56, .int .i64 64] 3)) := hB5.alloc hB5.size _
  have hA : ∀ j, j < 10 → (W.alloc (.cells #[.int .i64 0, .int .i64 4, .int .i64 8, .int .i64 16, .int .i64 24, .int .i64 32, .int .i64 40, .int .i64 48, .int .i64 56, .int .i64 64] 3)).cell? ⟨W.heap.size, j, none⟩ = some (.int .i64 ((atsL.getD j 0 : Nat) : Int)) := fun j hj => by
    rw [(Blk.new W 3 #[.int .i64 0, .int .i64 4, .int .i64 8, .int .i64 16, .int .i64 24, .int .i64 32, .int .i64 40, .int .i64 48, .int .i64 56, .int .i64 64]).cell]
    match j, hj with
    | 0, _ => rfl
    | 1, _ => rfl
    | 2, _ => rfl
    | 3, _ => rfl
    | 4, _ => rfl
    | 5, _ => rfl
    | 6, _ => rfl
    | 7, _ => rfl
    | 8, _ => rfl
    | 9, _ => rfl
  have hG := (Below.refl W.heap.size W).alloc (Nat.le_refl _) (.cells #[.int .i64 0, .int .i64 4, .int .i64 8, .int .i64 16, .int .i64 24, .int .i64 32, .int .i64 40, .int .i64 48, .int .i64 56, .int .i64 64] 3)
  obtain ⟨b1, off1, e1, _, hd1⟩ := (d1.below hG).at1 (show 0 < 64 by omega)
  obtain ⟨b2, off2, e2, _, hd2⟩ := (d2.below hG).at1 (show 0 < 64 by omega)
  cases e1
  cases e2
  generalize W.alloc (.cells #[.int .i64 0, .int .i64 4, .int .i64 8, .int .i64 16, .int .i64 24, .int .i64 32, .int .i64 40, .int .i64 48, .int .i64 56, .int .i64 64] 3) = W1 at *
  generalize W.heap.size = G at *
  clear d1 d2 hB5 hG
  have hmono : ∀ i, i < 9 → atsL.getD i 0 ≤ atsL.getD (i + 1) 0 ∧ atsL.getD (i + 1) 0 ≤ 64 := by decide
  have HA := Lib.hid hA
  have HD1 := Lib.hid hd1
  have HD2 := Lib.hid hd2
  have HM := Lib.hid hmono
  clear hA hd1 hd2 hmono
  go_loopw [6] (fun i wr => ∃ k : Nat, k ≤ 9 ∧ i = .int .i64 k ∧ ∃ z, wr = W1.drewN z) (fun i _ => 9 - (intOf i).toNat)
  case atStart => exact ⟨0, by omega, rfl, 0, rfl⟩
  case round =>
    obtain ⟨i, hi, rfl, z, rfl⟩ := hrel
    by_cases hlt : i < 9
    · have hz0 : (0 : Int) ≤ (i : Int) := Int.natCast_nonneg _
      have hz9 : (i : Int) < 9 := by omega
      have a1 := HA.out i (by omega)
      have a2 := HA.out (i + 1) (by omega)
      obtain ⟨m1, m2⟩ := HM.out i hlt
      have hp := fun k => HX1.out i k hlt
      generalize atsL.getD i 0 = p at *
      generalize atsL.getD (i + 1) 0 = q at *
      go_wp2_with fail
      go_loopw [7] (fun k wr => ∃ m : Nat, p ≤ m ∧ m ≤ q ∧ k = .int .i64 m ∧ ∃ z, wr = W1.drewN z) (fun k _ => q - (intOf k).toNat)
      case atStart => exact ⟨p, Nat.le_refl _, m1, rfl, _, rfl⟩
      case round =>
        obtain ⟨m, hm1, hm2, rfl, z2, rfl⟩ := hrel
        by_cases hlt2 : m < q
        · have hz2 : (m : Int) < (q : Int) := by omega
          have hz3 : (0 : Int) ≤ (m : Int) := Int.natCast_nonneg _
          have hz4 : (m : Int) < 64 := by omega
          have h1 := HD1.out m (by omega)
          have h2 := HD2.out (p + q - 1 - m) (by omega)
          rw [← hp m hm1 hlt2] at h2
          rw [Nat.zero_add] at h1 h2
          have hn : (p : Int) + (q : Int) - 1 - (m : Int) = ((p + q - 1 - m : Nat) : Int) := by omega
          generalize p + q - 1 - m = y at *
          generalize (recB x false).getD m 0 = v at *
          go_wp2_with fail
          go_quiet (fail)
          go_wp2_with fail
          go_roundw
          case rel => exact ⟨m + 1, by omega, by omega, by go_num, _, rfl⟩
          case measure => simp [intOf] <;> omega
        · have hz2 : ¬ (m : Int) < (q : Int) := by omega
          go_wp2_with fail
          go_roundw
          case rel => exact ⟨i + 1, by omega, by go_num, _, rfl⟩
          case measure => simp [intOf] <;> omega
    · have hz9 : ¬ (i : Int) < 9 := by omega
      go_wp2_with fail
      refine (awake05_any _).mono ?_
      rintro e w1 ⟨rfl, rfl⟩
      go_wp2_with fail
      go_ret
      exact ⟨rfl, hB6.os, hB6.tape, hB6.output, hB6.size, hB6.block⟩
end Go.Proofs.Ytlpakmlpnjfcoaa
