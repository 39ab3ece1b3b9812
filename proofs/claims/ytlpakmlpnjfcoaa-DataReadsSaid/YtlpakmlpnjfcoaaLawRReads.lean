/-
  The walk of DataReads.
-/
import Derived.Test.YtlpakmlpnjfcoaaLawRWrites
namespace Go.Proofs.Ytlpakmlpnjfcoaa
open Go.RowKit
set_option linter.unusedVariables false

def rzero : RecV := ⟨0, 0, 0, [0, 0, 0, 0, 0, 0]⟩
theorem rzero_ok : rzero.Ok := ⟨by decide, by decide, by decide, rfl, by decide⟩

set_option maxRecDepth 100000 in
theorem dataReads_many (w : World) (A : Option Addr) (n c : Nat) (big : Bool) (hn : 200 < n) :
    Calls Try.prog 13 #[.slice A n c, .bool big] w fun e w' => e = .returned (.bool true) ∧ Below w.heap.size w w' := by
  have hn' : (200 : Int) < (n : Int) := by omega
  go_enter Try.func13, Try.ntmps13
  go_wp2_with fail
  go_ret
  exact ⟨rfl, Below.refl _ _⟩

set_option maxRecDepth 100000 in
set_option maxHeartbeats 2000000 in
theorem dataReads_other (w : World) (l : List Nat) (hok : ∀ b ∈ l, b < 256) (A : Option Addr) (n c : Nat) (hr : Reads w w.heap.size 1 A n (bytesV l)) (big : Bool) (hn : n ≤ 200) (hne : n ≠ 64) :
    Calls Try.prog 13 #[.slice A n c, .bool big] w fun e w' => e = .returned (.bool true) ∧ Below w.heap.size w w' := by
  obtain ⟨i0, hi0, hz0, hz1, hz2⟩ := info_parts info_u8
  have hn' : ¬ (200 : Int) < (n : Int) := by omega
  have hl : n = l.length := by have := hr.1; rw [bytesV_length] at this; omega
  have e1 : recN l big = rzero := if_neg (by omega)
  have q2 := fun W => run_eql_recD rzero rzero rzero_ok rzero_ok W
  rw [recEq_self] at q2
  have q3 : ∀ W, (binOp .eql 65 (.agg #[.int .u32 0, .int .u32 0, .int .u64 0, .int .u64 0, .int .u64 0, .int .u64 0, .int .u64 0, .int .u64 0, .int .u64 0]) (.agg #[.int .u32 0, .int .u32 0, .int .u64 0, .int .u64 0, .int .u64 0, .int .u64 0, .int .u64 0, .int .u64 0, .int .u64 0])).run Try.prog W = .ok (.bool true) W := q2
  have e3 : (RecV.cells rzero).toArray = #[.int .u32 0, .int .u32 0, .int .u64 0, .int .u64 0, .int .u64 0, .int .u64 0, .int .u64 0, .int .u64 0, .int .u64 0] := rfl
  have e2 : errR n = 2 ∧ n < 64 ∨ errR n = 3 ∧ 64 < n := by
    unfold errR
    by_cases h : n < 64
    · rw [if_pos h]; exact .inl ⟨rfl, h⟩
    · rw [if_neg h, if_pos (by omega)]; exact .inr ⟨rfl, by omega⟩
  have HL := Lib.hid hl
  have E1 := Lib.hid e1
  have E3 := Lib.hid e3
  clear hl e1 q2 e3
  rcases e2 with ⟨e2, hlt⟩ | ⟨e2, hlt⟩
  all_goals
    have E2 := Lib.hid e2
    clear e2
    go_enter Try.func13, Try.ntmps13
    go_wp2_with (at_builtin; refine wpList_append_any _ rfl (.tmp 12) (.tmp 13) 31 rfl w.heap.size 5 i0 _ 1 1 Try.underlying31 hi0 hz0 hz1 hz2 rfl (by omega) _ 0 [] rfl (own_empty w 5) w.heap.size A n c (bytesV l) rfl (hr.alloc (Nat.le_refl _) _) (bytesV_one l) (by simp only [maxLen]; omega) (by omega) (by simp) ?_; intro v1 w1 own1 hg1 hat1)
    have hB1 : Below w.heap.size w w1 := ((Below.refl _ w).alloc (Nat.le_refl _) _).grown hg1 (by simp) (fun k e => by cases e; exact Nat.le_refl _)
    rw [List.nil_append, Nat.zero_add] at own1
    obtain ⟨A1, c1, rfl, hr1⟩ := own_reads own1
    clear hg1 hat1 own1
    go_wp2_with fail
    refine (dread_any l hok A1 n c1 big _ hr1 (by omega)).mono ?_
    rintro e w2 ⟨rfl, hB2⟩
    rw [E1.out, E3.out, ← HL.out, E2.out]
    have hB2w := hB1.trans (hB2.mono hB1.size)
    go_wp2_with fail
    refine (awake05_any _).mono ?_
    rintro e w3 ⟨rfl, rfl⟩
    go_wp2_with fail
    go_ret
    exact ⟨rfl, hB2w.alloc hB2w.size _⟩

def rreadsK (x : RecV) (big : Bool) (l : List Nat) (A : Option Addr) (c : Nat) : Tmp → Kd := kdOf [(56, .eq (.int .i64 0)), (57, .eq (.bool true)), (58, .eq (.bool true)), (59, .eq (.agg x.cells.toArray)), (60, .eq (.bool big)), (61, .row 1 64 (bytesV l)), (62, .eq (.string (strB l))), (63, .row 1 64 (bytesV l)), (64, .eq (.string (strB l))), (65, .eq (.bool true)), (66, .eq (.bool true)), (67, .eq (.bool true)), (68, .eq (.bool true)), (69, .eq (.bool true)), (4, .eq (.bool true))]

set_option maxRecDepth 100000 in
set_option maxHeartbeats 2000000 in
theorem dataReads_64 (w : World) (l : List Nat) (hok : ∀ b ∈ l, b < 256) (A : Option Addr) (c : Nat) (hr : Reads w w.heap.size 1 A 64 (bytesV l)) (big : Bool) :
    Calls Try.prog 13 #[.slice A 64 c, .bool big] w fun e w' => e = .returned (.bool true) ∧ Below w.heap.size w w' := by
  obtain ⟨i0, hi0, hz0, hz1, hz2⟩ := info_parts info_u8
  have hl : l.length = 64 := by have := hr.1; rw [bytesV_length] at this; omega
  have e1 : recN l big = recR l big := if_pos hl
  have e2 : errR l.length = 0 := by rw [hl]; decide
  have hx := recR_ok l hok big
  have hb := recB_recR l hok hl big
  generalize recR l big = x at *
  obtain ⟨a0, a1, a2, a3, a4, a5, ha⟩ := six x.args hx.args
  have e3 : x.cells.toArray = #[.int .u32 x.number, .int .u32 x.arch, .int .u64 x.pointer, .int .u64 a0, .int .u64 a1, .int .u64 a2, .int .u64 a3, .int .u64 a4, .int .u64 a5] := by
    unfold RecV.cells u64sV; rw [ha]; rfl
  have HX := Lib.hid hx
  have HB := Lib.hid hb
  have HL := Lib.hid hl
  have E1 := Lib.hid e1
  have E2 := Lib.hid e2
  have E3 := Lib.hid e3
  clear hl e1 e2 e3 hx hb ha
  go_enter Try.func13, Try.ntmps13
  go_wp2_with (at_builtin; refine wpList_append_any _ rfl (.tmp 12) (.tmp 13) 31 rfl w.heap.size 5 i0 _ 1 1 Try.underlying31 hi0 hz0 hz1 hz2 rfl (by omega) _ 0 [] rfl (own_empty w 5) w.heap.size A 64 c (bytesV l) rfl (hr.alloc (Nat.le_refl _) _) (bytesV_one l) (by simp only [maxLen]; omega) (by omega) (by simp) ?_; intro v1 w1 own1 hg1 hat1)
  have hB1 : Below w.heap.size w w1 := ((Below.refl _ w).alloc (Nat.le_refl _) _).grown hg1 (by simp) (fun k e => by cases e; exact Nat.le_refl _)
  rw [List.nil_append, Nat.zero_add] at own1
  obtain ⟨A1, c1, rfl, hr1⟩ := own_reads own1
  clear hg1 hat1 own1
  go_wp2_with fail
  refine (dread_any l hok A1 64 c1 big _ hr1 (by omega)).mono ?_
  rintro e w2 ⟨rfl, hB2⟩
  rw [E1.out, E3.out, E2.out]
  have hB2w := hB1.trans (hB2.mono hB1.size)
  have hrw := (hr.below hB2w).more hB2w.size
  clear hB2 hr1
  go_wp2_with fail
  rw [← E3.out]
  have hb9 : Blk ((w2.alloc (.cells x.cells.toArray 65)).alloc (.cells x.cells.toArray 68)) (w2.heap.size + 1) 68 x.cells.toArray := by
    have := Blk.new (w2.alloc (.cells x.cells.toArray 65)) 68 x.cells.toArray
    rwa [World.size_alloc] at this
  have hB9 : Grows w ((w2.alloc (.cells x.cells.toArray 65)).alloc (.cells x.cells.toArray 68)) := Below.alloc (Below.alloc hB2w hB2w.size _) (by have := hB2w.size; simp; omega) _
  have hr9 := Grows.reads hB9 hr
  have hsx : (x.cells.toArray).size = 9 := by simp [RecV.cells, u64sV, HX.out.args]
  generalize ((w2.alloc (.cells x.cells.toArray 65)).alloc (.cells x.cells.toArray 68)) = W9 at *
  refine Any.wp_region_kinds follows (rreadsK x big l A c) [56, 57, 58, 59, 60, 61, 62, 63, 64, 65, 66, 67, 68, 69, 4] (by kernel_rfl) (by kernel_rfl) (by kernel_rfl) ⟨?_, ?_, ?_, ?_, ?_, ?_, ?_, ?_, ?_, ?_, ?_, ?_, ?_, ?_, ?_, trivial⟩ ?_
  · exact Any.st_was 56 6 (.plain rfl) (.inl rfl) rfl (by decide) rfl
  · exact Any.st_binR 57 56 _ _ _ _ _ _ (.plain rfl) rfl rfl (by decide) rfl (fun w => by simp [go_sem]) (fun w => by simp [go_sem]) rfl
  · exact Any.st_copy 58 57 (.plain rfl) (.inl rfl) rfl (by decide) rfl
  · exact Any.st_load_row 59 7 68 (w2.heap.size + 1) 68 x.cells.toArray _ (.known 58 rfl rfl (by decide) rfl) rfl rfl (by decide) rfl hb9 Try.underlying68 rfl (by rw [hsx]; kernel_rfl) rfl
  · exact Any.st_was 60 1 (.known 58 rfl rfl (by decide) rfl) (.inl rfl) rfl (by decide) rfl
  · exact Any.st_callv 61 #[.agg x.cells.toArray, .bool big] (.known 58 rfl rfl (by decide) rfl) rfl rfl Try.func40 (by kernel_rfl) rfl (fun a W h => by simp [h.eqv 59 (by decide) rfl, h.eqv 60 (by decide) rfl]) (fun W _ => (refrec_any x HX.out big W).mono fun e w' h => row_of_bytes (l := l) HL.out (by rw [← HB.out]; rw [HB.out] at h ⊢; exact h))
  · exact Any.st_string 62 61 _ _ _ _ _ (.known 58 rfl rfl (by decide) rfl) rfl rfl (by decide) Try.underlying31 Try.underlying5 Try.underlying9 rfl rfl
  · exact Any.st_was 63 0 (.known 58 rfl rfl (by decide) rfl) (.inl rfl) rfl (by decide) ⟨A, c, rfl, hr9⟩
  · exact Any.st_string 64 63 _ _ _ _ _ (.known 58 rfl rfl (by decide) rfl) rfl rfl (by decide) Try.underlying31 Try.underlying5 Try.underlying9 rfl rfl
  · exact Any.st_bin 65 62 64 _ _ _ _ _ _ (.known 58 rfl rfl (by decide) rfl) rfl rfl (by decide) (by decide) rfl rfl (fun w => by simp [go_sem]) (fun w => by simp [go_sem]) rfl
  · exact Any.st_and 66 58 65 _ (.plain rfl) rfl rfl (by decide) (by decide) rfl rfl rfl
  · exact Any.st_copy 67 66 (.plain rfl) (.inl rfl) rfl (by decide) rfl
  · exact Any.st_call0 68 _ (.known 67 rfl rfl (by decide) rfl) rfl rfl Try.func39 (by kernel_rfl) rfl rfl (fun W => (awake05_any W).mono fun e w' h => ⟨h.1, by rw [h.2]; exact Below.refl _ _⟩)
  · exact Any.st_and 69 67 68 _ (.plain rfl) rfl rfl (by decide) (by decide) rfl rfl rfl
  · exact Any.st_copy 4 69 (.plain rfl) (.inr rfl) rfl (by decide) rfl
  intro f w5 hg hf
  have h4 : f 4 = .bool true := hf 4 rfl
  have hB5 : Below w.heap.size w w5 := Grows.trans (Grows.drew hB9) hg
  simp only [Any.fill, List.foldl_cons, List.foldl_nil, List.setIfInBounds_toArray, List.set_cons_succ, List.set_cons_zero, h4]
  clear hf hg h4 hB9 hr9 hrw hB2w hr hsx hb9
  go_wp2_with fail
  go_ret
  exact ⟨rfl, hB5⟩

theorem dataReads_walk (w : World) (l : List Nat) (hok : ∀ b ∈ l, b < 256) (A : Option Addr) (n c : Nat) (hr : Reads w w.heap.size 1 A n (bytesV l)) (_hc : n ≤ c) (_hm : c ≤ maxLen) (big : Bool) :
    Calls Try.prog 13 #[.slice A n c, .bool big] w fun e w' => e = .returned (.bool true) ∧ Below w.heap.size w w' := by
  by_cases h : n ≤ 200
  · by_cases h2 : n = 64
    · subst h2; exact dataReads_64 w l hok A c hr big
    · exact dataReads_other w l hok A n c hr big h h2
  · exact dataReads_many w A n c big (by omega)
end Go.Proofs.Ytlpakmlpnjfcoaa
