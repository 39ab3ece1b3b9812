/-
  The walk of strainerlaw01.WordPuts: true.
-/
import Derived.Test.YtlpakmlpnjfcoaaLawBack
namespace Go.Proofs.Ytlpakmlpnjfcoaa
open Go.RowKit
set_option linter.unusedVariables false

theorem Reads.nil_ {w : World} {B : Nat} (A : Option Addr) : Reads w B 1 A 0 (bytesV []) := ⟨by simp [bytesV], fun h => absurd h (by omega)⟩
theorem own_empty' (w : World) (e : TypeId) (B : Nat) (h : B = w.heap.size) : (w.alloc (.cells #[] e)).ownsRow B e 1 (.slice (some ⟨B, 0, none⟩) 0 0) 0 [] := by
  subst h
  exact own_empty w e

set_option maxRecDepth 100000 in
set_option maxHeartbeats 2000000 in
theorem wordPuts_yes (l : List Nat) (hok : ∀ b ∈ l, b < 256) (A : Option Addr) (n c at_ width : Nat) (big : Bool) (x : Nat) (hx : x < 18446744073709551616) (w : World) (hr : Reads w w.heap.size 1 A n (bytesV l)) (hn : n ≤ 200) (hw : wrongN n at_ width = 0) (hw8 : width ≤ 8) (hin : at_ + width ≤ n) (hpos : 0 < width) :
    Calls Try.prog 11 #[.slice A n c, .agg #[.int .i64 at_, .int .i64 width, .bool big], .int .u64 x] w fun e w' => e = .returned (.bool true) ∧ Below w.heap.size w w' := by
  obtain ⟨i0, hi0, hz0, hz1, hz2⟩ := info_parts info_u8
  have hl : n = l.length := by have := hr.1; rw [bytesV_length] at this; omega
  have hw0 : wrongN l.length at_ width = 0 := by rw [← hl]; exact hw
  have hp := (putN_yes (big := big) (x := x) hl hw).trans (putL_parts l at_ width x big (by omega))
  have HL := Lib.hid hl
  have HW := Lib.hid hw
  have HW0 := Lib.hid hw0
  have HP := Lib.hid hp
  clear hl hw0 hp hw
  go_enter Try.func11, Try.ntmps11
  go_wp2_with (
    at_builtin
    refine wpList_append_any _ rfl (.tmp 16) (.tmp 17) 31 rfl (w.heap.size + 1) 5 i0 _ 1 1 Try.underlying31 hi0 hz0 hz1 hz2 rfl (by omega) _ 0 [] rfl (own_empty' _ 5 _ (by simp)) w.heap.size A n c (bytesV l) rfl ((hr.alloc (Nat.le_refl _) _).alloc (by simp <;> omega) _) (bytesV_one l) (by simp only [maxLen]; omega) (by omega) (by simp) ?_
    intro v0 w0 hown0 hg0 hat0
    have hBs : Below w.heap.size w (w.alloc (.cells #[.int .i64 at_, .int .i64 width, .bool big] 40)) := (Below.refl _ w).alloc (Nat.le_refl _) _
    have hBt : Below (w.heap.size + 1) (w.alloc (.cells #[.int .i64 at_, .int .i64 width, .bool big] 40)) w0 := ((Below.refl _ _).alloc (by simp) _).grown hg0 (by simp) (fun k hk => by cases hk; simp)
    have b0 : w0.cell? ⟨w.heap.size, 0, none⟩ = some (.int .i64 at_) := cell_of_below hBt (by simp) (by rw [World.cell?_alloc_at _ _ _ _ rfl]; rfl)
    have b1 : w0.cell? ⟨w.heap.size, 1, none⟩ = some (.int .i64 width) := cell_of_below hBt (by simp) (by rw [World.cell?_alloc_at _ _ _ _ rfl]; rfl)
    have b2 : w0.cell? ⟨w.heap.size, 2, none⟩ = some (.bool big) := cell_of_below hBt (by simp) (by rw [World.cell?_alloc_at _ _ _ _ rfl]; rfl)
    have hlt0 : w.heap.size < w0.heap.size := by have := hBt.size; simp at this; omega
    have hB0w : Below w.heap.size w w0 := hBs.trans (hBt.mono (by simp))
    have hr0 := (hr.below hB0w).more hB0w.size
    have hown0' : w0.ownsRow (w.heap.size + 1) 5 1 v0 n (bytesV l) := by simpa using hown0
    obtain ⟨g0, cap0, rfl, hgg, hnc0, hcm0, hrow0⟩ := row_of_own hown0' (by omega)
    have hq0 := Reads.of_own hown0'
    clear hown0 hown0' hg0 hat0 hBt hBs hr)
  refine (put_any l hok A n c at_ width big x hx w0 hr0 (by omega)).mono ?_
  rintro e w1 ⟨v1, rfl, hown1, hB1⟩
  rw [HW0.out]
  rw [HP.out] at hown1
  have hlen : (l.take at_ ++ partN x width big ++ l.drop (at_ + width)).length = n := by
    rw [← HP.out, putN_yes HL.out HW.out, putL_length]; exact HL.out.symm
  rw [hlen] at hown1
  obtain ⟨A1, c1, rfl, hq1⟩ := own_reads hown1
  have d0 := cell_of_below (p := ⟨w.heap.size, 0, none⟩) hB1 hlt0 b0
  have d1 := cell_of_below (p := ⟨w.heap.size, 1, none⟩) hB1 hlt0 b1
  have d2 := cell_of_below (p := ⟨w.heap.size, 2, none⟩) hB1 hlt0 b2
  have hB1w := hB0w.trans (hB1.mono hB0w.size)
  have hr1 := (hr0.below hB1).more hB1.size
  have hp1 := (hq0.below hB1).more hB1.size
  have hlt1 : w.heap.size < w1.heap.size := by have := hB1.size; omega
  clear b0 b1 b2 hr0 hq0 hown1 hB1 hrow0 hgg
  go_wp2_with fail
  refine (same_any l A (some ⟨g0, 0, none⟩) n c cap0 _ hr1 hp1 (by omega)).mono ?_
  rintro e w2 ⟨rfl, z, rfl⟩
  go_wp2_with fail
  refine (wrong_any _ _ _ _ (by omega) (by omega)).mono ?_
  rintro e w2 ⟨rfl, rfl⟩
  rw [HW.out]
  go_wp2_with fail
  refine (bytes_any x hx width hw8 _).mono ?_
  rintro e w2 ⟨v2, rfl, hown2, hB2⟩
  have hB2' : Below w1.heap.size w1 w2 := ⟨hB2.os, hB2.tape, hB2.output, hB2.size, hB2.block⟩
  have hB2w := hB1w.trans (hB2'.mono hB1w.size)
  have e0 := cell_of_below (p := ⟨w.heap.size, 0, none⟩) hB2' hlt1 d0
  have e1 := cell_of_below (p := ⟨w.heap.size, 1, none⟩) hB2' hlt1 d1
  have e2 := cell_of_below (p := ⟨w.heap.size, 2, none⟩) hB2' hlt1 d2
  have hq2 := (hq1.below hB2').more hB2'.size
  have hp2 := (hp1.below hB2').more hB2'.size
  have hlt2 : w.heap.size < w2.heap.size := by have := hB2'.size; omega
  rw [bytesN_length] at hown2
  obtain ⟨A2, c2, rfl, hk2⟩ := own_reads hown2
  clear d0 d1 d2 hq1 hp1 hB2 hB2' hown2 hr1
  cases big
  · go_wp2_with fail
    have hs0 : (0 : Int) ≤ (at_ : Int) := Int.natCast_nonneg _
    have hs1 : (at_ : Int) ≤ (cap0 : Int) := by omega
    have hs2 : (0 : Int) ≤ (at_ : Int) + (width : Int) := by omega
    have hs3 : (at_ : Int) + (width : Int) ≤ (n : Int) := by omega
    have hs4 : (n : Int) ≤ (cap0 : Int) := by omega
    have hs5 : IntKind.i64.wrap ((at_ : Int) + (width : Int)) = (at_ : Int) + (width : Int) := IntWalk.i64_in _ (by omega)
    have ra : Reads w2 w2.heap.size 1 (some ⟨g0, 0, none⟩) at_ (bytesV (l.take at_)) := by simpa using hp2.piece 0 at_ (by omega)
    have rc : Reads w2 w2.heap.size 1 (some ⟨g0, at_ + width, none⟩) (n - (at_ + width)) (bytesV (l.drop (at_ + width))) := by
      have h := hp2.piece (at_ + width) (n - (at_ + width)) (by omega)
      rw [List.take_of_length_le (by rw [List.length_drop, ← HL.out]; omega)] at h
      simpa using h
    have rd : Reads w2 w2.heap.size 1 (if cap0 = ((at_ : Int) + (width : Int)).toNat then some ⟨g0, 0, none⟩ else some ⟨g0, ((at_ : Int) + (width : Int)).toNat, none⟩) (n - ((at_ : Int) + (width : Int)).toNat) (bytesV (l.drop (at_ + width))) := by
      have hs6 : ((at_ : Int) + (width : Int)).toNat = at_ + width := by omega
      rw [hs6]
      by_cases hcap : cap0 = at_ + width
      · have hz : n - (at_ + width) = 0 := by omega
        have hd : l.drop (at_ + width) = [] := List.drop_eq_nil_of_le (by have := HL.out; omega)
        rw [hz, hd]
        exact Reads.nil_ _
      · rw [if_neg hcap]
        exact rc
    go_region_held3 (fun w' => w'.cell? ⟨w.heap.size, 0, none⟩ = some (.int .i64 at_) ∧ w'.cell? ⟨w.heap.size, 1, none⟩ = some (.int .i64 width))
      (first
        | go_keep
        | (go_split_ands
           refine ⟨?_, ?_⟩ <;> exact (hga.cell_far _ (by simp; omega) (fun e => by have e2 : some w.heap.size = some w2.heap.size := e; injection e2; omega)).trans (by assumption))
        | (go_split_ands
           refine ⟨?_, ?_⟩ <;> exact (hgb.cell_far _ (by have := hBa.size; first | omega | (simp; omega)) (fun e => by have h7 : w2.heap.size ≤ w.heap.size := (howna.lt _ e.symm).1; omega)).trans (by assumption))
        | (go_split_ands
           refine ⟨?_, ?_⟩ <;> exact (hgc.cell_far _ (by have := hBb.size; first | omega | (simp; omega)) (fun e => by have h7 : w2.heap.size ≤ w.heap.size := (hownb.lt _ e.symm).1; omega)).trans (by assumption)))
      (first
        | (have hguard := hBb
           refine step_append_any _ (by rfl) (.tmp 70) (.tmp 77) 31 (by rfl) w2.heap.size 5 i0 _ 1 1 Try.underlying31 hi0 hz0 hz1 hz2 rfl (by omega) vb _ _ (by rfl) hownb w2.heap.size _ _ _ (bytesV (l.drop (at_ + width))) (by rfl) (rd.below hBb) (bytesV_one _) (by simp only [maxLen]; omega) (by omega) hBb.size ?_
           intro vc wc hownc hgc hatc
           have hBc : Below w2.heap.size w2 wc := by first | exact hBb.drew.grown hgc hBb.size (fun k hk => (hownb.lt k hk).1) | exact hBb.grown hgc hBb.size (fun k hk => (hownb.lt k hk).1))
        | (have hguard := hBa
           fail_if_success (have hguard2 := hBb)
           refine step_append_any _ (by rfl) (.tmp 68) (.tmp 69) 31 (by rfl) w2.heap.size 5 i0 _ 1 1 Try.underlying31 hi0 hz0 hz1 hz2 rfl (by omega) va _ _ (by rfl) howna w2.heap.size A2 width c2 (bytesV (bytesN x width)) (by rfl) (hk2.below hBa) (bytesV_one _) (by simp only [maxLen]; omega) (by omega) hBa.size ?_
           intro vb wb hownb hgb hatb
           have hBb : Below w2.heap.size w2 wb := by first | exact hBa.drew.grown hgb hBa.size (fun k hk => (howna.lt k hk).1) | exact hBa.grown hgb hBa.size (fun k hk => (howna.lt k hk).1))
        | (fail_if_success (have hguard2 := hBa)
           refine step_append_any _ (by rfl) (.tmp 63) (.tmp 67) 31 (by rfl) w2.heap.size 5 i0 _ 1 1 Try.underlying31 hi0 hz0 hz1 hz2 rfl (by omega) _ 0 [] (by rfl) (own_empty w2 5) w2.heap.size (some ⟨g0, 0, none⟩) at_ _ (bytesV (l.take at_)) (by rfl) (ra.alloc (Nat.le_refl _) _) (bytesV_one _) (by simp only [maxLen]; omega) (by omega) (by simp) ?_
           intro va wa howna hga hata
           have hBa : Below w2.heap.size w2 wa := ((Below.refl _ w2).alloc (Nat.le_refl _) _).drew.grown hga (by simp) (fun k e => by cases e; exact Nat.le_refl _)))
    have hown9 : wc.ownsRow w2.heap.size 5 1 vc n (bytesV (l.take at_ ++ partN x width false ++ l.drop (at_ + width))) := by
      have e9 : 0 + at_ + width + (n - ((at_ : Int) + (width : Int)).toNat) = n := by omega
      rw [e9] at hownc
      simpa [bytesV_append, partN] using hownc
    obtain ⟨A9, c9, rfl, hr9⟩ := own_reads hown9
    have hq9 := (hq2.below hBc).more hBc.size
    have hB9w : Below w.heap.size w wc := hB2w.trans (hBc.mono hB2w.size)
    clear hownc hown9 hownb howna hga hgb hgc hata hatb hatc ra rc rd hBa hBb hBc hk2 hp2 hq2
    go_wp2_with fail
    all_goals
      refine (same_any _ A1 A9 n c1 c9 _ hq9 hr9 (by omega)).mono ?_
      rintro e w5 ⟨rfl, z5, rfl⟩
      go_wp2_with fail
      refine (awake01_any _).mono ?_
      rintro e w6 ⟨rfl, hB6⟩
      have h6 : Below w.heap.size (wc.drewN _) w6 := hB6.mono hB9w.size
      go_wp2_with fail
      go_ret
      exact ⟨rfl, hB9w.trans ⟨h6.os, h6.tape, h6.output, h6.size, h6.block⟩⟩
  · go_wp2_with fail
    refine (turn_any (bytesN x width) A2 width c2 w2 hk2 (by omega)).mono ?_
    rintro e w3 ⟨v3, rfl, hown3, hB3⟩
    have k0 := cell_of_below (p := ⟨w.heap.size, 0, none⟩) hB3 hlt2 e0
    have k1 := cell_of_below (p := ⟨w.heap.size, 1, none⟩) hB3 hlt2 e1
    have k2 := cell_of_below (p := ⟨w.heap.size, 2, none⟩) hB3 hlt2 e2
    have hq3 := (hq2.below hB3).more hB3.size
    have hp3 := (hp2.below hB3).more hB3.size
    have hlt3 : w.heap.size < w3.heap.size := by have := hB3.size; omega
    have hB3w := hB2w.trans (hB3.mono hB2w.size)
    rw [List.length_reverse, bytesN_length] at hown3
    obtain ⟨A8, c8, rfl, hk3⟩ := own_reads hown3
    clear e0 e1 e2 hq2 hp2 hB3 hown3 hk2
    go_wp2_with fail
    have hs0 : (0 : Int) ≤ (at_ : Int) := Int.natCast_nonneg _
    have hs1 : (at_ : Int) ≤ (cap0 : Int) := by omega
    have hs2 : (0 : Int) ≤ (at_ : Int) + (width : Int) := by omega
    have hs3 : (at_ : Int) + (width : Int) ≤ (n : Int) := by omega
    have hs4 : (n : Int) ≤ (cap0 : Int) := by omega
    have hs5 : IntKind.i64.wrap ((at_ : Int) + (width : Int)) = (at_ : Int) + (width : Int) := IntWalk.i64_in _ (by omega)
    have ra : Reads w3 w3.heap.size 1 (some ⟨g0, 0, none⟩) at_ (bytesV (l.take at_)) := by simpa using hp3.piece 0 at_ (by omega)
    have rc : Reads w3 w3.heap.size 1 (some ⟨g0, at_ + width, none⟩) (n - (at_ + width)) (bytesV (l.drop (at_ + width))) := by
      have h := hp3.piece (at_ + width) (n - (at_ + width)) (by omega)
      rw [List.take_of_length_le (by rw [List.length_drop, ← HL.out]; omega)] at h
      simpa using h
    have rd : Reads w3 w3.heap.size 1 (if cap0 = ((at_ : Int) + (width : Int)).toNat then some ⟨g0, 0, none⟩ else some ⟨g0, ((at_ : Int) + (width : Int)).toNat, none⟩) (n - ((at_ : Int) + (width : Int)).toNat) (bytesV (l.drop (at_ + width))) := by
      have hs6 : ((at_ : Int) + (width : Int)).toNat = at_ + width := by omega
      rw [hs6]
      by_cases hcap : cap0 = at_ + width
      · have hz : n - (at_ + width) = 0 := by omega
        have hd : l.drop (at_ + width) = [] := List.drop_eq_nil_of_le (by have := HL.out; omega)
        rw [hz, hd]
        exact Reads.nil_ _
      · rw [if_neg hcap]
        exact rc
    go_region_held3 (fun w' => w'.cell? ⟨w.heap.size, 0, none⟩ = some (.int .i64 at_) ∧ w'.cell? ⟨w.heap.size, 1, none⟩ = some (.int .i64 width))
      (first
        | go_keep
        | (go_split_ands
           refine ⟨?_, ?_⟩ <;> exact (hga.cell_far _ (by simp; omega) (fun e => by have e2 : some w.heap.size = some w3.heap.size := e; injection e2; omega)).trans (by assumption))
        | (go_split_ands
           refine ⟨?_, ?_⟩ <;> exact (hgb.cell_far _ (by have := hBa.size; first | omega | (simp; omega)) (fun e => by have h7 : w3.heap.size ≤ w.heap.size := (howna.lt _ e.symm).1; omega)).trans (by assumption))
        | (go_split_ands
           refine ⟨?_, ?_⟩ <;> exact (hgc.cell_far _ (by have := hBb.size; first | omega | (simp; omega)) (fun e => by have h7 : w3.heap.size ≤ w.heap.size := (hownb.lt _ e.symm).1; omega)).trans (by assumption)))
      (first
        | (have hguard := hBb
           refine step_append_any _ (by rfl) (.tmp 70) (.tmp 77) 31 (by rfl) w3.heap.size 5 i0 _ 1 1 Try.underlying31 hi0 hz0 hz1 hz2 rfl (by omega) vb _ _ (by rfl) hownb w3.heap.size _ _ _ (bytesV (l.drop (at_ + width))) (by rfl) (rd.below hBb) (bytesV_one _) (by simp only [maxLen]; omega) (by omega) hBb.size ?_
           intro vc wc hownc hgc hatc
           have hBc : Below w3.heap.size w3 wc := by first | exact hBb.drew.grown hgc hBb.size (fun k hk => (hownb.lt k hk).1) | exact hBb.grown hgc hBb.size (fun k hk => (hownb.lt k hk).1))
        | (have hguard := hBa
           fail_if_success (have hguard2 := hBb)
           refine step_append_any _ (by rfl) (.tmp 68) (.tmp 69) 31 (by rfl) w3.heap.size 5 i0 _ 1 1 Try.underlying31 hi0 hz0 hz1 hz2 rfl (by omega) va _ _ (by rfl) howna w3.heap.size A8 width c8 (bytesV (bytesN x width).reverse) (by rfl) (hk3.below hBa) (bytesV_one _) (by simp only [maxLen]; omega) (by omega) hBa.size ?_
           intro vb wb hownb hgb hatb
           have hBb : Below w3.heap.size w3 wb := by first | exact hBa.drew.grown hgb hBa.size (fun k hk => (howna.lt k hk).1) | exact hBa.grown hgb hBa.size (fun k hk => (howna.lt k hk).1))
        | (fail_if_success (have hguard2 := hBa)
           refine step_append_any _ (by rfl) (.tmp 63) (.tmp 67) 31 (by rfl) w3.heap.size 5 i0 _ 1 1 Try.underlying31 hi0 hz0 hz1 hz2 rfl (by omega) _ 0 [] (by rfl) (own_empty w3 5) w3.heap.size (some ⟨g0, 0, none⟩) at_ _ (bytesV (l.take at_)) (by rfl) (ra.alloc (Nat.le_refl _) _) (bytesV_one _) (by simp only [maxLen]; omega) (by omega) (by simp) ?_
           intro va wa howna hga hata
           have hBa : Below w3.heap.size w3 wa := ((Below.refl _ w3).alloc (Nat.le_refl _) _).drew.grown hga (by simp) (fun k e => by cases e; exact Nat.le_refl _)))
    have hown9 : wc.ownsRow w3.heap.size 5 1 vc n (bytesV (l.take at_ ++ partN x width true ++ l.drop (at_ + width))) := by
      have e9 : 0 + at_ + width + (n - ((at_ : Int) + (width : Int)).toNat) = n := by omega
      rw [e9] at hownc
      simpa [bytesV_append, partN] using hownc
    obtain ⟨A9, c9, rfl, hr9⟩ := own_reads hown9
    have hq9 := (hq3.below hBc).more hBc.size
    have hB9w : Below w.heap.size w wc := hB3w.trans (hBc.mono hB3w.size)
    clear hownc hown9 hownb howna hga hgb hgc hata hatb hatc ra rc rd hBa hBb hBc hk3 hp3 hq3
    go_wp2_with fail
    all_goals
      refine (same_any _ A1 A9 n c1 c9 _ hq9 hr9 (by omega)).mono ?_
      rintro e w5 ⟨rfl, z5, rfl⟩
      go_wp2_with fail
      refine (awake01_any _).mono ?_
      rintro e w6 ⟨rfl, hB6⟩
      have h6 : Below w.heap.size (wc.drewN _) w6 := hB6.mono hB9w.size
      go_wp2_with fail
      go_ret
      exact ⟨rfl, hB9w.trans ⟨h6.os, h6.tape, h6.output, h6.size, h6.block⟩⟩

set_option maxRecDepth 100000 in
theorem wordPuts_no (l : List Nat) (hok : ∀ b ∈ l, b < 256) (A : Option Addr) (n c : Nat) (at_ width : Int) (big : Bool) (x : Nat) (hx : x < 18446744073709551616) (w : World) (hr : Reads w w.heap.size 1 A n (bytesV l)) (hn : n ≤ 200) (hw : wrongN n at_ width ≠ 0) :
    Calls Try.prog 11 #[.slice A n c, .agg #[.int .i64 at_, .int .i64 width, .bool big], .int .u64 x] w fun e w' => e = .returned (.bool true) ∧ Below w.heap.size w w' := by
  obtain ⟨i0, hi0, hz0, hz1, hz2⟩ := info_parts info_u8
  have hl : n = l.length := by have := hr.1; rw [bytesV_length] at this; omega
  have hp : putN l at_ width big x = [] := by unfold putN; rw [if_neg (by rw [← hl]; exact hw)]
  have HL := Lib.hid hl
  have HP := Lib.hid hp
  clear hl hp
  go_enter Try.func11, Try.ntmps11
  go_wp2_with (
    at_builtin
    refine wpList_append_any _ rfl (.tmp 16) (.tmp 17) 31 rfl (w.heap.size + 1) 5 i0 _ 1 1 Try.underlying31 hi0 hz0 hz1 hz2 rfl (by omega) _ 0 [] rfl (own_empty' _ 5 _ (by simp)) w.heap.size A n c (bytesV l) rfl ((hr.alloc (Nat.le_refl _) _).alloc (by simp <;> omega) _) (bytesV_one l) (by simp only [maxLen]; omega) (by omega) (by simp) ?_
    intro v0 w0 hown0 hg0 hat0
    have hBs : Below w.heap.size w (w.alloc (.cells #[.int .i64 at_, .int .i64 width, .bool big] 40)) := (Below.refl _ w).alloc (Nat.le_refl _) _
    have hBt : Below (w.heap.size + 1) (w.alloc (.cells #[.int .i64 at_, .int .i64 width, .bool big] 40)) w0 := ((Below.refl _ _).alloc (by simp) _).grown hg0 (by simp) (fun k hk => by cases hk; simp)
    have b0 : w0.cell? ⟨w.heap.size, 0, none⟩ = some (.int .i64 at_) := cell_of_below hBt (by simp) (by rw [World.cell?_alloc_at _ _ _ _ rfl]; rfl)
    have b1 : w0.cell? ⟨w.heap.size, 1, none⟩ = some (.int .i64 width) := cell_of_below hBt (by simp) (by rw [World.cell?_alloc_at _ _ _ _ rfl]; rfl)
    have b2 : w0.cell? ⟨w.heap.size, 2, none⟩ = some (.bool big) := cell_of_below hBt (by simp) (by rw [World.cell?_alloc_at _ _ _ _ rfl]; rfl)
    have hlt0 : w.heap.size < w0.heap.size := by have := hBt.size; simp at this; omega
    have hB0w : Below w.heap.size w w0 := hBs.trans (hBt.mono (by simp))
    have hr0 := (hr.below hB0w).more hB0w.size
    have hown0' : w0.ownsRow (w.heap.size + 1) 5 1 v0 n (bytesV l) := by simpa using hown0
    obtain ⟨A0, c0, rfl, hq0⟩ := own_reads hown0'
    clear hown0 hown0' hg0 hat0 hBt hBs hr)
  refine (put_any l hok A n c at_ width big x hx w0 hr0 (by omega)).mono ?_
  rintro e w1 ⟨v1, rfl, hown1, hB1⟩
  rw [HP.out] at hown1
  rw [← HL.out]
  obtain ⟨A1, c1, rfl, hq1⟩ := own_reads hown1
  have d0 := cell_of_below (p := ⟨w.heap.size, 0, none⟩) hB1 hlt0 b0
  have d1 := cell_of_below (p := ⟨w.heap.size, 1, none⟩) hB1 hlt0 b1
  have hB1w := hB0w.trans (hB1.mono hB0w.size)
  have hr1 := (hr0.below hB1).more hB1.size
  have hp1 := (hq0.below hB1).more hB1.size
  generalize hy : wrongN n at_ width = y at *
  have HY := Lib.hid hy
  have hy0 : ((y : Int) != 0) = true := by simp; omega
  have hyy : ((y : Int) == (y : Int)) = true := by simp
  clear b0 b1 b2 hr0 hq0 hown1 hB1 hy
  go_wp2_with fail
  refine (same_any l A A0 n c c0 _ hr1 hp1 (by omega)).mono ?_
  rintro e w2 ⟨rfl, z, rfl⟩
  go_wp2_with fail
  refine (wrong_any _ _ _ _ (by omega) (by omega)).mono ?_
  rintro e w2 ⟨rfl, rfl⟩
  rw [HY.out]
  go_wp2_with fail
  refine (awake01_any _).mono ?_
  rintro e w6 ⟨rfl, hB6⟩
  have h6 : Below w.heap.size (w1.drewN _) w6 := hB6.mono hB1w.size
  go_wp2_with fail
  go_ret
  exact ⟨rfl, hB1w.trans ⟨h6.os, h6.tape, h6.output, h6.size, h6.block⟩⟩

set_option maxRecDepth 100000 in
theorem wordPuts_long (A : Option Addr) (n c : Nat) (v : PlaceV) (x : Nat) (w : World) (hn : 200 < n) :
    Calls Try.prog 11 #[.slice A n c, v.val, .int .u64 x] w fun e w' => e = .returned (.bool true) ∧ Below w.heap.size w w' := by
  obtain ⟨at_, width, big⟩ := v
  unfold PlaceV.val
  go_enter Try.func11, Try.ntmps11
  go_wp2_with fail
  go_ret
  exact ⟨rfl, (Below.refl _ w).alloc (Nat.le_refl _) _⟩

theorem wordPuts_walk (w : World) (l : List Nat) (hok : ∀ b ∈ l, b < 256) (A : Option Addr) (n c : Nat) (hr : Reads w w.heap.size 1 A n (bytesV l)) (hc : n ≤ c) (hm : c ≤ maxLen) (v : PlaceV) (okv : v.Ok) (x : Nat) (hx : x < 18446744073709551616) :
    Calls Try.prog 11 #[.slice A n c, v.val, .int .u64 x] w fun e w' => e = .returned (.bool true) ∧ Below w.heap.size w w' := by
  by_cases hn : 200 < n
  · exact wordPuts_long A n c v x w hn
  · obtain ⟨at_, width, big⟩ := v
    by_cases hw : wrongN n at_ width = 0
    · obtain ⟨hwide, h0, h1⟩ := wrongN_zero hw
      obtain ⟨a, rfl⟩ : ∃ a : Nat, at_ = a := ⟨at_.toNat, by omega⟩
      have hwb : 1 ≤ width ∧ width ≤ 8 := by rcases hwide with h | h | h | h <;> omega
      obtain ⟨u, rfl⟩ : ∃ u : Nat, width = u := ⟨width.toNat, by omega⟩
      exact wordPuts_yes l hok A n c a u big x hx w hr (by omega) hw (by omega) (by omega) (by omega)
    · exact wordPuts_no l hok A n c at_ width big x hx w hr (by omega) hw
end Go.Proofs.Ytlpakmlpnjfcoaa
