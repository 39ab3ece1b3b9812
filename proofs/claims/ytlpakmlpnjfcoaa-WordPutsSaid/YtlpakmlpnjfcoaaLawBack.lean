/-
  The walk of strainerlaw01.WordBack: true.
-/
import Derived.Test.YtlpakmlpnjfcoaaPutPlain
import Derived.Test.YtlpakmlpnjfcoaaLawGets
namespace Go.Proofs.Ytlpakmlpnjfcoaa
open Go.RowKit
set_option linter.unusedVariables false

theorem putN_yes {l : List Nat} {n at_ width : Nat} {big : Bool} {x : Nat} (hl : n = l.length) (hw : wrongN n at_ width = 0) : putN l at_ width big x = putL l at_ width big x width := by
  unfold putN; rw [if_pos (by rw [← hl]; exact hw)]; rfl
theorem getN_put {l : List Nat} {n at_ width : Nat} {big : Bool} {x : Nat} (hl : n = l.length) (hw : wrongN n at_ width = 0) (hin : at_ + width ≤ n) : getN (putL l at_ width big x width) at_ width big = x % 256 ^ width := by
  unfold getN
  rw [if_pos (by rw [putL_length, ← hl]; exact hw)]
  show valBE (wordN _ at_ width big) = _
  rw [putL_word l at_ width x big (by omega), bytesN_val]

set_option maxRecDepth 100000 in
set_option maxHeartbeats 2000000 in
theorem wordBack_yes (l : List Nat) (hok : ∀ b ∈ l, b < 256) (A : Option Addr) (n c at_ width : Nat) (big : Bool) (x : Nat) (hx : x < 18446744073709551616) (w : World) (hr : Reads w w.heap.size 1 A n (bytesV l)) (hn : n ≤ 200) (hw : wrongN n at_ width = 0) (hwd : width = 1 ∨ width = 2 ∨ width = 4 ∨ width = 8) (hin : at_ + width ≤ n) :
    Calls Try.prog 12 #[.slice A n c, .agg #[.int .i64 at_, .int .i64 width, .bool big], .int .u64 x] w fun e w' => e = .returned (.bool true) ∧ Below w.heap.size w w' := by
  have hl : n = l.length := by have := hr.1; rw [bytesV_length] at this; omega
  have hw0 : wrongN l.length at_ width = 0 := by rw [← hl]; exact hw
  have hp := putN_yes (big := big) (x := x) hl hw
  have hg := getN_put (big := big) (x := x) hl hw hin
  have hql : (putL l at_ width big x width).length = n := by rw [putL_length]; exact hl.symm
  have hqok := putL_lt l hok at_ width x big width
  have hqo : ∀ i, i < at_ ∨ at_ + width ≤ i → (putL l at_ width big x width).getD i 0 = l.getD i 0 := fun i hi => putL_out l at_ width x i big (by omega) hi
  have hp2 : putN (putL l at_ width big x width) at_ width big (x % 256 ^ width) = putL l at_ width big x width := by
    rw [putN_yes hql.symm hw, putL_twice l at_ width x _ big (by omega), putL_mod l at_ width x big width (Nat.le_refl _)]
  have hwq : wrongN (putL l at_ width big x width).length at_ width = 0 := by rw [hql]; exact hw
  have hm : x % 256 ^ width < 18446744073709551616 := Nat.lt_of_le_of_lt (Nat.mod_le _ _) hx
  obtain ⟨m, hmx⟩ : ∃ m, m = x % 256 ^ width := ⟨_, rfl⟩
  rw [← hmx] at hp2 hg hm
  have HX := Lib.hid hmx
  generalize putL l at_ width big x width = q at *
  have HL := Lib.hid hl
  have HW0 := Lib.hid hw0
  have HP := Lib.hid hp
  have HG := Lib.hid hg
  have HP2 := Lib.hid hp2
  have HWQ := Lib.hid hwq
  have HQL := Lib.hid hql
  clear hl hw0 hp hg hp2 hwq hql hw hmx
  go_enter Try.func12, Try.ntmps12
  go_wp2_with fail
  refine (put_any l hok _ n c at_ width big x hx _ ((hr.alloc (Nat.le_refl _) _).more (by simp)) (by omega)).mono ?_
  rintro e w1 ⟨v, rfl, hown, hB1⟩
  rw [HW0.out]
  rw [HP.out, HQL.out] at hown
  obtain ⟨A1, c1, rfl, hr1⟩ := own_reads hown
  have hB1w : Below w.heap.size w w1 := ((Below.refl _ w).alloc (Nat.le_refl _) _).trans (hB1.mono (by simp))
  have b0 : w1.cell? ⟨w.heap.size, 0, none⟩ = some (.int .i64 at_) := cell_of_below hB1 (by simp) (by rw [World.cell?_alloc_at _ _ _ _ rfl]; rfl)
  have b1 : w1.cell? ⟨w.heap.size, 1, none⟩ = some (.int .i64 width) := cell_of_below hB1 (by simp) (by rw [World.cell?_alloc_at _ _ _ _ rfl]; rfl)
  have b2 : w1.cell? ⟨w.heap.size, 2, none⟩ = some (.bool big) := cell_of_below hB1 (by simp) (by rw [World.cell?_alloc_at _ _ _ _ rfl]; rfl)
  have hlt1 : w.heap.size < w1.heap.size := by have := hB1.size; simp at this; omega
  have hra := hr.below hB1w
  clear hown hB1
  go_wp2_with fail
  refine (get_any q hqok A1 n c1 at_ width big _ hr1 (by omega)).mono ?_
  rintro e w2 ⟨rfl, hB2⟩
  rw [HG.out, HWQ.out]
  have c0 := cell_of_below (p := ⟨w.heap.size, 0, none⟩) hB2 hlt1 b0
  have c1' := cell_of_below (p := ⟨w.heap.size, 1, none⟩) hB2 hlt1 b1
  have c2 := cell_of_below (p := ⟨w.heap.size, 2, none⟩) hB2 hlt1 b2
  have hlt2 : w.heap.size < w2.heap.size := by have := hB2.size; omega
  have hB2w := hB1w.trans (hB2.mono hB1w.size)
  have hr2 := (hr1.below hB2).more hB2.size
  have hra2 := (hra.more hB1w.size).below hB2
  have hle2 := hB2.size
  clear b0 b1 b2 hr1 hra hB2
  have hx' := HX.out
  rcases hwd with rfl | rfl | rfl | rfl
  · have hmm : (x : Int) % 256 = (m : Int) := by omega
    clear hx'
    go_wp2_with fail
    rw [hmm]
    have hp2 : putN q at_ (1 : Int) big m = q := HP2.out
    have hwq : wrongN q.length at_ (1 : Int) = 0 := HWQ.out
    refine (put_any q hqok A1 n c1 at_ 1 big m hm _ hr2 (by omega)).mono ?_
    rintro e w3 ⟨v3, rfl, hown3, hB3⟩
    rw [hwq]
    rw [hp2, HQL.out] at hown3
    obtain ⟨A3, c3, rfl, hr3⟩ := own_reads hown3
    have d0 := cell_of_below (p := ⟨w.heap.size, 0, none⟩) hB3 hlt2 c0
    have d1 := cell_of_below (p := ⟨w.heap.size, 1, none⟩) hB3 hlt2 c1'
    have d2 := cell_of_below (p := ⟨w.heap.size, 2, none⟩) hB3 hlt2 c2
    have hB3w := hB2w.trans (hB3.mono hB2w.size)
    have hq3 := (hr2.below hB3).more hB3.size
    have hra3 := (hra2.more hle2).below hB3
    have hself : ((n : Int) != (n : Int)) = false := by simp
    have hmm2 : ((m : Int) == (m : Int)) = true := by simp
    clear hown3 c0 c1' c2 hr2 hra2 hB3 hp2 hwq hr
    go_wp2_with fail
    go_loopw [13] (fun i wr => ∃ k : Nat, k ≤ n ∧ i = .int .i64 k ∧ ∃ z, wr = w3.drewN z) (fun i _ => n - (intOf i).toNat)
    case atStart => exact ⟨0, by omega, rfl, 0, rfl⟩
    case round =>
      obtain ⟨k, hk, rfl, z, rfl⟩ := hrel
      by_cases hlt : k < n
      · obtain ⟨b, off, rfl, hb, hc⟩ := hra3.at1 hlt
        obtain ⟨b2, off2, rfl, hb2, hc2⟩ := hq3.at1 hlt
        have h1 := hc k hlt
        have h2 := hc2 k hlt
        have hz0 : (0 : Int) ≤ (k : Int) := Int.natCast_nonneg _
        have hz1 : (k : Int) < (n : Int) := by omega
        by_cases ha : k < at_
        · have hsame := hqo k (.inl ha)
          rw [hsame] at h2
          generalize l.getD k 0 = y at *
          have g1 : (k : Int) < (at_ : Int) := by omega
          clear hc hc2 hra3 hq3 hr3 hqo ha hsame
          go_wp2_with fail
          go_quiet (fail)
          go_wp2_with fail
          go_roundw
          case rel => exact ⟨k + 1, by omega, by go_num, _, rfl⟩
          case measure => simp [intOf] <;> omega
        · by_cases hb3 : at_ + 1 ≤ k
          · have hsame := hqo k (.inr hb3)
            rw [hsame] at h2
            generalize l.getD k 0 = y at *
            have g1 : decide ((k : Int) < (at_ : Int)) = false := by simp; omega
            have n1 : decide (k < at_) = false := by simp; omega
            have g2 : (at_ : Int) + 1 ≤ (k : Int) := by omega
            have n2 : at_ < k := by omega
            have g3 : (at_ : Int) < (k : Int) := by omega
            clear hc hc2 hra3 hq3 hr3 hqo hsame
            go_wp2_with fail
            go_quiet (fail)
            go_wp2_with fail
            go_roundw
            case rel => exact ⟨k + 1, by omega, by go_num, _, rfl⟩
            case measure => simp [intOf] <;> omega
          · have g1 : decide ((k : Int) < (at_ : Int)) = false := by simp; omega
            have n1 : decide (k < at_) = false := by simp; omega
            have g2 : decide ((at_ : Int) + 1 ≤ (k : Int)) = false := by simp; omega
            have n2 : decide (at_ + 1 ≤ k) = false := by simp; omega
            have n3 : decide (at_ < k) = false := by simp; omega
            have g3 : decide ((at_ : Int) < (k : Int)) = false := by simp; omega
            clear hc hc2 hra3 hq3 hr3 hqo ha hb3 h1 h2
            go_wp2_with fail
            go_quiet (fail)
            go_wp2_with fail
            go_roundw
            case rel => exact ⟨k + 1, by omega, by go_num, _, rfl⟩
            case measure => simp [intOf] <;> omega
      · obtain rfl : k = n := by omega
        go_wp2_with fail
        refine (same_any q A3 A1 k c3 c1 _ (hr3.drewN z) (hq3.drewN z) (by omega)).mono ?_
        rintro e w4 ⟨rfl, z4, rfl⟩
        go_wp2_with fail
        refine (awake01_any _).mono ?_
        rintro e w5 ⟨rfl, hB5⟩
        go_wp2_with fail
        go_ret
        have h5 : Below w.heap.size (w3.drewN _) w5 := hB5.mono hB3w.size
        exact ⟨rfl, hB3w.trans ⟨h5.os, h5.tape, h5.output, h5.size, h5.block⟩⟩
  · have hmm : (x : Int) % 65536 = (m : Int) := by omega
    clear hx'
    go_wp2_with fail
    rw [hmm]
    have hp2 : putN q at_ (2 : Int) big m = q := HP2.out
    have hwq : wrongN q.length at_ (2 : Int) = 0 := HWQ.out
    refine (put_any q hqok A1 n c1 at_ 2 big m hm _ hr2 (by omega)).mono ?_
    rintro e w3 ⟨v3, rfl, hown3, hB3⟩
    rw [hwq]
    rw [hp2, HQL.out] at hown3
    obtain ⟨A3, c3, rfl, hr3⟩ := own_reads hown3
    have d0 := cell_of_below (p := ⟨w.heap.size, 0, none⟩) hB3 hlt2 c0
    have d1 := cell_of_below (p := ⟨w.heap.size, 1, none⟩) hB3 hlt2 c1'
    have d2 := cell_of_below (p := ⟨w.heap.size, 2, none⟩) hB3 hlt2 c2
    have hB3w := hB2w.trans (hB3.mono hB2w.size)
    have hq3 := (hr2.below hB3).more hB3.size
    have hra3 := (hra2.more hle2).below hB3
    have hself : ((n : Int) != (n : Int)) = false := by simp
    have hmm2 : ((m : Int) == (m : Int)) = true := by simp
    clear hown3 c0 c1' c2 hr2 hra2 hB3 hp2 hwq hr
    go_wp2_with fail
    go_loopw [13] (fun i wr => ∃ k : Nat, k ≤ n ∧ i = .int .i64 k ∧ ∃ z, wr = w3.drewN z) (fun i _ => n - (intOf i).toNat)
    case atStart => exact ⟨0, by omega, rfl, 0, rfl⟩
    case round =>
      obtain ⟨k, hk, rfl, z, rfl⟩ := hrel
      by_cases hlt : k < n
      · obtain ⟨b, off, rfl, hb, hc⟩ := hra3.at1 hlt
        obtain ⟨b2, off2, rfl, hb2, hc2⟩ := hq3.at1 hlt
        have h1 := hc k hlt
        have h2 := hc2 k hlt
        have hz0 : (0 : Int) ≤ (k : Int) := Int.natCast_nonneg _
        have hz1 : (k : Int) < (n : Int) := by omega
        by_cases ha : k < at_
        · have hsame := hqo k (.inl ha)
          rw [hsame] at h2
          generalize l.getD k 0 = y at *
          have g1 : (k : Int) < (at_ : Int) := by omega
          clear hc hc2 hra3 hq3 hr3 hqo ha hsame
          go_wp2_with fail
          go_quiet (fail)
          go_wp2_with fail
          go_roundw
          case rel => exact ⟨k + 1, by omega, by go_num, _, rfl⟩
          case measure => simp [intOf] <;> omega
        · by_cases hb3 : at_ + 2 ≤ k
          · have hsame := hqo k (.inr hb3)
            rw [hsame] at h2
            generalize l.getD k 0 = y at *
            have g1 : decide ((k : Int) < (at_ : Int)) = false := by simp; omega
            have n1 : decide (k < at_) = false := by simp; omega
            have g2 : (at_ : Int) + 2 ≤ (k : Int) := by omega
            have n2 : at_ < k := by omega
            clear hc hc2 hra3 hq3 hr3 hqo hsame
            go_wp2_with fail
            go_quiet (fail)
            go_wp2_with fail
            go_roundw
            case rel => exact ⟨k + 1, by omega, by go_num, _, rfl⟩
            case measure => simp [intOf] <;> omega
          · have g1 : decide ((k : Int) < (at_ : Int)) = false := by simp; omega
            have n1 : decide (k < at_) = false := by simp; omega
            have g2 : decide ((at_ : Int) + 2 ≤ (k : Int)) = false := by simp; omega
            have n2 : decide (at_ + 2 ≤ k) = false := by simp; omega
            clear hc hc2 hra3 hq3 hr3 hqo ha hb3 h1 h2
            go_wp2_with fail
            go_quiet (fail)
            go_wp2_with fail
            go_roundw
            case rel => exact ⟨k + 1, by omega, by go_num, _, rfl⟩
            case measure => simp [intOf] <;> omega
      · obtain rfl : k = n := by omega
        go_wp2_with fail
        refine (same_any q A3 A1 k c3 c1 _ (hr3.drewN z) (hq3.drewN z) (by omega)).mono ?_
        rintro e w4 ⟨rfl, z4, rfl⟩
        go_wp2_with fail
        refine (awake01_any _).mono ?_
        rintro e w5 ⟨rfl, hB5⟩
        go_wp2_with fail
        go_ret
        have h5 : Below w.heap.size (w3.drewN _) w5 := hB5.mono hB3w.size
        exact ⟨rfl, hB3w.trans ⟨h5.os, h5.tape, h5.output, h5.size, h5.block⟩⟩
  · have hmm : (x : Int) % 4294967296 = (m : Int) := by omega
    clear hx'
    go_wp2_with fail
    rw [hmm]
    have hp2 : putN q at_ (4 : Int) big m = q := HP2.out
    have hwq : wrongN q.length at_ (4 : Int) = 0 := HWQ.out
    refine (put_any q hqok A1 n c1 at_ 4 big m hm _ hr2 (by omega)).mono ?_
    rintro e w3 ⟨v3, rfl, hown3, hB3⟩
    rw [hwq]
    rw [hp2, HQL.out] at hown3
    obtain ⟨A3, c3, rfl, hr3⟩ := own_reads hown3
    have d0 := cell_of_below (p := ⟨w.heap.size, 0, none⟩) hB3 hlt2 c0
    have d1 := cell_of_below (p := ⟨w.heap.size, 1, none⟩) hB3 hlt2 c1'
    have d2 := cell_of_below (p := ⟨w.heap.size, 2, none⟩) hB3 hlt2 c2
    have hB3w := hB2w.trans (hB3.mono hB2w.size)
    have hq3 := (hr2.below hB3).more hB3.size
    have hra3 := (hra2.more hle2).below hB3
    have hself : ((n : Int) != (n : Int)) = false := by simp
    have hmm2 : ((m : Int) == (m : Int)) = true := by simp
    clear hown3 c0 c1' c2 hr2 hra2 hB3 hp2 hwq hr
    go_wp2_with fail
    go_loopw [13] (fun i wr => ∃ k : Nat, k ≤ n ∧ i = .int .i64 k ∧ ∃ z, wr = w3.drewN z) (fun i _ => n - (intOf i).toNat)
    case atStart => exact ⟨0, by omega, rfl, 0, rfl⟩
    case round =>
      obtain ⟨k, hk, rfl, z, rfl⟩ := hrel
      by_cases hlt : k < n
      · obtain ⟨b, off, rfl, hb, hc⟩ := hra3.at1 hlt
        obtain ⟨b2, off2, rfl, hb2, hc2⟩ := hq3.at1 hlt
        have h1 := hc k hlt
        have h2 := hc2 k hlt
        have hz0 : (0 : Int) ≤ (k : Int) := Int.natCast_nonneg _
        have hz1 : (k : Int) < (n : Int) := by omega
        by_cases ha : k < at_
        · have hsame := hqo k (.inl ha)
          rw [hsame] at h2
          generalize l.getD k 0 = y at *
          have g1 : (k : Int) < (at_ : Int) := by omega
          clear hc hc2 hra3 hq3 hr3 hqo ha hsame
          go_wp2_with fail
          go_quiet (fail)
          go_wp2_with fail
          go_roundw
          case rel => exact ⟨k + 1, by omega, by go_num, _, rfl⟩
          case measure => simp [intOf] <;> omega
        · by_cases hb3 : at_ + 4 ≤ k
          · have hsame := hqo k (.inr hb3)
            rw [hsame] at h2
            generalize l.getD k 0 = y at *
            have g1 : decide ((k : Int) < (at_ : Int)) = false := by simp; omega
            have n1 : decide (k < at_) = false := by simp; omega
            have g2 : (at_ : Int) + 4 ≤ (k : Int) := by omega
            have n2 : at_ < k := by omega
            clear hc hc2 hra3 hq3 hr3 hqo hsame
            go_wp2_with fail
            go_quiet (fail)
            go_wp2_with fail
            go_roundw
            case rel => exact ⟨k + 1, by omega, by go_num, _, rfl⟩
            case measure => simp [intOf] <;> omega
          · have g1 : decide ((k : Int) < (at_ : Int)) = false := by simp; omega
            have n1 : decide (k < at_) = false := by simp; omega
            have g2 : decide ((at_ : Int) + 4 ≤ (k : Int)) = false := by simp; omega
            have n2 : decide (at_ + 4 ≤ k) = false := by simp; omega
            clear hc hc2 hra3 hq3 hr3 hqo ha hb3 h1 h2
            go_wp2_with fail
            go_quiet (fail)
            go_wp2_with fail
            go_roundw
            case rel => exact ⟨k + 1, by omega, by go_num, _, rfl⟩
            case measure => simp [intOf] <;> omega
      · obtain rfl : k = n := by omega
        go_wp2_with fail
        refine (same_any q A3 A1 k c3 c1 _ (hr3.drewN z) (hq3.drewN z) (by omega)).mono ?_
        rintro e w4 ⟨rfl, z4, rfl⟩
        go_wp2_with fail
        refine (awake01_any _).mono ?_
        rintro e w5 ⟨rfl, hB5⟩
        go_wp2_with fail
        go_ret
        have h5 : Below w.heap.size (w3.drewN _) w5 := hB5.mono hB3w.size
        exact ⟨rfl, hB3w.trans ⟨h5.os, h5.tape, h5.output, h5.size, h5.block⟩⟩
  · have hmm : x = m := by omega
    clear hx'
    subst hmm
    go_wp2_with fail
    have hp2 : putN q at_ (8 : Int) big x = q := HP2.out
    have hwq : wrongN q.length at_ (8 : Int) = 0 := HWQ.out
    refine (put_any q hqok A1 n c1 at_ 8 big x hm _ hr2 (by omega)).mono ?_
    rintro e w3 ⟨v3, rfl, hown3, hB3⟩
    rw [hwq]
    rw [hp2, HQL.out] at hown3
    obtain ⟨A3, c3, rfl, hr3⟩ := own_reads hown3
    have d0 := cell_of_below (p := ⟨w.heap.size, 0, none⟩) hB3 hlt2 c0
    have d1 := cell_of_below (p := ⟨w.heap.size, 1, none⟩) hB3 hlt2 c1'
    have d2 := cell_of_below (p := ⟨w.heap.size, 2, none⟩) hB3 hlt2 c2
    have hB3w := hB2w.trans (hB3.mono hB2w.size)
    have hq3 := (hr2.below hB3).more hB3.size
    have hra3 := (hra2.more hle2).below hB3
    have hself : ((n : Int) != (n : Int)) = false := by simp
    have hmm2 : ((x : Int) == (x : Int)) = true := by simp
    clear hown3 c0 c1' c2 hr2 hra2 hB3 hp2 hwq hr
    go_wp2_with fail
    go_loopw [13] (fun i wr => ∃ k : Nat, k ≤ n ∧ i = .int .i64 k ∧ ∃ z, wr = w3.drewN z) (fun i _ => n - (intOf i).toNat)
    case atStart => exact ⟨0, by omega, rfl, 0, rfl⟩
    case round =>
      obtain ⟨k, hk, rfl, z, rfl⟩ := hrel
      by_cases hlt : k < n
      · obtain ⟨b, off, rfl, hb, hc⟩ := hra3.at1 hlt
        obtain ⟨b2, off2, rfl, hb2, hc2⟩ := hq3.at1 hlt
        have h1 := hc k hlt
        have h2 := hc2 k hlt
        have hz0 : (0 : Int) ≤ (k : Int) := Int.natCast_nonneg _
        have hz1 : (k : Int) < (n : Int) := by omega
        by_cases ha : k < at_
        · have hsame := hqo k (.inl ha)
          rw [hsame] at h2
          generalize l.getD k 0 = y at *
          have g1 : (k : Int) < (at_ : Int) := by omega
          clear hc hc2 hra3 hq3 hr3 hqo ha hsame
          go_wp2_with fail
          go_quiet (fail)
          go_wp2_with fail
          go_roundw
          case rel => exact ⟨k + 1, by omega, by go_num, _, rfl⟩
          case measure => simp [intOf] <;> omega
        · by_cases hb3 : at_ + 8 ≤ k
          · have hsame := hqo k (.inr hb3)
            rw [hsame] at h2
            generalize l.getD k 0 = y at *
            have g1 : decide ((k : Int) < (at_ : Int)) = false := by simp; omega
            have n1 : decide (k < at_) = false := by simp; omega
            have g2 : (at_ : Int) + 8 ≤ (k : Int) := by omega
            have n2 : at_ < k := by omega
            clear hc hc2 hra3 hq3 hr3 hqo hsame
            go_wp2_with fail
            go_quiet (fail)
            go_wp2_with fail
            go_roundw
            case rel => exact ⟨k + 1, by omega, by go_num, _, rfl⟩
            case measure => simp [intOf] <;> omega
          · have g1 : decide ((k : Int) < (at_ : Int)) = false := by simp; omega
            have n1 : decide (k < at_) = false := by simp; omega
            have g2 : decide ((at_ : Int) + 8 ≤ (k : Int)) = false := by simp; omega
            have n2 : decide (at_ + 8 ≤ k) = false := by simp; omega
            clear hc hc2 hra3 hq3 hr3 hqo ha hb3 h1 h2
            go_wp2_with fail
            go_quiet (fail)
            go_wp2_with fail
            go_roundw
            case rel => exact ⟨k + 1, by omega, by go_num, _, rfl⟩
            case measure => simp [intOf] <;> omega
      · obtain rfl : k = n := by omega
        go_wp2_with fail
        refine (same_any q A3 A1 k c3 c1 _ (hr3.drewN z) (hq3.drewN z) (by omega)).mono ?_
        rintro e w4 ⟨rfl, z4, rfl⟩
        go_wp2_with fail
        refine (awake01_any _).mono ?_
        rintro e w5 ⟨rfl, hB5⟩
        go_wp2_with fail
        go_ret
        have h5 : Below w.heap.size (w3.drewN _) w5 := hB5.mono hB3w.size
        exact ⟨rfl, hB3w.trans ⟨h5.os, h5.tape, h5.output, h5.size, h5.block⟩⟩

set_option maxRecDepth 100000 in
theorem wordBack_no (l : List Nat) (hok : ∀ b ∈ l, b < 256) (A : Option Addr) (n c : Nat) (at_ width : Int) (big : Bool) (x : Nat) (hx : x < 18446744073709551616) (w : World) (hr : Reads w w.heap.size 1 A n (bytesV l)) (hn : n ≤ 200) (hw : wrongN n at_ width ≠ 0) :
    Calls Try.prog 12 #[.slice A n c, .agg #[.int .i64 at_, .int .i64 width, .bool big], .int .u64 x] w fun e w' => e = .returned (.bool true) ∧ Below w.heap.size w w' := by
  have hl : n = l.length := by have := hr.1; rw [bytesV_length] at this; omega
  have HL := Lib.hid hl
  clear hl
  go_enter Try.func12, Try.ntmps12
  go_wp2_with fail
  refine (put_any l hok _ n c at_ width big x hx _ ((hr.alloc (Nat.le_refl _) _).more (by simp)) (by omega)).mono ?_
  rintro e w1 ⟨v, rfl, hown, hB1⟩
  obtain ⟨A1, c1, rfl, hr1⟩ := own_reads hown
  rw [← HL.out]
  have hB1w : Below w.heap.size w w1 := ((Below.refl _ w).alloc (Nat.le_refl _) _).trans (hB1.mono (by simp))
  generalize hy : wrongN n at_ width = y at *
  have hy0 : ((y : Int) != 0) = true := by simp; omega
  clear hy hown hr1
  go_wp2_with fail
  refine (awake01_any _).mono ?_
  rintro e w3 ⟨rfl, hB3⟩
  go_wp2_with fail
  go_ret
  exact ⟨rfl, hB1w.trans (hB3.mono hB1w.size)⟩

set_option maxRecDepth 100000 in
theorem wordBack_long (A : Option Addr) (n c : Nat) (v : PlaceV) (x : Nat) (w : World) (hn : 200 < n) :
    Calls Try.prog 12 #[.slice A n c, v.val, .int .u64 x] w fun e w' => e = .returned (.bool true) ∧ Below w.heap.size w w' := by
  obtain ⟨at_, width, big⟩ := v
  unfold PlaceV.val
  go_enter Try.func12, Try.ntmps12
  go_wp2_with fail
  go_ret
  exact ⟨rfl, (Below.refl _ w).alloc (Nat.le_refl _) _⟩

theorem wordBack_walk (w : World) (l : List Nat) (hok : ∀ b ∈ l, b < 256) (A : Option Addr) (n c : Nat) (hr : Reads w w.heap.size 1 A n (bytesV l)) (hc : n ≤ c) (hm : c ≤ maxLen) (v : PlaceV) (okv : v.Ok) (x : Nat) (hx : x < 18446744073709551616) :
    Calls Try.prog 12 #[.slice A n c, v.val, .int .u64 x] w fun e w' => e = .returned (.bool true) ∧ Below w.heap.size w w' := by
  by_cases hn : 200 < n
  · exact wordBack_long A n c v x w hn
  · obtain ⟨at_, width, big⟩ := v
    by_cases hw : wrongN n at_ width = 0
    · obtain ⟨hwide, h0, h1⟩ := wrongN_zero hw
      obtain ⟨a, rfl⟩ : ∃ a : Nat, at_ = a := ⟨at_.toNat, by omega⟩
      have hwb : 1 ≤ width ∧ width ≤ 8 := by rcases hwide with h | h | h | h <;> omega
      obtain ⟨u, rfl⟩ : ∃ u : Nat, width = u := ⟨width.toNat, by omega⟩
      exact wordBack_yes l hok A n c a u big x hx w hr (by omega) hw (by rcases hwide with h | h | h | h <;> omega) (by omega)
    · exact wordBack_no l hok A n c at_ width big x hx w hr (by omega) hw
end Go.Proofs.Ytlpakmlpnjfcoaa
