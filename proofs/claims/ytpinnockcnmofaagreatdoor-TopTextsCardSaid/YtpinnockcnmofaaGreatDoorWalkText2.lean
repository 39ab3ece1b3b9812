/-
  The walk of list.Line: an instruction as text.
-/
import Derived.Test.YtpinnockcnmofaaGreatDoorFormsAt
import Derived.Deep.Cut
import Derived.Deep.CutRange
import Derived.Deep.LoopGhost
import Derived.BigRegion
import Derived.Test.YtpinnockcnmofaaGreatDoorData
import Derived.Lib.UnsafeStr
/-! The walk of list.Line: an instruction as text. -/
namespace Go.Proofs.YtpinnockcnmofaaGreatDoor
open Go.RowKit
set_option linter.unusedVariables false

theorem fits_n (wd ot : Bs) (fc : Nat) (fx fj : Bool) (i1 i2 i3 : Nat) (nb : Bool) (hn : Fm.numbered ⟨wd, ot, fc, fx, fj⟩ = nb) : (!(Fm.fits ⟨wd, ot, fc, fx, fj⟩ ⟨fc, i1, i2, i3⟩)) = !((nb || decide (i3 = 0)) && (fj || (decide (i1 = 0) && decide (i2 = 0)))) := by
  unfold Fm.fits
  rw [hn]
  simp
theorem fits_c (wd ot : Bs) (fc : Nat) (fx fj : Bool) (i0 i1 i2 i3 : Nat) (h : ¬ fc = i0) : true = !(Fm.fits ⟨wd, ot, fc, fx, fj⟩ ⟨i0, i1, i2, i3⟩) := by
  unfold Fm.fits
  simp [h]

set_option maxRecDepth 100000 in
set_option maxHeartbeats 8000000 in
theorem line_any (i : I) (hi : i.Ok) (w : World) (ht : Tabs w) :
    Calls Tryz.prog 17 #[.agg #[.int .u16 i.code, .int .u8 i.jt, .int .u8 i.jf, .int .u32 i.k]] w fun e w' => e = .returned (strV (lineN i)) ∧ Below w.heap.size w w' := by
  have hB0 : Below w.heap.size w (w.alloc (.cells #[.int .u16 i.code, .int .u8 i.jt, .int .u8 i.jf, .int .u32 i.k] 47)) := (Below.refl _ w).alloc (Nat.le_refl _) _
  have hs0 : (w.alloc (.cells #[.int .u16 i.code, .int .u8 i.jt, .int .u8 i.jf, .int .u32 i.k] 47)).heap.size = w.heap.size + 1 := World.size_alloc ..
  have hb0 : (w.alloc (.cells #[.int .u16 i.code, .int .u8 i.jt, .int .u8 i.jf, .int .u32 i.k] 47)).heap[w.heap.size]? = some (.cells #[.int .u16 i.code, .int .u8 i.jt, .int .u8 i.jf, .int .u32 i.k] 47 (0, 0)) := heap_alloc_new w _
  obtain ⟨i1, hj, hj0, hj1, hj2⟩ := info_parts info_string
  have HT := Lib.hid ht
  have HI := Lib.hid hi
  clear ht hi
  go_enter Tryz.func17, Tryz.ntmps17
  go_wp2_with fail
  generalize (w.alloc (.cells #[.int .u16 i.code, .int .u8 i.jt, .int .u8 i.jf, .int .u32 i.k] 47)) = W0 at *
  refine (forms_any W0 ((HT.out).below hB0 (Nat.le_refl _))).mono ?_
  rintro e w1 ⟨v, rfl, own1, hB1⟩
  obtain ⟨Af, cf, rfl, hrf⟩ := own_reads own1
  obtain ⟨bf, of, rfl, hbf, hcf⟩ := hrf.atF (by omega)
  have hb1 := (hB1.block w.heap.size (by omega)).trans hb0
  have hBw1 := hB0.trans (hB1.mono (by omega))
  have hs1 := hB1.size
  clear own1 hrf hB1 hb0 hB0
  have HCF := Lib.hid hcf
  have HB1 := Lib.hid hb1
  have HBW1 := Lib.hid hBw1
  clear hcf hb1 hBw1
  go_wp2_with fail
  go_loopg [8] 41 (fun q x wr => ∃ k : Nat, k ≤ 41 ∧ q = 41 - k ∧ x = .int .i64 k ∧ (∀ m, m < k → (fms.getD m default).fits i = false) ∧ Below w1.heap.size w1 wr)
  case atStart => exact ⟨0, by omega, rfl, rfl, fun m hm => by omega, Below.refl _ _⟩
  case round =>
    obtain ⟨k, hk, rfl, rfl, hno, hBr⟩ := hrel
    have HNO := Lib.hid hno
    clear hno
    by_cases hlt : k < 41
    · have hlt1 : (k : Int) < 41 := by omega
      have hz0' : (0 : Int) ≤ (k : Int) := Int.natCast_nonneg _
      obtain ⟨c0, c1, c2, c3, c4⟩ := (HCF.out) k hlt
      have hmem := getD_mem_fms hlt
      have hfc := fms_code_lt _ hmem
      generalize hfx : fms.getD k default = f at c0 c1 c2 c3 c4 hmem hfc
      have d0 := (hBr.cell (p := ⟨bf, of + k * 5, none⟩) hbf).trans c0
      have d1 := (hBr.cell (p := ⟨bf, of + k * 5 + 1, none⟩) hbf).trans c1
      have d2 := (hBr.cell (p := ⟨bf, of + k * 5 + 2, none⟩) hbf).trans c2
      have d3 := (hBr.cell (p := ⟨bf, of + k * 5 + 3, none⟩) hbf).trans c3
      have d4 := (hBr.cell (p := ⟨bf, of + k * 5 + 4, none⟩) hbf).trans c4
      clear c0 c1 c2 c3 c4
      unfold strV at d0 d1
      obtain ⟨wd, ot, fc, fx, fj⟩ := f
      simp only at d0 d1 d2 d3 d4 hfc
      have HM := Lib.hid hmem
      have HFX := Lib.hid hfx
      clear hmem hfx
      go_upto_region 4 with fail
      have hb1 := (hBr.block w.heap.size (by omega)).trans HB1.out
      have hB2 := (Below.refl wr.heap.size wr).alloc (Nat.le_refl _) (.cells #[.string ⟨wd.toArray⟩, .string ⟨ot.toArray⟩, .int .u16 fc, .bool fx, .bool fj] 95)
      have hb2 := (hB2.block w.heap.size (Nat.lt_of_lt_of_le (by omega) hBr.size)).trans hb1
      have hf2 : (wr.alloc (.cells #[.string ⟨wd.toArray⟩, .string ⟨ot.toArray⟩, .int .u16 fc, .bool fx, .bool fj] 95)).heap[wr.heap.size]? = some (.cells #[.string ⟨wd.toArray⟩, .string ⟨ot.toArray⟩, .int .u16 fc, .bool fx, .bool fj] 95 (0, 0)) := heap_alloc_new wr _
      have hs2 : (wr.alloc (.cells #[.string ⟨wd.toArray⟩, .string ⟨ot.toArray⟩, .int .u16 fc, .bool fx, .bool fj] 95)).heap.size = wr.heap.size + 1 := World.size_alloc ..
      have hBw := ((HBW1.out).trans (hBr.mono (by omega))).trans (hB2.mono (by have := hBr.size; omega))
      have hgf : w.heap.size < wr.heap.size := Nat.lt_of_lt_of_le (by omega) hBr.size
      have HBR := Lib.hid (hBr.trans (hB2.mono hBr.size))
      clear hb1 hB2 hBr d0 d1 d2 d3 d4
      generalize (wr.alloc (.cells #[.string ⟨wd.toArray⟩, .string ⟨ot.toArray⟩, .int .u16 fc, .bool fx, .bool fj] 95)) = W2 at *
      generalize wr.heap.size = gf at *
      have HF2 := Lib.hid hf2
      have HB2 := Lib.hid hb2
      have HBW := Lib.hid hBw
      clear hf2 hb2 hBw
      go_cut [8, 41] from 8 to 71 (fun s8 s41 wx => s8 = .int .i64 k ∧ s41 = .bool (!(Fm.fits ⟨wd, ot, fc, fx, fj⟩ i)) ∧ Below W2.heap.size W2 wx)
      case first =>
        obtain ⟨i0, i1, i2, i3⟩ := i
        simp only at *
        obtain ⟨f0, f1, f2, f3, f4⟩ := cells5 HF2.out
        obtain ⟨b0, b1, b2, b3⟩ := cells4 HB2.out
        have hlF : gf < W2.heap.size := by omega
        have hlB : w.heap.size < W2.heap.size := by omega
        by_cases e0 : fc = i0
        · subst e0
          have hca := fun W => numbered_any ⟨wd, ot, fc, fx, fj⟩ HM.out W
          have step : ∀ nb : Bool, Fm.numbered ⟨wd, ot, fc, fx, fj⟩ = nb → ∀ W, Calls Tryz.prog 34 #[.agg #[.string ⟨wd.toArray⟩, .string ⟨ot.toArray⟩, .int .u16 fc, .bool fx, .bool fj]] W fun e w' => e = .returned (.bool nb) ∧ Below W.heap.size W w' := fun nb h W => by rw [← h]; exact hca W
          have STEP := Lib.hid step
          clear hca step
          cases hn : Fm.numbered ⟨wd, ot, fc, fx, fj⟩ with
          | false =>
            have hc := (STEP.out) false hn
            have HN := Lib.hid hn
            clear STEP hn
            by_cases e3 : i3 = 0
            · subst e3
              cases fj with
              | true => (go_wp2_with (go_at_call 34; refine (hc _).mono ?_; rintro e w5 ⟨rfl, hB5⟩; have b1' := (hB5.cell (p := ⟨w.heap.size, 1, none⟩) hlB).trans b1; have b2' := (hB5.cell (p := ⟨w.heap.size, 2, none⟩) hlB).trans b2; have b3' := (hB5.cell (p := ⟨w.heap.size, 3, none⟩) hlB).trans b3; have f4' := (hB5.cell (p := ⟨gf, 4, none⟩) hlF).trans f4); go_meet; case rel => exact ⟨rfl, congrArg Value.bool (by rw [fits_n _ _ _ _ _ _ _ _ _ HN.out]; first | rfl | (rw [decide_eq_false e3]; rfl) | (rw [decide_eq_false e1]; rfl) | (rw [decide_eq_false e2, show ((i2 : Int) != 0) = true from bne_iff_ne.2 n2]; rfl) | (rw [decide_eq_false e2]; rfl)), hB5⟩)
              | false =>
                by_cases e1 : i1 = 0
                · subst e1
                  by_cases e2 : i2 = 0
                  · subst e2
                    (go_wp2_with (go_at_call 34; refine (hc _).mono ?_; rintro e w5 ⟨rfl, hB5⟩; have b1' := (hB5.cell (p := ⟨w.heap.size, 1, none⟩) hlB).trans b1; have b2' := (hB5.cell (p := ⟨w.heap.size, 2, none⟩) hlB).trans b2; have b3' := (hB5.cell (p := ⟨w.heap.size, 3, none⟩) hlB).trans b3; have f4' := (hB5.cell (p := ⟨gf, 4, none⟩) hlF).trans f4); go_meet; case rel => exact ⟨rfl, congrArg Value.bool (by rw [fits_n _ _ _ _ _ _ _ _ _ HN.out]; first | rfl | (rw [decide_eq_false e3]; rfl) | (rw [decide_eq_false e1]; rfl) | (rw [decide_eq_false e2, show ((i2 : Int) != 0) = true from bne_iff_ne.2 n2]; rfl) | (rw [decide_eq_false e2]; rfl)), hB5⟩)
                  · have n2 : ¬ (i2 : Int) = 0 := by omega
                    (go_wp2_with (go_at_call 34; refine (hc _).mono ?_; rintro e w5 ⟨rfl, hB5⟩; have b1' := (hB5.cell (p := ⟨w.heap.size, 1, none⟩) hlB).trans b1; have b2' := (hB5.cell (p := ⟨w.heap.size, 2, none⟩) hlB).trans b2; have b3' := (hB5.cell (p := ⟨w.heap.size, 3, none⟩) hlB).trans b3; have f4' := (hB5.cell (p := ⟨gf, 4, none⟩) hlF).trans f4); go_meet; case rel => exact ⟨rfl, congrArg Value.bool (by rw [fits_n _ _ _ _ _ _ _ _ _ HN.out]; first | rfl | (rw [decide_eq_false e3]; rfl) | (rw [decide_eq_false e1]; rfl) | (rw [decide_eq_false e2, show ((i2 : Int) != 0) = true from bne_iff_ne.2 n2]; rfl) | (rw [decide_eq_false e2]; rfl)), hB5⟩)
                · have n1 : ¬ (i1 : Int) = 0 := by omega
                  (go_wp2_with (go_at_call 34; refine (hc _).mono ?_; rintro e w5 ⟨rfl, hB5⟩; have b1' := (hB5.cell (p := ⟨w.heap.size, 1, none⟩) hlB).trans b1; have b2' := (hB5.cell (p := ⟨w.heap.size, 2, none⟩) hlB).trans b2; have b3' := (hB5.cell (p := ⟨w.heap.size, 3, none⟩) hlB).trans b3; have f4' := (hB5.cell (p := ⟨gf, 4, none⟩) hlF).trans f4); go_meet; case rel => exact ⟨rfl, congrArg Value.bool (by rw [fits_n _ _ _ _ _ _ _ _ _ HN.out]; first | rfl | (rw [decide_eq_false e3]; rfl) | (rw [decide_eq_false e1]; rfl) | (rw [decide_eq_false e2, show ((i2 : Int) != 0) = true from bne_iff_ne.2 n2]; rfl) | (rw [decide_eq_false e2]; rfl)), hB5⟩)
            · have n3 : ¬ (i3 : Int) = 0 := by omega
              (go_wp2_with (go_at_call 34; refine (hc _).mono ?_; rintro e w5 ⟨rfl, hB5⟩; have b1' := (hB5.cell (p := ⟨w.heap.size, 1, none⟩) hlB).trans b1; have b2' := (hB5.cell (p := ⟨w.heap.size, 2, none⟩) hlB).trans b2; have b3' := (hB5.cell (p := ⟨w.heap.size, 3, none⟩) hlB).trans b3; have f4' := (hB5.cell (p := ⟨gf, 4, none⟩) hlF).trans f4); go_meet; case rel => exact ⟨rfl, congrArg Value.bool (by rw [fits_n _ _ _ _ _ _ _ _ _ HN.out]; first | rfl | (rw [decide_eq_false e3]; rfl) | (rw [decide_eq_false e1]; rfl) | (rw [decide_eq_false e2, show ((i2 : Int) != 0) = true from bne_iff_ne.2 n2]; rfl) | (rw [decide_eq_false e2]; rfl)), hB5⟩)
          | true =>
            have hc := (STEP.out) true hn
            have HN := Lib.hid hn
            clear STEP hn
            cases fj with
            | true => (go_wp2_with (go_at_call 34; refine (hc _).mono ?_; rintro e w5 ⟨rfl, hB5⟩; have b1' := (hB5.cell (p := ⟨w.heap.size, 1, none⟩) hlB).trans b1; have b2' := (hB5.cell (p := ⟨w.heap.size, 2, none⟩) hlB).trans b2; have b3' := (hB5.cell (p := ⟨w.heap.size, 3, none⟩) hlB).trans b3; have f4' := (hB5.cell (p := ⟨gf, 4, none⟩) hlF).trans f4); go_meet; case rel => exact ⟨rfl, congrArg Value.bool (by rw [fits_n _ _ _ _ _ _ _ _ _ HN.out]; first | rfl | (rw [decide_eq_false e3]; rfl) | (rw [decide_eq_false e1]; rfl) | (rw [decide_eq_false e2, show ((i2 : Int) != 0) = true from bne_iff_ne.2 n2]; rfl) | (rw [decide_eq_false e2]; rfl)), hB5⟩)
            | false =>
              by_cases e1 : i1 = 0
              · subst e1
                by_cases e2 : i2 = 0
                · subst e2
                  (go_wp2_with (go_at_call 34; refine (hc _).mono ?_; rintro e w5 ⟨rfl, hB5⟩; have b1' := (hB5.cell (p := ⟨w.heap.size, 1, none⟩) hlB).trans b1; have b2' := (hB5.cell (p := ⟨w.heap.size, 2, none⟩) hlB).trans b2; have b3' := (hB5.cell (p := ⟨w.heap.size, 3, none⟩) hlB).trans b3; have f4' := (hB5.cell (p := ⟨gf, 4, none⟩) hlF).trans f4); go_meet; case rel => exact ⟨rfl, congrArg Value.bool (by rw [fits_n _ _ _ _ _ _ _ _ _ HN.out]; first | rfl | (rw [decide_eq_false e3]; rfl) | (rw [decide_eq_false e1]; rfl) | (rw [decide_eq_false e2, show ((i2 : Int) != 0) = true from bne_iff_ne.2 n2]; rfl) | (rw [decide_eq_false e2]; rfl)), hB5⟩)
                · have n2 : ¬ (i2 : Int) = 0 := by omega
                  (go_wp2_with (go_at_call 34; refine (hc _).mono ?_; rintro e w5 ⟨rfl, hB5⟩; have b1' := (hB5.cell (p := ⟨w.heap.size, 1, none⟩) hlB).trans b1; have b2' := (hB5.cell (p := ⟨w.heap.size, 2, none⟩) hlB).trans b2; have b3' := (hB5.cell (p := ⟨w.heap.size, 3, none⟩) hlB).trans b3; have f4' := (hB5.cell (p := ⟨gf, 4, none⟩) hlF).trans f4); go_meet; case rel => exact ⟨rfl, congrArg Value.bool (by rw [fits_n _ _ _ _ _ _ _ _ _ HN.out]; first | rfl | (rw [decide_eq_false e3]; rfl) | (rw [decide_eq_false e1]; rfl) | (rw [decide_eq_false e2, show ((i2 : Int) != 0) = true from bne_iff_ne.2 n2]; rfl) | (rw [decide_eq_false e2]; rfl)), hB5⟩)
              · have n1 : ¬ (i1 : Int) = 0 := by omega
                (go_wp2_with (go_at_call 34; refine (hc _).mono ?_; rintro e w5 ⟨rfl, hB5⟩; have b1' := (hB5.cell (p := ⟨w.heap.size, 1, none⟩) hlB).trans b1; have b2' := (hB5.cell (p := ⟨w.heap.size, 2, none⟩) hlB).trans b2; have b3' := (hB5.cell (p := ⟨w.heap.size, 3, none⟩) hlB).trans b3; have f4' := (hB5.cell (p := ⟨gf, 4, none⟩) hlF).trans f4); go_meet; case rel => exact ⟨rfl, congrArg Value.bool (by rw [fits_n _ _ _ _ _ _ _ _ _ HN.out]; first | rfl | (rw [decide_eq_false e3]; rfl) | (rw [decide_eq_false e1]; rfl) | (rw [decide_eq_false e2, show ((i2 : Int) != 0) = true from bne_iff_ne.2 n2]; rfl) | (rw [decide_eq_false e2]; rfl)), hB5⟩)
        · have n0 : ¬ (fc : Int) = (i0 : Int) := by omega
          go_wp2_with fail
          go_meet
          case rel => exact ⟨rfl, congrArg Value.bool (fits_c _ _ _ _ _ _ _ _ _ e0), Below.refl _ _⟩
      case rest =>
        obtain ⟨rfl, rfl, hBc⟩ := hcut
        rename World => wa
        have hf3 := (hBc.block gf (by omega)).trans HF2.out
        have hb3 := (hBc.block w.heap.size (by omega)).trans HB2.out
        have hBW3 := (HBW.out).trans (hBc.mono (by omega))
        have hBR3 := (HBR.out).trans (hBc.mono (HBR.out).size)
        have hsc := hBc.size
        have HF3 := Lib.hid hf3
        have HB3 := Lib.hid hb3
        have HBW3 := Lib.hid hBW3
        have HBR3 := Lib.hid hBR3
        clear hf3 hb3 hBW3 hBR3 hBc HF2 HB2 HBW HBR
        cases hfit : Fm.fits ⟨wd, ot, fc, fx, fj⟩ i with
        | false =>
          have HFIT := Lib.hid hfit
          clear hfit
          simp only [Bool.not_false]
          go_wp2_with fail
          go_roundg (41 - (k + 1))
          case measure => omega
          case rel =>
            refine ⟨k + 1, by omega, rfl, by go_num, fun m hm => ?_, HBR3.out⟩
            by_cases hmk : m = k
            · subst hmk; rw [HFX.out]; exact HFIT.out
            · exact (HNO.out) m (by omega)
        | true =>
          have HFIT := Lib.hid hfit
          clear hfit
          simp only [Bool.not_true]
          have f0 := (cells5 HF3.out).1
          go_upto_region 6 with fail
          clear f0
          have hlw : w.heap.size < wa.heap.size := by omega
          have hlg : gf < wa.heap.size := by omega
          have own5 : (wa.alloc (.cells #[.string ⟨wd.toArray⟩] 9)).ownsRow wa.heap.size 9 1 (.slice (some ⟨wa.heap.size, 0, none⟩) 1 1) 1 [.string ⟨wd.toArray⟩] :=
            ⟨rfl, .inr ⟨wa.heap.size, 1, #[.string ⟨wd.toArray⟩], rfl, Nat.le_refl _, heap_alloc_new wa _, Nat.le_refl _, by simp [maxLen], rfl, rfl⟩⟩
          have hB5 : Below wa.heap.size wa (wa.alloc (.cells #[.string ⟨wd.toArray⟩] 9)) := (Below.refl _ wa).alloc (Nat.le_refl _) _
          have hf5 := (hB5.block gf hlg).trans HF3.out
          have hb5 := (hB5.block w.heap.size hlw).trans HB3.out
          have hs5 := hB5.size
          generalize (wa.alloc (.cells #[.string ⟨wd.toArray⟩] 9)) = W5 at *
          generalize (Value.slice (some ⟨wa.heap.size, 0, none⟩) 1 1) = v5 at *
          have htw := ((HT.out).below (HBW3.out) (Nat.le_refl _)).below hB5 (Nat.le_refl _)
          have f1 := (cells5 hf5).2.1
          have HTW := Lib.hid (fun (W : World) (hg : Grows W5.drew W) => htw.below ((Below.refl W5.heap.size W5).drew.trans hg) (Nat.le_refl _))
          have HI3 := Lib.hid (show W5.drew.cell? ⟨w.heap.size, 3, none⟩ = some (.int .u32 i.k) from (cells4 hb5).2.2.2)
          have HF5 := Lib.hid (show W5.drew.heap[gf]? = _ from hf5)
          have HB5 := Lib.hid hb5
          have HBX := Lib.hid hB5
          have HOWN := Lib.hid own5
          clear hf5 hb5 hB5 own5 htw
          go_upto_if 47 with fail
          go_cut [5, 8] from 8 to 71 (fun s5 s8 wx => s8 = .int .i64 k ∧ ∃ n1 : Nat, wx.ownsRow wa.heap.size 9 1 s5 n1 ([.string ⟨wd.toArray⟩] ++ (if ot = [] then [] else [.string ⟨(wrO ot (decN i.k)).toArray⟩])) ∧ Below wa.heap.size wa wx)
          case first =>
            by_cases ho : ot = []
            · subst ho
              go_wp2_with fail
              go_meet
              case rel => exact ⟨rfl, 1, HOWN.out, HBX.out⟩
            · have hne : (!List.isEmpty ot) = true := by cases ot with | nil => exact absurd rfl ho | cons _ _ => rfl
              clear f1
              go_upto_region 7 with fail
              rotate_left
              · rename_i hbad; rw [hne] at hbad; cases hbad
              refine Any.wp_region_tailD 7 follows (kdOf [(48, .eq v5), (49, .eq (.agg #[.string ⟨wd.toArray⟩, .string ⟨ot.toArray⟩, .int .u16 fc, .bool fx, .bool fj])), (50, .eq (.pointer (some ⟨w.heap.size, 3, none⟩))), (51, .eq (.int .u32 i.k)), (52, .eq (.string ⟨(decN i.k).toArray⟩)), (53, .eq (.string ⟨(wrO ot (decN i.k)).toArray⟩)), (54, .row 1 1 [.string ⟨(wrO ot (decN i.k)).toArray⟩])]) (Any.Slot 5 v5) (by unfold Any.Slot; rfl) [48, 49, 50, 51, 52, 53, 54, 55, 5] [48, 49, 50, 51, 52, 53, 54] (by kernel_rfl) (by kernel_rfl) (by kernel_rfl) (by kernel_rfl) (by kernel_rfl) (by simp) ?steps ?done
              case steps =>
                refine ⟨?_, ?_, ?_, ?_, ?_, ?_, ?_, trivial⟩
                · exact Any.sj_move rfl rfl rfl (by decide) rfl
                · exact Any.sj (d := 49) rfl (by decide) (Any.st_load_row 49 4 _ gf _ #[.string ⟨wd.toArray⟩, .string ⟨ot.toArray⟩, .int .u16 fc, .bool fx, .bool fj] _ (.plain rfl) rfl rfl (by decide) rfl HF5.out Tryz.underlying95 rfl (by kernel_rfl) rfl)
                · exact Any.sj (d := 50) rfl (by decide) (Any.st_old1 50 1 _ _ (.plain rfl) rfl (by decide) rfl (fun a w h => by unfold execOp; simp only [h]; simp [go_sem]) (fun _ _ => rfl))
                · exact Any.sj (d := 51) rfl (by decide) (Any.sx_load_at 51 50 _ _ _ (.plain rfl) rfl rfl (by decide) rfl (HI3.out) (fun w h => by simp [go_sem, h]) rfl)
                · exact Any.sj (d := 52) rfl (by decide) (Any.st_callv 52 #[.int .u32 i.k] (.plain rfl) rfl rfl Tryz.func36 rfl rfl (fun a w h => by have e0 : a.eval (.tmp 51) = .int .u32 i.k := h.eqv 51 (by decide) rfl; simp only [List.map_toArray, List.map_cons, List.map_nil, e0]) (fun W hg => (decimal_any i.k (HI.out).2.2.2 W (HTW.out W hg)).mono (fun e w' h => ⟨_, h.1, rfl, h.2⟩)))
                · exact Any.sj (d := 53) rfl (by decide) (Any.st_callv 53 #[(.agg #[.string ⟨wd.toArray⟩, .string ⟨ot.toArray⟩, .int .u16 fc, .bool fx, .bool fj]), (.string ⟨(decN i.k).toArray⟩)] (.plain rfl) rfl rfl Tryz.func35 rfl rfl (fun a w h => by have e0 : a.eval (.tmp 49) = (.agg #[.string ⟨wd.toArray⟩, .string ⟨ot.toArray⟩, .int .u16 fc, .bool fx, .bool fj]) := h.eqv 49 (by decide) rfl; have e1 : a.eval (.tmp 52) = (.string ⟨(decN i.k).toArray⟩) := h.eqv 52 (by decide) rfl; simp only [List.map_toArray, List.map_cons, List.map_nil, e0, e1]) (fun W hg => (written_any ⟨wd, ot, fc, fx, fj⟩ HM.out (decN i.k) (by have := dec_len i.k (HI.out).2.2.2; omega) W).mono (fun e w' h => ⟨_, h.1, rfl, h.2⟩)))
                · exact Any.sj (d := 54) rfl (by decide) (Any.sx_builtSlice 54 _ 9 1 1 _ #[(0, .string ⟨(wrO ot (decN i.k)).toArray⟩)] [.string ⟨(wrO ot (decN i.k)).toArray⟩] (.plain rfl) rfl rfl (fun a w h => by have e0 : a.eval (.tmp 53) = .string ⟨(wrO ot (decN i.k)).toArray⟩ := h.eqv 53 (by decide) rfl; simp only [List.map_toArray, List.map_cons, List.map_nil, e0]) (fun w => by kernel_rfl) rfl rfl)
              case done =>
                intro f w3 hg hf
                have hmv : f 48 = _ := hf 48 rfl
                obtain ⟨A4, cc4, hrow, hr4⟩ : IsRow 1 1 [.string ⟨(wrO ot (decN i.k)).toArray⟩] (f 54) w3 := hf 54 rfl
                simp only [Any.fill, List.foldl_cons, List.foldl_nil, List.setIfInBounds_toArray, List.set_cons_succ, List.set_cons_zero, hmv, hrow, List.drop_succ_cons, List.drop_zero]
                clear hf hmv hrow
                generalize f 49 = f49, f 50 = f50, f 51 = f51, f 52 = f52, f 53 = f53, f 55 = f55, f 5 = f5 at *
                have hB3 : Below wa.heap.size wa w3 := HBX.out.trans ((Below.refl _ W5).drew.trans hg |>.mono (HBX.out).size)
                have hown3 := own_grows hg ((HOWN.out).drew)
                have hsz3 := hB3.size
                refine wpList_append_any w3 rfl (.tmp 48) (.tmp 54) 89 rfl wa.heap.size 9 i1 _ 1 16 Tryz.underlying89 hj hj0 hj1 hj2 rfl (by omega) v5 1 [.string ⟨wd.toArray⟩] (by rfl) hown3 w3.heap.size A4 1 cc4 _ (by rfl) hr4 (by simp [Value.oneCell']) (by simp only [maxLen]; omega) (by omega) (by omega) ?_
                intro v4 w4 own4 hg4 hat4
                have hB4 : Below wa.heap.size wa w4 := hB3.grown hg4 (by omega) (fun g e => (hown3.lt g e).1)
                clear hg hg4 hat4 hr4 hown3
                go_wp2_with fail
                go_meet
                case rel => exact ⟨rfl, 2, by rw [if_neg ho]; exact own4, hB4⟩
          case rest =>
            obtain ⟨rfl, n1, own6, hB6⟩ := hcut
            have hn1 : n1 ≤ 2 := by
              have := own6.1
              simp only [List.length_append, List.length_cons, List.length_nil] at this
              split at this <;> simp at this <;> omega
            generalize hxs : ([.string ⟨wd.toArray⟩] ++ (if ot = [] then [] else [.string ⟨(wrO ot (decN i.k)).toArray⟩]) : List Value) = xs at *
            have hf6 := (hB6.block gf hlg).trans HF3.out
            have hb6 := (hB6.block w.heap.size hlw).trans HB3.out
            have hs6 := hB6.size
            have htw := ((HT.out).below (HBW3.out) (Nat.le_refl _)).below hB6 (Nat.le_refl _)
            have f4 := (cells5 hf6).2.2.2.2
            have HTW := Lib.hid (fun (W : World) (hg : Grows wc.drew W) => htw.below ((Below.refl wc.heap.size wc).drew.trans hg) (Nat.le_refl _))
            have HB6 := Lib.hid hb6
            have HXS := Lib.hid hxs
            have HBX := Lib.hid hB6
            have HOWN := Lib.hid own6
            clear hf6 hb6 hB6 own6 htw hxs
            go_upto_if 57 with fail
            go_cut [5, 8] from 8 to 71 (fun s5 s8 wx => s8 = .int .i64 k ∧ ∃ n2 : Nat, wx.ownsRow wa.heap.size 9 1 s5 n2 (xs ++ (if fj = true then [.string ⟨(decN i.jt).toArray⟩, .string ⟨(decN i.jf).toArray⟩] else [])) ∧ Below wa.heap.size wa wx)
            case first =>
              cases fj with
              | false =>
                go_wp2_with fail
                go_meet
                case rel => exact ⟨rfl, n1, by simpa using HOWN.out, HBX.out⟩
              | true =>
                go_upto_region 9 with fail
                rename World => W5
                have HI1 := Lib.hid (show W5.drew.cell? ⟨w.heap.size, 1, none⟩ = some (.int .u8 i.jt) from (cells4 HB6.out).2.1)
                have HI2 := Lib.hid (show W5.drew.cell? ⟨w.heap.size, 2, none⟩ = some (.int .u8 i.jf) from (cells4 HB6.out).2.2.1)
                have HW1 := Lib.hid (show IntKind.u32.wrap (i.jt : Int) = i.jt by rw [IntKind.wrap_u32]; have := (HI.out).2.1; omega)
                have HW2 := Lib.hid (show IntKind.u32.wrap (i.jf : Int) = i.jf by rw [IntKind.wrap_u32]; have := (HI.out).2.2.1; omega)
                generalize u5 = v5 at *
                refine Any.wp_region_tailD 10 follows (kdOf [(58, .eq v5), (59, .eq (.pointer (some ⟨w.heap.size, 1, none⟩))), (60, .eq (.int .u8 i.jt)), (61, .eq (.int .u32 i.jt)), (62, .eq (.string ⟨(decN i.jt).toArray⟩)), (63, .eq (.pointer (some ⟨w.heap.size, 2, none⟩))), (64, .eq (.int .u8 i.jf)), (65, .eq (.int .u32 i.jf)), (66, .eq (.string ⟨(decN i.jf).toArray⟩)), (67, .row 1 2 [(.string ⟨(decN i.jt).toArray⟩), (.string ⟨(decN i.jf).toArray⟩)])]) (Any.Slot 5 v5) (by unfold Any.Slot; rfl) [58, 59, 60, 61, 62, 63, 64, 65, 66, 67, 68, 5] [58, 59, 60, 61, 62, 63, 64, 65, 66, 67] (by kernel_rfl) (by kernel_rfl) (by kernel_rfl) (by kernel_rfl) (by kernel_rfl) (by simp) ?steps ?done
                case steps =>
                  refine ⟨?_, ?_, ?_, ?_, ?_, ?_, ?_, ?_, ?_, ?_, trivial⟩
                  · exact Any.sj_move rfl rfl rfl (by decide) rfl
                  · exact Any.sj (d := 59) rfl (by decide) (Any.st_old1 59 1 _ _ (.plain rfl) rfl (by decide) rfl (fun a w h => by unfold execOp; simp only [h]; simp [go_sem]) (fun _ _ => rfl))
                  · exact Any.sj (d := 60) rfl (by decide) (Any.sx_load_at 60 59 _ _ _ (.plain rfl) rfl rfl (by decide) rfl (HI1.out) (fun w h => by simp [go_sem, h]) rfl)
                  · exact Any.sj (d := 61) rfl (by decide) (Any.st_conv 61 60 _ _ _ _ (.plain rfl) rfl rfl (by decide) (fun w => by simp [go_sem, HW1.out]) rfl rfl)
                  · exact Any.sj (d := 62) rfl (by decide) (Any.st_callv 62 #[.int .u32 i.jt] (.plain rfl) rfl rfl Tryz.func36 rfl rfl (fun a w h => by have e0 : a.eval (.tmp 61) = .int .u32 i.jt := h.eqv 61 (by decide) rfl; simp only [List.map_toArray, List.map_cons, List.map_nil, e0]) (fun W hg => (decimal_any i.jt (by have := (HI.out).2.1; omega) W (HTW.out W hg)).mono (fun e w' h => ⟨_, h.1, rfl, h.2⟩)))
                  · exact Any.sj (d := 63) rfl (by decide) (Any.st_old1 63 1 _ _ (.plain rfl) rfl (by decide) rfl (fun a w h => by unfold execOp; simp only [h]; simp [go_sem]) (fun _ _ => rfl))
                  · exact Any.sj (d := 64) rfl (by decide) (Any.sx_load_at 64 63 _ _ _ (.plain rfl) rfl rfl (by decide) rfl (HI2.out) (fun w h => by simp [go_sem, h]) rfl)
                  · exact Any.sj (d := 65) rfl (by decide) (Any.st_conv 65 64 _ _ _ _ (.plain rfl) rfl rfl (by decide) (fun w => by simp [go_sem, HW2.out]) rfl rfl)
                  · exact Any.sj (d := 66) rfl (by decide) (Any.st_callv 66 #[.int .u32 i.jf] (.plain rfl) rfl rfl Tryz.func36 rfl rfl (fun a w h => by have e0 : a.eval (.tmp 65) = .int .u32 i.jf := h.eqv 65 (by decide) rfl; simp only [List.map_toArray, List.map_cons, List.map_nil, e0]) (fun W hg => (decimal_any i.jf (by have := (HI.out).2.2.1; omega) W (HTW.out W hg)).mono (fun e w' h => ⟨_, h.1, rfl, h.2⟩)))
                  · exact Any.sj (d := 67) rfl (by decide) (Any.sx_builtSlice 67 _ 9 2 1 _ #[(0, (.string ⟨(decN i.jt).toArray⟩)), (1, (.string ⟨(decN i.jf).toArray⟩))] [(.string ⟨(decN i.jt).toArray⟩), (.string ⟨(decN i.jf).toArray⟩)] (.plain rfl) rfl rfl (fun a w h => by have e0 : a.eval (.tmp 62) = (.string ⟨(decN i.jt).toArray⟩) := h.eqv 62 (by decide) rfl; have e1 : a.eval (.tmp 66) = (.string ⟨(decN i.jf).toArray⟩) := h.eqv 66 (by decide) rfl; simp only [List.map_toArray, List.map_cons, List.map_nil, e0, e1]) (fun w => by kernel_rfl) rfl rfl)
                case done =>
                  intro f w3 hg hf
                  have hmv : f 58 = _ := hf 58 rfl
                  obtain ⟨A4, cc4, hrow, hr4⟩ : IsRow 1 2 [(.string ⟨(decN i.jt).toArray⟩), (.string ⟨(decN i.jf).toArray⟩)] (f 67) w3 := hf 67 rfl
                  simp only [Any.fill, List.foldl_cons, List.foldl_nil, List.setIfInBounds_toArray, List.set_cons_succ, List.set_cons_zero, hmv, hrow, List.drop_succ_cons, List.drop_zero]
                  clear hf hmv hrow
                  generalize f 59 = f59, f 60 = f60, f 61 = f61, f 62 = f62, f 63 = f63, f 64 = f64, f 65 = f65, f 66 = f66, f 68 = f68, f 5 = f5 at *
                  have hB3 : Below wa.heap.size wa w3 := HBX.out.trans ((Below.refl _ W5).drew.trans hg |>.mono (HBX.out).size)
                  have hown3 := own_grows hg ((HOWN.out).drew)
                  have hsz3 := hB3.size
                  refine wpList_append_any w3 rfl (.tmp 58) (.tmp 67) 89 rfl wa.heap.size 9 i1 _ 1 16 Tryz.underlying89 hj hj0 hj1 hj2 rfl (by omega) v5 n1 xs (by rfl) hown3 w3.heap.size A4 2 cc4 _ (by rfl) hr4 (by simp [Value.oneCell']) (by simp only [maxLen]; omega) (by omega) (by omega) ?_
                  intro v4 w4 own4 hg4 hat4
                  have hB4 : Below wa.heap.size wa w4 := hB3.grown hg4 (by omega) (fun g e => (hown3.lt g e).1)
                  clear hg hg4 hat4 hr4 hown3
                  go_wp2_with fail
                  go_meet
                  case rel => exact ⟨rfl, n1 + 2, own4, hB4⟩
            case rest =>
              obtain ⟨rfl, n2, own7, hB7⟩ := hcut
              rename World => W7
              have hws : (lineWords i).map strV = xs ++ (if fj = true then [.string ⟨(decN i.jt).toArray⟩, .string ⟨(decN i.jf).toArray⟩] else []) := by
                rw [lineWords_at hlt HFX.out HNO.out HFIT.out, ← HXS.out]
                unfold Fm.words Fm.written
                cases fj <;> by_cases ho : ot = [] <;> simp [ho, strV]
              rw [← hws] at own7
              have hjn := join_own (lineWords i) (lineWords_clean i HI.out) (fun e => by have := (lineWords_len i).1; rw [e] at this; simp at this) (by have := (lineWords_len i).2; omega) wa.heap.size _ n2 W7 own7
              have hBW7 := (HBW3.out).trans (hB7.mono (by omega))
              have HJ := Lib.hid hjn
              have HBW7 := Lib.hid hBW7
              clear hjn hBW7 hws own7 hB7
              go_wp2_with fail
              refine (HJ.out).mono ?_
              rintro e w8 ⟨rfl, hB8⟩
              go_wp2_with fail
              go_ret
              exact ⟨rfl, (HBW7.out).trans (hB8.mono (by have := (HBW7.out).size; omega))⟩
    · obtain rfl : k = 41 := by omega
      have hb1 := (hBr.block w.heap.size (by omega)).trans HB1.out
      have HBW3 := Lib.hid ((HBW1.out).trans (hBr.mono (by omega)))
      have htw := (HT.out).below (HBW3.out) (Nat.le_refl _)
      have HTW := Lib.hid (fun (W : World) (hg : Grows wr.drew W) => htw.below ((Below.refl wr.heap.size wr).drew.trans hg) (Nat.le_refl _))
      have HI0 := Lib.hid (show wr.drew.cell? ⟨w.heap.size, 0, none⟩ = some (.int .u16 i.code) from (cells4 hb1).1)
      have HI1 := Lib.hid (show wr.drew.cell? ⟨w.heap.size, 1, none⟩ = some (.int .u8 i.jt) from (cells4 hb1).2.1)
      have HI2 := Lib.hid (show wr.drew.cell? ⟨w.heap.size, 2, none⟩ = some (.int .u8 i.jf) from (cells4 hb1).2.2.1)
      have HI3 := Lib.hid (show wr.drew.cell? ⟨w.heap.size, 3, none⟩ = some (.int .u32 i.k) from (cells4 hb1).2.2.2)
      have HW0 := Lib.hid (show IntKind.u32.wrap (i.code : Int) = i.code by rw [IntKind.wrap_u32]; have := (HI.out).1; omega)
      have HW1 := Lib.hid (show IntKind.u32.wrap (i.jt : Int) = i.jt by rw [IntKind.wrap_u32]; have := (HI.out).2.1; omega)
      have HW2 := Lib.hid (show IntKind.u32.wrap (i.jf : Int) = i.jf by rw [IntKind.wrap_u32]; have := (HI.out).2.2.1; omega)
      clear hb1 htw hBr
      have hnl : ¬ ((41 : Nat) : Int) < 41 := by omega
      go_upto_region 12 with fail
      refine Any.wp_region_tailD 16 follows (kdOf [(72, .eq (.pointer (some ⟨w.heap.size, 0, none⟩))), (73, .eq (.int .u16 i.code)), (74, .eq (.int .u32 i.code)), (75, .eq (.string ⟨(decN i.code).toArray⟩)), (76, .eq (.pointer (some ⟨w.heap.size, 1, none⟩))), (77, .eq (.int .u8 i.jt)), (78, .eq (.int .u32 i.jt)), (79, .eq (.string ⟨(decN i.jt).toArray⟩)), (80, .eq (.pointer (some ⟨w.heap.size, 2, none⟩))), (81, .eq (.int .u8 i.jf)), (82, .eq (.int .u32 i.jf)), (83, .eq (.string ⟨(decN i.jf).toArray⟩)), (84, .eq (.pointer (some ⟨w.heap.size, 3, none⟩))), (85, .eq (.int .u32 i.k)), (86, .eq (.string ⟨(decN i.k).toArray⟩)), (87, .own 9 1 5 [.string ⟨#[46, 99, 111, 100, 101]⟩, (.string ⟨(decN i.code).toArray⟩), (.string ⟨(decN i.jt).toArray⟩), (.string ⟨(decN i.jf).toArray⟩), (.string ⟨(decN i.k).toArray⟩)])]) (Any.Slot 2 u2) (by unfold Any.Slot; rfl) [72, 73, 74, 75, 76, 77, 78, 79, 80, 81, 82, 83, 84, 85, 86, 87, 88, 2] [72, 73, 74, 75, 76, 77, 78, 79, 80, 81, 82, 83, 84, 85, 86, 87] (by kernel_rfl) (by kernel_rfl) (by kernel_rfl) (by kernel_rfl) (by kernel_rfl) (by simp) ?steps ?done
      case steps =>
        refine ⟨?_, ?_, ?_, ?_, ?_, ?_, ?_, ?_, ?_, ?_, ?_, ?_, ?_, ?_, ?_, ?_, trivial⟩
        · exact Any.sj (d := 72) rfl (by decide) (Any.st_old1 72 1 _ _ (.plain rfl) rfl (by decide) rfl (fun a w h => by unfold execOp; simp only [h]; simp [go_sem]) (fun _ _ => rfl))
        · exact Any.sj (d := 73) rfl (by decide) (Any.sx_load_at 73 72 _ _ _ (.plain rfl) rfl rfl (by decide) rfl (HI0.out) (fun w h => by simp [go_sem, h]) rfl)
        · exact Any.sj (d := 74) rfl (by decide) (Any.st_conv 74 73 _ _ _ _ (.plain rfl) rfl rfl (by decide) (fun w => by simp [go_sem, HW0.out]) rfl rfl)
        · exact Any.sj (d := 75) rfl (by decide) (Any.st_callv 75 #[.int .u32 i.code] (.plain rfl) rfl rfl Tryz.func36 rfl rfl (fun a w h => by have e0 : a.eval (.tmp 74) = .int .u32 i.code := h.eqv 74 (by decide) rfl; simp only [List.map_toArray, List.map_cons, List.map_nil, e0]) (fun W hg => (decimal_any i.code (by have := (HI.out).1; omega) W (HTW.out W hg)).mono (fun e w' h => ⟨_, h.1, rfl, h.2⟩)))
        · exact Any.sj (d := 76) rfl (by decide) (Any.st_old1 76 1 _ _ (.plain rfl) rfl (by decide) rfl (fun a w h => by unfold execOp; simp only [h]; simp [go_sem]) (fun _ _ => rfl))
        · exact Any.sj (d := 77) rfl (by decide) (Any.sx_load_at 77 76 _ _ _ (.plain rfl) rfl rfl (by decide) rfl (HI1.out) (fun w h => by simp [go_sem, h]) rfl)
        · exact Any.sj (d := 78) rfl (by decide) (Any.st_conv 78 77 _ _ _ _ (.plain rfl) rfl rfl (by decide) (fun w => by simp [go_sem, HW1.out]) rfl rfl)
        · exact Any.sj (d := 79) rfl (by decide) (Any.st_callv 79 #[.int .u32 i.jt] (.plain rfl) rfl rfl Tryz.func36 rfl rfl (fun a w h => by have e0 : a.eval (.tmp 78) = .int .u32 i.jt := h.eqv 78 (by decide) rfl; simp only [List.map_toArray, List.map_cons, List.map_nil, e0]) (fun W hg => (decimal_any i.jt (by have := (HI.out).2.1; omega) W (HTW.out W hg)).mono (fun e w' h => ⟨_, h.1, rfl, h.2⟩)))
        · exact Any.sj (d := 80) rfl (by decide) (Any.st_old1 80 1 _ _ (.plain rfl) rfl (by decide) rfl (fun a w h => by unfold execOp; simp only [h]; simp [go_sem]) (fun _ _ => rfl))
        · exact Any.sj (d := 81) rfl (by decide) (Any.sx_load_at 81 80 _ _ _ (.plain rfl) rfl rfl (by decide) rfl (HI2.out) (fun w h => by simp [go_sem, h]) rfl)
        · exact Any.sj (d := 82) rfl (by decide) (Any.st_conv 82 81 _ _ _ _ (.plain rfl) rfl rfl (by decide) (fun w => by simp [go_sem, HW2.out]) rfl rfl)
        · exact Any.sj (d := 83) rfl (by decide) (Any.st_callv 83 #[.int .u32 i.jf] (.plain rfl) rfl rfl Tryz.func36 rfl rfl (fun a w h => by have e0 : a.eval (.tmp 82) = .int .u32 i.jf := h.eqv 82 (by decide) rfl; simp only [List.map_toArray, List.map_cons, List.map_nil, e0]) (fun W hg => (decimal_any i.jf (by have := (HI.out).2.2.1; omega) W (HTW.out W hg)).mono (fun e w' h => ⟨_, h.1, rfl, h.2⟩)))
        · exact Any.sj (d := 84) rfl (by decide) (Any.st_old1 84 1 _ _ (.plain rfl) rfl (by decide) rfl (fun a w h => by unfold execOp; simp only [h]; simp [go_sem]) (fun _ _ => rfl))
        · exact Any.sj (d := 85) rfl (by decide) (Any.sx_load_at 85 84 _ _ _ (.plain rfl) rfl rfl (by decide) rfl (HI3.out) (fun w h => by simp [go_sem, h]) rfl)
        · exact Any.sj (d := 86) rfl (by decide) (Any.st_callv 86 #[.int .u32 i.k] (.plain rfl) rfl rfl Tryz.func36 rfl rfl (fun a w h => by have e0 : a.eval (.tmp 85) = .int .u32 i.k := h.eqv 85 (by decide) rfl; simp only [List.map_toArray, List.map_cons, List.map_nil, e0]) (fun W hg => (decimal_any i.k (HI.out).2.2.2 W (HTW.out W hg)).mono (fun e w' h => ⟨_, h.1, rfl, h.2⟩)))
        · exact Any.sj (d := 87) rfl (by decide) (Any.sx_builtOwn 87 _ 9 5 1 _ #[(0, .string ⟨#[46, 99, 111, 100, 101]⟩), (1, (.string ⟨(decN i.code).toArray⟩)), (2, (.string ⟨(decN i.jt).toArray⟩)), (3, (.string ⟨(decN i.jf).toArray⟩)), (4, (.string ⟨(decN i.k).toArray⟩))] [.string ⟨#[46, 99, 111, 100, 101]⟩, (.string ⟨(decN i.code).toArray⟩), (.string ⟨(decN i.jt).toArray⟩), (.string ⟨(decN i.jf).toArray⟩), (.string ⟨(decN i.k).toArray⟩)] (.plain rfl) rfl rfl (fun a w h => by have e0 : a.eval (.tmp 75) = (.string ⟨(decN i.code).toArray⟩) := h.eqv 75 (by decide) rfl; have e1 : a.eval (.tmp 79) = (.string ⟨(decN i.jt).toArray⟩) := h.eqv 79 (by decide) rfl; have e2 : a.eval (.tmp 83) = (.string ⟨(decN i.jf).toArray⟩) := h.eqv 83 (by decide) rfl; have e3 : a.eval (.tmp 86) = (.string ⟨(decN i.k).toArray⟩) := h.eqv 86 (by decide) rfl; simp only [List.map_toArray, List.map_cons, List.map_nil, e0, e1, e2, e3]; rfl) (fun w => by kernel_rfl) rfl (by simp [maxLen]) rfl)
      case done =>
        intro f w3 hg hf
        have hown : w3.ownsRow 0 9 1 (f 87) 5 [.string ⟨#[46, 99, 111, 100, 101]⟩, (.string ⟨(decN i.code).toArray⟩), (.string ⟨(decN i.jt).toArray⟩), (.string ⟨(decN i.jf).toArray⟩), (.string ⟨(decN i.k).toArray⟩)] := hf 87 rfl
        simp only [Any.fill, List.foldl_cons, List.foldl_nil, List.setIfInBounds_toArray, List.set_cons_succ, List.set_cons_zero, List.drop_succ_cons, List.drop_zero]
        clear hf
        generalize f 72 = f72, f 73 = f73, f 74 = f74, f 75 = f75, f 76 = f76, f 77 = f77, f 78 = f78, f 79 = f79, f 80 = f80, f 81 = f81, f 82 = f82, f 83 = f83, f 84 = f84, f 85 = f85, f 86 = f86, f 87 = f87, f 88 = f88, f 2 = f2 at *
        have hjn := join_own (rawWords i) (by have := lineWords_clean i HI.out; rw [lineWords_raw HNO.out] at this; exact this) (by simp [rawWords]) (by simp [rawWords]) 0 f87 5 w3 hown
        rw [← lineWords_raw HNO.out] at hjn
        have HJ := Lib.hid hjn
        have HBW7 := Lib.hid ((HBW3.out).trans (((Below.refl _ wr).drew.trans hg).mono (HBW3.out).size))
        clear hjn hown hg
        go_wp2_with fail
        refine (HJ.out).mono ?_
        rintro e w8 ⟨rfl, hB8⟩
        go_wp2_with fail
        go_ret
        exact ⟨rfl, (HBW7.out).trans (hB8.mono (HBW7.out).size)⟩
end Go.Proofs.YtpinnockcnmofaaGreatDoor

/-! The walk of list.Text: a program as text. -/
namespace Go.Proofs.YtpinnockcnmofaaGreatDoor
open Go.RowKit
set_option linter.unusedVariables false

theorem own_belowX {W W' : World} {base : Nat} {e : TypeId} {size n : Nat} {v : Value} {xs : List Value} (h : W.ownsRow base e size v n xs) (hB : Below W.heap.size W W') : W'.ownsRow base e size v n xs := own_grows hB h
theorem builder_below {T e : TypeId} {B b : Nat} {bs : List Value} {w w' : World} (h : Lib.IsBuilder T e B b bs w) (hb : Below w.heap.size w w') : Lib.IsBuilder T e B b bs w' := by
  have key : ∀ p, Lib.BuilderAt T e B b p bs w → Lib.BuilderAt T e B b p bs w' := fun p ⟨h1, v, h2, h3, h4⟩ =>
    ⟨h1, v, (hb.block b (Array.getElem?_eq_some_iff.1 h2).1).trans h2, own_belowX h3 hb, h4⟩
  rcases h with h | h
  · exact .inl (key _ h)
  · exact .inr (key _ h)
theorem putText_any (B b : Nat) (bs : Bs) (s : Bs) (w : World) (h : Lib.IsBuilder 62 5 B b (Lib.byteCells bs) w) (hlen : bs.length + s.length ≤ 1000000) (hBw : B ≤ w.heap.size) :
    Calls Tryz.prog 16 #[.pointer (some ⟨b, 0, none⟩), .string ⟨s.toArray⟩] w fun e w' => (∃ v, e = .returned v) ∧ Lib.IsBuilder 62 5 B b (Lib.byteCells (bs ++ s)) w' ∧ Below B w w' := by
  refine (sh_WriteString B b (Lib.byteCells bs) ⟨s.toArray⟩ w h (by rw [Lib.byteCells_length]; show bs.length + s.toArray.size ≤ _; rw [List.size_toArray]; omega) hBw).mono ?_
  rintro e w' ⟨rfl, h1, h2⟩
  refine ⟨⟨_, rfl⟩, .inr ?_, h2⟩
  have e1 : Lib.byteCells (bs ++ s) = Lib.byteCells bs ++ Lib.strCells ⟨s.toArray⟩ := by
    rw [Lib.strCells_toArray]
    simp [Lib.byteCells]
  rw [e1]
  exact h1

set_option maxRecDepth 100000 in
set_option maxHeartbeats 4000000 in
theorem text_any (l : List I) (hok : ∀ i ∈ l, i.Ok) (A : Option Addr) (n c : Nat) (w : World) (hr : Reads w w.heap.size 4 A n (cellsI l)) (hn : n ≤ 4096) (ht : Tabs w) :
    Calls Tryz.prog 8 #[.slice A n c] w fun e w' => e = .returned (strV (textN l)) ∧ Below w.heap.size w w' := by
  have hl : n = l.length := by have := hr.1; rw [cellsI_length] at this; omega
  have HL := Lib.hid hl
  have HT := Lib.hid ht
  clear hl ht
  have hb0 := Lib.fresh_isBuilder 62 5 w
  have hB0 : Below w.heap.size w (w.alloc (.cells #[.pointer none, .slice none 0 0] 62)) := (Below.refl _ w).alloc (Nat.le_refl _) _
  have HB0 := Lib.hid hb0
  have HBB0 := Lib.hid hB0
  clear hb0 hB0
  go_enter Tryz.func8, Tryz.ntmps8
  go_wp2_with fail
  go_loopw [8] (fun x wr => ∃ k : Nat, k ≤ n ∧ x = .int .i64 k ∧ Lib.IsBuilder 62 5 w.heap.size w.heap.size (Lib.byteCells (textN (l.take k))) wr ∧ Below w.heap.size w wr) (fun x _ => n - (intOf x).toNat)
  case atStart => exact ⟨0, by omega, rfl, HB0.out, HBB0.out⟩
  case round =>
    obtain ⟨k, hk, rfl, hbu, hB⟩ := hrel
    clear HB0 HBB0
    by_cases hlt : k < n
    · have hlt1 : (k : Int) < (n : Int) := by omega
      have hz0' : (0 : Int) ≤ (k : Int) := Int.natCast_nonneg _
      obtain ⟨b, off, rfl, hb, c0, c1, c2, c3⟩ := (hr.below hB).at4 hlt
      have hio := getD_ok hok (k := k) (by have := HL.out; omega)
      have hstep := take_snocI l k (by have := HL.out; omega)
      have htext : textN (l.take (k + 1)) = textN (l.take k) ++ (lineN (l.getD k default) ++ [10]) := by
        rw [hstep]; unfold textN; rw [List.flatMap_append]; simp
      have htl := text_len (l.take k) (fun i hi => hok i (List.mem_of_mem_take hi))
      have hll := line_len _ hio
      rw [List.length_take] at htl
      generalize hx : l.getD k default = x at *
      have HX := Lib.hid (And.intro hio (And.intro htext (And.intro htl hll)))
      have HBU := Lib.hid hbu
      have HBk := Lib.hid hB
      clear hio htext htl hstep hbu hB hr hx hll
      go_wp2_with fail
      have hB2 := (HBk.out).alloc (HBk.out).size (.cells #[.int .u16 x.code, .int .u8 x.jt, .int .u8 x.jf, .int .u32 x.k] 47)
      have hbu2 := builder_below HBU.out ((Below.refl wr.heap.size wr).alloc (Nat.le_refl _) (.cells #[.int .u16 x.code, .int .u8 x.jt, .int .u8 x.jf, .int .u32 x.k] 47))
      generalize (wr.alloc (.cells #[.int .u16 x.code, .int .u8 x.jt, .int .u8 x.jf, .int .u32 x.k] 47)) = W2 at *
      have hcall := line_any x (HX.out).1 W2 ((HT.out).below hB2 (Nat.le_refl _))
      unfold strV at hcall
      refine hcall.mono ?_
      rintro e w3 ⟨rfl, hB3⟩
      have hbu3 := builder_below hbu2 hB3
      have hBw3 := hB2.trans (hB3.mono hB2.size)
      have hadd : ¬ 9223372036854775807 < List.length (lineN x) + 1 := by have := (HX.out).2.2.2; omega
      have HBU3 := Lib.hid hbu3
      have HBW3 := Lib.hid hBw3
      clear hcall hbu2 hB2 hB3 hbu3 hBw3 HBU HBk
      go_wp2_with fail
      rw [show (⟨(lineN x).toArray⟩ : ByteArray) ++ ⟨#[10]⟩ = ⟨(lineN x ++ [10]).toArray⟩ from bytes_app _ [10]]
      refine (putText_any w.heap.size w.heap.size (textN (l.take k)) (lineN x ++ [10]) w3 HBU3.out (by have h1 := (HX.out).2.2.1; have h2 := (HX.out).2.2.2; rw [List.length_append]; simp only [List.length_cons, List.length_nil]; omega) (HBW3.out).size).mono ?_
      rintro e w4 ⟨⟨v4, rfl⟩, hbu4, hB4⟩
      rw [← (HX.out).2.1] at hbu4
      have HBU4 := Lib.hid hbu4
      have HBW4 := Lib.hid ((HBW3.out).trans hB4)
      clear hbu4 hB4 hadd
      go_wp2_with fail
      go_roundw
      case rel => exact ⟨k + 1, by omega, by go_num, HBU4.out, HBW4.out⟩
      case measure => simp [intOf]; omega
    · obtain rfl : k = n := by omega
      have hfin : l.take k = l := List.take_of_length_le (by have := HL.out; omega)
      rw [hfin] at hbu
      have HBU := Lib.hid hbu
      have HBk := Lib.hid hB
      clear hfin hbu hB hr
      go_wp2_with fail
      refine (sh_Builder_String_any w.heap.size w.heap.size (textN l) wr HBU.out (HBk.out).size).mono ?_
      rintro e w4 ⟨rfl, hB4⟩
      go_wp2_with fail
      go_ret
      exact ⟨rfl, (HBk.out).trans hB4⟩
end Go.Proofs.YtpinnockcnmofaaGreatDoor
