/-
  The walk of strainerref21.Reached: which instructions some way leads to.
-/
import Derived.Test.YtgalkidhgjgbhaaAsmBehind
import Derived.Test.YtgalkidhgjgbhaaWalkReached
import Derived.Test.YtgalkidhgjgbhaaWalkRStored
namespace Go.Proofs.Ytgalkidhgjgbhaa
open Go.RowKit
set_option linter.unusedVariables false

set_option maxRecDepth 100000 in
set_option maxHeartbeats 4000000 in
theorem reached21_any (l : List It) (hok : ∀ x ∈ l, x.Ok) (hF : Form l) (A : Option Addr) (n c : Nat) (w : World) (hr : Reads w w.heap.size 5 A n (cellsT l)) (hn : n ≤ 100000) :
    Calls Try.prog 56 #[.slice A n c] w fun e w' => ∃ (out : List Bool) (A' : Option Addr) (c' : Nat), e = .returned (.slice A' n c') ∧ Holds21 l l.length out ∧ Reads w' w'.heap.size 1 A' n (boolsV (out.take n)) ∧ Below w.heap.size w w' := by
  obtain ⟨i0, hi0, hz0, hz1, hz2⟩ := info_parts info_bool
  have hl : n = l.length := by have := hr.1; rw [cellsT_length] at this; omega
  have HL := Lib.hid hl
  have hfirst := fun q h => Holds21.first (l := l) (q := q) h
  rw [← hl] at hfirst
  have HFIRST := Lib.hid hfirst
  clear hl hfirst
  go_enter Try.func56, Try.ntmps56
  go_wp2_with (refine wpList_make_full w rfl (.tmp 11) (.tmp 11) 87 rfl w.heap.size 4 i0 _ 1 Try.underlying87 hi0 hz0 hz1 .i64 .i64 ((n : Int) + 1) ((n : Int) + 1) (n + 1) rfl rfl (by omega) (by omega) (by rw [hz2]; omega) (by simp only [maxLen]; omega) (Nat.le_refl _) ?_; intro w1 own1 hg1; rw [made_bools] at own1; obtain ⟨gb, capb, hv, hgb, hcb, hmb, hrb⟩ := own_rowK own1 (by omega) (by omega); injection hv with hv1 hv2 hv3; injection hv1 with hv4; injection hv4 with hv5; subst hv5; subst hv3; have hB1 : Below w.heap.size w w1 := (Below.refl _ w).grown hg1 (Nat.le_refl _) (fun k e => by cases e))
  refine (behind_any l A n c 0 w1 ((hr.below hB1).more hB1.size) (by omega) (by omega)).mono ?_
  rintro e w2 ⟨⟨q, rfl, hq⟩, rfl⟩
  have hql : q ≤ n := by have := hq.hi; have := HL.out; omega
  have cb0 := hrb.cell (boolsV_get _ q (by simp; omega))
  have fb0 := hrb.frozen q
  have z0 : (0 : Int) ≤ (q : Int) := by omega
  have z1 : (q : Int) < (n : Int) + 1 := by omega
  have hrb2 := hrb.set_ q (.bool true)
  rw [boolsV_set, Nat.mul_one] at hrb2
  have hB2 : Below w.heap.size w (w1.setCell ⟨w.heap.size, q, none⟩ (.bool true)) := hB1.setCell (Nat.le_refl _) _
  have hH := HFIRST.out q hq
  go_wp2_with fail
  clear own1 hg1 hgb hcb hmb hrb cb0 fb0 hB1
  generalize (List.replicate (n + 1) false).set q true = out0 at *
  generalize w1.setCell ⟨w.heap.size, q, none⟩ (.bool true) = w2 at *
  go_loopw [4] (fun i wr => ∃ (k : Nat) (out : List Bool), k ≤ n ∧ i = .int .i64 k ∧ Holds21 l k out ∧ RowK wr w.heap.size 4 (n + 1) (boolsV out) ∧ Below w.heap.size w wr) (fun i _ => n - (intOf i).toNat)
  case atStart => exact ⟨0, out0, by omega, rfl, hH, hrb2, hB2⟩
  case round =>
    obtain ⟨k, out, hk, rfl, hH, hrb, hB⟩ := hrel
    by_cases hlt : k < n
    · have hkl : k < l.length := by have := HL.out; omega
      obtain ⟨b, off, rfl, hb, hc⟩ := (hr.below hB).at5 hlt
      obtain ⟨m0, m1, m2, m3, m4⟩ := hc k hlt
      have hcb := hrb.cell (boolsV_get _ k (by rw [hH.1]; omega))
      have z0 : (0 : Int) ≤ (k : Int) := by omega
      have z1 : (k : Int) < (n : Int) := by omega
      have z2 : (k : Int) < (n : Int) + 1 := by omega
      by_cases hm : (l.getD k default).mark = 0
      · cases hro : out.getD k false with
        | false =>
          have hskip := hH.skip hF hkl hm (.inl (fun h => by have := (hH.reach hF hkl hm).2 h; rw [hro] at this; cases this))
          have HS := Lib.hid hskip
          rw [hm] at m0
          rw [hro] at hcb
          clear hskip hc m1 m2 m3 m4 hm hro
          go_wp2_with fail
          go_roundw
          case rel => exact ⟨k + 1, out, by omega, by go_num, HS.out, hrb, hB⟩
          case measure => simp [intOf] <;> omega
        | true =>
          have hx := getD_okT hok hkl
          have hre := (hH.reach hF hkl hm).1 hro
          have hcode := hx.2.1
          rw [hm] at m0
          rw [hro] at hcb
          have HRE := Lib.hid hre
          have HX := Lib.hid hx
          have HM := Lib.hid hm
          have HO := Lib.hid hro
          have HH := Lib.hid hH
          clear hc hre hx hm hro hH m2 m3 m4
          generalize hcx : (l.getD k default).code = cd at m1 hcode
          have HCX := Lib.hid hcx
          clear hcx
          go_wp2_with fail
          refine (refOf_any cd hcode _).mono ?_
          rintro e w3 ⟨rfl, hB3⟩
          have hrb3 := hrb.below hB3 hrb.lt
          have hB3w := hB.trans (hB3.mono hB.size)
          have hr3 := (hr.below hB3w).more hB3w.size
          obtain ⟨b', off', e1, hb', hc'⟩ := (hr.below hB3w).at5 hlt
          cases e1
          obtain ⟨-, -, -, m3, m4⟩ := hc' k hlt
          have hkd : (l.getD k default).kd = (ofN cd).1 := by unfold It.kd; rw [HCX.out]
          have hit := ins_at l k hkl HM.out
          have hok3 := hF.1 k hkl
          unfold OkAt at hok3
          rw [if_neg (by rw [HM.out]; simp), hkd] at hok3
          have hyn : yesN l (cnt l k) = if isEnd (ofN cd).1 then (-1 : Int) else ((toN l (cnt l k) (l.getD k default).tr : Nat) : Int) := by unfold yesN; rw [hit, hkd]
          have hnn : noN l (cnt l k) = if 25 ≤ (ofN cd).1 then ((toN l (cnt l k) (l.getD k default).fa : Nat) : Int) else (-1 : Int) := by unfold noN; rw [hit, hkd]
          clear hrb hB hcb m0 m1 hc' hb' hkd hit hcode
          generalize (ofN cd).1 = kk at *
          generalize (ofN cd).2 = xx at *
          by_cases hend : isEnd kk
          · have hskip := HH.out.skip hF hkl HM.out (.inr ⟨by rw [hyn, if_pos hend], by rw [hnn, if_neg (by unfold isEnd at hend; omega)]⟩)
            have HS := Lib.hid hskip
            clear hyn hnn hok3 hskip
            rcases hend with rfl | rfl
            all_goals
              go_wp2_with fail
              go_roundw
              case rel => exact ⟨k + 1, out, by omega, by go_num, HS.out, hrb3, hB3w⟩
              case measure => simp [intOf] <;> omega
          · have yn : ¬ isEnd kk → yesN l (cnt l k) = (toN l (cnt l k) (l.getD k default).tr : Nat) := fun h => by rw [hyn, if_neg h]
            have nn : 25 ≤ kk → noN l (cnt l k) = (toN l (cnt l k) (l.getD k default).fa : Nat) := fun h => by rw [hnn, if_pos h]
            have n0 : ¬ 25 ≤ kk → noN l (cnt l k) = -1 := fun h => by rw [hnn, if_neg h]
            have ut : (l.getD k default).tr ≠ 0 → ∃ j, Uniq l (l.getD k default).tr j := fun h => by obtain ⟨_, j, _, hj⟩ := hok3.2.1 h; exact ⟨j, hj⟩
            have uf : (l.getD k default).fa ≠ 0 → ∃ j, Uniq l (l.getD k default).fa j := fun h => by obtain ⟨_, j, _, hj⟩ := hok3.2.2 h; exact ⟨j, hj⟩
            have yn' := yn hend
            have YN : Hid (25 ≤ 28 → yesN l (cnt l k) = (toN l (cnt l k) (l.getD k default).tr : Nat)) := Lib.hid fun _ => yn'
            have NN := Lib.hid nn
            have N0 := Lib.hid n0
            have UT := Lib.hid ut
            have UF := Lib.hid uf
            clear hyn hnn hok3 yn nn n0 ut uf yn'
            unfold isEnd at hend
            have d14 : ¬ (kk : Int) = 14 := by omega
            have d15 : ¬ (kk : Int) = 15 := by omega
            have e14 : ((kk : Int) == 14) = false := by simp; omega
            have e15 : ((kk : Int) == 15) = false := by simp; omega
            have hbk := fun W h => behind_any l (some ⟨b, off, none⟩) n c (k + 1) W h (by omega) (by omega)
            rw [show ((k + 1 : Nat) : Int) = (k : Int) + 1 by omega] at hbk
            have HBK := Lib.hid hbk
            clear hbk
            go_wp2_with fail
            refine (HBK.out w3 hr3).mono ?_
            rintro e w5 ⟨⟨q, rfl, hq⟩, rfl⟩
            go_wp2_with fail
            refine (HBK.out w3 hr3).mono ?_
            rintro e w5 ⟨⟨q', rfl, hq'⟩, rfl⟩
            obtain rfl : q' = q := by
              rcases Nat.lt_trichotomy q q' with h1 | h1 | h1
              · exact absurd (hq.ends (by have := hq'.hi; omega)) (hq'.marks q hq.le h1)
              · exact h1.symm
              · exact absurd (hq'.ends (by have := hq.hi; omega)) (hq.marks q' hq'.le h1)
            have hql : q' ≤ n := by have := hq.hi; have := HL.out; omega
            have hq0T := Lib.hid hq
            have hq0F := Lib.hid hq
            clear hq hq' HBK
            obtain ⟨tr, hTR⟩ : ∃ x, x = (l.getD k default).tr := ⟨_, rfl⟩
            obtain ⟨fa, hFA⟩ : ∃ x, x = (l.getD k default).fa := ⟨_, rfl⟩
            rw [← hTR] at m3 YN UT
            rw [← hFA] at m4 NN UF
            clear hTR hFA
            by_cases hT : tr = 0
            · rw [hT] at m3
              have hy : Way l k tr q' := by unfold Way; rw [if_pos hT]; exact hq0T.out
              have hby : q' ≤ n := by omega
              by_cases hF0 : fa = 0
              · rw [hF0] at m4
                have hu : Way l k fa q' := by unfold Way; rw [if_pos hF0]; exact hq0F.out
                have hbu : q' ≤ n := by omega
                have cy := hrb3.cell (boolsV_get _ q' (by rw [HH.out.1]; have := HL.out; omega))
                have fy := hrb3.frozen q'
                have zy : (0 : Int) ≤ (q' : Int) := by omega
                have zy1 : (q' : Int) < (n : Int) + 1 := by omega
                have cu := hrb3.cell (boolsV_get _ q' (by rw [HH.out.1]; have := HL.out; omega))
                have fu := hrb3.frozen q'
                have zu : (0 : Int) ≤ (q' : Int) := by omega
                have zu1 : (q' : Int) < (n : Int) + 1 := by omega
                have HY := Lib.hid hy
                have HU := Lib.hid hu
                have HR3 := Lib.hid hrb3
                clear hy hu hrb3 hql
                by_cases h25 : 25 ≤ kk
                · have g25 : (25 : Int) ≤ (kk : Int) := by omega
                  have htwo := HH.out.two hF hkl HM.out HRE.out (UT.out) (UF.out) HY.out HU.out (by have := HL.out; omega) (by have := HL.out; omega) (YN.out (by omega)) (NN.out h25)
                  have HW := Lib.hid htwo
                  clear htwo
                  clear cu fu zu zu1
                  go_wp2_with fail
                  go_roundw
                  case rel =>
                    refine ⟨k + 1, _, by omega, by go_num, HW.out, ?_, (hB3w.setCell (Nat.le_refl _) _).setCell (Nat.le_refl _) _⟩
                    rw [← boolsV_set, ← boolsV_set]
                    exact (HR3.out.set_ _ _).set_ _ _
                  case measure => simp [intOf] <;> omega
                · have g25 : ¬ (25 : Int) ≤ (kk : Int) := by omega
                  have hone := HH.out.one hF hkl HM.out HRE.out (UT.out) HY.out (by have := HL.out; omega) (YN.out (by omega)) (N0.out h25)
                  have HW := Lib.hid hone
                  clear hone cu fu zu zu1
                  go_wp2_with fail
                  go_roundw
                  case rel =>
                    refine ⟨k + 1, _, by omega, by go_num, HW.out, ?_, hB3w.setCell (Nat.le_refl _) _⟩
                    rw [← boolsV_set]
                    exact HR3.out.set_ _ _
                  case measure => simp [intOf] <;> omega
              · have qF : (fa != 0) = true := by simpa using hF0
                go_wp2_with fail
                refine (place_any l _ n c _ w3 hr3 (by omega)).mono ?_
                rintro e w5 ⟨⟨aF, rfl, hpaF⟩, rfl⟩
                have halF : aF ≤ n := by have := hpaF.hi; have := HL.out; omega
                go_wp2_with fail
                refine (behind_any l _ n c aF w3 hr3 (by omega) halF).mono ?_
                rintro e w5 ⟨⟨u, rfl, hbbF⟩, rfl⟩
                have hu : Way l k fa u := by unfold Way; rw [if_neg hF0]; exact ⟨aF, hpaF, hbbF⟩
                have hbu : u ≤ n := by have := hbbF.hi; have := HL.out; omega
                clear hpaF hbbF
                have cy := hrb3.cell (boolsV_get _ q' (by rw [HH.out.1]; have := HL.out; omega))
                have fy := hrb3.frozen q'
                have zy : (0 : Int) ≤ (q' : Int) := by omega
                have zy1 : (q' : Int) < (n : Int) + 1 := by omega
                have cu := hrb3.cell (boolsV_get _ u (by rw [HH.out.1]; have := HL.out; omega))
                have fu := hrb3.frozen u
                have zu : (0 : Int) ≤ (u : Int) := by omega
                have zu1 : (u : Int) < (n : Int) + 1 := by omega
                have HY := Lib.hid hy
                have HU := Lib.hid hu
                have HR3 := Lib.hid hrb3
                clear hy hu hrb3 hql
                by_cases h25 : 25 ≤ kk
                · have g25 : (25 : Int) ≤ (kk : Int) := by omega
                  have htwo := HH.out.two hF hkl HM.out HRE.out (UT.out) (UF.out) HY.out HU.out (by have := HL.out; omega) (by have := HL.out; omega) (YN.out (by omega)) (NN.out h25)
                  have HW := Lib.hid htwo
                  clear htwo
                  by_cases e : q' = u
                  · subst e
                    clear cu fu zu zu1
                    go_wp2_with fail
                    go_roundw
                    case rel =>
                      refine ⟨k + 1, _, by omega, by go_num, HW.out, ?_, (hB3w.setCell (Nat.le_refl _) _).setCell (Nat.le_refl _) _⟩
                      rw [← boolsV_set, ← boolsV_set]
                      exact (HR3.out.set_ _ _).set_ _ _
                    case measure => simp [intOf] <;> omega
                  · go_wp2_with fail
                    go_roundw
                    case rel =>
                      refine ⟨k + 1, _, by omega, by go_num, HW.out, ?_, (hB3w.setCell (Nat.le_refl _) _).setCell (Nat.le_refl _) _⟩
                      rw [← boolsV_set, ← boolsV_set]
                      exact (HR3.out.set_ _ _).set_ _ _
                    case measure => simp [intOf] <;> omega
                · have g25 : ¬ (25 : Int) ≤ (kk : Int) := by omega
                  have hone := HH.out.one hF hkl HM.out HRE.out (UT.out) HY.out (by have := HL.out; omega) (YN.out (by omega)) (N0.out h25)
                  have HW := Lib.hid hone
                  clear hone cu fu zu zu1
                  go_wp2_with fail
                  go_roundw
                  case rel =>
                    refine ⟨k + 1, _, by omega, by go_num, HW.out, ?_, hB3w.setCell (Nat.le_refl _) _⟩
                    rw [← boolsV_set]
                    exact HR3.out.set_ _ _
                  case measure => simp [intOf] <;> omega
            · have qT : (tr != 0) = true := by simpa using hT
              go_wp2_with fail
              refine (place_any l _ n c _ w3 hr3 (by omega)).mono ?_
              rintro e w5 ⟨⟨aT, rfl, hpaT⟩, rfl⟩
              have halT : aT ≤ n := by have := hpaT.hi; have := HL.out; omega
              go_wp2_with fail
              refine (behind_any l _ n c aT w3 hr3 (by omega) halT).mono ?_
              rintro e w5 ⟨⟨y, rfl, hbbT⟩, rfl⟩
              have hy : Way l k tr y := by unfold Way; rw [if_neg hT]; exact ⟨aT, hpaT, hbbT⟩
              have hby : y ≤ n := by have := hbbT.hi; have := HL.out; omega
              clear hpaT hbbT
              by_cases hF0 : fa = 0
              · rw [hF0] at m4
                have hu : Way l k fa q' := by unfold Way; rw [if_pos hF0]; exact hq0F.out
                have hbu : q' ≤ n := by omega
                have cy := hrb3.cell (boolsV_get _ y (by rw [HH.out.1]; have := HL.out; omega))
                have fy := hrb3.frozen y
                have zy : (0 : Int) ≤ (y : Int) := by omega
                have zy1 : (y : Int) < (n : Int) + 1 := by omega
                have cu := hrb3.cell (boolsV_get _ q' (by rw [HH.out.1]; have := HL.out; omega))
                have fu := hrb3.frozen q'
                have zu : (0 : Int) ≤ (q' : Int) := by omega
                have zu1 : (q' : Int) < (n : Int) + 1 := by omega
                have HY := Lib.hid hy
                have HU := Lib.hid hu
                have HR3 := Lib.hid hrb3
                clear hy hu hrb3 hql
                by_cases h25 : 25 ≤ kk
                · have g25 : (25 : Int) ≤ (kk : Int) := by omega
                  have htwo := HH.out.two hF hkl HM.out HRE.out (UT.out) (UF.out) HY.out HU.out (by have := HL.out; omega) (by have := HL.out; omega) (YN.out (by omega)) (NN.out h25)
                  have HW := Lib.hid htwo
                  clear htwo
                  by_cases e : y = q'
                  · subst e
                    clear cu fu zu zu1
                    go_wp2_with fail
                    go_roundw
                    case rel =>
                      refine ⟨k + 1, _, by omega, by go_num, HW.out, ?_, (hB3w.setCell (Nat.le_refl _) _).setCell (Nat.le_refl _) _⟩
                      rw [← boolsV_set, ← boolsV_set]
                      exact (HR3.out.set_ _ _).set_ _ _
                    case measure => simp [intOf] <;> omega
                  · go_wp2_with fail
                    go_roundw
                    case rel =>
                      refine ⟨k + 1, _, by omega, by go_num, HW.out, ?_, (hB3w.setCell (Nat.le_refl _) _).setCell (Nat.le_refl _) _⟩
                      rw [← boolsV_set, ← boolsV_set]
                      exact (HR3.out.set_ _ _).set_ _ _
                    case measure => simp [intOf] <;> omega
                · have g25 : ¬ (25 : Int) ≤ (kk : Int) := by omega
                  have hone := HH.out.one hF hkl HM.out HRE.out (UT.out) HY.out (by have := HL.out; omega) (YN.out (by omega)) (N0.out h25)
                  have HW := Lib.hid hone
                  clear hone cu fu zu zu1
                  go_wp2_with fail
                  go_roundw
                  case rel =>
                    refine ⟨k + 1, _, by omega, by go_num, HW.out, ?_, hB3w.setCell (Nat.le_refl _) _⟩
                    rw [← boolsV_set]
                    exact HR3.out.set_ _ _
                  case measure => simp [intOf] <;> omega
              · have qF : (fa != 0) = true := by simpa using hF0
                go_wp2_with fail
                refine (place_any l _ n c _ w3 hr3 (by omega)).mono ?_
                rintro e w5 ⟨⟨aF, rfl, hpaF⟩, rfl⟩
                have halF : aF ≤ n := by have := hpaF.hi; have := HL.out; omega
                go_wp2_with fail
                refine (behind_any l _ n c aF w3 hr3 (by omega) halF).mono ?_
                rintro e w5 ⟨⟨u, rfl, hbbF⟩, rfl⟩
                have hu : Way l k fa u := by unfold Way; rw [if_neg hF0]; exact ⟨aF, hpaF, hbbF⟩
                have hbu : u ≤ n := by have := hbbF.hi; have := HL.out; omega
                clear hpaF hbbF
                have cy := hrb3.cell (boolsV_get _ y (by rw [HH.out.1]; have := HL.out; omega))
                have fy := hrb3.frozen y
                have zy : (0 : Int) ≤ (y : Int) := by omega
                have zy1 : (y : Int) < (n : Int) + 1 := by omega
                have cu := hrb3.cell (boolsV_get _ u (by rw [HH.out.1]; have := HL.out; omega))
                have fu := hrb3.frozen u
                have zu : (0 : Int) ≤ (u : Int) := by omega
                have zu1 : (u : Int) < (n : Int) + 1 := by omega
                have HY := Lib.hid hy
                have HU := Lib.hid hu
                have HR3 := Lib.hid hrb3
                clear hy hu hrb3 hql
                by_cases h25 : 25 ≤ kk
                · have g25 : (25 : Int) ≤ (kk : Int) := by omega
                  have htwo := HH.out.two hF hkl HM.out HRE.out (UT.out) (UF.out) HY.out HU.out (by have := HL.out; omega) (by have := HL.out; omega) (YN.out (by omega)) (NN.out h25)
                  have HW := Lib.hid htwo
                  clear htwo
                  by_cases e : y = u
                  · subst e
                    clear cu fu zu zu1
                    go_wp2_with fail
                    go_roundw
                    case rel =>
                      refine ⟨k + 1, _, by omega, by go_num, HW.out, ?_, (hB3w.setCell (Nat.le_refl _) _).setCell (Nat.le_refl _) _⟩
                      rw [← boolsV_set, ← boolsV_set]
                      exact (HR3.out.set_ _ _).set_ _ _
                    case measure => simp [intOf] <;> omega
                  · go_wp2_with fail
                    go_roundw
                    case rel =>
                      refine ⟨k + 1, _, by omega, by go_num, HW.out, ?_, (hB3w.setCell (Nat.le_refl _) _).setCell (Nat.le_refl _) _⟩
                      rw [← boolsV_set, ← boolsV_set]
                      exact (HR3.out.set_ _ _).set_ _ _
                    case measure => simp [intOf] <;> omega
                · have g25 : ¬ (25 : Int) ≤ (kk : Int) := by omega
                  have hone := HH.out.one hF hkl HM.out HRE.out (UT.out) HY.out (by have := HL.out; omega) (YN.out (by omega)) (N0.out h25)
                  have HW := Lib.hid hone
                  clear hone cu fu zu zu1
                  go_wp2_with fail
                  go_roundw
                  case rel =>
                    refine ⟨k + 1, _, by omega, by go_num, HW.out, ?_, hB3w.setCell (Nat.le_refl _) _⟩
                    rw [← boolsV_set]
                    exact HR3.out.set_ _ _
                  case measure => simp [intOf] <;> omega
      · have hskip := hH.mark hkl hm
        have HS := Lib.hid hskip
        have q1 : ((l.getD k default).mark != 0) = true := by simpa using hm
        generalize (l.getD k default).mark = mm at m0 q1
        clear hskip hc m1 m2 m3 m4 hm
        go_wp2_with fail
        go_roundw
        case rel => exact ⟨k + 1, out, by omega, by go_num, HS.out, hrb, hB⟩
        case measure => simp [intOf] <;> omega
    · have hkn : k = n := by omega
      subst hkn
      have z1 : ¬ (k : Int) < (k : Int) := by omega
      go_wp2_with fail
      go_ret
      have hkl := HL.out
      have hol := hH.1
      refine ⟨out, some ⟨w.heap.size, 0, none⟩, ⟨k + 1, rfl⟩, by rw [← hkl]; exact hH, ?_, hB⟩
      obtain ⟨-, h2⟩ := hrb.reads
      refine ⟨by simp [boolsV]; omega, fun h0 => ?_⟩
      obtain ⟨ad, e, hb, hc⟩ := h2 (by simp [boolsV]; omega)
      refine ⟨ad, e, hb, fun j u hu => hc j u ?_⟩
      unfold boolsV at hu ⊢
      rw [List.map_take, List.getElem?_take] at hu
      split at hu
      · exact hu
      · cases hu
end Go.Proofs.Ytgalkidhgjgbhaa
