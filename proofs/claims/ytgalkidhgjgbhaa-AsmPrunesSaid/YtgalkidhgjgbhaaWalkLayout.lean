/-
  The walk of asm.layout: steps in their places, until no jump is too far.
-/
import Derived.Test.YtgalkidhgjgbhaaWalkReached
import Derived.Test.YtgalkidhgjgbhaaAsmLay
namespace Go.Proofs.Ytgalkidhgjgbhaa
open Go.RowKit
set_option linter.unusedVariables false

set_option maxRecDepth 100000 in
theorem size_any (s : St) (w : World) : Calls Try.prog 96 #[.agg #[.int .i64 s.it.mark, .int .u16 s.it.code, .int .u32 s.it.k, .int .i64 s.it.tr, .int .i64 s.it.fa, .int .i64 (s.it.kd : Nat), .int .i64 s.yes, .int .i64 s.no, .bool s.far, .int .i64 (s.at_ : Nat), .bool s.dead]] w fun e w' =>
    e = .returned (.int .i64 ((if s.dead then 0 else if s.far then 3 else 1 : Nat) : Nat)) ∧ Below w.heap.size w w' := by
  obtain ⟨it, y, o, f, p, d⟩ := s
  simp only
  generalize it.kd = kk
  obtain ⟨xm, xc, xk, xt, xf⟩ := it
  simp only
  cases d <;> cases f
  all_goals
    go_enter Try.func96, Try.ntmps96
    go_wp2_with fail
    go_ret
    exact ⟨rfl, (Below.refl _ w).alloc (Nat.le_refl _) _⟩
def nearW (g N : Nat) (W : World) : Nat := (List.range N).countP fun n => match W.cell? ⟨g, n * 11 + 8, none⟩ with | some (.bool b) => !b | _ => false
theorem nearW_eq {L : List It} {Y O : Nat → Int} {F : Nat → Bool} {P : Nat → Nat} {D : Nat → Bool} {W : World} {g cap : Nat} {t : TypeId} (h : RowK W g t cap (cellsS (stL L Y O F P D))) : nearW g L.length W = nearN L.length F := by
  unfold nearW nearN
  apply List.countP_congr
  intro n hn
  rw [stL_cell (List.mem_range.1 hn) h 8 (by omega) (.bool (F n)) rfl]
def pUp (l : List It) (F : Nat → Bool) (P : Nat → Nat) (k : Nat) : Nat → Nat := fun n => if n < k then plN l F n else P n
theorem pUp_succ (l : List It) (F : Nat → Bool) (P : Nat → Nat) (k : Nat) : pUp l F P (k + 1) = upd (pUp l F P k) k (plN l F k) := by
  funext n
  unfold upd
  by_cases e : n = k
  · subst e; simp [pUp]
  · rw [if_neg e]
    show (if n < k + 1 then _ else _) = (if n < k then _ else _)
    by_cases h : n < k
    · rw [if_pos (by omega), if_pos h]
    · rw [if_neg (by omega), if_neg h]
theorem keep_set {W : World} {g a b : Nat} {x v : Value} (h : W.cell? ⟨g, a, none⟩ = some x) (hne : b ≠ a) : ((W.setCell ⟨g, b, none⟩ v).drew).cell? ⟨g, a, none⟩ = some x := (World.cell?_setCell_other _ _ _ _ (fun e => hne (by injection e))).trans h
theorem fUp_upd (l : List It) (F : Nat → Bool) (k : Nat) : fUp l F (k + 1) = upd (fUp l F k) k (newF l F k) := fUp_succ l F k
theorem fUp_same {l : List It} {F : Nat → Bool} {k : Nat} (h : newF l F k = F k) (P : Nat → Nat) (Y O : Nat → Int) (D : Nat → Bool) (L : List It) : stL L Y O (fUp l F (k + 1)) P D = stL L Y O (fUp l F k) P D := stL_congr fun n _ => ⟨rfl, rfl, by
  rw [fUp_upd]
  unfold upd
  by_cases e : n = k
  · subst e; rw [if_pos rfl, h]; simp [fUp]
  · rw [if_neg e], rfl, rfl⟩
theorem szN_eq (l : List It) (F : Nat → Bool) (n : Nat) : szN l F n = if (!reachB l n) = true then 0 else if F n = true then 3 else 1 := by
  unfold szN
  cases reachB l n <;> simp
def TellsLaid (l : List It) (g cap B : Nat) (w : World) (e : Ending) (w' : World) : Prop :=
  ∃ F : Nat → Bool, Laid l F ∧ e = .returned (.int .i64 (plN l F (ins l).length : Nat)) ∧ RowK w' g 104 (cap * 11) (cellsS (stL (ins l) (yesN l) (noN l) F (plN l F) fun n => !reachB l n)) ∧ Below B w w'

set_option maxRecDepth 100000 in
set_option maxHeartbeats 4000000 in
theorem layout_any (l : List It) (hF : Form l) (g cap c B : Nat) (w : World) (hg : B ≤ g) (hr : RowK w g 104 (cap * 11) (cellsS (stL (ins l) (yesN l) (noN l) z0B z0N fun n => !reachB l n))) (hn : (ins l).length ≤ 100000) :
    Calls Try.prog 69 #[.slice (some ⟨g, 0, none⟩) (ins l).length c] w (TellsLaid l g cap B w) := by
  have hu := Try.underlying104
  obtain ⟨N, hN⟩ : ∃ N, N = (ins l).length := ⟨_, rfl⟩
  rw [← hN] at hn ⊢
  have HN := Lib.hid hN
  clear hN
  go_enter Try.func69, Try.ntmps69
  go_wp2_with fail
  go_step3
  go_wp2_with fail
  go_step3
  go_wp2_with fail
  go_loopw [3] (fun at_ wr => ∃ (F : Nat → Bool) (P : Nat → Nat), Lays l F ∧ RowK wr g 104 (cap * 11) (cellsS (stL (ins l) (yesN l) (noN l) F P fun n => !reachB l n)) ∧ Below B w wr) (fun _ wr => nearW g N wr)
  case atStart => exact ⟨z0B, z0N, lays_none l, hr, Below.refl _ _⟩
  case round =>
    obtain ⟨F, P, hL, hr, hB⟩ := hrel
    obtain ⟨wo, rfl⟩ : ∃ wo : World, wo = wr := ⟨_, rfl⟩
    have hnear : nearW g N wo = nearN N F := by rw [HN.out]; exact nearW_eq hr
    have e0 : stL (ins l) (yesN l) (noN l) F P (fun n => !reachB l n) = stL (ins l) (yesN l) (noN l) F (pUp l F P 0) (fun n => !reachB l n) := stL_congr fun n h => ⟨rfl, rfl, rfl, by simp [pUp], rfl⟩
    rw [e0] at hr
    have HNEAR := Lib.hid hnear
    clear hnear e0
    go_wp2_with fail
    go_loopw [3, 10] (fun at_ i wr => ∃ k : Nat, k ≤ N ∧ i = .int .i64 k ∧ at_ = .int .i64 (plN l F k : Nat) ∧ RowK wr g 104 (cap * 11) (cellsS (stL (ins l) (yesN l) (noN l) F (pUp l F P k) fun n => !reachB l n)) ∧ Below B w wr) (fun _ i _ => N - (intOf i).toNat)
    case atStart => exact ⟨0, by omega, rfl, rfl, hr, hB⟩
    case round =>
      obtain ⟨k, hk, rfl, rfl, hr, hB⟩ := hrel
      by_cases hlt : k < N
      · have z0 : (0 : Int) ≤ (k : Int) := by omega
        have z1 : (k : Int) < (N : Int) := by omega
        have hkL : k < (ins l).length := by have := HN.out; omega
        have c9 := stL_cell hkL hr 9 (by omega) _ rfl
        have f9 := hr.frozen (k * 11 + 9)
        have hset := setP (L := ins l) (Y := yesN l) (O := noN l) (F := F) (P := pUp l F P k) (D := fun n => !reachB l n) hkL (plN l F k)
        rw [← pUp_succ l F P k] at hset
        have hr2 := hr.set_ (k * 11 + 9) (.int .i64 (plN l F k : Nat))
        rw [← hset] at hr2
        have hrange := stL_range hkL hr2
        have hpu : pUp l F P (k + 1) k = plN l F k := by simp [pUp]
        have hsz := szN_eq l F k
        have hps := plN_succ l F k
        have hpl := plN_le l F k
        have hpl2 := plN_le l F (k + 1)
        have hglt := hr.lt
        have hs3 := szN_le l F k
        have hcall := fun W => size_any ⟨(ins l).getD k default, yesN l k, noN l k, F k, plN l F k, !reachB l k⟩ W
        have hinfo : (Try.prog.info? 104).map (·.size) = some (St.vals ⟨(ins l).getD k default, yesN l k, noN l k, F k, plN l F k, !reachB l k⟩).length := by rw [St.vals_length]; kernel_rfl
        have hB2 := hB.setCell (p := ⟨g, k * 11 + 9, none⟩) hg (.int .i64 (plN l F k : Nat))
        rw [hpu] at hrange
        simp only at hcall
        rw [← hsz] at hcall
        generalize (ins l).getD k default = x at *
        generalize plN l F k = p at *
        generalize szN l F k = s at *
        generalize pUp l F P k k = p0 at *
        have HC := Lib.hid hcall
        have HPS := Lib.hid hps
        have HR2 := Lib.hid hr2
        have HRG := Lib.hid hrange
        have HIN := Lib.hid hinfo
        clear hr2 hset hcall hps hsz hr hpu hrange hinfo hu
        go_wp2_with (first
          | (refine wpList_load_mid rfl 104 (.tmp 21) rfl g (k * 11) rfl _ _ HRG.out Try.underlying104 rfl HIN.out ?_; simp only [Act.put, List.setIfInBounds_toArray, List.set_cons_succ, List.set_cons_zero])
          | (go_at_call 96; refine (HC.out _).mono ?_; rintro e w2 ⟨rfl, hB3⟩))
        go_roundw
        case rel =>
          refine ⟨k + 1, by omega, by go_num, by rw [HPS.out]; go_num, HR2.out.below hB3 (by simpa [World.setCell] using hglt), hB2.trans (hB3.mono (by have := hB2.size; simp [World.setCell] at this ⊢; omega))⟩
        case measure => simp [intOf] <;> omega
      · obtain rfl : k = N := by omega
        have e1 : stL (ins l) (yesN l) (noN l) F (pUp l F P k) (fun n => !reachB l n) = stL (ins l) (yesN l) (noN l) (fUp l F 0) (plN l F) (fun n => !reachB l n) := stL_congr fun n h => ⟨rfl, rfl, by simp [fUp], by simp [pUp, show n < k by have := HN.out; omega], rfl⟩
        rw [e1] at hr
        have hm0 : moreB l F 0 = false := rfl
        clear e1
        go_wp2_with fail
        go_loopw [5, 28] (fun mo i wr => ∃ q : Nat, q ≤ k ∧ i = .int .i64 q ∧ mo = .bool (moreB l F q) ∧ RowK wr g 104 (cap * 11) (cellsS (stL (ins l) (yesN l) (noN l) (fUp l F q) (plN l F) fun n => !reachB l n)) ∧ Below B w wr) (fun _ i _ => k - (intOf i).toNat)
        case atStart => exact ⟨0, by omega, rfl, by rw [hm0], hr, hB⟩
        case round =>
          obtain ⟨q, hq, rfl, rfl, hr, hB⟩ := hrel
          by_cases hlt : q < k
          · have z0 : (0 : Int) ≤ (q : Int) := by omega
            have z1 : (q : Int) < (k : Int) := by omega
            have hqL : q < (ins l).length := by have := HN.out; omega
            have c5 := stL_cell hqL hr 5 (by omega) _ rfl
            have c8 := stL_cell hqL hr 8 (by omega) _ rfl
            have c10 := stL_cell hqL hr 10 (by omega) _ rfl
            have f8 := hr.frozen (q * 11 + 8)
            have hfq : fUp l F q q = F q := by simp [fUp]
            have hmore := moreB_succ l F q
            have hkd := It.kd_le ((ins l).getD q default)
            simp only at c5 c8 c10
            rw [hfq] at c8
            have hsame := fun (h : newF l F q = F q) => fUp_same h (plN l F) (yesN l) (noN l) (fun n => !reachB l n) (ins l)
            have hways := hF.ways hqL
            have hnew : newF l F q = (F q || (brB l q && decide (255 < farN l F q))) := rfl
            have hbr : brB l q = (reachB l q && decide (25 ≤ ((ins l).getD q default).kd)) := by unfold brB; simp [hqL]
            have hbrF : F q = true → reachB l q = true := fun h => (hF.reachB_iff (by omega)).2 (hL.br q h).2.1
            generalize hD : ((ins l).getD q default).kd = d at *
            generalize hMB : moreB l F q = mb at *
            have HR := Lib.hid hr
            have HMORE := Lib.hid hmore
            have HSAME := Lib.hid hsame
            have HWAYS := Lib.hid hways
            clear hr hmore hsame hways hMB hD hfq
            by_cases hskip : brB l q = true ∧ F q = false
            · obtain ⟨hb1, hf1⟩ := hskip
              rw [hb1] at hbr hnew
              have hrd : reachB l q = true ∧ 25 ≤ d := by simpa using hbr.symm
              obtain ⟨hrb, hd⟩ := hrd
              obtain ⟨t, u, ey, eo, ht1, ht2, hu1, hu2⟩ := HWAYS.out hd
              have c6 := stL_cell hqL HR.out 6 (by omega) _ rfl
              have c7 := stL_cell hqL HR.out 7 (by omega) _ rfl
              have c9 := stL_cell hqL HR.out 9 (by omega) _ rfl
              have t9 := stL_cell ht2 HR.out 9 (by omega) _ rfl
              have u9 := stL_cell hu2 HR.out 9 (by omega) _ rfl
              simp only at c6 c7 c9 t9 u9
              rw [ey] at c6
              rw [eo] at c7
              have hfar : farN l F q = max (plN l F t) (plN l F u) - plN l F q - 1 := by unfold farN; rw [ey, eo]; rfl
              have hm1 : plN l F q + 1 ≤ plN l F t := by
                have := plN_mono l F (show q + 1 ≤ t by omega)
                have h2 := plN_succ l F q
                have h3 : szN l F q = 1 := by rw [szN_eq, hrb, hf1]; rfl
                omega
              have hm2 : plN l F q + 1 ≤ plN l F u := by
                have := plN_mono l F (show q + 1 ≤ u by omega)
                have h2 := plN_succ l F q
                have h3 : szN l F q = 1 := by rw [szN_eq, hrb, hf1]; rfl
                omega
              have hb3 := plN_le l F t
              have hb4 := plN_le l F u
              have hset := fun b : Bool => setF (L := ins l) (Y := yesN l) (O := noN l) (F := fUp l F q) (P := plN l F) (D := fun n => !reachB l n) hqL b
              have hfu := fUp_upd l F q
              rw [hf1] at hnew c8
              rw [hfar] at hnew
              rw [hrb] at c10
              have hlN := HN.out
              generalize plN l F t = pt at *
              generalize plN l F u = pu at *
              generalize hP : plN l F q = p at *
              obtain ⟨M, hM⟩ : ∃ M, M = max pt pu := ⟨_, rfl⟩
              rw [← hM] at hnew
              have hMle : p + 1 ≤ M ∧ M ≤ 300000 := by omega
              have hnew2 : newF l F q = decide (255 < M - p - 1) := by rw [hnew]; simp
              have HNEW := Lib.hid hnew2
              have HSET := Lib.hid hset
              have HFU := Lib.hid hfu
              have HM := Lib.hid hM
              have n68 : q * 11 + 8 ≠ q * 11 + 6 := by omega
              have n78 : q * 11 + 8 ≠ q * 11 + 7 := by omega
              have n98 : q * 11 + 8 ≠ q * 11 + 9 := by omega
              have nt8 : q * 11 + 8 ≠ t * 11 + 9 := by omega
              have nu8 : q * 11 + 8 ≠ u * 11 + 9 := by omega
              have zt0 : (0 : Int) ≤ (t : Int) := by omega
              have zt1 : (t : Int) < (k : Int) := by omega
              have zu0 : (0 : Int) ≤ (u : Int) := by omega
              have zu1 : (u : Int) < (k : Int) := by omega
              have hd' : ¬ (d : Int) < 25 := by omega
              have w1 : IntKind.i64.wrap ((M : Int) - (p : Int)) = (M : Int) - (p : Int) := IntWalk.i64_in _ (by omega)
              have w2 : IntKind.i64.wrap ((M : Int) - (p : Int) - 1) = (M : Int) - (p : Int) - 1 := IntWalk.i64_in _ (by omega)
              have hmb2 : moreB l F (q + 1) = (mb || decide (255 < M - p - 1)) := by rw [HMORE.out, hf1, hnew2]; simp
              have HMQ := Lib.hid hmb2
              have hmx1 : pt ≤ pu → M = pu := fun h => by omega
              have hmx2 : ¬ pt ≤ pu → M = pt := fun h => by omega
              clear hnew hnew2 hset hfu hM hb1 hbr hrb hf1 hfar hm1 hm2 hb3 hb4 ey eo hP hmb2 hbrF hd hlN
              have W1 := Lib.hid w1
              have W2 := Lib.hid w2
              clear w1 w2
              go_wp2_with fail
              have hV : decide ((255 : Int) < IntKind.i64.wrap (IntKind.i64.wrap ((if pt < pu then (pu : Int) else (pt : Int)) - (p : Int)) - 1)) = decide (255 < M - p - 1) := by
                have e : (if pt < pu then (pu : Int) else (pt : Int)) = (M : Int) := by
                  by_cases h : pt < pu
                  · rw [if_pos h, hmx1 (by omega)]
                  · rw [if_neg h]
                    by_cases h2 : pt ≤ pu
                    · rw [hmx1 h2]; omega
                    · rw [hmx2 h2]
                rw [e, W1.out, W2.out]
                exact decide_eq_decide.2 (by omega)
              have HV := Lib.hid hV
              clear hV
              go_region_held3 (fun w' => w'.cell? ⟨g, q * 11 + 6, none⟩ = some (.int .i64 t) ∧ w'.cell? ⟨g, q * 11 + 7, none⟩ = some (.int .i64 u) ∧ w'.cell? ⟨g, q * 11 + 9, none⟩ = some (.int .i64 p) ∧ w'.cell? ⟨g, t * 11 + 9, none⟩ = some (.int .i64 pt) ∧ w'.cell? ⟨g, u * 11 + 9, none⟩ = some (.int .i64 pu))
                (first | exact ⟨c6, c7, c9, t9, u9⟩ | exact ⟨keep_set c6 n68, keep_set c7 n78, keep_set c9 n98, keep_set t9 nt8, keep_set u9 nu8⟩ | go_keep) (fail)
              rw [HV.out]
              rw [← HNEW.out] at HMQ ⊢
              have hset := HSET.out (newF l F q)
              rw [← HFU.out] at hset
              have hr8 := HR.out.set_ (q * 11 + 8) (.bool (newF l F q))
              rw [← hset] at hr8
              have hB8 := (hB.setCell (p := ⟨g, q * 11 + 8, none⟩) hg (.bool (newF l F q))).drew
              have hr9 := hr8.drew
              have c8n : (wr.setCell ⟨g, q * 11 + 8, none⟩ (.bool (newF l F q))).drew.cell? ⟨g, q * 11 + 8, none⟩ = some (.bool (newF l F q)) := World.cell?_setCell_same' _ _ _ (by rw [c8]; rfl)
              have HR9 := Lib.hid hr9
              clear hset hr8 hr9 c5 c6 c7 c8 c9 c10 t9 u9 f8
              generalize (wr.setCell ⟨g, q * 11 + 8, none⟩ (.bool (newF l F q))).drew = w9 at *
              generalize newF l F q = fb at *
              cases mb <;> cases fb
              all_goals
                go_wp2_with fail
                go_roundw
                case rel => exact ⟨q + 1, by omega, by go_num, by rw [HMQ.out]; rfl, HR9.out, hB8⟩
                case measure => simp [intOf] <;> omega
            · have hns : newF l F q = F q := by
                rw [hnew]
                cases hf : F q with
                | true => rfl
                | false =>
                  cases hb : brB l q with
                  | true => exact absurd ⟨hb, hf⟩ hskip
                  | false => rfl
              have hst := HSAME.out hns
              have hmq : moreB l F (q + 1) = mb := by rw [HMORE.out, hns]; cases F q <;> simp
              have hcase : reachB l q = false ∨ (reachB l q = true ∧ F q = true) ∨ (reachB l q = true ∧ F q = false ∧ d < 25) := by
                cases hrb : reachB l q with
                | false => exact .inl rfl
                | true =>
                  cases hf : F q with
                  | true => exact .inr (.inl ⟨rfl, rfl⟩)
                  | false =>
                    refine .inr (.inr ⟨rfl, rfl, ?_⟩)
                    rw [hbr, hrb] at hskip
                    by_cases hd : 25 ≤ d
                    · exact absurd ⟨by simp [hd], hf⟩ hskip
                    · omega
              have HST := Lib.hid hst
              have HMQ := Lib.hid hmq
              clear hst hmq hns hskip hnew hbr hbrF
              generalize reachB l q = rb at *
              generalize F q = fq at *
              rcases hcase with rfl | ⟨rfl, rfl⟩ | ⟨rfl, rfl, hd⟩
              · go_wp2_with fail
                go_roundw
                case rel => exact ⟨q + 1, by omega, by go_num, by rw [HMQ.out], by rw [HST.out]; exact HR.out, hB⟩
                case measure => simp [intOf] <;> omega
              · go_wp2_with fail
                go_roundw
                case rel => exact ⟨q + 1, by omega, by go_num, by rw [HMQ.out], by rw [HST.out]; exact HR.out, hB⟩
                case measure => simp [intOf] <;> omega
              · have hd' : (d : Int) < 25 := by omega
                go_wp2_with fail
                go_roundw
                case rel => exact ⟨q + 1, by omega, by go_num, by rw [HMQ.out], by rw [HST.out]; exact HR.out, hB⟩
                case measure => simp [intOf] <;> omega
          · obtain rfl : q = k := by omega
            have hall : stL (ins l) (yesN l) (noN l) (fUp l F q) (plN l F) (fun n => !reachB l n) = stL (ins l) (yesN l) (noN l) (newF l F) (plN l F) (fun n => !reachB l n) := stL_congr fun n h => ⟨rfl, rfl, by simp [fUp, show n < q by have := HN.out; omega], rfl, rfl⟩
            rw [hall] at hr
            have hnr : nearW g q wr = nearN q (newF l F) := by rw [HN.out]; exact nearW_eq hr
            have hless : moreB l F q = true → nearN q (newF l F) < nearN q F := fun h => by
              have := HN.out
              rw [this] at h ⊢
              exact near_less h
            have hdone : moreB l F q = false → Laid l F ∧ ∀ n, n < q → newF l F n = F n := fun h => by
              have := HN.out
              rw [this] at h ⊢
              exact ⟨hL.laid hF h, fUp_all l F h⟩
            cases hmb : moreB l F q with
            | true =>
              have hlt2 := hless hmb
              have HLT := Lib.hid hlt2
              have HNR := Lib.hid hnr
              clear hlt2 hnr hall hless hdone hmb
              go_wp2_with fail
              go_roundw
              case rel => exact ⟨newF l F, plN l F, hL.next hF, hr, hB⟩
              case measure => rw [HNR.out, HNEAR.out]; exact HLT.out
            | false =>
              obtain ⟨hlaid, heq⟩ := hdone hmb
              have e3 : stL (ins l) (yesN l) (noN l) (newF l F) (plN l F) (fun n => !reachB l n) = stL (ins l) (yesN l) (noN l) F (plN l F) (fun n => !reachB l n) := stL_congr fun n h => ⟨rfl, rfl, heq n (by have := HN.out; omega), rfl, rfl⟩
              rw [e3] at hr
              clear heq hdone hless hnr hall hmb e3
              go_wp2_with fail
              rw [Exit.noGoto_ret]
              go_ret
              exact ⟨F, hlaid, by rw [← HN.out]; rfl, hr, hB⟩
end Go.Proofs.Ytgalkidhgjgbhaa
