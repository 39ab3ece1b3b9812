/-
  The walk of asm.reached: what no way leads to is left out.
-/
import Derived.Test.YtgalkidhgjgbhaaWalkSteps
import Derived.Test.YtgalkidhgjgbhaaWalkReach
namespace Go.Proofs.Ytgalkidhgjgbhaa
open Go.RowKit
set_option linter.unusedVariables false

theorem made_bools (k : Nat) : (madeCells (Value.bool false).cells (k * 1)).toList = boolsV (List.replicate k false) := by
  apply List.ext_getElem
  · simp [boolsV, madeCells]
  · intro i h1 h2
    simp [madeCells, boolsV, Value.cells, Nat.mod_one]
def dUp (l : List It) (D : Nat → Bool) (k : Nat) : Nat → Bool := fun n => if n < k then !reachB l n else D n
theorem dUp_succ (l : List It) (D : Nat → Bool) (k : Nat) : dUp l D (k + 1) = upd (dUp l D k) k (!reachB l k) := by
  funext n
  unfold upd
  by_cases e : n = k
  · subst e; simp [dUp]
  · rw [if_neg e]
    show (if n < k + 1 then _ else _) = (if n < k then _ else _)
    by_cases h : n < k
    · rw [if_pos (by omega), if_pos h]
    · rw [if_neg (by omega), if_neg h]
theorem reachStep_no (l : List It) (k : Nat) (h : (reachUp l k).getD k false = false) : reachUp l (k + 1) = reachUp l k := by
  rw [reachUp_succ]; unfold reachStep; rw [if_neg (by rw [h]; simp)]
theorem reachStep_yes (l : List It) (k : Nat) (h : (reachUp l k).getD k false = true) : reachUp l (k + 1) = if noN l k = -1 then (if yesN l k = -1 then reachUp l k else (reachUp l k).set (yesN l k).toNat true) else (if yesN l k = -1 then reachUp l k else (reachUp l k).set (yesN l k).toNat true).set (noN l k).toNat true := by
  rw [reachUp_succ]; unfold reachStep; rw [if_pos h]

set_option maxRecDepth 100000 in
set_option maxHeartbeats 4000000 in
theorem reached_any (l : List It) (hF : Form l) (F : Nat → Bool) (P : Nat → Nat) (D : Nat → Bool) (g cap c B : Nat) (w : World) (hg : B ≤ g) (hr : RowK w g 104 (cap * 11) (cellsS (stL (ins l) (yesN l) (noN l) F P D))) (hn : (ins l).length ≤ 100000) :
    Calls Try.prog 68 #[.slice (some ⟨g, 0, none⟩) (ins l).length c] w fun e w' => e = .returned (.tuple #[]) ∧ RowK w' g 104 (cap * 11) (cellsS (stL (ins l) (yesN l) (noN l) F P fun n => !reachB l n)) ∧ Below B w w' := by
  obtain ⟨i0, hi0, hz0, hz1, hz2⟩ := info_parts info_bool
  have hglt := hr.lt
  have hyes := fun n hn => hF.yes (n := n) hn
  have hno := fun n hn => hF.no (n := n) hn
  have hat := fun n hn => hF.reachUp_at (n := n) hn
  have hlen := reachUp_length l
  have hsn := reachStep_no l
  have hsy := reachStep_yes l
  have hds := dUp_succ l D
  have hfin : stL (ins l) (yesN l) (noN l) F P (dUp l D (ins l).length) = stL (ins l) (yesN l) (noN l) F P (fun n => !reachB l n) := stL_congr fun n h => ⟨rfl, rfl, rfl, rfl, by simp [dUp, h]⟩
  have h0 : stL (ins l) (yesN l) (noN l) F P D = stL (ins l) (yesN l) (noN l) F P (dUp l D 0) := stL_congr fun n h => ⟨rfl, rfl, rfl, rfl, by simp [dUp]⟩
  rw [h0] at hr
  have hup0 : reachUp l 0 = (List.replicate ((ins l).length + 1) false).set 0 true := rfl
  generalize ins l = L at *
  obtain ⟨N, hN⟩ : ∃ N, N = L.length := ⟨_, rfl⟩
  rw [← hN] at hn hfin hup0 hlen hyes hno hat ⊢
  have HN := Lib.hid hN
  have HY := Lib.hid hyes
  have HO := Lib.hid hno
  have HAT := Lib.hid hat
  have HLEN := Lib.hid hlen
  have HSN := Lib.hid hsn
  have HSY := Lib.hid hsy
  have HDS := Lib.hid hds
  have HFIN := Lib.hid hfin
  have HUP := Lib.hid hup0
  clear hN hyes hno hat hlen hsn hsy hds hfin h0 hup0
  go_enter Try.func68, Try.ntmps68
  go_wp2_with (refine wpList_make_full w rfl (.tmp 7) (.tmp 7) 87 rfl w.heap.size 4 i0 _ 1 Try.underlying87 hi0 hz0 hz1 .i64 .i64 ((N : Int) + 1) ((N : Int) + 1) (N + 1) rfl rfl (by omega) (by omega) (by rw [hz2]; omega) (by simp only [maxLen]; omega) (Nat.le_refl _) ?_; intro w1 own1 hg1; rw [made_bools] at own1; obtain ⟨gb, capb, hv, hgb, hcb, hmb, hrb⟩ := own_rowK own1 (by omega) (by omega); injection hv with hv1 hv2 hv3; injection hv1 with hv4; injection hv4 with hv5; subst hv5; subst hv3; have cb0 := hrb.cell (boolsV_get _ 0 (by simp)); have fb0 := hrb.frozen 0; have hr1 := hr.grown hg1 (by simp); have hB1 : Below B w w1 := (Below.refl _ w).grown hg1 (by omega) (fun k e => by cases e))
  have hrb2 := hrb.set_ 0 (.bool true)
  rw [boolsV_set, ← HUP.out, Nat.mul_one] at hrb2
  have hr2 := hr1.far (p := ⟨w.heap.size, 0, none⟩) (by show g ≠ w.heap.size; omega) (.bool true)
  have hB2 : Below B w (w1.setCell ⟨w.heap.size, 0, none⟩ (.bool true)) := hB1.setCell (by show B ≤ w.heap.size; omega) _
  have hne : g ≠ w.heap.size := by omega
  clear own1 hg1 hgb hcb hmb hrb cb0 fb0 hr1 hB1 hr
  generalize w1.setCell ⟨w.heap.size, 0, none⟩ (.bool true) = w2 at *
  go_loopw [13] (fun i wr => ∃ k : Nat, k ≤ N ∧ i = .int .i64 k ∧ RowK wr w.heap.size 4 (N + 1) (boolsV (reachUp l k)) ∧ RowK wr g 104 (cap * 11) (cellsS (stL L (yesN l) (noN l) F P (dUp l D k))) ∧ Below B w wr) (fun i _ => N - (intOf i).toNat)
  case atStart => exact ⟨0, by omega, rfl, hrb2, hr2, hB2⟩
  case round =>
    obtain ⟨k, hk, rfl, hb, hr, hB⟩ := hrel
    by_cases hlt : k < N
    · have z0 : (0 : Int) ≤ (k : Int) := by omega
      have z1 : (k : Int) < (N : Int) := by omega
      have z2 : (k : Int) < (N : Int) + 1 := by omega
      have hkL : k < L.length := by have := HN.out; omega
      have hlen := HLEN.out k
      have hat := HAT.out k (by omega)
      have cb := fun j (hj : j < N + 1) => hb.cell (boolsV_get (reachUp l k) j (by omega))
      have fb := fun j => hb.frozen j
      have cbk := cb k (by omega)
      rw [hat] at cbk
      have c6 := stL_cell hkL hr 6 (by omega) _ rfl
      have c7 := stL_cell hkL hr 7 (by omega) _ rfl
      have c10 := stL_cell hkL hr 10 (by omega) _ rfl
      have f10 := hr.frozen (k * 11 + 10)
      have hset := fun b : Bool => setD (L := L) (Y := yesN l) (O := noN l) (F := F) (P := P) (D := dUp l D k) hkL b
      have hds := HDS.out k
      have hsn := HSN.out k
      have hsy := HSY.out k
      rw [hat] at hsn hsy
      have hy := HY.out k hlt
      have ho := HO.out k hlt
      have hgl := hr.lt
      have hbl := hb.lt
      have hglw : B ≤ w.heap.size := by omega
      simp only at c6 c7 c10
      generalize dUp l D k k = d0 at *
      generalize hRB : reachB l k = rb at *
      have HR := Lib.hid hr
      have HBR := Lib.hid hb
      have HSET := Lib.hid hset
      have HDK := Lib.hid hds
      have HSNK := Lib.hid hsn
      have HSYK := Lib.hid hsy
      have HCB := Lib.hid cb
      have HFB := Lib.hid fb
      clear hr hb hset hds hsn hsy cb fb hRB hat hlen
      cases rb with
      | false =>
        go_wp2_with fail
        go_roundw
        case rel =>
          refine ⟨k + 1, by omega, by go_num, ?_, ?_, hB.setCell (by show _ ≤ g; omega) _⟩
          · rw [HSNK.out rfl]
            exact HBR.out.far (by show w.heap.size ≠ g; omega) _
          · rw [HDK.out, HSET.out]
            exact HR.out.set_ _ _
        case measure => simp [intOf] <;> omega
      | true =>
        have hup := HSYK.out rfl
        generalize yesN l k = y at *
        generalize noN l k = o at *
        have HUPK := Lib.hid hup
        clear hup
        rcases hy with rfl | ⟨t, rfl, ht1, ht2⟩ <;> rcases ho with rfl | ⟨u, rfl, hu1, hu2⟩
        · go_wp2_with fail
          go_roundw
          case rel =>
            refine ⟨k + 1, by omega, by go_num, ?_, ?_, hB.setCell (by show _ ≤ g; omega) _⟩
            · rw [HUPK.out, if_pos rfl, if_pos rfl]
              exact (HBR.out.far (by show w.heap.size ≠ g; omega) _)
            · rw [HDK.out, HSET.out]
              exact HR.out.set_ _ _
          case measure => simp [intOf] <;> omega
        · have cu := HCB.out u (by omega)
          have fu := HFB.out u
          have zu : (0 : Int) ≤ (u : Int) := by omega
          have zu1 : (u : Int) < (N : Int) + 1 := by omega
          go_wp2_with fail
          go_roundw
          case rel =>
            refine ⟨k + 1, by omega, by go_num, ?_, ?_, (hB.setCell (by show _ ≤ g; omega) _).setCell (by show _ ≤ w.heap.size; omega) _⟩
            · rw [HUPK.out, if_neg (by omega), if_pos rfl, Int.toNat_natCast, ← boolsV_set]
              exact (HBR.out.far (by show w.heap.size ≠ g; omega) _).set_ _ _
            · rw [HDK.out, HSET.out]
              exact ((HR.out.set_ _ _).far (by show g ≠ w.heap.size; omega) _)
          case measure => simp [intOf] <;> omega
        · have ct := HCB.out t (by omega)
          have ft := HFB.out t
          have zt : (0 : Int) ≤ (t : Int) := by omega
          have zt1 : (t : Int) < (N : Int) + 1 := by omega
          go_wp2_with fail
          go_roundw
          case rel =>
            refine ⟨k + 1, by omega, by go_num, ?_, ?_, (hB.setCell (by show _ ≤ g; omega) _).setCell (by show _ ≤ w.heap.size; omega) _⟩
            · rw [HUPK.out, if_pos rfl, if_neg (by omega), Int.toNat_natCast, ← boolsV_set]
              exact (HBR.out.far (by show w.heap.size ≠ g; omega) _).set_ _ _
            · rw [HDK.out, HSET.out]
              exact ((HR.out.set_ _ _).far (by show g ≠ w.heap.size; omega) _)
          case measure => simp [intOf] <;> omega
        · have ct := HCB.out t (by omega)
          have ft := HFB.out t
          have zt : (0 : Int) ≤ (t : Int) := by omega
          have zt1 : (t : Int) < (N : Int) + 1 := by omega
          have cu := HCB.out u (by omega)
          have fu := HFB.out u
          have zu : (0 : Int) ≤ (u : Int) := by omega
          have zu1 : (u : Int) < (N : Int) + 1 := by omega
          by_cases htu : t = u
          · subst htu
            clear cu fu zu zu1
            go_wp2_with fail
            go_roundw
            case rel =>
              refine ⟨k + 1, by omega, by go_num, ?_, ?_, ((hB.setCell (by show _ ≤ g; omega) _).setCell (by show _ ≤ w.heap.size; omega) _).setCell (by show _ ≤ w.heap.size; omega) _⟩
              · rw [HUPK.out, if_neg (by omega), if_neg (by omega), Int.toNat_natCast, ← boolsV_set, ← boolsV_set]
                exact ((HBR.out.far (by show w.heap.size ≠ g; omega) _).set_ _ _).set_ _ _
              · rw [HDK.out, HSET.out]
                exact (((HR.out.set_ _ _).far (by show g ≠ w.heap.size; omega) _).far (by show g ≠ w.heap.size; omega) _)
            case measure => simp [intOf] <;> omega
          · go_wp2_with fail
            go_roundw
            case rel =>
              refine ⟨k + 1, by omega, by go_num, ?_, ?_, ((hB.setCell (by show _ ≤ g; omega) _).setCell (by show _ ≤ w.heap.size; omega) _).setCell (by show _ ≤ w.heap.size; omega) _⟩
              · rw [HUPK.out, if_neg (by omega), if_neg (by omega), Int.toNat_natCast, Int.toNat_natCast, ← boolsV_set, ← boolsV_set]
                exact ((HBR.out.far (by show w.heap.size ≠ g; omega) _).set_ _ _).set_ _ _
              · rw [HDK.out, HSET.out]
                exact (((HR.out.set_ _ _).far (by show g ≠ w.heap.size; omega) _).far (by show g ≠ w.heap.size; omega) _)
            case measure => simp [intOf] <;> omega
    · obtain rfl : k = N := by omega
      have hfin := HFIN.out
      rw [hfin] at hr
      clear hfin
      go_wp2_with fail
      go_end0
      exact ⟨rfl, hr, hB⟩
end Go.Proofs.Ytgalkidhgjgbhaa
