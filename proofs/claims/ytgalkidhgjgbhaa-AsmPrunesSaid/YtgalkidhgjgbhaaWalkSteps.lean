/-
  The walk of asm.steps: formed items' instructions, and where they go on.
-/
import Derived.Test.YtgalkidhgjgbhaaAsmRow
import Derived.Test.YtgalkidhgjgbhaaMapRow
import Derived.Test.YtgalkidhgjgbhaaWalkOf
import Derived.Test.YtgalkidhgjgbhaaKinds
import Derived.Test.YtgalkidhgjgbhaaBase
namespace Go.Proofs.Ytgalkidhgjgbhaa
open Go.RowKit
set_option linter.unusedVariables false

/-- The marks, each with the instructions ahead of it. -/
def marksL (l : List It) (i : Nat) : List (Int × Value) := ((List.range i).filter fun p => decide ((l.getD p default).mark ≠ 0)).map fun p => ((l.getD p default).mark, .int .i64 (cnt l p : Nat))
theorem marksL_succ (l : List It) (i : Nat) : marksL l (i + 1) = if (l.getD i default).mark ≠ 0 then marksL l i ++ [((l.getD i default).mark, .int .i64 (cnt l i : Nat))] else marksL l i := by
  unfold marksL
  rw [List.range_succ, List.filter_append, List.map_append]
  by_cases e : (l.getD i default).mark ≠ 0
  · rw [if_pos e]
    simp only [List.filter_cons, decide_eq_true_eq, if_pos e]
    rfl
  · rw [if_neg e]
    simp only [List.filter_cons, decide_eq_true_eq, if_neg e]
    simp
theorem look_append (a b : List (Int × Value)) (q : Int) : IntMaps.look (a ++ b) q = match IntMaps.look a q with | some v => some v | none => IntMaps.look b q := by
  unfold IntMaps.look
  rw [List.find?_append]
  cases a.find? fun p => p.1 == q <;> rfl
theorem look_marks {l : List It} {q : Int} {j : Nat} (hu : Uniq l q j) : ∀ i, i ≤ l.length → IntMaps.look (marksL l i) q = if j < i then some (.int .i64 (cnt l j : Nat)) else none
  | 0, _ => by rw [if_neg (by omega)]; rfl
  | i + 1, hi => by
    have ih := look_marks hu i (by omega)
    rw [marksL_succ]
    by_cases e : (l.getD i default).mark ≠ 0
    · rw [if_pos e, look_append, ih]
      by_cases e2 : j < i
      · rw [if_pos e2, if_pos (by omega)]
      · rw [if_neg e2]
        simp only
        by_cases e3 : i = j
        · subst e3
          rw [if_pos (by omega), (hu.2.2 i hu.2.1).2 rfl]
          simp [IntMaps.look]
        · rw [if_neg (by omega)]
          have : (l.getD i default).mark ≠ q := fun h => e3 ((hu.2.2 i (by omega)).1 h)
          generalize (l.getD i default).mark = mm at *
          simp [IntMaps.look, this]
    · rw [if_neg e, ih]
      have : i ≠ j := fun h => e (by rw [h, (hu.2.2 j hu.2.1).2 rfl]; exact hu.1)
      by_cases e2 : j < i
      · rw [if_pos e2, if_pos (by omega)]
      · rw [if_neg e2, if_neg (by omega)]
/-- A new mark is not there yet. -/
theorem look_new {l : List It} (h : Form l) {i : Nat} (hi : i < l.length) (hm : (l.getD i default).mark ≠ 0) : IntMaps.look (marksL l i) (l.getD i default).mark = none := by
  have hu : Uniq l (l.getD i default).mark i := by
    have := h.1 i hi
    unfold OkAt at this
    rw [if_pos hm] at this
    exact this.2.1
  rw [look_marks hu i (by omega), if_neg (by omega)]
theorem look_to {l : List It} (h : Form l) {n : Nat} (hn : n < (ins l).length) (m : Int) (hm : m = ((ins l).getD n default).tr ∨ m = ((ins l).getD n default).fa) (h0 : m ≠ 0) : IntMaps.look (marksL l l.length) m = some (.int .i64 (toN l n m : Nat)) := by
  obtain ⟨p, h1, h2, h3, h4, h5⟩ := h.okIns hn
  unfold OkAt at h5
  rw [if_neg (by omega), h4] at h5
  obtain ⟨j, _, hu⟩ : ∃ j, p < j ∧ Uniq l m j := by
    rcases hm with rfl | rfl
    · exact (h5.2.1 h0).2
    · exact (h5.2.2 h0).2
  rw [look_marks hu _ (Nat.le_refl _), if_pos hu.2.1]
  unfold toN
  rw [if_neg h0, tgtN_uniq hu]

set_option maxRecDepth 100000 in
theorem ends_any (d : Nat) (b : Bool) (hb : b = true ↔ isEnd d) (w : World) : Calls Try.prog 95 #[.int .i64 d] w fun e w' => e = .returned (.bool b) ∧ w = w' := by
  unfold isEnd at hb
  go_enter Try.func95, Try.ntmps95
  by_cases h : d = 14
  · have hbt : b = true := hb.2 (.inl h)
    subst hbt
    subst h
    go_wp2_with fail
    go_ret
    exact ⟨rfl, rfl⟩
  · by_cases h2 : d = 15
    · have hbt : b = true := hb.2 (.inr h2)
      subst hbt
      subst h2
      go_wp2_with fail
      go_ret
      exact ⟨rfl, rfl⟩
    · have hbf : b = false := by
        cases b with
        | false => rfl
        | true => exact absurd (hb.1 rfl) (by omega)
      subst hbf
      have q1 : ((d : Int) == 14) = false := by simp; omega
      have q2 : ((d : Int) == 15) = false := by simp; omega
      go_wp2_with fail
      go_ret
      exact ⟨rfl, rfl⟩
set_option maxRecDepth 100000 in
theorem to_any (W : World) (b1 b2 r : Nat) (n t : Nat) (m : Int) (ML : List (Int × Value)) (hn : n ≤ 1000000) (hm : -9223372036854775808 ≤ m ∧ m ≤ 9223372036854775807) (h1 : W.cell? ⟨b1, 0, none⟩ = some (.int .i64 n)) (h2 : W.cell? ⟨b2, 0, none⟩ = some (.map (some r))) (hML : MapRow W r ML)
    (t0 : m = 0 → t = n + 1) (t1 : m ≠ 0 → IntMaps.look ML m = some (.int .i64 t)) :
    Calls Try.prog 94 #[.int .i64 m, .pointer (some ⟨b1, 0, none⟩), .pointer (some ⟨b2, 0, none⟩)] W fun e w' => e = .returned (.int .i64 (t : Nat)) ∧ W = w' := by
  by_cases h0 : m = 0
  · have e := t0 h0
    subst h0
    subst e
    clear t0 t1
    go_enter Try.func94, Try.ntmps94
    go_wp2_with fail
    go_ret
    exact ⟨by simp, rfl⟩
  · have hrun := run_lookup_row (P := Try.prog) hML 142 3 3 Try.underlying142 Try.underlying3 m (.int .i64 0) (WalkArith.wf_i64 hm) (by kernel_rfl)
    rw [t1 h0] at hrun
    have q : (m == 0) = false := by simpa using h0
    clear t0 t1
    go_enter Try.func94, Try.ntmps94
    go_wp2_with fail
    go_ret
    exact ⟨rfl, rfl⟩

theorem info_step : (Try.prog.info? 104).map (fun i => (i.zero, i.size, i.bytes)) = some (some (.agg #[.int .i64 0, .int .u16 0, .int .u32 0, .int .i64 0, .int .i64 0, .int .i64 0, .int .i64 0, .int .i64 0, .bool false, .int .i64 0, .bool false]), 11, 80) := by kernel_rfl
/-- Fresh steps. -/
def st0 (x : It) : St := ⟨x, 0, 0, false, 0, false⟩
def z0I (_ : Nat) : Int := 0
def z0N (_ : Nat) : Nat := 0
def z0B (_ : Nat) : Bool := false
theorem st0_map (L : List It) : L.map st0 = stL L z0I z0I z0B z0N z0B := by
  unfold stL
  apply List.ext_getElem (by simp)
  intro i h1 h2
  simp at h1
  simp [st0, z0I, z0N, z0B, h1]
def upY (l : List It) (k : Nat) : Nat → Int := fun n => if n < k then yesN l n else 0
def upO (l : List It) (k : Nat) : Nat → Int := fun n => if n < k then noN l n else 0
theorem upY_succ (l : List It) (k : Nat) : upY l (k + 1) = upd (upY l k) k (yesN l k) := by
  funext n
  unfold upd
  by_cases e : n = k
  · subst e; simp [upY]
  · rw [if_neg e]
    show (if n < k + 1 then _ else _) = (if n < k then _ else _)
    by_cases h : n < k
    · rw [if_pos (by omega), if_pos h]
    · rw [if_neg (by omega), if_neg h]
theorem upO_succ (l : List It) (k : Nat) : upO l (k + 1) = upd (upO l k) k (noN l k) := by
  funext n
  unfold upd
  by_cases e : n = k
  · subst e; simp [upO]
  · rw [if_neg e]
    show (if n < k + 1 then _ else _) = (if n < k then _ else _)
    by_cases h : n < k
    · rw [if_pos (by omega), if_pos h]
    · rw [if_neg (by omega), if_neg h]
theorem own_rowK {W : World} {B n size : Nat} {e : TypeId} {v : Value} {xs : List Value} (h : W.ownsRow B e size v n xs) (hn : 0 < n) (hs : 0 < size) : ∃ g cap, v = .slice (some ⟨g, 0, none⟩) n cap ∧ B ≤ g ∧ n ≤ cap ∧ cap ≤ maxLen ∧ RowK W g e (cap * size) xs := by
  obtain ⟨hl, ⟨_, h0⟩ | ⟨g, cap, cur, rfl, hB, hb, h1, h2, h3, h4⟩⟩ := h
  · subst h0
    have := Nat.mul_pos hn hs
    simp at hl
    omega
  · exact ⟨g, cap, rfl, hB, h1, h2, cur, hb, h3, by rw [hl]; exact h4⟩
theorem drew_cell (W : World) (p : Addr) : W.drew.cell? p = W.cell? p := rfl
theorem keep_cell {W : World} {g a b : Nat} {x v : Value} {o : Obj} (h : W.cell? ⟨g, a, none⟩ = some x) (hne : b ≠ a) : (((W.setCell ⟨g, b, none⟩ v).alloc o).drew).cell? ⟨g, a, none⟩ = some x := by
  have h1 : (W.setCell ⟨g, b, none⟩ v).cell? ⟨g, a, none⟩ = some x := (World.cell?_setCell_other _ _ _ _ (fun e => hne (by injection e))).trans h
  exact (World.cell?_alloc_lt _ _ _ (block_lt_of_cell h1)).trans h1
theorem keep_cell0 {W : World} {g a : Nat} {x : Value} {o : Obj} (h : W.cell? ⟨g, a, none⟩ = some x) : ((W.alloc o).drew).cell? ⟨g, a, none⟩ = some x := (World.cell?_alloc_lt _ _ _ (block_lt_of_cell h)).trans h
theorem keep_cell2 {W : World} {g a b c : Nat} {x v u : Value} {o : Obj} (h : W.cell? ⟨g, a, none⟩ = some x) (hne : b ≠ a) (hne2 : c ≠ a) : ((((W.setCell ⟨g, b, none⟩ v).setCell ⟨g, c, none⟩ u).alloc o).drew).cell? ⟨g, a, none⟩ = some x :=
  keep_cell ((World.cell?_setCell_other _ _ _ _ (fun e => hne (by injection e))).trans h) hne2
theorem setYO {L : List It} {Y O : Nat → Int} {F : Nat → Bool} {P : Nat → Nat} {D : Nat → Bool} {n : Nat} (h : n < L.length) (y o : Int) : cellsS (stL L (upd Y n y) (upd O n o) F P D) = ((cellsS (stL L Y O F P D)).set (n * 11 + 6) (.int .i64 y)).set (n * 11 + 7) (.int .i64 o) := by rw [setO h, setY h]
/-- What a call that makes steps hands back: a row of its own. -/
def MakesSteps (S : List St) (w : World) (e : Ending) (w' : World) : Prop :=
  ∃ g cap, e = .returned (.slice (some ⟨g, 0, none⟩) S.length cap) ∧ w.heap.size ≤ g ∧ RowK w' g 104 (cap * 11) (cellsS S) ∧ S.length ≤ cap ∧ cap ≤ maxLen ∧ Below w.heap.size w w'

set_option maxRecDepth 100000 in
set_option maxHeartbeats 4000000 in
theorem steps_any (l : List It) (hok : ∀ x ∈ l, x.Ok) (hF : Form l) (A : Option Addr) (n c : Nat) (w : World) (hr : Reads w w.heap.size 5 A n (cellsT l)) (hn : n ≤ 100000) :
    Calls Try.prog 67 #[.slice A n c] w (MakesSteps (stL (ins l) (yesN l) (noN l) z0B z0N z0B) w) := by
  obtain ⟨i0, hi0, hz0, hz1, hz2⟩ := info_parts info_step
  have hl : n = l.length := by have := hr.1; rw [cellsT_length] at this; omega
  have HL := Lib.hid hl
  clear hl
  have hmm := @run_makeMap (Try.prog)
  go_enter Try.func67, Try.ntmps67
  go_wp2_with fail
  have hm0 : MapRow ((w.alloc (.map #[] 0)).alloc (.cells #[.map (some w.heap.size)] 142)) w.heap.size (marksL l 0) := (MapRow.new w).alloc _
  have hb0 : ((w.alloc (.map #[] 0)).alloc (.cells #[.map (some w.heap.size)] 142)).cell? ⟨w.heap.size + 1, 0, none⟩ = some (.map (some w.heap.size)) := by
    rw [World.cell?_alloc_at _ _ _ _ (by simp)]; rfl
  have hB0 : Below w.heap.size w ((w.alloc (.map #[] 0)).alloc (.cells #[.map (some w.heap.size)] 142)) := ((Below.refl _ w).alloc (Nat.le_refl _) _).alloc (by simp) _
  have hs0 : w.heap.size + 2 ≤ ((w.alloc (.map #[] 0)).alloc (.cells #[.map (some w.heap.size)] 142)).heap.size := by simp
  generalize ((w.alloc (.map #[] 0)).alloc (.cells #[.map (some w.heap.size)] 142)) = w0 at *
  go_loopw [4, 16] (fun v i wr => ∃ k : Nat, k ≤ n ∧ i = .int .i64 k ∧ wr.ownsRow (w.heap.size + 2) 104 11 v (cnt l k) (cellsS ((ins (l.take k)).map st0)) ∧ MapRow wr w.heap.size (marksL l k) ∧ wr.cell? ⟨w.heap.size + 1, 0, none⟩ = some (.map (some w.heap.size)) ∧ w.heap.size + 2 ≤ wr.heap.size ∧ Below w.heap.size w wr) (fun _ i _ => n - (intOf i).toNat)
  case atStart => exact ⟨0, by omega, rfl, World.ownsRow_nil _ _ _ _, hm0, hb0, hs0, hB0⟩
  case round =>
    obtain ⟨k, hk, rfl, hown, hM, hbox, hsz, hB⟩ := hrel
    by_cases hlt : k < n
    · obtain ⟨b, off, rfl, hb, hc⟩ := (hr.below hB).at5 hlt
      obtain ⟨h0, h1, h2, h3, h4⟩ := hc k hlt
      have z0 : (0 : Int) ≤ (k : Int) := by omega
      have z1 : (k : Int) < (n : Int) := by omega
      have hkl : k < l.length := by have := HL.out; omega
      have hxok := getD_okT hok hkl
      have hcs := cnt_succ l k hkl
      have hms := marksL_succ l k
      have his := ins_succ l k hkl
      have hcl := cnt_le l k (by omega)
      have hbw : b < wr.heap.size := by omega
      obtain ⟨A4, c4, rfl, _⟩ := own_reads hown
      clear hc
      by_cases hm : (l.getD k default).mark ≠ 0
      · rw [if_neg hm] at hcs his
        rw [if_pos hm] at hms
        have hnew := look_new hF hkl hm
        have hwf : (Lit.int .i64 (l.getD k default).mark).wf = true := WalkArith.wf_i64 hxok.1
        generalize hx : l.getD k default = x at *
        have q0 : (x.mark != 0) = true := by simpa using hm
        have HCS := Lib.hid hcs
        have HMS := Lib.hid hms
        have HIS := Lib.hid his
        have HNEW := Lib.hid hnew
        clear hcs hms his hnew hx hm
        obtain ⟨xm, xc, xk, xt, xf⟩ := x
        simp only at *
        have hboxa := fun o => (World.cell?_alloc_lt wr o ⟨w.heap.size + 1, 0, none⟩ (by show w.heap.size + 1 < _; omega)).trans hbox
        have HBA := Lib.hid hboxa
        have hbox1 := hboxa (.cells #[.int .i64 xm, .int .u16 xc, .int .u32 xk, .int .i64 xt, .int .i64 xf] 61)
        clear hboxa
        go_wp2_with (at_mapUpdate; refine wpList_put_row rfl 142 (.tmp 23) (.tmp 25) (.tmp 27) rfl 3 3 Try.underlying142 Try.underlying3 w.heap.size _ xm (.int .i64 (cnt l k : Nat)) rfl rfl rfl (hM.alloc _) hwf HNEW.out ?_; intro W2 hM2 hg2)
        go_roundw
        case rel =>
          refine ⟨k + 1, by omega, by go_num, ?_, by rw [HMS.out]; exact hM2, ?_, by have := hg2.size; simp at this; omega, (hB.alloc hB.size _).grown hg2 (by have := hB.size; simp; omega) (fun g e => by cases e; exact Nat.le_refl _)⟩
          · rw [HCS.out, HIS.out]
            refine (hown.alloc _).kept hg2 ?_
            have := fun g e => (hown.lt g e).1
            cases hob : (Value.slice A4 (cnt l k) c4).ownBlock with
            | none => exact .inl rfl
            | some g => exact .inr (fun e => by cases e; have := this _ hob; omega)
          · exact (World.cell?_of_block (hg2.block (w.heap.size + 1) (by simp; omega) (by simp))).trans hbox1
        case measure => simp [intOf] <;> omega
      · have hm0 : (l.getD k default).mark = 0 := by omega
        rw [if_pos hm0] at hcs his
        rw [if_neg hm] at hms
        have hcall := fun W => of_any (l.getD k default).code hxok.2.1 W
        have hkd : (l.getD k default).kd = (ofN (l.getD k default).code).1 := rfl
        have hvals : cellsS ([l.getD k default].map st0) = [.int .i64 (l.getD k default).mark, .int .u16 (l.getD k default).code, .int .u32 (l.getD k default).k, .int .i64 (l.getD k default).tr, .int .i64 (l.getD k default).fa, .int .i64 ((l.getD k default).kd : Nat), .int .i64 0, .int .i64 0, .bool false, .int .i64 0, .bool false] := rfl
        rw [hm0] at h0
        rw [hkd, hm0] at hvals
        generalize hx : l.getD k default = x at *
        generalize (ofN x.code).1 = d at *
        generalize (ofN x.code).2 = xx at *
        have HCS := Lib.hid hcs
        have HMS := Lib.hid hms
        have HIS := Lib.hid his
        have HC := Lib.hid hcall
        have HV := Lib.hid hvals
        clear hcs hms his hx hm hm0 hcall hkd hvals
        obtain ⟨xm, xc, xk, xt, xf⟩ := x
        simp only at *
        clear hxok
        have HBX := Lib.hid hbox
        have HM := Lib.hid hM
        clear hbox hM
        go_wp2_with (first
          | (go_at_call 47; refine (HC.out _).mono ?_; rintro e w1 ⟨rfl, hB1⟩; have b1 := (Blk.new wr 61 #[.int .i64 0, .int .u16 xc, .int .u32 xk, .int .i64 xt, .int .i64 xf]).below hB1 (by simp); have k0 : w1.cell? ⟨wr.heap.size, 0, none⟩ = some (.int .i64 0) := (by rw [b1.cell]; rfl); have k1 : w1.cell? ⟨wr.heap.size, 1, none⟩ = some (.int .u16 xc) := (by rw [b1.cell]; rfl); have k2 : w1.cell? ⟨wr.heap.size, 2, none⟩ = some (.int .u32 xk) := (by rw [b1.cell]; rfl); have k3 : w1.cell? ⟨wr.heap.size, 3, none⟩ = some (.int .i64 xt) := (by rw [b1.cell]; rfl); have k4 : w1.cell? ⟨wr.heap.size, 4, none⟩ = some (.int .i64 xf) := (by rw [b1.cell]; rfl); clear b1; have own1 := own_grows hB1 (hown.alloc _); have hs1 := hB1.size; rw [World.size_alloc] at hs1)
          | (at_builtin; refine wpList_append_lit rfl (.tmp 35) (.tmp 39) 100 rfl (w.heap.size + 2) 104 i0 _ 11 80 Try.underlying100 hi0 hz0 hz1 hz2 rfl (by omega) _ _ (cnt l k) _ rfl own1 _ 1 1 rfl _ rfl rfl (by simp [Value.oneCell']) (by simp only [maxLen]; omega) (by omega) (by omega) ?_; intro v2 w2 own2 hB2 hs2))
        go_roundw
        case rel =>
          have hBx : Below wr.heap.size wr w1 := ((Below.refl _ wr).alloc (Nat.le_refl _) _).trans (hB1.mono (by simp))
          refine ⟨k + 1, by omega, by go_num, ?_, by rw [HMS.out]; exact (HM.out.below hBx HM.out.lt).below hB2 (by omega), ?_, by omega, (hB.trans (hBx.mono hB.size)).trans (hB2.mono (by omega))⟩
          · rw [HCS.out, HIS.out, List.map_append, cellsS_append, HV.out]
            exact own2
          · exact (hB2.cell (p := ⟨w.heap.size + 1, 0, none⟩) (by show w.heap.size + 1 < _; omega)).trans ((hBx.cell (p := ⟨w.heap.size + 1, 0, none⟩) (by show w.heap.size + 1 < _; omega)).trans HBX.out)
        case measure => simp [intOf] <;> omega
    · obtain rfl : k = n := by omega
      have hfin : l.take k = l := List.take_of_length_le (by have := HL.out; omega)
      have hcn : cnt l k = (ins l).length := by rw [HL.out]; exact cnt_all l
      rw [hfin, hcn, st0_map] at hown
      have hmk : marksL l k = marksL l l.length := by rw [← HL.out]
      rw [hmk] at hM
      have hpos := hF.lastIns.1
      have hNle : (ins l).length ≤ k := by have := cnt_le l k (by have := HL.out; omega); omega
      have hlook := fun q (hq : q < (ins l).length) => look_to hF hq
      have hyv : ∀ q, q < (ins l).length → isEnd ((ins l).getD q default).kd → yesN l q = -1 ∧ noN l q = -1 := fun q _ h => by
        unfold yesN noN
        rw [if_pos h, if_neg (by unfold isEnd at h; omega)]
        exact ⟨rfl, rfl⟩
      have hyb : ∀ q, q < (ins l).length → 25 ≤ ((ins l).getD q default).kd → yesN l q = (toN l q ((ins l).getD q default).tr : Nat) ∧ noN l q = (toN l q ((ins l).getD q default).fa : Nat) := fun q _ h => by
        unfold yesN noN
        rw [if_neg (by unfold isEnd; omega), if_pos h]
        exact ⟨rfl, rfl⟩
      have hyo : ∀ q, q < (ins l).length → ¬ isEnd ((ins l).getD q default).kd → ¬ 25 ≤ ((ins l).getD q default).kd → yesN l q = (toN l q ((ins l).getD q default).tr : Nat) ∧ noN l q = -1 := fun q _ h h2 => by
        unfold yesN noN
        rw [if_neg h, if_neg h2]
        exact ⟨rfl, rfl⟩
      have hto0 : ∀ q m, m = 0 → toN l q m = q + 1 := fun q m h => by unfold toN; rw [if_pos h]
      have hiok : ∀ x ∈ ins l, x.Ok := fun x hx => by unfold ins at hx; exact hok x (List.mem_filter.1 hx).1
      have e0 : stL (ins l) z0I z0I z0B z0N z0B = stL (ins l) (upY l 0) (upO l 0) z0B z0N z0B := stL_congr fun q _ => ⟨by simp [upY, z0I], by simp [upO, z0I], rfl, rfl, rfl⟩
      rw [e0] at hown
      have hfinal : stL (ins l) (upY l (ins l).length) (upO l (ins l).length) z0B z0N z0B = stL (ins l) (yesN l) (noN l) z0B z0N z0B := stL_congr fun q hq => ⟨by simp [upY, hq], by simp [upO, hq], rfl, rfl, rfl⟩
      have hYs := upY_succ l
      have hOs := upO_succ l
      generalize hL : ins l = L at *
      obtain ⟨N, hN⟩ : ∃ N, N = L.length := ⟨_, rfl⟩
      rw [← hN] at hown hpos hNle
      obtain ⟨g, cap, rfl, hg, hcap, hmx, hrow⟩ := own_rowK hown hpos (by omega)
      have HN := Lib.hid hN
      have HLOOK := Lib.hid hlook
      have HYV := Lib.hid hyv
      have HYB := Lib.hid hyb
      have HYO := Lib.hid hyo
      have HTO := Lib.hid hto0
      have HFIN := Lib.hid hfinal
      have HYS := Lib.hid hYs
      have HOS := Lib.hid hOs
      clear hown hlook hyv hyb hyo hto0 e0 hfinal hYs hOs hfin hcn hmk hN hr hL hb0 hm0 hB0
      unfold maxLen at hmx
      go_wp2_with fail
      go_loopw [44] (fun i wr => ∃ k : Nat, k ≤ N ∧ i = .int .i64 k ∧ RowK wr g 104 (cap * 11) (cellsS (stL L (upY l k) (upO l k) z0B z0N z0B)) ∧ MapRow wr w.heap.size (marksL l l.length) ∧ wr.cell? ⟨w.heap.size + 1, 0, none⟩ = some (.map (some w.heap.size)) ∧ w.heap.size + 2 ≤ wr.heap.size ∧ Below w.heap.size w wr) (fun i _ => N - (intOf i).toNat)
      case atStart => exact ⟨0, by omega, rfl, hrow, hM, hbox, hsz, hB⟩
      case round =>
        obtain ⟨q, hq, rfl, hrow, hM, hbox, hsz, hB⟩ := hrel
        by_cases hlt : q < N
        · have z0 : (0 : Int) ≤ (q : Int) := by omega
          have z1 : (q : Int) < (N : Int) := by omega
          have hqL : q < L.length := by have := HN.out; omega
          have hxok := getD_okT hiok hqL
          have hrow1 := hrow.alloc (.cells #[.int .i64 q] 3)
          have hM1 := hM.alloc (.cells #[.int .i64 q] 3)
          have hbox1 := (World.cell?_alloc_lt wr (.cells #[.int .i64 q] 3) ⟨w.heap.size + 1, 0, none⟩ (by show w.heap.size + 1 < _; omega)).trans hbox
          have hnb : (wr.alloc (.cells #[.int .i64 q] 3)).cell? ⟨wr.heap.size, 0, none⟩ = some (.int .i64 q) := by rw [World.cell?_alloc_at _ _ _ _ rfl]; rfl
          have c3 := stL_cell hqL hrow 3 (by omega) _ rfl
          have c4 := stL_cell hqL hrow 4 (by omega) _ rfl
          have c5 := stL_cell hqL hrow 5 (by omega) _ rfl
          have c6 := stL_cell hqL hrow 6 (by omega) _ rfl
          have c7 := stL_cell hqL hrow 7 (by omega) _ rfl
          have f6 := hrow.frozen (q * 11 + 6)
          have f7 := hrow.frozen (q * 11 + 7)
          have hglt := hrow.lt
          have hYq := HYS.out q
          have hOq := HOS.out q
          have hset := setYO (L := L) (Y := upY l q) (O := upO l q) (F := z0B) (P := z0N) (D := z0B) hqL (yesN l q) (noN l q)
          rw [← hYq, ← hOq] at hset
          have hyv := HYV.out q hqL
          have hyb := HYB.out q hqL
          have hyo := HYO.out q hqL
          have hl1 := HLOOK.out q hqL ((L.getD q default).tr) (.inl rfl)
          have hl2 := HLOOK.out q hqL ((L.getD q default).fa) (.inr rfl)
          have ht1 := HTO.out q ((L.getD q default).tr)
          have ht2 := HTO.out q ((L.getD q default).fa)
          simp only at c3 c4 c5 c6 c7
          generalize upY l q q = y0 at *
          generalize upO l q q = o0 at *
          generalize hYN : yesN l q = yy at *
          generalize hON : noN l q = oo at *
          generalize toN l q (L.getD q default).tr = t1 at *
          generalize toN l q (L.getD q default).fa = t2 at *
          have hend : ∀ b : Bool, (b = true ↔ isEnd (L.getD q default).kd) → ∀ W : World, Calls Try.prog 95 #[.int .i64 ((L.getD q default).kd : Nat)] W fun e w' => e = .returned (.bool b) ∧ W = w' := fun b hb W => ends_any _ b hb W
          have hr1 := hxok.2.2.2.1
          have hr2 := hxok.2.2.2.2
          have hto1 := fun (W : World) h1 h2 h3 => to_any W wr.heap.size (w.heap.size + 1) w.heap.size q t1 (L.getD q default).tr (marksL l l.length) (by omega) hr1 h1 h2 h3 ht1 hl1
          have hto2 := fun (W : World) h1 h2 h3 => to_any W wr.heap.size (w.heap.size + 1) w.heap.size q t2 (L.getD q default).fa (marksL l l.length) (by omega) hr2 h1 h2 h3 ht2 hl2
          generalize (L.getD q default).kd = d at *
          generalize (L.getD q default).tr = xt at *
          generalize (L.getD q default).fa = xf at *
          have HSET := Lib.hid hset
          have HEND := Lib.hid hend
          have HTO1 := Lib.hid hto1
          have HTO2 := Lib.hid hto2
          have HM1 := Lib.hid hM1
          have HR := Lib.hid hrow
          have HM := Lib.hid hM
          have HBX := Lib.hid hbox
          have hgne : g ≠ w.heap.size + 1 := by omega
          have n63 : q * 11 + 6 ≠ q * 11 + 3 := by omega
          have n64 : q * 11 + 6 ≠ q * 11 + 4 := by omega
          have n73 : q * 11 + 7 ≠ q * 11 + 3 := by omega
          have n74 : q * 11 + 7 ≠ q * 11 + 4 := by omega
          clear hset hend hto1 hto2 hl1 hl2 ht1 ht2 hYq hOq hM1 hrow1 hrow hM hbox hYN hON hr1 hr2 hxok
          by_cases hd : isEnd d
          · obtain ⟨rfl, rfl⟩ := hyv hd
            clear hyv hyb hyo
            go_wp2_with (go_at_call 95; refine (HEND.out true ⟨fun _ => hd, fun _ => rfl⟩ _).mono ?_; rintro e w' ⟨rfl, rfl⟩)
            go_roundw
            case rel =>
              refine ⟨q + 1, by omega, by go_num, ?_, ((HM.out.setCell (by show _ ≠ g; omega) _).setCell (by show _ ≠ g; omega) _).alloc _, ?_, by simp [World.setCell]; omega, ((hB.setCell (by show _ ≤ g; omega) _).setCell (by show _ ≤ g; omega) _).alloc (by simp [World.setCell]; omega) _⟩
              · rw [HSET.out]
                exact ((HR.out.set_ _ _).set_ _ _).alloc _
              · exact (World.cell?_alloc_lt _ _ ⟨w.heap.size + 1, 0, none⟩ (by simp [World.setCell]; omega)).trans ((World.cell?_setCell_other _ _ _ _ (fun e => hgne (by injection e))).trans ((World.cell?_setCell_other _ _ _ _ (fun e => hgne (by injection e))).trans HBX.out))
            case measure => simp [intOf] <;> omega
          · by_cases hd2 : 25 ≤ d
            · obtain ⟨rfl, rfl⟩ := hyb hd2
              have hd3 : (25 : Int) ≤ (d : Int) := by omega
              clear hyv hyb hyo
              go_wp2_with (go_at_call 95; refine (HEND.out false ⟨(fun e => by cases e), fun e => absurd e hd⟩ _).mono ?_; rintro e w' ⟨rfl, rfl⟩)
              go_region_held3 (fun w' => w'.cell? ⟨g, q * 11 + 3, none⟩ = some (.int .i64 xt) ∧ w'.cell? ⟨g, q * 11 + 4, none⟩ = some (.int .i64 xf)) (first | (with_reducible exact ⟨keep_cell0 c3, keep_cell0 c4⟩) | (with_reducible exact ⟨keep_cell c3 n63, keep_cell c4 n64⟩) | (with_reducible exact ⟨keep_cell2 c3 n63 n73, keep_cell2 c4 n64 n74⟩) | go_keep)
                (first
                  | (go_at_call 94; (with_reducible refine (HTO1.out _ ?_ ?_ ?_).mono ?_); exact hnb; exact hbox1; exact HM1.out; rintro e w' ⟨rfl, rfl⟩)
                  | (go_at_call 94; (with_reducible refine (HTO2.out _ ?_ ?_ ?_).mono ?_); exact hnb; exact hbox1; exact HM1.out; rintro e w' ⟨rfl, rfl⟩))
              go_wp2_with fail
              go_roundw
              case rel =>
                refine ⟨q + 1, by omega, by go_num, ?_, ((HM.out.setCell (by show _ ≠ g; omega) _).setCell (by show _ ≠ g; omega) _).alloc _, ?_, by simp [World.setCell]; omega, (((hB.setCell (by show _ ≤ g; omega) _).setCell (by show _ ≤ g; omega) _).alloc (by simp [World.setCell]; omega) _).drew⟩
                · rw [HSET.out]
                  exact ((HR.out.set_ _ _).set_ _ _).alloc _
                · exact (World.cell?_alloc_lt _ _ ⟨w.heap.size + 1, 0, none⟩ (by simp [World.setCell]; omega)).trans ((World.cell?_setCell_other _ _ _ _ (fun e => hgne (by injection e))).trans ((World.cell?_setCell_other _ _ _ _ (fun e => hgne (by injection e))).trans HBX.out))
              case measure => simp [intOf] <;> omega
            · obtain ⟨rfl, rfl⟩ := hyo hd hd2
              have hd3 : ¬ (25 : Int) ≤ (d : Int) := by omega
              clear hyv hyb hyo
              go_wp2_with (first
                | (go_at_call 95; refine (HEND.out false ⟨(fun e => by cases e), fun e => absurd e hd⟩ _).mono ?_; rintro e w' ⟨rfl, rfl⟩)
                | (go_at_call 94; refine (HTO1.out _ hnb hbox1 HM1.out).mono ?_; rintro e w' ⟨rfl, rfl⟩))
              go_roundw
              case rel =>
                refine ⟨q + 1, by omega, by go_num, ?_, ((HM.out.setCell (by show _ ≠ g; omega) _).setCell (by show _ ≠ g; omega) _).alloc _, ?_, by simp [World.setCell]; omega, (((hB.setCell (by show _ ≤ g; omega) _).setCell (by show _ ≤ g; omega) _).alloc (by simp [World.setCell]; omega) _)⟩
                · rw [HSET.out]
                  exact ((HR.out.set_ _ _).set_ _ _).alloc _
                · exact (World.cell?_alloc_lt _ _ ⟨w.heap.size + 1, 0, none⟩ (by simp [World.setCell]; omega)).trans ((World.cell?_setCell_other _ _ _ _ (fun e => hgne (by injection e))).trans ((World.cell?_setCell_other _ _ _ _ (fun e => hgne (by injection e))).trans HBX.out))
              case measure => simp [intOf] <;> omega
        · obtain rfl : q = N := by omega
          have hfin := HFIN.out
          rw [← HN.out] at hfin
          rw [hfin] at hrow
          clear hfin
          go_wp2_with fail
          go_ret
          exact ⟨g, cap, by rw [stL_length, ← HN.out]; rfl, by omega, hrow, by rw [stL_length, ← HN.out]; exact hcap, by unfold maxLen; exact hmx, hB⟩
end Go.Proofs.Ytgalkidhgjgbhaa
