/-
  The walk of gen.Formed: whether items are formed, by the program.
-/
import Derived.Test.YtgalkidhgjgbhaaWalkForm20
import Derived.Test.YtgalkidhgjgbhaaMapRow
import Derived.Test.YtgalkidhgjgbhaaWalkOf
namespace Go.Proofs.Ytgalkidhgjgbhaa
open Go.RowKit
set_option linter.unusedVariables false

/-- The marks that are seen from the end on. -/
def seenL (l : List It) (m : Nat) : List (Int × Value) := (((l.drop m).reverse).filter fun x => decide (x.mark ≠ 0)).map fun x => (x.mark, .bool true)
def seenB (l : List It) (m : Nat) (q : Int) : Bool := (l.drop m).any fun x => decide (x.mark ≠ 0) && decide (x.mark = q)
theorem drop_consT (l : List It) (m : Nat) (h : m < l.length) : l.drop m = l.getD m default :: l.drop (m + 1) := by
  rw [List.drop_eq_getElem_cons h]
  simp [h]
theorem seenL_step (l : List It) (m : Nat) (h : m < l.length) : seenL l m = if (l.getD m default).mark ≠ 0 then seenL l (m + 1) ++ [((l.getD m default).mark, .bool true)] else seenL l (m + 1) := by
  unfold seenL
  rw [drop_consT l m h, List.reverse_cons, List.filter_append, List.map_append]
  by_cases e : (l.getD m default).mark ≠ 0
  · rw [if_pos e]
    simp only [List.filter_cons, decide_eq_true_eq, if_pos e]
    rfl
  · rw [if_neg e]
    simp only [List.filter_cons, decide_eq_true_eq, if_neg e]
    simp
theorem look_seen (l : List It) (m : Nat) (q : Int) : IntMaps.look (seenL l m) q = if seenB l m q = true then some (.bool true) else none := by
  have key : ∀ L : List It, IntMaps.look ((L.filter fun x => decide (x.mark ≠ 0)).map fun x => (x.mark, Value.bool true)) q = if (L.any fun x => decide (x.mark ≠ 0) && decide (x.mark = q)) = true then some (.bool true) else none := by
    intro L
    induction L with
    | nil => rfl
    | cons x L ih =>
      by_cases e : x.mark ≠ 0
      · rw [List.filter_cons, if_pos (by simpa using e), List.map_cons]
        unfold IntMaps.look at ih ⊢
        rw [List.find?_cons]
        by_cases e2 : x.mark = q
        · subst e2
          simp [e]
        · have : (x.mark == q) = false := by simpa using e2
          simp only [this]
          rw [ih]
          simp [e2]
      · rw [List.filter_cons, if_neg (by simpa using e), ih]
        simp [e]
  unfold seenL seenB
  rw [key, List.any_reverse]
theorem seenB_iff (l : List It) (m : Nat) (q : Int) (hq : q ≠ 0) : seenB l m q = true ↔ Seen l m q := by
  unfold seenB Seen
  rw [List.any_eq_true]
  constructor
  · rintro ⟨x, hx, h⟩
    obtain ⟨j, hj, rfl⟩ := List.mem_iff_getElem.1 hx
    simp only [Bool.and_eq_true, decide_eq_true_eq] at h
    rw [List.length_drop] at hj
    refine ⟨m + j, by omega, by omega, ?_⟩
    have : l.getD (m + j) default = (l.drop m)[j]'(by rw [List.length_drop]; exact hj) := by simp [show m + j < l.length by omega]
    rw [this]; exact h.2
  · rintro ⟨j, h1, h2, h3⟩
    have : l.getD j default = l[j] := by simp [h2]
    rw [this] at h3
    refine ⟨l[j], ?_, by simp [h3, hq]⟩
    rw [List.mem_iff_getElem]
    exact ⟨j - m, by rw [List.length_drop]; omega, by simp [show m + (j - m) = j by omega]⟩
theorem okG_mark {l : List It} {k : Nat} (h : (l.getD k default).mark ≠ 0) : OkG l k ↔ (0 < (l.getD k default).mark ∧ seenB l (k + 1) (l.getD k default).mark = false ∧ (l.getD k default).code = 0 ∧ (l.getD k default).k = 0 ∧ (l.getD k default).tr = 0 ∧ (l.getD k default).fa = 0) := by
  unfold OkG
  rw [if_pos h, ← seenB_iff l (k + 1) _ h]
  simp
theorem okG_ins {l : List It} {k : Nat} (h : ¬ (l.getD k default).mark ≠ 0) : OkG l k ↔ ((l.getD k default).kd ≠ 0 ∧ ((l.getD k default).tr ≠ 0 → ((l.getD k default).kd = 13 ∨ 25 ≤ (l.getD k default).kd) ∧ seenB l (k + 1) (l.getD k default).tr = true) ∧
    ((l.getD k default).fa ≠ 0 → 25 ≤ (l.getD k default).kd ∧ seenB l (k + 1) (l.getD k default).fa = true)) := by
  unfold OkG
  rw [if_neg h]
  constructor
  · rintro ⟨a, b, c⟩
    exact ⟨a, fun e => ⟨(b e).1, (seenB_iff _ _ _ e).2 (b e).2⟩, fun e => ⟨(c e).1, (seenB_iff _ _ _ e).2 (c e).2⟩⟩
  · rintro ⟨a, b, c⟩
    exact ⟨a, fun e => ⟨(b e).1, (seenB_iff _ _ _ e).1 (b e).2⟩, fun e => ⟨(c e).1, (seenB_iff _ _ _ e).1 (c e).2⟩⟩

set_option maxRecDepth 100000 in
set_option maxHeartbeats 4000000 in
theorem formedG_any (l : List It) (hok : ∀ x ∈ l, x.Ok) (A : Option Addr) (n c : Nat) (w : World) (hr : Reads w w.heap.size 5 A n (cellsT l)) (hn : n ≤ 1000000) :
    Calls Try.prog 50 #[.slice A n c] w (Says (Form l) w) := by
  have hl : n = l.length := by have := hr.1; rw [cellsT_length] at this; omega
  have HL := Lib.hid hl
  clear hl
  have hmm := @run_makeMap (Try.prog)
  go_enter Try.func50, Try.ntmps50
  go_wp2_with fail
  have hm0 : MapRow (w.alloc (.map #[] 0)) w.heap.size (seenL l n) := by
    have e : seenL l n = [] := by unfold seenL; rw [List.drop_eq_nil_of_le (by have := HL.out; omega)]; rfl
    rw [e]; exact MapRow.new w
  have hB0 : Below w.heap.size w (w.alloc (.map #[] 0)) := (Below.refl _ w).alloc (Nat.le_refl _) _
  generalize w.alloc (.map #[] 0) = w0 at *
  go_loopw [4] (fun i wr => ∃ m : Nat, m ≤ n ∧ i = .int .i64 ((m : Int) - 1) ∧ (∀ p, m ≤ p → p < n → OkG l p) ∧ MapRow wr w.heap.size (seenL l m) ∧ Below w.heap.size w wr) (fun i _ => (intOf i + 1).toNat)
  case atStart => exact ⟨n, by omega, rfl, fun p hp hp2 => by omega, hm0, hB0⟩
  case round =>
    obtain ⟨m, hm, rfl, hA, hM, hB⟩ := hrel
    rcases m with _ | k
    · rw [show (((0 : Nat) : Int) - 1) = (-1 : Int) from rfl]
      have hall : EndOk l → Form l := fun h => (form_iff_G l).1 ⟨fun i hi => hA i (by omega) (by have := HL.out; omega), h⟩
      have hend : Form l → EndOk l := fun h => h.2
      have HALL := Lib.hid hall
      have HEND := Lib.hid hend
      clear hall hend hA hM hm
      obtain ⟨k, rfl⟩ : ∃ k, k = n := ⟨n, rfl⟩
      rcases Nat.eq_zero_or_pos k with h0 | h0
      · subst h0
        have hno : ¬ Form l := fun h => (HEND.out h).1 (List.eq_nil_of_length_eq_zero HL.out.symm)
        have HN := Lib.hid hno
        clear hno
        go_wp2_with fail
        go_ret
        exact says_no HN.out hB
      · obtain ⟨b, off, rfl, hb, hc⟩ := (hr.below hB).at5 (k := k - 1) (by omega)
        obtain ⟨g0, g1, g2, g3, g4⟩ := hc (k - 1) (by omega)
        have hkl : k - 1 < l.length := by have := HL.out; omega
        have hxok := getD_okT hok hkl
        have hendiff : EndOk l ↔ (l.getD (k - 1) default).mark = 0 ∧ isEnd (l.getD (k - 1) default).kd := by
          unfold EndOk
          rw [← HL.out]
          exact ⟨fun h => h.2, fun h => ⟨fun e => by rw [e] at hkl; simp at hkl, h⟩⟩
        have hcall := fun W => of_any (l.getD (k - 1) default).code hxok.2.1 W
        have hkd : (l.getD (k - 1) default).kd = (ofN (l.getD (k - 1) default).code).1 := rfl
        rw [hkd] at hendiff
        unfold isEnd at hendiff
        obtain ⟨j, rfl⟩ : ∃ j, k = j + 1 := ⟨k - 1, by omega⟩
        rw [Nat.add_sub_cancel] at *
        generalize hx : l.getD j default = x at *
        generalize (ofN x.code).1 = d at *
        generalize (ofN x.code).2 = xx at *
        have HC := Lib.hid hcall
        have HIFF := Lib.hid hendiff
        clear hx hcall hendiff hkd hc hr
        obtain ⟨xm, xc, xk, xt, xf⟩ := x
        simp only at *
        clear hxok
        by_cases hm : xm = 0
        · subst hm
          go_wp2_with (go_at_call 47; refine (HC.out _).mono ?_; rintro e w1 ⟨rfl, hB1⟩; have hB1w := hB.trans (hB1.mono hB.size))
          all_goals
            go_ret
            refine ⟨_, rfl, ?_, hB1w⟩
            have hform : Form l ↔ (d = 14 ∨ d = 15) := ⟨fun h => (HIFF.out.1 (HEND.out h)).2, fun h => HALL.out (HIFF.out.2 ⟨by trivial, h⟩)⟩
            rw [hform]
            simp
            try omega
        · have hno : ¬ Form l := fun h => by
            have := HIFF.out.1 (HEND.out h)
            exact hm this.1
          have HN := Lib.hid hno
          have q0 : (xm != 0) = true := by simpa using hm
          clear hno
          go_wp2_with fail
          go_ret
          exact says_no HN.out hB
    · rw [show (((k + 1 : Nat) : Int) - 1) = (k : Int) from by omega]
      have hlt : k < n := by omega
      obtain ⟨b, off, rfl, hb, hc⟩ := (hr.below hB).at5 hlt
      obtain ⟨h0, h1, h2, h3, h4⟩ := hc k hlt
      have z0 : (0 : Int) ≤ (k : Int) := by omega
      have z1 : (k : Int) < (n : Int) := by omega
      have hkl : k < l.length := by have := HL.out; omega
      have hxok := getD_okT hok hkl
      have hnot : ¬ OkG l k → ¬ Form l := fun h hF => h ((form_iff_G l).2 hF |>.1 k hkl)
      have hsucc : OkG l k → ∀ p, k ≤ p → p < n → OkG l p := fun h p hp hp2 => by
        by_cases e : p = k
        · subst e; exact h
        · exact hA p (by omega) hp2
      have hstep := seenL_step l k hkl
      have hlook := look_seen l (k + 1)
      have hbw : b < wr.heap.size := by have := hB.size; omega
      have hlk : ∀ (q : Int) (W : World), -9223372036854775808 ≤ q ∧ q ≤ 9223372036854775807 → MapRow W w.heap.size (seenL l (k + 1)) → (Instr.lookup 135 (.map (some w.heap.size)) (.int .i64 q) false).run Try.prog W = .ok (.bool (seenB l (k + 1) q)) W := fun q W hq h => by
        rw [run_lookup_row h 135 3 4 Try.underlying135 Try.underlying3 q (.bool false) (WalkArith.wf_i64 hq) (by kernel_rfl), hlook]
        cases seenB l (k + 1) q <;> rfl
      have HNOT := Lib.hid hnot
      have HSUCC := Lib.hid hsucc
      have HLK := Lib.hid hlk
      clear hc hnot hsucc hA hlk
      by_cases hm1 : (l.getD k default).mark ≠ 0
      · have hiff := okG_mark hm1
        rw [if_pos hm1] at hstep
        have hnew := hlook (l.getD k default).mark
        generalize hx : l.getD k default = x at *
        have q0 : (x.mark != 0) = true := by simpa using hm1
        have hrun := HLK.out x.mark (wr.alloc (.cells #[.int .i64 x.mark, .int .u16 x.code, .int .u32 x.k, .int .i64 x.tr, .int .i64 x.fa] 61)) hxok.1 (hM.alloc _)
        generalize hy : seenB l (k + 1) x.mark = r at *
        have HY := Lib.hid hy
        have HIFF := Lib.hid hiff
        have HNEW := Lib.hid hnew
        have HST := Lib.hid hstep
        clear hx hiff hy hnew hstep hlook
        obtain ⟨xm, xc, xk, xt, xf⟩ := x
        have hwf : (Lit.int .i64 xm).wf = true := WalkArith.wf_i64 hxok.1
        obtain ⟨_, o1, o2, _⟩ := hxok
        simp only at *
        cases r with
        | true =>
          go_wp2_with fail
          all_goals
            go_ret
            refine says_no (HNOT.out (fun h => ?_)) (hB.alloc hB.size _)
            obtain ⟨a1, a2, a3, a4, a5, a6⟩ := HIFF.out.1 h
            cases a2
        | false =>
          have hnone : IntMaps.look (seenL l (k + 1)) xm = none := by rw [HNEW.out]; rfl
          have HNO := Lib.hid hnone
          clear hnone
          go_wp2_with (at_mapUpdate; refine wpList_put_row rfl 135 (.tmp 44) (.tmp 46) (.const (.bool true)) rfl 3 4 Try.underlying135 Try.underlying3 w.heap.size _ xm _ rfl rfl rfl (hM.alloc _) hwf HNO.out ?_; intro W2 hM2 hg2)
          all_goals first
            | (go_roundw
               case rel =>
                 refine ⟨k, by omega, rfl, HSUCC.out (HIFF.out.2 ⟨by omega, rfl, by omega, by omega, by omega, by omega⟩), by rw [HST.out]; exact hM2, (hB.alloc hB.size _).grown hg2 (by have := hB.size; simp; omega) (fun g e => by cases e; exact Nat.le_refl _)⟩
               case measure => simp [intOf] <;> omega)
            | (go_ret
               refine says_no (HNOT.out (fun h => ?_)) (hB.alloc hB.size _)
               obtain ⟨a1, a2, a3, a4, a5, a6⟩ := HIFF.out.1 h
               first | omega | (simp_all; done) | (simp_all; omega))
      · have hiff := okG_ins hm1
        have hm0' : (l.getD k default).mark = 0 := by omega
        rw [if_neg hm1] at hstep
        have hcall := fun W => of_any (l.getD k default).code hxok.2.1 W
        have hkd : (l.getD k default).kd = (ofN (l.getD k default).code).1 := rfl
        have hdl := ofN_le (l.getD k default).code
        rw [hkd] at hiff
        rw [hm0'] at h0
        generalize hx : l.getD k default = x at *
        generalize (ofN x.code).1 = d at *
        generalize (ofN x.code).2 = xx at *
        generalize hyt : seenB l (k + 1) x.tr = rt at *
        generalize hyf : seenB l (k + 1) x.fa = rf at *
        have HYT := Lib.hid hyt
        have HYF := Lib.hid hyf
        have HIFF := Lib.hid hiff
        have HC := Lib.hid hcall
        have HST := Lib.hid hstep
        clear hx hiff hyt hyf hcall hkd hm0' hm1 hstep hlook
        obtain ⟨xm, xc, xk, xt, xf⟩ := x
        obtain ⟨_, o1, o2, o3, o4⟩ := hxok
        have O3 := Lib.hid o3
        have O4 := Lib.hid o4
        simp only at *
        clear o3 o4
        by_cases hd : d = 0
        · subst hd
          go_wp2_with (go_at_call 47; refine (HC.out _).mono ?_; rintro e w1 ⟨rfl, hB1⟩; have hB1w := (hB.alloc hB.size _).trans (hB1.mono (by have := hB.size; simp; omega)); have b1 := (Blk.new wr 61 #[.int .i64 0, .int .u16 xc, .int .u32 xk, .int .i64 xt, .int .i64 xf]).below hB1 (by simp); have k3 : w1.cell? ⟨wr.heap.size, 3, none⟩ = some (.int .i64 xt) := (by rw [b1.cell]; rfl); have k4 : w1.cell? ⟨wr.heap.size, 4, none⟩ = some (.int .i64 xf) := (by rw [b1.cell]; rfl); clear b1)
          go_ret
          refine says_no (HNOT.out (fun h => ?_)) hB1w
          exact (HIFF.out.1 h).1 rfl
        · have hdb : (d != 0) = true := by simpa using hd
          go_wp2_with (go_at_call 47; refine (HC.out _).mono ?_; rintro e w1 ⟨rfl, hB1⟩; have hB1w := (hB.alloc hB.size _).trans (hB1.mono (by have := hB.size; simp; omega)); have b1 := (Blk.new wr 61 #[.int .i64 0, .int .u16 xc, .int .u32 xk, .int .i64 xt, .int .i64 xf]).below hB1 (by simp); have k3 : w1.cell? ⟨wr.heap.size, 3, none⟩ = some (.int .i64 xt) := (by rw [b1.cell]; rfl); have k4 : w1.cell? ⟨wr.heap.size, 4, none⟩ = some (.int .i64 xf) := (by rw [b1.cell]; rfl); clear b1; have hM1 := (hM.alloc (.cells #[.int .i64 0, .int .u16 xc, .int .u32 xk, .int .i64 xt, .int .i64 xf] 61)).below hB1 (by have := hM.lt; simp; omega); have lt := HLK.out xt w1 O3.out hM1; have lf := HLK.out xf w1 O4.out hM1; rw [HYT.out] at lt; rw [HYF.out] at lf; have HM1 := Lib.hid hM1; clear hM1)
          all_goals (try simp only [bne_iff_ne, ne_eq, bne_eq_false_iff_eq, Bool.not_eq_true', Bool.not_eq_false', decide_eq_true_eq, decide_eq_false_iff_not, Bool.not_eq_true] at *)
          all_goals first
            | (go_roundw
               case rel =>
                 refine ⟨k, by omega, rfl, HSUCC.out (HIFF.out.2 ?_), by rw [HST.out]; exact HM1.out, hB1w⟩
                 refine ⟨by omega, fun h => ⟨by omega, by first | assumption | omega | simp_all⟩, fun h => ⟨by omega, by first | assumption | omega | simp_all⟩⟩
               case measure => simp [intOf] <;> omega)
            | (go_ret
               refine says_no (HNOT.out (fun h => ?_)) hB1w
               obtain ⟨a1, a2, a3⟩ := HIFF.out.1 h
               have a2' := fun e => (a2 e).1
               have a3' := fun e => (a3 e).1
               first | omega | (simp_all; done))
end Go.Proofs.Ytgalkidhgjgbhaa
