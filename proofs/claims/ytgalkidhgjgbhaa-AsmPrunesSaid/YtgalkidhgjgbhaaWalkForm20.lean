/-
  The walk of strainerref20.Formed: whether items are formed, by the document.
-/
import Derived.Test.YtgalkidhgjgbhaaWalkAt20
import Derived.Test.YtgalkidhgjgbhaaRefOf
namespace Go.Proofs.Ytgalkidhgjgbhaa
open Go.RowKit
set_option linter.unusedVariables false

/-- A question's answer. -/
def Says (P : Prop) (w : World) (e : Ending) (w' : World) : Prop := ∃ b : Bool, e = .returned (.bool b) ∧ (b = true ↔ P) ∧ Below w.heap.size w w'
theorem says_no {P : Prop} {w w' : World} (h : ¬ P) (hB : Below w.heap.size w w') : Says P w (.returned (.bool false)) w' := ⟨false, rfl, ⟨(fun e => by cases e), fun e => (h e).elim⟩, hB⟩
theorem says_yes {P : Prop} {w w' : World} (h : P) (hB : Below w.heap.size w w') : Says P w (.returned (.bool true)) w' := ⟨true, rfl, ⟨fun _ => h, fun _ => rfl⟩, hB⟩
theorem okR_mark {l : List It} {k : Nat} (h : (l.getD k default).mark ≠ 0) : OkR l k ↔ (0 < (l.getD k default).mark ∧ 0 ≤ atN l (l.getD k default).mark ∧ (l.getD k default).code = 0 ∧ (l.getD k default).k = 0 ∧ (l.getD k default).tr = 0 ∧ (l.getD k default).fa = 0) := by
  unfold OkR; rw [if_pos h]
theorem okR_ins {l : List It} {k : Nat} (h : ¬ (l.getD k default).mark ≠ 0) : OkR l k ↔ ((l.getD k default).kd ≠ 0 ∧ ((l.getD k default).tr ≠ 0 → ((l.getD k default).kd = 13 ∨ 25 ≤ (l.getD k default).kd) ∧ (k : Int) < atN l (l.getD k default).tr) ∧
    ((l.getD k default).fa ≠ 0 → 25 ≤ (l.getD k default).kd ∧ (k : Int) < atN l (l.getD k default).fa)) := by
  unfold OkR; rw [if_neg h]

set_option maxRecDepth 100000 in
set_option maxHeartbeats 4000000 in
theorem formed20_any (l : List It) (hok : ∀ x ∈ l, x.Ok) (A : Option Addr) (n c : Nat) (w : World) (hr : Reads w w.heap.size 5 A n (cellsT l)) (hn : n ≤ 1000000) :
    Calls Try.prog 34 #[.slice A n c] w (Says (Form l) w) := by
  have hl : n = l.length := by have := hr.1; rw [cellsT_length] at this; omega
  have HL := Lib.hid hl
  clear hl
  go_enter Try.func34, Try.ntmps34
  go_wp2_with fail
  go_loopw [3] (fun i wr => ∃ k : Nat, k ≤ n ∧ i = .int .i64 k ∧ (∀ p, p < k → OkR l p) ∧ Below w.heap.size w wr) (fun i _ => n - (intOf i).toNat)
  case atStart => exact ⟨0, by omega, rfl, fun p hp => absurd hp (by omega), Below.refl _ _⟩
  case round =>
    obtain ⟨k, hk, rfl, hA, hB⟩ := hrel
    by_cases hlt : k < n
    · obtain ⟨b, off, rfl, hb, hc⟩ := (hr.below hB).at5 hlt
      obtain ⟨h0, h1, h2, h3, h4⟩ := hc k hlt
      have z0 : (0 : Int) ≤ (k : Int) := by omega
      have z1 : (k : Int) < (n : Int) := by omega
      have hkl : k < l.length := by have := HL.out; omega
      have hxok := getD_okT hok hkl
      have hat := fun (m : Int) (W : World) (h : Below w.heap.size w W) => at_any l (some ⟨b, off, none⟩) n c m W ((hr.below h).more h.size) hn
      have hnot : ¬ OkR l k → ¬ Form l := fun h hF => h ((form_iff_R l).2 hF |>.1 k hkl)
      have hsucc : OkR l k → ∀ p, p < k + 1 → OkR l p := fun h p hp => by
        by_cases e : p = k
        · subst e; exact h
        · exact hA p (by omega)
      have hbw : b < wr.heap.size := by have := hB.size; omega
      have HAT := Lib.hid hat
      have HNOT := Lib.hid hnot
      have HSUCC := Lib.hid hsucc
      have hgm := atN_ge l (l.getD k default).mark
      have hgt := atN_ge l (l.getD k default).tr
      have hgf := atN_ge l (l.getD k default).fa
      clear hc hat hnot hsucc hA
      by_cases hm : (l.getD k default).mark ≠ 0
      · have hiff := okR_mark hm
        generalize hx : l.getD k default = x at *
        generalize hy : atN l x.mark = r at *
        have HY := Lib.hid hy
        have HIFF := Lib.hid hiff
        clear hx hiff hy hgt hgf
        have q0 : (x.mark != 0) = true := by simpa using hm
        obtain ⟨xm, xc, xk, xt, xf⟩ := x
        obtain ⟨_, o1, o2, _⟩ := hxok
        simp only at *
        go_wp2_with (go_at_call 55; refine (HAT.out xm _ (hB.alloc hB.size _)).mono ?_; rintro e w1 ⟨rfl, rfl⟩; rw [HY.out])
        all_goals first
          | (go_roundw
             case rel =>
               refine ⟨k + 1, by omega, by go_num, HSUCC.out (HIFF.out.2 ⟨by omega, by omega, by omega, by omega, by omega, ?_⟩), hB.alloc hB.size _⟩
               simp_all
             case measure => simp [intOf] <;> omega)
          | (go_ret
             refine says_no (HNOT.out (fun h => ?_)) (hB.alloc hB.size _)
             obtain ⟨a1, a2, a3, a4, a5, a6⟩ := HIFF.out.1 h
             first | omega | (simp_all; done) | (simp_all; omega))
      · have hiff := okR_ins hm
        have hm0 : (l.getD k default).mark = 0 := by omega
        have hcall := fun W => refOf_any (l.getD k default).code hxok.2.1 W
        have hkd : (l.getD k default).kd = (ofN (l.getD k default).code).1 := rfl
        have hdl := ofN_le (l.getD k default).code
        unfold TellsOf at hcall
        rw [hkd] at hiff
        rw [hm0] at h0
        generalize hx : l.getD k default = x at *
        generalize (ofN x.code).1 = d at *
        generalize (ofN x.code).2 = xx at *
        generalize hyt : atN l x.tr = rt at *
        generalize hyf : atN l x.fa = rf at *
        have HYT := Lib.hid hyt
        have HYF := Lib.hid hyf
        have HIFF := Lib.hid hiff
        have HC := Lib.hid hcall
        clear hx hiff hyt hyf hgm hcall hkd hm0 hm
        obtain ⟨xm, xc, xk, xt, xf⟩ := x
        simp only at *
        clear hxok
        go_wp2_with (first
          | (go_at_call 28; refine (HC.out _).mono ?_; rintro e w1 ⟨rfl, hB1⟩; have hB1w := (hB.alloc hB.size _).trans (hB1.mono (by have := hB.size; simp; omega)); have b1 := (Blk.new wr 73 #[.int .i64 0, .int .u16 xc, .int .u32 xk, .int .i64 xt, .int .i64 xf]).below hB1 (by simp); have k3 : w1.cell? ⟨wr.heap.size, 3, none⟩ = some (.int .i64 xt) := (by rw [b1.cell]; rfl); have k4 : w1.cell? ⟨wr.heap.size, 4, none⟩ = some (.int .i64 xf) := (by rw [b1.cell]; rfl); clear b1)
          | (go_at_call 55; (with_reducible refine (HAT.out xt _ hB1w).mono ?_); rintro e w2 ⟨rfl, rfl⟩; rw [HYT.out])
          | (go_at_call 55; (with_reducible refine (HAT.out xf _ hB1w).mono ?_); rintro e w2 ⟨rfl, rfl⟩; rw [HYF.out]))
        all_goals (try simp only [bne_iff_ne, ne_eq, bne_eq_false_iff_eq, beq_iff_eq, beq_eq_false_iff_ne] at *)
        all_goals first
          | (go_roundw
             case rel =>
               refine ⟨k + 1, by omega, by go_num, HSUCC.out (HIFF.out.2 ?_), hB1w⟩
               refine ⟨by omega, fun h => ⟨by omega, by omega⟩, fun h => ⟨by omega, by omega⟩⟩
             case measure => simp [intOf] <;> omega)
          | (go_ret
             refine says_no (HNOT.out (fun h => ?_)) hB1w
             obtain ⟨a1, a2, a3⟩ := HIFF.out.1 h
             omega)
    · obtain rfl : k = n := by omega
      have hall : EndOk l → Form l := fun h => (form_iff_R l).1 ⟨fun i hi => hA i (by have := HL.out; omega), h⟩
      have hend : Form l → EndOk l := fun h => h.2
      have HALL := Lib.hid hall
      have HEND := Lib.hid hend
      clear hall hend hA
      rcases Nat.eq_zero_or_pos k with h0 | h0
      · subst h0
        have hno : ¬ Form l := fun h => (HEND.out h).1 (List.eq_nil_of_length_eq_zero HL.out.symm)
        have HN := Lib.hid hno
        clear hno
        go_wp2_with fail
        go_ret
        exact says_no HN.out hB
      · obtain ⟨b, off, rfl, hb, hc⟩ := (hr.below hB).at5 (k := k - 1) (by omega)
        obtain ⟨g0, g1, g2, g3, g4⟩ := hc (k - 1) (by omega)
        have hkl : k - 1 < l.length := by have := HL.out; omega
        have hxok := getD_okT hok hkl
        have hendiff : EndOk l ↔ (l.getD (k - 1) default).mark = 0 ∧ isEnd (l.getD (k - 1) default).kd := by
          unfold EndOk
          rw [← HL.out]
          exact ⟨fun h => h.2, fun h => ⟨fun e => by rw [e] at hkl; simp at hkl, h⟩⟩
        have hcall := fun W => refOf_any (l.getD (k - 1) default).code hxok.2.1 W
        have hkd : (l.getD (k - 1) default).kd = (ofN (l.getD (k - 1) default).code).1 := rfl
        unfold TellsOf at hcall
        rw [hkd] at hendiff
        unfold isEnd at hendiff
        obtain ⟨j, rfl⟩ : ∃ j, k = j + 1 := ⟨k - 1, by omega⟩
        rw [Nat.add_sub_cancel] at *
        generalize hx : l.getD j default = x at *
        generalize (ofN x.code).1 = d at *
        generalize (ofN x.code).2 = xx at *
        have HC := Lib.hid hcall
        have HIFF := Lib.hid hendiff
        clear hx hcall hendiff hkd hc hr
        obtain ⟨xm, xc, xk, xt, xf⟩ := x
        simp only at *
        clear hxok
        by_cases hm : xm = 0
        · subst hm
          go_wp2_with (go_at_call 28; refine (HC.out _).mono ?_; rintro e w1 ⟨rfl, hB1⟩; have hB1w := hB.trans (hB1.mono hB.size))
          all_goals
            go_ret
            refine ⟨_, rfl, ?_, hB1w⟩
            have hform : Form l ↔ (d = 14 ∨ d = 15) := ⟨fun h => (HIFF.out.1 (HEND.out h)).2, fun h => HALL.out (HIFF.out.2 ⟨by trivial, h⟩)⟩
            rw [hform]
            simp
            try omega
        · have hno : ¬ Form l := fun h => by
            have := HIFF.out.1 (HEND.out h)
            exact hm this.1
          have HN := Lib.hid hno
          have q0 : (xm != 0) = true := by simpa using hm
          clear hno
          go_wp2_with fail
          go_ret
          exact says_no HN.out hB
end Go.Proofs.Ytgalkidhgjgbhaa
