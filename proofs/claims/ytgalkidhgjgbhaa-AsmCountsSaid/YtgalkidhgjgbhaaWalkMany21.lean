/-
  The walk of strainerref21.Many.
-/
import Derived.Test.YtgalkidhgjgbhaaAsmMany
import Derived.Test.YtgalkidhgjgbhaaWalkReached21
namespace Go.Proofs.Ytgalkidhgjgbhaa
open Go.RowKit
set_option linter.unusedVariables false

set_option maxRecDepth 100000 in
set_option maxHeartbeats 4000000 in
theorem many_any (l : List It) (hok : ∀ x ∈ l, x.Ok) (hF : Form l) (A : Option Addr) (n c : Nat) (w : World) (hr : Reads w w.heap.size 5 A n (cellsT l)) (hn : n ≤ 100000) :
    Calls Try.prog 37 #[.slice A n c] w fun e w' => ∃ b : Nat, e = .returned (.tuple #[.int .i64 (manyN l l.length : Nat), .int .i64 b]) ∧ Below w.heap.size w w' := by
  have hl : n = l.length := by have := hr.1; rw [cellsT_length] at this; omega
  have HL := Lib.hid hl
  clear hl
  go_enter Try.func37, Try.ntmps37
  go_wp2_with fail
  refine (reached21_any l hok hF A n c w hr hn).mono ?_
  rintro e w1 ⟨out, A1, c1, rfl, hH, hr1, hB1⟩
  go_wp2_with fail
  go_loopw [5, 6, 7] (fun m b i wr => ∃ (k f : Nat), k ≤ n ∧ i = .int .i64 k ∧ m = .int .i64 (manyN l k : Nat) ∧ b = .int .i64 f ∧ f ≤ k ∧ Below w1.heap.size w1 wr) (fun _ _ i _ => n - (intOf i).toNat)
  case atStart => exact ⟨0, 0, by omega, rfl, rfl, rfl, by omega, Below.refl _ _⟩
  case round =>
    obtain ⟨k, f, hk, rfl, rfl, rfl, hf, hB⟩ := hrel
    by_cases hlt : k < n
    · have hkl : k < l.length := by have := HL.out; omega
      have hmk := manyN_le l (Nat.le_of_lt hkl)
      have hBw := hB1.trans (hB.mono hB1.size)
      obtain ⟨b, off, rfl, hb, hc⟩ := (hr.below hBw).at5 hlt
      obtain ⟨m0, m1, -, -, -⟩ := hc k hlt
      have hr1' := hr1.below hB
      obtain ⟨ad, e1, hb1, hc1⟩ := hr1'.2 (by omega)
      have hg1 : (boolsV (out.take n))[k]? = some (.bool (out.getD k false)) := by
        have e : (out.take n).getD k false = out.getD k false := by simp [List.getD_eq_getElem?_getD, hlt]
        rw [← e]
        refine boolsV_get _ k ?_
        rw [List.length_take]
        have := hH.1
        have := HL.out
        omega
      have hcell := hc1 k _ hg1
      obtain ⟨b1, off1, sp1⟩ := ad
      have hsp : sp1 = none := by
        have h0 := hc1 0 _ (List.getElem?_eq_getElem (by rw [boolsV_length, List.length_take]; have := hH.1; have := HL.out; omega))
        simpa [Addr.add] using World.cell?_spot h0
      subst hsp
      subst e1
      have hcell' : wr.cell? ⟨b1, off1 + k, none⟩ = some (.bool (out.getD k false)) := by
        rw [← hcell]
        unfold Addr.add
        by_cases h0 : k = 0
        · subst h0; rfl
        · rw [if_neg h0]
      have z0 : (0 : Int) ≤ (k : Int) := by omega
      have z1 : (k : Int) < (n : Int) := by omega
      clear hcell hc hc1 hg1
      have hcode := (getD_okT hok hkl).2.1
      generalize hcd : (l.getD k default).code = cd at m1 hcode
      have HCD := Lib.hid hcd
      clear hcd
      by_cases hm : (l.getD k default).mark = 0
      · have hins := manyN_ins hkl hm
        have hfin : out.getD k false = reachB l (cnt l k) := by
          have hk2 : cnt l k ≤ (ins l).length := by rw [← cnt_all]; exact cnt_mono' l (Nat.le_of_lt hkl) (Nat.le_refl _)
          rw [Bool.eq_iff_iff, hH.2 k hkl hm, cnt_all, hF.reachB_iff hk2]
          exact (hF.reach_iff hk2 (Nat.le_refl _)).symm
        rw [← hfin] at hins
        rw [hm] at m0
        generalize out.getD k false = o at *
        generalize manyN l k = mk at *
        have HINS := Lib.hid hins
        have HM := Lib.hid hm
        have HH := Lib.hid hH
        clear hins hfin hm hH hr1' hr1
        cases o with
        | false =>
          go_wp2_with fail
          go_roundw
          case rel => exact ⟨k + 1, f, by omega, by go_num, by rw [HINS.out]; rfl, rfl, by omega, hB⟩
          case measure => simp [intOf] <;> omega
        | true =>
          go_wp2_with fail
          refine (refOf_any cd hcode _).mono ?_
          rintro e w3 ⟨rfl, hB3⟩
          generalize (ofN cd).1 = kk at *
          generalize (ofN cd).2 = xx at *
          have hB3w := hB.trans (hB3.mono hB.size)
          by_cases h25 : 25 ≤ kk
          · have g25 : (25 : Int) ≤ (kk : Int) := by omega
            go_wp2_with fail
            go_roundw
            case rel => exact ⟨k + 1, f + 1, by omega, by go_num, by rw [HINS.out]; go_num, by go_num, by omega, hB3w⟩
            case measure => simp [intOf] <;> omega
          · have g25 : ¬ (25 : Int) ≤ (kk : Int) := by omega
            go_wp2_with fail
            go_roundw
            case rel => exact ⟨k + 1, f, by omega, by go_num, by rw [HINS.out]; go_num, rfl, by omega, hB3w⟩
            case measure => simp [intOf] <;> omega
      · have hins := manyN_mark hkl hm
        have q1 : ((l.getD k default).mark != 0) = true := by simpa using hm
        generalize (l.getD k default).mark = mm at m0 q1
        generalize out.getD k false = o at *
        generalize manyN l k = mk at *
        have HINS := Lib.hid hins
        have HH := Lib.hid hH
        clear hins hm hH hr1' hr1
        cases o
        all_goals
          go_wp2_with fail
          go_roundw
          case rel => exact ⟨k + 1, f, by omega, by go_num, by rw [HINS.out], rfl, by omega, hB⟩
          case measure => simp [intOf] <;> omega
    · have hkl : k = l.length := by have := HL.out; omega
      subst hkl
      have z1 : ¬ (l.length : Int) < (n : Int) := by omega
      go_wp2_with fail
      go_ret2
      exact ⟨⟨f, rfl⟩, hB1.trans (hB.mono hB1.size)⟩
end Go.Proofs.Ytgalkidhgjgbhaa
