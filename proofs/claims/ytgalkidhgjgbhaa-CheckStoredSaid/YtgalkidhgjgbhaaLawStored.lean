/-
  The walk of CheckStored: true.
-/
import Derived.Test.YtgalkidhgjgbhaaLawTells
namespace Go.Proofs.Ytgalkidhgjgbhaa
open Go.RowKit
set_option linter.unusedVariables false

set_option maxRecDepth 100000 in
set_option maxHeartbeats 2000000 in
theorem checkStored_few (w : World) (l : List I) (hok : ∀ i ∈ l, i.Ok) (A : Option Addr) (n c : Nat) (hr : Reads w w.heap.size 4 A n (cellsI l)) (hn : n ≤ 200) :
    Calls Try.prog 5 #[.slice A n c] w fun e w' => e = .returned (.bool true) ∧ Below w.heap.size w w' := by
  have hl : n = l.length := by have := hr.1; rw [cellsI_length] at this; omega
  have HL := Lib.hid hl
  clear hl
  have hn' : ¬ (200 : Int) < (n : Int) := by omega
  by_cases hbad : (formedN l).2 = 0
  · have hst := storedN_length l hbad
    rw [← HL.out] at hst
    have e0 := formed_zero l hbad
    have hPP := formed_of hbad
    have hse : rstoredN l = storedN l := by unfold storedN; rw [if_pos hbad, stored_eq l hPP.inside]
    have hs := fun W h => refStored_any l hok hPP A n c W h
    rw [hse] at hs
    have HS := Lib.hid hs
    have HST := Lib.hid hst
    have E0 := Lib.hid e0
    clear hs hst e0 hse hPP hbad
    go_enter Try.func5, Try.ntmps5
    go_wp2_with fail
    refine (all_insts l hok A n c w hr (by omega)).mono ?_
    rintro e w1 ⟨v1, rfl, own1, hB1⟩
    rw [← HL.out] at own1
    obtain ⟨A1, c1, rfl, hr1⟩ := own_reads own1
    clear own1
    go_wp2_with fail
    refine (stored_any l hok A1 n c1 w1 hr1 (by omega)).mono ?_
    rintro e w2 ⟨v2, rfl, own2, hB2⟩
    rw [HST.out] at own2
    obtain ⟨A2, c2, rfl, hr2⟩ := own_reads own2
    have hB2w := hB1.trans (hB2.mono hB1.size)
    clear own2 hr1 hB1 hB2
    go_wp2_with fail
    refine (refFormed_any l hok A n c w2 ((hr.below hB2w).more hB2w.size) (by omega)).mono ?_
    rintro e w3 ⟨rfl, hB3⟩
    rw [E0.out]
    have hB3w := hB2w.trans (hB3.mono hB2w.size)
    have hr2' := (hr2.below hB3).more hB3.size
    clear hB2w hB3 hr2
    go_wp2_with fail
    refine (HS.out w3 ((hr.below hB3w).more hB3w.size)).mono ?_
    rintro e w4 ⟨A3, c3, rfl, hr3, hB4⟩
    rw [HST.out] at hr3
    rw [HST.out]
    have hB4w := hB3w.trans (hB4.mono hB3w.size)
    have hr2'' := (hr2'.below hB4).more hB4.size
    have hself : ((n : Int) != (n : Int)) = false := by simp
    clear hr2' hB4 hB3w hr
    generalize storedN l = s at *
    go_wp2_with fail
    go_loopw [7] (fun i wr => ∃ k : Nat, k ≤ n ∧ i = .int .i64 k ∧ ∃ q, wr = w4.drewN q) (fun i _ => n - (intOf i).toNat)
    case atStart => exact ⟨0, by omega, rfl, 0, rfl⟩
    case round =>
      obtain ⟨k, hk, rfl, q, rfl⟩ := hrel
      by_cases hlt : k < n
      · obtain ⟨b2, o2, rfl, hb2, g2⟩ := cellU16 hr2'' hlt
        obtain ⟨b3, o3, rfl, hb3, g3⟩ := cellU16 hr3 hlt
        have z0 : (0 : Int) ≤ (k : Int) := by omega
        have z1 : (k : Int) < (n : Int) := by omega
        have hne : (((s.getD k 0 : Nat) : Int) != ((s.getD k 0 : Nat) : Int)) = false := by simp
        generalize s.getD k 0 = x at *
        clear hr2'' hr3
        go_wp2_with fail
        go_quiet (fail)
        go_wp2_with fail
        go_roundw
        case rel => exact ⟨k + 1, by omega, by go_num, _, rfl⟩
        case measure => simp [intOf] <;> omega
      · obtain rfl : k = n := by omega
        have hB5 := below_drewN hB4w q
        clear hr2'' hr3
        go_wp2_with fail
        refine (awake04_any _).mono ?_
        rintro e w5 ⟨rfl, hB6⟩
        go_wp2_with fail
        go_ret
        exact ⟨rfl, hB5.trans (hB6.mono hB5.size)⟩
  · have e0 : storedN l = [] := if_neg hbad
    have hne : ((((formedN l).2 : Nat) : Int) != 0) = true := by simp; omega
    have E0 := Lib.hid e0
    clear e0 hbad
    go_enter Try.func5, Try.ntmps5
    go_wp2_with fail
    refine (all_insts l hok A n c w hr (by omega)).mono ?_
    rintro e w1 ⟨v1, rfl, own1, hB1⟩
    rw [← HL.out] at own1
    obtain ⟨A1, c1, rfl, hr1⟩ := own_reads own1
    clear own1
    go_wp2_with fail
    refine (stored_any l hok A1 n c1 w1 hr1 (by omega)).mono ?_
    rintro e w2 ⟨v2, rfl, own2, hB2⟩
    rw [E0.out] at own2
    obtain ⟨A2, c2, rfl, hr2⟩ := own_reads own2
    have hB2w := hB1.trans (hB2.mono hB1.size)
    clear own2 hr1 hB1 hB2
    go_wp2_with fail
    refine (refFormed_any l hok A n c w2 ((hr.below hB2w).more hB2w.size) (by omega)).mono ?_
    rintro e w3 ⟨rfl, hB3⟩
    have hB3w := hB2w.trans (hB3.mono hB2w.size)
    clear hB2w hB3 hr hr2
    generalize formedN l = p at *
    go_wp2_with fail
    refine (awake04_any _).mono ?_
    rintro e w4 ⟨rfl, hB4⟩
    go_wp2_with fail
    go_ret
    exact ⟨rfl, hB3w.trans (hB4.mono hB3w.size)⟩

set_option maxRecDepth 100000 in
theorem checkStored_walk (w : World) (l : List I) (hok : ∀ i ∈ l, i.Ok) (A : Option Addr) (n c : Nat) (hr : Reads w w.heap.size 4 A n (cellsI l)) (_hc : n ≤ c) (_hm : c ≤ maxLen) :
    Calls Try.prog 5 #[.slice A n c] w fun e w' => e = .returned (.bool true) ∧ Below w.heap.size w w' := by
  by_cases hn : n ≤ 200
  · exact checkStored_few w l hok A n c hr hn
  · have hn' : (200 : Int) < (n : Int) := by omega
    go_enter Try.func5, Try.ntmps5
    go_wp2_with fail
    go_ret
    exact ⟨rfl, Below.refl _ _⟩
end Go.Proofs.Ytgalkidhgjgbhaa
