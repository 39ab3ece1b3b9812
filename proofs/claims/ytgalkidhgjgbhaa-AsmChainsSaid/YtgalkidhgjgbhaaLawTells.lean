/-
  The walk of CheckTells: true.
-/
import Derived.Test.YtgalkidhgjgbhaaAwake04
import Derived.Test.YtgalkidhgjgbhaaWalkRCheck
import Derived.Test.YtgalkidhgjgbhaaWalkAll
namespace Go.Proofs.Ytgalkidhgjgbhaa
open Go.RowKit
set_option linter.unusedVariables false

set_option maxRecDepth 100000 in
set_option maxHeartbeats 1000000 in
theorem checkTells_walk (w : World) (l : List I) (hok : ∀ i ∈ l, i.Ok) (A : Option Addr) (n c : Nat) (hr : Reads w w.heap.size 4 A n (cellsI l)) (_hc : n ≤ c) (_hm : c ≤ maxLen) :
    Calls Try.prog 4 #[.slice A n c] w fun e w' => e = .returned (.bool true) ∧ Below w.heap.size w w' := by
  have hl : n = l.length := by have := hr.1; rw [cellsI_length] at this; omega
  have HL := Lib.hid hl
  clear hl
  by_cases hn : n ≤ 200
  · have hn' : ¬ (200 : Int) < (n : Int) := by omega
    go_enter Try.func4, Try.ntmps4
    go_wp2_with fail
    refine (all_insts l hok A n c w hr (by omega)).mono ?_
    rintro e w1 ⟨v1, rfl, own1, hB1⟩
    rw [← HL.out] at own1
    obtain ⟨A1, c1, rfl, hr1⟩ := own_reads own1
    clear own1
    go_wp2_with fail
    refine (check_any l hok A1 n c1 w1 hr1 (by omega)).mono ?_
    rintro e w2 ⟨rfl, hB2⟩
    have hB2w := hB1.trans (hB2.mono hB1.size)
    clear hr1 hB1 hB2
    go_wp2_with fail
    refine (refCheck_any l hok A n c w2 ((hr.below hB2w).more hB2w.size) (by omega)).mono ?_
    rintro e w3 ⟨rfl, hB3⟩
    have hB3w := hB2w.trans (hB3.mono hB2w.size)
    have s1 : ((((checkN l).1 : Nat) : Int) == (((checkN l).1 : Nat) : Int)) = true := by simp
    have s2 : ((((checkN l).2 : Nat) : Int) == (((checkN l).2 : Nat) : Int)) = true := by simp
    clear hr hB2w hB3
    generalize checkN l = p at *
    go_wp2_with fail
    refine (awake04_any _).mono ?_
    rintro e w4 ⟨rfl, hB4⟩
    go_wp2_with fail
    go_ret
    exact ⟨rfl, hB3w.trans (hB4.mono hB3w.size)⟩
  · have hn' : (200 : Int) < (n : Int) := by omega
    go_enter Try.func4, Try.ntmps4
    go_wp2_with fail
    go_ret
    exact ⟨rfl, Below.refl _ _⟩
end Go.Proofs.Ytgalkidhgjgbhaa
