/-
  The walk of AsmCounts.
-/
import Derived.Test.YtgalkidhgjgbhaaWalkMany21
import Derived.Test.YtgalkidhgjgbhaaWalkForm20
import Derived.Test.YtgalkidhgjgbhaaWalkOf21
import Derived.Test.YtgalkidhgjgbhaaAwake21
namespace Go.Proofs.Ytgalkidhgjgbhaa
open Go.RowKit
set_option linter.unusedVariables false

set_option maxRecDepth 100000 in
set_option maxHeartbeats 4000000 in
theorem asmCounts_walk (w : World) (l : List It) (hok : ∀ x ∈ l, x.Ok) (A : Option Addr) (n c : Nat) (hr : Reads w w.heap.size 5 A n (cellsT l)) (hc : n ≤ c) (hm : c ≤ maxLen) :
    Calls Try.prog 14 #[.slice A n c] w fun e w' => e = .returned (.bool true) ∧ Below w.heap.size w w' := by
  have hl : n = l.length := by have := hr.1; rw [cellsT_length] at this; omega
  have HL := Lib.hid hl
  clear hl
  by_cases h200 : 200 < n
  · have z : (200 : Int) < (n : Int) := by omega
    go_enter Try.func14, Try.ntmps14
    go_wp2_with fail
    go_ret
    exact ⟨rfl, Below.refl _ _⟩
  · have z : ¬ (200 : Int) < (n : Int) := by omega
    go_enter Try.func14, Try.ntmps14
    go_wp2_with fail
    refine (formed20_any l hok A n c w hr (by omega)).mono ?_
    rintro e w1 ⟨b, rfl, hb, hB1⟩
    have hr1 := (hr.below hB1).more hB1.size
    cases b with
    | false =>
      clear hb
      go_wp2_with fail
      refine (awake21_any _).mono ?_
      rintro e w2 ⟨rfl, hB2⟩
      go_wp2_with fail
      go_ret
      exact ⟨rfl, hB1.trans (hB2.mono hB1.size)⟩
    | true =>
      have hF := hb.1 rfl
      have HF := Lib.hid hF
      have hN : (ins l).length ≤ 256 := by
        have h1 := cnt_le l l.length (Nat.le_refl _)
        rw [cnt_all] at h1
        have := HL.out; omega
      clear hb hF
      go_wp2_with fail
      refine (many_any l hok HF.out A n c w1 hr1 (by omega)).mono ?_
      rintro e w2 ⟨f, rfl, hB2⟩
      have hB2w := hB1.trans (hB2.mono hB1.size)
      have hr2 := (hr1.below hB2).more hB2.size
      clear hB1 hB2 hr1
      go_wp2_with fail
      refine (of_items l hok A n c w2 hr2 (by omega)).mono ?_
      rintro e w3 ⟨v, rfl, own3, hB3⟩
      obtain ⟨A3, c3, rfl, hr3⟩ := own_reads own3
      have hB3w := hB2w.trans (hB3.mono hB2w.size)
      have hln := HL.out
      rw [← hln] at hr3
      rw [← hln]
      clear own3 hB3 hB2w hr2 hln
      go_wp2_with fail
      refine (size_yes l hok HF.out A3 n c3 w3 hr3 (by omega)).mono ?_
      rintro e w4 ⟨⟨F, hL, rfl⟩, hB4⟩
      have he : plN l F (ins l).length = manyN l l.length := by rw [manyN_all, far_few HF.out hN hL]
      rw [he, ← HL.out]
      have hB4w := hB3w.trans (hB4.mono hB3w.size)
      clear hL he hB4 hB3w hr3
      have q1 : (((manyN l n : Nat) : Int) == ((manyN l n : Nat) : Int)) = true := by simp
      generalize manyN l n = y at *
      go_wp2_with fail
      refine (awake21_any _).mono ?_
      rintro e w5 ⟨rfl, hB5⟩
      go_wp2_with fail
      go_ret
      exact ⟨rfl, hB4w.trans (hB5.mono hB4w.size)⟩
end Go.Proofs.Ytgalkidhgjgbhaa
