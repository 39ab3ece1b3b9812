/-
  The walk of AsmLong.
-/
import Derived.Test.YtgalkidhgjgbhaaAsmLongP
import Derived.Test.YtgalkidhgjgbhaaAwake21
import Derived.Test.YtgalkidhgjgbhaaWalkOf21
namespace Go.Proofs.Ytgalkidhgjgbhaa
open Go.RowKit
set_option linter.unusedVariables false

set_option maxRecDepth 100000 in
set_option maxHeartbeats 4000000 in
theorem asmLong_walk (w : World) (m : Nat) (hm : m < 256) :
    Calls Try.prog 13 #[.int .u8 m] w fun e w' => e = .returned (.bool true) ∧ Below w.heap.size w w' := by
  obtain ⟨i0, hi0, hz0, hz1, hz2⟩ := info_parts info_item
  obtain ⟨n, hn⟩ : ∃ n : Nat, n = 4091 + m % 10 := ⟨_, rfl⟩
  have hrem : (4091 : Int) + (m : Int) % 10 = (n : Int) := by omega
  have hlo : 4091 ≤ n := by omega
  have hhi : n ≤ 4100 := by omega
  go_enter Try.func13, Try.ntmps13
  clear hn
  have hlo2 : 0 < n := by omega
  go_wp2_with fail
  have HLO := Lib.hid hlo
  clear hlo
  go_loopw [4, 5] (fun v i wr => ∃ k : Nat, k + 1 ≤ n ∧ i = .int .i64 ((k : Int) + 1) ∧ wr.ownsRow w.heap.size 61 5 v k (cellsT (List.replicate k negT)) ∧ Below w.heap.size w wr) (fun _ i _ => n - (intOf i).toNat)
  case atStart => exact ⟨0, by omega, rfl, World.ownsRow_nil _ _ _ _, Below.refl _ _⟩
  case round =>
    obtain ⟨k, hk, rfl, hown, hB⟩ := hrel
    have hsz := hB.size
    by_cases hlt : k + 1 < n
    · have z1 : (k : Int) + 1 < (n : Int) := by omega
      have hstep := longT_take k k
      have HS := Lib.hid hstep
      clear hstep
      go_wp2_with (at_builtin; refine wpList_append_lit rfl (.tmp 17) (.tmp 19) 62 rfl w.heap.size 61 i0 _ 5 32 Try.underlying62 hi0 hz0 hz1 hz2 rfl (by omega) _ _ k _ rfl hown _ 1 1 rfl _ rfl rfl (by simp [Value.oneCell']) (by simp only [maxLen]; omega) (by omega) hsz ?_; intro v1 w1 hown1 hB1 hs1)
      go_roundw
      case rel =>
        refine ⟨k + 1, by omega, by go_num, ?_, hB.trans hB1⟩
        rw [HS.out, cellsT_append]
        exact hown1
      case measure => simp [intOf] <;> omega
    · have z1 : ¬ (k : Int) + 1 < (n : Int) := by omega
      obtain rfl : n = k + 1 := by omega
      go_wp2_with (at_builtin; refine wpList_append_lit rfl (.tmp 21) (.tmp 23) 62 rfl w.heap.size 61 i0 _ 5 32 Try.underlying62 hi0 hz0 hz1 hz2 rfl (by omega) _ _ k _ rfl hown _ 1 1 rfl _ rfl rfl (by simp [Value.oneCell']) (by simp only [maxLen]; omega) (by omega) hsz ?_; intro v1 w1 hown1 hB1 hs1)
      have hBw := hB.trans hB1
      have e : cellsT (longT k) = cellsT (List.replicate k negT) ++ retT.vals := by unfold longT; rw [cellsT_append]; simp [cellsT]
      have hown2 : w1.ownsRow w.heap.size 61 5 v1 (k + 1) (cellsT (longT k)) := by rw [e]; exact hown1
      obtain ⟨A1, c1, rfl, hr1⟩ := own_reads hown2
      clear hown hown1 hown2 hB1 hB e
      refine (assemble_yes (longT k) (longT_ok k) (longT_form k) A1 (k + 1) c1 w1 hr1 (by omega)).mono ?_
      rintro e w2 ⟨F, v2, hL, rfl, hown2, hB2⟩
      have hB2w := hBw.trans (hB2.mono hBw.size)
      have hr2 := (hr1.below hB2).more hB2.size
      have hlen := longT_len hL
      by_cases hbig : 4096 < k + 1
      · have hz : (4096 : Int) < (k : Int) + 1 := by omega
        have hres : asmR (longT k) F = ([], 3) := by unfold asmR; rw [hlen, if_pos hbig]
        rw [hres] at hown2 ⊢
        obtain ⟨A3, c3, rfl, hr3⟩ := own_reads hown2
        clear hres hown2 hr3 hlen hL hB2 hBw hr1
        simp only [List.length_nil] at *
        go_wp2_with fail
        refine (size_yes (longT k) (longT_ok k) (longT_form k) A1 (k + 1) c1 w2 hr2 (by omega)).mono ?_
        rintro e w3 ⟨⟨G, hL2, rfl⟩, hB3⟩
        rw [longT_len hL2]
        have hB3w := hB2w.trans (hB3.mono hB2w.size)
        clear hL2 hB3 hB2w hr2
        go_wp2_with fail
        refine (awake21_any _).mono ?_
        rintro e w4 ⟨rfl, hB4⟩
        go_wp2_with fail
        go_ret
        exact ⟨rfl, hB3w.trans (hB4.mono hB3w.size)⟩
      · have hz : ¬ (4096 : Int) < (k : Int) + 1 := by omega
        have hres : asmR (longT k) F = (asmN (longT k) F, 0) := by
          unfold asmR
          rw [hlen, if_neg hbig, longT_check hL (by omega), if_neg (by simp)]
        rw [hres] at hown2 ⊢
        have hk0 : 0 < k := by have := HLO.out; omega
        have hfirst := longT_first hL hk0
        have hal := asmLen (longT k) F
        rw [hlen] at hal
        simp only at hown2
        rw [hal] at hown2
        obtain ⟨A3, c3, rfl, hr3⟩ := own_reads hown2
        obtain ⟨b, off, rfl, hb, h0, h1, h2, h3⟩ := hr3.at4 (k := 0) (by omega)
        rw [hfirst] at h0 h1 h2 h3
        simp only [Nat.zero_mul, Nat.add_zero] at h0 h1 h2 h3
        clear hres hown2 hr3 hlen hL hB2 hBw hr1 hr2 hfirst hal
        go_wp2_with fail
        refine (awake21_any _).mono ?_
        rintro e w4 ⟨rfl, hB4⟩
        go_wp2_with fail
        go_ret
        exact ⟨rfl, hB2w.trans (hB4.mono hB2w.size)⟩
end Go.Proofs.Ytgalkidhgjgbhaa
