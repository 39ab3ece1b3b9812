/-
  The walk of strainerlaw01.WordSplits: true.
-/
import Derived.Test.YtlpakmlpnjfcoaaAwake01
import Derived.Test.YtlpakmlpnjfcoaaOpenArr
namespace Go.Proofs.Ytlpakmlpnjfcoaa
open Go.RowKit
set_option linter.unusedVariables false

theorem eight (l : List Nat) (hl : l.length = 8) : ∃ a b c d e f g h, l = [a, b, c, d, e, f, g, h] := by
  match l, hl with
  | [a, b, c, d, e, f, g, h], _ => exact ⟨a, b, c, d, e, f, g, h, rfl⟩
theorem wrong8 {l : List Nat} (hl : l.length = 8) : wrongN l.length 0 8 = 0 ∧ wrongN l.length 0 4 = 0 ∧ wrongN l.length 4 4 = 0 := by rw [hl]; decide
theorem split_get (l : List Nat) (hl : l.length = 8) (hok : ∀ b ∈ l, b < 256) (big : Bool) : ∃ n x y : Nat, getN l 0 8 big = n ∧ getN l 0 4 big = x ∧ getN l 4 4 big = y ∧ x < 4294967296 ∧ y < 4294967296 ∧ n < 18446744073709551616 ∧ n = (if big then x else y) * 4294967296 + (if big then y else x) := by
  obtain ⟨h1, h2, h3⟩ := wrong8 hl
  refine ⟨_, _, _, rfl, rfl, rfl, ?_⟩
  unfold getN
  rw [if_pos h1, if_pos h2, if_pos h3]
  obtain ⟨a, b, c, d, e, f, g, h, rfl⟩ := eight l hl
  have ha := hok a (by simp)
  have hb := hok b (by simp)
  have hc := hok c (by simp)
  have hd := hok d (by simp)
  have he := hok e (by simp)
  have hf := hok f (by simp)
  have hg := hok g (by simp)
  have hh := hok h (by simp)
  cases big
  · refine ⟨?_, ?_, ?_, ?_⟩ <;> (simp [wordN, placeN, valBE, List.range_succ]; omega)
  · refine ⟨?_, ?_, ?_, ?_⟩ <;> (simp [wordN, placeN, valBE, List.range_succ]; omega)

set_option maxRecDepth 100000 in
set_option maxHeartbeats 2000000 in
theorem wordSplits_walk (w : World) (x : Arr8V) (okx : x.Ok) (big : Bool) :
    Calls Try.prog 9 #[x.val, .bool big] w fun e w' => e = .returned (.bool true) ∧ Below w.heap.size w w' := by
  obtain ⟨l⟩ := x
  obtain ⟨hl, hok⟩ := okx
  unfold Arr8V.val
  simp only at hl hok
  obtain ⟨n, x, y, gn, gx, gy, hx, hy, hn, hsum⟩ := split_get l hl hok big
  obtain ⟨e8, e4, e44⟩ := wrong8 hl
  have hr : Reads (w.alloc (.cells (bytesV l).toArray 49)) (w.heap.size + 1) 1 (some ⟨w.heap.size, 0, none⟩) 8 (bytesV l) := reads_lit w (bytesV l) 49 1 8 (by rw [bytesV_length, hl])
  have hB0 : Below w.heap.size w (w.alloc (.cells (bytesV l).toArray 49)) := (Below.refl _ w).alloc (Nat.le_refl _) _
  have GN := Lib.hid gn
  have GX := Lib.hid gx
  have GY := Lib.hid gy
  have E8 := Lib.hid e8
  have E4 := Lib.hid e4
  have E44 := Lib.hid e44
  have HS := Lib.hid hsum
  clear gn gx gy e8 e4 e44 hsum hl
  go_enter Try.func9, Try.ntmps9
  go_wp2_with fail
  refine (get_any l hok _ 8 8 0 8 big _ (hr.more (by simp)) (by omega)).mono ?_
  rintro e w1 ⟨rfl, hB1⟩
  rw [GN.out, E8.out]
  have hr1 := (hr.more (by simp)).below hB1
  have hB1w := hB0.trans (hB1.mono (by simp))
  go_wp2_with fail
  refine (get_any l hok _ 8 8 0 4 big _ (hr1.more hB1.size) (by omega)).mono ?_
  rintro e w2 ⟨rfl, hB2⟩
  rw [GX.out, E4.out]
  have hr2 := (hr1.more hB1.size).below hB2
  have hB2w := hB1w.trans (hB2.mono hB1w.size)
  go_wp2_with fail
  refine (get_any l hok _ 8 8 4 4 big _ (hr2.more hB2.size) (by omega)).mono ?_
  rintro e w3 ⟨rfl, hB3⟩
  rw [GY.out, E44.out]
  have hB3w := hB2w.trans (hB3.mono hB2w.size)
  have hnn : ((n : Int) == (n : Int)) = true := by simp
  have hs := HS.out
  clear hr hr1 hr2
  cases big
  · simp only [Bool.false_eq_true, if_false] at hs
    have HS2 := Lib.hid hs
    clear hs
    go_wp2_with fail
    refine (join_any x y hx hy _).mono ?_
    rintro e w4 ⟨rfl, rfl⟩
    rw [← HS2.out]
    go_wp2_with fail
    refine (awake01_any _).mono ?_
    rintro e w6 ⟨rfl, hB6⟩
    go_wp2_with fail
    go_ret
    exact ⟨rfl, hB3w.trans (hB6.mono hB3w.size)⟩
  · simp only [if_true] at hs
    have HS2 := Lib.hid hs
    clear hs
    go_wp2_with fail
    refine (join_any y x hy hx _).mono ?_
    rintro e w4 ⟨rfl, rfl⟩
    rw [← HS2.out]
    go_wp2_with fail
    refine (awake01_any _).mono ?_
    rintro e w6 ⟨rfl, hB6⟩
    go_wp2_with fail
    go_ret
    exact ⟨rfl, hB3w.trans (hB6.mono hB3w.size)⟩
end Go.Proofs.Ytlpakmlpnjfcoaa
