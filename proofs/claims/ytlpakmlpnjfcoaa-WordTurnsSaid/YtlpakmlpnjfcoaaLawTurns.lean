/-
  The walk of strainerlaw01.WordTurns: true.
-/
import Derived.Test.YtlpakmlpnjfcoaaAwake01
import Derived.Test.YtlpakmlpnjfcoaaWord02
import Derived.Test.YtlpakmlpnjfcoaaLawSplits
namespace Go.Proofs.Ytlpakmlpnjfcoaa
open Go.RowKit
set_option linter.unusedVariables false

theorem turns_get1 (l : List Nat) (hl : l.length = 8) (hok : ∀ b ∈ l, b < 256) : ∃ n, getN l 0 1 false = n ∧ getN ((l.take 1).reverse) 0 1 true = n ∧ n < 18446744073709551616 := by
  have h1 : wrongN l.length 0 1 = 0 := by rw [hl]; decide
  have h2 : wrongN ((l.take 1).reverse).length 0 1 = 0 := by rw [List.length_reverse, List.length_take, hl]; decide
  refine ⟨_, rfl, ?_⟩
  unfold getN
  rw [if_pos h1, if_pos h2]
  obtain ⟨a, b, c, d, e, f, g, h, rfl⟩ := eight l hl
  have ha := hok a (by simp)
  have hb := hok b (by simp)
  have hc := hok c (by simp)
  have hd := hok d (by simp)
  have he := hok e (by simp)
  have hf := hok f (by simp)
  have hg := hok g (by simp)
  have hh := hok h (by simp)
  refine ⟨?_, ?_⟩ <;> (simp [wordN, placeN, valBE, List.range_succ] <;> omega)
theorem turns_get2 (l : List Nat) (hl : l.length = 8) (hok : ∀ b ∈ l, b < 256) : ∃ n, getN l 0 2 false = n ∧ getN ((l.take 2).reverse) 0 2 true = n ∧ n < 18446744073709551616 := by
  have h1 : wrongN l.length 0 2 = 0 := by rw [hl]; decide
  have h2 : wrongN ((l.take 2).reverse).length 0 2 = 0 := by rw [List.length_reverse, List.length_take, hl]; decide
  refine ⟨_, rfl, ?_⟩
  unfold getN
  rw [if_pos h1, if_pos h2]
  obtain ⟨a, b, c, d, e, f, g, h, rfl⟩ := eight l hl
  have ha := hok a (by simp)
  have hb := hok b (by simp)
  have hc := hok c (by simp)
  have hd := hok d (by simp)
  have he := hok e (by simp)
  have hf := hok f (by simp)
  have hg := hok g (by simp)
  have hh := hok h (by simp)
  refine ⟨?_, ?_⟩ <;> (simp [wordN, placeN, valBE, List.range_succ] <;> omega)
theorem turns_get4 (l : List Nat) (hl : l.length = 8) (hok : ∀ b ∈ l, b < 256) : ∃ n, getN l 0 4 false = n ∧ getN ((l.take 4).reverse) 0 4 true = n ∧ n < 18446744073709551616 := by
  have h1 : wrongN l.length 0 4 = 0 := by rw [hl]; decide
  have h2 : wrongN ((l.take 4).reverse).length 0 4 = 0 := by rw [List.length_reverse, List.length_take, hl]; decide
  refine ⟨_, rfl, ?_⟩
  unfold getN
  rw [if_pos h1, if_pos h2]
  obtain ⟨a, b, c, d, e, f, g, h, rfl⟩ := eight l hl
  have ha := hok a (by simp)
  have hb := hok b (by simp)
  have hc := hok c (by simp)
  have hd := hok d (by simp)
  have he := hok e (by simp)
  have hf := hok f (by simp)
  have hg := hok g (by simp)
  have hh := hok h (by simp)
  refine ⟨?_, ?_⟩ <;> (simp [wordN, placeN, valBE, List.range_succ] <;> omega)
theorem turns_get8 (l : List Nat) (hl : l.length = 8) (hok : ∀ b ∈ l, b < 256) : ∃ n, getN l 0 8 false = n ∧ getN ((l.take 8).reverse) 0 8 true = n ∧ n < 18446744073709551616 := by
  have h1 : wrongN l.length 0 8 = 0 := by rw [hl]; decide
  have h2 : wrongN ((l.take 8).reverse).length 0 8 = 0 := by rw [List.length_reverse, List.length_take, hl]; decide
  refine ⟨_, rfl, ?_⟩
  unfold getN
  rw [if_pos h1, if_pos h2]
  obtain ⟨a, b, c, d, e, f, g, h, rfl⟩ := eight l hl
  have ha := hok a (by simp)
  have hb := hok b (by simp)
  have hc := hok c (by simp)
  have hd := hok d (by simp)
  have he := hok e (by simp)
  have hf := hok f (by simp)
  have hg := hok g (by simp)
  have hh := hok h (by simp)
  refine ⟨?_, ?_⟩ <;> (simp [wordN, placeN, valBE, List.range_succ] <;> omega)
set_option maxRecDepth 100000 in
set_option maxHeartbeats 2000000 in
theorem wordTurns_1 (w : World) (l : List Nat) (hl : l.length = 8) (hok : ∀ b ∈ l, b < 256) (wide : Nat) (hw : wide < 256) (hj : (wide : Int) % 4 = 0) :
    Calls Try.prog 8 #[.agg (bytesV l).toArray, .int .u8 wide] w fun e w' => e = .returned (.bool true) ∧ Below w.heap.size w w' := by
  obtain ⟨i0, hi0, hz0, hz1, hz2⟩ := info_parts info_u8
  have hr0 : Reads (w.alloc (.cells (bytesV l).toArray 49)) (w.heap.size + 1) 1 (some ⟨w.heap.size, 0, none⟩) 8 (bytesV l) := reads_lit w (bytesV l) 49 1 8 (by rw [bytesV_length, hl])
  have hB0 : Below w.heap.size w (w.alloc (.cells (bytesV l).toArray 49)) := (Below.refl _ w).alloc (Nat.le_refl _) _
  have hv : ∃ n, getN l 0 1 false = n ∧ getN ((l.take 1).reverse) 0 1 true = n ∧ n < 18446744073709551616 := turns_get1 l hl hok
  have hwr : wrongN l.length 0 1 = 0 ∧ wrongN ((l.take 1).reverse).length 0 1 = 0 := by rw [List.length_reverse, List.length_take, hl]; decide
  have hok2 : ∀ b ∈ (l.take 1).reverse, b < 256 := fun b hb => hok b (List.mem_of_mem_take (List.mem_reverse.1 hb))
  have hlt : (l.take 1).length = 1 := by rw [List.length_take, hl]; rfl
  have hget : ∀ m, m < 1 → (l.take 1).getD m 0 = l.getD m 0 := fun m hm => by simp [hm]
  have HL := Lib.hid hl
  have HLT := Lib.hid hlt
  have HWR := Lib.hid hwr
  have HV := Lib.hid hv
  have HG := Lib.hid hget
  clear hl hlt hwr hv hget
  go_enter Try.func8, Try.ntmps8
  go_wp2_with fail
  have hr1 := hr0.alloc (by simp) (.cells #[.int .i64 1, .int .i64 2, .int .i64 4, .int .i64 8] 3)
  have hB1 := hB0.alloc (by simp) (.cells #[.int .i64 1, .int .i64 2, .int .i64 4, .int .i64 8] 3)
  have hsz : w.heap.size + 1 ≤ ((w.alloc (.cells (bytesV l).toArray 49)).alloc (.cells #[.int .i64 1, .int .i64 2, .int .i64 4, .int .i64 8] 3)).heap.size := by simp
  generalize ((w.alloc (.cells (bytesV l).toArray 49)).alloc (.cells #[.int .i64 1, .int .i64 2, .int .i64 4, .int .i64 8] 3)) = W1 at *
  go_loopw [6, 7] (fun v i wr => ∃ m : Nat, m ≤ 1 ∧ i = .int .i64 ((m : Int) - 1) ∧ wr.ownsRow W1.heap.size 5 1 v (1 - m) (bytesV ((l.take 1).drop m).reverse) ∧ Below W1.heap.size W1 wr) (fun _ i _ => (intOf i + 1).toNat)
  case atStart =>
    refine ⟨1, by omega, rfl, ?_, Below.refl _ _⟩
    have e : (l.take 1).drop 1 = [] := List.drop_eq_nil_of_le (by have := HLT.out; omega)
    rw [e, Nat.sub_self]
    exact World.ownsRow_nil _ _ _ _
  case round =>
    obtain ⟨m, hm, rfl, hown, hB⟩ := hrel
    rcases m with _ | m
    · rw [show (((0 : Nat) : Int) - 1) = (-1 : Int) from rfl]
      rw [List.drop_zero, Nat.sub_zero] at hown
      obtain ⟨A2, c2, rfl, hr2⟩ := own_reads hown
      obtain ⟨n, g1, g2, hn⟩ := HV.out
      have hra := (hr1.more hsz).below hB
      have G1 := Lib.hid g1
      have G2 := Lib.hid g2
      have hBw := hB1.trans (hB.mono (by omega))
      clear g1 g2 hown
      go_wp2_with fail
      refine (get_any l hok _ 8 8 0 1 false _ (hra.more hB.size) (by omega)).mono ?_
      rintro e w2 ⟨rfl, hB2⟩
      rw [G1.out, HWR.out.1]
      go_wp2_with fail
      refine (get_any _ hok2 _ 1 c2 0 1 true _ ((hr2.below hB2).more hB2.size) (by omega)).mono ?_
      rintro e w3 ⟨rfl, hB3⟩
      rw [G2.out, HWR.out.2]
      have hnn : ((n : Int) == (n : Int)) = true := by simp
      have hB2w := hBw.trans (hB2.mono hBw.size)
      have hB3w := hB2w.trans (hB3.mono hB2w.size)
      go_wp2_with fail
      refine (awake01_any _).mono ?_
      rintro e w6 ⟨rfl, hB6⟩
      go_wp2_with fail
      go_ret
      exact ⟨rfl, hB3w.trans (hB6.mono hB3w.size)⟩
    · rw [show (((m + 1 : Nat) : Int) - 1) = (m : Int) from by omega]
      obtain ⟨b, off, e0, hb, hc⟩ := (((hr1.more hsz).below hB)).at1 (k := m) (by omega)
      have hcm := hc m (by omega)
      injection e0 with e0
      injection e0 with e0 e1
      subst e0; subst e1
      have hstep := drop_rev (l.take 1) m (by have := HLT.out; omega)
      rw [HG.out m (by omega)] at hstep
      rw [Nat.zero_add] at hcm
      generalize l.getD m 0 = x at *
      have HS := Lib.hid hstep
      clear hstep hc
      go_wp2_with (at_builtin; refine wpList_append_lit rfl (.tmp 24) (.tmp 28) 31 rfl W1.heap.size 5 i0 _ 1 1 Try.underlying31 hi0 hz0 hz1 hz2 rfl (by omega) _ _ _ _ rfl hown _ 1 1 rfl _ rfl rfl (by simp [Value.oneCell']) (by simp only [maxLen]; omega) (by omega) hB.size ?_; intro v' w1 hown1 hB1' hs1)
      go_roundw
      case rel =>
        refine ⟨m, by omega, by go_num, ?_, hB.trans hB1'⟩
        rw [HS.out, bytesV_append, show 1 - m = 1 - (m + 1) + 1 by omega]
        exact hown1
      case measure => simp [intOf] <;> omega

set_option maxRecDepth 100000 in
set_option maxHeartbeats 2000000 in
theorem wordTurns_2 (w : World) (l : List Nat) (hl : l.length = 8) (hok : ∀ b ∈ l, b < 256) (wide : Nat) (hw : wide < 256) (hj : (wide : Int) % 4 = 1) :
    Calls Try.prog 8 #[.agg (bytesV l).toArray, .int .u8 wide] w fun e w' => e = .returned (.bool true) ∧ Below w.heap.size w w' := by
  obtain ⟨i0, hi0, hz0, hz1, hz2⟩ := info_parts info_u8
  have hr0 : Reads (w.alloc (.cells (bytesV l).toArray 49)) (w.heap.size + 1) 1 (some ⟨w.heap.size, 0, none⟩) 8 (bytesV l) := reads_lit w (bytesV l) 49 1 8 (by rw [bytesV_length, hl])
  have hB0 : Below w.heap.size w (w.alloc (.cells (bytesV l).toArray 49)) := (Below.refl _ w).alloc (Nat.le_refl _) _
  have hv : ∃ n, getN l 0 2 false = n ∧ getN ((l.take 2).reverse) 0 2 true = n ∧ n < 18446744073709551616 := turns_get2 l hl hok
  have hwr : wrongN l.length 0 2 = 0 ∧ wrongN ((l.take 2).reverse).length 0 2 = 0 := by rw [List.length_reverse, List.length_take, hl]; decide
  have hok2 : ∀ b ∈ (l.take 2).reverse, b < 256 := fun b hb => hok b (List.mem_of_mem_take (List.mem_reverse.1 hb))
  have hlt : (l.take 2).length = 2 := by rw [List.length_take, hl]; rfl
  have hget : ∀ m, m < 2 → (l.take 2).getD m 0 = l.getD m 0 := fun m hm => by simp [hm]
  have HL := Lib.hid hl
  have HLT := Lib.hid hlt
  have HWR := Lib.hid hwr
  have HV := Lib.hid hv
  have HG := Lib.hid hget
  clear hl hlt hwr hv hget
  go_enter Try.func8, Try.ntmps8
  go_wp2_with fail
  have hr1 := hr0.alloc (by simp) (.cells #[.int .i64 1, .int .i64 2, .int .i64 4, .int .i64 8] 3)
  have hB1 := hB0.alloc (by simp) (.cells #[.int .i64 1, .int .i64 2, .int .i64 4, .int .i64 8] 3)
  have hsz : w.heap.size + 1 ≤ ((w.alloc (.cells (bytesV l).toArray 49)).alloc (.cells #[.int .i64 1, .int .i64 2, .int .i64 4, .int .i64 8] 3)).heap.size := by simp
  generalize ((w.alloc (.cells (bytesV l).toArray 49)).alloc (.cells #[.int .i64 1, .int .i64 2, .int .i64 4, .int .i64 8] 3)) = W1 at *
  go_loopw [6, 7] (fun v i wr => ∃ m : Nat, m ≤ 2 ∧ i = .int .i64 ((m : Int) - 1) ∧ wr.ownsRow W1.heap.size 5 1 v (2 - m) (bytesV ((l.take 2).drop m).reverse) ∧ Below W1.heap.size W1 wr) (fun _ i _ => (intOf i + 1).toNat)
  case atStart =>
    refine ⟨2, by omega, rfl, ?_, Below.refl _ _⟩
    have e : (l.take 2).drop 2 = [] := List.drop_eq_nil_of_le (by have := HLT.out; omega)
    rw [e, Nat.sub_self]
    exact World.ownsRow_nil _ _ _ _
  case round =>
    obtain ⟨m, hm, rfl, hown, hB⟩ := hrel
    rcases m with _ | m
    · rw [show (((0 : Nat) : Int) - 1) = (-1 : Int) from rfl]
      rw [List.drop_zero, Nat.sub_zero] at hown
      obtain ⟨A2, c2, rfl, hr2⟩ := own_reads hown
      obtain ⟨n, g1, g2, hn⟩ := HV.out
      have hra := (hr1.more hsz).below hB
      have G1 := Lib.hid g1
      have G2 := Lib.hid g2
      have hBw := hB1.trans (hB.mono (by omega))
      clear g1 g2 hown
      go_wp2_with fail
      refine (get_any l hok _ 8 8 0 2 false _ (hra.more hB.size) (by omega)).mono ?_
      rintro e w2 ⟨rfl, hB2⟩
      rw [G1.out, HWR.out.1]
      go_wp2_with fail
      refine (get_any _ hok2 _ 2 c2 0 2 true _ ((hr2.below hB2).more hB2.size) (by omega)).mono ?_
      rintro e w3 ⟨rfl, hB3⟩
      rw [G2.out, HWR.out.2]
      have hnn : ((n : Int) == (n : Int)) = true := by simp
      have hB2w := hBw.trans (hB2.mono hBw.size)
      have hB3w := hB2w.trans (hB3.mono hB2w.size)
      go_wp2_with fail
      refine (awake01_any _).mono ?_
      rintro e w6 ⟨rfl, hB6⟩
      go_wp2_with fail
      go_ret
      exact ⟨rfl, hB3w.trans (hB6.mono hB3w.size)⟩
    · rw [show (((m + 1 : Nat) : Int) - 1) = (m : Int) from by omega]
      obtain ⟨b, off, e0, hb, hc⟩ := (((hr1.more hsz).below hB)).at1 (k := m) (by omega)
      have hcm := hc m (by omega)
      injection e0 with e0
      injection e0 with e0 e1
      subst e0; subst e1
      have hstep := drop_rev (l.take 2) m (by have := HLT.out; omega)
      rw [HG.out m (by omega)] at hstep
      rw [Nat.zero_add] at hcm
      generalize l.getD m 0 = x at *
      have HS := Lib.hid hstep
      clear hstep hc
      go_wp2_with (at_builtin; refine wpList_append_lit rfl (.tmp 24) (.tmp 28) 31 rfl W1.heap.size 5 i0 _ 1 1 Try.underlying31 hi0 hz0 hz1 hz2 rfl (by omega) _ _ _ _ rfl hown _ 1 1 rfl _ rfl rfl (by simp [Value.oneCell']) (by simp only [maxLen]; omega) (by omega) hB.size ?_; intro v' w1 hown1 hB1' hs1)
      go_roundw
      case rel =>
        refine ⟨m, by omega, by go_num, ?_, hB.trans hB1'⟩
        rw [HS.out, bytesV_append, show 2 - m = 2 - (m + 1) + 1 by omega]
        exact hown1
      case measure => simp [intOf] <;> omega

set_option maxRecDepth 100000 in
set_option maxHeartbeats 2000000 in
theorem wordTurns_4 (w : World) (l : List Nat) (hl : l.length = 8) (hok : ∀ b ∈ l, b < 256) (wide : Nat) (hw : wide < 256) (hj : (wide : Int) % 4 = 2) :
    Calls Try.prog 8 #[.agg (bytesV l).toArray, .int .u8 wide] w fun e w' => e = .returned (.bool true) ∧ Below w.heap.size w w' := by
  obtain ⟨i0, hi0, hz0, hz1, hz2⟩ := info_parts info_u8
  have hr0 : Reads (w.alloc (.cells (bytesV l).toArray 49)) (w.heap.size + 1) 1 (some ⟨w.heap.size, 0, none⟩) 8 (bytesV l) := reads_lit w (bytesV l) 49 1 8 (by rw [bytesV_length, hl])
  have hB0 : Below w.heap.size w (w.alloc (.cells (bytesV l).toArray 49)) := (Below.refl _ w).alloc (Nat.le_refl _) _
  have hv : ∃ n, getN l 0 4 false = n ∧ getN ((l.take 4).reverse) 0 4 true = n ∧ n < 18446744073709551616 := turns_get4 l hl hok
  have hwr : wrongN l.length 0 4 = 0 ∧ wrongN ((l.take 4).reverse).length 0 4 = 0 := by rw [List.length_reverse, List.length_take, hl]; decide
  have hok2 : ∀ b ∈ (l.take 4).reverse, b < 256 := fun b hb => hok b (List.mem_of_mem_take (List.mem_reverse.1 hb))
  have hlt : (l.take 4).length = 4 := by rw [List.length_take, hl]; rfl
  have hget : ∀ m, m < 4 → (l.take 4).getD m 0 = l.getD m 0 := fun m hm => by simp [hm]
  have HL := Lib.hid hl
  have HLT := Lib.hid hlt
  have HWR := Lib.hid hwr
  have HV := Lib.hid hv
  have HG := Lib.hid hget
  clear hl hlt hwr hv hget
  go_enter Try.func8, Try.ntmps8
  go_wp2_with fail
  have hr1 := hr0.alloc (by simp) (.cells #[.int .i64 1, .int .i64 2, .int .i64 4, .int .i64 8] 3)
  have hB1 := hB0.alloc (by simp) (.cells #[.int .i64 1, .int .i64 2, .int .i64 4, .int .i64 8] 3)
  have hsz : w.heap.size + 1 ≤ ((w.alloc (.cells (bytesV l).toArray 49)).alloc (.cells #[.int .i64 1, .int .i64 2, .int .i64 4, .int .i64 8] 3)).heap.size := by simp
  generalize ((w.alloc (.cells (bytesV l).toArray 49)).alloc (.cells #[.int .i64 1, .int .i64 2, .int .i64 4, .int .i64 8] 3)) = W1 at *
  go_loopw [6, 7] (fun v i wr => ∃ m : Nat, m ≤ 4 ∧ i = .int .i64 ((m : Int) - 1) ∧ wr.ownsRow W1.heap.size 5 1 v (4 - m) (bytesV ((l.take 4).drop m).reverse) ∧ Below W1.heap.size W1 wr) (fun _ i _ => (intOf i + 1).toNat)
  case atStart =>
    refine ⟨4, by omega, rfl, ?_, Below.refl _ _⟩
    have e : (l.take 4).drop 4 = [] := List.drop_eq_nil_of_le (by have := HLT.out; omega)
    rw [e, Nat.sub_self]
    exact World.ownsRow_nil _ _ _ _
  case round =>
    obtain ⟨m, hm, rfl, hown, hB⟩ := hrel
    rcases m with _ | m
    · rw [show (((0 : Nat) : Int) - 1) = (-1 : Int) from rfl]
      rw [List.drop_zero, Nat.sub_zero] at hown
      obtain ⟨A2, c2, rfl, hr2⟩ := own_reads hown
      obtain ⟨n, g1, g2, hn⟩ := HV.out
      have hra := (hr1.more hsz).below hB
      have G1 := Lib.hid g1
      have G2 := Lib.hid g2
      have hBw := hB1.trans (hB.mono (by omega))
      clear g1 g2 hown
      go_wp2_with fail
      refine (get_any l hok _ 8 8 0 4 false _ (hra.more hB.size) (by omega)).mono ?_
      rintro e w2 ⟨rfl, hB2⟩
      rw [G1.out, HWR.out.1]
      go_wp2_with fail
      refine (get_any _ hok2 _ 4 c2 0 4 true _ ((hr2.below hB2).more hB2.size) (by omega)).mono ?_
      rintro e w3 ⟨rfl, hB3⟩
      rw [G2.out, HWR.out.2]
      have hnn : ((n : Int) == (n : Int)) = true := by simp
      have hB2w := hBw.trans (hB2.mono hBw.size)
      have hB3w := hB2w.trans (hB3.mono hB2w.size)
      go_wp2_with fail
      refine (awake01_any _).mono ?_
      rintro e w6 ⟨rfl, hB6⟩
      go_wp2_with fail
      go_ret
      exact ⟨rfl, hB3w.trans (hB6.mono hB3w.size)⟩
    · rw [show (((m + 1 : Nat) : Int) - 1) = (m : Int) from by omega]
      obtain ⟨b, off, e0, hb, hc⟩ := (((hr1.more hsz).below hB)).at1 (k := m) (by omega)
      have hcm := hc m (by omega)
      injection e0 with e0
      injection e0 with e0 e1
      subst e0; subst e1
      have hstep := drop_rev (l.take 4) m (by have := HLT.out; omega)
      rw [HG.out m (by omega)] at hstep
      rw [Nat.zero_add] at hcm
      generalize l.getD m 0 = x at *
      have HS := Lib.hid hstep
      clear hstep hc
      go_wp2_with (at_builtin; refine wpList_append_lit rfl (.tmp 24) (.tmp 28) 31 rfl W1.heap.size 5 i0 _ 1 1 Try.underlying31 hi0 hz0 hz1 hz2 rfl (by omega) _ _ _ _ rfl hown _ 1 1 rfl _ rfl rfl (by simp [Value.oneCell']) (by simp only [maxLen]; omega) (by omega) hB.size ?_; intro v' w1 hown1 hB1' hs1)
      go_roundw
      case rel =>
        refine ⟨m, by omega, by go_num, ?_, hB.trans hB1'⟩
        rw [HS.out, bytesV_append, show 4 - m = 4 - (m + 1) + 1 by omega]
        exact hown1
      case measure => simp [intOf] <;> omega

set_option maxRecDepth 100000 in
set_option maxHeartbeats 2000000 in
theorem wordTurns_8 (w : World) (l : List Nat) (hl : l.length = 8) (hok : ∀ b ∈ l, b < 256) (wide : Nat) (hw : wide < 256) (hj : (wide : Int) % 4 = 3) :
    Calls Try.prog 8 #[.agg (bytesV l).toArray, .int .u8 wide] w fun e w' => e = .returned (.bool true) ∧ Below w.heap.size w w' := by
  obtain ⟨i0, hi0, hz0, hz1, hz2⟩ := info_parts info_u8
  have hr0 : Reads (w.alloc (.cells (bytesV l).toArray 49)) (w.heap.size + 1) 1 (some ⟨w.heap.size, 0, none⟩) 8 (bytesV l) := reads_lit w (bytesV l) 49 1 8 (by rw [bytesV_length, hl])
  have hB0 : Below w.heap.size w (w.alloc (.cells (bytesV l).toArray 49)) := (Below.refl _ w).alloc (Nat.le_refl _) _
  have hv : ∃ n, getN l 0 8 false = n ∧ getN ((l.take 8).reverse) 0 8 true = n ∧ n < 18446744073709551616 := turns_get8 l hl hok
  have hwr : wrongN l.length 0 8 = 0 ∧ wrongN ((l.take 8).reverse).length 0 8 = 0 := by rw [List.length_reverse, List.length_take, hl]; decide
  have hok2 : ∀ b ∈ (l.take 8).reverse, b < 256 := fun b hb => hok b (List.mem_of_mem_take (List.mem_reverse.1 hb))
  have hlt : (l.take 8).length = 8 := by rw [List.length_take, hl]; rfl
  have hget : ∀ m, m < 8 → (l.take 8).getD m 0 = l.getD m 0 := fun m hm => by simp [hm]
  have HL := Lib.hid hl
  have HLT := Lib.hid hlt
  have HWR := Lib.hid hwr
  have HV := Lib.hid hv
  have HG := Lib.hid hget
  clear hl hlt hwr hv hget
  go_enter Try.func8, Try.ntmps8
  go_wp2_with fail
  have hr1 := hr0.alloc (by simp) (.cells #[.int .i64 1, .int .i64 2, .int .i64 4, .int .i64 8] 3)
  have hB1 := hB0.alloc (by simp) (.cells #[.int .i64 1, .int .i64 2, .int .i64 4, .int .i64 8] 3)
  have hsz : w.heap.size + 1 ≤ ((w.alloc (.cells (bytesV l).toArray 49)).alloc (.cells #[.int .i64 1, .int .i64 2, .int .i64 4, .int .i64 8] 3)).heap.size := by simp
  generalize ((w.alloc (.cells (bytesV l).toArray 49)).alloc (.cells #[.int .i64 1, .int .i64 2, .int .i64 4, .int .i64 8] 3)) = W1 at *
  go_loopw [6, 7] (fun v i wr => ∃ m : Nat, m ≤ 8 ∧ i = .int .i64 ((m : Int) - 1) ∧ wr.ownsRow W1.heap.size 5 1 v (8 - m) (bytesV ((l.take 8).drop m).reverse) ∧ Below W1.heap.size W1 wr) (fun _ i _ => (intOf i + 1).toNat)
  case atStart =>
    refine ⟨8, by omega, rfl, ?_, Below.refl _ _⟩
    have e : (l.take 8).drop 8 = [] := List.drop_eq_nil_of_le (by have := HLT.out; omega)
    rw [e, Nat.sub_self]
    exact World.ownsRow_nil _ _ _ _
  case round =>
    obtain ⟨m, hm, rfl, hown, hB⟩ := hrel
    rcases m with _ | m
    · rw [show (((0 : Nat) : Int) - 1) = (-1 : Int) from rfl]
      rw [List.drop_zero, Nat.sub_zero] at hown
      obtain ⟨A2, c2, rfl, hr2⟩ := own_reads hown
      obtain ⟨n, g1, g2, hn⟩ := HV.out
      have hra := (hr1.more hsz).below hB
      have G1 := Lib.hid g1
      have G2 := Lib.hid g2
      have hBw := hB1.trans (hB.mono (by omega))
      clear g1 g2 hown
      go_wp2_with fail
      refine (get_any l hok _ 8 8 0 8 false _ (hra.more hB.size) (by omega)).mono ?_
      rintro e w2 ⟨rfl, hB2⟩
      rw [G1.out, HWR.out.1]
      go_wp2_with fail
      refine (get_any _ hok2 _ 8 c2 0 8 true _ ((hr2.below hB2).more hB2.size) (by omega)).mono ?_
      rintro e w3 ⟨rfl, hB3⟩
      rw [G2.out, HWR.out.2]
      have hnn : ((n : Int) == (n : Int)) = true := by simp
      have hB2w := hBw.trans (hB2.mono hBw.size)
      have hB3w := hB2w.trans (hB3.mono hB2w.size)
      go_wp2_with fail
      refine (awake01_any _).mono ?_
      rintro e w6 ⟨rfl, hB6⟩
      go_wp2_with fail
      go_ret
      exact ⟨rfl, hB3w.trans (hB6.mono hB3w.size)⟩
    · rw [show (((m + 1 : Nat) : Int) - 1) = (m : Int) from by omega]
      obtain ⟨b, off, e0, hb, hc⟩ := (((hr1.more hsz).below hB)).at1 (k := m) (by omega)
      have hcm := hc m (by omega)
      injection e0 with e0
      injection e0 with e0 e1
      subst e0; subst e1
      have hstep := drop_rev (l.take 8) m (by have := HLT.out; omega)
      rw [HG.out m (by omega)] at hstep
      rw [Nat.zero_add] at hcm
      generalize l.getD m 0 = x at *
      have HS := Lib.hid hstep
      clear hstep hc
      go_wp2_with (at_builtin; refine wpList_append_lit rfl (.tmp 24) (.tmp 28) 31 rfl W1.heap.size 5 i0 _ 1 1 Try.underlying31 hi0 hz0 hz1 hz2 rfl (by omega) _ _ _ _ rfl hown _ 1 1 rfl _ rfl rfl (by simp [Value.oneCell']) (by simp only [maxLen]; omega) (by omega) hB.size ?_; intro v' w1 hown1 hB1' hs1)
      go_roundw
      case rel =>
        refine ⟨m, by omega, by go_num, ?_, hB.trans hB1'⟩
        rw [HS.out, bytesV_append, show 8 - m = 8 - (m + 1) + 1 by omega]
        exact hown1
      case measure => simp [intOf] <;> omega

theorem wordTurns_walk (w : World) (x : Arr8V) (okx : x.Ok) (n : Nat) (hn : n < 256) :
    Calls Try.prog 8 #[x.val, .int .u8 n] w fun e w' => e = .returned (.bool true) ∧ Below w.heap.size w w' := by
  obtain ⟨l⟩ := x
  obtain ⟨hl, hok⟩ := okx
  have h : (n : Int) % 4 = 0 ∨ (n : Int) % 4 = 1 ∨ (n : Int) % 4 = 2 ∨ (n : Int) % 4 = 3 := by omega
  rcases h with h | h | h | h
  · exact wordTurns_1 w l hl hok n hn h
  · exact wordTurns_2 w l hl hok n hn h
  · exact wordTurns_4 w l hl hok n hn h
  · exact wordTurns_8 w l hl hok n hn h
end Go.Proofs.Ytlpakmlpnjfcoaa
