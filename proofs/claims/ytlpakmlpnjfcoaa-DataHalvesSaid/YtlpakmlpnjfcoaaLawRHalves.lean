/-
  The walk of DataHalves.
-/
import Derived.Test.YtlpakmlpnjfcoaaLawRBack
namespace Go.Proofs.Ytlpakmlpnjfcoaa
open Go.RowKit
set_option linter.unusedVariables false

theorem recB_half (x : RecV) (hx : x.Ok) (big second : Bool) (k : Nat) (hk : k < 6) :
    getN (recB x big) ((16 + 8 * k + (if second then 4 else 0) : Nat) : Int) (4 : Nat) big = if second = big then x.args.getD k 0 % 4294967296 else x.args.getD k 0 / 4294967296 := by
  have h6 := hx.args
  have p4 : 256 ^ 4 = 4294967296 := by decide
  obtain ⟨p, q, hp, e⟩ := recB_arg x h6 big k hk
  have ha := hx.arg _ (getD_mem (l := x.args) (i := k) (by omega))
  generalize x.args.getD k 0 = n at *
  rw [e, part_split]
  cases second <;> cases big
  · simp only [Bool.false_eq_true, if_false, Nat.add_zero, if_true]
    rw [← hp, List.append_assoc]
    exact getN_part p _ _ 4 false (.inl rfl) (by rw [p4]; omega)
  · simp only [Bool.false_eq_true, if_false, Nat.add_zero, if_true]
    rw [← hp, List.append_assoc]
    exact getN_part p _ _ 4 true (.inl rfl) (by rw [p4]; omega)
  · simp only [Bool.true_eq_false, Bool.false_eq_true, if_false, if_true]
    have := getN_part (p ++ partN (n % 4294967296) 4 false) q (n / 4294967296) 4 false (.inl rfl) (by rw [p4]; omega)
    rw [List.length_append, partN_length, hp] at this
    simpa only [List.append_assoc] using this
  · simp only [if_true]
    have := getN_part (p ++ partN (n / 4294967296) 4 true) q (n % 4294967296) 4 true (.inl rfl) (by rw [p4]; omega)
    rw [List.length_append, partN_length, hp] at this
    simpa only [List.append_assoc] using this

set_option maxRecDepth 100000 in
set_option maxHeartbeats 2000000 in
theorem dataHalves_no (w : World) (x : RecV) (hx : x.Ok) (arg : Int) (h0 : -9223372036854775808 ≤ arg) (h1 : arg ≤ 9223372036854775807) (big : Bool) (ho : arg < 0 ∨ 5 < arg) :
    Calls Try.prog 17 #[x.val, .int .i64 arg, .bool big] w fun e w' => e = .returned (.bool true) ∧ Below w.heap.size w w' := by
  have e1 : ∀ s, placeD arg s = 0 := fun s => if_pos ho
  have e2 : errD arg = 16 := if_pos ho
  have E1 := Lib.hid e1
  have E2 := Lib.hid e2
  have HX := Lib.hid hx
  clear e1 e2 hx
  unfold RecV.val
  rcases ho with ho | ho
  · go_enter Try.func17, Try.ntmps17
    go_wp2_with fail
    refine (low_any arg h0 h1 big _).mono ?_
    rintro e w1 ⟨rfl, rfl⟩
    rw [E1.out, E2.out]
    go_wp2_with fail
    refine (high_any arg h0 h1 big _).mono ?_
    rintro e w1 ⟨rfl, rfl⟩
    rw [E1.out, E2.out]
    go_wp2_with fail
    refine (awake05_any _).mono ?_
    rintro e w1 ⟨rfl, rfl⟩
    go_wp2_with fail
    go_ret
    exact ⟨rfl, (Below.refl _ w).alloc (Nat.le_refl _) _⟩
  · have hn : ¬ arg < 0 := by omega
    go_enter Try.func17, Try.ntmps17
    go_wp2_with fail
    refine (low_any arg h0 h1 big _).mono ?_
    rintro e w1 ⟨rfl, rfl⟩
    rw [E1.out, E2.out]
    go_wp2_with fail
    refine (high_any arg h0 h1 big _).mono ?_
    rintro e w1 ⟨rfl, rfl⟩
    rw [E1.out, E2.out]
    go_wp2_with fail
    refine (awake05_any _).mono ?_
    rintro e w1 ⟨rfl, rfl⟩
    go_wp2_with fail
    go_ret
    exact ⟨rfl, (Below.refl _ w).alloc (Nat.le_refl _) _⟩

set_option maxRecDepth 100000 in
set_option maxHeartbeats 2000000 in
theorem dataHalves_yes (w : World) (x : RecV) (hx : x.Ok) (k : Nat) (hk : k < 6) (big : Bool) :
    Calls Try.prog 17 #[x.val, .int .i64 (k : Int), .bool big] w fun e w' => e = .returned (.bool true) ∧ Below w.heap.size w w' := by
  obtain ⟨lo, hlo⟩ : ∃ lo : Nat, lo = 16 + 8 * k + (if big then 4 else 0) := ⟨_, rfl⟩
  obtain ⟨hi, hhi⟩ : ∃ hi : Nat, hi = 16 + 8 * k + (if (!big) then 4 else 0) := ⟨_, rfl⟩
  have e1 : placeD (k : Int) big = (lo : Int) := by unfold placeD; rw [if_neg (by omega), hlo]; cases big <;> simp
  have e2 : placeD (k : Int) (!big) = (hi : Int) := by unfold placeD; rw [if_neg (by omega), hhi]; cases big <;> simp
  have e3 : errD (k : Int) = 0 := by unfold errD; rw [if_neg (by omega)]
  have g1 : getN (recB x big) lo 4 big = x.args.getD k 0 % 4294967296 := by rw [hlo]; have := recB_half x hx big big k hk; rwa [if_pos rfl] at this
  have g2 : getN (recB x big) hi 4 big = x.args.getD k 0 / 4294967296 := by rw [hhi]; exact (recB_half x hx big (!big) k hk).trans (if_neg (by cases big <;> simp))
  have hlo4 : (lo : Int) % 4 = 0 := by cases big <;> simp at hlo <;> omega
  have hhi4 : (hi : Int) % 4 = 0 := by cases big <;> simp at hhi <;> omega
  have hlob : lo ≤ 60 := by cases big <;> simp at hlo <;> omega
  have hhib : hi ≤ 60 := by cases big <;> simp at hhi <;> omega
  have ox := hx.args
  have hn : x.args.getD k 0 < 18446744073709551616 := hx.arg _ (getD_mem (l := x.args) (i := k) (by omega))
  have w1 : wrongN (recB x big).length lo 4 = 0 := by rw [recB_length x ox]; exact wrong_in 64 lo 4 (.inl rfl) (by omega)
  have w2 : wrongN (recB x big).length hi 4 = 0 := by rw [recB_length x ox]; exact wrong_in 64 hi 4 (.inl rfl) (by omega)
  have hcell : x.cells.toArray[3 + k]? = some (.int .u64 (x.args.getD k 0 : Nat)) := by
    simp [RecV.cells, u64sV, show 3 + k = k + 1 + 1 + 1 by omega, show k < x.args.length by omega]
  have hsx : (x.cells.toArray).size = 9 := by simp [RecV.cells, u64sV, ox]
  have hsz : (bytesV (recB x big)).toArray.size = 64 := by simp [bytesV_length, recB_length x ox big]
  have hone : (bytesV (recB x big)).toArray.all (·.oneCell') = true := all_oneCell_toArray (bytesV_one _)
  have hlen := recB_length x ox big
  have hlt := recB_lt x big
  generalize x.args.getD k 0 = n at *
  have q1 : (((n % 4294967296 : Nat) : Int) == (n : Int) % 4294967296) = true := by simp
  have q2 : (((n / 4294967296 : Nat) : Int) == (n : Int) / 4294967296) = true := by simp
  unfold RecV.val
  have HX := Lib.hid hx
  have OX := Lib.hid ox
  have SX := Lib.hid hsx
  have HS := Lib.hid hsz
  have HO := Lib.hid hone
  have HL := Lib.hid hlen
  have HT := Lib.hid hlt
  have E1 := Lib.hid e1
  have E2 := Lib.hid e2
  have E3 := Lib.hid e3
  have G1 := Lib.hid g1
  have G2 := Lib.hid g2
  have W1 := Lib.hid w1
  have W2 := Lib.hid w2
  have HC := Lib.hid hcell
  have L4 := Lib.hid hlo4
  have H4 := Lib.hid hhi4
  have kn : ¬ (k : Int) < 0 := by omega
  have kn5 : ¬ (5 : Int) < (k : Int) := by omega
  clear hx ox hsx hsz hone hlen hlt e1 e2 e3 g1 g2 w1 w2 hcell hlo hhi hlo4 hhi4
  go_enter Try.func17, Try.ntmps17
  go_wp2_with fail
  refine (low_any (k : Int) (by omega) (by omega) big _).mono ?_
  rintro e w1 ⟨rfl, rfl⟩
  rw [E1.out, E3.out]
  go_wp2_with fail
  refine (high_any (k : Int) (by omega) (by omega) big _).mono ?_
  rintro e w1 ⟨rfl, rfl⟩
  rw [E2.out, E3.out]
  go_wp2_with (refine wpList_load_row rfl 68 (.tmp 3) rfl w.heap.size rfl 68 x.cells.toArray (0, 0) _ (heap_alloc_new w _) Try.underlying68 rfl (by rw [SX.out]; kernel_rfl) ?_)
  refine (ofrec_any x OX.out _).mono ?_
  rintro e w1 ⟨rfl, hB1⟩
  have b1 := (Blk.new w 68 x.cells.toArray).below hB1 (by simp)
  have hB1w : Below w.heap.size w w1 := ((Below.refl _ w).alloc (Nat.le_refl _) _).trans (hB1.mono (by simp))
  clear hB1
  go_wp2_with fail
  refine (dwrite_any x HX.out big _).mono ?_
  rintro e w2 ⟨rfl, hB2⟩
  have b2 := b1.below hB2 b1.lt
  have hB2w := hB1w.trans (hB2.mono hB1w.size)
  have hlt2 : w.heap.size < w2.heap.size := b2.lt
  clear hB2 b1 hB1w
  go_wp2_with (refine wpList_store_row rfl 71 (.tmp 11) (.tmp 54) rfl w2.heap.size (bytesV (recB x big)).toArray rfl rfl 71 _ (heap_alloc_new w2 _) (by rw [HS.out]; kernel_rfl) (by rw [HS.out]; rfl) HO.out ?_)
  refine (get_any (recB x big) HT.out _ 64 64 lo 4 big _ ?hr (by omega)).mono ?_
  case hr => exact blk_reads (blk_setRow (Blk.new w2 _ _) _) HL.out
  rintro e w3 ⟨rfl, hB3⟩
  rw [G1.out, W1.out]
  have b3 := (blk_setRow_far (b2.alloc _) (by omega) _).below hB3 (by simp [World.setRow]; omega)
  have o3 := (blk_setRow (Blk.new w2 _ _) _).below hB3 (by simp [World.setRow])
  have hB3w : Below w.heap.size w w3 := (below_setRow (hB2w.alloc hB2w.size _) (by omega) _).trans (hB3.mono (by have := hB2w.size; simp [World.setRow]; omega))
  clear hB3 hB2w b2
  go_wp2_with fail
  refine (get_any (recB x big) HT.out _ 64 64 hi 4 big _ (blk_reads o3 HL.out) (by omega)).mono ?_
  rintro e w4 ⟨rfl, hB4⟩
  rw [G2.out, W2.out]
  have b4 := b3.below hB4 b3.lt
  have hB4w := hB3w.trans (hB4.mono hB3w.size)
  have hc := (b4.cell (3 + k)).trans HC.out
  have z0 : (0 : Int) ≤ (k : Int) := by omega
  have z1 : (k : Int) < 6 := by omega
  have l4 := L4.out
  have h4 := H4.out
  clear hB4 hB3w b3 o3 kn kn5
  go_wp2_with fail
  refine (awake05_any _).mono ?_
  rintro e w1 ⟨rfl, rfl⟩
  go_wp2_with fail
  go_ret
  exact ⟨rfl, hB4w⟩

theorem dataHalves_walk (w : World) (x : RecV) (hx : x.Ok) (arg : Int) (ha : -9223372036854775808 ≤ arg ∧ arg ≤ 9223372036854775807) (big : Bool) :
    Calls Try.prog 17 #[x.val, .int .i64 arg, .bool big] w fun e w' => e = .returned (.bool true) ∧ Below w.heap.size w w' := by
  by_cases ho : arg < 0 ∨ 5 < arg
  · exact dataHalves_no w x hx arg ha.1 ha.2 big ho
  · obtain ⟨k, rfl⟩ : ∃ k : Nat, arg = k := ⟨arg.toNat, by omega⟩
    exact dataHalves_yes w x hx k (by omega) big
end Go.Proofs.Ytlpakmlpnjfcoaa
