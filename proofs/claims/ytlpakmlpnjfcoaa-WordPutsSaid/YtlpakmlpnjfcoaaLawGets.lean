/-
  The walk of strainerlaw01.WordGets: true.
-/
import Derived.Test.YtlpakmlpnjfcoaaAwake01
import Derived.Test.YtlpakmlpnjfcoaaWord02
namespace Go.Proofs.Ytlpakmlpnjfcoaa
open Go.RowKit
set_option linter.unusedVariables false

/-- A piece of a slice of bytes. -/
theorem Reads.piece {w : World} {B : Nat} {b off n : Nat} {l : List Nat} (h : Reads w B 1 (some ⟨b, off, none⟩) n (bytesV l)) (lo width : Nat) (hin : lo + width ≤ n) :
    Reads w B 1 (some ⟨b, off + lo, none⟩) width (bytesV ((l.drop lo).take width)) := by
  have hn : n = l.length := by have := h.1; rw [bytesV_length] at this; omega
  refine ⟨by rw [bytesV_length]; simp; omega, fun hw => ?_⟩
  obtain ⟨ad, e, hb, hc⟩ := h.2 (by omega)
  injection e with e
  subst e
  refine ⟨_, rfl, hb, fun j u hu => ?_⟩
  have hj : j < width := by have := (List.getElem?_eq_some_iff.1 hu).1; rw [bytesV_length] at this; simp at this; omega
  have hu' : (bytesV l)[lo + j]? = some u := by
    rw [← hu]
    simp [bytesV, hj]
  rw [← hc (lo + j) u hu']
  unfold Addr.add
  by_cases h0 : j = 0
  · subst h0
    by_cases hl : lo = 0
    · subst hl; simp
    · simp [hl]
  · rw [if_neg h0, if_neg (by omega)]; simp [Nat.add_assoc]

theorem wordN_big (l : List Nat) (at_ width : Nat) (hin : at_ + width ≤ l.length) : wordN l at_ width true = (l.drop at_).take width := by
  apply List.ext_getElem
  · simp [wordN]; omega
  · intro i h1 h2
    simp [wordN] at h1
    simp [wordN, placeN, show at_ + i < l.length by omega]
theorem wordN_small (l : List Nat) (at_ width : Nat) (hin : at_ + width ≤ l.length) : wordN l at_ width false = ((l.drop at_).take width).reverse := by
  apply List.ext_getElem
  · simp [wordN]; omega
  · intro i h1 h2
    simp [wordN] at h1
    have e : at_ + (width - 1 - i) < l.length := by omega
    have e2 : min width (l.length - at_) = width := by omega
    simp [wordN, placeN, List.getElem_reverse, e, e2]

theorem drop_take_lt {l : List Nat} (hok : ∀ b ∈ l, b < 256) (a v : Nat) : ∀ b ∈ (l.drop a).take v, b < 256 := fun b h => hok b (List.mem_of_mem_drop (List.mem_of_mem_take h))

set_option maxRecDepth 100000 in
set_option maxHeartbeats 1000000 in
theorem wordGets_big (l : List Nat) (hok : ∀ b ∈ l, b < 256) (b off n c at_ width : Nat) (w : World) (hr : Reads w w.heap.size 1 (some ⟨b, off, none⟩) n (bytesV l)) (hn : n ≤ 200) (hc : n ≤ c) (hm : c ≤ maxLen) (hw : wrongN n at_ width = 0) (hw8 : width ≤ 8) (hin : at_ + width ≤ n) (hpos : 0 < width) :
    Calls Try.prog 7 #[.slice (some ⟨b, off, none⟩) n c, .agg #[.int .i64 at_, .int .i64 width, .bool true]] w fun e w' => e = .returned (.bool true) ∧ Below w.heap.size w w' := by
  have hl : n = l.length := by have := hr.1; rw [bytesV_length] at this; omega
  have hg : getN l at_ width true = valBE ((l.drop at_).take width) := by
    unfold getN
    rw [if_pos (by rw [← hl]; exact hw)]
    exact congrArg valBE (wordN_big l at_ width (by omega))
  have hw0 : wrongN l.length at_ width = 0 := by rw [← hl]; exact hw
  unfold maxLen at hm
  have hbnd : valBE ((l.drop at_).take width) < 18446744073709551616 := by
    have h1 := valBE_cons_lt _ (drop_take_lt hok at_ width)
    have h2 : ((l.drop at_).take width).length ≤ 8 := by simp; omega
    have h3 := Nat.pow_le_pow_right (show 0 < 256 by decide) h2
    have h4 : 256 ^ 8 = 18446744073709551616 := by decide
    omega
  have hz0 : (0 : Int) ≤ (at_ : Int) := Int.natCast_nonneg _
  have hz1 : (at_ : Int) ≤ (at_ : Int) + (width : Int) := by omega
  have hz2 : (at_ : Int) + (width : Int) ≤ (c : Int) := by omega
  have HL := Lib.hid hl
  have HG := Lib.hid hg
  have HW := Lib.hid hw
  have HW0 := Lib.hid hw0
  clear hl hg hw hw0
  go_enter Try.func7, Try.ntmps7
  go_wp2_with fail
  refine (get_any l hok _ n c at_ width true _ ((hr.alloc (Nat.le_refl _) _).more (by simp)) (by omega)).mono ?_
  rintro e w1 ⟨rfl, hB1⟩
  rw [HG.out, HW0.out]
  have hB1w : Below w.heap.size w w1 := ((Below.refl _ w).alloc (Nat.le_refl _) _).trans (hB1.mono (by simp))
  have c0 : w1.cell? ⟨w.heap.size, 0, none⟩ = some (.int .i64 at_) := cell_of_below hB1 (by simp) (by rw [World.cell?_alloc_at _ _ _ _ rfl]; rfl)
  have c1 : w1.cell? ⟨w.heap.size, 1, none⟩ = some (.int .i64 width) := cell_of_below hB1 (by simp) (by rw [World.cell?_alloc_at _ _ _ _ rfl]; rfl)
  have c2 : w1.cell? ⟨w.heap.size, 2, none⟩ = some (.bool true) := cell_of_below hB1 (by simp) (by rw [World.cell?_alloc_at _ _ _ _ rfl]; rfl)
  have hr1 := (hr.below hB1w).piece at_ width hin
  generalize hp : (l.drop at_).take width = part at *
  have hpl : part.length ≤ 8 := by rw [← hp]; simp; omega
  have hpo : ∀ b ∈ part, b < 256 := by rw [← hp]; exact drop_take_lt hok at_ width
  clear hp
  go_wp2_with fail
  refine (wrong_any _ _ _ _ (by omega) (by omega)).mono ?_
  rintro e w2 ⟨rfl, rfl⟩
  rw [HW.out]
  go_wp2_with fail
  refine (turn_any part _ width _ _ (hr1.more (hB1w.size)) (by omega)).mono ?_
  rintro e w2 ⟨v, rfl, hown, hB2⟩
  obtain ⟨A2, n2c, rfl, hr2⟩ := own_reads hown
  have c0' : w2.cell? ⟨w.heap.size, 0, none⟩ = some (.int .i64 at_) := cell_of_below hB2 (by have := hB1.size; simp at this ⊢; omega) c0
  have hB2w := hB1w.trans (hB2.mono hB1w.size)
  clear hown
  rw [List.length_reverse] at hr2
  go_wp2_with fail
  refine (number_any _ (fun b hb => hpo b (List.mem_reverse.1 hb)) _ _ _ _ hr2 hpl).mono ?_
  rintro e w3 ⟨rfl, rfl⟩
  rw [List.reverse_reverse]
  have hs : ((valBE part : Int) == (valBE part : Int)) = true := by simp
  generalize valBE part = y at *
  go_wp2_with fail
  refine (awake01_any w2).mono ?_
  rintro e w3 ⟨rfl, hB3⟩
  go_wp2_with fail
  go_ret
  exact ⟨rfl, hB2w.trans (hB3.mono hB2w.size)⟩
set_option maxRecDepth 100000 in
set_option maxHeartbeats 1000000 in
theorem wordGets_small (l : List Nat) (hok : ∀ b ∈ l, b < 256) (b off n c at_ width : Nat) (w : World) (hr : Reads w w.heap.size 1 (some ⟨b, off, none⟩) n (bytesV l)) (hn : n ≤ 200) (hc : n ≤ c) (hm : c ≤ maxLen) (hw : wrongN n at_ width = 0) (hw8 : width ≤ 8) (hin : at_ + width ≤ n) (hpos : 0 < width) :
    Calls Try.prog 7 #[.slice (some ⟨b, off, none⟩) n c, .agg #[.int .i64 at_, .int .i64 width, .bool false]] w fun e w' => e = .returned (.bool true) ∧ Below w.heap.size w w' := by
  have hl : n = l.length := by have := hr.1; rw [bytesV_length] at this; omega
  have hg : getN l at_ width false = valBE ((l.drop at_).take width).reverse := by
    unfold getN
    rw [if_pos (by rw [← hl]; exact hw)]
    exact congrArg valBE (wordN_small l at_ width (by omega))
  have hw0 : wrongN l.length at_ width = 0 := by rw [← hl]; exact hw
  unfold maxLen at hm
  have hbnd : valBE ((l.drop at_).take width).reverse < 18446744073709551616 := by
    have h1 := valBE_cons_lt _ (fun b hb => drop_take_lt hok at_ width b (List.mem_reverse.1 hb))
    have h2 : ((l.drop at_).take width).reverse.length ≤ 8 := by simp; omega
    have h3 := Nat.pow_le_pow_right (show 0 < 256 by decide) h2
    have h4 : 256 ^ 8 = 18446744073709551616 := by decide
    omega
  have hz0 : (0 : Int) ≤ (at_ : Int) := Int.natCast_nonneg _
  have hz1 : (at_ : Int) ≤ (at_ : Int) + (width : Int) := by omega
  have hz2 : (at_ : Int) + (width : Int) ≤ (c : Int) := by omega
  have HL := Lib.hid hl
  have HG := Lib.hid hg
  have HW := Lib.hid hw
  have HW0 := Lib.hid hw0
  clear hl hg hw hw0
  go_enter Try.func7, Try.ntmps7
  go_wp2_with fail
  refine (get_any l hok _ n c at_ width false _ ((hr.alloc (Nat.le_refl _) _).more (by simp)) (by omega)).mono ?_
  rintro e w1 ⟨rfl, hB1⟩
  rw [HG.out, HW0.out]
  have hB1w : Below w.heap.size w w1 := ((Below.refl _ w).alloc (Nat.le_refl _) _).trans (hB1.mono (by simp))
  have c0 : w1.cell? ⟨w.heap.size, 0, none⟩ = some (.int .i64 at_) := cell_of_below hB1 (by simp) (by rw [World.cell?_alloc_at _ _ _ _ rfl]; rfl)
  have c1 : w1.cell? ⟨w.heap.size, 1, none⟩ = some (.int .i64 width) := cell_of_below hB1 (by simp) (by rw [World.cell?_alloc_at _ _ _ _ rfl]; rfl)
  have c2 : w1.cell? ⟨w.heap.size, 2, none⟩ = some (.bool false) := cell_of_below hB1 (by simp) (by rw [World.cell?_alloc_at _ _ _ _ rfl]; rfl)
  have hr1 := (hr.below hB1w).piece at_ width hin
  generalize hp : (l.drop at_).take width = part at *
  have hpl : part.length ≤ 8 := by rw [← hp]; simp; omega
  have hpo : ∀ b ∈ part, b < 256 := by rw [← hp]; exact drop_take_lt hok at_ width
  clear hp
  go_wp2_with fail
  refine (wrong_any _ _ _ _ (by omega) (by omega)).mono ?_
  rintro e w2 ⟨rfl, rfl⟩
  rw [HW.out]
  go_wp2_with fail
  refine (number_any part hpo _ width _ _ (hr1.more (hB1w.size)) hw8).mono ?_
  rintro e w3 ⟨rfl, rfl⟩
  have hs : ((valBE part.reverse : Int) == (valBE part.reverse : Int)) = true := by simp
  generalize valBE part.reverse = y at *
  go_wp2_with fail
  refine (awake01_any _).mono ?_
  rintro e w3 ⟨rfl, hB3⟩
  go_wp2_with fail
  go_ret
  exact ⟨rfl, hB1w.trans (hB3.mono hB1w.size)⟩
set_option maxRecDepth 100000 in
set_option maxHeartbeats 1000000 in
theorem wordGets_no (l : List Nat) (hok : ∀ b ∈ l, b < 256) (A : Option Addr) (n c : Nat) (at_ width : Int) (big : Bool) (w : World) (hr : Reads w w.heap.size 1 A n (bytesV l)) (hn : n ≤ 200) (hw : wrongN n at_ width ≠ 0) :
    Calls Try.prog 7 #[.slice A n c, .agg #[.int .i64 at_, .int .i64 width, .bool big]] w fun e w' => e = .returned (.bool true) ∧ Below w.heap.size w w' := by
  have hl : n = l.length := by have := hr.1; rw [bytesV_length] at this; omega
  have hg : getN l at_ width big = 0 := by unfold getN; rw [if_neg (by rw [← hl]; exact hw)]
  have hxb : wrongN n at_ width ≤ 2 := by unfold wrongN; split <;> (try split) <;> omega
  have HL := Lib.hid hl
  have HG := Lib.hid hg
  clear hl hg
  go_enter Try.func7, Try.ntmps7
  go_wp2_with fail
  refine (get_any l hok _ n c at_ width big _ ((hr.alloc (Nat.le_refl _) _).more (by simp)) (by omega)).mono ?_
  rintro e w1 ⟨rfl, hB1⟩
  rw [HG.out, ← HL.out]
  have hB1w : Below w.heap.size w w1 := ((Below.refl _ w).alloc (Nat.le_refl _) _).trans (hB1.mono (by simp))
  have c0 : w1.cell? ⟨w.heap.size, 0, none⟩ = some (.int .i64 at_) := cell_of_below hB1 (by simp) (by rw [World.cell?_alloc_at _ _ _ _ rfl]; rfl)
  have c1 : w1.cell? ⟨w.heap.size, 1, none⟩ = some (.int .i64 width) := cell_of_below hB1 (by simp) (by rw [World.cell?_alloc_at _ _ _ _ rfl]; rfl)
  generalize hx : wrongN n at_ width = x at *
  have HX := Lib.hid hx
  have hx0 : ((x : Int) != 0) = true := by simp; omega
  clear hx
  go_wp2_with fail
  refine (wrong_any _ _ _ _ (by omega) (by omega)).mono ?_
  rintro e w2 ⟨rfl, rfl⟩
  rw [HX.out]
  have hxx : ((x : Int) == (x : Int)) = true := by simp
  go_wp2_with fail
  refine (awake01_any _).mono ?_
  rintro e w3 ⟨rfl, hB3⟩
  go_wp2_with fail
  go_ret
  exact ⟨rfl, hB1w.trans (hB3.mono hB1w.size)⟩

set_option maxRecDepth 100000 in
set_option maxHeartbeats 1000000 in
theorem wordGets_long (A : Option Addr) (n c : Nat) (v : PlaceV) (w : World) (hn : 200 < n) :
    Calls Try.prog 7 #[.slice A n c, v.val] w fun e w' => e = .returned (.bool true) ∧ Below w.heap.size w w' := by
  obtain ⟨at_, width, big⟩ := v
  unfold PlaceV.val
  go_enter Try.func7, Try.ntmps7
  go_wp2_with fail
  go_ret
  exact ⟨rfl, (Below.refl _ w).alloc (Nat.le_refl _) _⟩

theorem wordGets_walk (w : World) (l : List Nat) (hok : ∀ b ∈ l, b < 256) (A : Option Addr) (n c : Nat) (hr : Reads w w.heap.size 1 A n (bytesV l)) (hc : n ≤ c) (hm : c ≤ maxLen) (x : PlaceV) (okx : x.Ok) :
    Calls Try.prog 7 #[.slice A n c, x.val] w fun e w' => e = .returned (.bool true) ∧ Below w.heap.size w w' := by
  by_cases hn : 200 < n
  · exact wordGets_long A n c x w hn
  · obtain ⟨at_, width, big⟩ := x
    by_cases hw : wrongN n at_ width = 0
    · obtain ⟨hwide, h0, h1⟩ := wrongN_zero hw
      obtain ⟨a, rfl⟩ : ∃ a : Nat, at_ = a := ⟨at_.toNat, by omega⟩
      have hwb : 1 ≤ width ∧ width ≤ 8 := by rcases hwide with h | h | h | h <;> omega
      obtain ⟨v, rfl⟩ : ∃ v : Nat, width = v := ⟨width.toNat, by omega⟩
      obtain ⟨b, off, rfl, _⟩ := hr.at1 (k := 0) (by omega)
      cases big
      · exact wordGets_small l hok b off n c a v w hr (by omega) hc hm hw (by omega) (by omega) (by omega)
      · exact wordGets_big l hok b off n c a v w hr (by omega) hc hm hw (by omega) (by omega) (by omega)
    · exact wordGets_no l hok A n c at_ width big w hr (by omega) hw
end Go.Proofs.Ytlpakmlpnjfcoaa
