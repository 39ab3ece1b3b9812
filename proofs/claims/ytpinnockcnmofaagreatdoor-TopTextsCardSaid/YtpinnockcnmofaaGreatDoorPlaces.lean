/-
  word.places: the iterator over a word's places, from the highest byte's on, or from the lowest one's.
-/
import Derived.Test.YtpinnockcnmofaaGreatDoorWord01p
import Derived.RangeFuncNested
import Derived.RangeFuncBound
import Derived.RangeFuncCalls
import Derived.RangeFuncLeaves
import Derived.RangeFuncBox
import Derived.Shelf.Abstract
import Derived.Shelf.RegionOpen
import Derived.OwnWalkIn
import Derived.TacticsInMore
import Derived.LoopNIn
import Derived.LoopIn
namespace Go.Proofs.YtpinnockcnmofaaGreatDoor
open Go.RowKit Go.Shelf
set_option linter.unusedVariables false
attribute [local go_sem] Oper.semAt_some

/-- Blocks from lo on, below hi, are as they were. -/
structure KeepsAt (lo hi : Nat) (W W' : World) : Prop where
  size : W.heap.size ≤ W'.heap.size
  same : ∀ b, lo ≤ b → b < hi → W'.heap[b]? = W.heap[b]?
theorem KeepsAt.refl (lo hi : Nat) (W : World) : KeepsAt lo hi W W := ⟨Nat.le_refl _, fun _ _ _ => rfl⟩
theorem KeepsAt.trans {lo hi : Nat} {A B C : World} (h : KeepsAt lo hi A B) (k : KeepsAt lo hi B C) : KeepsAt lo hi A C :=
  ⟨Nat.le_trans h.size k.size, fun b h1 h2 => (k.same b h1 h2).trans (h.same b h1 h2)⟩
theorem KeepsAt.cell {lo hi : Nat} {W W' : World} (h : KeepsAt lo hi W W') {p : Addr} (h1 : lo ≤ p.block) (h2 : p.block < hi) : W'.cell? p = W.cell? p := World.cell?_of_block (h.same p.block h1 h2)
theorem KeepsAt.putObj {lo hi : Nat} (W : World) (l : Nat) (o : Obj) (h : hi ≤ l) : KeepsAt lo hi W (W.putObj l o) :=
  ⟨by simp [World.putObj], fun b _ h2 => World.putObj_heap_other (by omega)⟩
theorem KeepsAt.setCell {lo hi : Nat} {W W' : World} (h : KeepsAt lo hi W W') {p : Addr} (hp : p.block < lo ∨ hi ≤ p.block) (u : Value) : KeepsAt lo hi W (W'.setCell p u) :=
  h.trans ⟨by simp [World.setCell], fun b h1 h2 => Below.heap_setCell _ _ _ _ (by omega)⟩
theorem KeepsAt.drew {lo hi : Nat} {W W' : World} (h : KeepsAt lo hi W W') : KeepsAt lo hi W W'.drew := ⟨h.size, h.same⟩

/-- What has come when k rounds are over. -/
def upto {α : Type} (f : Nat → α) (k : Nat) : List α := (List.range k).map f
theorem upto_succ {α : Type} (f : Nat → α) (k : Nat) : upto f (k + 1) = upto f k ++ [f k] := by simp [upto, List.range_succ]
theorem upto_length {α : Type} (f : Nat → α) (k : Nat) : (upto f k).length = k := by simp [upto]

/-- The k-th place of a word. -/
def placeN (at_ width : Nat) (big : Bool) (k : Nat) : Nat := if big then at_ + k else at_ + (width - 1 - k)

section
variable {α : Type} (val : α → Nat) (pl : Nat → α)
set_option maxRecDepth 100000 in
set_option maxHeartbeats 1000000 in
theorem places1_in (F : Fence) (n : Nat) (h59 : F.fn 48) (hro : F.round = none) (hn : 1 ≤ n) (l B at_ width : Nat) (big : Bool) (hat : at_ ≤ 1000000) (hw : width ≤ 8) (hpl : ∀ k, k < width → val (pl k) = placeN at_ width big k) (lo hi : Nat) (hB : lo ≤ B) (hB2 : B + 3 ≤ hi) (J Jx : List α → World → Prop)
    (hY : ∀ pre x W, J pre W → pre.length < width → YieldAt F (n - 1) Tryz.prog l #[.int .i64 (val x : Int)] W fun e W' =>
      (e = .returned (.bool true) ∧ J (pre ++ [x]) W' ∧ KeepsAt lo hi W W') ∨ (e = .returned (.bool false) ∧ Jx (pre ++ [x]) W'))
    (W : World) (h1 : W.cell? ⟨B, 0, none⟩ = some (.int .i64 at_)) (h2 : W.cell? ⟨B + 1, 0, none⟩ = some (.int .i64 width)) (h3 : W.cell? ⟨B + 2, 0, none⟩ = some (.bool big)) (h0 : J [] W) :
    CallsIn F n Tryz.prog 48 #[.func (.yield l) #[] #[], .pointer (some ⟨B + 1, 0, none⟩), .pointer (some ⟨B, 0, none⟩), .pointer (some ⟨B + 2, 0, none⟩)] W fun e W' => (∃ v, e = .returned v) ∧
      ((∃ ys, ys = upto pl width ∧ J ys W') ∨ (∃ pre, (∃ k, k ≤ width ∧ pre = upto pl k) ∧ Jx pre W')) := by
  refine callsIn_of_wp Tryz.func48 rfl h59 ?_ hro
  simp only [Tryz.ntmps48, List.size_toArray, List.length_cons, List.length_nil, Nat.reduceAdd, Nat.reduceSub, Array.replicate_succ, Array.replicate_zero, List.push_toArray, List.append_toArray, List.nil_append, List.cons_append]
  gi_wp2
  gi_loopw [8] (fun i wr => ∃ k : Nat, k ≤ width ∧ i = .int .i64 k ∧ J (upto pl k) wr ∧ KeepsAt lo hi W wr)
    (fun i _ => width - (intOf i).toNat)
  case atStart => exact ⟨0, Nat.zero_le _, rfl, h0, KeepsAt.refl _ _ _⟩
  case round =>
    obtain ⟨k, hk, rfl, hJs, hK⟩ := hrel
    have g1 : wr.cell? ⟨B, 0, none⟩ = some (.int .i64 at_) := (hK.cell (p := ⟨B, 0, none⟩) hB (by simp; omega)).trans h1
    have g2 : wr.cell? ⟨B + 1, 0, none⟩ = some (.int .i64 width) := (hK.cell (p := ⟨B + 1, 0, none⟩) (by simp; omega) (by simp; omega)).trans h2
    have g3 : wr.cell? ⟨B + 2, 0, none⟩ = some (.bool big) := (hK.cell (p := ⟨B + 2, 0, none⟩) (by simp; omega) (by simp; omega)).trans h3
    by_cases hlt : k < width
    · obtain ⟨fn, tmps, assign, body, hy, hR⟩ := hY _ (pl k) wr hJs (by rw [upto_length]; exact hlt)
      have hv := hpl k hlt
      unfold placeN at hv
      have hstep := upto_succ pl k
      cases big with
      | true =>
        have hv' : ((val (pl k) : Nat) : Int) = (at_ : Int) + (k : Int) := by simp at hv; omega
        rw [hv'] at hy
        have HS := Lib.hid hstep
        clear hv hv' hpl hstep h1 h2 h3 hY
        gi_wp2
        refine hR.mono ?_
        rintro e W3 (⟨rfl, hJ3, hk3⟩ | ⟨rfl, hJx3⟩)
        · gi_wp2
          go_roundw
          case rel => exact ⟨k + 1, by omega, by go_num, by rw [HS.out]; exact hJ3, hK.trans hk3⟩
          case measure => simp [intOf] <;> omega
        · gi_wp2
          refine bodyPost_ret (results_none rfl _ _ _) rfl ?_
          exact ⟨⟨_, rfl⟩, .inr ⟨_, ⟨k + 1, by omega, HS.out.symm⟩, hJx3⟩⟩
      | false =>
        have hv' : ((val (pl k) : Nat) : Int) = (at_ : Int) + (width : Int) - 1 - (k : Int) := by simp at hv; omega
        rw [hv'] at hy
        have HS := Lib.hid hstep
        clear hv hv' hpl hstep h1 h2 h3 hY
        gi_wp2
        refine hR.mono ?_
        rintro e W3 (⟨rfl, hJ3, hk3⟩ | ⟨rfl, hJx3⟩)
        · gi_wp2
          go_roundw
          case rel => exact ⟨k + 1, by omega, by go_num, by rw [HS.out]; exact hJ3, hK.trans hk3⟩
          case measure => simp [intOf] <;> omega
        · gi_wp2
          refine bodyPost_ret (results_none rfl _ _ _) rfl ?_
          exact ⟨⟨_, rfl⟩, .inr ⟨_, ⟨k + 1, by omega, HS.out.symm⟩, hJx3⟩⟩
    · obtain rfl : k = width := by omega
      clear hpl
      gi_wp2
      go_end0
      exact ⟨⟨_, rfl⟩, .inl ⟨_, rfl, hJs⟩⟩

/-- **The iterator's contract.** -/
theorem places_stops (F : Fence) (n : Nat) (h59 : F.fn 48) (hro : F.round = none) (hn : 1 ≤ n) (B at_ width : Nat) (big : Bool) (hat : at_ ≤ 1000000) (hw : width ≤ 8) (hpl : ∀ k, k < width → val (pl k) = placeN at_ width big k) (lo : Nat) (w : World) (hB : lo ≤ B) (hB2 : B + 3 ≤ w.heap.size)
    (h1 : w.cell? ⟨B, 0, none⟩ = some (.int .i64 at_)) (h2 : w.cell? ⟨B + 1, 0, none⟩ = some (.int .i64 width)) (h3 : w.cell? ⟨B + 2, 0, none⟩ = some (.bool big)) :
    SeqStopsK F n Tryz.prog 48 #[.pointer (some ⟨B + 1, 0, none⟩), .pointer (some ⟨B, 0, none⟩), .pointer (some ⟨B + 2, 0, none⟩)] (fun x : α => #[Value.int .i64 (val x : Int)]) (KeepsAt lo w.heap.size) (fun ys => ys = upto pl width)
      (fun pre => ∃ k, k ≤ width ∧ pre = upto pl k) width w := fun l J Jx W hW _ _ hY h0 => by
  have g1 := (hW.cell (p := ⟨B, 0, none⟩) (by simp; omega)).trans h1
  have g2 := (hW.cell (p := ⟨B + 1, 0, none⟩) (by simp; omega)).trans h2
  have g3 := (hW.cell (p := ⟨B + 2, 0, none⟩) (by simp; omega)).trans h3
  exact places1_in val pl F n h59 hro hn l B at_ width big hat hw hpl lo w.heap.size hB hB2 J Jx hY W g1 g2 g3 h0
end

set_option maxRecDepth 100000 in
theorem places_in (F : Fence) (n : Nat) (h51 : F.fn 27) (hro : F.round = none) (at_ width : Int) (big : Bool) (w : World) :
    CallsIn F n Tryz.prog 27 #[.int .i64 at_, .int .i64 width, .bool big] w fun e w' =>
      e = .returned (.func (.func 48) #[] #[.pointer (some ⟨w.heap.size + 1, 0, none⟩), .pointer (some ⟨w.heap.size, 0, none⟩), .pointer (some ⟨w.heap.size + 2, 0, none⟩)]) ∧
      w' = ((w.alloc (.cells #[.int .i64 at_] 3)).alloc (.cells #[.int .i64 width] 3)).alloc (.cells #[.bool big] 4) := by
  refine callsIn_of_wp Tryz.func27 rfl h51 ?_ hro
  simp only [Tryz.ntmps27, List.size_toArray, List.length_cons, List.length_nil, Nat.reduceAdd, Nat.reduceSub, Array.replicate_succ, Array.replicate_zero, List.push_toArray, List.append_toArray, List.nil_append, List.cons_append]
  gi_wp2
  go_ret
  exact ⟨rfl, rfl⟩
end Go.Proofs.YtpinnockcnmofaaGreatDoor
