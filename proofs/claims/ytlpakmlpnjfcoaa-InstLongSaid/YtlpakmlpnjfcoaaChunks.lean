/-
  slices.Chunk: the iterator over a slice's pieces of eight bytes.
-/
import Derived.Test.YtlpakmlpnjfcoaaPlaces
import Derived.Test.YtlpakmlpnjfcoaaData
namespace Go.Proofs.Ytlpakmlpnjfcoaa
open Go.RowKit Go.Shelf
set_option linter.unusedVariables false
attribute [local go_sem] Oper.semAt_some

theorem grownBy_drew_none (W : World) : W.grownBy W.drew none := ⟨(World.grownBy.refl W none).os, (World.grownBy.refl W none).tape, (World.grownBy.refl W none).output, (World.grownBy.refl W none).size, (World.grownBy.refl W none).block⟩
section
variable {α : Type} (val : α → Nat) (pl : Nat → α)
set_option maxRecDepth 100000 in
set_option maxHeartbeats 1000000 in
theorem chunk1_in (F : Fence) (n : Nat) (h59 : F.fn 60) (hro : F.round = none) (hn : 1 ≤ n) (l B m : Nat) (A : Option Addr) (b off c : Nat) (hA : 0 < m → A = some ⟨b, off, none⟩) (hm : m ≤ 1000000) (hc : 8 * m ≤ c) (hcm : c ≤ maxLen) (hpl : ∀ k, k < m → val (pl k) = k) (lo hi : Nat) (hB : lo ≤ B) (hB2 : B + 2 ≤ hi) (J Jx : List α → World → Prop) (hdr : ∀ pre W, J pre W → J pre W.drew)
    (hY : ∀ pre x W, J pre W → pre.length < m → YieldAt F (n - 1) Try.prog l #[.slice (some ⟨b, off + 8 * val x, none⟩) 8 8] W fun e W' =>
      (e = .returned (.bool true) ∧ J (pre ++ [x]) W' ∧ KeepsAt lo hi W W') ∨ (e = .returned (.bool false) ∧ Jx (pre ++ [x]) W'))
    (W : World) (h1 : W.cell? ⟨B, 0, none⟩ = some (.slice A (8 * m) c)) (h2 : W.cell? ⟨B + 1, 0, none⟩ = some (.int .i64 8)) (h0 : J [] W) :
    CallsIn F n Try.prog 60 #[.func (.yield l) #[] #[], .pointer (some ⟨B, 0, none⟩), .pointer (some ⟨B + 1, 0, none⟩)] W fun e W' => (∃ v, e = .returned v) ∧
      ((∃ ys, ys = upto pl m ∧ J ys W') ∨ (∃ pre, (∃ k, k ≤ m ∧ pre = upto pl k) ∧ Jx pre W')) := by
  unfold maxLen at hcm
  refine callsIn_of_wp Try.func60 rfl h59 ?_ hro
  simp only [Try.ntmps60, List.size_toArray, List.length_cons, List.length_nil, Nat.reduceAdd, Nat.reduceSub, Array.replicate_succ, Array.replicate_zero, List.push_toArray, List.append_toArray, List.nil_append, List.cons_append]
  gi_wp2
  gi_loopw [4] (fun i wr => ∃ k : Nat, k ≤ m ∧ i = .int .i64 ((8 * k : Nat) : Int) ∧ J (upto pl k) wr ∧ KeepsAt lo hi W wr)
    (fun i _ => 8 * m - (intOf i).toNat)
  case atStart => exact ⟨0, Nat.zero_le _, rfl, h0, KeepsAt.refl _ _ _⟩
  case round =>
    obtain ⟨k, hk, rfl, hJs, hK⟩ := hrel
    have g1 : wr.cell? ⟨B, 0, none⟩ = some (.slice A (8 * m) c) := (hK.cell (p := ⟨B, 0, none⟩) hB (by simp; omega)).trans h1
    have g2 : wr.cell? ⟨B + 1, 0, none⟩ = some (.int .i64 8) := (hK.cell (p := ⟨B + 1, 0, none⟩) (by simp; omega) (by simp; omega)).trans h2
    by_cases hlt : k < m
    · obtain rfl := hA (by omega)
      obtain ⟨fn, tmps, assign, body, hy, hR⟩ := hY _ (pl k) wr.drew (hdr _ _ hJs) (by rw [upto_length]; exact hlt)
      have hv := hpl k hlt
      have hstep := upto_succ pl k
      rw [hv] at hy
      have HS := Lib.hid hstep
      clear hv hpl hstep h1 h2 hY
      have z0 : (0 : Int) ≤ ((8 * k : Nat) : Int) := by omega
      have z1 : ((8 * k : Nat) : Int) < ((8 * m : Nat) : Int) := by omega
      have n0 : ¬ c = 8 * k := by omega
      have n1 : (8 : Int) ≤ ((8 * m - 8 * k : Nat) : Int) := by omega
      gi_wp2
      gi_region_with (fail)
      all_goals gi_wp2
      all_goals
        refine hR.mono ?_
        rintro e W3 (⟨rfl, hJ3, hk3⟩ | ⟨rfl, hJx3⟩)
        · have g3 : W3.cell? ⟨B + 1, 0, none⟩ = some (.int .i64 8) := (hk3.cell (p := ⟨B + 1, 0, none⟩) (by simp; omega) (by simp; omega)).trans g2
          clear g1 g2
          gi_wp2
          go_roundw
          case rel => exact ⟨k + 1, by omega, by go_num, by rw [HS.out]; exact hJ3, hK.trans ((KeepsAt.refl _ _ _).drew.trans hk3)⟩
          case measure => simp [intOf] <;> omega
        · gi_wp2
          refine bodyPost_ret (results_none rfl _ _ _) rfl ?_
          exact ⟨⟨_, rfl⟩, .inr ⟨_, ⟨k + 1, by omega, HS.out.symm⟩, hJx3⟩⟩
    · obtain rfl : k = m := by omega
      clear hpl
      gi_wp2
      go_end0
      exact ⟨⟨_, rfl⟩, .inl ⟨_, rfl, hJs⟩⟩

/-- **The iterator's contract.** -/
theorem chunk_stops (F : Fence) (n : Nat) (h59 : F.fn 60) (hro : F.round = none) (hn : 1 ≤ n) (B m : Nat) (A : Option Addr) (b off c : Nat) (hA : 0 < m → A = some ⟨b, off, none⟩) (hm : m ≤ 1000000) (hc : 8 * m ≤ c) (hcm : c ≤ maxLen) (hpl : ∀ k, k < m → val (pl k) = k) (lo : Nat) (w : World) (hB : lo ≤ B) (hB2 : B + 2 ≤ w.heap.size)
    (h1 : w.cell? ⟨B, 0, none⟩ = some (.slice A (8 * m) c)) (h2 : w.cell? ⟨B + 1, 0, none⟩ = some (.int .i64 8)) :
    SeqStopsK F n Try.prog 60 #[.pointer (some ⟨B, 0, none⟩), .pointer (some ⟨B + 1, 0, none⟩)] (fun x : α => #[Value.slice (some ⟨b, off + 8 * val x, none⟩) 8 8]) (KeepsAt lo w.heap.size) (fun ys => ys = upto pl m)
      (fun pre => ∃ k, k ≤ m ∧ pre = upto pl k) m w := fun l J Jx W hW hJ _ hY h0 => by
  have g1 := (hW.cell (p := ⟨B, 0, none⟩) (by simp; omega)).trans h1
  have g2 := (hW.cell (p := ⟨B + 1, 0, none⟩) (by simp; omega)).trans h2
  exact chunk1_in val pl F n h59 hro hn l B m A b off c hA hm hc hcm hpl lo w.heap.size hB hB2 J Jx (fun pre W h => hJ pre W W.drew none h (grownBy_drew_none W) (fun r e => by cases e)) hY W g1 g2 h0
end

set_option maxRecDepth 100000 in
theorem chunk_in (F : Fence) (n : Nat) (h51 : F.fn 57) (hro : F.round = none) (A : Option Addr) (m c : Nat) (w : World) :
    CallsIn F n Try.prog 57 #[.slice A m c, .int .i64 8] w fun e w' =>
      e = .returned (.func (.func 60) #[] #[.pointer (some ⟨w.heap.size, 0, none⟩), .pointer (some ⟨w.heap.size + 1, 0, none⟩)]) ∧
      w' = (w.alloc (.cells #[.slice A m c] 31)).alloc (.cells #[.int .i64 8] 3) := by
  refine callsIn_of_wp Try.func57 rfl h51 ?_ hro
  simp only [Try.ntmps57, List.size_toArray, List.length_cons, List.length_nil, Nat.reduceAdd, Nat.reduceSub, Array.replicate_succ, Array.replicate_zero, List.push_toArray, List.append_toArray, List.nil_append, List.cons_append]
  gi_wp2
  go_ret
  exact ⟨rfl, rfl⟩
end Go.Proofs.Ytlpakmlpnjfcoaa
