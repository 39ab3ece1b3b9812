/-
  The walk of strainerref20.at: the place of a mark.
-/
import Derived.Test.YtgalkidhgjgbhaaAsmData
namespace Go.Proofs.Ytgalkidhgjgbhaa
open Go.RowKit
set_option linter.unusedVariables false

/-- What slot holds when i items have been looked at. -/
def AtRel (l : List It) (m : Int) (i : Nat) (v : Value) : Prop :=
  (v = .int .i64 (-1) ∧ ∀ p, p < i → ¬ ((l.getD p default).mark = m ∧ m ≠ 0)) ∨ (∃ j : Nat, v = .int .i64 j ∧ j < i ∧ m ≠ 0 ∧ ∀ p, p < i → ((l.getD p default).mark = m ↔ p = j))
theorem atRel_end {l : List It} {m : Int} {v : Value} (h : AtRel l m l.length v) : v = .int .i64 (atN l m) := by
  rcases h with ⟨e, h⟩ | ⟨j, e, h1, h2, h3⟩
  · rw [e, atN_none (fun j hj => h j hj.2.1 ⟨(hj.2.2 j hj.2.1).2 rfl, hj.1⟩)]
  · rw [e, atN_uniq ⟨h2, h1, h3⟩]
theorem atRel_no {l : List It} {m : Int} {i : Nat} {v : Value} (h : AtRel l m i v) (hn : ¬ ((l.getD i default).mark = m ∧ m ≠ 0)) : AtRel l m (i + 1) v := by
  rcases h with ⟨e, h⟩ | ⟨j, e, h1, h2, h3⟩
  · refine .inl ⟨e, fun p hp => ?_⟩
    by_cases e2 : p = i
    · subst e2; exact hn
    · exact h p (by omega)
  · refine .inr ⟨j, e, by omega, h2, fun p hp => ?_⟩
    by_cases e2 : p = i
    · subst e2
      exact ⟨fun h => absurd ⟨h, h2⟩ hn, fun h => by omega⟩
    · exact h3 p (by omega)
theorem atRel_first {l : List It} {m : Int} {i : Nat} (h : ∀ p, p < i → ¬ ((l.getD p default).mark = m ∧ m ≠ 0)) (hm : (l.getD i default).mark = m) (h0 : m ≠ 0) : AtRel l m (i + 1) (.int .i64 i) := by
  refine .inr ⟨i, rfl, by omega, h0, fun p hp => ?_⟩
  by_cases e : p = i
  · subst e; exact ⟨fun _ => rfl, fun _ => hm⟩
  · exact ⟨fun h1 => (h p (by omega) ⟨h1, h0⟩).elim, fun h1 => absurd h1 e⟩
theorem atN_twice {l : List It} {m : Int} {i j : Nat} (hi : i < l.length) (hj : j < i) (h1 : (l.getD i default).mark = m) (h2 : (l.getD j default).mark = m) : atN l m = -1 :=
  atN_none fun k hk => by
    have := (hk.2.2 i hi).1 h1
    have := (hk.2.2 j (by omega)).1 h2
    omega

set_option maxRecDepth 100000 in
theorem at_any (l : List It) (A : Option Addr) (n c : Nat) (m : Int) (w : World) (hr : Reads w w.heap.size 5 A n (cellsT l)) (hn : n ≤ 1000000) :
    Calls Try.prog 55 #[.slice A n c, .int .i64 m] w fun e w' => e = .returned (.int .i64 (atN l m)) ∧ w = w' := by
  have hl : n = l.length := by have := hr.1; rw [cellsT_length] at this; omega
  have HL := Lib.hid hl
  clear hl
  go_enter Try.func55, Try.ntmps55
  go_wp2_with fail
  go_loop [5, 6] (fun v i => ∃ k : Nat, k ≤ n ∧ i = .int .i64 k ∧ AtRel l m k v) (fun _ i => n - (intOf i).toNat)
  case atStart => exact ⟨0, by omega, rfl, .inl ⟨rfl, fun p hp => absurd hp (by omega)⟩⟩
  case round =>
    obtain ⟨k, hk, rfl, hA⟩ := hrel
    by_cases hlt : k < n
    · obtain ⟨b, off, rfl, hb, hc⟩ := hr.at5 hlt
      have h0 := (hc k hlt).1
      have z0 : (0 : Int) ≤ (k : Int) := by omega
      have z1 : (k : Int) < (n : Int) := by omega
      clear hc hr
      by_cases hm : (l.getD k default).mark = m ∧ m ≠ 0
      · obtain ⟨hm1, hm2⟩ := hm
        have q1 : (m == m) = true := by simp
        have q2 : (m != 0) = true := by simpa using hm2
        rw [hm1] at h0
        rcases hA with ⟨rfl, hA⟩ | ⟨j, rfl, hj, _, hA⟩
        · have hnext := atRel_first hA hm1 hm2
          have HN := Lib.hid hnext
          clear hnext hA hm1 hm2
          go_wp2_with fail
          go_round
          case rel => exact ⟨k + 1, by omega, by go_num, HN.out⟩
          case measure => simp [intOf] <;> omega
        · have hres := atN_twice (l := l) (m := m) (i := k) (j := j) (by have := HL.out; omega) hj hm1 ((hA j hj).2 rfl)
          have HN := Lib.hid hres
          have z2 : (0 : Int) ≤ (j : Int) := by omega
          clear hres hA hm1 hm2
          go_wp2_with fail
          go_ret
          exact ⟨by rw [HN.out]; rfl, rfl⟩
      · have hnext := atRel_no hA hm
        have HN := Lib.hid hnext
        clear hnext hA
        by_cases hm1 : (l.getD k default).mark = m
        · have hm2 : m = 0 := by
            by_cases h : m = 0
            · exact h
            · exact absurd ⟨hm1, h⟩ hm
          rw [hm1, hm2] at h0
          subst hm2
          clear hm hm1
          go_wp2_with fail
          go_round
          case rel => exact ⟨k + 1, by omega, by go_num, HN.out⟩
          case measure => simp [intOf] <;> omega
        · have q1 : ((l.getD k default).mark == m) = false := by simpa using hm1
          generalize (l.getD k default).mark = q at *
          clear hm hm1
          go_wp2_with fail
          go_round
          case rel => exact ⟨k + 1, by omega, by go_num, HN.out⟩
          case measure => simp [intOf] <;> omega
    · obtain rfl : k = n := by omega
      clear hr
      have hfin : u5 = .int .i64 (atN l m) := atRel_end (by rw [← HL.out]; exact hA)
      have HF := Lib.hid hfin
      clear hfin hA
      go_wp2_with fail
      go_ret
      exact ⟨by rw [← HF.out]; rfl, rfl⟩
end Go.Proofs.Ytgalkidhgjgbhaa
