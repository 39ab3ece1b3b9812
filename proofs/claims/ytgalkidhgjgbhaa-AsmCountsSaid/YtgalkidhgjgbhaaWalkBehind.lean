/-
  The walks of strainerref21.behind and place.
-/
import Derived.Test.YtgalkidhgjgbhaaAsmData
namespace Go.Proofs.Ytgalkidhgjgbhaa
open Go.RowKit
set_option linter.unusedVariables false

/-- The first instruction's place from p on. -/
structure Behind (l : List It) (p q : Nat) : Prop where
  le : p ≤ q
  hi : q ≤ l.length
  marks : ∀ j, p ≤ j → j < q → (l.getD j default).mark ≠ 0
  ends : q < l.length → (l.getD q default).mark = 0
/-- The place of a mark. -/
structure Placed (l : List It) (m : Int) (q : Nat) : Prop where
  hi : q ≤ l.length
  not : ∀ j, j < q → (l.getD j default).mark ≠ m
  ends : q < l.length → (l.getD q default).mark = m

set_option maxRecDepth 100000 in
theorem behind_any (l : List It) (A : Option Addr) (n c : Nat) (p : Nat) (w : World) (hr : Reads w w.heap.size 5 A n (cellsT l)) (hn : n ≤ 1000000) (hp : p ≤ n) :
    Calls Try.prog 71 #[.slice A n c, .int .i64 p] w fun e w' => (∃ q : Nat, e = .returned (.int .i64 q) ∧ Behind l p q) ∧ w = w' := by
  have hl : n = l.length := by have := hr.1; rw [cellsT_length] at this; omega
  have HL := Lib.hid hl
  clear hl
  go_enter Try.func71, Try.ntmps71
  go_wp2_with fail
  go_loop [1] (fun i => ∃ k : Nat, p ≤ k ∧ k ≤ n ∧ i = .int .i64 k ∧ ∀ j, p ≤ j → j < k → (l.getD j default).mark ≠ 0) (fun i => n - (intOf i).toNat)
  case atStart => exact ⟨p, Nat.le_refl _, hp, rfl, fun j h1 h2 => absurd h1 (by omega)⟩
  case round =>
    obtain ⟨k, hpk, hk, rfl, hA⟩ := hrel
    have HA := Lib.hid hA
    clear hA
    by_cases hlt : k < n
    · obtain ⟨b, off, rfl, hb, hc⟩ := hr.at5 hlt
      have h0 := (hc k hlt).1
      have z0 : (0 : Int) ≤ (k : Int) := by omega
      have z1 : (k : Int) < (n : Int) := by omega
      clear hc hr
      by_cases hm : (l.getD k default).mark = 0
      · have HM := Lib.hid hm
        rw [hm] at h0
        clear hm
        go_wp2_with fail
        go_ret
        exact ⟨⟨k, rfl, hpk, by have := HL.out; omega, HA.out, fun _ => HM.out⟩, rfl⟩
      · have HM := Lib.hid hm
        have q1 : ((l.getD k default).mark != 0) = true := by simpa using hm
        generalize (l.getD k default).mark = m at h0 q1
        clear hm
        go_wp2_with fail
        go_round
        case rel =>
          refine ⟨k + 1, by omega, by omega, by go_num, fun j h1 h2 => ?_⟩
          by_cases e : j = k
          · subst e; exact HM.out
          · exact HA.out j h1 (by omega)
        case measure => simp [intOf] <;> omega
    · have z1 : ¬ (k : Int) < (n : Int) := by omega
      clear hr
      go_wp2_with fail
      go_ret
      exact ⟨⟨k, rfl, hpk, by have := HL.out; omega, HA.out, fun h => by have := HL.out; omega⟩, rfl⟩

set_option maxRecDepth 100000 in
theorem place_any (l : List It) (A : Option Addr) (n c : Nat) (m : Int) (w : World) (hr : Reads w w.heap.size 5 A n (cellsT l)) (hn : n ≤ 1000000) :
    Calls Try.prog 72 #[.slice A n c, .int .i64 m] w fun e w' => (∃ q : Nat, e = .returned (.int .i64 q) ∧ Placed l m q) ∧ w = w' := by
  have hl : n = l.length := by have := hr.1; rw [cellsT_length] at this; omega
  have HL := Lib.hid hl
  clear hl
  go_enter Try.func72, Try.ntmps72
  go_wp2_with fail
  go_loop [5] (fun i => ∃ k : Nat, k ≤ n ∧ i = .int .i64 k ∧ ∀ j, j < k → (l.getD j default).mark ≠ m) (fun i => n - (intOf i).toNat)
  case atStart => exact ⟨0, by omega, rfl, fun j h2 => absurd h2 (by omega)⟩
  case round =>
    obtain ⟨k, hk, rfl, hA⟩ := hrel
    have HA := Lib.hid hA
    clear hA
    by_cases hlt : k < n
    · obtain ⟨b, off, rfl, hb, hc⟩ := hr.at5 hlt
      have h0 := (hc k hlt).1
      have z0 : (0 : Int) ≤ (k : Int) := by omega
      have z1 : (k : Int) < (n : Int) := by omega
      clear hc hr
      by_cases hm : (l.getD k default).mark = m
      · have HM := Lib.hid hm
        rw [hm] at h0
        have q1 : (m == m) = true := by simp
        clear hm
        go_wp2_with fail
        go_ret
        exact ⟨⟨k, rfl, by have := HL.out; omega, HA.out, fun _ => HM.out⟩, rfl⟩
      · have HM := Lib.hid hm
        have q1 : ((l.getD k default).mark == m) = false := by simpa using hm
        generalize (l.getD k default).mark = m' at h0 q1
        clear hm
        go_wp2_with fail
        go_round
        case rel =>
          refine ⟨k + 1, by omega, by go_num, fun j h2 => ?_⟩
          by_cases e : j = k
          · subst e; exact HM.out
          · exact HA.out j (by omega)
        case measure => simp [intOf] <;> omega
    · have z1 : ¬ (k : Int) < (n : Int) := by omega
      clear hr
      go_wp2_with fail
      go_ret
      exact ⟨⟨n, rfl, by have := HL.out; omega, fun j hj => HA.out j (by omega), fun h => by have := HL.out; omega⟩, rfl⟩
end Go.Proofs.Ytgalkidhgjgbhaa
