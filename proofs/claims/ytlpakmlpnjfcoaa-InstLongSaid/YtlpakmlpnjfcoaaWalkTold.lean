/-
  The walk of strainerlaw02.told: are instructions the document's?
-/
import Derived.Test.YtlpakmlpnjfcoaaData
namespace Go.Proofs.Ytlpakmlpnjfcoaa
open Go.RowKit
set_option linter.unusedVariables false

theorem vals_ne (a b c d a' b' c' d' : Nat) (h : (⟨a, b, c, d⟩ : I) ≠ ⟨a', b', c', d'⟩) : ¬ (a = a' ∧ b = b' ∧ c = c' ∧ d = d') := fun ⟨h1, h2, h3, h4⟩ => h (by subst h1 h2 h3 h4; rfl)
def SameI (l l' : List I) : Bool := decide (l = l')
set_option maxRecDepth 100000 in
set_option maxHeartbeats 2000000 in
theorem told_yes (l : List I) (A A' : Option Addr) (n c c' : Nat) (w : World) (hr : Reads w w.heap.size 4 A n (cellsI l)) (hr' : Reads w w.heap.size 4 A' n (cellsI l)) (hn : n ≤ 1000000) :
    Calls Try.prog 47 #[.slice A n c, .slice A' n c'] w fun e w' => e = .returned (.bool true) ∧ ∃ q, w' = w.drewN q := by
  go_enter Try.func47, Try.ntmps47
  go_wp2_with fail
  go_loopw [5] (fun i wr => ∃ k : Nat, k ≤ n ∧ i = .int .i64 k ∧ ∃ q, wr = w.drewN q) (fun i _ => n - (intOf i).toNat)
  case atStart => exact ⟨0, by omega, rfl, 0, rfl⟩
  case round =>
    obtain ⟨k, hk, rfl, q, rfl⟩ := hrel
    by_cases hlt : k < n
    · obtain ⟨b, off, rfl, hb, h0, h1, h2, h3⟩ := hr.at4 hlt
      obtain ⟨b2, off2, rfl, hb2, g0, g1, g2, g3⟩ := hr'.at4 hlt
      generalize l.getD k default = x at *
      obtain ⟨xc, xt, xf, xk⟩ := x
      simp only at h0 h1 h2 h3 g0 g1 g2 g3
      clear hr hr'
      have hz0 : (0 : Int) ≤ (k : Int) := Int.natCast_nonneg _
      have hz1 : (k : Int) < (n : Int) := by omega
      go_wp2_with fail
      go_quiet (fail)
      go_wp2_with fail
      go_roundw
      case rel => exact ⟨k + 1, by omega, by go_num, _, rfl⟩
      case measure => simp [intOf] <;> omega
    · obtain rfl : k = n := by omega
      go_wp2_with fail
      go_ret
      exact ⟨rfl, q, rfl⟩
end Go.Proofs.Ytlpakmlpnjfcoaa
