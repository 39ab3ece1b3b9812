/-
  The reference's word and Write of a record.
-/
import Derived.Test.YtlpakmlpnjfcoaaPutPlain
import Derived.Test.YtlpakmlpnjfcoaaWalkAt
namespace Go.Proofs.Ytlpakmlpnjfcoaa
open Go.RowKit
set_option linter.unusedVariables false

theorem own_mono {w : World} {B B' : Nat} {e : TypeId} {size n : Nat} {v : Value} {xs : List Value} (h : w.ownsRow B e size v n xs) (hb : B' ≤ B) : w.ownsRow B' e size v n xs :=
  ⟨h.1, h.2.imp id fun ⟨g, cap, cur, a, b, r⟩ => ⟨g, cap, cur, a, Nat.le_trans hb b, r⟩⟩

set_option maxRecDepth 100000 in
theorem refword_any (N : Nat) (hN : N < 18446744073709551616) (width : Nat) (hw : width ≤ 8) (big : Bool) (w : World) :
    Calls Try.prog 54 #[.int .u64 N, .int .i64 width, .bool big] w (MakesBytes (partN N width big) w) := by
  cases big
  · go_enter Try.func54, Try.ntmps54
    go_wp2_with fail
    refine (bytes_any N hN width hw w).mono ?_
    rintro e w1 ⟨v, rfl, hown, hB⟩
    go_wp2_with fail
    go_ret
    exact ⟨_, rfl, hown, hB⟩
  · go_enter Try.func54, Try.ntmps54
    go_wp2_with fail
    refine (bytes_any N hN width hw w).mono ?_
    rintro e w1 ⟨v, rfl, hown, hB⟩
    rw [bytesN_length] at hown
    obtain ⟨A, c, rfl, hr⟩ := own_reads hown
    go_wp2_with fail
    refine (turn_any (bytesN N width) A width c w1 hr (by omega)).mono ?_
    rintro e w2 ⟨v2, rfl, hown2, hB2⟩
    have hbase : w2.ownsRow w.heap.size 5 1 v2 (bytesN N width).reverse.length (bytesV (bytesN N width).reverse) := own_mono hown2 hB.size
    have hBw := hB.trans (hB2.mono hB.size)
    clear hown hr hB hB2 hown2
    go_wp2_with fail
    go_ret
    exact ⟨_, rfl, hbase, hBw⟩
end Go.Proofs.Ytlpakmlpnjfcoaa
