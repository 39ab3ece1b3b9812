/-
  The walks of the reference's Turn, Number, Bytes, and of same.
-/
import Derived.Test.YtlpakmlpnjfcoaaWord01
import Derived.Test.YtlpakmlpnjfcoaaWalkWrite
namespace Go.Proofs.Ytlpakmlpnjfcoaa
open Go.RowKit
set_option linter.unusedVariables false

theorem drop_rev (l : List Nat) (m : Nat) (hm : m < l.length) : (l.drop m).reverse = (l.drop (m + 1)).reverse ++ [l.getD m 0] := by
  rw [List.drop_eq_getElem_cons hm, List.reverse_cons]
  congr 2
  simp [hm]

set_option maxRecDepth 100000 in
theorem turn_any (l : List Nat) (A : Option Addr) (n c : Nat) (w : World) (hr : Reads w w.heap.size 1 A n (bytesV l)) (hn : n ≤ 1000000) :
    Calls Try.prog 31 #[.slice A n c] w (MakesBytes l.reverse w) := by
  obtain ⟨i0, hi0, hz0, hz1, hz2⟩ := info_parts info_u8
  have hl : n = l.length := by have := hr.1; rw [bytesV_length] at this; omega
  have Hl := Lib.hid hl
  clear hl
  go_enter Try.func31, Try.ntmps31
  go_wp2_with fail
  go_loopw [3, 4] (fun v i wr => ∃ m : Nat, m ≤ n ∧ i = .int .i64 ((m : Int) - 1) ∧ wr.ownsRow w.heap.size 5 1 v (n - m) (bytesV (l.drop m).reverse) ∧ Below w.heap.size w wr) (fun _ i _ => (intOf i + 1).toNat)
  case atStart =>
    refine ⟨n, by omega, rfl, ?_, Below.refl _ _⟩
    have e : l.drop n = [] := List.drop_eq_nil_of_le (by have := Hl.out; omega)
    rw [e, Nat.sub_self]
    exact World.ownsRow_nil _ _ _ _
  case round =>
    obtain ⟨m, hm, rfl, hown, hB⟩ := hrel
    rcases m with _ | m
    · rw [show (((0 : Nat) : Int) - 1) = (-1 : Int) from rfl]
      have hfin : (l.drop 0).reverse = l.reverse := rfl
      go_wp2_with fail
      go_ret
      refine ⟨_, rfl, ?_, hB⟩
      rw [List.length_reverse, ← Hl.out]
      exact hown
    · rw [show (((m + 1 : Nat) : Int) - 1) = (m : Int) from by omega]
      obtain ⟨b, off, rfl, hb, hc⟩ := (hr.below hB).at1 (k := m) (by omega)
      have hcm := hc m (by omega)
      have hstep := drop_rev l m (by have := Hl.out; omega)
      generalize l.getD m 0 = x at *
      have HS := Lib.hid hstep
      clear hstep hc
      go_wp2_with (at_builtin; refine wpList_append_lit rfl (.tmp 12) (.tmp 17) 31 rfl w.heap.size 5 i0 _ 1 1 Try.underlying31 hi0 hz0 hz1 hz2 rfl (by omega) _ _ _ _ rfl hown _ 1 1 rfl _ rfl rfl (by simp [Value.oneCell']) (by simp only [maxLen]; omega) (by omega) hB.size ?_; intro v' w1 hown1 hB1 hs1)
      go_roundw
      case rel =>
        refine ⟨m, by omega, by go_num, ?_, hB.trans hB1⟩
        rw [HS.out, bytesV_append, show n - m = n - (m + 1) + 1 by omega]
        exact hown1
      case measure => simp [intOf] <;> omega

set_option maxRecDepth 100000 in
theorem number_any (l : List Nat) (hok : ∀ b ∈ l, b < 256) (A : Option Addr) (n c : Nat) (w : World) (hr : Reads w w.heap.size 1 A n (bytesV l)) (hn : n ≤ 8) :
    Calls Try.prog 32 #[.slice A n c] w fun e w' => e = .returned (.int .u64 (valBE l.reverse : Nat)) ∧ w = w' := by
  have hl : n = l.length := by have := hr.1; rw [bytesV_length] at this; omega
  have Hl := Lib.hid hl
  clear hl
  go_enter Try.func32, Try.ntmps32
  go_wp2_with fail
  go_loop [3, 4] (fun v i => ∃ m : Nat, m ≤ n ∧ i = .int .i64 ((m : Int) - 1) ∧ v = .int .u64 (valBE (l.drop m).reverse : Nat)) (fun _ i => (intOf i + 1).toNat)
  case atStart =>
    refine ⟨n, by omega, rfl, ?_⟩
    have e : l.drop n = [] := List.drop_eq_nil_of_le (by have := Hl.out; omega)
    rw [e]; rfl
  case round =>
    obtain ⟨m, hm, rfl, rfl⟩ := hrel
    rcases m with _ | m
    · rw [show (((0 : Nat) : Int) - 1) = (-1 : Int) from rfl, List.drop_zero]
      go_wp2_with fail
      go_ret
      exact ⟨rfl, rfl⟩
    · rw [show (((m + 1 : Nat) : Int) - 1) = (m : Int) from by omega]
      obtain ⟨b, off, rfl, hb, hc⟩ := hr.at1 (k := m) (by omega)
      have hcm := hc m (by omega)
      have hml : m < l.length := by have := Hl.out; omega
      have hstep := drop_rev l m hml
      have hx : l.getD m 0 < 256 := by
        have : l.getD m 0 = l[m] := by simp [hml]
        rw [this]; exact hok _ (List.getElem_mem hml)
      generalize l.getD m 0 = x at *
      have hv : valBE (l.drop (m + 1)).reverse < 72057594037927936 := by
        have h1 := valBE_cons_lt (l.drop (m + 1)).reverse (fun b hb => hok b (List.mem_of_mem_drop (by simpa using hb)))
        have h2 : (l.drop (m + 1)).reverse.length ≤ 7 := by simp; have := Hl.out; omega
        have h3 : 256 ^ (l.drop (m + 1)).reverse.length ≤ 256 ^ 7 := Nat.pow_le_pow_right (by omega) h2
        have h4 : 256 ^ 7 = 72057594037927936 := by decide
        omega
      have hval : valBE (l.drop m).reverse = 256 * valBE (l.drop (m + 1)).reverse + x := by rw [hstep, valBE_snoc]
      generalize valBE (l.drop (m + 1)).reverse = v at *
      have HV := Lib.hid hval
      clear hval hstep hc hml
      go_wp2_with fail
      go_round
      case rel => exact ⟨m, by omega, by go_num, by rw [HV.out]; go_num⟩
      case measure => simp [intOf] <;> omega

def bytesN (n width : Nat) : List Nat := (List.range width).map fun k => n / 256 ^ k % 256
theorem bytesN_succ (n k : Nat) : bytesN n (k + 1) = bytesN n k ++ [n / 256 ^ k % 256] := by simp [bytesN, List.range_succ]
theorem bytesN_length (n k : Nat) : (bytesN n k).length = k := by simp [bytesN]

set_option maxRecDepth 100000 in
theorem bytes_any (N : Nat) (hN : N < 18446744073709551616) (width : Nat) (hw : width ≤ 8) (w : World) :
    Calls Try.prog 37 #[.int .u64 N, .int .i64 width] w (MakesBytes (bytesN N width) w) := by
  obtain ⟨i0, hi0, hz0, hz1, hz2⟩ := info_parts info_u8
  go_enter Try.func37, Try.ntmps37
  go_wp2_with fail
  go_loopw [0, 5, 6] (fun nv v i wr => ∃ k : Nat, k ≤ width ∧ i = .int .i64 k ∧ nv = .int .u64 ((N / 256 ^ k : Nat) : Int) ∧ wr.ownsRow w.heap.size 5 1 v k (bytesV (bytesN N k)) ∧ Below w.heap.size w wr) (fun _ _ i _ => width - (intOf i).toNat)
  case atStart => exact ⟨0, by omega, rfl, by simp, World.ownsRow_nil _ _ _ _, Below.refl _ _⟩
  case round =>
    obtain ⟨k, hk, rfl, rfl, hown, hB⟩ := hrel
    by_cases hlt : k < width
    · have hstep := bytesN_succ N k
      have hdiv : N / 256 ^ (k + 1) = N / 256 ^ k / 256 := by rw [Nat.pow_succ, Nat.div_div_eq_div_mul]
      have hb : N / 256 ^ k < 18446744073709551616 := Nat.lt_of_le_of_lt (Nat.div_le_self _ _) hN
      generalize N / 256 ^ k = x at *
      have HS := Lib.hid hstep
      have HD := Lib.hid hdiv
      clear hstep hdiv hN
      go_wp2_with (at_builtin; refine wpList_append_lit rfl (.tmp 12) (.tmp 16) 31 rfl w.heap.size 5 i0 _ 1 1 Try.underlying31 hi0 hz0 hz1 hz2 rfl (by omega) _ _ _ _ rfl hown _ 1 1 rfl _ rfl rfl (by simp [Value.oneCell']) (by simp only [maxLen]; omega) (by omega) hB.size ?_; intro v' w1 hown1 hB1 hs1)
      go_roundw
      case rel =>
        refine ⟨k + 1, by omega, by go_num, by rw [HD.out]; simp, ?_, hB.trans hB1⟩
        rw [HS.out, bytesV_append]
        simpa [bytesV] using hown1
      case measure => simp [intOf] <;> omega
    · obtain rfl : k = width := by omega
      clear hN
      go_wp2_with fail
      go_ret
      refine ⟨_, rfl, ?_, hB⟩
      rw [bytesN_length]
      exact hown
end Go.Proofs.Ytlpakmlpnjfcoaa
