/-
  The walk of strainerref02.Read: the document's instructions of bytes.
-/
import Derived.Test.YtlpakmlpnjfcoaaWalkIRead
namespace Go.Proofs.Ytlpakmlpnjfcoaa
open Go.RowKit
set_option linter.unusedVariables false

theorem info_refinst2 : (Try.prog.info? 93).map (fun i => (i.zero, i.size, i.bytes)) = some (some (.agg #[.int .u16 0, .int .u8 0, .int .u8 0, .int .u32 0]), 4, 8) := by kernel_rfl
def TellsRefRead (b : List Nat) (w : World) (e : Ending) (w' : World) : Prop :=
  ∃ v, e = .returned (.tuple #[v, .int .i64 (readE b.length : Nat)]) ∧ w'.ownsRow w.heap.size 93 4 v (readL b).length (cellsI (readL b)) ∧ Below w.heap.size w w'

theorem idx_fact (k m : Nat) (j : Int) (jn : Nat) (e : j = (jn : Int)) (hlt : k < m) (hm : m ≤ 4096) (hj : jn < 8) : IntKind.i64.wrap (8 * (k : Int) + j) = 8 * (k : Int) + j ∧ (0 : Int) ≤ 8 * (k : Int) + j ∧ 8 * (k : Int) + j < 8 * (m : Int) ∧ (8 * (k : Int) + j).toNat = 8 * k + jn := by
  subst e
  exact ⟨IntWalk.i64_in _ (by omega), by omega, by omega, by omega⟩
theorem code_fact (a b : Nat) (ha : a < 256) (hb : b < 256) : IntKind.u16.wrap (a : Int) = a ∧ IntKind.u16.wrap (b : Int) = b ∧ IntKind.u16.wrap (256 * (b : Int)) = 256 * b ∧ IntKind.u16.wrap ((a : Int) + 256 * b) = (a : Int) + 256 * b := by
  simp only [IntKind.wrap, IntKind.bits, IntKind.signed]
  simp
  omega
theorem k_fact (a b c d : Nat) (ha : a < 256) (hb : b < 256) (hc : c < 256) (hd : d < 256) : IntKind.u32.wrap (a : Int) = a ∧ IntKind.u32.wrap (b : Int) = b ∧ IntKind.u32.wrap (c : Int) = c ∧ IntKind.u32.wrap (d : Int) = d ∧ IntKind.u32.wrap (256 * (d : Int)) = 256 * d ∧ IntKind.u32.wrap ((c : Int) + 256 * d) = (c : Int) + 256 * d ∧
    IntKind.u32.wrap (256 * ((c : Int) + 256 * d)) = 256 * ((c : Int) + 256 * d) ∧ IntKind.u32.wrap ((b : Int) + 256 * ((c : Int) + 256 * d)) = (b : Int) + 256 * ((c : Int) + 256 * d) ∧ IntKind.u32.wrap (256 * ((b : Int) + 256 * ((c : Int) + 256 * d))) = 256 * ((b : Int) + 256 * ((c : Int) + 256 * d)) ∧
    IntKind.u32.wrap ((a : Int) + 256 * ((b : Int) + 256 * ((c : Int) + 256 * d))) = (a : Int) + 256 * ((b : Int) + 256 * ((c : Int) + 256 * d)) := by
  simp only [IntKind.wrap, IntKind.bits, IntKind.signed]
  simp
  omega
set_option maxRecDepth 100000 in
theorem rread_no (l : List Nat) (A : Option Addr) (n c : Nat) (w : World) (hl : n = l.length) (hn : n ≤ 1000000) (he : readE n ≠ 0) :
    Calls Try.prog 46 #[.slice A n c] w (TellsRefRead l w) := by
  have hg : readL l = [] := by unfold readL; rw [if_neg (by rw [← hl]; exact he)]
  have HL := Lib.hid hl
  have HG := Lib.hid hg
  clear hl hg
  by_cases h1 : 32768 < n
  · have h2 : readE n = 3 := by unfold readE; rw [if_pos h1]
    have h1' : (32768 : Int) < (n : Int) := by omega
    have HX := Lib.hid h2
    clear h2 he
    go_enter Try.func46, Try.ntmps46
    go_wp2_with fail
    go_ret2
    refine ⟨.slice none 0 0, ?_, ?_, Below.refl _ _⟩
    · rw [← HL.out, HX.out]; rfl
    · rw [HG.out]; exact World.ownsRow_nil _ _ _ _
  · have h3 : n % 8 ≠ 0 := by unfold readE at he; rw [if_neg h1] at he; split at he <;> omega
    have h2 : readE n = 2 := by unfold readE; rw [if_neg h1, if_pos h3]
    have h1' : ¬ (32768 : Int) < (n : Int) := by omega
    have h4 : ((n : Int) % 8 != 0) = true := by simp; omega
    have HX := Lib.hid h2
    clear h2 he h3
    go_enter Try.func46, Try.ntmps46
    go_wp2_with fail
    go_ret2
    refine ⟨.slice none 0 0, ?_, ?_, Below.refl _ _⟩
    · rw [← HL.out, HX.out]; rfl
    · rw [HG.out]; exact World.ownsRow_nil _ _ _ _

set_option maxRecDepth 100000 in
set_option maxHeartbeats 4000000 in
theorem rread_yes (l : List Nat) (hok : ∀ b ∈ l, b < 256) (A : Option Addr) (m c : Nat) (w : World) (hr : Reads w w.heap.size 1 A (8 * m) (bytesV l)) (hm : m ≤ 4096) :
    Calls Try.prog 46 #[.slice A (8 * m) c] w (TellsRefRead l w) := by
  obtain ⟨i0, hi0, hz0, hz1, hz2⟩ := info_parts info_refinst2
  have hl : 8 * m = l.length := by have := hr.1; rw [bytesV_length] at this; omega
  have he : readE l.length = 0 := by unfold readE; rw [if_neg (by omega), if_neg (by omega)]
  have hg : readL l = readUp l m := by unfold readL readN; rw [if_pos he, show l.length / 8 = m by omega]
  have HL := Lib.hid hl
  have HG := Lib.hid hg
  have HE := Lib.hid he
  have h1' : ¬ (32768 : Int) < ((8 * m : Nat) : Int) := by omega
  have h2' : (((8 * m : Nat) : Int) % 8 != 0) = false := by simp
  clear hl hg he
  go_enter Try.func46, Try.ntmps46
  go_wp2_with fail
  go_loopw [4, 5] (fun v i wr => ∃ k : Nat, k ≤ m ∧ i = .int .i64 ((8 * k : Nat) : Int) ∧ wr.ownsRow w.heap.size 93 4 v k (cellsI (readUp l k)) ∧ Below w.heap.size w wr) (fun _ i _ => 8 * m - (intOf i).toNat)
  case atStart => exact ⟨0, by omega, rfl, World.ownsRow_nil _ _ _ _, Below.refl _ _⟩
  case round =>
    obtain ⟨k, hk, rfl, hown, hB⟩ := hrel
    by_cases hlt : k < m
    · obtain ⟨b, off, rfl, hb, hc⟩ := (hr.below hB).at1 (k := 8 * k) (by omega)
      have hstep := readUp_succ l k
      have hin : instAt l (8 * k) = ⟨l.getD (8 * k) 0 + 256 * l.getD (8 * k + 1) 0, l.getD (8 * k + 2) 0, l.getD (8 * k + 3) 0, l.getD (8 * k + 4) 0 + 256 * (l.getD (8 * k + 5) 0 + 256 * (l.getD (8 * k + 6) 0 + 256 * l.getD (8 * k + 7) 0))⟩ := rfl
      rw [hin] at hstep
      have c0 := hc (8 * k) (by omega)
      have c1 := hc (8 * k + 1) (by omega)
      have c2 := hc (8 * k + 2) (by omega)
      have c3 := hc (8 * k + 3) (by omega)
      have c4 := hc (8 * k + 4) (by omega)
      have c5 := hc (8 * k + 5) (by omega)
      have c6 := hc (8 * k + 6) (by omega)
      have c7 := hc (8 * k + 7) (by omega)
      have b0 := getD_lt hok (8 * k)
      have b1 := getD_lt hok (8 * k + 1)
      have b2 := getD_lt hok (8 * k + 2)
      have b3 := getD_lt hok (8 * k + 3)
      have b4 := getD_lt hok (8 * k + 4)
      have b5 := getD_lt hok (8 * k + 5)
      have b6 := getD_lt hok (8 * k + 6)
      have b7 := getD_lt hok (8 * k + 7)
      generalize l.getD (8 * k) 0 = x0 at *
      generalize l.getD (8 * k + 1) 0 = x1 at *
      generalize l.getD (8 * k + 2) 0 = x2 at *
      generalize l.getD (8 * k + 3) 0 = x3 at *
      generalize l.getD (8 * k + 4) 0 = x4 at *
      generalize l.getD (8 * k + 5) 0 = x5 at *
      generalize l.getD (8 * k + 6) 0 = x6 at *
      generalize l.getD (8 * k + 7) 0 = x7 at *
      have HS := Lib.hid hstep
      clear hstep hin hc hr
      go_wp2_with fail
      have n0 : (0 : Int) ≤ 8 * (k : Int) := by omega
      have n1 : 8 * (k : Int) < 8 * (m : Int) := by omega
      have n2 : (8 * (k : Int)).toNat = 8 * k := by omega
      have q1 := idx_fact k m 1 1 rfl hlt (by omega) (by omega)
      have q2 := idx_fact k m 2 2 rfl hlt (by omega) (by omega)
      have q3 := idx_fact k m 3 3 rfl hlt (by omega) (by omega)
      have q4 := idx_fact k m 4 4 rfl hlt (by omega) (by omega)
      have q5 := idx_fact k m 5 5 rfl hlt (by omega) (by omega)
      have q6 := idx_fact k m 6 6 rfl hlt (by omega) (by omega)
      have q7 := idx_fact k m 7 7 rfl hlt (by omega) (by omega)
      obtain ⟨q1a, q1b, q1c, q1d⟩ := q1
      obtain ⟨q2a, q2b, q2c, q2d⟩ := q2
      obtain ⟨q3a, q3b, q3c, q3d⟩ := q3
      obtain ⟨q4a, q4b, q4c, q4d⟩ := q4
      obtain ⟨q5a, q5b, q5c, q5d⟩ := q5
      obtain ⟨q6a, q6b, q6c, q6d⟩ := q6
      obtain ⟨q7a, q7b, q7c, q7d⟩ := q7
      have ag : u4.ownBlock ≠ some b := fun e => by have := (hown.lt b e).1; omega
      have hsz := hB.size
      have v1 := code_fact x0 x1 b0 b1
      have v2 := k_fact x4 x5 x6 x7 b4 b5 b6 b7
      obtain ⟨v1a, v1b, v1c, v1d⟩ := v1
      obtain ⟨v2a, v2b, v2c, v2d, v2e, v2f, v2g, v2h, v2i, v2j⟩ := v2
      go_region_held3 (fun w' => w'.cell? ⟨b, off + 8 * k, none⟩ = some (.int .u8 x0) ∧ w'.cell? ⟨b, off + (8 * k + 1), none⟩ = some (.int .u8 x1) ∧ w'.cell? ⟨b, off + (8 * k + 2), none⟩ = some (.int .u8 x2) ∧ w'.cell? ⟨b, off + (8 * k + 3), none⟩ = some (.int .u8 x3)
            ∧ w'.cell? ⟨b, off + (8 * k + 4), none⟩ = some (.int .u8 x4) ∧ w'.cell? ⟨b, off + (8 * k + 5), none⟩ = some (.int .u8 x5) ∧ w'.cell? ⟨b, off + (8 * k + 6), none⟩ = some (.int .u8 x6) ∧ w'.cell? ⟨b, off + (8 * k + 7), none⟩ = some (.int .u8 x7))
        (first
          | go_keep
          | (go_split_ands
             refine ⟨?_, ?_, ?_, ?_, ?_, ?_, ?_, ?_⟩ <;> (rw [hgrow.cell_far _ (by simp; omega) (Ne.symm ag)]; assumption)))
        ((refine step_append_lies _ (by rfl) _ _ _ (by rfl) w.heap.size 93 i0 _ 4 8 Try.underlying30 hi0 hz0 hz1 hz2 rfl (by omega) u4 k (cellsI (readUp l k)) (by rfl) ((hown.alloc _).drew)
            ⟨wr.heap.size, 0, none⟩ 1 1 [.int .u16 ((x0 : Int) + 256 * (x1 : Int)), .int .u8 x2, .int .u8 x3, .int .u32 ((x4 : Int) + 256 * ((x5 : Int) + 256 * ((x6 : Int) + 256 * (x7 : Int))))] (by rfl) (by rfl) (World.news_of_block (cs := #[.int .u16 ((x0 : Int) + 256 * (x1 : Int)), .int .u8 x2, .int .u8 x3, .int .u32 ((x4 : Int) + 256 * ((x5 : Int) + 256 * ((x6 : Int) + 256 * (x7 : Int))))]) (t := 93) (fr := (0, 0)) (heap_alloc_new wr _)) (by simp [Value.oneCell'])
            (by omega) (by simp only [maxLen]; omega) (by omega) (by simp; omega) (wr.heap.size + 1) (by simp) ?_; intro gg cap w1 hown1 hgrow hat hlt1))
      go_wp2_with fail
      go_roundw
      case rel =>
        refine ⟨k + 1, by omega, by go_num, ?_, below_held hB hsz hgrow hown⟩
        rw [HS.out, cellsI_append]
        simpa [cellsI, I.vals] using hown1
      case measure => simp [intOf] <;> omega
    · obtain rfl : k = m := by omega
      clear hr
      go_wp2_with fail
      go_ret2
      refine ⟨u4, ?_, ?_, hB⟩
      · rw [HE.out]; rfl
      · rw [HG.out, readUp_length]; exact hown
theorem rread_any (l : List Nat) (hok : ∀ b ∈ l, b < 256) (A : Option Addr) (n c : Nat) (w : World) (hr : Reads w w.heap.size 1 A n (bytesV l)) (hn : n ≤ 1000000) :
    Calls Try.prog 46 #[.slice A n c] w (TellsRefRead l w) := by
  have hl : n = l.length := by have := hr.1; rw [bytesV_length] at this; omega
  by_cases he : readE n = 0
  · have h1 : n ≤ 32768 ∧ n % 8 = 0 := by
      unfold readE at he
      by_cases h : 32768 < n
      · rw [if_pos h] at he; omega
      · rw [if_neg h] at he
        by_cases h2 : n % 8 ≠ 0
        · rw [if_pos h2] at he; omega
        · omega
    obtain ⟨m, rfl⟩ : ∃ m, n = 8 * m := ⟨n / 8, by omega⟩
    exact rread_yes l hok A m c w hr (by omega)
  · exact rread_no l A n c w hl hn he
end Go.Proofs.Ytlpakmlpnjfcoaa
