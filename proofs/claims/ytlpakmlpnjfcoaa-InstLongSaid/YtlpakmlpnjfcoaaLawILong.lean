/-
  The walk of InstLong.
-/
import Derived.Test.YtlpakmlpnjfcoaaLawIReads
namespace Go.Proofs.Ytlpakmlpnjfcoaa
open Go.RowKit
set_option linter.unusedVariables false

theorem made_bytes (k : Nat) : (madeCells (Value.int .u8 0).cells (k * 1)).toList = bytesV (List.replicate k 0) := by
  apply List.ext_getElem
  · simp [bytesV_length, madeCells]
  · intro i h1 h2
    simp [madeCells, bytesV, Value.cells, Nat.mod_one]
set_option maxRecDepth 100000 in
set_option maxHeartbeats 2000000 in
theorem instLong_walk (w : World) (m : Nat) (hm : m < 65536) :
    Calls Try.prog 20 #[.int .u16 m] w fun e w' => e = .returned (.bool true) ∧ Below w.heap.size w w' := by
  obtain ⟨i0, hi0, hz0, hz1, hz2⟩ := info_parts info_u8
  obtain ⟨n, hn⟩ : ∃ n : Nat, n = 32748 + m % 40 := ⟨_, rfl⟩
  have hrem : (32748 : Int) + (m : Int) % 40 = (n : Int) := by omega
  have hlo : 32748 ≤ n := by omega
  have hhi : n ≤ 32788 := by omega
  have hok : ∀ b ∈ List.replicate n 0, b < 256 := fun b hb => by rw [(List.mem_replicate.1 hb).2]; omega
  have hl : (List.replicate n 0).length = n := by simp
  have h1 : 32768 < n → readE (List.replicate n 0).length = 3 ∧ readL (List.replicate n 0) = [] := fun h => by
    rw [hl]
    have : readE n = 3 := by unfold readE; rw [if_pos h]
    exact ⟨this, by unfold readL; rw [hl, this]; rfl⟩
  have h2 : ¬ 32768 < n → n % 8 ≠ 0 → readE (List.replicate n 0).length = 2 ∧ readL (List.replicate n 0) = [] := fun h h' => by
    rw [hl]
    have : readE n = 2 := by unfold readE; rw [if_neg h, if_pos h']
    exact ⟨this, by unfold readL; rw [hl, this]; rfl⟩
  have h3 : ¬ 32768 < n → ¬ n % 8 ≠ 0 → readE (List.replicate n 0).length = 0 ∧ (readL (List.replicate n 0)).length = n / 8 := fun h h' => by
    rw [hl]
    have : readE n = 0 := by unfold readE; rw [if_neg h, if_neg h']
    exact ⟨this, by unfold readL; rw [hl, this, if_pos rfl]; unfold readN; rw [readUp_length, hl]⟩
  generalize hL : List.replicate n 0 = L at *
  generalize hE : readE L.length = E at *
  generalize hX : readL L = X at *
  have HL := Lib.hid hl
  clear hl hn
  go_enter Try.func20, Try.ntmps20
  go_wp2_with (refine wpList_make_full w rfl (.tmp 11) (.tmp 11) 31 rfl w.heap.size 5 i0 _ 1 Try.underlying31 hi0 hz0 hz1 .i64 .i64 n n n rfl rfl rfl rfl (by rw [hz2]; omega) (by simp only [maxLen]; omega) (Nat.le_refl _) ?_; intro w1 own1 hg1)
  rw [made_bytes, hL] at own1
  have hB1 : Below w.heap.size w w1 := (Below.refl _ w).grown hg1 (Nat.le_refl _) (fun k e => by cases e)
  obtain ⟨A1, c1, hv, hc1, hm1, hr1⟩ := own_reads_cap own1
  injection hv with hv1 hv2 hv3
  subst hv1 hv3
  clear own1 hg1
  refine (iread_any L hok _ n n w1 hr1 (by omega) (Nat.le_refl _) (by simp only [maxLen]; omega)).mono ?_
  rintro e w2 ⟨v2, rfl, own2, hB2⟩
  rw [hE]
  rw [hX] at own2
  obtain ⟨A2, c2, rfl, hr2⟩ := own_reads own2
  have hB2w := hB1.trans (hB2.mono hB1.size)
  clear own2 hB2 hr1 hB1 hr2
  by_cases g1 : 32768 < n
  · obtain ⟨rfl, rfl⟩ := h1 g1
    have g1' : (32768 : Int) < (n : Int) := by omega
    clear h1 h2 h3
    go_wp2_with fail
    refine (awake02_any _).mono ?_
    rintro e w5 ⟨rfl, hB5⟩
    go_wp2_with fail
    go_ret
    exact ⟨rfl, hB2w.trans (hB5.mono hB2w.size)⟩
  · have g1' : ¬ (32768 : Int) < (n : Int) := by omega
    by_cases g2 : n % 8 ≠ 0
    · obtain ⟨rfl, rfl⟩ := h2 g1 g2
      have g2' : ((n : Int) % 8 != 0) = true := by simp; omega
      clear h1 h2 h3
      go_wp2_with fail
      refine (awake02_any _).mono ?_
      rintro e w5 ⟨rfl, hB5⟩
      go_wp2_with fail
      go_ret
      exact ⟨rfl, hB2w.trans (hB5.mono hB2w.size)⟩
    · obtain ⟨rfl, hlen⟩ := h3 g1 g2
      have g2' : ((n : Int) % 8 != 0) = false := by simp; omega
      have g3 : ((X.length : Nat) : Int) = (n : Int) / 8 := by omega
      clear h1 h2 h3 hlen
      go_wp2_with fail
      refine (awake02_any _).mono ?_
      rintro e w5 ⟨rfl, hB5⟩
      go_wp2_with fail
      go_ret
      exact ⟨rfl, hB2w.trans (hB5.mono hB2w.size)⟩
end Go.Proofs.Ytlpakmlpnjfcoaa
