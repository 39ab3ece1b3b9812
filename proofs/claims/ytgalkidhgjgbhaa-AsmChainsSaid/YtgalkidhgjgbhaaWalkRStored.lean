/-
  The walk of the reference's Stored.
-/
import Derived.Test.YtgalkidhgjgbhaaWalkReach
import Derived.Test.YtgalkidhgjgbhaaWalkCheck
namespace Go.Proofs.Ytgalkidhgjgbhaa
open Go.RowKit
set_option linter.unusedVariables false

/-- The cells stored, when some are done, and of the next one some instructions. -/
def orL (l : List I) (cell m : Nat) : List Nat := (List.range l.length).map fun i => orN l i (if i < m then cell + 1 else cell)
theorem orL_length (l : List I) (cell m : Nat) : (orL l cell m).length = l.length := by simp [orL]
theorem orL_get (l : List I) (cell m i : Nat) (hi : i < l.length) : (orL l cell m).getD i 0 = orN l i (if i < m then cell + 1 else cell) := by
  unfold orL
  simp [hi]
theorem orL_next (l : List I) (cell : Nat) : orL l cell l.length = orL l (cell + 1) 0 := by
  unfold orL
  apply List.map_congr_left
  intro i hi
  rw [if_pos (List.mem_range.1 hi), if_neg (by omega)]
theorem orL_start (l : List I) : orL l 0 0 = List.replicate l.length 0 := by
  unfold orL
  apply List.ext_getElem (by simp)
  intro i h1 h2
  simp [orN]
theorem orL_end (l : List I) : orL l 16 0 = rstoredN l := by
  unfold orL rstoredN
  apply List.map_congr_left
  intro i hi
  rw [if_neg (by omega)]
theorem orL_keep (l : List I) (cell m : Nat) (hm : m < l.length) (h : (ruptoN l cell l.length).getD m false = true) : orL l cell (m + 1) = orL l cell m := by
  unfold orL
  apply List.map_congr_left
  intro i hi
  by_cases e : i = m
  · subst e
    rw [if_pos (by omega), if_neg (by omega), orN_succ, if_pos h]
  · by_cases h2 : i < m
    · rw [if_pos h2, if_pos (by omega)]
    · rw [if_neg h2, if_neg (by omega)]
theorem orL_set (l : List I) (cell m : Nat) (hm : m < l.length) (h : (ruptoN l cell l.length).getD m false = false) : (orL l cell m).set m (orN l m cell ||| 2 ^ cell) = orL l cell (m + 1) := by
  apply List.ext_getElem (by simp [orL])
  intro i h1 h2
  rw [List.getElem_set]
  simp only [orL, List.getElem_map, List.getElem_range]
  by_cases e : m = i
  · subst e
    rw [if_pos rfl, if_pos (by omega), orN_succ, if_neg (by rw [h]; simp)]
  · rw [if_neg e]
    by_cases h3 : i < m
    · rw [if_pos h3, if_pos (by omega)]
    · rw [if_neg h3, if_neg (by omega)]
theorem orN_lt (l : List I) (n : Nat) : ∀ c, c ≤ 16 → orN l n c < 65536
  | 0, _ => by simp [orN]
  | c + 1, h => by
    rw [orN_succ]
    have := orN_lt l n c (by omega)
    split
    · exact this
    · exact Nat.or_lt_two_pow (n := 16) this (Nat.lt_of_le_of_lt (Nat.pow_le_pow_right (n := 2) (by omega) (show c ≤ 15 by omega)) (by decide))
/-- A bool's cell. -/
theorem cellBool {w : World} {B n : Nat} {A : Option Addr} {l : List Bool} (h : Reads w B 1 A n (boolsV l)) {k : Nat} (hk : k < n) : ∃ b off, A = some ⟨b, off, none⟩ ∧ b < B ∧ w.cell? ⟨b, off + k, none⟩ = some (.bool (l.getD k false)) := by
  obtain ⟨ad, rfl, hb, hc⟩ := h.2 (by omega)
  have hn : n = l.length := by have := h.1; rw [boolsV_length] at this; omega
  obtain ⟨b, off, spot⟩ := ad
  have h0 := hc 0 _ (boolsV_get l 0 (by omega))
  have hsp : spot = none := by simpa [Addr.add] using World.cell?_spot h0
  subst hsp
  refine ⟨b, off, rfl, hb, ?_⟩
  rw [← hc k _ (boolsV_get l k (by omega))]
  unfold Addr.add
  by_cases h0 : k = 0
  · subst h0; simp
  · rw [if_neg h0]

def TellsU16s (l : List Nat) (w : World) (e : Ending) (w' : World) : Prop := ∃ A c, e = .returned (.slice A l.length c) ∧ Reads w' w'.heap.size 1 A l.length (u16sV l) ∧ Below w.heap.size w w'

set_option maxRecDepth 100000 in
set_option maxHeartbeats 8000000 in
theorem refStored_any (l : List I) (hok : ∀ i ∈ l, i.Ok) (hP : FormedP l) (A : Option Addr) (n c : Nat) (w : World) (hr : Reads w w.heap.size 4 A n (cellsI l)) :
    Calls Try.prog 26 #[.slice A n c] w (TellsU16s (rstoredN l) w) := by
  have hl : n = l.length := by have := hr.1; rw [cellsI_length] at this; omega
  have hn0 : 0 < n := by have := hP.pos; omega
  have hn1 : n ≤ 4096 := by have := hP.le; omega
  obtain ⟨i0, hi0, hz0, hz1, hz2⟩ := info_parts info_u16
  have hrc := fun W h cell hc => refReached_any l hok hP A n c W h cell hc
  have HRC := Lib.hid hrc
  have HL := Lib.hid hl
  have HP := Lib.hid hP
  have hend := orL_end l
  have HE := Lib.hid hend
  clear hl hP hrc hend
  have hb0 : RowK (w.alloc (.cells (madeCells #[.int .u16 0] n) 35)) w.heap.size 35 n (u16sV (orL l 0 0)) := by
    have := RowK.new w 35 (madeCells #[.int .u16 0] n) (u16sV (orL l 0 0)) (by rw [u16sV_length, orL_length, ← HL.out, made_take, orL_start, ← HL.out]; simp [u16sV])
    rwa [size_madeCells] at this
  have hB0 : Below w.heap.size w (w.alloc (.cells (madeCells #[.int .u16 0] n) 35)) := (Below.refl _ w).alloc (Nat.le_refl _) _
  go_enter Try.func26, Try.ntmps26
  go_wp2_with (refine wpList_make_row _ rfl (.tmp 8) (.tmp 8) 46 rfl 35 i0 (.int .u16 0) Try.underlying46 hi0 hz0 hz1 rfl .i64 .i64 n rfl rfl (by rw [hz2]; omega) (by omega) ?_; generalize (w.alloc (.cells (madeCells #[.int .u16 0] n) 35)) = w0 at *)
  go_loopw [4] (fun i wr => ∃ k : Nat, k ≤ 16 ∧ i = .int .i64 k ∧ RowK wr w.heap.size 35 n (u16sV (orL l k 0)) ∧ Below w.heap.size w wr) (fun i _ => 16 - (intOf i).toNat)
  case atStart => exact ⟨0, by omega, rfl, hb0, hB0⟩
  case round =>
    obtain ⟨k, hk, rfl, hb, hB⟩ := hrel
    by_cases hlt : k < 16
    · have hnext := orL_next l k
      rw [← HL.out] at hnext
      have HN := Lib.hid hnext
      clear hnext hb0 hB0
      go_wp2_with fail
      refine (HRC.out _ ((hr.below hB).more hB.size) k hlt).mono ?_
      rintro e w1 ⟨Ab, cb, rfl, hrb, hB1, hfresh⟩
      have hb1 := hb.below hB1 hb.lt
      have hB1w := hB.trans (hB1.mono hB.size)
      have hglt := hb.lt
      rw [ruptoN_length, ← HL.out] at hrb
      have hfr : ∀ ad, Ab = some ad → ad.block ≠ w.heap.size := fun ad e => by have := hfresh ad e; omega
      clear hb hB hB1 hfresh
      rw [ruptoN_length, ← HL.out]
      have hkp := fun m hm => orL_keep l k m hm
      have hst := fun m hm => orL_set l k m hm
      have hlt0 := fun m => orN_lt l m k (by omega)
      have hgt := fun m hm => orL_get l k m m hm
      have HKP := Lib.hid hkp
      have HST := Lib.hid hst
      have HLT := Lib.hid hlt0
      have HGT := Lib.hid hgt
      clear hkp hst hlt0 hgt
      rw [← HL.out] at HKP HST
      generalize ruptoN l k n = rb at *
      go_wp2_with fail
      go_loopw [6] (fun i wr => ∃ m : Nat, m ≤ n ∧ i = .int .i64 m ∧ RowK wr w.heap.size 35 n (u16sV (orL l k m)) ∧ Reads wr w1.heap.size 1 Ab n (boolsV rb) ∧ Below w.heap.size w wr) (fun i _ => n - (intOf i).toNat)
      case atStart => exact ⟨0, by omega, rfl, hb1, hrb, hB1w⟩
      case round =>
        obtain ⟨m, hm, rfl, hbm, hrm, hBm⟩ := hrel
        by_cases hltm : m < n
        · obtain ⟨b2, off2, rfl, hbb2, hcm⟩ := cellBool hrm hltm
          have z0 : (0 : Int) ≤ (m : Int) := by omega
          have z1 : (m : Int) < (n : Int) := by omega
          cases hv : rb.getD m false
          · have hset := HST.out m hltm hv
            have hget := HGT.out m (by have := HL.out; omega)
            rw [if_neg (by omega)] at hget
            have hlen := orL_length l k m
            rw [← HL.out] at hlen
            have hcell := hbm.cell (u16sV_get _ m (by rw [hlen]; exact hltm))
            rw [hget] at hcell
            have hfz := hbm.frozen m
            have hav := HLT.out m
            have hor : bits .or .u16 ((orN l m k : Nat) : Int) (IntKind.u16.wrap ((2 : Int) ^ k)) = ((orN l m k ||| 2 ^ k : Nat) : Int) := by
              rw [wrap_pow16 k (by omega)]
              exact u16_or_nat _ (2 ^ k) hav (Nat.lt_of_le_of_lt (Nat.pow_le_pow_right (n := 2) (by omega) (show k ≤ 15 by omega)) (by decide))
            have hrow := hbm.set_ m (.int .u16 (orN l m k ||| 2 ^ k : Nat))
            rw [u16sV_set, hset] at hrow
            have hrm2 := hrm.set_ne (p := ⟨w.heap.size, m, none⟩) (fun ad e => hfr ad e) (.int .u16 (orN l m k ||| 2 ^ k : Nat))
            have hBm2 := hBm.setCell (p := ⟨w.heap.size, m, none⟩) (Nat.le_refl _) (.int .u16 (orN l m k ||| 2 ^ k : Nat))
            rw [hv] at hcm
            have HOR := Lib.hid hor
            clear hor hset hget hlen hbm hrm hBm hv hb1 hrb hB1w hav HKP HST HLT HGT
            generalize (orN l m k ||| 2 ^ k) = nw at *
            generalize orN l m k = av at *
            go_wp2_with fail
            go_region
            rw [HOR.out]
            go_wp2_with fail
            go_roundw
            case rel => exact ⟨m + 1, by omega, by go_num, hrow.drew, hrm2.drew, hBm2.drew⟩
            case measure => simp [intOf] <;> omega
          · have hkeep := HKP.out m hltm hv
            rw [hv] at hcm
            have HK := Lib.hid hkeep
            clear hkeep hv hb1 hrb hB1w HKP HST HLT HGT
            go_wp2_with fail
            go_roundw
            case rel => exact ⟨m + 1, by omega, by go_num, by rw [HK.out]; exact hbm, hrm, hBm⟩
            case measure => simp [intOf] <;> omega
        · obtain rfl : m = n := by omega
          rw [HN.out] at hbm
          clear hb1 hrb hB1w hrm HKP HST HLT HGT
          go_wp2_with fail
          go_roundw
          case rel => exact ⟨k + 1, by omega, by go_num, hbm, hBm⟩
          case measure => simp [intOf] <;> omega
    · obtain rfl : k = 16 := by omega
      have hrd := hb.reads
      rw [u16sV_length, orL_length, HE.out, ← HL.out] at hrd
      clear hb hb0 hB0
      go_wp2_with fail
      go_ret
      refine ⟨some ⟨w.heap.size, 0, none⟩, n, ?_, ?_, hB⟩
      · rw [show (rstoredN l).length = n by simp [rstoredN]; exact HL.out.symm]
        rfl
      · rw [show (rstoredN l).length = n by simp [rstoredN]; exact HL.out.symm]
        exact hrd
end Go.Proofs.Ytgalkidhgjgbhaa
