/-
  The walk of flow.Longest.
-/
import Derived.Test.YtgalkidhgjgbhaaWalkFNext
import Derived.Test.YtgalkidhgjgbhaaWalkCheck
import Derived.Test.YtgalkidhgjgbhaaChkFacts
namespace Go.Proofs.Ytgalkidhgjgbhaa
open Go.RowKit
set_option linter.unusedVariables false

def maxN (a t : Nat) : Nat := if a < t then t else a
def topN (prev : List Nat) (a : Nat) (ts : List Nat) : Nat := ts.foldl (fun a t => maxN a (prev.getD t 0)) a
def mostS (l : List I) (prev : List Nat) (m : Nat) : List Nat := prev.set m (topN prev (prev.getD m 0) (nextN l m) + 1)
/-- The longest ways' steps, the last so many told. -/
def mostN (l : List I) : Nat → List Nat
  | 0 => List.replicate l.length 0
  | j + 1 => mostS l (mostN l j) (l.length - 1 - j)
def longN (l : List I) : Nat := if (checkN l).2 = 0 then (mostN l l.length).getD 0 0 else 0
theorem mostN_length (l : List I) : ∀ j, (mostN l j).length = l.length
  | 0 => by simp [mostN]
  | j + 1 => by unfold mostN mostS; rw [List.length_set, mostN_length l j]
theorem topN_snoc (prev : List Nat) (a : Nat) (ts : List Nat) (t : Nat) : topN prev a (ts ++ [t]) = maxN (topN prev a ts) (prev.getD t 0) := by unfold topN; rw [List.foldl_append]; rfl
theorem topN_le (prev : List Nat) (b : Nat) (h : ∀ t, prev.getD t 0 ≤ b) : ∀ (ts : List Nat) (a : Nat), a ≤ b → topN prev a ts ≤ b
  | [], a, ha => ha
  | t :: ts, a, ha => topN_le prev b h ts (maxN a (prev.getD t 0)) (by unfold maxN; split; exact h t; exact ha)
theorem mostN_le (l : List I) : ∀ (j t : Nat), (mostN l j).getD t 0 ≤ j
  | 0, t => by
    rw [List.getD_eq_getElem?_getD]
    unfold mostN
    rw [List.getElem?_replicate]
    split <;> simp
  | j + 1, t => by
    unfold mostN mostS
    rw [List.getD_eq_getElem?_getD, List.getElem?_set]
    have h1 := topN_le (mostN l j) j (mostN_le l j) (nextN l (l.length - 1 - j)) _ (mostN_le l j (l.length - 1 - j))
    split
    · split
      · simpa using h1
      · simp
    · rw [← List.getD_eq_getElem?_getD]
      exact Nat.le_trans (mostN_le l j t) (by omega)
theorem natsV_set (l : List Nat) (k v : Nat) : (natsV l).set k (.int .i64 v) = natsV (l.set k v) := by unfold natsV; rw [List.map_set]
theorem natsV_len (l : List Nat) : (natsV l).length = l.length := by simp [natsV]
theorem natsV_get (l : List Nat) (k : Nat) (hk : k < l.length) : (natsV l)[k]? = some (.int .i64 (l.getD k 0 : Nat)) := by simp [natsV, hk]
theorem info_intL : (Try.prog.info? 3).map (fun i => (i.zero, i.size, i.bytes)) = some (some (.int .i64 0), 1, 8) := by kernel_rfl
theorem set_getD_ne {l : List Nat} {m t v : Nat} (h : m ≠ t) : (l.set m v).getD t 0 = l.getD t 0 := by
  rw [List.getD_eq_getElem?_getD, List.getD_eq_getElem?_getD, List.getElem?_set, if_neg h]
theorem set_getD_eq {l : List Nat} {m v : Nat} (h : m < l.length) : (l.set m v).getD m 0 = v := by
  rw [List.getD_eq_getElem?_getD, List.getElem?_set, if_pos rfl, if_pos h]; rfl

set_option maxRecDepth 100000 in
set_option maxHeartbeats 2000000 in
theorem longest_any (l : List I) (hok : ∀ i ∈ l, i.Ok) (A : Option Addr) (n c : Nat) (w : World) (hr : Reads w w.heap.size 4 A n (cellsI l)) (hn : n ≤ 100000) :
    Calls Try.prog 19 #[.slice A n c] w fun e w' => e = .returned (.int .i64 (longN l : Nat)) ∧ Below w.heap.size w w' := by
  have hl : n = l.length := by have := hr.1; rw [cellsI_length] at this; omega
  obtain ⟨i0, hi0, hz0, hz1, hz2⟩ := info_parts info_intL
  have HL := Lib.hid hl
  clear hl
  go_enter Try.func19, Try.ntmps19
  go_wp2_with fail
  refine (check_any l hok A n c w hr (by omega)).mono ?_
  rintro e w1 ⟨rfl, hB1⟩
  by_cases hz : (checkN l).2 = 0
  · have hP : FormedP l := formed_of (by
      unfold checkN at hz
      by_cases hf : (formedN l).2 = 0
      · exact hf
      · rw [if_pos hf] at hz; exact hz)
    have HG := Lib.hid (show longN l = (mostN l l.length).getD 0 0 by unfold longN; rw [if_pos hz])
    rw [hz]
    have hn0 : 0 < n := by have := hP.pos; have := HL.out; omega
    have HP := Lib.hid hP
    clear hz hP
    have hb0 : RowK (w1.alloc (.cells (madeCells #[.int .i64 0] n) 3)) w1.heap.size 3 n (natsV (mostN l 0)) := by
      have := RowK.new w1 3 (madeCells #[.int .i64 0] n) (natsV (mostN l 0)) (by rw [natsV_len, mostN_length, ← HL.out, made_take]; simp [natsV, mostN, ← HL.out])
      rwa [size_madeCells] at this
    have hB0 : Below w.heap.size w (w1.alloc (.cells (madeCells #[.int .i64 0] n) 3)) := hB1.alloc hB1.size _
    have hg0 := hB1.size
    go_wp2_with (refine wpList_make_row _ rfl (.tmp 17) (.tmp 17) 27 rfl 3 i0 (.int .i64 0) Try.underlying27 hi0 hz0 hz1 rfl .i64 .i64 n rfl rfl (by rw [hz2]; omega) (by omega) ?_; generalize (w1.alloc (.cells (madeCells #[.int .i64 0] n) 3)) = w2 at *)
    clear hB1
    generalize w1.heap.size = g at *
    have HR := Lib.hid hr
    clear hr
    go_loopw [6, 8] (fun i t wr => ∃ m : Nat, m ≤ n ∧ i = .int .i64 ((m : Int) - 1) ∧ RowK wr g 3 n (natsV (mostN l (n - m))) ∧ Below w.heap.size w wr) (fun i _ _ => (intOf i + 1).toNat)
    case atStart => exact ⟨n, Nat.le_refl _, rfl, by rw [Nat.sub_self]; exact hb0, hB0⟩
    case round =>
      obtain ⟨m, hm, rfl, hb, hB⟩ := hrel
      rcases m with _ | k
      · have hc0 := hb.cell (natsV_get _ 0 (by rw [mostN_length, ← HL.out]; exact hn0))
        have z1 : (0 : Int) < (n : Int) := by omega
        have HE : longN l = (mostN l (n - 0)).getD 0 0 := by rw [HG.out, HL.out]; rfl
        rw [← HE] at hc0
        have HB := Lib.hid hB
        clear hB hb hB0 hb0 HE
        rw [show ((0 : Nat) : Int) - 1 = (-1 : Int) by omega]
        go_wp2_with fail
        go_ret
        exact ⟨rfl, HB.out⟩
      · rw [show ((k + 1 : Nat) : Int) - 1 = (k : Int) by omega]
        have hkl : k < l.length := by have := HL.out; omega
        have hstep : mostN l (n - k) = mostS l (mostN l (n - (k + 1))) k := by
          have h1 : n - k = (n - (k + 1)) + 1 := by omega
          rw [h1]
          show mostS l (mostN l (n - (k + 1))) (l.length - 1 - (n - (k + 1))) = _
          rw [show l.length - 1 - (n - (k + 1)) = k by have := HL.out; omega]
        have hul := mostN_length l (n - (k + 1))
        have hle := mostN_le l (n - (k + 1))
        have hnx := (HP.out).next hkl
        have hnl := nextN_len l k
        unfold mostS at hstep
        have hcalls := fun W h => next_any l hok A n c k W h hn (by omega)
        generalize nextN l k = nx at *
        generalize mostN l (n - (k + 1)) = prev at *
        have z0 : (0 : Int) ≤ (k : Int) := by omega
        have z1 : (k : Int) < (n : Int) := by omega
        have hrw := ((HR.out).below hB).more hB.size
        have HC := Lib.hid (hcalls _ hrw)
        have HSTEP := Lib.hid hstep
        have HNX := Lib.hid hnx
        have HLE := Lib.hid hle
        have HB := Lib.hid hb
        have HBB := Lib.hid hB
        have HUL := Lib.hid hul
        have hgr := hb.lt
        clear hcalls hstep hnx hle hb hB hul hrw hb0 hB0 hkl
        go_wp2_with fail
        refine (HC.out).mono ?_
        rintro e w3 ⟨A3, c3, rfl, hr3, hB3, hf3⟩
        have hb3 := (HB.out).below hB3 hgr
        have hB03 := (HBB.out).trans (hB3.mono (by have := (HBB.out).size; omega))
        have hgs : g < w3.heap.size := hb3.lt
        have hfar : ∀ ad, A3 = some ad → ad.block ≠ g := fun ad e => by have := hf3 ad e; omega
        have hpl : prev.length = l.length := HUL.out
        have hset0 : prev = prev.set k (topN prev (prev.getD k 0) (nx.take 0)) := by
          show prev = prev.set k (prev.getD k 0)
          apply List.ext_getElem?
          intro q
          rw [List.getElem?_set]
          split
          · rename_i e
            subst e
            rw [if_pos (by have := HL.out; omega)]
            simp [show k < prev.length by have := HL.out; omega]
          · rfl
        have H3 := Lib.hid hr3
        have HFAR := Lib.hid hfar
        have HPL := Lib.hid hpl
        clear hB3 hf3 hr3 hfar hpl
        go_wp2_with fail
        go_loopw [8, 30] (fun t q wr => ∃ m : Nat, m ≤ nx.length ∧ q = .int .i64 m ∧ RowK wr g 3 n (natsV (prev.set k (topN prev (prev.getD k 0) (nx.take m)))) ∧ Reads wr wr.heap.size 1 A3 nx.length (natsV nx) ∧ Below w.heap.size w wr) (fun _ q _ => nx.length - (intOf q).toNat)
        case atStart => exact ⟨0, by omega, rfl, by rw [← hset0]; exact hb3, H3.out, hB03⟩
        case round =>
          obtain ⟨m, hm, rfl, hb5, hr5, hB5⟩ := hrel
          have hlen5 : (prev.set k (topN prev (prev.getD k 0) (nx.take m))).length = l.length := by rw [List.length_set]; exact HPL.out
          have ck := hb5.cell (natsV_get _ k (by rw [hlen5]; have := HL.out; omega))
          rw [set_getD_eq (by rw [HPL.out]; have := HL.out; omega)] at ck
          have fk := hb5.frozen k
          have hg5 := hb5.lt
          have hta := topN_le prev (n - (k + 1)) HLE.out (nx.take m) _ (HLE.out k)
          by_cases hlt : m < nx.length
          · obtain ⟨b6, off6, rfl, hb6, c6⟩ := cellNat hr5 hlt
            have hto := HNX.out _ (getD_mem' hlt)
            have ct := hb5.cell (natsV_get _ (nx.getD m 0) (by rw [hlen5]; exact hto.2))
            rw [set_getD_ne (by omega)] at ct
            have htl := HLE.out (nx.getD m 0)
            have hsn := topN_snoc prev (prev.getD k 0) (nx.take m) (nx.getD m 0)
            rw [← take_snocM nx m hlt] at hsn
            generalize topN prev (prev.getD k 0) (nx.take m) = a0 at *
            have HTO := Lib.hid hto
            have hton : nx.getD m 0 < n := by have := hto.2; have := HL.out; omega
            generalize prev.getD (nx.getD m 0) 0 = v0 at *
            generalize nx.getD m 0 = to at *
            have z3 : (0 : Int) ≤ (to : Int) := by omega
            have z4 : (to : Int) < (n : Int) := by omega
            have z5 : (0 : Int) ≤ (m : Int) := by omega
            have z6 : (m : Int) < (nx.length : Int) := by omega
            have hne6 : b6 ≠ g := HFAR.out _ rfl
            have hb6r := hb6
            have HSN := Lib.hid hsn
            have HB5 := Lib.hid hb5
            have HR5 := Lib.hid hr5
            have HBB5 := Lib.hid hB5
            clear hto hsn hb5 hr5 hB5 hb3 hB03 hset0 H3
            by_cases hmx : a0 < v0
            · have hmi : (a0 : Int) < (v0 : Int) := by omega
              have hmv : maxN a0 v0 = v0 := if_pos hmx
              go_wp2_with fail
              go_region
              go_wp2_with fail
              have hb7 := (HB5.out).set_ k (.int .i64 (v0 : Nat))
              rw [natsV_set, List.set_set] at hb7
              have hr7 := (HR5.out).set_ne (p := ⟨g, k, none⟩) (fun ad e => by cases e; exact hne6) (.int .i64 (v0 : Nat))
              go_roundw
              case rel => exact ⟨m + 1, by omega, by go_num, by rw [HSN.out, hmv]; exact hb7, hr7.more (by simp), ((HBB5.out).setCell (p := ⟨g, k, none⟩) hg0 (.int .i64 (v0 : Nat))).drew⟩
              case measure => simp [intOf] <;> omega
            · have hmi : ¬ (a0 : Int) < (v0 : Int) := by omega
              have hmv : maxN a0 v0 = a0 := if_neg hmx
              go_wp2_with fail
              go_region
              go_wp2_with fail
              have hb7 := (HB5.out).set_ k (.int .i64 (a0 : Nat))
              rw [natsV_set, List.set_set] at hb7
              have hr7 := (HR5.out).set_ne (p := ⟨g, k, none⟩) (fun ad e => by cases e; exact hne6) (.int .i64 (a0 : Nat))
              go_roundw
              case rel => exact ⟨m + 1, by omega, by go_num, by rw [HSN.out, hmv]; exact hb7, hr7.more (by simp), ((HBB5.out).setCell (p := ⟨g, k, none⟩) hg0 (.int .i64 (a0 : Nat))).drew⟩
              case measure => simp [intOf] <;> omega
          · obtain rfl : m = nx.length := by omega
            have hta' := topN_le prev (n - (k + 1)) HLE.out nx _ (HLE.out k)
            rw [List.take_of_length_le (Nat.le_refl _)] at hb5 ck
            have HB5 := Lib.hid hb5
            have HBB5 := Lib.hid hB5
            have HS5 : mostN l (n - k) = prev.set k (topN prev (prev.getD k 0) nx + 1) := HSTEP.out
            have HS6 := Lib.hid HS5
            clear hb5 hr5 hB5 hb3 hB03 hset0 H3 HS5 hta
            generalize topN prev (prev.getD k 0) nx = a0 at *
            go_wp2_with fail
            have hb7 := (HB5.out).set_ k (.int .i64 (a0 + 1 : Nat))
            rw [natsV_set, List.set_set, ← HS6.out] at hb7
            go_roundw
            case rel => exact ⟨k, by omega, rfl, hb7, (HBB5.out).setCell (p := ⟨g, k, none⟩) hg0 (.int .i64 (a0 + 1 : Nat))⟩
            case measure => simp [intOf] <;> omega
  · have ez : ¬ (((checkN l).2 : Nat) : Int) = 0 := by omega
    have hg : longN l = 0 := by unfold longN; rw [if_neg hz]
    have HB1 := Lib.hid hB1
    clear hB1
    go_wp2_with fail
    go_ret
    exact ⟨by rw [hg]; rfl, HB1.out⟩
end Go.Proofs.Ytgalkidhgjgbhaa
