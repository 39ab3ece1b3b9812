/-
  The walk of CheckLong.
-/
import Derived.Test.YtgalkidhgjgbhaaLawFree
import Derived.Test.YtgalkidhgjgbhaaChkLong
namespace Go.Proofs.Ytgalkidhgjgbhaa
open Go.RowKit
set_option linter.unusedVariables false

/-- make([]T, n), T of any number of cells. -/
theorem wpList_make_rows {P : Program} (w : World) {ops : Array Oper} {rest : List Oper} {o : Oper} {a : Act} {Q : Exit → Act → World → Prop}
    (hg : o.guard = none) (l c : Operand) (t : TypeId) (hop : o.op = Op.makeSlice t l c)
    (e : TypeId) (i : TypeInfo) (z : Value) (ht : P.underlying t = some (.slice e)) (hi : P.info? e = some i) (hz : i.zero = some z)
    (kl kc : IntKind) (n : Nat) (hl : a.eval l = .int kl (n : Int)) (hc : a.eval c = .int kc (n : Int)) (hbytes : i.bytes * n ≤ 281474976710656) (h63 : n ≤ 9223372036854775807)
    (hK : wpList P ops Q rest (a.put o.dst (.slice (some ⟨w.heap.size, 0, none⟩) n n)) (w.alloc (.cells (madeCells z.cells (n * i.size)) e))) :
    wpList P ops Q (o :: rest) a w := by
  refine wpList_plain hg fun K hK' => ?_
  have hb' : (i.bytes : Int) * (n : Int) ≤ 281474976710656 := by
    have h : ((i.bytes * n : Nat) : Int) ≤ 281474976710656 := by omega
    rwa [Int.natCast_mul] at h
  have hr := run_make (P := P) w t e i z ht hi hz kl kc n n (by omega) (Int.le_refl _) hb' (by omega)
  simp only [Int.toNat_natCast] at hr
  unfold Oper.wp
  simp [execOp, hop, hl, hc, hr, Result.andThen]
  exact hK' _ _ hK
theorem default_vals : I.vals default = [.int .u16 0, .int .u8 0, .int .u8 0, .int .u32 0] := rfl
theorem made_insts (n : Nat) : (madeCells #[.int .u16 0, .int .u8 0, .int .u8 0, .int .u32 0] (n * 4)).toList = cellsI (List.replicate n default) := by
  apply List.ext_getElem?
  intro j
  by_cases hj : j < n * 4
  · have h1 := cellsI_get (List.replicate n default) (j / 4) (j % 4) (by simp; omega) (by omega)
    rw [show j / 4 * 4 + j % 4 = j by omega] at h1
    rw [h1]
    have h2 : (List.replicate n (default : I)).getD (j / 4) default = default := by simp [show j / 4 < n by omega]
    rw [h2, default_vals]
    have h3 : j % 4 < 4 := by omega
    simp only [madeCells, Array.getElem?_toList, Array.getElem?_map, Array.getElem?_range, hj, if_true, Option.map_some]
    generalize hq : j % 4 = q at *
    have hs : (#[Value.int .u16 0, .int .u8 0, .int .u8 0, .int .u32 0] : Array Value).size = 4 := rfl
    match q, h3 with
    | 0, _ => rfl
    | 1, _ => rfl
    | 2, _ => rfl
    | 3, _ => rfl
  · rw [List.getElem?_eq_none (by rw [Array.length_toList, size_madeCells]; omega), List.getElem?_eq_none (by rw [cellsI_length]; simp; omega)]
theorem cellsI_set4 (l : List I) (k : Nat) (i : I) : ((((cellsI l).set (k * 4) (.int .u16 i.code)).set (k * 4 + 1) (.int .u8 i.jt)).set (k * 4 + 2) (.int .u8 i.jf)).set (k * 4 + 3) (.int .u32 i.k) = cellsI (l.set k i) := by
  induction l generalizing k with
  | nil => simp [cellsI]
  | cons x l ih =>
    unfold cellsI at ih ⊢
    cases k with
    | zero => simp [I.vals]
    | succ k =>
      have e : ∀ j, (k + 1) * 4 + j - (I.vals x).length = k * 4 + j := fun j => by simp [I.vals]; omega
      have e0 : (k + 1) * 4 - (I.vals x).length = k * 4 := by simp [I.vals]; omega
      have hl : ∀ j, (I.vals x).length ≤ (k + 1) * 4 + j := fun j => by simp [I.vals]; omega
      have hl0 : (I.vals x).length ≤ (k + 1) * 4 := by simp [I.vals]; omega
      rw [List.set_cons_succ, List.flatMap_cons, List.flatMap_cons, List.set_append_right _ _ hl0, List.set_append_right _ _ (hl 1), List.set_append_right _ _ (hl 2), List.set_append_right _ _ (hl 3), e0, e 1, e 2, e 3, ih]

set_option maxRecDepth 100000 in
set_option maxHeartbeats 4000000 in
theorem checkLong_walk (w : World) (m : Nat) (hm : m < 256) :
    Calls Try.prog 8 #[.int .u8 m] w fun e w' => e = .returned (.bool true) ∧ Below w.heap.size w w' := by
  obtain ⟨i0, hi0, hz0, hz1, hz2⟩ := info_parts info_inst
  obtain ⟨n, hn⟩ : ∃ n : Nat, n = 4091 + m % 10 := ⟨_, rfl⟩
  have hrem : (4091 : Int) + (m : Int) % 10 = (n : Int) := by omega
  have hlo : 4091 ≤ n := by omega
  have hhi : n ≤ 4100 := by omega
  go_enter Try.func8, Try.ntmps8
  have hlo2 : 0 < n := by omega
  clear hn
  have hr0 : RowK (w.alloc (.cells (madeCells #[.int .u16 0, .int .u8 0, .int .u8 0, .int .u32 0] (n * 4)) 37)) w.heap.size 37 (n * 4) (cellsI (fillI n 0)) := by
    have := RowK.new w 37 (madeCells #[.int .u16 0, .int .u8 0, .int .u8 0, .int .u32 0] (n * 4)) (cellsI (fillI n 0)) (by
      rw [made_insts, cellsI_length, fillI_length n 0 (by omega)]
      have e : fillI n 0 = List.replicate n default := by unfold fillI; simp
      rw [e, List.take_of_length_le (by rw [cellsI_length]; simp)])
    rwa [size_madeCells] at this
  have hB0 : Below w.heap.size w (w.alloc (.cells (madeCells #[.int .u16 0, .int .u8 0, .int .u8 0, .int .u32 0] (n * 4)) 37)) := (Below.refl _ w).alloc (Nat.le_refl _) _
  go_wp2_with (refine wpList_make_rows _ rfl (.tmp 12) (.tmp 12) 24 rfl 37 i0 _ Try.underlying24 hi0 hz0 .i64 .i64 n rfl rfl (by rw [hz2]; omega) (by omega) ?_; rw [hz1])
  generalize (w.alloc (.cells (madeCells #[.int .u16 0, .int .u8 0, .int .u8 0, .int .u32 0] (n * 4)) 37)) = w0 at *
  have HLO := Lib.hid hlo2
  go_loopw [5] (fun i wr => ∃ k : Nat, k ≤ n ∧ i = .int .i64 k ∧ RowK wr w.heap.size 37 (n * 4) (cellsI (fillI n k)) ∧ Below w.heap.size w wr) (fun i _ => n - (intOf i).toNat)
  case atStart => exact ⟨0, by omega, rfl, hr0, hB0⟩
  case round =>
    obtain ⟨k, hk, rfl, hb, hB⟩ := hrel
    have z0 : (0 : Int) ≤ (k : Int) := by omega
    by_cases hlt : k < n
    · have z1 : (k : Int) < (n : Int) := by omega
      have hg : ∀ j, j < 4 → ∃ v, wr.cell? ⟨w.heap.size, k * 4 + j, none⟩ = some v := fun j hj => by
        have h := cellsI_get (fillI n k) k j (by rw [fillI_length n k hk]; exact hlt) hj
        have h4 : (I.vals ((fillI n k).getD k default)).length = 4 := rfl
        rw [List.getElem?_eq_getElem (l := I.vals _) (by rw [h4]; exact hj)] at h
        exact ⟨_, hb.cell h⟩
      obtain ⟨v0, c0⟩ := hg 0 (by omega)
      obtain ⟨v1, c1⟩ := hg 1 (by omega)
      obtain ⟨v2, c2⟩ := hg 2 (by omega)
      obtain ⟨v3, c3⟩ := hg 3 (by omega)
      have f0 := hb.frozen (k * 4)
      have f1 := hb.frozen (k * 4 + 1)
      have f2 := hb.frozen (k * 4 + 2)
      have f3 := hb.frozen (k * 4 + 3)
      rw [Nat.add_zero] at c0
      have hs := (((hb.set_ (k * 4) (.int .u16 22)).set_ (k * 4 + 1) (.int .u8 0)).set_ (k * 4 + 2) (.int .u8 0)).set_ (k * 4 + 3) (.int .u32 0)
      have e := cellsI_set4 (fillI n k) k retI
      rw [fillI_set n k hlt] at e
      have hs' : RowK _ w.heap.size 37 (n * 4) (cellsI (fillI n (k + 1))) := e ▸ hs
      have hBs := (((hB.setCell (p := ⟨w.heap.size, k * 4, none⟩) (Nat.le_refl _) (.int .u16 22)).setCell (p := ⟨w.heap.size, k * 4 + 1, none⟩) (Nat.le_refl _) (.int .u8 0)).setCell (p := ⟨w.heap.size, k * 4 + 2, none⟩) (Nat.le_refl _) (.int .u8 0)).setCell (p := ⟨w.heap.size, k * 4 + 3, none⟩) (Nat.le_refl _) (.int .u32 0)
      clear e hs hg hb hB hr0 hB0 hrem
      go_wp2_with fail
      go_roundw
      case rel => exact ⟨k + 1, by omega, by go_num, hs', hBs⟩
      case measure => simp [intOf] <;> omega
    · obtain rfl : k = n := by omega
      rw [fillI_full] at hb
      have hrd : Reads wr wr.heap.size 4 (some ⟨w.heap.size, 0, none⟩) k (cellsI (retL k)) := by
        obtain ⟨h1, h2⟩ := hb.reads
        refine ⟨by rw [cellsI_length, retL_length], fun hp => ?_⟩
        exact h2 (by rw [cellsI_length, retL_length]; omega)
      clear hr0 hB0 hrem hb
      by_cases hbig : 4096 < k
      · have hz : (4096 : Int) < (k : Int) := by omega
        go_wp2_with fail
        refine (check_any (retL k) (retL_ok k) _ k k wr hrd (by omega)).mono ?_
        rintro e w2 ⟨rfl, hB2⟩
        rw [retL_check_long k hbig]
        have hB2w := hB.trans (hB2.mono hB.size)
        have hrd2 := (hrd.below hB2).more hB2.size
        clear hrd hB hB2
        go_wp2_with fail
        refine (stored_any (retL k) (retL_ok k) _ k k w2 hrd2 (by omega)).mono ?_
        rintro e w3 ⟨v3, rfl, own3, hB3⟩
        rw [retL_stored_long k hbig] at own3
        obtain ⟨A3, c3, rfl, hr3⟩ := own_reads own3
        have hB3w := hB2w.trans (hB3.mono hB2w.size)
        clear own3 hr3 hrd2 hB3 hB2w
        go_wp2_with fail
        refine (awake04_any _).mono ?_
        rintro e w4 ⟨rfl, hB4⟩
        go_wp2_with fail
        go_ret
        exact ⟨rfl, hB3w.trans (hB4.mono hB3w.size)⟩
      · have hz : ¬ (4096 : Int) < (k : Int) := by omega
        go_wp2_with fail
        refine (check_any (retL k) (retL_ok k) _ k k wr hrd (by omega)).mono ?_
        rintro e w2 ⟨rfl, hB2⟩
        rw [retL_check k HLO.out (by omega)]
        have hB2w := hB.trans (hB2.mono hB.size)
        have hrd2 := (hrd.below hB2).more hB2.size
        clear hrd hB hB2
        go_wp2_with fail
        refine (stored_any (retL k) (retL_ok k) _ k k w2 hrd2 (by omega)).mono ?_
        rintro e w3 ⟨v3, rfl, own3, hB3⟩
        rw [retL_stored k HLO.out (by omega)] at own3
        obtain ⟨A3, c3, rfl, hr3⟩ := own_reads own3
        have hB3w := hB2w.trans (hB3.mono hB2w.size)
        clear own3 hr3 hrd2 hB3 hB2w
        go_wp2_with fail
        refine (awake04_any _).mono ?_
        rintro e w4 ⟨rfl, hB4⟩
        go_wp2_with fail
        go_ret
        exact ⟨rfl, hB3w.trans (hB4.mono hB3w.size)⟩
end Go.Proofs.Ytgalkidhgjgbhaa
