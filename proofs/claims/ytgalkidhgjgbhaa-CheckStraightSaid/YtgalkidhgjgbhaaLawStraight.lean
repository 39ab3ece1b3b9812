/-
  The walk of CheckStraight.
-/
import Derived.Test.YtgalkidhgjgbhaaLawLong
import Derived.Test.YtgalkidhgjgbhaaChkStraight
import Derived.Test.YtgalkidhgjgbhaaWalkReach
namespace Go.Proofs.Ytgalkidhgjgbhaa
open Go.RowKit
set_option linter.unusedVariables false

def bitsN (a : Nat) : List Bool := (List.range 16).map a.testBit
theorem bitsN_length (a : Nat) : (bitsN a).length = 16 := by simp [bitsN]
theorem bitsN_getD (a c : Nat) (h : c < 16) : (bitsN a).getD c false = a.testBit c := by simp [bitsN, h]
theorem bitsN_set (a c : Nat) (h : c < 16) : (bitsN a).set c true = bitsN (a ||| 2 ^ c) := by
  apply List.ext_getElem (by simp [bitsN])
  intro j h1 h2
  have hj : j < 16 := by simpa [bitsN] using h2
  rw [List.getElem_set]
  simp only [bitsN, List.getElem_map, List.getElem_range, Nat.testBit_or, Nat.testBit_two_pow]
  by_cases e : c = j
  · simp [e]
  · simp [e]
def badV : Option Nat → Value
  | some m => .int .i64 (m : Nat)
  | none => .int .i64 (-1)

theorem own_setCellB {W : World} {B : Nat} {e : TypeId} {size n : Nat} {xs : List Value} {v : Value} (h : W.ownsRow B e size v n xs) {p : Addr} (hp : p.block < B) (u : Value) : (W.setCell p u).ownsRow B e size v n xs := by
  refine ⟨h.1, ?_⟩
  rcases h.2 with h0 | ⟨g, cap, cur, h1, h2, h3, h4⟩
  · exact .inl h0
  · subst h1
    exact .inr ⟨g, cap, cur, rfl, h2, (Below.heap_setCell _ _ _ _ (by omega)).trans h3, h4⟩
theorem stProg_ok (l : List Nat) : ∀ i ∈ stProg l, i.Ok := fun i hi => by
  rcases List.mem_append.1 hi with h | h
  · obtain ⟨b, _, rfl⟩ := List.mem_map.1 h
    have h4 : b / 16 % 4 < 4 := by omega
    have hc : stCode b < 65536 := by
      unfold stCode
      generalize b / 16 % 4 = q at *
      match q, h4 with
      | 0, _ => decide
      | 1, _ => decide
      | 2, _ => decide
      | 3, _ => decide
    exact ⟨hc, by show (0 : Nat) < 256; omega, by show (0 : Nat) < 256; omega, by show b % 16 < 4294967296; omega⟩
  · simp only [List.mem_cons, List.not_mem_nil, or_false] at h
    subst h
    simp [I.Ok, retI]
theorem straight_store {l : List Nat} {k : Nat} (hk : k < l.length) (hq : l.getD k 0 / 16 % 4 = 0 ∨ l.getD k 0 / 16 % 4 = 2) : maskN l (k + 1) = maskN l k ||| 2 ^ (l.getD k 0 % 16) ∧ findBad (initS l) (k + 1) 0 = findBad (initS l) k 0 := by
  have hkd : kd (stInst (l.getD k 0)) = 8 ∨ kd (stInst (l.getD k 0)) = 9 := by
    rw [stInst_kd]
    rcases hq with h | h <;> rw [h] <;> simp
  have hin : initS l k = 0 := by unfold initS; rw [if_neg (fun h => by have := h.1; unfold isLd at this; omega)]
  refine ⟨?_, ?_⟩
  · rw [maskN_succ l k hk]
    unfold nowN
    rw [if_pos (by unfold isSt; omega)]
    rfl
  · rw [findBad_snoc, hin]
    cases findBad (initS l) k 0 <;> rfl
theorem straight_load {l : List Nat} {k : Nat} (hk : k < l.length) (hq : l.getD k 0 / 16 % 4 = 1 ∨ l.getD k 0 / 16 % 4 = 3) : maskN l (k + 1) = maskN l k ∧ findBad (initS l) (k + 1) 0 = match findBad (initS l) k 0 with | some m => some m | none => if (maskN l k).testBit (l.getD k 0 % 16) = false then some k else none := by
  have hkd : kd (stInst (l.getD k 0)) = 3 ∨ kd (stInst (l.getD k 0)) = 6 := by
    rw [stInst_kd]
    rcases hq with h | h <;> rw [h] <;> simp
  refine ⟨?_, ?_⟩
  · rw [maskN_succ l k hk]
    unfold nowN
    rw [if_neg (by unfold isSt; omega)]
  · rw [findBad_snoc]
    have hin : initS l k = if (maskN l k).testBit (l.getD k 0 % 16) = false then 12 else 0 := by
      unfold initS
      by_cases h : (maskN l k).testBit (l.getD k 0 % 16) = false
      · rw [if_pos h, if_pos ⟨by unfold isLd; omega, h⟩]
      · rw [if_neg h, if_neg (fun h2 => h h2.2)]
    rw [hin]
    cases findBad (initS l) k 0 with
    | some m => rfl
    | none => by_cases h : (maskN l k).testBit (l.getD k 0 % 16) = false <;> simp

set_option maxRecDepth 100000 in
set_option maxHeartbeats 4000000 in
theorem checkStraight_few (w : World) (l : List Nat) (hok : ∀ b ∈ l, b < 256) (A : Option Addr) (n c : Nat) (hr : Reads w w.heap.size 1 A n (bytesV l)) (hn : n ≤ 60) :
    Calls Try.prog 9 #[.slice A n c] w fun e w' => e = .returned (.bool true) ∧ Below w.heap.size w w' := by
  obtain ⟨i0, hi0, hz0, hz1, hz2⟩ := info_parts info_inst
  have hl : n = l.length := by have := hr.1; rw [bytesV_length] at this; omega
  have HL := Lib.hid hl
  clear hl
  have hle : ¬ (60 : Int) < (n : Int) := by omega
  go_enter Try.func9, Try.ntmps9
  go_wp2_with fail
  have hb0 : RowK (w.alloc (.cells #[.bool false, .bool false, .bool false, .bool false, .bool false, .bool false, .bool false, .bool false, .bool false, .bool false, .bool false, .bool false, .bool false, .bool false, .bool false, .bool false] 58)) w.heap.size 58 16 (boolsV (bitsN (maskN l 0))) := RowK.new w 58 #[.bool false, .bool false, .bool false, .bool false, .bool false, .bool false, .bool false, .bool false, .bool false, .bool false, .bool false, .bool false, .bool false, .bool false, .bool false, .bool false] (boolsV (bitsN 0)) (by rfl)
  have hB0 : Below w.heap.size w (w.alloc (.cells #[.bool false, .bool false, .bool false, .bool false, .bool false, .bool false, .bool false, .bool false, .bool false, .bool false, .bool false, .bool false, .bool false, .bool false, .bool false, .bool false] 58)) := (Below.refl _ w).alloc (Nat.le_refl _) _
  have hs0 : w.heap.size < (w.alloc (.cells #[.bool false, .bool false, .bool false, .bool false, .bool false, .bool false, .bool false, .bool false, .bool false, .bool false, .bool false, .bool false, .bool false, .bool false, .bool false, .bool false] 58)).heap.size := by simp
  generalize (w.alloc (.cells #[.bool false, .bool false, .bool false, .bool false, .bool false, .bool false, .bool false, .bool false, .bool false, .bool false, .bool false, .bool false, .bool false, .bool false, .bool false, .bool false] 58)) = w0 at *
  go_loopw [3, 5, 6] (fun v b i wr => ∃ k : Nat, k ≤ n ∧ i = .int .i64 k ∧ b = badV (findBad (initS l) k 0) ∧ wr.ownsRow (w.heap.size + 1) 37 4 v k (cellsI ((l.take k).map stInst)) ∧ RowK wr w.heap.size 58 16 (boolsV (bitsN (maskN l k))) ∧ Below w.heap.size w wr) (fun _ _ i _ => n - (intOf i).toNat)
  case atStart => exact ⟨0, by omega, rfl, rfl, World.ownsRow_nil _ _ _ _, hb0, hB0⟩
  case round =>
    obtain ⟨k, hk, rfl, rfl, hown, hb, hB⟩ := hrel
    by_cases hlt : k < n
    · have hkl : k < l.length := by have := HL.out; omega
      obtain ⟨b1, off1, rfl, hbb, hc⟩ := (hr.below hB).at1 hlt
      have h1 := hc k hlt
      have hbl : l.getD k 0 < 256 := by
        have e : l.getD k 0 = l[k] := by simp [hkl]
        rw [e]; exact hok _ (List.getElem_mem hkl)
      have htk : (l.take (k + 1)).map stInst = (l.take k).map stInst ++ [stInst (l.getD k 0)] := by
        rw [List.take_succ_eq_append_getElem hkl, List.map_append]; simp [hkl]
      have z0 : (0 : Int) ≤ (k : Int) := by omega
      have z1 : (k : Int) < (n : Int) := by omega
      have hsti : stInst (l.getD k 0) = ⟨[2, 96, 3, 97].getD (l.getD k 0 / 16 % 4) 0, 0, 0, l.getD k 0 % 16⟩ := rfl
      have hst := straight_store (l := l) hkl
      have hld := straight_load (l := l) hkl
      generalize hy : l.getD k 0 = y at *
      have h4 : y / 16 % 4 = 0 ∨ y / 16 % 4 = 2 ∨ y / 16 % 4 = 1 ∨ y / 16 % 4 = 3 := by omega
      obtain ⟨cc, hcc⟩ : ∃ cc, cc = y % 16 := ⟨_, rfl⟩
      have hcl : cc < 16 := by omega
      have hci : (y : Int) % 16 = (cc : Int) := by omega
      rw [← hcc] at hst hld hsti
      clear hcc
      have hb1w : b1 < w.heap.size := hbb
      have hbw : b1 < wr.heap.size := by have := hb.lt; omega
      have h1a : ∀ o, (wr.alloc o).cell? ⟨b1, off1 + k, none⟩ = some (.int .u8 y) := fun o => (World.cell?_alloc_lt wr o _ hbw).trans h1
      have hgw := hb.lt
      have zc0 : (0 : Int) ≤ (cc : Int) := by omega
      have zc1 : (cc : Int) < 16 := by omega
      have hcb0 := fun (W1 : World) (h : RowK W1 w.heap.size 58 16 (boolsV (bitsN (maskN l k)))) => h.cell (boolsV_get _ cc (by rw [bitsN_length]; exact hcl))
      rw [bitsN_getD _ _ hcl] at hcb0
      have hset : boolsV (bitsN (maskN l k ||| 2 ^ cc)) = (boolsV (bitsN (maskN l k))).set cc (.bool true) := by rw [boolsV_set, bitsN_set _ _ hcl]
      clear hc hr
      have HTK := Lib.hid htk
      have HSI := Lib.hid hsti
      have HST := Lib.hid hst
      have HLD := Lib.hid hld
      have HCB := Lib.hid hcb0
      have HSET := Lib.hid hset
      clear htk hsti hst hld hcb0 hset hy
      rcases h4 with h4 | h4 | h4 | h4
      · have hqi : (y : Int) / 16 % 4 = 0 := by omega
        obtain ⟨hM, hF⟩ := HST.out (.inl h4)
        have hsi : stInst y = ⟨2, 0, 0, cc⟩ := by rw [HSI.out, h4]; rfl
        have HM := Lib.hid hM
        have HF := Lib.hid hF
        have HS2 := Lib.hid hsi
        clear hM hF hsi h4
        go_wp2_with (at_builtin; refine wpList_append_lit rfl (.tmp 36) (.tmp 40) 24 rfl (w.heap.size + 1) 37 i0 _ 4 8 Try.underlying24 hi0 hz0 hz1 hz2 rfl (by omega) _ _ k _ rfl (hown.alloc _) _ 1 1 (by simp) _ rfl rfl (by simp [Value.oneCell']) (by simp only [maxLen]; omega) (by omega) (by simp; omega) ?_; intro v1 w1 hown1 hB1 hs1; have hbk := (hb.alloc _).below hB1 (Nat.lt_succ_self _); have hcb := HCB.out _ hbk; have hcf := hbk.frozen cc; have hBw := (hB.alloc hB.size _).trans (hB1.mono (Nat.le_succ _)))
        have hbs := hbk.set_ cc (.bool true)
        rw [← HSET.out, ← HM.out] at hbs
        go_roundw
        case rel =>
          refine ⟨k + 1, by omega, by go_num, by rw [HF.out], ?_, hbs, hBw.setCell (Nat.le_refl _) _⟩
          rw [HTK.out, HS2.out, cellsI_append]
          exact own_setCellB hown1 (Nat.lt_succ_self _) _
        case measure => simp [intOf] <;> omega
      · have hqi : (y : Int) / 16 % 4 = 2 := by omega
        obtain ⟨hM, hF⟩ := HST.out (.inr h4)
        have hsi : stInst y = ⟨3, 0, 0, cc⟩ := by rw [HSI.out, h4]; rfl
        have HM := Lib.hid hM
        have HF := Lib.hid hF
        have HS2 := Lib.hid hsi
        clear hM hF hsi h4
        go_wp2_with (at_builtin; refine wpList_append_lit rfl (.tmp 36) (.tmp 40) 24 rfl (w.heap.size + 1) 37 i0 _ 4 8 Try.underlying24 hi0 hz0 hz1 hz2 rfl (by omega) _ _ k _ rfl (hown.alloc _) _ 1 1 (by simp) _ rfl rfl (by simp [Value.oneCell']) (by simp only [maxLen]; omega) (by omega) (by simp; omega) ?_; intro v1 w1 hown1 hB1 hs1; have hbk := (hb.alloc _).below hB1 (Nat.lt_succ_self _); have hcb := HCB.out _ hbk; have hcf := hbk.frozen cc; have hBw := (hB.alloc hB.size _).trans (hB1.mono (Nat.le_succ _)))
        have hbs := hbk.set_ cc (.bool true)
        rw [← HSET.out, ← HM.out] at hbs
        go_roundw
        case rel =>
          refine ⟨k + 1, by omega, by go_num, by rw [HF.out], ?_, hbs, hBw.setCell (Nat.le_refl _) _⟩
          rw [HTK.out, HS2.out, cellsI_append]
          exact own_setCellB hown1 (Nat.lt_succ_self _) _
        case measure => simp [intOf] <;> omega
      · have hqi : (y : Int) / 16 % 4 = 1 := by omega
        obtain ⟨hM, hF⟩ := HLD.out (.inl h4)
        have hsi : stInst y = ⟨96, 0, 0, cc⟩ := by rw [HSI.out, h4]; rfl
        have HM := Lib.hid hM
        have HS2 := Lib.hid hsi
        clear hM hsi h4
        cases hfb : findBad (initS l) k 0 with
        | some m =>
          rw [hfb] at hF
          have HF := Lib.hid hF
          have zm : ¬ (m : Int) < 0 := by omega
          clear hF hfb
          unfold badV
          cases htb : (maskN l k).testBit cc with
          | true =>
            have HTB := Lib.hid htb
            rw [htb] at HCB
            clear htb
            go_wp2_with (at_builtin; refine wpList_append_lit rfl (.tmp 36) (.tmp 40) 24 rfl (w.heap.size + 1) 37 i0 _ 4 8 Try.underlying24 hi0 hz0 hz1 hz2 rfl (by omega) _ _ k _ rfl (hown.alloc _) _ 1 1 (by simp) _ rfl rfl (by simp [Value.oneCell']) (by simp only [maxLen]; omega) (by omega) (by simp; omega) ?_; intro v1 w1 hown1 hB1 hs1; have hbk := (hb.alloc _).below hB1 (Nat.lt_succ_self _); have hcb := HCB.out _ hbk; have hcf := hbk.frozen cc; have hBw := (hB.alloc hB.size _).trans (hB1.mono (Nat.le_succ _)))
            go_roundw
            case rel =>
              refine ⟨k + 1, by omega, by go_num, by first | (rw [HF.out]; done) | (rw [HF.out]; rfl), ?_, by rw [HM.out]; exact hbk, hBw⟩
              rw [HTK.out, HS2.out, cellsI_append]
              exact hown1
            case measure => simp [intOf] <;> omega
          | false =>
            have HTB := Lib.hid htb
            rw [htb] at HCB
            clear htb
            go_wp2_with (at_builtin; refine wpList_append_lit rfl (.tmp 36) (.tmp 40) 24 rfl (w.heap.size + 1) 37 i0 _ 4 8 Try.underlying24 hi0 hz0 hz1 hz2 rfl (by omega) _ _ k _ rfl (hown.alloc _) _ 1 1 (by simp) _ rfl rfl (by simp [Value.oneCell']) (by simp only [maxLen]; omega) (by omega) (by simp; omega) ?_; intro v1 w1 hown1 hB1 hs1; have hbk := (hb.alloc _).below hB1 (Nat.lt_succ_self _); have hcb := HCB.out _ hbk; have hcf := hbk.frozen cc; have hBw := (hB.alloc hB.size _).trans (hB1.mono (Nat.le_succ _)))
            go_roundw
            case rel =>
              refine ⟨k + 1, by omega, by go_num, by first | (rw [HF.out]; done) | (rw [HF.out]; rfl), ?_, by rw [HM.out]; exact hbk, hBw⟩
              rw [HTK.out, HS2.out, cellsI_append]
              exact hown1
            case measure => simp [intOf] <;> omega
        | none =>
          rw [hfb] at hF
          clear hfb
          unfold badV
          cases htb : (maskN l k).testBit cc with
          | true =>
            rw [htb] at hF HCB
            have HF := Lib.hid hF
            clear hF htb
            go_wp2_with (at_builtin; refine wpList_append_lit rfl (.tmp 36) (.tmp 40) 24 rfl (w.heap.size + 1) 37 i0 _ 4 8 Try.underlying24 hi0 hz0 hz1 hz2 rfl (by omega) _ _ k _ rfl (hown.alloc _) _ 1 1 (by simp) _ rfl rfl (by simp [Value.oneCell']) (by simp only [maxLen]; omega) (by omega) (by simp; omega) ?_; intro v1 w1 hown1 hB1 hs1; have hbk := (hb.alloc _).below hB1 (Nat.lt_succ_self _); have hcb := HCB.out _ hbk; have hcf := hbk.frozen cc; have hBw := (hB.alloc hB.size _).trans (hB1.mono (Nat.le_succ _)))
            go_roundw
            case rel =>
              refine ⟨k + 1, by omega, by go_num, by first | (rw [HF.out]; done) | (rw [HF.out]; rfl), ?_, by rw [HM.out]; exact hbk, hBw⟩
              rw [HTK.out, HS2.out, cellsI_append]
              exact hown1
            case measure => simp [intOf] <;> omega
          | false =>
            rw [htb] at hF HCB
            have HF := Lib.hid hF
            clear hF htb
            go_wp2_with (at_builtin; refine wpList_append_lit rfl (.tmp 36) (.tmp 40) 24 rfl (w.heap.size + 1) 37 i0 _ 4 8 Try.underlying24 hi0 hz0 hz1 hz2 rfl (by omega) _ _ k _ rfl (hown.alloc _) _ 1 1 (by simp) _ rfl rfl (by simp [Value.oneCell']) (by simp only [maxLen]; omega) (by omega) (by simp; omega) ?_; intro v1 w1 hown1 hB1 hs1; have hbk := (hb.alloc _).below hB1 (Nat.lt_succ_self _); have hcb := HCB.out _ hbk; have hcf := hbk.frozen cc; have hBw := (hB.alloc hB.size _).trans (hB1.mono (Nat.le_succ _)))
            go_roundw
            case rel =>
              refine ⟨k + 1, by omega, by go_num, by first | (rw [HF.out]; done) | (rw [HF.out]; rfl), ?_, by rw [HM.out]; exact hbk, hBw⟩
              rw [HTK.out, HS2.out, cellsI_append]
              exact hown1
            case measure => simp [intOf] <;> omega
      · have hqi : (y : Int) / 16 % 4 = 3 := by omega
        obtain ⟨hM, hF⟩ := HLD.out (.inr h4)
        have hsi : stInst y = ⟨97, 0, 0, cc⟩ := by rw [HSI.out, h4]; rfl
        have HM := Lib.hid hM
        have HS2 := Lib.hid hsi
        clear hM hsi h4
        cases hfb : findBad (initS l) k 0 with
        | some m =>
          rw [hfb] at hF
          have HF := Lib.hid hF
          have zm : ¬ (m : Int) < 0 := by omega
          clear hF hfb
          unfold badV
          cases htb : (maskN l k).testBit cc with
          | true =>
            have HTB := Lib.hid htb
            rw [htb] at HCB
            clear htb
            go_wp2_with (at_builtin; refine wpList_append_lit rfl (.tmp 36) (.tmp 40) 24 rfl (w.heap.size + 1) 37 i0 _ 4 8 Try.underlying24 hi0 hz0 hz1 hz2 rfl (by omega) _ _ k _ rfl (hown.alloc _) _ 1 1 (by simp) _ rfl rfl (by simp [Value.oneCell']) (by simp only [maxLen]; omega) (by omega) (by simp; omega) ?_; intro v1 w1 hown1 hB1 hs1; have hbk := (hb.alloc _).below hB1 (Nat.lt_succ_self _); have hcb := HCB.out _ hbk; have hcf := hbk.frozen cc; have hBw := (hB.alloc hB.size _).trans (hB1.mono (Nat.le_succ _)))
            go_roundw
            case rel =>
              refine ⟨k + 1, by omega, by go_num, by first | (rw [HF.out]; done) | (rw [HF.out]; rfl), ?_, by rw [HM.out]; exact hbk, hBw⟩
              rw [HTK.out, HS2.out, cellsI_append]
              exact hown1
            case measure => simp [intOf] <;> omega
          | false =>
            have HTB := Lib.hid htb
            rw [htb] at HCB
            clear htb
            go_wp2_with (at_builtin; refine wpList_append_lit rfl (.tmp 36) (.tmp 40) 24 rfl (w.heap.size + 1) 37 i0 _ 4 8 Try.underlying24 hi0 hz0 hz1 hz2 rfl (by omega) _ _ k _ rfl (hown.alloc _) _ 1 1 (by simp) _ rfl rfl (by simp [Value.oneCell']) (by simp only [maxLen]; omega) (by omega) (by simp; omega) ?_; intro v1 w1 hown1 hB1 hs1; have hbk := (hb.alloc _).below hB1 (Nat.lt_succ_self _); have hcb := HCB.out _ hbk; have hcf := hbk.frozen cc; have hBw := (hB.alloc hB.size _).trans (hB1.mono (Nat.le_succ _)))
            go_roundw
            case rel =>
              refine ⟨k + 1, by omega, by go_num, by first | (rw [HF.out]; done) | (rw [HF.out]; rfl), ?_, by rw [HM.out]; exact hbk, hBw⟩
              rw [HTK.out, HS2.out, cellsI_append]
              exact hown1
            case measure => simp [intOf] <;> omega
        | none =>
          rw [hfb] at hF
          clear hfb
          unfold badV
          cases htb : (maskN l k).testBit cc with
          | true =>
            rw [htb] at hF HCB
            have HF := Lib.hid hF
            clear hF htb
            go_wp2_with (at_builtin; refine wpList_append_lit rfl (.tmp 36) (.tmp 40) 24 rfl (w.heap.size + 1) 37 i0 _ 4 8 Try.underlying24 hi0 hz0 hz1 hz2 rfl (by omega) _ _ k _ rfl (hown.alloc _) _ 1 1 (by simp) _ rfl rfl (by simp [Value.oneCell']) (by simp only [maxLen]; omega) (by omega) (by simp; omega) ?_; intro v1 w1 hown1 hB1 hs1; have hbk := (hb.alloc _).below hB1 (Nat.lt_succ_self _); have hcb := HCB.out _ hbk; have hcf := hbk.frozen cc; have hBw := (hB.alloc hB.size _).trans (hB1.mono (Nat.le_succ _)))
            go_roundw
            case rel =>
              refine ⟨k + 1, by omega, by go_num, by first | (rw [HF.out]; done) | (rw [HF.out]; rfl), ?_, by rw [HM.out]; exact hbk, hBw⟩
              rw [HTK.out, HS2.out, cellsI_append]
              exact hown1
            case measure => simp [intOf] <;> omega
          | false =>
            rw [htb] at hF HCB
            have HF := Lib.hid hF
            clear hF htb
            go_wp2_with (at_builtin; refine wpList_append_lit rfl (.tmp 36) (.tmp 40) 24 rfl (w.heap.size + 1) 37 i0 _ 4 8 Try.underlying24 hi0 hz0 hz1 hz2 rfl (by omega) _ _ k _ rfl (hown.alloc _) _ 1 1 (by simp) _ rfl rfl (by simp [Value.oneCell']) (by simp only [maxLen]; omega) (by omega) (by simp; omega) ?_; intro v1 w1 hown1 hB1 hs1; have hbk := (hb.alloc _).below hB1 (Nat.lt_succ_self _); have hcb := HCB.out _ hbk; have hcf := hbk.frozen cc; have hBw := (hB.alloc hB.size _).trans (hB1.mono (Nat.le_succ _)))
            go_roundw
            case rel =>
              refine ⟨k + 1, by omega, by go_num, by first | (rw [HF.out]; done) | (rw [HF.out]; rfl), ?_, by rw [HM.out]; exact hbk, hBw⟩
              rw [HTK.out, HS2.out, cellsI_append]
              exact hown1
            case measure => simp [intOf] <;> omega
    · obtain rfl : k = n := by omega
      have hfin : l.take k = l := List.take_of_length_le (by have := HL.out; omega)
      rw [hfin] at hown
      have hck := stProg_check l (by have := HL.out; omega)
      have hlen : k = l.length := HL.out
      rw [← hlen] at hck
      have hpok := stProg_ok l
      have hgb := hb.lt
      have hvals : cellsI (stProg l) = cellsI (l.map stInst) ++ [.int .u16 22, .int .u8 0, .int .u8 0, .int .u32 0] := by unfold stProg; rw [cellsI_append]; rfl
      have hpl : (stProg l).length = k + 1 := by rw [stProg_length]; omega
      have HV := Lib.hid hvals
      have HPL := Lib.hid hpl
      generalize stProg l = p at *
      generalize findBad (initS l) k 0 = fb at *
      have HCK := Lib.hid hck
      clear hvals hck hfin hlen hr hb hpl hb0
      go_wp2_with (at_builtin; refine wpList_append_lit rfl (.tmp 60) (.tmp 62) 24 rfl (w.heap.size + 1) 37 i0 _ 4 8 Try.underlying24 hi0 hz0 hz1 hz2 rfl (by omega) _ _ k _ rfl hown _ 1 1 rfl _ rfl rfl (by simp [Value.oneCell']) (by simp only [maxLen]; omega) (by omega) (by omega) ?_; intro v1 w1 hown1 hB1 hs1)
      have hBw := hB.trans (hB1.mono (Nat.le_succ _))
      rw [← HV.out] at hown1
      obtain ⟨A1, c1, rfl, hr1⟩ := own_reads hown1
      clear hown hown1 hB1 hB
      refine (check_any p hpok A1 _ c1 w1 hr1 (by omega)).mono ?_
      rintro e w2 ⟨rfl, hB2⟩
      rw [HCK.out]
      have hB2w := hBw.trans (hB2.mono hBw.size)
      clear hB2 hBw hr1
      unfold badV
      cases fb with
      | some m =>
        have zm : (0 : Int) ≤ (m : Int) := by omega
        go_wp2_with fail
        refine (awake04_any _).mono ?_
        rintro e w3 ⟨rfl, hB3⟩
        go_wp2_with fail
        go_ret
        exact ⟨rfl, hB2w.trans (hB3.mono hB2w.size)⟩
      | none =>
        go_wp2_with fail
        refine (awake04_any _).mono ?_
        rintro e w3 ⟨rfl, hB3⟩
        go_wp2_with fail
        go_ret
        exact ⟨rfl, hB2w.trans (hB3.mono hB2w.size)⟩
set_option maxRecDepth 100000 in
theorem checkStraight_walk (w : World) (l : List Nat) (hok : ∀ b ∈ l, b < 256) (A : Option Addr) (n c : Nat) (hr : Reads w w.heap.size 1 A n (bytesV l)) (_hc : n ≤ c) (_hm : c ≤ maxLen) :
    Calls Try.prog 9 #[.slice A n c] w fun e w' => e = .returned (.bool true) ∧ Below w.heap.size w w' := by
  by_cases hn : n ≤ 60
  · exact checkStraight_few w l hok A n c hr hn
  · have h1 : (60 : Int) < (n : Int) := by omega
    go_enter Try.func9, Try.ntmps9
    go_wp2_with fail
    go_ret
    exact ⟨rfl, Below.refl _ _⟩
end Go.Proofs.Ytgalkidhgjgbhaa
