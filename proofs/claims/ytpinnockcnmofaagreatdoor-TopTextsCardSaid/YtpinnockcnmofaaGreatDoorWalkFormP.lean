/-
  The walk of check.formed.
-/
import Derived.Test.YtpinnockcnmofaaGreatDoorWalkWrong
import Derived.Test.YtpinnockcnmofaaGreatDoorWalkOf
import Derived.Test.YtpinnockcnmofaaGreatDoorTells2
namespace Go.Proofs.YtpinnockcnmofaaGreatDoor
open Go.RowKit
set_option linter.unusedVariables false

set_option maxRecDepth 100000 in
set_option maxHeartbeats 4000000 in
theorem formed_any (l : List I) (hok : ∀ i ∈ l, i.Ok) (A : Option Addr) (n c : Nat) (w : World) (hr : Reads w w.heap.size 4 A n (cellsI l)) (hn : n ≤ 1000000) :
    Calls Tryz.prog 19 #[.slice A n c] w (TellsTwo (formedN l) w) := by
  have hl : n = l.length := by have := hr.1; rw [cellsI_length] at this; omega
  have HL := Lib.hid hl
  by_cases h0 : n = 0
  · have e : formedN l = (0, 4) := if_pos (by omega)
    rw [e]
    subst h0
    clear hl e
    go_enter Tryz.func19, Tryz.ntmps19
    go_wp2
    go_ret2
    exact ⟨rfl, Below.refl _ _⟩
  by_cases h1 : 4096 < n
  · have e : formedN l = (0, 3) := by unfold formedN; rw [if_neg (by omega), if_pos (by omega)]
    rw [e]
    have q0 : ((n : Int) == 0) = false := by simp; omega
    have q1 : (4096 : Int) < (n : Int) := by omega
    clear hl e
    go_enter Tryz.func19, Tryz.ntmps19
    go_wp2
    go_ret2
    exact ⟨rfl, Below.refl _ _⟩
  · have q0 : ((n : Int) == 0) = false := by simp; omega
    have q1 : ¬ (4096 : Int) < (n : Int) := by omega
    clear hl
    go_enter Tryz.func19, Tryz.ntmps19
    go_wp2_with fail
    go_loopw [24] (fun i wr => ∃ k : Nat, k ≤ n ∧ i = .int .i64 k ∧ Hid (∀ j, j < k → badAt l j = 0) ∧ Below w.heap.size w wr) (fun i _ => n - (intOf i).toNat)
    case atStart => exact ⟨0, by omega, rfl, fun j hj => absurd hj (by omega), Below.refl _ _⟩
    case round =>
      obtain ⟨k, hk, rfl, H, hB⟩ := hrel
      by_cases hlt : k < n
      · obtain ⟨b, off, rfl, hb, h0', h1', h2', h3'⟩ := (hr.below hB).at4 hlt
        have hok' := getD_ok hok (k := k) (by have := HL.out; omega)
        have hbad : badAt l k = aloneV (kd (l.getD k default)) (kx (l.getD k default)) (l.getD k default).k (l.getD k default).jt (l.getD k default).jf (n - 1 - k) := by
          unfold badAt aloneN; rw [← HL.out]
        have hd := kd_le (l.getD k default)
        have hof : ∀ W, Calls Tryz.prog 21 #[.int .u16 (l.getD k default).code] W fun e w' => e = .returned (.tuple #[.int .i64 (kd (l.getD k default) : Nat), .bool (kx (l.getD k default)), .bool (((kd (l.getD k default) : Nat) : Int) != 0)]) ∧ Below W.heap.size W w' := fun W => of_gives _ hok'.1 W
        generalize kd (l.getD k default) = d at *
        generalize kx (l.getD k default) = x at *
        generalize l.getD k default = i at *
        obtain ⟨xc, xt, xf, xk⟩ := i
        obtain ⟨o1, o2, o3, o4⟩ := hok'
        simp only at h0' h1' h2' h3' o1 o2 o3 o4 hof hbad
        have HOF := Lib.hid hof
        have HBAD := Lib.hid hbad
        clear hof hbad
        go_wp2_with fail
        refine (HOF.out _).mono ?_
        rintro e w2 ⟨rfl, hB2⟩
        have b2 := (Blk.new wr 47 #[.int .u16 xc, .int .u8 xt, .int .u8 xf, .int .u32 xk]).below hB2 (by simp)
        have hB2w : Below w.heap.size w w2 := (hB.alloc hB.size _).trans (hB2.mono (by have := hB.size; simp; omega))
        have g0 := b2.cell 0
        have g1 := b2.cell 1
        have g2 := b2.cell 2
        have g3 := b2.cell 3
        clear hB2 hB h0' h1' h2' h3' b2 HOF
        go_wp2_with fail
        rw [show ((n : Int) - 1 - (k : Int)) = ((n - 1 - k : Nat) : Int) from by omega]
        refine (wrong_asks xc xt xf xk d x (n - 1 - k) _ hd o4 o2 o3 (by omega)).mono ?_
        rintro e w3 ⟨rfl, hB3⟩
        rw [← HBAD.out]
        have hB3w := hB2w.trans (hB3.mono hB2w.size)
        clear hB3 g0 g1 g2 g3 hB2w
        by_cases hz : badAt l k = 0
        · rw [hz]
          have H2 : Hid (∀ j, j < k + 1 → badAt l j = 0) := fun j hj => by
            rcases Nat.lt_or_eq_of_le (Nat.le_of_lt_succ hj) with h | h
            · exact H.out j h
            · rw [h]; exact hz
          clear hz HBAD
          go_wp2_with fail
          go_roundw
          case rel => exact ⟨k + 1, by omega, by go_num, H2, hB3w⟩
          case measure => simp [intOf] <;> omega
        · have hfin := formedN_bad l k (by have := HL.out; omega) (by have := HL.out; omega) (by have := HL.out; omega) H.out hz
          have hne : (((badAt l k : Nat) : Int) != 0) = true := by simp; omega
          have HF := Lib.hid hfin
          clear hfin HBAD
          generalize badAt l k = E at *
          go_wp2_with fail
          go_ret2
          exact ⟨by rw [HF.out]; rfl, hB3w⟩
      · obtain rfl : k = n := by omega
        have hfin := formedN_end l (by have := HL.out; omega) (by have := HL.out; omega) (fun i hi => H.out i (by have := HL.out; omega))
        rw [← HL.out] at hfin
        have HF := Lib.hid hfin
        obtain ⟨m, rfl⟩ : ∃ m, k = m + 1 := ⟨k - 1, by omega⟩
        obtain ⟨b, off, rfl, hb, h0', h1', h2', h3'⟩ := (hr.below hB).at4 (k := m) (by omega)
        have hok' := getD_ok hok (k := m) (by have := HL.out; omega)
        have hof : ∀ W, Calls Tryz.prog 21 #[.int .u16 (l.getD m default).code] W fun e w' => e = .returned (.tuple #[.int .i64 (kd (l.getD m default) : Nat), .bool (kx (l.getD m default)), .bool (((kd (l.getD m default) : Nat) : Int) != 0)]) ∧ Below W.heap.size W w' := fun W => of_gives _ hok'.1 W
        have HOF := Lib.hid hof
        clear hfin hof hr h1' h2' h3'
        generalize (l.getD m default).code = xc at *
        have z0 : (0 : Int) ≤ (m : Int) := by omega
        have e1 : (((m + 1 : Nat) : Int) - 1) = (m : Int) := by omega
        go_wp2_with fail
        refine (HOF.out _).mono ?_
        rintro e w2 ⟨rfl, hB2⟩
        have hB2w := hB.trans (hB2.mono hB.size)
        have hf2 := HF.out
        rw [show m + 1 - 1 = m from rfl] at hf2
        clear hB2 hB HOF hok' HF h0'
        generalize kd (l.getD m default) = d at *
        by_cases hend : isEnd d
        · rw [if_pos hend] at hf2
          have HF2 := Lib.hid hf2
          clear hf2
          rcases hend with rfl | rfl
          · go_wp2_with fail
            go_ret2
            exact ⟨by rw [HF2.out]; rfl, hB2w⟩
          · go_wp2_with fail
            go_ret2
            exact ⟨by rw [HF2.out]; rfl, hB2w⟩
        · rw [if_neg hend] at hf2
          have HF2 := Lib.hid hf2
          have n14 : ((d : Int) != 14) = true := by unfold isEnd at hend; simp; omega
          have n15 : ((d : Int) != 15) = true := by unfold isEnd at hend; simp; omega
          clear hf2 hend
          go_wp2_with fail
          go_ret2
          exact ⟨by rw [HF2.out]; rfl, hB2w⟩
end Go.Proofs.YtpinnockcnmofaaGreatDoor
