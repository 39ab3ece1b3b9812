/-
  The walk of check.Check.
-/
import Derived.Test.YtpinnockcnmofaaGreatDoorNextFacts
import Derived.Test.YtpinnockcnmofaaGreatDoorChkCheck
namespace Go.Proofs.YtpinnockcnmofaaGreatDoor
open Go.RowKit
set_option linter.unusedVariables false

theorem cellU16 {w : World} {B n : Nat} {A : Option Addr} {l : List Nat} (h : Reads w B 1 A n (u16sV l)) {k : Nat} (hk : k < n) : ∃ b off, A = some ⟨b, off, none⟩ ∧ b < B ∧ w.cell? ⟨b, off + k, none⟩ = some (.int .u16 (l.getD k 0 : Nat)) := by
  obtain ⟨ad, rfl, hb, hc⟩ := h.2 (by omega)
  have hn : n = l.length := by have := h.1; rw [u16sV_length] at this; omega
  obtain ⟨b, off, spot⟩ := ad
  have h0 := hc 0 _ (u16sV_get l 0 (by omega))
  have hsp : spot = none := by simpa [Addr.add] using World.cell?_spot h0
  subst hsp
  refine ⟨b, off, rfl, hb, ?_⟩
  rw [← hc k _ (u16sV_get l k (by omega))]
  unfold Addr.add
  by_cases h0 : k = 0
  · subst h0; simp
  · rw [if_neg h0]

theorem and_bit (s k : Nat) (h : s < 65536) : (bits .and .u16 ((s : Int) / (2 : Int) ^ k) 1 == 0) = !(s.testBit k) := by
  have e1 : ((s : Int) / (2 : Int) ^ k) = ((s / 2 ^ k : Nat) : Int) := by simp
  have h2 : s / 2 ^ k < 65536 := Nat.lt_of_le_of_lt (Nat.div_le_self _ _) h
  have e2 : bits .and .u16 ((s / 2 ^ k : Nat) : Int) ((1 : Nat) : Int) = ((s / 2 ^ k &&& 1 : Nat) : Int) := u16_and_nat _ 1 h2 (by omega)
  have e3 : bits .and .u16 ((s / 2 ^ k : Nat) : Int) 1 = ((s / 2 ^ k &&& 1 : Nat) : Int) := e2
  rw [e1, e3, Nat.and_one_is_mod, Nat.testBit_eq_decide_div_mod_eq]
  have h3 : s / 2 ^ k % 2 = 0 ∨ s / 2 ^ k % 2 = 1 := by omega
  rcases h3 with h3 | h3 <;> rw [h3] <;> rfl

set_option maxRecDepth 100000 in
set_option maxHeartbeats 4000000 in
theorem check_any (l : List I) (hok : ∀ i ∈ l, i.Ok) (A : Option Addr) (n c : Nat) (w : World) (hr : Reads w w.heap.size 4 A n (cellsI l)) (hn : n ≤ 1000000) :
    Calls Tryz.prog 9 #[.slice A n c] w (TellsTwo (checkN l) w) := by
  have hl : n = l.length := by have := hr.1; rw [cellsI_length] at this; omega
  have HL := Lib.hid hl
  have hf := fun W h => formed_any l hok A n c W h hn
  have hs := fun W h => stored_any l hok A n c W h hn
  have HF := Lib.hid hf
  have HS := Lib.hid hs
  clear hf hs hl
  by_cases hbad : (formedN l).2 = 0
  · have e0 := formed_zero l hbad
    have hst := storedN_length l hbad
    rw [← HL.out] at hst
    have E0 := Lib.hid e0
    have HST := Lib.hid hst
    have HBAD := Lib.hid hbad
    have HP := Lib.hid (formed_of hbad)
    clear e0 hst hbad
    go_enter Tryz.func9, Tryz.ntmps9
    go_wp2_with fail
    refine (HF.out _ hr).mono ?_
    rintro e w1 ⟨rfl, hB1⟩
    rw [E0.out]
    have hr1 := (hr.below hB1).more hB1.size
    go_wp2_with fail
    refine (HS.out _ hr1).mono ?_
    rintro e w2 ⟨v, rfl, own, hB2⟩
    rw [HST.out] at own
    obtain ⟨As, cs, rfl, hrs⟩ := own_reads own
    have hr2 := (hr1.below hB2).more hB2.size
    have hB2w := hB1.trans (hB2.mono hB1.size)
    clear own hB1 hB2 hr1
    go_wp2_with fail
    go_loopw [23] (fun i wr => ∃ k : Nat, k ≤ n ∧ i = .int .i64 k ∧ Hid (∀ j, j < k → initE l j = 0) ∧ Below w2.heap.size w2 wr) (fun i _ => n - (intOf i).toNat)
    case atStart => exact ⟨0, by omega, rfl, fun j hj => absurd hj (by omega), Below.refl _ _⟩
    case round =>
      obtain ⟨k, hk, rfl, H, hB⟩ := hrel
      by_cases hlt : k < n
      · obtain ⟨b, off, rfl, hb, h0', h1', h2', h3'⟩ := (hr2.below hB).at4 hlt
        obtain ⟨b2, off2, rfl, hb2, hu⟩ := cellU16 (hrs.below hB) hlt
        have hok' := getD_ok hok (k := k) (by have := HL.out; omega)
        have hkl : k < l.length := by have := HL.out; omega
        have pc := fun h => (HP.out).cell hkl h
        have hof : ∀ W, Calls Tryz.prog 21 #[.int .u16 (l.getD k default).code] W fun e w' => e = .returned (.tuple #[.int .i64 (kd (l.getD k default) : Nat), .bool (kx (l.getD k default)), .bool (((kd (l.getD k default) : Nat) : Int) != 0)]) ∧ Below W.heap.size W w' := fun W => of_gives _ hok'.1 W
        have hin : initE l k = if isLd (kd (l.getD k default)) ∧ ((storedN l).getD k 0).testBit (l.getD k default).k = false then 12 else 0 := rfl
        have hsv := getD_lt (by omega) (storedN_lt l) k
        generalize (storedN l).getD k 0 = sv at *
        generalize kd (l.getD k default) = d at *
        generalize kx (l.getD k default) = x at *
        generalize l.getD k default = i at *
        obtain ⟨xc, xt, xf, xk⟩ := i
        obtain ⟨o1, o2, o3, o4⟩ := hok'
        simp only at h0' h1' h2' h3' o1 o2 o3 o4 hof hin pc
        have HOF := Lib.hid hof
        have HIN := Lib.hid hin
        have PC := Lib.hid pc
        have z0 : (0 : Int) ≤ (k : Int) := by omega
        clear hof hin pc h1' h2'
        go_wp2_with fail
        refine (HOF.out _).mono ?_
        rintro e w4 ⟨rfl, hB4⟩
        have hB4' := hB.trans (hB4.mono hB.size)
        have k3 := cell_of_below' hB4 h3' (.inl trivial)
        clear hB4 h0' h3' HOF hu hB
        by_cases hld : isLd d
        · have hx15 := PC.out hld
          have hi := HIN.out
          have hbit := and_bit sv xk hsv
          clear HIN PC
          cases hb0 : sv.testBit xk
          · rw [hb0] at hbit hi
            have hne : initE l k ≠ 0 := by rw [hi, if_pos ⟨hld, rfl⟩]; omega
            have hfin := checkN_bad l HBAD.out k hkl H.out hne
            have HFIN := Lib.hid hfin
            clear hfin hi hne hb0
            rcases hld with rfl | rfl
            all_goals
              go_wp2_with fail
              go_ret2
              exact ⟨by rw [HFIN.out]; rfl, hB2w.trans (hB4'.mono hB2w.size)⟩
          · rw [hb0] at hbit hi
            rw [if_neg (fun g => by cases g.2)] at hi
            have H2 : Hid (∀ j, j < k + 1 → initE l j = 0) := fun j hj => by
              rcases Nat.lt_or_eq_of_le (Nat.le_of_lt_succ hj) with h | h
              · exact H.out j h
              · rw [h]; exact hi
            clear hi hb0
            rcases hld with rfl | rfl
            all_goals
              go_wp2_with fail
              go_roundw
              case rel => exact ⟨k + 1, by omega, by go_num, H2, hB4'⟩
              case measure => simp [intOf] <;> omega
        · have hi := HIN.out
          rw [if_neg (fun g => hld g.1)] at hi
          have n3 : ((d : Int) == 3) = false := by unfold isLd at hld; simp; omega
          have n6 : ((d : Int) == 6) = false := by unfold isLd at hld; simp; omega
          have H2 : Hid (∀ j, j < k + 1 → initE l j = 0) := fun j hj => by
            rcases Nat.lt_or_eq_of_le (Nat.le_of_lt_succ hj) with h | h
            · exact H.out j h
            · rw [h]; exact hi
          clear hi hld HIN PC k3
          go_wp2_with fail
          go_roundw
          case rel => exact ⟨k + 1, by omega, by go_num, H2, hB4'⟩
          case measure => simp [intOf] <;> omega
      · obtain rfl : k = n := by omega
        have hfin := checkN_end l HBAD.out (fun i hi => H.out i (by have := HL.out; omega))
        have HFIN := Lib.hid hfin
        clear hfin hrs hr2 hr
        go_wp2_with fail
        go_ret2
        exact ⟨by rw [HFIN.out]; rfl, hB2w.trans (hB.mono hB2w.size)⟩
  · have e : checkN l = formedN l := if_pos hbad
    have hne : ((((formedN l).2 : Nat) : Int) != 0) = true := by simp; omega
    have HE := Lib.hid e
    clear e hbad HS
    go_enter Tryz.func9, Tryz.ntmps9
    go_wp2_with fail
    refine (HF.out _ hr).mono ?_
    rintro e w1 ⟨rfl, hB1⟩
    clear HF hr
    generalize formedN l = p at *
    go_wp2_with fail
    go_ret2
    exact ⟨by rw [HE.out]; rfl, hB1⟩
end Go.Proofs.YtpinnockcnmofaaGreatDoor
