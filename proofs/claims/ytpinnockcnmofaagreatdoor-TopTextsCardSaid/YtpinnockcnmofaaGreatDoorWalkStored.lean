/-
  The walks of check.Stored and its closure.
-/
import Derived.Test.YtpinnockcnmofaaGreatDoorWalkFormP
import Derived.Test.YtpinnockcnmofaaGreatDoorChkFacts
import Derived.Test.YtpinnockcnmofaaGreatDoorRow16
import Derived.Laws.BitsAllLaws
import Derived.Laws.CopyOwn
namespace Go.Proofs.YtpinnockcnmofaaGreatDoor
open Go.RowKit
set_option linter.unusedVariables false

theorem info_arr : (Tryz.prog.info? 103).map (fun i => (i.zero, i.size, i.bytes)) = some (some (.agg (Array.replicate 4096 (.int .u16 0))), 4096, 8192) := by kernel_rfl
theorem info_u16 : (Tryz.prog.info? 44).map (fun i => (i.zero, i.size, i.bytes)) = some (some (.int .u16 0), 1, 2) := by kernel_rfl

theorem grown_set (w : World) (p : Addr) (u : Value) : w.grownBy (w.setCell p u).drew (some p.block) :=
  ⟨rfl, rfl, rfl, by simp [World.setCell, World.drew], fun k _ hk => Below.heap_setCell w p u k (fun e => hk (by rw [e]))⟩
def TellsGoes (a : List Nat) (g : Nat) (w : World) (e : Ending) (w' : World) : Prop := e = .returned (.tuple #[]) ∧ RowK w' g 103 4096 (u16sV a) ∧ w.grownBy w' (some g)

set_option maxRecDepth 100000 in
set_option maxHeartbeats 1000000 in
theorem goes_any (a : List Nat) (hok : ∀ x ∈ a, x < 65536) (to now g nb : Nat) (ht : to < a.length) (hn : now < 65536) (w : World) (hg : RowK w g 103 4096 (u16sV a)) (hb : w.cell? ⟨nb, 0, none⟩ = some (.int .u16 now)) :
    Calls Tryz.prog 39 #[.int .i64 to, .pointer (some ⟨g, 0, none⟩), .pointer (some ⟨nb, 0, none⟩)] w (TellsGoes (goesN a to now) g w) := by
  have hlen := hg.len
  rw [u16sV_length] at hlen
  have hc := hg.cell (u16sV_get a to ht)
  have hf := hg.frozen to
  have hx := getD_lt (by omega) hok to
  have hand : bits .and .u16 ((a.getD to 0 : Nat) : Int) (now : Int) = ((a.getD to 0 &&& now : Nat) : Int) := u16_and_nat _ _ hx hn
  have hset := hg.set_ to (.int .u16 (a.getD to 0 &&& now : Nat))
  rw [u16sV_set] at hset
  have HS := Lib.hid hset
  have z0 : (0 : Int) ≤ (to : Int) := by omega
  have z1 : (to : Int) < 4096 := by omega
  unfold goesN
  clear hset hg hx
  generalize a.getD to 0 = v at *
  generalize (v &&& now) = r at *
  go_enter Tryz.func39, Tryz.ntmps39
  go_wp2_with fail
  go_region
  go_end0
  exact ⟨rfl, HS.out.drew, grown_set w ⟨g, to, none⟩ _⟩

theorem wrap_pow16 (k : Nat) (hk : k ≤ 15) : IntKind.u16.wrap ((2 : Int) ^ k) = ((2 ^ k : Nat) : Int) := by
  have h : k = 0 ∨ k = 1 ∨ k = 2 ∨ k = 3 ∨ k = 4 ∨ k = 5 ∨ k = 6 ∨ k = 7 ∨ k = 8 ∨ k = 9 ∨ k = 10 ∨ k = 11 ∨ k = 12 ∨ k = 13 ∨ k = 14 ∨ k = 15 := by omega
  rcases h with rfl | rfl | rfl | rfl | rfl | rfl | rfl | rfl | rfl | rfl | rfl | rfl | rfl | rfl | rfl | rfl <;> rfl

/-- What a call that makes numbers of 16 bits hands back. -/
def MakesU16s (l : List Nat) (w : World) (e : Ending) (w' : World) : Prop :=
  ∃ v, e = .returned v ∧ w'.ownsRow w.heap.size 44 1 v l.length (u16sV l) ∧ Below w.heap.size w w'

set_option maxRecDepth 100000 in
set_option maxHeartbeats 1000000 in
theorem stored_no (l : List I) (hok : ∀ i ∈ l, i.Ok) (A : Option Addr) (n c : Nat) (w : World) (hr : Reads w w.heap.size 4 A n (cellsI l)) (hn : n ≤ 1000000) (hbad : (formedN l).2 ≠ 0) :
    Calls Tryz.prog 20 #[.slice A n c] w (MakesU16s (storedN l) w) := by
  have e : storedN l = [] := if_neg hbad
  rw [e]
  have hne : ((((formedN l).2 : Nat) : Int) != 0) = true := by simp; omega
  have H := Lib.hid (formed_any l hok A n c w hr hn)
  clear e hbad hr
  go_enter Tryz.func20, Tryz.ntmps20
  go_wp2_with fail
  refine H.out.mono ?_
  rintro e w1 ⟨rfl, hB1⟩
  clear H
  generalize formedN l = p at *
  go_wp2_with fail
  go_ret
  exact ⟨_, rfl, World.ownsRow_nil _ _ _ _, hB1⟩

/-- The cells at the start: so many are all ones. -/
def fillA (n k : Nat) : List Nat := List.replicate k 65535 ++ List.replicate (n - k) 0
theorem fillA_length (n k : Nat) (hk : k ≤ n) : (fillA n k).length = n := by unfold fillA; simp; omega
theorem fillA_set (n k : Nat) (hk : k < n) : (fillA n k).set k 65535 = fillA n (k + 1) := by
  unfold fillA
  rw [List.set_append_right _ _ (by simp), List.length_replicate, Nat.sub_self, show n - k = n - (k + 1) + 1 by omega, List.replicate_succ, List.set_cons_zero, List.replicate_succ', List.append_assoc]
  rfl
theorem fillA_start (n : Nat) (hn : 0 < n) : (fillA n n).set 0 0 = startN n := by
  unfold fillA startN
  simp

theorem take_zeros (n N : Nat) (h : n ≤ N) : (Array.replicate N (Value.int .u16 0)).toList.take n = u16sV (fillA n 0) := by
  simp [u16sV, fillA, List.take_replicate, Nat.min_eq_left h]

set_option maxRecDepth 100000 in
set_option maxHeartbeats 8000000 in
theorem stored_yes (l : List I) (hok : ∀ i ∈ l, i.Ok) (A : Option Addr) (n c : Nat) (w : World) (hr : Reads w w.heap.size 4 A n (cellsI l)) (hn : n ≤ 1000000) (hgood : (formedN l).2 = 0) :
    Calls Tryz.prog 20 #[.slice A n c] w (MakesU16s (storedN l) w) := by
  have hl : n = l.length := by have := hr.1; rw [cellsI_length] at this; omega
  have e : storedN l = uptoN l l.length := if_pos hgood
  rw [e]
  have hP := formed_of hgood
  have e0 := formed_zero l hgood
  have hf := formed_any l hok A n c w hr hn
  rw [e0] at hf
  have hn0 : 0 < n := by have := hP.pos; omega
  have hn1 : n ≤ 4096 := by have := hP.le; omega
  obtain ⟨i0, hi0, hz0, hz1, hz2⟩ := info_parts info_u16
  obtain ⟨j0, hj0, hy0, hy1, hy2⟩ := info_parts info_arr
  have H := Lib.hid hf
  have HL := Lib.hid hl
  have HP := Lib.hid hP
  clear e hf e0 hgood hl hP
  go_enter Tryz.func20, Tryz.ntmps20
  go_wp2_with fail
  refine H.out.mono ?_
  rintro e w1 ⟨rfl, hB1⟩
  clear H
  have hb0 : RowK (w1.alloc (.cells (Array.replicate 4096 (.int .u16 0)) 103)) w1.heap.size 103 4096 (u16sV (fillA n 0)) := by
    have := RowK.new w1 103 (Array.replicate 4096 (.int .u16 0)) (u16sV (fillA n 0)) (by
      rw [u16sV_length, fillA_length n 0 (by omega)]
      exact take_zeros n 4096 hn1)
    rwa [Array.size_replicate] at this
  have hB2 : Below w.heap.size w (w1.alloc (.cells (Array.replicate 4096 (.int .u16 0)) 103)) := hB1.alloc hB1.size _
  have hg0 := hB1.size
  go_wp2_with (refine wpList_alloc_zero rfl 103 rfl j0 hj0 _ hy0 ?_)
  generalize (w1.alloc (.cells (Array.replicate 4096 (.int .u16 0)) 103)) = w2 at *
  generalize w1.heap.size = g at *
  clear hB1 hy0
  go_loopw [6, 23] (fun _ i wr => ∃ k : Nat, k ≤ n ∧ i = .int .i64 k ∧ RowK wr g 103 4096 (u16sV (fillA n k)) ∧ Below w.heap.size w wr) (fun _ i _ => n - (intOf i).toNat)
  case atStart => exact ⟨0, by omega, rfl, hb0, hB2⟩
  case round =>
    obtain ⟨k, hk, rfl, hb, hB⟩ := hrel
    by_cases hlt : k < n
    · have hset := hb.set_ k (.int .u16 (65535 : Nat))
      rw [u16sV_set, fillA_set n k hlt] at hset
      have hc := hb.cell (u16sV_get _ k (by rw [fillA_length n k hk]; exact hlt))
      have hf := hb.frozen k
      have z0 : (0 : Int) ≤ (k : Int) := by omega
      have z1 : (k : Int) < 4096 := by omega
      have hBs := hB.setCell (p := ⟨g, k, none⟩) hg0 (.int .u16 (65535 : Nat))
      clear hb hB hb0 hB2 hr
      go_wp2_with fail
      go_roundw
      case rel => exact ⟨k + 1, by omega, by go_num, hset, hBs⟩
      case measure => simp [intOf] <;> omega
    · obtain rfl : k = n := by omega
      have hset := hb.set_ 0 (.int .u16 (0 : Nat))
      rw [u16sV_set, fillA_start k hn0] at hset
      have hc := hb.cell (u16sV_get _ 0 (by rw [fillA_length k k hk]; exact hn0))
      have hf := hb.frozen 0
      have hBs := hB.setCell (p := ⟨g, 0, none⟩) hg0 (.int .u16 (0 : Nat))
      have hset2 : RowK (wr.setCell ⟨g, 0, none⟩ (.int .u16 (0 : Nat))) g 103 4096 (u16sV (uptoN l 0)) := by
        have : uptoN l 0 = startN k := by unfold uptoN; rw [HL.out]; rfl
        rw [this]; exact hset
      clear hb hB hb0 hB2 hset
      go_wp2_with fail
      generalize (wr.setCell ⟨g, 0, none⟩ (.int .u16 (0 : Nat))) = w3 at *
      change Code.wp _ _ _ _ w3
      clear hc hf
      go_loopw [32] (fun i wr => ∃ m : Nat, m ≤ k ∧ i = .int .i64 m ∧ RowK wr g 103 4096 (u16sV (uptoN l m)) ∧ Below w.heap.size w wr) (fun i _ => k - (intOf i).toNat)
      case atStart => exact ⟨0, by omega, rfl, hset2, hBs⟩
      case round =>
        obtain ⟨m, hm, rfl, hb, hB⟩ := hrel
        by_cases hlt2 : m < k
        · obtain ⟨b, off, rfl, hbb, h0', h1', h2', h3'⟩ := (hr.below hB).at4 hlt2
          have hok' := getD_ok hok (k := m) (by have := HL.out; omega)
          have hml : m < l.length := by have := HL.out; omega
          have p1 := fun h => (HP.out).store hml h
          have p2 := fun h => (HP.out).jump hml h
          have p3 := fun h => (HP.out).branch hml h
          have p4 := fun h => (HP.out).on hml h
          have hof : ∀ W, Calls Tryz.prog 21 #[.int .u16 (l.getD m default).code] W fun e w' => e = .returned (.tuple #[.int .i64 (kd (l.getD m default) : Nat), .bool (kx (l.getD m default)), .bool (((kd (l.getD m default) : Nat) : Int) != 0)]) ∧ Below W.heap.size W w' := fun W => of_gives _ hok'.1 W
          have hstep := stepN_cases l (uptoN l m) m
          rw [← uptoN_succ] at hstep
          have hav := getD_lt (by omega) (uptoN_lt l m) m
          have hca := hb.cell (u16sV_get _ m (by rw [uptoN_length]; exact hml))
          have hul := uptoN_length l m
          have hok3 := uptoN_lt l m
          rw [← HL.out] at p2 p3 p4 hul
          have hdl := kd_le (l.getD m default)
          unfold nowN at hstep
          generalize uptoN l m = a0 at *
          generalize a0.getD m 0 = av at *
          generalize kd (l.getD m default) = d at *
          generalize kx (l.getD m default) = x at *
          generalize l.getD m default = i at *
          obtain ⟨xc, xt, xf, xk⟩ := i
          obtain ⟨o1, o2, o3, o4⟩ := hok'
          simp only at h0' h1' h2' h3' o1 o2 o3 o4 hof hstep p1 p2 p3
          have HOF := Lib.hid hof
          have HS := Lib.hid hstep
          have P1 := Lib.hid p1
          have P2 := Lib.hid p2
          have P3 := Lib.hid p3
          have P4 := Lib.hid p4
          have HU := Lib.hid hul
          have HO := Lib.hid hok3
          have hglt := hb.lt
          have HR := Lib.hid hr
          clear hof hstep p1 p2 p3 p4 hul hset2 hBs hml hok3 hr
          go_wp2_with fail
          refine (HOF.out _).mono ?_
          rintro e w4 ⟨rfl, hB4⟩
          have b4 := (Blk.new wr 47 #[.int .u16 xc, .int .u8 xt, .int .u8 xf, .int .u32 xk]).below hB4 (by simp)
          have hb4 := (hb.alloc (.cells #[.int .u16 xc, .int .u8 xt, .int .u8 xf, .int .u32 xk] 47)).below hB4 (by simp; omega)
          have hB4w : Below w.heap.size w w4 := (hB.alloc hB.size _).trans (hB4.mono (by have := hB.size; simp; omega))
          have hlt4 : wr.heap.size < w4.heap.size := b4.lt
          have hca4 : w4.cell? ⟨g, m, none⟩ = some (.int .u16 (av : Nat)) := (hB4.cell (p := ⟨g, m, none⟩) (by simp; omega)).trans ((World.cell?_alloc_lt wr _ ⟨g, m, none⟩ hglt).trans hca)
          clear hB4 hB h0' h1' h2' h3' hb HOF hca
          have z0 : (0 : Int) ≤ (m : Int) := by omega
          have z1 : (m : Int) < 4096 := by omega
          have hgw : g < w4.heap.size := by omega
          have g1 := b4.cell 1
          have g2 := b4.cell 2
          have g3 := b4.cell 3
          have b5 : Blk (w4.alloc (.cells #[.int .u16 av] 44)) wr.heap.size 47 #[.int .u16 xc, .int .u8 xt, .int .u8 xf, .int .u32 xk] := b4.alloc _
          have n5 : Blk (w4.alloc (.cells #[.int .u16 av] 44)) w4.heap.size 44 #[.int .u16 av] := Blk.new _ _ _
          have hb5 := hb4.alloc (.cells #[.int .u16 av] 44)
          have hB5w := hB4w.alloc hB4w.size (.cells #[.int .u16 av] 44)
          have HMK := Lib.hid (fun v : Nat => And.intro (hb4.alloc (.cells #[.int .u16 (v : Nat)] 44)) (And.intro (hB4w.alloc hB4w.size (.cells #[.int .u16 (v : Nat)] 44)) (Blk.new w4 44 #[.int .u16 (v : Nat)])))
          clear hb4 hB4w b4
          by_cases hend : isEnd d
          · have hs := HS.out
            rw [if_pos hend] at hs
            have HS2 := Lib.hid hs
            clear hs
            rcases hend with rfl | rfl
            all_goals
              go_wp2_with fail
              go_roundw
              case rel => exact ⟨m + 1, by omega, by go_num, by rw [HS2.out]; exact hb5, hB5w⟩
              case measure => simp [intOf] <;> omega
          · by_cases h13 : d = 13
            · have hs := HS.out
              have hj := P2.out h13
              rw [if_neg hend, if_pos h13, if_neg (by unfold isSt; omega)] at hs
              have HS2 := Lib.hid hs
              subst h13
              clear hs hend
              go_wp2_with fail
              rw [show ((m : Int) + 1 + (xk : Int)) = ((m + 1 + xk : Nat) : Int) from by omega]
              refine (goes_any a0 HO.out (m + 1 + xk) av g w4.heap.size (by rw [HU.out]; exact hj) hav _ hb5 (n5.cell 0)).mono ?_
              rintro e w6 ⟨rfl, hb6, hg6⟩
              have hB6w : Below w.heap.size w w6 := hB5w.grown hg6 hB5w.size (fun k e => by injection e; omega)
              rw [← HS2.out] at hb6
              clear hg6 hb5 hB5w n5 b5
              go_wp2_with fail
              go_roundw
              case rel => exact ⟨m + 1, by omega, by go_num, hb6, hB6w⟩
              case measure => simp [intOf] <;> omega
            · by_cases h25 : 25 ≤ d
              · have hs := HS.out
                have hj := P3.out h25
                rw [if_neg hend, if_neg h13, if_pos h25, if_neg (by unfold isSt; omega)] at hs
                have HS2 := Lib.hid hs
                have HJ := Lib.hid hj
                have n8 : ((d : Int) == 8) = false := by simp; omega
                have n9 : ((d : Int) == 9) = false := by simp; omega
                have n14 : ((d : Int) == 14) = false := by unfold isEnd at hend; simp; omega
                have n15 : ((d : Int) == 15) = false := by unfold isEnd at hend; simp; omega
                have n13 : ((d : Int) == 13) = false := by simp; omega
                have y25 : (25 : Int) ≤ (d : Int) := by omega
                have hok4 := goes_le a0 (m + 1 + xt) av HO.out
                have hlen4 := goesN_length a0 (m + 1 + xt) av
                have HO4 := Lib.hid hok4
                have HL4 := Lib.hid hlen4
                clear hs hend hj h13 h25 HS P1 P2 P3 P4 hok4 hlen4
                go_wp2_with fail
                rw [show ((m : Int) + 1 + (xt : Int)) = ((m + 1 + xt : Nat) : Int) from by omega]
                refine (goes_any a0 HO.out (m + 1 + xt) av g w4.heap.size (by have := HJ.out; have := HU.out; omega) hav _ hb5 (n5.cell 0)).mono ?_
                rintro e w6 ⟨rfl, hb6, hg6⟩
                have hB6w : Below w.heap.size w w6 := hB5w.grown hg6 hB5w.size (fun k e => by injection e; omega)
                have b6 := b5.grown hg6 (by simp; omega)
                have n6 := n5.grown hg6 (by simp; omega)
                have f2 := b6.cell 2
                clear hg6 hb5 hB5w n5 b5 b6
                go_wp2_with fail
                rw [show ((m : Int) + 1 + (xf : Int)) = ((m + 1 + xf : Nat) : Int) from by omega]
                refine (goes_any (goesN a0 (m + 1 + xt) av) HO4.out (m + 1 + xf) av g w4.heap.size (by have := HJ.out; have := HU.out; have := HL4.out; omega) hav _ hb6 (n6.cell 0)).mono ?_
                rintro e w7 ⟨rfl, hb7, hg7⟩
                have hB7w : Below w.heap.size w w7 := hB6w.grown hg7 hB6w.size (fun k e => by injection e; omega)
                rw [← HS2.out] at hb7
                clear hg7 hb6 hB6w n6 f2
                go_wp2_with fail
                go_roundw
                case rel => exact ⟨m + 1, by omega, by go_num, hb7, hB7w⟩
                case measure => simp [intOf] <;> omega
              · have hs := HS.out
                have hj := P4.out hend
                rw [if_neg hend, if_neg h13, if_neg h25] at hs
                have n14 : ((d : Int) == 14) = false := by unfold isEnd at hend; simp; omega
                have n15 : ((d : Int) == 15) = false := by unfold isEnd at hend; simp; omega
                have n13 : ((d : Int) == 13) = false := by simp; omega
                have y25 : (d : Int) < 25 := by omega
                by_cases hst : isSt d
                · rw [if_pos hst] at hs
                  have hk15 := P1.out hst
                  have hor : bits .or .u16 (av : Int) (IntKind.u16.wrap ((2 : Int) ^ xk)) = ((av ||| 2 ^ xk : Nat) : Int) := by
                    rw [wrap_pow16 xk hk15]
                    exact u16_or_nat av (2 ^ xk) hav (Nat.lt_of_le_of_lt (Nat.pow_le_pow_right (n := 2) (by omega) hk15) (by decide))
                  have HOR := Lib.hid hor
                  have hnow : av ||| 2 ^ xk < 65536 := Nat.or_lt_two_pow (n := 16) hav (Nat.lt_of_le_of_lt (Nat.pow_le_pow_right (n := 2) (by omega) hk15) (by decide))
                  have HS2 := Lib.hid hs
                  clear hs hend h13 h25 HS P1 P2 P3 P4 hor
                  generalize (av ||| 2 ^ xk) = nw at *
                  obtain ⟨hb6, hB6w, n6⟩ := HMK.out nw
                  have hst' : ((d : Int) == 8) = true ∨ ((d : Int) == 8) = false ∧ ((d : Int) == 9) = true := by unfold isSt at hst; simp; omega
                  clear hb5 hB5w n5 b5 HMK hst
                  rcases hst' with n8 | ⟨n8, n9⟩
                  all_goals
                    go_wp2_with fail
                    rw [HOR.out, show ((m : Int) + 1) = ((m + 1 : Nat) : Int) from by omega]
                    refine (goes_any a0 HO.out (m + 1) nw g w4.heap.size (by have := HU.out; omega) hnow _ hb6 (n6.cell 0)).mono ?_
                    rintro e w6 ⟨rfl, hb7, hg7⟩
                    have hB7w : Below w.heap.size w w6 := hB6w.grown hg7 hB6w.size (fun k e => by injection e; omega)
                    rw [← HS2.out] at hb7
                    clear hg7 hb6 hB6w n6
                    go_wp2_with fail
                    go_roundw
                    case rel => exact ⟨m + 1, by omega, by go_num, hb7, hB7w⟩
                    case measure => simp [intOf] <;> omega
                · rw [if_neg hst] at hs
                  have n8 : ((d : Int) == 8) = false := by unfold isSt at hst; simp; omega
                  have n9 : ((d : Int) == 9) = false := by unfold isSt at hst; simp; omega
                  have HS2 := Lib.hid hs
                  clear hs hend h13 h25 HS P1 P2 P3 P4 hst
                  go_wp2_with fail
                  rw [show ((m : Int) + 1) = ((m + 1 : Nat) : Int) from by omega]
                  refine (goes_any a0 HO.out (m + 1) av g w4.heap.size (by have := HU.out; omega) hav _ hb5 (n5.cell 0)).mono ?_
                  rintro e w6 ⟨rfl, hb6, hg6⟩
                  have hB6w : Below w.heap.size w w6 := hB5w.grown hg6 hB5w.size (fun k e => by injection e; omega)
                  rw [← HS2.out] at hb6
                  clear hg6 hb5 hB5w n5 b5
                  go_wp2_with fail
                  go_roundw
                  case rel => exact ⟨m + 1, by omega, by go_num, hb6, hB6w⟩
                  case measure => simp [intOf] <;> omega
        · obtain rfl : m = k := by omega
          have hlen := uptoN_length l m
          have hrd := hb.reads
          rw [u16sV_length, hlen, ← HL.out] at hrd
          have hglt := hb.lt
          have z0 : (0 : Int) ≤ (m : Int) := by omega
          have z1 : (m : Int) ≤ 4096 := by omega
          have hone := u16sV_one (uptoN l m)
          have HO := Lib.hid hone
          rw [← HL.out] at hlen
          have HN := Lib.hid hlen
          rw [← HL.out]
          clear hone hlen hset2 hBs hb hr hglt
          go_wp2_with (at_builtin; refine wpList_append_any _ rfl (.const (.slice none 0 0)) (.tmp 103) 69 rfl w.heap.size 44 i0 _ 1 2 Tryz.underlying69 hi0 hz0 hz1 hz2 rfl (by omega) _ 0 [] rfl (World.ownsRow_nil _ _ _ _) _ _ m 4096 _ rfl hrd HO.out (by simp only [maxLen]; omega) (by omega) hB.size ?_; intro v5 w5 own5 hg5 hat5)
          have hB5 : Below w.heap.size w w5 := hB.grown hg5 hB.size (fun k e => by have e' : (none : Option Nat) = some k := e; cases e')
          rw [Nat.zero_add, List.nil_append] at own5
          clear hg5 hat5
          go_ret
          exact ⟨v5, rfl, by rw [← HL.out, HN.out]; exact own5, hB5⟩

theorem stored_any (l : List I) (hok : ∀ i ∈ l, i.Ok) (A : Option Addr) (n c : Nat) (w : World) (hr : Reads w w.heap.size 4 A n (cellsI l)) (hn : n ≤ 1000000) :
    Calls Tryz.prog 20 #[.slice A n c] w (MakesU16s (storedN l) w) := by
  by_cases h : (formedN l).2 = 0
  · exact stored_yes l hok A n c w hr hn h
  · exact stored_no l hok A n c w hr hn h
end Go.Proofs.YtpinnockcnmofaaGreatDoor
