/-
  The walk of check's wrong.
-/
import Derived.Test.YtpinnockcnmofaaGreatDoorWalkAsk
namespace Go.Proofs.YtpinnockcnmofaaGreatDoor
open Go.RowKit
set_option linter.unusedVariables false

set_option maxRecDepth 100000 in
set_option maxHeartbeats 2000000 in
theorem wrong_asks (c jt jf k d : Nat) (x : Bool) (rest : Nat) (w : World) (hd : d ≤ 28) (hk : k < 4294967296) (ht : jt < 256) (hf : jf < 256) (hr : rest ≤ 100000) : Calls Tryz.prog 38 #[lookedV c jt jf k d x rest] w (TellsErr (aloneV d x k jt jf rest) w) := by
  rw [← wrongE_eq d hd x k jt jf rest]
  have q0 := fun W => askCode c jt jf k d x rest W hk ht hf hr
  have q1 := fun W => askLoad c jt jf k d x rest W hk ht hf hr
  have q2 := fun W => askCell c jt jf k d x rest W hk ht hf hr
  have q3 := fun W => askNumber c jt jf k d x rest W hk ht hf hr
  have q4 := fun W => askJump c jt jf k d x rest W hk ht hf hr
  unfold lookedV at *
  have Q0 := Lib.hid q0
  have Q1 := Lib.hid q1
  have Q2 := Lib.hid q2
  have Q3 := Lib.hid q3
  have Q4 := Lib.hid q4
  clear q0 q1 q2 q3 q4
  go_enter Tryz.func38, Tryz.ntmps38
  go_wp2_with fail
  have b1 : Blk ((w.alloc (.cells #[Value.int IntKind.u16 c, Value.int IntKind.u8 jt, Value.int IntKind.u8 jf, Value.int IntKind.u32 k, Value.int IntKind.i64 d, Value.bool x, Value.int IntKind.i64 rest] 101)).alloc (.cells #[Value.func (Fn.func 63) #[Value.agg #[Value.int IntKind.u16 c, Value.int IntKind.u8 jt, Value.int IntKind.u8 jf, Value.int IntKind.u32 k, Value.int IntKind.i64 d, Value.bool x, Value.int IntKind.i64 rest]] #[], Value.func (Fn.func 64) #[Value.agg #[Value.int IntKind.u16 c, Value.int IntKind.u8 jt, Value.int IntKind.u8 jf, Value.int IntKind.u32 k, Value.int IntKind.i64 d, Value.bool x, Value.int IntKind.i64 rest]] #[], Value.func (Fn.func 65) #[Value.agg #[Value.int IntKind.u16 c, Value.int IntKind.u8 jt, Value.int IntKind.u8 jf, Value.int IntKind.u32 k, Value.int IntKind.i64 d, Value.bool x, Value.int IntKind.i64 rest]] #[], Value.func (Fn.func 66) #[Value.agg #[Value.int IntKind.u16 c, Value.int IntKind.u8 jt, Value.int IntKind.u8 jf, Value.int IntKind.u32 k, Value.int IntKind.i64 d, Value.bool x, Value.int IntKind.i64 rest]] #[], Value.func (Fn.func 67) #[Value.agg #[Value.int IntKind.u16 c, Value.int IntKind.u8 jt, Value.int IntKind.u8 jf, Value.int IntKind.u32 k, Value.int IntKind.i64 d, Value.bool x, Value.int IntKind.i64 rest]] #[]] 102)) (w.heap.size + 1) 102 #[Value.func (Fn.func 63) #[Value.agg #[Value.int IntKind.u16 c, Value.int IntKind.u8 jt, Value.int IntKind.u8 jf, Value.int IntKind.u32 k, Value.int IntKind.i64 d, Value.bool x, Value.int IntKind.i64 rest]] #[], Value.func (Fn.func 64) #[Value.agg #[Value.int IntKind.u16 c, Value.int IntKind.u8 jt, Value.int IntKind.u8 jf, Value.int IntKind.u32 k, Value.int IntKind.i64 d, Value.bool x, Value.int IntKind.i64 rest]] #[], Value.func (Fn.func 65) #[Value.agg #[Value.int IntKind.u16 c, Value.int IntKind.u8 jt, Value.int IntKind.u8 jf, Value.int IntKind.u32 k, Value.int IntKind.i64 d, Value.bool x, Value.int IntKind.i64 rest]] #[], Value.func (Fn.func 66) #[Value.agg #[Value.int IntKind.u16 c, Value.int IntKind.u8 jt, Value.int IntKind.u8 jf, Value.int IntKind.u32 k, Value.int IntKind.i64 d, Value.bool x, Value.int IntKind.i64 rest]] #[], Value.func (Fn.func 67) #[Value.agg #[Value.int IntKind.u16 c, Value.int IntKind.u8 jt, Value.int IntKind.u8 jf, Value.int IntKind.u32 k, Value.int IntKind.i64 d, Value.bool x, Value.int IntKind.i64 rest]] #[]] := by
    have := Blk.new (w.alloc (.cells #[Value.int IntKind.u16 c, Value.int IntKind.u8 jt, Value.int IntKind.u8 jf, Value.int IntKind.u32 k, Value.int IntKind.i64 d, Value.bool x, Value.int IntKind.i64 rest] 101)) 102 #[Value.func (Fn.func 63) #[Value.agg #[Value.int IntKind.u16 c, Value.int IntKind.u8 jt, Value.int IntKind.u8 jf, Value.int IntKind.u32 k, Value.int IntKind.i64 d, Value.bool x, Value.int IntKind.i64 rest]] #[], Value.func (Fn.func 64) #[Value.agg #[Value.int IntKind.u16 c, Value.int IntKind.u8 jt, Value.int IntKind.u8 jf, Value.int IntKind.u32 k, Value.int IntKind.i64 d, Value.bool x, Value.int IntKind.i64 rest]] #[], Value.func (Fn.func 65) #[Value.agg #[Value.int IntKind.u16 c, Value.int IntKind.u8 jt, Value.int IntKind.u8 jf, Value.int IntKind.u32 k, Value.int IntKind.i64 d, Value.bool x, Value.int IntKind.i64 rest]] #[], Value.func (Fn.func 66) #[Value.agg #[Value.int IntKind.u16 c, Value.int IntKind.u8 jt, Value.int IntKind.u8 jf, Value.int IntKind.u32 k, Value.int IntKind.i64 d, Value.bool x, Value.int IntKind.i64 rest]] #[], Value.func (Fn.func 67) #[Value.agg #[Value.int IntKind.u16 c, Value.int IntKind.u8 jt, Value.int IntKind.u8 jf, Value.int IntKind.u32 k, Value.int IntKind.i64 d, Value.bool x, Value.int IntKind.i64 rest]] #[]]
    rwa [World.size_alloc] at this
  have hB1 : Below w.heap.size w ((w.alloc (.cells #[Value.int IntKind.u16 c, Value.int IntKind.u8 jt, Value.int IntKind.u8 jf, Value.int IntKind.u32 k, Value.int IntKind.i64 d, Value.bool x, Value.int IntKind.i64 rest] 101)).alloc (.cells #[Value.func (Fn.func 63) #[Value.agg #[Value.int IntKind.u16 c, Value.int IntKind.u8 jt, Value.int IntKind.u8 jf, Value.int IntKind.u32 k, Value.int IntKind.i64 d, Value.bool x, Value.int IntKind.i64 rest]] #[], Value.func (Fn.func 64) #[Value.agg #[Value.int IntKind.u16 c, Value.int IntKind.u8 jt, Value.int IntKind.u8 jf, Value.int IntKind.u32 k, Value.int IntKind.i64 d, Value.bool x, Value.int IntKind.i64 rest]] #[], Value.func (Fn.func 65) #[Value.agg #[Value.int IntKind.u16 c, Value.int IntKind.u8 jt, Value.int IntKind.u8 jf, Value.int IntKind.u32 k, Value.int IntKind.i64 d, Value.bool x, Value.int IntKind.i64 rest]] #[], Value.func (Fn.func 66) #[Value.agg #[Value.int IntKind.u16 c, Value.int IntKind.u8 jt, Value.int IntKind.u8 jf, Value.int IntKind.u32 k, Value.int IntKind.i64 d, Value.bool x, Value.int IntKind.i64 rest]] #[], Value.func (Fn.func 67) #[Value.agg #[Value.int IntKind.u16 c, Value.int IntKind.u8 jt, Value.int IntKind.u8 jf, Value.int IntKind.u32 k, Value.int IntKind.i64 d, Value.bool x, Value.int IntKind.i64 rest]] #[]] 102)) := ((Below.refl _ w).alloc (Nat.le_refl _) _).alloc (by simp) _
  generalize ((w.alloc (.cells #[Value.int IntKind.u16 c, Value.int IntKind.u8 jt, Value.int IntKind.u8 jf, Value.int IntKind.u32 k, Value.int IntKind.i64 d, Value.bool x, Value.int IntKind.i64 rest] 101)).alloc (.cells #[Value.func (Fn.func 63) #[Value.agg #[Value.int IntKind.u16 c, Value.int IntKind.u8 jt, Value.int IntKind.u8 jf, Value.int IntKind.u32 k, Value.int IntKind.i64 d, Value.bool x, Value.int IntKind.i64 rest]] #[], Value.func (Fn.func 64) #[Value.agg #[Value.int IntKind.u16 c, Value.int IntKind.u8 jt, Value.int IntKind.u8 jf, Value.int IntKind.u32 k, Value.int IntKind.i64 d, Value.bool x, Value.int IntKind.i64 rest]] #[], Value.func (Fn.func 65) #[Value.agg #[Value.int IntKind.u16 c, Value.int IntKind.u8 jt, Value.int IntKind.u8 jf, Value.int IntKind.u32 k, Value.int IntKind.i64 d, Value.bool x, Value.int IntKind.i64 rest]] #[], Value.func (Fn.func 66) #[Value.agg #[Value.int IntKind.u16 c, Value.int IntKind.u8 jt, Value.int IntKind.u8 jf, Value.int IntKind.u32 k, Value.int IntKind.i64 d, Value.bool x, Value.int IntKind.i64 rest]] #[], Value.func (Fn.func 67) #[Value.agg #[Value.int IntKind.u16 c, Value.int IntKind.u8 jt, Value.int IntKind.u8 jf, Value.int IntKind.u32 k, Value.int IntKind.i64 d, Value.bool x, Value.int IntKind.i64 rest]] #[]] 102)) = w1 at *
  generalize Value.agg #[Value.int IntKind.u16 c, Value.int IntKind.u8 jt, Value.int IntKind.u8 jf, Value.int IntKind.u32 k, Value.int IntKind.i64 d, Value.bool x, Value.int IntKind.i64 rest] = L at *
  go_loopw [18] (fun i wr => ∃ j : Nat, j ≤ 5 ∧ i = .int .i64 j ∧ Hid (∀ i, i < j → askE d x k jt jf rest i = 0) ∧ Blk wr (w.heap.size + 1) 102 #[Value.func (Fn.func 63) #[L] #[], Value.func (Fn.func 64) #[L] #[], Value.func (Fn.func 65) #[L] #[], Value.func (Fn.func 66) #[L] #[], Value.func (Fn.func 67) #[L] #[]] ∧ Below w.heap.size w wr) (fun i _ => 5 - (intOf i).toNat)
  case atStart => exact ⟨0, by omega, rfl, fun i hi => absurd hi (by omega), b1, hB1⟩
  case round =>
    obtain ⟨j, hj, rfl, H, hb, hB⟩ := hrel
    clear b1 hB1
    by_cases hlt : j < 5
    · have h5 : j = 0 ∨ j = 1 ∨ j = 2 ∨ j = 3 ∨ j = 4 := by omega
      have c0 := hb.cell 0
      have c1 := hb.cell 1
      have c2 := hb.cell 2
      have c3 := hb.cell 3
      have c4 := hb.cell 4
      rcases h5 with rfl | rfl | rfl | rfl | rfl
      · clear c0 c1 c2 c3 c4
        have cc := hb.cell 0
        go_wp2_with fail
        refine (Q0.out _).mono ?_
        rintro e w2 ⟨rfl, hB2⟩
        have hb2 := hb.below hB2 hb.lt
        have hB2w := hB.trans (hB2.mono hB.size)
        have he : askE d x k jt jf rest 0 = codeE d := rfl
        have HE := Lib.hid he
        clear he hB2 hb hB cc
        by_cases hz : codeE d = 0
        · rw [hz]
          have H2 : Hid (∀ i, i < 0 + 1 → askE d x k jt jf rest i = 0) := fun i hi => by
            rcases Nat.lt_or_eq_of_le (Nat.le_of_lt_succ hi) with h | h
            · exact H.out i h
            · rw [h]; exact hz
          clear hz
          go_wp2_with fail
          go_roundw
          case rel => exact ⟨1, by omega, by go_num, H2, hb2, hB2w⟩
          case measure => simp [intOf] <;> omega
        · have hfin : wrongE d x k jt jf rest = codeE d := firstE_found _ 5 0 0 (by omega) (by omega) (fun i _ hi => H.out i hi) hz
          have HF := Lib.hid hfin
          have hne : ((((codeE d) : Nat) : Int) != 0) = true := by simp; omega
          clear hfin
          generalize codeE d = n at *
          go_wp2_with fail
          go_ret
          exact ⟨by rw [HF.out]; rfl, hB2w⟩
      · clear c0 c1 c2 c3 c4
        have cc := hb.cell 1
        go_wp2_with fail
        refine (Q1.out _).mono ?_
        rintro e w2 ⟨rfl, hB2⟩
        have hb2 := hb.below hB2 hb.lt
        have hB2w := hB.trans (hB2.mono hB.size)
        have he : askE d x k jt jf rest 1 = loadE d k := rfl
        have HE := Lib.hid he
        clear he hB2 hb hB cc
        by_cases hz : loadE d k = 0
        · rw [hz]
          have H2 : Hid (∀ i, i < 1 + 1 → askE d x k jt jf rest i = 0) := fun i hi => by
            rcases Nat.lt_or_eq_of_le (Nat.le_of_lt_succ hi) with h | h
            · exact H.out i h
            · rw [h]; exact hz
          clear hz
          go_wp2_with fail
          go_roundw
          case rel => exact ⟨2, by omega, by go_num, H2, hb2, hB2w⟩
          case measure => simp [intOf] <;> omega
        · have hfin : wrongE d x k jt jf rest = loadE d k := firstE_found _ 5 0 1 (by omega) (by omega) (fun i _ hi => H.out i hi) hz
          have HF := Lib.hid hfin
          have hne : ((((loadE d k) : Nat) : Int) != 0) = true := by simp; omega
          clear hfin
          generalize loadE d k = n at *
          go_wp2_with fail
          go_ret
          exact ⟨by rw [HF.out]; rfl, hB2w⟩
      · clear c0 c1 c2 c3 c4
        have cc := hb.cell 2
        go_wp2_with fail
        refine (Q2.out _).mono ?_
        rintro e w2 ⟨rfl, hB2⟩
        have hb2 := hb.below hB2 hb.lt
        have hB2w := hB.trans (hB2.mono hB.size)
        have he : askE d x k jt jf rest 2 = cellE d k := rfl
        have HE := Lib.hid he
        clear he hB2 hb hB cc
        by_cases hz : cellE d k = 0
        · rw [hz]
          have H2 : Hid (∀ i, i < 2 + 1 → askE d x k jt jf rest i = 0) := fun i hi => by
            rcases Nat.lt_or_eq_of_le (Nat.le_of_lt_succ hi) with h | h
            · exact H.out i h
            · rw [h]; exact hz
          clear hz
          go_wp2_with fail
          go_roundw
          case rel => exact ⟨3, by omega, by go_num, H2, hb2, hB2w⟩
          case measure => simp [intOf] <;> omega
        · have hfin : wrongE d x k jt jf rest = cellE d k := firstE_found _ 5 0 2 (by omega) (by omega) (fun i _ hi => H.out i hi) hz
          have HF := Lib.hid hfin
          have hne : ((((cellE d k) : Nat) : Int) != 0) = true := by simp; omega
          clear hfin
          generalize cellE d k = n at *
          go_wp2_with fail
          go_ret
          exact ⟨by rw [HF.out]; rfl, hB2w⟩
      · clear c0 c1 c2 c3 c4
        have cc := hb.cell 3
        go_wp2_with fail
        refine (Q3.out _).mono ?_
        rintro e w2 ⟨rfl, hB2⟩
        have hb2 := hb.below hB2 hb.lt
        have hB2w := hB.trans (hB2.mono hB.size)
        have he : askE d x k jt jf rest 3 = numE d x k := rfl
        have HE := Lib.hid he
        clear he hB2 hb hB cc
        by_cases hz : numE d x k = 0
        · rw [hz]
          have H2 : Hid (∀ i, i < 3 + 1 → askE d x k jt jf rest i = 0) := fun i hi => by
            rcases Nat.lt_or_eq_of_le (Nat.le_of_lt_succ hi) with h | h
            · exact H.out i h
            · rw [h]; exact hz
          clear hz
          go_wp2_with fail
          go_roundw
          case rel => exact ⟨4, by omega, by go_num, H2, hb2, hB2w⟩
          case measure => simp [intOf] <;> omega
        · have hfin : wrongE d x k jt jf rest = numE d x k := firstE_found _ 5 0 3 (by omega) (by omega) (fun i _ hi => H.out i hi) hz
          have HF := Lib.hid hfin
          have hne : ((((numE d x k) : Nat) : Int) != 0) = true := by simp; omega
          clear hfin
          generalize numE d x k = n at *
          go_wp2_with fail
          go_ret
          exact ⟨by rw [HF.out]; rfl, hB2w⟩
      · clear c0 c1 c2 c3 c4
        have cc := hb.cell 4
        go_wp2_with fail
        refine (Q4.out _).mono ?_
        rintro e w2 ⟨rfl, hB2⟩
        have hb2 := hb.below hB2 hb.lt
        have hB2w := hB.trans (hB2.mono hB.size)
        have he : askE d x k jt jf rest 4 = jumpE d k jt jf rest := rfl
        have HE := Lib.hid he
        clear he hB2 hb hB cc
        by_cases hz : jumpE d k jt jf rest = 0
        · rw [hz]
          have H2 : Hid (∀ i, i < 4 + 1 → askE d x k jt jf rest i = 0) := fun i hi => by
            rcases Nat.lt_or_eq_of_le (Nat.le_of_lt_succ hi) with h | h
            · exact H.out i h
            · rw [h]; exact hz
          clear hz
          go_wp2_with fail
          go_roundw
          case rel => exact ⟨5, by omega, by go_num, H2, hb2, hB2w⟩
          case measure => simp [intOf] <;> omega
        · have hfin : wrongE d x k jt jf rest = jumpE d k jt jf rest := firstE_found _ 5 0 4 (by omega) (by omega) (fun i _ hi => H.out i hi) hz
          have HF := Lib.hid hfin
          have hne : ((((jumpE d k jt jf rest) : Nat) : Int) != 0) = true := by simp; omega
          clear hfin
          generalize jumpE d k jt jf rest = n at *
          go_wp2_with fail
          go_ret
          exact ⟨by rw [HF.out]; rfl, hB2w⟩
    · obtain rfl : j = 5 := by omega
      have hfin : wrongE d x k jt jf rest = 0 := firstE_none _ 5 0 (fun i _ hi => H.out i (by omega))
      have HF := Lib.hid hfin
      clear hfin
      go_wp2_with fail
      go_ret
      exact ⟨by rw [HF.out]; rfl, hB⟩
end Go.Proofs.YtpinnockcnmofaaGreatDoor
