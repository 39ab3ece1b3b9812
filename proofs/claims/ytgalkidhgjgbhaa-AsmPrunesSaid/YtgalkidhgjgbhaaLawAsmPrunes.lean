/-
  The walk of AsmPrunes.
-/
import Derived.Test.YtgalkidhgjgbhaaAsmDeadP
import Derived.Test.YtgalkidhgjgbhaaWalkForm20
import Derived.Test.YtgalkidhgjgbhaaAwake21b
namespace Go.Proofs.Ytgalkidhgjgbhaa
open Go.RowKit
set_option linter.unusedVariables false

theorem own_belowP {W W' : World} {base : Nat} {e : TypeId} {size n : Nat} {v : Value} {xs : List Value} (h : W.ownsRow base e size v n xs) (hB : Below W.heap.size W W') : W'.ownsRow base e size v n xs := by
  refine h.kept (row := none) ⟨hB.os, hB.tape, hB.output, hB.size, fun k hk _ => hB.block k hk⟩ ?_
  cases v.ownBlock with
  | none => exact .inl rfl
  | some g => exact .inr (fun e => by cases e)
theorem below_drewNP {B : Nat} {a w : World} (h : Below B a w) (q : Nat) : Below B a (w.drewN q) := ⟨h.os, h.tape, h.output, h.size, h.block⟩
theorem asmR_le (l : List It) (F : Nat → Bool) : (asmR l F).1.length ≤ 4096 := by
  unfold asmR
  split
  · simp
  · split
    · simp
    · show (asmUp l F (ins l).length).length ≤ 4096
      rw [asmUp_length]; omega
theorem Dead.res {l d : List It} (hF : Form l) (hd : Dead d) {F G : Nat → Bool} (h1 : Laid l F) (h2 : Laid (l ++ d) G) : asmR (l ++ d) G = asmR l F := by
  obtain rfl := hd.laid hF h1 h2
  unfold asmR
  rw [hd.plEnd hF, hd.asm hF h1]

set_option maxRecDepth 100000 in
set_option maxHeartbeats 4000000 in
theorem asmPrunes_walk (w : World) (l : List It) (hok : ∀ x ∈ l, x.Ok) (A : Option Addr) (n c : Nat) (hr : Reads w w.heap.size 5 A n (cellsT l)) (hc : n ≤ c) (hm : c ≤ maxLen)
    (d : List It) (hokd : ∀ x ∈ d, x.Ok) (A' : Option Addr) (n' c' : Nat) (hr' : Reads w w.heap.size 5 A' n' (cellsT d)) (hc' : n' ≤ c') (hm' : c' ≤ maxLen) :
    Calls Try.prog 11 #[.slice A n c, .slice A' n' c'] w fun e w' => e = .returned (.bool true) ∧ Below w.heap.size w w' := by
  have hl : n = l.length := by have := hr.1; rw [cellsT_length] at this; omega
  have hl' : n' = d.length := by have := hr'.1; rw [cellsT_length] at this; omega
  have HL := Lib.hid hl
  have HL' := Lib.hid hl'
  clear hl hl'
  obtain ⟨i0, hi0, hz0, hz1, hz2⟩ := info_parts info_item
  by_cases h200 : 200 < n
  · have z : (200 : Int) < (n : Int) := by omega
    go_enter Try.func11, Try.ntmps11
    go_wp2_with fail
    go_ret
    exact ⟨rfl, Below.refl _ _⟩
  have z : ¬ (200 : Int) < (n : Int) := by omega
  by_cases h200' : 200 < n'
  · have z' : (200 : Int) < (n' : Int) := by omega
    go_enter Try.func11, Try.ntmps11
    go_wp2_with fail
    go_ret
    exact ⟨rfl, Below.refl _ _⟩
  have z' : ¬ (200 : Int) < (n' : Int) := by omega
  go_enter Try.func11, Try.ntmps11
  go_wp2_with fail
  refine (formed20_any l hok A n c w hr (by omega)).mono ?_
  rintro e w1 ⟨b, rfl, hb, hB1⟩
  have hr1 := (hr.below hB1).more hB1.size
  cases b with
  | false =>
    clear hb
    go_wp2_with fail
    refine (awake21_any _).mono ?_
    rintro e w2 ⟨rfl, hB2⟩
    go_wp2_with fail
    go_ret
    exact ⟨rfl, hB1.trans (hB2.mono hB1.size)⟩
  | true =>
    have hF := hb.1 rfl
    have HF := Lib.hid hF
    clear hb hF
    go_wp2_with fail
    refine (of_items l hok A n c w1 hr1 (by omega)).mono ?_
    rintro e w2 ⟨v2, rfl, own2, hB2⟩
    obtain ⟨A2, c2, rfl, hr2⟩ := own_reads own2
    rw [← HL.out] at hr2 ⊢
    have hB2w := hB1.trans (hB2.mono hB1.size)
    clear own2 hB2 hB1 hr1
    go_wp2_with fail
    refine (assemble_yes l hok HF.out A2 n c2 w2 hr2 (by omega)).mono ?_
    rintro e w3 ⟨F, v3, hL, rfl, own3, hB3⟩
    obtain ⟨A3, c3, rfl, hr3⟩ := own_reads own3
    have hB3w := hB2w.trans (hB3.mono hB2w.size)
    have hr13 := (hr.below hB3w).more hB3w.size
    have hLF := Lib.hid hL
    clear own3 hB3 hB2w hr2 hL
    go_wp2_with fail
    refine (of_items l hok A n c w3 hr13 (by omega)).mono ?_
    rintro e w4 ⟨v4, rfl, own4, hB4⟩
    have hB4w := hB3w.trans (hB4.mono hB3w.size)
    have hr4 := (hr3.below hB4)
    have hsz4 := hB4.size
    have HR4x := Lib.hid hr3
    have hszw3 := hB3w.size
    clear hr13 hr4 hr3
    go_wp2_with fail
    go_loopw [7, 8] (fun v i wr => ∃ k : Nat, k ≤ n' ∧ i = .int .i64 k ∧ wr.ownsRow w3.heap.size 61 5 v (n + (deadL d k).length) (cellsT (l ++ deadL d k)) ∧ Below w3.heap.size w3 wr ∧ Below w.heap.size w wr) (fun _ i _ => n' - (intOf i).toNat)
    case atStart =>
      refine ⟨0, by omega, rfl, ?_, ?_, hB4w⟩
      · rw [deadL_zero, List.append_nil, List.length_nil, Nat.add_zero]
        rw [← HL.out] at own4
        exact own4
      · exact hB4
    case round =>
      obtain ⟨k, hk, rfl, hown, hB, hBw⟩ := hrel
      have hszw := hBw.size
      have hsz3 := hB.size
      have z0 : (0 : Int) ≤ (k : Int) := by omega
      by_cases hlt : k < n'
      · have hkd : k < d.length := by have := HL'.out; omega
        obtain ⟨b2, off2, rfl, hb2, hcs⟩ := (hr'.below hBw).at5 hlt
        obtain ⟨m0, m1, m2, m3, m4⟩ := hcs k hlt
        have hx := getD_okT hokd hkd
        have hyes := deadL_yes (d := d) (k := k) hkd
        have hno := deadL_no (d := d) (k := k) hkd
        have hle := deadL_le d k
        have hform := pair_form (d.getD k default)
        have hpok := pair_ok hx
        generalize d.getD k default = x at *
        generalize deadL d k = D at *
        obtain ⟨xm, xc, xk, xt, xf⟩ := x
        simp only at m0 m1 m2 m3 m4
        have HX := Lib.hid hx
        have HNO := Lib.hid hno
        have HYES := Lib.hid hyes
        have HFM := Lib.hid hform
        have HPOK := Lib.hid hpok
        have z1 : (k : Int) < (n' : Int) := by omega
        clear hcs hyes hno hform hpok hx
        by_cases hm : xm = 0
        · subst hm
          have hri0 := RowK.new wr 73 #[.int .i64 0, .int .u16 xc, .int .u32 xk, .int .i64 xt, .int .i64 xf] [.int .i64 0, .int .u16 xc, .int .u32 xk, .int .i64 xt, .int .i64 xf] rfl
          have hown1 := hown.alloc (.cells #[.int .i64 0, .int .u16 xc, .int .u32 xk, .int .i64 xt, .int .i64 xf] 73)
          have hB1 := hB.alloc (by omega) (.cells #[.int .i64 0, .int .u16 xc, .int .u32 xk, .int .i64 xt, .int .i64 xf] 73)
          have hBw1 := hBw.alloc (by omega) (.cells #[.int .i64 0, .int .u16 xc, .int .u32 xk, .int .i64 xt, .int .i64 xf] 73)
          have hs1 : (wr.alloc (.cells #[.int .i64 0, .int .u16 xc, .int .u32 xk, .int .i64 xt, .int .i64 xf] 73)).heap.size = wr.heap.size + 1 := by simp
          have hrd := reads_lit (wr.alloc (.cells #[.int .i64 0, .int .u16 xc, .int .u32 xk, .int .i64 xt, .int .i64 xf] 73)) (cellsT [bareT ⟨0, xc, xk, xt, xf⟩, endT]) 73 5 2 rfl
          rw [hs1] at hrd
          have hown2 := hown1.alloc (.cells (cellsT [bareT ⟨0, xc, xk, xt, xf⟩, endT]).toArray 73)
          have hri2 := hri0.alloc (.cells (cellsT [bareT ⟨0, xc, xk, xt, xf⟩, endT]).toArray 73)
          have hB2 := hB1.alloc (by rw [hs1]; omega) (.cells (cellsT [bareT ⟨0, xc, xk, xt, xf⟩, endT]).toArray 73)
          have hBw2 := hBw1.alloc (by rw [hs1]; omega) (.cells (cellsT [bareT ⟨0, xc, xk, xt, xf⟩, endT]).toArray 73)
          have hs2 : ((wr.alloc (.cells #[.int .i64 0, .int .u16 xc, .int .u32 xk, .int .i64 xt, .int .i64 xf] 73)).alloc (.cells (cellsT [bareT ⟨0, xc, xk, xt, xf⟩, endT]).toArray 73)).heap.size = wr.heap.size + 2 := by simp
          have HRD := Lib.hid hrd
          have HO2 := Lib.hid hown2
          have HI2 := Lib.hid hri2
          have HB2 := Lib.hid hB2
          have HBW2 := Lib.hid hBw2
          clear hrd hown2 hri2 hB2 hBw2 hown hri0 hown1 hB1 hBw1 hs1
          go_wp2_with fail
          refine (formed20_any [bareT ⟨0, xc, xk, xt, xf⟩, endT] HPOK.out (some ⟨wr.heap.size + 1, 0, none⟩) 2 2 _ (HRD.out.more (by rw [hs2]; omega)) (by omega)).mono ?_
          rintro e w5 ⟨b5, rfl, hb5, hB5⟩
          rw [hs2] at hB5
          have hri5 := HI2.out.below hB5 (by omega)
          have hown5 := own_belowP HO2.out (hB5.mono (by rw [hs2]; omega))
          have hB5' := HB2.out.trans (hB5.mono (by omega))
          have hBw5 := HBW2.out.trans (hB5.mono (by omega))
          have hsz5 := hB5.size
          clear hB5 HRD HO2 HI2 HB2 HBW2
          cases b5 with
          | false =>
            have hd := HNO.out (fun h => by
              have := hb5.2 (HFM.out.2 h.2)
              cases this)
            have HD := Lib.hid hd
            clear hd hb5
            go_wp2_with fail
            go_roundw
            case rel => exact ⟨k + 1, by omega, by go_num, by rw [HD.out]; exact hown5, hB5', hBw5⟩
            case measure => simp [intOf] <;> omega
          | true =>
            have hkd := HFM.out.1 (hb5.1 rfl)
            have hd := HYES.out ⟨by first | trivial | rfl, hkd⟩
            have HD := Lib.hid hd
            have g1 := hri5.cell (k := 1) rfl
            have g2 := hri5.cell (k := 2) rfl
            clear hd hkd hb5 hri5
            go_wp2_with (at_builtin; refine wpList_append_lit rfl (.tmp 68) (.tmp 74) 62 rfl w3.heap.size 61 i0 _ 5 32 Try.underlying62 hi0 hz0 hz1 hz2 rfl (by omega) _ _ (n + D.length) _ rfl hown5 _ 1 1 rfl _ rfl rfl (by simp [Value.oneCell']) (by simp only [maxLen]; omega) (by omega) (by omega) ?_; intro v1 w6 hown6 hB6 hs6)
            go_roundw
            case rel =>
              refine ⟨k + 1, by omega, by go_num, ?_, hB5'.trans hB6, hBw5.trans (hB6.mono (by omega))⟩
              rw [HD.out, List.length_append, List.length_singleton, ← List.append_assoc, cellsT_append, ← Nat.add_assoc]
              exact hown6
            case measure => simp [intOf] <;> omega
        · have q1 : (xm == 0) = false := by simpa using hm
          have hri0 := RowK.new wr 73 #[.int .i64 xm, .int .u16 xc, .int .u32 xk, .int .i64 xt, .int .i64 xf] [.int .i64 xm, .int .u16 xc, .int .u32 xk, .int .i64 xt, .int .i64 xf] rfl
          have hown1 := hown.alloc (.cells #[.int .i64 xm, .int .u16 xc, .int .u32 xk, .int .i64 xt, .int .i64 xf] 73)
          have hB1 := hB.alloc (by omega) (.cells #[.int .i64 xm, .int .u16 xc, .int .u32 xk, .int .i64 xt, .int .i64 xf] 73)
          have hBw1 := hBw.alloc (by omega) (.cells #[.int .i64 xm, .int .u16 xc, .int .u32 xk, .int .i64 xt, .int .i64 xf] 73)
          have hs1 : (wr.alloc (.cells #[.int .i64 xm, .int .u16 xc, .int .u32 xk, .int .i64 xt, .int .i64 xf] 73)).heap.size = wr.heap.size + 1 := by simp
          have hd := HNO.out (fun h => hm h.1)
          have HD := Lib.hid hd
          have HO1 := Lib.hid hown1
          have HB1 := Lib.hid hB1
          have HBW1 := Lib.hid hBw1
          clear hd hm hown hri0 hown1 hB1 hBw1 hs1
          go_wp2_with fail
          go_roundw
          case rel => exact ⟨k + 1, by omega, by go_num, by rw [HD.out]; exact HO1.out, HB1.out, HBW1.out⟩
          case measure => simp [intOf] <;> omega
      · obtain rfl : k = n' := by omega
        have z1 : ¬ (k : Int) < (k : Int) := by omega
        have hle := deadL_le d k
        have hdd := deadL_dead d k
        have hok2 : ∀ x ∈ l ++ (deadL d k ++ [endT]), x.Ok := fun x hx => by
          rcases List.mem_append.1 hx with h | h
          · exact hok x h
          · exact deadL_ok hokd k x h
        generalize deadL d k = D at *
        have HDD := Lib.hid hdd
        have HOK2 := Lib.hid hok2
        clear hdd hok2
        go_wp2_with (at_builtin; refine wpList_append_lit rfl (.tmp 76) (.tmp 78) 62 rfl w3.heap.size 61 i0 _ 5 32 Try.underlying62 hi0 hz0 hz1 hz2 rfl (by omega) _ _ (n + D.length) _ rfl hown _ 1 1 rfl _ rfl rfl (by simp [Value.oneCell']) (by simp only [maxLen]; omega) (by omega) (by omega) ?_; intro v1 w6 hown6 hB6 hs6)
        have hB6' := hB.trans hB6
        have hBw6 := hBw.trans (hB6.mono hszw3)
        have hown7 : w6.ownsRow w3.heap.size 61 5 v1 (n + D.length + 1) (cellsT (l ++ (D ++ [endT]))) := by
          rw [← List.append_assoc, cellsT_append]
          exact hown6
        obtain ⟨A6, c6, rfl, hr6⟩ := own_reads hown7
        clear hown6 hown7 hB6 hown hB hBw
        refine (assemble_yes (l ++ (D ++ [endT])) HOK2.out (HDD.out.form HF.out) A6 _ c6 w6 hr6 (by omega)).mono ?_
        rintro e w7 ⟨G, v7, hL7, rfl, own7, hB7⟩
        have hres := HDD.out.res HF.out hLF.out hL7
        rw [hres] at own7 ⊢
        obtain ⟨A7, c7, rfl, hr7⟩ := own_reads own7
        have hBw7 := hBw6.trans (hB7.mono hBw6.size)
        have hr37 := (HR4x.out.below (hB6'.trans (hB7.mono hB6'.size))).more (hB6'.trans (hB7.mono hB6'.size)).size
        clear hres hL7 own7 hB7 hr6 hB6' hBw6 HR4x
        have hle4 := asmR_le l F
        generalize asmR l F = R at *
        obtain ⟨R1, R2⟩ := R
        simp only at *
        have q1 : ((R2 : Int) != (R2 : Int)) = false := by simp
        have q2 : ((R1.length : Int) != (R1.length : Int)) = false := by simp
        go_wp2_with fail
        clear q1 q2
        go_loopw [12] (fun i wr => ∃ k : Nat, k ≤ R1.length ∧ i = .int .i64 k ∧ Below w7.heap.size w7 wr) (fun i _ => R1.length - (intOf i).toNat)
        case atStart => exact ⟨0, by omega, rfl, Below.refl _ _⟩
        case round =>
          obtain ⟨q, hq, rfl, hBq⟩ := hrel
          have y0 : (0 : Int) ≤ (q : Int) := by omega
          by_cases hqlt : q < R1.length
          · have y1 : (q : Int) < (R1.length : Int) := by omega
            obtain ⟨b3, off3, rfl, hb3, s0, s1, s2, s3⟩ := (hr37.below hBq).at4 hqlt
            obtain ⟨b4, off4, rfl, hb4, t0, t1, t2, t3⟩ := (hr7.below hBq).at4 hqlt
            generalize R1.getD q default = ii at *
            obtain ⟨ic, it, jf, ik⟩ := ii
            simp only at s0 s1 s2 s3 t0 t1 t2 t3
            clear hr37 hr7
            go_wp2_with fail
            go_quiet (fail)
            go_wp2_with fail
            go_roundw
            case rel => exact ⟨q + 1, by omega, by go_num, below_drewNP hBq _⟩
            case measure => simp [intOf] <;> omega
          · have y1 : ¬ (q : Int) < (R1.length : Int) := by omega
            clear hr37 hr7
            go_wp2_with fail
            refine (awake21_any _).mono ?_
            rintro e w8 ⟨rfl, hB8⟩
            go_wp2_with fail
            go_ret
            exact ⟨rfl, (hBw7.trans (hBq.mono hBw7.size)).trans (hB8.mono (hBw7.trans (hBq.mono hBw7.size)).size)⟩
end Go.Proofs.Ytgalkidhgjgbhaa
