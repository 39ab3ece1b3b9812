/-
  The walk of flow.reached: whatever is done with each that is reached.
-/
import Derived.Test.YtgalkidhgjgbhaaWalkFReach
namespace Go.Proofs.Ytgalkidhgjgbhaa
open Go.RowKit Go.Conc
set_option linter.unusedVariables false

theorem callFn_of7 {P : Program} {f : FuncId} {fn : Func} (hf : P.funcs[f]? = some fn) (hn : (fn.name == "runtime.NumGoroutine") = false) (hb : fn.body.isNone = false) (args : Array Value) (w : World) : (callFunc f args).run P w = .ok (.enter f args) w := by
  have hn' : ¬ fn.name = "runtime.NumGoroutine" := by simpa using hn
  unfold callFunc
  simp [hf, hn']
  intro h0
  rw [h0] at hb
  cases hb
theorem cellB7 {w : World} {B n : Nat} {A : Option Addr} {l : List Bool} (h : Reads w B 1 A n (boolsV l)) {k : Nat} (hk : k < n) : ∃ b off, A = some ⟨b, off, none⟩ ∧ b < B ∧ w.cell? ⟨b, off + k, none⟩ = some (.bool (l.getD k false)) := by
  obtain ⟨ad, rfl, hb, hc⟩ := h.2 (by omega)
  have hn : n = l.length := by have := h.1; rw [boolsV_length] at this; omega
  obtain ⟨b, off, spot⟩ := ad
  have h0 := hc 0 _ (boolsV_get l 0 (by omega))
  have hsp : spot = none := by simpa [Addr.add] using World.cell?_spot h0
  subst hsp
  refine ⟨b, off, rfl, hb, ?_⟩
  rw [← hc k _ (boolsV_get l k (by omega))]
  unfold Addr.add
  by_cases h0 : k = 0
  · subst h0; simp
  · rw [if_neg h0]

/-- What is done with each that is reached: `Inv rb m`: so many have been gone through; the block rb lies as it lay. -/
structure Do7 (l : List I) (A : Option Addr) (n : Nat) (w : World) (fn : FuncId) (cap : Array Value) (Inv : Nat → Nat → World → Prop) : Prop where
  call : ∀ (args : Array Value) (W : World), (callFunc fn args).run Try.prog W = .ok (.enter fn args) W
  start : ∀ (rb : Nat) (W : World), w.heap.size ≤ rb → Below w.heap.size w W → Inv rb 0 W
  below : ∀ rb m W W', Inv rb m W → Below W.heap.size W W' → Inv rb m W'
  old : ∀ rb m W, Inv rb m W → Reads W W.heap.size 4 A n (cellsI l)
  no : ∀ rb m W, Inv rb m W → (reachN l).getD m false = false → Inv rb (m + 1) W
  yes : ∀ rb m W, m < n → w.heap.size ≤ rb → rb < W.heap.size → (reachN l).getD m false = true → Inv rb m W → Calls Try.prog fn (#[.int .i64 m, .agg #[.int .u16 (l.getD m default).code, .int .u8 (l.getD m default).jt, .int .u8 (l.getD m default).jf, .int .u32 (l.getD m default).k], .int .i64 (kd (l.getD m default) : Nat)] ++ cap) W
    fun e W' => e = .returned (.tuple #[]) ∧ Inv rb (m + 1) W' ∧ W'.heap[rb]? = W.heap[rb]? ∧ W.heap.size ≤ W'.heap.size

set_option maxRecDepth 100000 in
set_option maxHeartbeats 2000000 in
theorem reached_walk (l : List I) (hok : ∀ i ∈ l, i.Ok) (hP : FormedP l) (hz : (checkN l).2 = 0) (A : Option Addr) (n c : Nat) (w : World) (hr : Reads w w.heap.size 4 A n (cellsI l)) (hn : n ≤ 4096) (fn : FuncId) (cap : Array Value) (Inv : Nat → Nat → World → Prop) (hdo : Do7 l A n w fn cap Inv) :
    Calls Try.prog 42 #[.slice A n c, .func (.func fn) #[] cap] w fun e w' => e = .returned (.tuple #[]) ∧ ∃ rb, w.heap.size ≤ rb ∧ Inv rb n w' := by
  have hl : n = l.length := by have := hr.1; rw [cellsI_length] at this; omega
  have hRl := (reach_kept hP).2
  have hn0 : 0 < n := by have := hP.pos; omega
  have HL := Lib.hid hl
  have hreach := reach_any l hok hP hz A n c w hr hn
  have hcall := hdo.call
  have HD := Lib.hid hdo
  have HOK := Lib.hid hok
  clear hl hr hdo hok
  generalize hR : reachN l = R at *
  have HR0 := Lib.hid hR
  rw [← HL.out] at hRl
  have HRL := Lib.hid hRl
  clear hRl hR
  go_enter Try.func42, Try.ntmps42
  go_wp2_with fail
  refine hreach.mono ?_
  rintro e w1 ⟨A1, c1, rfl, hr1, hB1, hf1⟩
  rw [HRL.out] at hr1 ⊢
  clear hreach
  obtain ⟨b1, off1, rfl, hb1, -⟩ := cellB7 hr1 hn0
  have hfb := hf1 _ rfl
  simp only at hfb
  have hI0 := (HD.out).start b1 w1 hfb hB1
  have HI0 := Lib.hid hI0
  have H1 := Lib.hid hr1
  clear hr1 hB1 hf1 hI0
  go_wp2_with fail
  go_loopw [12] (fun i wr => ∃ k : Nat, k ≤ n ∧ i = .int .i64 k ∧ Inv b1 k wr ∧ Reads wr wr.heap.size 1 (some ⟨b1, off1, none⟩) n (boolsV R)) (fun i _ => n - (intOf i).toNat)
  case atStart => exact ⟨0, by omega, rfl, HI0.out, H1.out⟩
  case round =>
    obtain ⟨k, hk, rfl, hI, hrr⟩ := hrel
    by_cases hlt : k < n
    · obtain ⟨b2, off2, he2, hb2, hc2⟩ := cellB7 hrr hlt
      cases he2
      have z0 : (0 : Int) ≤ (k : Int) := by omega
      have z1 : (k : Int) < (n : Int) := by omega
      have HI := Lib.hid hI
      have HRR := Lib.hid hrr
      clear hI hrr
      cases hb : R.getD k false with
      | false =>
        rw [hb] at hc2
        have hI1 := (HD.out).no b1 k wr HI.out (by rw [HR0.out]; exact hb)
        have HI1 := Lib.hid hI1
        clear hI1 hb
        go_wp2_with fail
        go_roundw
        case rel => exact ⟨k + 1, by omega, by go_num, HI1.out, HRR.out⟩
        case measure => simp [intOf]; omega
      | true =>
        rw [hb] at hc2
        have hld := (HD.out).old b1 k wr HI.out
        obtain ⟨b4, off4, rfl, hb4, c0, c1', c2, c3⟩ := hld.at4 hlt
        have hok' := getD_ok HOK.out (k := k) (by have := HL.out; omega)
        have hof : ∀ W, Calls Try.prog 47 #[.int .u16 (l.getD k default).code] W fun e w' => e = .returned (.tuple #[.int .i64 (kd (l.getD k default) : Nat), .bool (kx (l.getD k default)), .bool (kd (l.getD k default) != 0)]) ∧ Below W.heap.size W w' := fun W => of_any _ hok'.1 W
        have hyes := fun W hsz hI => (HD.out).yes b1 k W hlt hfb hsz (by rw [HR0.out]; exact hb) hI
        have hbel := (HD.out).below b1 k
        generalize l.getD k default = xi at c0 c1' c2 c3 hok' hof hyes
        obtain ⟨xc, xt, xf, xk⟩ := xi
        simp only at c0 c1' c2 c3 hok' hof hyes
        have HBEL := Lib.hid hbel
        have HYES := Lib.hid hyes
        have HOF := Lib.hid hof
        clear hyes hof hb hld hbel
        go_wp2_with fail
        refine (HOF.out _).mono ?_
        rintro e w3 ⟨rfl, hB3⟩
        have hr3 := ((HRR.out).below hB3).more hB3.size
        have hI3 := (HBEL.out) _ _ HI.out hB3
        have d0 := (hB3.cell (p := ⟨b4, off4 + k * 4, none⟩) hb4).trans c0
        have d1 := (hB3.cell (p := ⟨b4, off4 + k * 4 + 1, none⟩) hb4).trans c1'
        have d2 := (hB3.cell (p := ⟨b4, off4 + k * 4 + 2, none⟩) hb4).trans c2
        have d3 := (hB3.cell (p := ⟨b4, off4 + k * 4 + 3, none⟩) hb4).trans c3
        have hs3 := hB3.size
        have HR3 := Lib.hid hr3
        have HCC := Lib.hid ((HYES.out) w3 (by omega) hI3)
        clear hr3 hI3 hB3 c0 c1' c2 c3 HYES
        go_wp2_with fail
        refine (HCC.out).mono ?_
        rintro e w5 ⟨rfl, hI5, hkeep, hs5⟩
        have hr5 := ((HR3.out).of_block (fun ad e => by cases e; exact hkeep)).more hs5
        have HI5 := Lib.hid hI5
        have HR5 := Lib.hid hr5
        clear hI5 hr5 hkeep
        go_wp2_with fail
        go_roundw
        case rel => exact ⟨k + 1, by omega, by go_num, HI5.out, HR5.out⟩
        case measure => simp [intOf]; omega
    · obtain rfl : k = n := by omega
      have HI := Lib.hid hI
      clear hI hrr
      go_wp2_with fail
      go_end0
      exact ⟨rfl, b1, hfb, HI.out⟩
end Go.Proofs.Ytgalkidhgjgbhaa
