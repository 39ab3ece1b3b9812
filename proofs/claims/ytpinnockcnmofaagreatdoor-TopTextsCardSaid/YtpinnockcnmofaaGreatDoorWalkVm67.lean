/-
  The walk of what a machine defers: the end of a run is taken back.
-/
import Derived.Test.YtpinnockcnmofaaGreatDoorWalkVm5
import Derived.Defers
import Derived.Recover
/-! The walk of what a machine defers: the end of a run is taken back. -/
namespace Go.Proofs.YtpinnockcnmofaaGreatDoor
open Go.RowKit
set_option linter.unusedVariables false

theorem lt_of_cell {w : World} {p : Addr} {v : Value} (h : w.cell? p = some v) : p.block < w.heap.size := block_lt_of_cell h

set_option maxRecDepth 100000 in
set_option maxHeartbeats 2000000 in
theorem catch_any (v : Nat) (g g4 g5 : Nat) (b : Value) (s : Vs) (hs : s.Ok) (st : Nat) (ldA : Option Addr) (ldn ldc : Nat) (w : World) (hr : RowK w g 121 23 (runC b s st (.slice ldA ldn ldc))) (hp : w.cell? ⟨g + 1, 0, none⟩ = some (.pointer (some ⟨g, 0, none⟩)))
    (h4 : RowK w g4 39 3 [.int .u32 0, .int .i64 0, .slice none 0 0]) (h5 : RowK w g5 26 1 [.int .i64 0]) (h4g : g4 < g) (h5g : g5 < g) (h45 : g4 ≠ g5) :
    CallsD Tryz.prog 46 #[.pointer (some ⟨g + 1, 0, none⟩), .pointer (some ⟨g4, 0, none⟩), .pointer (some ⟨g5, 0, none⟩)] (.panicking [{ v := .iface 123 (.agg #[.int .u32 (v : Nat)]), recovered := false }]) w fun e u' w' =>
      e = .returned (.tuple #[]) ∧ u' = .panicking [{ v := .iface 123 (.agg #[.int .u32 (v : Nat)]), recovered := true }] ∧ RowK w' g4 39 3 [.int .u32 v, .int .i64 st, .slice ldA ldn ldc] ∧ RowK w' g5 26 1 [.int .i64 0] ∧ (∀ B, B ≤ g4 → B ≤ g5 → Below B w w') := by
  refine callsD_of_wpS Tryz.func46 rfl fun c₀ cs hu => ?_
  apply wpS_seq
  apply wpS_region
  simp [wpOpsS, go_sem, recoverD, hu, Tryz.ntmps46, Exit.thenS]
  have hta : ∀ (n : Int) (w : World), (Instr.typeAssert (.iface 123 (.agg #[.int .u32 n])) 20 123 true).run Tryz.prog w = .ok (.tuple #[.agg #[.int .u32 n], .bool true]) w := fun _ _ => by first | rfl | kernel_rfl
  refine wpS_of_wp ?_
  have ht : (#[Value.pointer (some ⟨g + 1, 0, none⟩), Value.pointer (some ⟨g4, 0, none⟩), Value.pointer (some ⟨g5, 0, none⟩)] ++ ((Array.replicate 24 undef).setIfInBounds 3 (.iface 123 (.agg #[.int .u32 (v : Nat)]))).setIfInBounds 0 (.iface 123 (.agg #[.int .u32 (v : Nat)]))) = #[(.pointer (some ⟨g + 1, 0, none⟩)), (.pointer (some ⟨g4, 0, none⟩)), (.pointer (some ⟨g5, 0, none⟩)), (.iface 123 (.agg #[.int .u32 (v : Nat)])), undef, undef, (.iface 123 (.agg #[.int .u32 (v : Nat)])), undef, undef, undef, undef, undef, undef, undef, undef, undef, undef, undef, undef, undef, undef, undef, undef, undef, undef, undef, undef] := by simp [Array.replicate, List.replicate]
  rw [ht]
  clear ht
  have hlen := hs.len
  have c20 := hr.cell (k := 20) (runC_value hlen)
  have f20 := hr.frozen 20
  have c21 := hr.cell (k := 21) (runC_steps hlen)
  have c22 := hr.cell (k := 22) (runC_loads hlen)
  have hgl := hr.lt
  have hgp := lt_of_cell hp
  have a0 := h4.cell (k := 0) rfl
  have a1 := h4.cell (k := 1) rfl
  have a2 := h4.cell (k := 2) rfl
  have b0 := h5.cell (k := 0) rfl
  have e0 := h4.frozen 0
  have e1 := h4.frozen 1
  have e2 := h4.frozen 2
  have e3 := h5.frozen 0
  have hl4 := h4.lt
  have hl5 := h5.lt
  have H4 := Lib.hid h4
  have H5 := Lib.hid h5
  have HR := Lib.hid hr
  have n1 : g4 ≠ g := by omega
  have n2 : g5 ≠ g := by omega
  clear hr h4 h5 hs hlen
  go_wp2_with fail
  have r4 := ((((H4.out.far (p := ⟨g, 20, none⟩) n1 (.int .u32 v)).set_ 0 (.int .u32 v)).set_ 1 (.int .i64 st)).set_ 2 (.slice ldA ldn ldc)).far (p := ⟨g5, 0, none⟩) h45 (.int .i64 0)
  have r5 := ((((H5.out.far (p := ⟨g, 20, none⟩) n2 (.int .u32 v)).far (p := ⟨g4, 0, none⟩) (Ne.symm h45) (.int .u32 v)).far (p := ⟨g4, 1, none⟩) (Ne.symm h45) (.int .i64 st)).far (p := ⟨g4, 2, none⟩) (Ne.symm h45) (.slice ldA ldn ldc)).set_ 0 (.int .i64 0)
  have rb : ∀ B, B ≤ g4 → B ≤ g5 → Below B w _ := fun B b4 b5 => (((((((Below.refl B w).setCell (p := ⟨g, 20, none⟩) (by show B ≤ g; omega) (.int .u32 v)).setCell (p := ⟨g4, 0, none⟩) b4 (.int .u32 v)).setCell (p := ⟨g4, 1, none⟩) b4 (.int .i64 st)).setCell (p := ⟨g4, 2, none⟩) b4 (.slice ldA ldn ldc)).setCell (p := ⟨g5, 0, none⟩) b5 (.int .i64 0)).alloc (by simp [World.setCell]; omega) (.cells #[.int .u32 v] 123))
  refine ⟨rfl, _, rfl, _, results_none rfl _ _ _, rfl, rfl, r4.alloc _, r5.alloc _, rb⟩
end Go.Proofs.YtpinnockcnmofaaGreatDoor

/-! Whatever a looked-up instruction does. -/
namespace Go.Proofs.YtpinnockcnmofaaGreatDoor
open Go.RowKit
set_option linter.unusedVariables false

theorem callFn_of {P : Program} {f : FuncId} {fn : Func} (hf : P.funcs[f]? = some fn) (hn : (fn.name == "runtime.NumGoroutine") = false) (hb : fn.body.isNone = false) (args : Array Value) (w : World) : (callFunc f args).run P w = .ok (.enter f args) w := by
  have hn' : ¬ fn.name = "runtime.NumGoroutine" := by simpa using hn
  unfold callFunc
  simp [hf, hn']
  intro h0
  rw [h0] at hb
  cases hb
theorem kinds28 {d : Nat} (h1 : 1 ≤ d) (h2 : d ≤ 28) : d = 1 ∨ d = 2 ∨ d = 3 ∨ d = 4 ∨ d = 5 ∨ d = 6 ∨ d = 7 ∨ d = 8 ∨ d = 9 ∨ d = 10 ∨ d = 11 ∨ d = 12 ∨ d = 13 ∨ d = 14 ∨ d = 15 ∨ (16 ≤ d ∧ d ≤ 24) ∨ (25 ≤ d ∧ d ≤ 28) := by omega
theorem fn_reckon {d : Nat} (h1 : 16 ≤ d) (h2 : d ≤ 24) : fnN d = 44 := by unfold fnN; rw [if_neg (by omega), if_pos h1]
theorem fn_branch {d : Nat} (h1 : 25 ≤ d) : fnN d = 43 := by unfold fnN; rw [if_pos h1]
theorem callFn {d : Nat} (h1 : 1 ≤ d) (h2 : d ≤ 28) (args : Array Value) (w : World) : (callFunc (fnN d) args).run Tryz.prog w = .ok (.enter (fnN d) args) w := by
  rcases kinds28 h1 h2 with rfl | rfl | rfl | rfl | rfl | rfl | rfl | rfl | rfl | rfl | rfl | rfl | rfl | rfl | rfl | h | h
  · exact callFn_of (f := 68) Tryz.func68 (by kernel_rfl) rfl args w
  · exact callFn_of (f := 69) Tryz.func69 (by kernel_rfl) rfl args w
  · exact callFn_of (f := 70) Tryz.func70 (by kernel_rfl) rfl args w
  · exact callFn_of (f := 71) Tryz.func71 (by kernel_rfl) rfl args w
  · exact callFn_of (f := 72) Tryz.func72 (by kernel_rfl) rfl args w
  · exact callFn_of (f := 73) Tryz.func73 (by kernel_rfl) rfl args w
  · exact callFn_of (f := 74) Tryz.func74 (by kernel_rfl) rfl args w
  · exact callFn_of (f := 75) Tryz.func75 (by kernel_rfl) rfl args w
  · exact callFn_of (f := 76) Tryz.func76 (by kernel_rfl) rfl args w
  · exact callFn_of (f := 77) Tryz.func77 (by kernel_rfl) rfl args w
  · exact callFn_of (f := 78) Tryz.func78 (by kernel_rfl) rfl args w
  · exact callFn_of (f := 79) Tryz.func79 (by kernel_rfl) rfl args w
  · exact callFn_of (f := 80) Tryz.func80 (by kernel_rfl) rfl args w
  · exact callFn_of (f := 81) Tryz.func81 (by kernel_rfl) rfl args w
  · exact callFn_of (f := 82) Tryz.func82 (by kernel_rfl) rfl args w
  · rw [fn_reckon h.1 h.2]
    exact callFn_of (f := 44) Tryz.func44 (by kernel_rfl) rfl args w
  · rw [fn_branch h.1]
    exact callFn_of (f := 43) Tryz.func43 (by kernel_rfl) rfl args w

set_option maxRecDepth 100000 in
set_option maxHeartbeats 1000000 in
theorem reckon_zero (i : I) (s : Vs) (f : Nat) (hd : kd i = 19) (hz : othN i s = 0) (g : Nat) (b : Value) (st : Nat) (ld : Value) (w : World) (hs : s.Ok) (hr : RowK w g 121 23 (runC b s st ld)) :
    Calls Tryz.prog 44 #[.pointer (some ⟨g, 0, none⟩), opA i f 19 (kx i)] w fun e w' => e = overV 0 ∧ Below w.heap.size w w' := by
  have hoth := fun W h => other_any i f 19 g b s hs st ld W h
  rw [hz] at hoth
  have hgl := hr.lt
  generalize kx i = x at *
  clear hd hz
  obtain ⟨xc, xt, xf, xk⟩ := i
  unfold opA at hoth ⊢
  simp only at hoth ⊢
  have HOTH := Lib.hid hoth
  have HR := Lib.hid hr
  clear hoth hr
  go_enter Tryz.func44, Tryz.ntmps44
  go_wp2_with fail
  refine (HOTH.out _ (HR.out.alloc _)).mono ?_
  rintro e w1 ⟨rfl, hB1⟩
  have hri := (RowK.new w 117 #[.int .u16 xc, .int .u8 xt, .int .u8 xf, .int .u32 xk, .func (.func f) #[] #[], .int .i64 19, .bool x] [.int .u16 xc, .int .u8 xt, .int .u8 xf, .int .u32 xk, .func (.func f) #[] #[], .int .i64 19, .bool x] rfl).below hB1 (by simp)
  have g5 := hri.cell (k := 5) rfl
  have hB2 := ((Below.refl _ w).alloc (Nat.le_refl _) (.cells #[.int .u16 xc, .int .u8 xt, .int .u8 xf, .int .u32 xk, .func (.func f) #[] #[], .int .i64 19, .bool x] 117)).trans (hB1.mono (by simp))
  have HB2 := Lib.hid hB2
  clear hri hB1 hB2 HOTH HR
  go_wp2_with fail
  exact ⟨rfl, rfl, HB2.out⟩

/-- What a deed does: it stops the run, or turns its state. -/
def Does (bs : List Nat) (i : I) (s : Vs) (g : Nat) (b : Value) (st q : Nat) (w : World) (e : Ending) (w' : World) : Prop :=
  (∃ v ld q' xs', stopV i s = some v ∧ e = overV v ∧ RowK w' g 121 23 (runC b s st ld) ∧ q' ≤ q + 1 ∧ w'.ownsRow (g + 2) 3 1 ld q' xs' ∧ ButW g w w') ∨
  (∃ ld q' xs', stopV i s = none ∧ e = .returned (.tuple #[]) ∧ RowK w' g 121 23 (runC b (stepV (fun k => getN bs k 4 false) i s) st ld) ∧ q' ≤ q + 1 ∧ w'.ownsRow (g + 2) 3 1 ld q' xs' ∧ ButW g w w')

set_option maxRecDepth 100000 in
theorem does_any (i : I) (hi : i.Ok) (hk1 : 1 ≤ kd i) (hk28 : kd i ≤ 28) (h60 : kd i = 1 → i.k ≤ 60) (h15 : kd i = 3 ∨ kd i = 6 ∨ kd i = 8 ∨ kd i = 9 → i.k ≤ 15) (g : Nat) (bs : List Nat) (hbs : ∀ b ∈ bs, b < 256) (gb off cb : Nat) (hgb : gb < g) (s : Vs) (hs : s.Ok) (hat : s.at_ ≤ 1000000) (st : Nat) (ld : Value) (q : Nat) (xs : List Value) (hq : q ≤ 1000000) (w : World)
    (hr : RowK w g 121 23 (runC (.slice (some ⟨gb, off, none⟩) 64 cb) s st ld)) (hrb : Reads w w.heap.size 1 (some ⟨gb, off, none⟩) 64 (bytesV bs)) (hown : w.ownsRow (g + 2) 3 1 ld q xs) (hy : ∀ k, getN bs k 4 false < 4294967296) :
    Calls Tryz.prog (fnN (kd i)) #[.pointer (some ⟨g, 0, none⟩), opA i (fnN (kd i)) (kd i) (kx i)] w (Does bs i s g (.slice (some ⟨gb, off, none⟩) 64 cb) st q w) := by
  have goes : ∀ {f : Nat} {args : Array Value} {s' : Vs}, stopV i s = none → stepV (fun k => getN bs k 4 false) i s = s' → Calls Tryz.prog f args w (fun e w' => e = .returned (.tuple #[]) ∧ RowK w' g 121 23 (runC (.slice (some ⟨gb, off, none⟩) 64 cb) s' st ld) ∧ ButG g w w') → Calls Tryz.prog f args w (Does bs i s g (.slice (some ⟨gb, off, none⟩) 64 cb) st q w) := fun h1 h2 h3 => h3.mono fun e w' ⟨a, b, c⟩ => by
    subst h2
    exact .inr ⟨ld, q, xs, h1, a, b, by omega, own_but hown c (by omega), .of_but c⟩
  have ends : ∀ {f : Nat} {args : Array Value} {v : Nat}, stopV i s = some v → Calls Tryz.prog f args w (fun e w' => e = overV v ∧ Below w.heap.size w w') → Calls Tryz.prog f args w (Does bs i s g (.slice (some ⟨gb, off, none⟩) 64 cb) st q w) := fun h1 h3 => h3.mono fun e w' ⟨a, c⟩ =>
    .inl ⟨_, ld, q, xs, h1, a, hr.below c hr.lt, by omega, own_belowV hown c, .of_but (.of_below c)⟩
  have st0 : kd i ≠ 14 → kd i ≠ 15 → kd i ≠ 19 → stopV i s = none := fun a b c => by unfold stopV; rw [if_neg a, if_neg b, if_neg (fun h => c h.1)]
  rcases kinds28 hk1 hk28 with h | h | h | h | h | h | h | h | h | h | h | h | h | h | h | h | h
  · rw [h]
    refine (load_any i hi (h60 h) _ _ _ g bs hbs gb off cb (by omega) s hs st ld q xs hq w hr hrb hown (hy _)).mono fun e w' ⟨a, ⟨ld', xs', r, o⟩, c⟩ => .inr ⟨ld', q + 1, xs', st0 (by omega) (by omega) (by omega), a, ?_, Nat.le_refl _, o, c⟩
    have e1 : stepV (fun k => getN bs k 4 false) i s = { s with a := getN bs i.k 4 false } := by unfold stepV; rw [if_pos h]
    rw [e1]; exact r
  · rw [h]; exact goes (st0 (by omega) (by omega) (by omega)) (by unfold stepV; simp [h]) (imm_any i _ _ _ g _ s hs st ld w hr)
  · rw [h]; exact goes (st0 (by omega) (by omega) (by omega)) (by unfold stepV; simp [h]) (cell_any i _ _ _ g _ s hs st ld w hr (h15 (by omega)))
  · rw [h]; exact goes (st0 (by omega) (by omega) (by omega)) (by unfold stepV; simp [h]) (len_any i _ _ _ g _ s hs st ld w hr)
  · rw [h]; exact goes (st0 (by omega) (by omega) (by omega)) (by unfold stepV; simp [h]) (immX_any i _ _ _ g _ s hs st ld w hr)
  · rw [h]; exact goes (st0 (by omega) (by omega) (by omega)) (by unfold stepV; simp [h]) (cellX_any i _ _ _ g _ s hs st ld w hr (h15 (by omega)))
  · rw [h]; exact goes (st0 (by omega) (by omega) (by omega)) (by unfold stepV; simp [h]) (lenX_any i _ _ _ g _ s hs st ld w hr)
  · rw [h]; exact goes (st0 (by omega) (by omega) (by omega)) (by unfold stepV; simp [h]) (store_any i _ _ _ g _ s hs st ld w hr (h15 (by omega)))
  · rw [h]; exact goes (st0 (by omega) (by omega) (by omega)) (by unfold stepV; simp [h]) (storeX_any i _ _ _ g _ s hs st ld w hr (h15 (by omega)))
  · rw [h]; exact goes (st0 (by omega) (by omega) (by omega)) (by unfold stepV; simp [h]) (toX_any i _ _ _ g _ s hs st ld w hr)
  · rw [h]; exact goes (st0 (by omega) (by omega) (by omega)) (by unfold stepV; simp [h]) (toA_any i _ _ _ g _ s hs st ld w hr)
  · rw [h]; exact goes (st0 (by omega) (by omega) (by omega)) (by unfold stepV; simp [h]) (neg_any i _ _ _ g _ s hs st ld w hr)
  · rw [h]; exact goes (st0 (by omega) (by omega) (by omega)) (by unfold stepV; simp [h]) (jump_any i _ _ _ g _ s hs st ld w hr hat hi.2.2.2)
  · rw [h]; exact ends (by unfold stopV; rw [if_pos h]) (retK_any i _ _ _ g w)
  · rw [h]; exact ends (by unfold stopV; rw [if_neg (by omega), if_pos h]) (retA_any i _ _ _ g _ s st ld w hr)
  · rw [fn_reckon h.1 h.2]
    by_cases hz : kd i = 19 ∧ othN i s = 0
    · rw [hz.1]
      exact ends (by unfold stopV; rw [if_neg (by omega), if_neg (by omega), if_pos hz]) (reckon_zero i s _ hz.1 hz.2 g _ st ld w hs hr)
    · exact goes (by unfold stopV; rw [if_neg (by omega), if_neg (by omega), if_neg hz]) (by unfold stepV; rw [if_neg (by omega), if_neg (by omega), if_neg (by omega), if_neg (by omega), if_neg (by omega), if_neg (by omega), if_neg (by omega), if_neg (by omega), if_neg (by omega), if_neg (by omega), if_neg (by omega), if_neg (by omega), if_neg (by omega), if_neg (by omega)]) (reckon_any i s hi _ h.1 h.2 hz g _ st ld w hs hr)
  · rw [fn_branch h.1]
    exact goes (st0 (by omega) (by omega) (by omega)) (by unfold stepV; rw [if_neg (by omega), if_neg (by omega), if_neg (by omega), if_neg (by omega), if_neg (by omega), if_neg (by omega), if_neg (by omega), if_neg (by omega), if_neg (by omega), if_neg (by omega), if_neg (by omega), if_neg (by omega), if_neg (by omega), if_pos h.1]) (branch_any i hi _ h.1 g _ s hs hat st ld w hr)
end Go.Proofs.YtpinnockcnmofaaGreatDoor
