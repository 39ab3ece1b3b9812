/-
  The walk of AsmFar.
-/
import Derived.Test.YtgalkidhgjgbhaaAsmPlain3
import Derived.Test.YtgalkidhgjgbhaaAwake21b
import Derived.Test.YtgalkidhgjgbhaaWalkBack21
import Derived.Test.YtgalkidhgjgbhaaWalkRun06
import Derived.Test.YtgalkidhgjgbhaaOpenItems
import Derived.Test.YtgalkidhgjgbhaaKinds
namespace Go.Proofs.Ytgalkidhgjgbhaa
open Go.RowKit
set_option linter.unusedVariables false

theorem made_bytes (n : Nat) : (madeCells (Value.int .u8 0).cells (n * 1)).toList = bytesV (List.replicate n 0) := by
  apply List.ext_getElem
  · simp [bytesV, madeCells]
  · intro i h1 h2
    simp [madeCells, bytesV, Value.cells, Nat.mod_one]
theorem info_u8' : (Try.prog.info? 5).map (fun i => (i.zero, i.size, i.bytes)) = some (some (.int .u8 0), 1, 1) := by kernel_rfl

theorem own_lit (w : World) (B : Nat) (hB : B ≤ w.heap.size) (e : TypeId) (size n : Nat) (l : List Value) (hl : l.length = n * size) (hn : n ≤ maxLen) : (w.alloc (.cells l.toArray e)).ownsRow B e size (.slice (some ⟨w.heap.size, 0, none⟩) n n) n l :=
  ⟨hl, .inr ⟨w.heap.size, n, l.toArray, rfl, hB, heap_alloc_new w _, Nat.le_refl _, hn, by simp [hl], by rw [← hl]; simp⟩⟩

/-! Try# the last region: back, a new row of 64 bytes, Run, and what it tells -/
def IsBytes64 (v : Value) (w : World) : Prop := ∃ g, v = .slice (some ⟨g, 0, none⟩) 64 64 ∧ Reads w w.heap.size 1 (some ⟨g, 0, none⟩) 64 (bytesV (List.replicate 64 0))
def Kd.bytes64 : Kd := ⟨IsBytes64, fun _ _ _ hg ⟨g, h1, h2⟩ => ⟨g, h1, hg.reads h2⟩⟩
def IsOut (v : Nat) (x : Value) (w : World) : Prop := ∃ s ld, x = .agg #[.int .u32 v, .int .i64 s, ld]
def Kd.out (v : Nat) : Kd := ⟨IsOut v, fun _ _ _ _ h => h⟩
namespace Any
variable {P : Program} {ops : Array Oper} {Q : Exit → Act → World → Prop} {S : Tmp → Kd} {a0 : Act} {w0 : World}
theorem st_make64 {o : Oper} (d : Tmp) (t e : TypeId) (i : TypeInfo) (hw : Runs ops S o) (ho : o.op = .makeSlice t (.const (.int .i64 64)) (.const (.int .i64 64))) (hd : o.dst = some d) (ht : P.underlying t = some (.slice e)) (hi : P.info? e = some i)
    (hz : i.zero = some (.int .u8 0)) (hs : i.size = 1) (hb : i.bytes = 1) (hS : S d = .bytes64) : St P ops Q S a0 w0 o :=
  st_run hw fun a w hc => by
    obtain ⟨w', hrun, r1, r2⟩ := run_make_full (P := P) w w.heap.size t e i (.int .u8 0) 1 ht hi hz hs .i64 .i64 64 (by rw [hb]; omega) (by simp [maxLen]) (Nat.le_refl _)
    rw [made_bytes] at r1
    unfold Oper.wp
    unfold execOp
    have hl : a.eval (.const (.int .i64 64)) = .int .i64 64 := rfl
    have hrun' : (Instr.makeSlice t (.int .i64 64) (.int .i64 64)).run P w = .ok (.slice (some ⟨w.heap.size, 0, none⟩) 64 64) w' := hrun
    simp only [ho, hl, Sem.run_bind, hrun', Result.andThen]
    refine ⟨_, rfl, fun d' hd' => ?_, (Below.refl _ w).grown r2 (Nat.le_refl _) (fun k e => by cases e)⟩
    rw [hd] at hd'; cases hd'
    rw [hS]
    exact ⟨w.heap.size, rfl, Reads.of_own r1⟩
theorem st_callRun {o : Oper} (d t t2 : Tmp) (n : Nat) (xs : List Value) (u : Nat) {f : FuncId} {ts : Array TypeId} (hw : Runs ops S o) (ho : o.op = .call { callee := .value (.func f), args := #[.tmp t, .tmp t2], argTypes := ts }) (hd : o.dst = some d) {fn : Func} (hf : P.funcs[f]? = some fn)
    (hn : (fn.name == "runtime.NumGoroutine") = false) (hb : fn.body.isNone = false) (ht : (deps ops o).contains t = true) (ht2 : (deps ops o).contains t2 = true) (hS1 : S t = .row 4 n xs) (hS2 : S t2 = .bytes64) (hS : S d = .out u)
    (hc : ∀ w A c g, Reads w w.heap.size 4 A n xs → Reads w w.heap.size 1 (some ⟨g, 0, none⟩) 64 (bytesV (List.replicate 64 0)) → Calls P f #[.slice A n c, .slice (some ⟨g, 0, none⟩) 64 64] w fun e w' => (∃ s ld, e = .returned (.agg #[.int .u32 u, .int .i64 s, ld])) ∧ Below w.heap.size w w') : St P ops Q S a0 w0 o :=
  st_run hw fun a w h => by
    have e1 := h.at t ht
    have e2 := h.at t2 ht2
    rw [hS1] at e1
    rw [hS2] at e2
    obtain ⟨A, c, h1, h2⟩ := e1
    obtain ⟨g, h3, h4⟩ := e2
    refine wp_call d hd ho hf hn hb (vs := #[.slice A n c, .slice (some ⟨g, 0, none⟩) 64 64]) (by simp [h1, h3]) ((hc w A c g h2 h4).mono fun e w' hh => ?_)
    obtain ⟨⟨s, ld, rfl⟩, hB⟩ := hh
    exact ⟨_, rfl, by rw [hS]; exact ⟨s, ld, rfl⟩, hB⟩
theorem st_field0 {o : Oper} (d t : Tmp) (ty : TypeId) (u : Nat) (hw : Runs ops S o) (ho : o.op = .field ty (.tmp t) 0) (hd : o.dst = some d) (ht : (deps ops o).contains t = true) (hS1 : S t = .out u) (hS : S d = .eq (.int .u32 u))
    (hr : ∀ (s : Int) (ld : Value) (w : World), (Instr.field ty (.agg #[.int .u32 u, .int .i64 s, ld]) 0).run P w = .ok (.int .u32 u) w) : St P ops Q S a0 w0 o :=
  st_run hw fun a w h => by
    have e1 := h.at t ht
    rw [hS1] at e1
    obtain ⟨s, ld, h1⟩ := e1
    refine wp_value d hd (v := .int .u32 u) ?_ (by rw [hS]; rfl)
    unfold execOp
    simp only [ho, h1, Sem.run_bind, hr s ld w, Result.andThen]
    rfl
end Any
def farKd (p : List I) (m v : Nat) : Tmp → Kd := kdOf [(81, .row 4 m (cellsI p)), (82, .row 4 m (cellsI p)), (83, .bytes64), (84, .out v), (85, .eq (.int .u32 v)), (86, .eq (.int .u32 v)), (87, .eq (.bool true)), (88, .eq (.bool true)), (89, .eq (.bool true)), (90, .eq (.bool true)), (2, .eq (.bool true))]
theorem back_row {l : List I} {m : Nat} (hl : l.length = m) {w : World} {e : Ending} {w' : World} (h : MakesRef l w e w') : ∃ v, e = .returned v ∧ (Kd.row 4 m (cellsI l)).sat v w' ∧ Grows w w' := by
  obtain ⟨v, rfl, hown, hB⟩ := h
  obtain ⟨A, c, rfl, hr⟩ := own_reads hown
  rw [hl] at hr ⊢
  exact ⟨_, rfl, ⟨A, c, rfl, hr⟩, hB⟩
theorem zeros_lt : ∀ b ∈ List.replicate 64 0, b < 256 := fun b hb => by rw [List.eq_of_mem_replicate hb]; omega

set_option maxRecDepth 100000 in
set_option maxHeartbeats 4000000 in
theorem asmFar_no (w : World) (bt a k : Nat) (o1 : bt < 65536) (o2 : a < 4294967296) (o3 : k < 4294967296) :
    Calls Try.prog 12 #[.agg #[.int .u16 bt, .int .u32 a, .int .u32 k, .bool false]] w fun e w' => e = .returned (.bool true) ∧ Below w.heap.size w w' := by
  obtain ⟨i0, hi0, hz0, hz1, hz2⟩ := info_parts info_item
  obtain ⟨j0, hj0, hy0, hy1, hy2⟩ := info_parts info_u8'
  obtain ⟨n, hn⟩ : ∃ n : Nat, n = bt % 1000 := ⟨_, rfl⟩
  have hrem : (bt : Int) % 1000 = (n : Int) := by omega
  have hn1 : n < 1000 := by omega
  clear hn
  have HREM := Lib.hid hrem
  clear hrem
  have key : ∀ (W1 : World) (g : Nat), W1.heap.size = g → w.heap.size ≤ g → (W1.alloc (.cells (cellsT (farB a k false 0)).toArray 61)).ownsRow w.heap.size 61 5 (.slice (some ⟨g, 0, none⟩) 2 2) 2 (cellsT (farB a k false 0)) := fun W1 g e h => by
    subst e
    exact own_lit W1 _ h _ 5 2 _ rfl (by simp [maxLen])
  have KEY := Lib.hid key
  clear key
  go_enter Try.func12, Try.ntmps12
  go_wp2_with fail
  go_quiet (fail)
  go_wp2_with fail
  have hb1 := below_drewN06 ((Below.refl w.heap.size w).alloc (Nat.le_refl _) (.cells #[.int .u16 bt, .int .u32 a, .int .u32 k, .bool false] 76)) nq
  have hb2 := hb1.alloc hb1.size (.cells #[.int .i64 0, .int .u16 21, .int .u32 k, .int .i64 1, .int .i64 0] 61)
  have hb3 := hb2.alloc hb2.size (.cells (cellsT (farB a k false 0)).toArray 61)
  have HB3 := Lib.hid hb3
  have HB2 := Lib.hid hb2
  clear hb1 hb2 hb3
  go_loopw [9, 10] (fun v i wr => ∃ j : Nat, j ≤ n ∧ i = .int .i64 j ∧ wr.ownsRow w.heap.size 61 5 v (2 + j) (cellsT (farB a k false j)) ∧ Below w.heap.size w wr) (fun _ i _ => n - (intOf i).toNat)
  case atStart =>
    refine ⟨0, by omega, rfl, KEY.out _ (w.heap.size + 1 + 1) (by show ((w.heap.push _).push _).size = _; simp) (by omega), ?_⟩
    exact HB3.out
  case round =>
    obtain ⟨j, hj, rfl, hown, hB⟩ := hrel
    have hsz := hB.size
    have z0 : (0 : Int) ≤ (j : Int) := by omega
    by_cases hlt : j < n
    · have z1 : (j : Int) < (bt : Int) % 1000 := by have := HREM.out; omega
      have hstep := farB_succ a k false j
      have HS := Lib.hid hstep
      clear hstep
      go_wp2_with (at_builtin; refine wpList_append_lit rfl (.tmp 40) (.tmp 42) 62 rfl w.heap.size 61 i0 _ 5 32 Try.underlying62 hi0 hz0 hz1 hz2 rfl (by omega) _ _ (2 + j) _ rfl hown _ 1 1 rfl _ rfl rfl (by simp [Value.oneCell']) (by simp only [maxLen]; omega) (by omega) hsz ?_; intro v1 w1 hown1 hB1 hs1)
      go_roundw
      case rel =>
        refine ⟨j + 1, by omega, by go_num, ?_, hB.trans hB1⟩
        rw [HS.out, cellsT_append, ← Nat.add_assoc]
        exact hown1
      case measure => simp [intOf] <;> omega
    · obtain rfl : n = j := by omega
      have hnj : (bt : Int) % 1000 = (n : Int) := HREM.out
      have z1 : ¬ (n : Int) < (bt : Int) % 1000 := by omega
      have HNJ := Lib.hid hnj
      clear hnj
      go_wp2_with (at_builtin; go_loud (refine wpList_append_lit rfl (.tmp 44) (.tmp 48) 62 rfl w.heap.size 61 i0 _ 5 32 Try.underlying62 hi0 hz0 hz1 hz2 rfl (by omega) _ _ (2 + n) _ rfl hown _ 3 3 rfl _ rfl rfl (by simp [Value.oneCell']) (by simp only [maxLen]; omega) (by omega) hsz ?_; intro v1 w1 hown1 hB1 hs1))
      have hBw := hB.trans hB1
      have hown2 : w1.ownsRow w.heap.size 61 5 v1 (2 + n + 3) (cellsT (farT a k false n)) := by
        unfold farT
        rw [cellsT_append]
        exact hown1
      obtain ⟨A1, c1, rfl, hr1⟩ := own_reads hown2
      clear hown hown1 hown2 hB1 hB hsz KEY
      refine (assemble_yes (farT a k false n) (farT_ok o2 o3) (farT_form a k false n) A1 _ c1 w1 hr1 (by omega)).mono ?_
      rintro e w2 ⟨F, v2, hL, rfl, hown2, hB2⟩
      have hB2w := hBw.trans (hB2.mono hBw.size)
      have hr2 := (hr1.below hB2).more hB2.size
      have hpn := farT_pN a k false n hL
      have hck := farT_check a k false n hL (by omega)
      have hres : asmR (farT a k false n) F = (asmN (farT a k false n) F, 0) := asmR_ok (by rw [hpn]; split <;> omega) hck
      have hrunT := farT_run a k false n (wordLE (List.replicate 64 0))
      have hgo := goes_asm (farT_form a k false n) hL hrunT (farT_reach a k false n (by omega))
      have hpok := asmN_ok (farT_ok (n := n) (s := false) o2 o3) (farT_form a k false n) hL (by rw [farT_len]; omega)
      have hal := asmLen (farT a k false n) F
      rw [hpn] at hal
      have hsize := fun G (h : Laid (farT a k false n) G) => farT_pN a k false n h
      rw [hres] at hown2 ⊢
      simp only at hown2
      generalize asmN (farT a k false n) F = p at *
      have hgo' : Goes p (wordLE (List.replicate 64 0)) 0 0 (if (decide (a = k) != false) then 2 else 1) := hgo
      obtain ⟨v, hv⟩ : ∃ v : Nat, v = (if (decide (a = k) != false) then 2 else 1) := ⟨_, rfl⟩
      rw [← hv] at hgo'
      rw [hal] at hown2
      obtain ⟨A3, c3, rfl, hr3⟩ := own_reads hown2
      have hr3' : Reads w2 w2.heap.size 4 A3 p.length (cellsI p) := by rw [hal]; exact hr3
      have HSZ := Lib.hid hsize
      have HGO := Lib.hid hgo'
      have HPOK := Lib.hid hpok
      have HV := Lib.hid hv
      have HAL := Lib.hid hal
      have HR3 := Lib.hid hr3'
      clear hres hck hpn hgo hrunT hL hown2 hsize hgo' hpok hv hal hB2 hr1 hBw hr3 hr3'
      obtain ⟨m, hm⟩ : ∃ m : Nat, m = n + 4 + (if 255 < n + 1 then 2 else 0) := ⟨_, rfl⟩
      rw [← hm] at HAL HSZ ⊢
      have qL : ((m : Int) != (m : Int)) = false := by simp
      by_cases hbig : 255 < n + 1
      · rw [if_pos hbig] at hm
        have HM := Lib.hid hm
        clear hm
        have zb : (255 : Int) < (bt : Int) % 1000 + 1 := by have := HNJ.out; omega
        have hmi : (bt : Int) % 1000 + 4 + 2 = (m : Int) := by have := HNJ.out; have := HM.out; omega
        go_wp2_with fail
        refine (size_yes (farT a k false n) (farT_ok o2 o3) (farT_form a k false n) A1 _ c1 w2 hr2 (by omega)).mono ?_
        rintro e w3 ⟨⟨G, hL2, rfl⟩, hB3⟩
        rw [HSZ.out G hL2]
        have hB3w := hB2w.trans (hB3.mono hB2w.size)
        have hr3 : Reads w3 w3.heap.size 4 A3 m (cellsI p) := by have := (HR3.out.below hB3).more hB3.size; rw [HAL.out] at this; exact this
        clear hL2 hB3 hB2w hr2
        by_cases e : a = k
        · have qe : ((a : Int) == (k : Int)) = true := by simp [e]
          have hgo2 : Goes p (wordLE (List.replicate 64 0)) 0 0 2 := by have h1 := HGO.out; have h2 := HV.out; rw [decide_eq_true e] at h2; rw [h2] at h1; exact h1
          clear e
          go_wp2_with fail
          refine Any.wp_region_kinds follows (farKd p m 2) [81, 82, 83, 84, 85, 86, 87, 88, 89, 90, 2] (by kernel_rfl) (by kernel_rfl) (by kernel_rfl) ⟨?_, ?_, ?_, ?_, ?_, ?_, ?_, ?_, ?_, ?_, ?_, trivial⟩ ?_
          · exact Any.st_was 81 11 (.plain rfl) (.inl rfl) rfl (by decide) ⟨A3, c3, rfl, hr3⟩
          · exact Any.st_call1 82 81 _ _ _ (.plain rfl) rfl rfl Try.func31 (by kernel_rfl) rfl (by decide) rfl fun w A c r => (back_insts p HPOK.out A _ c w r (by have := HM.out; omega)).mono fun e w' h => back_row HAL.out h
          · exact Any.st_make64 83 _ _ j0 (.plain rfl) rfl rfl Try.underlying33 hj0 hy0 hy1 hy2 rfl
          · exact Any.st_callRun 84 82 83 m (cellsI p) 2 (.plain rfl) rfl rfl Try.func32 (by kernel_rfl) rfl (by decide) (by decide) rfl rfl rfl fun w A c g r r2 => run06_any p HPOK.out A m c (List.replicate 64 0) zeros_lt g 0 64 (by omega) (by simp [maxLen]) w r (by have := HM.out; omega) r2 2 ⟨0, rfl, hgo2⟩
          · exact Any.st_field0 85 84 _ 2 (.plain rfl) rfl rfl (by decide) rfl rfl (fun s ld w => by first | rfl | simp [go_sem, Instr.field, asAgg])
          · exact Any.st_was 86 14 (.plain rfl) (.inl rfl) rfl (by decide) rfl
          · exact Any.st_bin 87 85 86 _ _ _ _ _ _ (.plain rfl) rfl rfl (by decide) (by decide) rfl rfl (fun w => by simp [go_sem]) (fun w => by simp [go_sem]) rfl
          · exact Any.st_copy 88 87 (.plain rfl) (.inl rfl) rfl (by decide) rfl
          · exact Any.st_call0 89 _ (.known 88 rfl rfl (by decide) rfl) rfl rfl Try.func33 (by kernel_rfl) rfl rfl awake21_any
          · exact Any.st_and 90 88 89 _ (.plain rfl) rfl rfl (by decide) (by decide) rfl rfl rfl
          · exact Any.st_copy 2 90 (.plain rfl) (.inr rfl) rfl (by decide) rfl
          intro f w5 hg hf
          have h2 : f 2 = .bool true := hf 2 rfl
          have hB5 : Below w.heap.size w w5 := (Grows.drew hB3w).trans hg
          simp only [Any.fill, List.foldl_cons, List.foldl_nil, List.setIfInBounds_toArray, List.set_cons_succ, List.set_cons_zero, h2]
          clear hf hg h2 hr3 hB3w
          go_wp2_with fail
          go_ret
          exact ⟨rfl, hB5⟩
        · have qe : ((a : Int) == (k : Int)) = false := by simp; omega
          have hgo2 : Goes p (wordLE (List.replicate 64 0)) 0 0 1 := by have h1 := HGO.out; have h2 := HV.out; rw [decide_eq_false e] at h2; rw [h2] at h1; exact h1
          clear e
          go_wp2_with fail
          refine Any.wp_region_kinds follows (farKd p m 1) [81, 82, 83, 84, 85, 86, 87, 88, 89, 90, 2] (by kernel_rfl) (by kernel_rfl) (by kernel_rfl) ⟨?_, ?_, ?_, ?_, ?_, ?_, ?_, ?_, ?_, ?_, ?_, trivial⟩ ?_
          · exact Any.st_was 81 11 (.plain rfl) (.inl rfl) rfl (by decide) ⟨A3, c3, rfl, hr3⟩
          · exact Any.st_call1 82 81 _ _ _ (.plain rfl) rfl rfl Try.func31 (by kernel_rfl) rfl (by decide) rfl fun w A c r => (back_insts p HPOK.out A _ c w r (by have := HM.out; omega)).mono fun e w' h => back_row HAL.out h
          · exact Any.st_make64 83 _ _ j0 (.plain rfl) rfl rfl Try.underlying33 hj0 hy0 hy1 hy2 rfl
          · exact Any.st_callRun 84 82 83 m (cellsI p) 1 (.plain rfl) rfl rfl Try.func32 (by kernel_rfl) rfl (by decide) (by decide) rfl rfl rfl fun w A c g r r2 => run06_any p HPOK.out A m c (List.replicate 64 0) zeros_lt g 0 64 (by omega) (by simp [maxLen]) w r (by have := HM.out; omega) r2 1 ⟨0, rfl, hgo2⟩
          · exact Any.st_field0 85 84 _ 1 (.plain rfl) rfl rfl (by decide) rfl rfl (fun s ld w => by first | rfl | simp [go_sem, Instr.field, asAgg])
          · exact Any.st_was 86 14 (.plain rfl) (.inl rfl) rfl (by decide) rfl
          · exact Any.st_bin 87 85 86 _ _ _ _ _ _ (.plain rfl) rfl rfl (by decide) (by decide) rfl rfl (fun w => by simp [go_sem]) (fun w => by simp [go_sem]) rfl
          · exact Any.st_copy 88 87 (.plain rfl) (.inl rfl) rfl (by decide) rfl
          · exact Any.st_call0 89 _ (.known 88 rfl rfl (by decide) rfl) rfl rfl Try.func33 (by kernel_rfl) rfl rfl awake21_any
          · exact Any.st_and 90 88 89 _ (.plain rfl) rfl rfl (by decide) (by decide) rfl rfl rfl
          · exact Any.st_copy 2 90 (.plain rfl) (.inr rfl) rfl (by decide) rfl
          intro f w5 hg hf
          have h2 : f 2 = .bool true := hf 2 rfl
          have hB5 : Below w.heap.size w w5 := (Grows.drew hB3w).trans hg
          simp only [Any.fill, List.foldl_cons, List.foldl_nil, List.setIfInBounds_toArray, List.set_cons_succ, List.set_cons_zero, h2]
          clear hf hg h2 hr3 hB3w
          go_wp2_with fail
          go_ret
          exact ⟨rfl, hB5⟩
      · rw [if_neg hbig] at hm
        have HM := Lib.hid hm
        clear hm
        have zb : ¬ (255 : Int) < (bt : Int) % 1000 + 1 := by have := HNJ.out; omega
        have hmi : (bt : Int) % 1000 + 4 = (m : Int) := by have := HNJ.out; have := HM.out; omega
        go_wp2_with fail
        refine (size_yes (farT a k false n) (farT_ok o2 o3) (farT_form a k false n) A1 _ c1 w2 hr2 (by omega)).mono ?_
        rintro e w3 ⟨⟨G, hL2, rfl⟩, hB3⟩
        rw [HSZ.out G hL2]
        have hB3w := hB2w.trans (hB3.mono hB2w.size)
        have hr3 : Reads w3 w3.heap.size 4 A3 m (cellsI p) := by have := (HR3.out.below hB3).more hB3.size; rw [HAL.out] at this; exact this
        clear hL2 hB3 hB2w hr2
        by_cases e : a = k
        · have qe : ((a : Int) == (k : Int)) = true := by simp [e]
          have hgo2 : Goes p (wordLE (List.replicate 64 0)) 0 0 2 := by have h1 := HGO.out; have h2 := HV.out; rw [decide_eq_true e] at h2; rw [h2] at h1; exact h1
          clear e
          go_wp2_with fail
          refine Any.wp_region_kinds follows (farKd p m 2) [81, 82, 83, 84, 85, 86, 87, 88, 89, 90, 2] (by kernel_rfl) (by kernel_rfl) (by kernel_rfl) ⟨?_, ?_, ?_, ?_, ?_, ?_, ?_, ?_, ?_, ?_, ?_, trivial⟩ ?_
          · exact Any.st_was 81 11 (.plain rfl) (.inl rfl) rfl (by decide) ⟨A3, c3, rfl, hr3⟩
          · exact Any.st_call1 82 81 _ _ _ (.plain rfl) rfl rfl Try.func31 (by kernel_rfl) rfl (by decide) rfl fun w A c r => (back_insts p HPOK.out A _ c w r (by have := HM.out; omega)).mono fun e w' h => back_row HAL.out h
          · exact Any.st_make64 83 _ _ j0 (.plain rfl) rfl rfl Try.underlying33 hj0 hy0 hy1 hy2 rfl
          · exact Any.st_callRun 84 82 83 m (cellsI p) 2 (.plain rfl) rfl rfl Try.func32 (by kernel_rfl) rfl (by decide) (by decide) rfl rfl rfl fun w A c g r r2 => run06_any p HPOK.out A m c (List.replicate 64 0) zeros_lt g 0 64 (by omega) (by simp [maxLen]) w r (by have := HM.out; omega) r2 2 ⟨0, rfl, hgo2⟩
          · exact Any.st_field0 85 84 _ 2 (.plain rfl) rfl rfl (by decide) rfl rfl (fun s ld w => by first | rfl | simp [go_sem, Instr.field, asAgg])
          · exact Any.st_was 86 14 (.plain rfl) (.inl rfl) rfl (by decide) rfl
          · exact Any.st_bin 87 85 86 _ _ _ _ _ _ (.plain rfl) rfl rfl (by decide) (by decide) rfl rfl (fun w => by simp [go_sem]) (fun w => by simp [go_sem]) rfl
          · exact Any.st_copy 88 87 (.plain rfl) (.inl rfl) rfl (by decide) rfl
          · exact Any.st_call0 89 _ (.known 88 rfl rfl (by decide) rfl) rfl rfl Try.func33 (by kernel_rfl) rfl rfl awake21_any
          · exact Any.st_and 90 88 89 _ (.plain rfl) rfl rfl (by decide) (by decide) rfl rfl rfl
          · exact Any.st_copy 2 90 (.plain rfl) (.inr rfl) rfl (by decide) rfl
          intro f w5 hg hf
          have h2 : f 2 = .bool true := hf 2 rfl
          have hB5 : Below w.heap.size w w5 := (Grows.drew hB3w).trans hg
          simp only [Any.fill, List.foldl_cons, List.foldl_nil, List.setIfInBounds_toArray, List.set_cons_succ, List.set_cons_zero, h2]
          clear hf hg h2 hr3 hB3w
          go_wp2_with fail
          go_ret
          exact ⟨rfl, hB5⟩
        · have qe : ((a : Int) == (k : Int)) = false := by simp; omega
          have hgo2 : Goes p (wordLE (List.replicate 64 0)) 0 0 1 := by have h1 := HGO.out; have h2 := HV.out; rw [decide_eq_false e] at h2; rw [h2] at h1; exact h1
          clear e
          go_wp2_with fail
          refine Any.wp_region_kinds follows (farKd p m 1) [81, 82, 83, 84, 85, 86, 87, 88, 89, 90, 2] (by kernel_rfl) (by kernel_rfl) (by kernel_rfl) ⟨?_, ?_, ?_, ?_, ?_, ?_, ?_, ?_, ?_, ?_, ?_, trivial⟩ ?_
          · exact Any.st_was 81 11 (.plain rfl) (.inl rfl) rfl (by decide) ⟨A3, c3, rfl, hr3⟩
          · exact Any.st_call1 82 81 _ _ _ (.plain rfl) rfl rfl Try.func31 (by kernel_rfl) rfl (by decide) rfl fun w A c r => (back_insts p HPOK.out A _ c w r (by have := HM.out; omega)).mono fun e w' h => back_row HAL.out h
          · exact Any.st_make64 83 _ _ j0 (.plain rfl) rfl rfl Try.underlying33 hj0 hy0 hy1 hy2 rfl
          · exact Any.st_callRun 84 82 83 m (cellsI p) 1 (.plain rfl) rfl rfl Try.func32 (by kernel_rfl) rfl (by decide) (by decide) rfl rfl rfl fun w A c g r r2 => run06_any p HPOK.out A m c (List.replicate 64 0) zeros_lt g 0 64 (by omega) (by simp [maxLen]) w r (by have := HM.out; omega) r2 1 ⟨0, rfl, hgo2⟩
          · exact Any.st_field0 85 84 _ 1 (.plain rfl) rfl rfl (by decide) rfl rfl (fun s ld w => by first | rfl | simp [go_sem, Instr.field, asAgg])
          · exact Any.st_was 86 14 (.plain rfl) (.inl rfl) rfl (by decide) rfl
          · exact Any.st_bin 87 85 86 _ _ _ _ _ _ (.plain rfl) rfl rfl (by decide) (by decide) rfl rfl (fun w => by simp [go_sem]) (fun w => by simp [go_sem]) rfl
          · exact Any.st_copy 88 87 (.plain rfl) (.inl rfl) rfl (by decide) rfl
          · exact Any.st_call0 89 _ (.known 88 rfl rfl (by decide) rfl) rfl rfl Try.func33 (by kernel_rfl) rfl rfl awake21_any
          · exact Any.st_and 90 88 89 _ (.plain rfl) rfl rfl (by decide) (by decide) rfl rfl rfl
          · exact Any.st_copy 2 90 (.plain rfl) (.inr rfl) rfl (by decide) rfl
          intro f w5 hg hf
          have h2 : f 2 = .bool true := hf 2 rfl
          have hB5 : Below w.heap.size w w5 := (Grows.drew hB3w).trans hg
          simp only [Any.fill, List.foldl_cons, List.foldl_nil, List.setIfInBounds_toArray, List.set_cons_succ, List.set_cons_zero, h2]
          clear hf hg h2 hr3 hB3w
          go_wp2_with fail
          go_ret
          exact ⟨rfl, hB5⟩
set_option maxRecDepth 100000 in
set_option maxHeartbeats 4000000 in
theorem asmFar_yes (w : World) (bt a k : Nat) (o1 : bt < 65536) (o2 : a < 4294967296) (o3 : k < 4294967296) :
    Calls Try.prog 12 #[.agg #[.int .u16 bt, .int .u32 a, .int .u32 k, .bool true]] w fun e w' => e = .returned (.bool true) ∧ Below w.heap.size w w' := by
  obtain ⟨i0, hi0, hz0, hz1, hz2⟩ := info_parts info_item
  obtain ⟨j0, hj0, hy0, hy1, hy2⟩ := info_parts info_u8'
  obtain ⟨n, hn⟩ : ∃ n : Nat, n = bt % 1000 := ⟨_, rfl⟩
  have hrem : (bt : Int) % 1000 = (n : Int) := by omega
  have hn1 : n < 1000 := by omega
  clear hn
  have HREM := Lib.hid hrem
  clear hrem
  have key : ∀ (W1 : World) (g : Nat), W1.heap.size = g → w.heap.size ≤ g → (W1.alloc (.cells (cellsT (farB a k true 0)).toArray 61)).ownsRow w.heap.size 61 5 (.slice (some ⟨g, 0, none⟩) 2 2) 2 (cellsT (farB a k true 0)) := fun W1 g e h => by
    subst e
    exact own_lit W1 _ h _ 5 2 _ rfl (by simp [maxLen])
  have KEY := Lib.hid key
  clear key
  go_enter Try.func12, Try.ntmps12
  go_wp2_with fail
  go_quiet (fail)
  go_wp2_with fail
  have hb1 := below_drewN06 ((Below.refl w.heap.size w).alloc (Nat.le_refl _) (.cells #[.int .u16 bt, .int .u32 a, .int .u32 k, .bool true] 76)) nq
  have hb2 := hb1.alloc hb1.size (.cells #[.int .i64 0, .int .u16 21, .int .u32 k, .int .i64 0, .int .i64 1] 61)
  have hb3 := hb2.alloc hb2.size (.cells (cellsT (farB a k true 0)).toArray 61)
  have HB3 := Lib.hid hb3
  have HB2 := Lib.hid hb2
  clear hb1 hb2 hb3
  go_loopw [9, 10] (fun v i wr => ∃ j : Nat, j ≤ n ∧ i = .int .i64 j ∧ wr.ownsRow w.heap.size 61 5 v (2 + j) (cellsT (farB a k true j)) ∧ Below w.heap.size w wr) (fun _ i _ => n - (intOf i).toNat)
  case atStart =>
    refine ⟨0, by omega, rfl, KEY.out _ (w.heap.size + 1 + 1) (by show ((w.heap.push _).push _).size = _; simp) (by omega), ?_⟩
    exact HB3.out
  case round =>
    obtain ⟨j, hj, rfl, hown, hB⟩ := hrel
    have hsz := hB.size
    have z0 : (0 : Int) ≤ (j : Int) := by omega
    by_cases hlt : j < n
    · have z1 : (j : Int) < (bt : Int) % 1000 := by have := HREM.out; omega
      have hstep := farB_succ a k true j
      have HS := Lib.hid hstep
      clear hstep
      go_wp2_with (at_builtin; refine wpList_append_lit rfl (.tmp 40) (.tmp 42) 62 rfl w.heap.size 61 i0 _ 5 32 Try.underlying62 hi0 hz0 hz1 hz2 rfl (by omega) _ _ (2 + j) _ rfl hown _ 1 1 rfl _ rfl rfl (by simp [Value.oneCell']) (by simp only [maxLen]; omega) (by omega) hsz ?_; intro v1 w1 hown1 hB1 hs1)
      go_roundw
      case rel =>
        refine ⟨j + 1, by omega, by go_num, ?_, hB.trans hB1⟩
        rw [HS.out, cellsT_append, ← Nat.add_assoc]
        exact hown1
      case measure => simp [intOf] <;> omega
    · obtain rfl : n = j := by omega
      have hnj : (bt : Int) % 1000 = (n : Int) := HREM.out
      have z1 : ¬ (n : Int) < (bt : Int) % 1000 := by omega
      have HNJ := Lib.hid hnj
      clear hnj
      go_wp2_with (at_builtin; go_loud (refine wpList_append_lit rfl (.tmp 44) (.tmp 48) 62 rfl w.heap.size 61 i0 _ 5 32 Try.underlying62 hi0 hz0 hz1 hz2 rfl (by omega) _ _ (2 + n) _ rfl hown _ 3 3 rfl _ rfl rfl (by simp [Value.oneCell']) (by simp only [maxLen]; omega) (by omega) hsz ?_; intro v1 w1 hown1 hB1 hs1))
      have hBw := hB.trans hB1
      have hown2 : w1.ownsRow w.heap.size 61 5 v1 (2 + n + 3) (cellsT (farT a k true n)) := by
        unfold farT
        rw [cellsT_append]
        exact hown1
      obtain ⟨A1, c1, rfl, hr1⟩ := own_reads hown2
      clear hown hown1 hown2 hB1 hB hsz KEY
      refine (assemble_yes (farT a k true n) (farT_ok o2 o3) (farT_form a k true n) A1 _ c1 w1 hr1 (by omega)).mono ?_
      rintro e w2 ⟨F, v2, hL, rfl, hown2, hB2⟩
      have hB2w := hBw.trans (hB2.mono hBw.size)
      have hr2 := (hr1.below hB2).more hB2.size
      have hpn := farT_pN a k true n hL
      have hck := farT_check a k true n hL (by omega)
      have hres : asmR (farT a k true n) F = (asmN (farT a k true n) F, 0) := asmR_ok (by rw [hpn]; split <;> omega) hck
      have hrunT := farT_run a k true n (wordLE (List.replicate 64 0))
      have hgo := goes_asm (farT_form a k true n) hL hrunT (farT_reach a k true n (by omega))
      have hpok := asmN_ok (farT_ok (n := n) (s := true) o2 o3) (farT_form a k true n) hL (by rw [farT_len]; omega)
      have hal := asmLen (farT a k true n) F
      rw [hpn] at hal
      have hsize := fun G (h : Laid (farT a k true n) G) => farT_pN a k true n h
      rw [hres] at hown2 ⊢
      simp only at hown2
      generalize asmN (farT a k true n) F = p at *
      have hgo' : Goes p (wordLE (List.replicate 64 0)) 0 0 (if (decide (a = k) != true) then 2 else 1) := hgo
      obtain ⟨v, hv⟩ : ∃ v : Nat, v = (if (decide (a = k) != true) then 2 else 1) := ⟨_, rfl⟩
      rw [← hv] at hgo'
      rw [hal] at hown2
      obtain ⟨A3, c3, rfl, hr3⟩ := own_reads hown2
      have hr3' : Reads w2 w2.heap.size 4 A3 p.length (cellsI p) := by rw [hal]; exact hr3
      have HSZ := Lib.hid hsize
      have HGO := Lib.hid hgo'
      have HPOK := Lib.hid hpok
      have HV := Lib.hid hv
      have HAL := Lib.hid hal
      have HR3 := Lib.hid hr3'
      clear hres hck hpn hgo hrunT hL hown2 hsize hgo' hpok hv hal hB2 hr1 hBw hr3 hr3'
      obtain ⟨m, hm⟩ : ∃ m : Nat, m = n + 4 + (if 255 < n + 1 then 2 else 0) := ⟨_, rfl⟩
      rw [← hm] at HAL HSZ ⊢
      have qL : ((m : Int) != (m : Int)) = false := by simp
      by_cases hbig : 255 < n + 1
      · rw [if_pos hbig] at hm
        have HM := Lib.hid hm
        clear hm
        have zb : (255 : Int) < (bt : Int) % 1000 + 1 := by have := HNJ.out; omega
        have hmi : (bt : Int) % 1000 + 4 + 2 = (m : Int) := by have := HNJ.out; have := HM.out; omega
        go_wp2_with fail
        refine (size_yes (farT a k true n) (farT_ok o2 o3) (farT_form a k true n) A1 _ c1 w2 hr2 (by omega)).mono ?_
        rintro e w3 ⟨⟨G, hL2, rfl⟩, hB3⟩
        rw [HSZ.out G hL2]
        have hB3w := hB2w.trans (hB3.mono hB2w.size)
        have hr3 : Reads w3 w3.heap.size 4 A3 m (cellsI p) := by have := (HR3.out.below hB3).more hB3.size; rw [HAL.out] at this; exact this
        clear hL2 hB3 hB2w hr2
        by_cases e : a = k
        · have qe : ((a : Int) == (k : Int)) = true := by simp [e]
          have hgo2 : Goes p (wordLE (List.replicate 64 0)) 0 0 1 := by have h1 := HGO.out; have h2 := HV.out; rw [decide_eq_true e] at h2; rw [h2] at h1; exact h1
          clear e
          go_wp2_with fail
          refine Any.wp_region_kinds follows (farKd p m 1) [81, 82, 83, 84, 85, 86, 87, 88, 89, 90, 2] (by kernel_rfl) (by kernel_rfl) (by kernel_rfl) ⟨?_, ?_, ?_, ?_, ?_, ?_, ?_, ?_, ?_, ?_, ?_, trivial⟩ ?_
          · exact Any.st_was 81 11 (.plain rfl) (.inl rfl) rfl (by decide) ⟨A3, c3, rfl, hr3⟩
          · exact Any.st_call1 82 81 _ _ _ (.plain rfl) rfl rfl Try.func31 (by kernel_rfl) rfl (by decide) rfl fun w A c r => (back_insts p HPOK.out A _ c w r (by have := HM.out; omega)).mono fun e w' h => back_row HAL.out h
          · exact Any.st_make64 83 _ _ j0 (.plain rfl) rfl rfl Try.underlying33 hj0 hy0 hy1 hy2 rfl
          · exact Any.st_callRun 84 82 83 m (cellsI p) 1 (.plain rfl) rfl rfl Try.func32 (by kernel_rfl) rfl (by decide) (by decide) rfl rfl rfl fun w A c g r r2 => run06_any p HPOK.out A m c (List.replicate 64 0) zeros_lt g 0 64 (by omega) (by simp [maxLen]) w r (by have := HM.out; omega) r2 1 ⟨0, rfl, hgo2⟩
          · exact Any.st_field0 85 84 _ 1 (.plain rfl) rfl rfl (by decide) rfl rfl (fun s ld w => by first | rfl | simp [go_sem, Instr.field, asAgg])
          · exact Any.st_was 86 14 (.plain rfl) (.inl rfl) rfl (by decide) rfl
          · exact Any.st_bin 87 85 86 _ _ _ _ _ _ (.plain rfl) rfl rfl (by decide) (by decide) rfl rfl (fun w => by simp [go_sem]) (fun w => by simp [go_sem]) rfl
          · exact Any.st_copy 88 87 (.plain rfl) (.inl rfl) rfl (by decide) rfl
          · exact Any.st_call0 89 _ (.known 88 rfl rfl (by decide) rfl) rfl rfl Try.func33 (by kernel_rfl) rfl rfl awake21_any
          · exact Any.st_and 90 88 89 _ (.plain rfl) rfl rfl (by decide) (by decide) rfl rfl rfl
          · exact Any.st_copy 2 90 (.plain rfl) (.inr rfl) rfl (by decide) rfl
          intro f w5 hg hf
          have h2 : f 2 = .bool true := hf 2 rfl
          have hB5 : Below w.heap.size w w5 := (Grows.drew hB3w).trans hg
          simp only [Any.fill, List.foldl_cons, List.foldl_nil, List.setIfInBounds_toArray, List.set_cons_succ, List.set_cons_zero, h2]
          clear hf hg h2 hr3 hB3w
          go_wp2_with fail
          go_ret
          exact ⟨rfl, hB5⟩
        · have qe : ((a : Int) == (k : Int)) = false := by simp; omega
          have hgo2 : Goes p (wordLE (List.replicate 64 0)) 0 0 2 := by have h1 := HGO.out; have h2 := HV.out; rw [decide_eq_false e] at h2; rw [h2] at h1; exact h1
          clear e
          go_wp2_with fail
          refine Any.wp_region_kinds follows (farKd p m 2) [81, 82, 83, 84, 85, 86, 87, 88, 89, 90, 2] (by kernel_rfl) (by kernel_rfl) (by kernel_rfl) ⟨?_, ?_, ?_, ?_, ?_, ?_, ?_, ?_, ?_, ?_, ?_, trivial⟩ ?_
          · exact Any.st_was 81 11 (.plain rfl) (.inl rfl) rfl (by decide) ⟨A3, c3, rfl, hr3⟩
          · exact Any.st_call1 82 81 _ _ _ (.plain rfl) rfl rfl Try.func31 (by kernel_rfl) rfl (by decide) rfl fun w A c r => (back_insts p HPOK.out A _ c w r (by have := HM.out; omega)).mono fun e w' h => back_row HAL.out h
          · exact Any.st_make64 83 _ _ j0 (.plain rfl) rfl rfl Try.underlying33 hj0 hy0 hy1 hy2 rfl
          · exact Any.st_callRun 84 82 83 m (cellsI p) 2 (.plain rfl) rfl rfl Try.func32 (by kernel_rfl) rfl (by decide) (by decide) rfl rfl rfl fun w A c g r r2 => run06_any p HPOK.out A m c (List.replicate 64 0) zeros_lt g 0 64 (by omega) (by simp [maxLen]) w r (by have := HM.out; omega) r2 2 ⟨0, rfl, hgo2⟩
          · exact Any.st_field0 85 84 _ 2 (.plain rfl) rfl rfl (by decide) rfl rfl (fun s ld w => by first | rfl | simp [go_sem, Instr.field, asAgg])
          · exact Any.st_was 86 14 (.plain rfl) (.inl rfl) rfl (by decide) rfl
          · exact Any.st_bin 87 85 86 _ _ _ _ _ _ (.plain rfl) rfl rfl (by decide) (by decide) rfl rfl (fun w => by simp [go_sem]) (fun w => by simp [go_sem]) rfl
          · exact Any.st_copy 88 87 (.plain rfl) (.inl rfl) rfl (by decide) rfl
          · exact Any.st_call0 89 _ (.known 88 rfl rfl (by decide) rfl) rfl rfl Try.func33 (by kernel_rfl) rfl rfl awake21_any
          · exact Any.st_and 90 88 89 _ (.plain rfl) rfl rfl (by decide) (by decide) rfl rfl rfl
          · exact Any.st_copy 2 90 (.plain rfl) (.inr rfl) rfl (by decide) rfl
          intro f w5 hg hf
          have h2 : f 2 = .bool true := hf 2 rfl
          have hB5 : Below w.heap.size w w5 := (Grows.drew hB3w).trans hg
          simp only [Any.fill, List.foldl_cons, List.foldl_nil, List.setIfInBounds_toArray, List.set_cons_succ, List.set_cons_zero, h2]
          clear hf hg h2 hr3 hB3w
          go_wp2_with fail
          go_ret
          exact ⟨rfl, hB5⟩
      · rw [if_neg hbig] at hm
        have HM := Lib.hid hm
        clear hm
        have zb : ¬ (255 : Int) < (bt : Int) % 1000 + 1 := by have := HNJ.out; omega
        have hmi : (bt : Int) % 1000 + 4 = (m : Int) := by have := HNJ.out; have := HM.out; omega
        go_wp2_with fail
        refine (size_yes (farT a k true n) (farT_ok o2 o3) (farT_form a k true n) A1 _ c1 w2 hr2 (by omega)).mono ?_
        rintro e w3 ⟨⟨G, hL2, rfl⟩, hB3⟩
        rw [HSZ.out G hL2]
        have hB3w := hB2w.trans (hB3.mono hB2w.size)
        have hr3 : Reads w3 w3.heap.size 4 A3 m (cellsI p) := by have := (HR3.out.below hB3).more hB3.size; rw [HAL.out] at this; exact this
        clear hL2 hB3 hB2w hr2
        by_cases e : a = k
        · have qe : ((a : Int) == (k : Int)) = true := by simp [e]
          have hgo2 : Goes p (wordLE (List.replicate 64 0)) 0 0 1 := by have h1 := HGO.out; have h2 := HV.out; rw [decide_eq_true e] at h2; rw [h2] at h1; exact h1
          clear e
          go_wp2_with fail
          refine Any.wp_region_kinds follows (farKd p m 1) [81, 82, 83, 84, 85, 86, 87, 88, 89, 90, 2] (by kernel_rfl) (by kernel_rfl) (by kernel_rfl) ⟨?_, ?_, ?_, ?_, ?_, ?_, ?_, ?_, ?_, ?_, ?_, trivial⟩ ?_
          · exact Any.st_was 81 11 (.plain rfl) (.inl rfl) rfl (by decide) ⟨A3, c3, rfl, hr3⟩
          · exact Any.st_call1 82 81 _ _ _ (.plain rfl) rfl rfl Try.func31 (by kernel_rfl) rfl (by decide) rfl fun w A c r => (back_insts p HPOK.out A _ c w r (by have := HM.out; omega)).mono fun e w' h => back_row HAL.out h
          · exact Any.st_make64 83 _ _ j0 (.plain rfl) rfl rfl Try.underlying33 hj0 hy0 hy1 hy2 rfl
          · exact Any.st_callRun 84 82 83 m (cellsI p) 1 (.plain rfl) rfl rfl Try.func32 (by kernel_rfl) rfl (by decide) (by decide) rfl rfl rfl fun w A c g r r2 => run06_any p HPOK.out A m c (List.replicate 64 0) zeros_lt g 0 64 (by omega) (by simp [maxLen]) w r (by have := HM.out; omega) r2 1 ⟨0, rfl, hgo2⟩
          · exact Any.st_field0 85 84 _ 1 (.plain rfl) rfl rfl (by decide) rfl rfl (fun s ld w => by first | rfl | simp [go_sem, Instr.field, asAgg])
          · exact Any.st_was 86 14 (.plain rfl) (.inl rfl) rfl (by decide) rfl
          · exact Any.st_bin 87 85 86 _ _ _ _ _ _ (.plain rfl) rfl rfl (by decide) (by decide) rfl rfl (fun w => by simp [go_sem]) (fun w => by simp [go_sem]) rfl
          · exact Any.st_copy 88 87 (.plain rfl) (.inl rfl) rfl (by decide) rfl
          · exact Any.st_call0 89 _ (.known 88 rfl rfl (by decide) rfl) rfl rfl Try.func33 (by kernel_rfl) rfl rfl awake21_any
          · exact Any.st_and 90 88 89 _ (.plain rfl) rfl rfl (by decide) (by decide) rfl rfl rfl
          · exact Any.st_copy 2 90 (.plain rfl) (.inr rfl) rfl (by decide) rfl
          intro f w5 hg hf
          have h2 : f 2 = .bool true := hf 2 rfl
          have hB5 : Below w.heap.size w w5 := (Grows.drew hB3w).trans hg
          simp only [Any.fill, List.foldl_cons, List.foldl_nil, List.setIfInBounds_toArray, List.set_cons_succ, List.set_cons_zero, h2]
          clear hf hg h2 hr3 hB3w
          go_wp2_with fail
          go_ret
          exact ⟨rfl, hB5⟩
        · have qe : ((a : Int) == (k : Int)) = false := by simp; omega
          have hgo2 : Goes p (wordLE (List.replicate 64 0)) 0 0 2 := by have h1 := HGO.out; have h2 := HV.out; rw [decide_eq_false e] at h2; rw [h2] at h1; exact h1
          clear e
          go_wp2_with fail
          refine Any.wp_region_kinds follows (farKd p m 2) [81, 82, 83, 84, 85, 86, 87, 88, 89, 90, 2] (by kernel_rfl) (by kernel_rfl) (by kernel_rfl) ⟨?_, ?_, ?_, ?_, ?_, ?_, ?_, ?_, ?_, ?_, ?_, trivial⟩ ?_
          · exact Any.st_was 81 11 (.plain rfl) (.inl rfl) rfl (by decide) ⟨A3, c3, rfl, hr3⟩
          · exact Any.st_call1 82 81 _ _ _ (.plain rfl) rfl rfl Try.func31 (by kernel_rfl) rfl (by decide) rfl fun w A c r => (back_insts p HPOK.out A _ c w r (by have := HM.out; omega)).mono fun e w' h => back_row HAL.out h
          · exact Any.st_make64 83 _ _ j0 (.plain rfl) rfl rfl Try.underlying33 hj0 hy0 hy1 hy2 rfl
          · exact Any.st_callRun 84 82 83 m (cellsI p) 2 (.plain rfl) rfl rfl Try.func32 (by kernel_rfl) rfl (by decide) (by decide) rfl rfl rfl fun w A c g r r2 => run06_any p HPOK.out A m c (List.replicate 64 0) zeros_lt g 0 64 (by omega) (by simp [maxLen]) w r (by have := HM.out; omega) r2 2 ⟨0, rfl, hgo2⟩
          · exact Any.st_field0 85 84 _ 2 (.plain rfl) rfl rfl (by decide) rfl rfl (fun s ld w => by first | rfl | simp [go_sem, Instr.field, asAgg])
          · exact Any.st_was 86 14 (.plain rfl) (.inl rfl) rfl (by decide) rfl
          · exact Any.st_bin 87 85 86 _ _ _ _ _ _ (.plain rfl) rfl rfl (by decide) (by decide) rfl rfl (fun w => by simp [go_sem]) (fun w => by simp [go_sem]) rfl
          · exact Any.st_copy 88 87 (.plain rfl) (.inl rfl) rfl (by decide) rfl
          · exact Any.st_call0 89 _ (.known 88 rfl rfl (by decide) rfl) rfl rfl Try.func33 (by kernel_rfl) rfl rfl awake21_any
          · exact Any.st_and 90 88 89 _ (.plain rfl) rfl rfl (by decide) (by decide) rfl rfl rfl
          · exact Any.st_copy 2 90 (.plain rfl) (.inr rfl) rfl (by decide) rfl
          intro f w5 hg hf
          have h2 : f 2 = .bool true := hf 2 rfl
          have hB5 : Below w.heap.size w w5 := (Grows.drew hB3w).trans hg
          simp only [Any.fill, List.foldl_cons, List.foldl_nil, List.setIfInBounds_toArray, List.set_cons_succ, List.set_cons_zero, h2]
          clear hf hg h2 hr3 hB3w
          go_wp2_with fail
          go_ret
          exact ⟨rfl, hB5⟩

theorem asmFar_walk (w : World) (x : FarV) (hx : x.Ok) :
    Calls Try.prog 12 #[x.val] w fun e w' => e = .returned (.bool true) ∧ Below w.heap.size w w' := by
  obtain ⟨bt, a, k, s⟩ := x
  obtain ⟨o1, o2, o3⟩ := hx
  cases s
  · exact asmFar_no w bt a k o1 o2 o3
  · exact asmFar_yes w bt a k o1 o2 o3
end Go.Proofs.Ytgalkidhgjgbhaa
