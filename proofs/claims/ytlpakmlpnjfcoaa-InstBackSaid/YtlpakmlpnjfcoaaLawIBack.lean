/-
  The walk of InstBack.
-/
import Derived.Test.YtlpakmlpnjfcoaaLawIReads
import Derived.Test.YtlpakmlpnjfcoaaKinds2
import Derived.Test.YtlpakmlpnjfcoaaLawWrites
namespace Go.Proofs.Ytlpakmlpnjfcoaa
open Go.RowKit
set_option linter.unusedVariables false

theorem writeN_lt {l : List I} (hok : ∀ i ∈ l, i.Ok) : ∀ x ∈ writeN l, x < 256 := fun x hx => by
  obtain ⟨i, hi, h⟩ := List.mem_flatMap.1 hx
  obtain ⟨h1, h2, h3, h4⟩ := hok i hi
  simp only [writeI, List.mem_cons, List.not_mem_nil, or_false] at h
  rcases h with rfl | rfl | rfl | rfl | rfl | rfl | rfl | rfl <;> omega
/-- An 'or' of which the left side is known. -/
theorem Any.st_orT {P : Program} {ops : Array Oper} {Q : Exit → Act → World → Prop} {S : Tmp → Kd} {a0 : Act} {w0 : World} {o : Oper} (d g t : Tmp) (hw : Any.Runs ops S o) (ho : o.op = .pick (.tmp g) (.const (.bool true)) (.tmp t)) (hd : o.dst = some d) (h1 : (Any.deps ops o).contains g = true)
    (hS1 : S g = .eq (.bool true)) (hS : S d = .eq (.bool true)) : Any.St P ops Q S a0 w0 o :=
  Any.st_run hw fun a w hc => by
    have e1 := hc.at g h1
    rw [hS1] at e1
    exact Any.wp_value d hd (Any.run_pick ho e1) (by rw [if_pos rfl, hS]; rfl)
theorem Any.st_orF {P : Program} {ops : Array Oper} {Q : Exit → Act → World → Prop} {S : Tmp → Kd} {a0 : Act} {w0 : World} {o : Oper} (d g t : Tmp) (v : Value) (hw : Any.Runs ops S o) (ho : o.op = .pick (.tmp g) (.const (.bool true)) (.tmp t)) (hd : o.dst = some d) (h1 : (Any.deps ops o).contains g = true) (h2 : (Any.deps ops o).contains t = true)
    (hS1 : S g = .eq (.bool false)) (hS2 : S t = .eq v) (hS : S d = .eq v) : Any.St P ops Q S a0 w0 o :=
  Any.st_run hw fun a w hc => by
    have e1 := hc.at g h1
    have e2 := hc.at t h2
    rw [hS1] at e1
    rw [hS2] at e2
    exact Any.wp_value d hd (Any.run_pick ho e1) (by rw [if_neg (by simp), hS]; exact e2)
def backF (E : Nat) : Tmp → Kd := kdOf [(37, .eq (.int .i64 E)), (38, .eq (.bool true)), (39, .eq (.bool true)), (46, .eq (.bool true)), (47, .eq (.bool true)), (48, .eq (.bool true)), (49, .eq (.bool true)), (4, .eq (.bool true))]
def backT (n m : Nat) (b : List Nat) (y : List I) : Tmp → Kd := kdOf [(37, .eq (.int .i64 0)), (38, .eq (.bool false)), (39, .eq (.bool false)), (40, .row 4 m (cellsI y)), (41, .row 1 n (bytesV b)), (42, .eq (.string (strB b))), (43, .row 1 n (bytesV b)), (44, .eq (.string (strB b))), (45, .eq (.bool true)), (46, .eq (.bool true)), (47, .eq (.bool true)), (48, .eq (.bool true)), (49, .eq (.bool true)), (4, .eq (.bool true))]

set_option maxRecDepth 100000 in
set_option maxHeartbeats 4000000 in
theorem instBack_few (w : World) (l : List I) (hok : ∀ i ∈ l, i.Ok) (A : Option Addr) (n c : Nat) (hr : Reads w w.heap.size 4 A n (cellsI l)) (hn : n ≤ 300) (b : List Nat) (hokb : ∀ x ∈ b, x < 256) (A' : Option Addr) (n' c' : Nat) (hr' : Reads w w.heap.size 1 A' n' (bytesV b)) (hn' : n' ≤ 3000) (hc' : n' ≤ c') (hm' : c' ≤ maxLen) :
    Calls Try.prog 19 #[.slice A n c, .slice A' n' c'] w fun e w' => e = .returned (.bool true) ∧ Below w.heap.size w w' := by
  have hl : n = l.length := by have := hr.1; rw [cellsI_length] at this; omega
  have hlb : n' = b.length := by have := hr'.1; rw [bytesV_length] at this; omega
  have hwl : ∀ x ∈ writeN l, x < 256 := writeN_lt hok
  have he : readE (writeN l).length = 0 := by rw [writeN_length]; unfold readE; rw [if_neg (by omega), if_neg (by omega)]
  have hx : readL (writeN l) = l := by unfold readL; rw [if_pos he, readN_write hok]
  have hle1 : ¬ (300 : Int) < (n : Int) := by omega
  have hle2 : ¬ (3000 : Int) < (n' : Int) := by omega
  have hlen : (readL b).length ≤ 4096 := by
    unfold readL readN
    split
    · rw [readUp_length]; omega
    · simp
  have hback : readE b.length = 0 → writeN (readL b) = b := fun h => by
    have h8 : b.length % 8 = 0 := by
      unfold readE at h
      by_cases h1 : 32768 < b.length
      · rw [if_pos h1] at h; omega
      · rw [if_neg h1] at h
        by_cases h2 : b.length % 8 ≠ 0
        · rw [if_pos h2] at h; omega
        · omega
    unfold readL
    rw [if_pos h]
    exact write_readN hokb h8
  have hyok := readL_ok hokb
  have HE := Lib.hid he
  have HX := Lib.hid hx
  have HL := Lib.hid hl
  have HLB := Lib.hid hlb
  have HB := Lib.hid hback
  have hwlen : (writeN l).length ≤ 2400 := by rw [writeN_length]; omega
  clear he hx hl hlb hback
  go_enter Try.func19, Try.ntmps19
  go_wp2_with fail
  refine (of_insts l hok A n c w hr (by omega)).mono ?_
  rintro e w1 ⟨v1, rfl, own1, hB1⟩
  obtain ⟨A1, c1, rfl, hr1⟩ := own_reads own1
  clear own1
  go_wp2_with fail
  refine (write_any l hok A1 _ c1 w1 hr1 (by have := HL.out; omega)).mono ?_
  rintro e w2 ⟨v2, rfl, own2, hB2⟩
  obtain ⟨A2, c2, rfl, hc2, hm2, hr2⟩ := own_reads_cap own2
  have hB2w := hB1.trans (hB2.mono hB1.size)
  clear own2 hB2 hr1 hB1
  go_wp2_with fail
  refine (iread_any (writeN l) hwl A2 _ c2 w2 hr2 (by omega) hc2 hm2).mono ?_
  rintro e w3 ⟨v3, rfl, own3, hB3⟩
  rw [HE.out]
  rw [HX.out] at own3
  obtain ⟨A3, c3, rfl, hr3⟩ := own_reads own3
  have hB3w := hB2w.trans (hB3.mono hB2w.size)
  clear own3 hB3 hr2 hB2w
  rw [← HL.out] at hr3
  rw [← HL.out]
  go_wp2_with fail
  refine (told_any l A3 A n c3 c w3 hr3 ((hr.below hB3w).more hB3w.size) (by omega)).mono ?_
  rintro e w4 ⟨rfl, hB4⟩
  have hB4w := hB3w.trans (hB4.mono hB3w.size)
  clear hB4 hB3w hr3
  go_wp2_with fail
  refine (iread_any b hokb A' n' c' w4 ((hr'.below hB4w).more hB4w.size) (by omega) hc' hm').mono ?_
  rintro e w5 ⟨v5, rfl, own5, hB5⟩
  obtain ⟨A5, c5, rfl, hr5⟩ := own_reads own5
  have hB5w := hB4w.trans (hB5.mono hB4w.size)
  have hr5b := (hr'.below hB5w).more hB5w.size
  clear own5 hB5 hB4w
  generalize hE : readE b.length = E at *
  have HY := Lib.hid hE
  clear hE
  go_wp2_with fail
  by_cases h0 : E = 0
  · subst h0
    have hwb := HB.out rfl
    generalize readL b = y at *
    have HW := Lib.hid hwb
    clear hwb
    refine Any.wp_region_kinds follows (backT n' y.length b y) [37, 38, 39, 40, 41, 42, 43, 44, 45, 46, 47, 48, 49, 4] (by kernel_rfl) (by kernel_rfl) (by kernel_rfl) ⟨?_, ?_, ?_, ?_, ?_, ?_, ?_, ?_, ?_, ?_, ?_, ?_, ?_, ?_, trivial⟩ ?_
    · exact Any.st_was 37 8 (.plain rfl) (.inl rfl) rfl (by decide) rfl
    · exact Any.st_binR 38 37 _ _ _ (.int .i64 0) (.int .i64 0) (.bool false) (.plain rfl) rfl rfl (by decide) rfl (fun w => by simp [go_sem]) (fun w => by simp [go_sem]) rfl
    · exact Any.st_copy 39 38 (.plain rfl) (.inl rfl) rfl (by decide) rfl
    · exact Any.st_was 40 7 (.known 39 rfl rfl (by decide) rfl) (.inl rfl) rfl (by decide) ⟨A5, c5, rfl, hr5⟩
    · exact Any.st_call1 41 40 _ _ _ (.known 39 rfl rfl (by decide) rfl) rfl rfl Try.func25 (by kernel_rfl) rfl (by decide) rfl fun w A c r => (write_any y hyok A _ c w r (by omega)).mono fun e w' h => by
        have := make_bytes h
        rw [HW.out, ← HLB.out] at this
        exact this
    · exact Any.st_string 42 41 _ _ _ _ _ (.known 39 rfl rfl (by decide) rfl) rfl rfl (by decide) Try.underlying31 Try.underlying5 Try.underlying9 rfl rfl
    · exact Any.st_was 43 1 (.known 39 rfl rfl (by decide) rfl) (.inl rfl) rfl (by decide) ⟨A', c', rfl, hr5b⟩
    · exact Any.st_string 44 43 _ _ _ _ _ (.known 39 rfl rfl (by decide) rfl) rfl rfl (by decide) Try.underlying31 Try.underlying5 Try.underlying9 rfl rfl
    · exact Any.st_bin 45 42 44 _ _ _ _ _ _ (.known 39 rfl rfl (by decide) rfl) rfl rfl (by decide) (by decide) rfl rfl (fun w => by simp [go_sem]) (fun w => by simp [go_sem]) rfl
    · exact Any.st_orF 46 39 45 _ (.plain rfl) rfl rfl (by decide) (by decide) rfl rfl rfl
    · exact Any.st_copy 47 46 (.plain rfl) (.inl rfl) rfl (by decide) rfl
    · exact Any.st_call0 48 _ (.known 47 rfl rfl (by decide) rfl) rfl rfl Try.func24 (by kernel_rfl) rfl rfl awake02_any
    · exact Any.st_and 49 47 48 _ (.plain rfl) rfl rfl (by decide) (by decide) rfl rfl rfl
    · exact Any.st_copy 4 49 (.plain rfl) (.inr rfl) rfl (by decide) rfl
    intro f w6 hg hf
    have h4 : f 4 = .bool true := hf 4 rfl
    have hB6 : Below w.heap.size w w6 := hB5w.drew.trans (hg.mono hB5w.size)
    simp only [Any.fill, List.foldl_cons, List.foldl_nil, List.setIfInBounds_toArray, List.set_cons_succ, List.set_cons_zero, h4]
    clear hf hg
    generalize f 37 = f37, f 38 = f38, f 39 = f39, f 40 = f40, f 41 = f41, f 42 = f42, f 43 = f43, f 44 = f44, f 45 = f45, f 46 = f46, f 47 = f47, f 48 = f48, f 49 = f49 at *
    go_wp2_with fail
    go_ret
    exact ⟨rfl, hB6⟩
  · have hne : ((E : Int) != 0) = true := by simp; omega
    refine Any.wp_region_kinds follows (backF E) [37, 38, 39, 40, 41, 42, 43, 44, 45, 46, 47, 48, 49, 4] (by kernel_rfl) (by kernel_rfl) (by kernel_rfl) ⟨?_, ?_, ?_, ?_, ?_, ?_, ?_, ?_, ?_, ?_, ?_, ?_, ?_, ?_, trivial⟩ ?_
    · exact Any.st_was 37 8 (.plain rfl) (.inl rfl) rfl (by decide) rfl
    · exact Any.st_binR 38 37 _ _ _ (.int .i64 E) (.int .i64 0) (.bool true) (.plain rfl) rfl rfl (by decide) rfl (fun w => by simp [go_sem]) (fun w => by simp [go_sem, hne]) rfl
    · exact Any.st_copy 39 38 (.plain rfl) (.inl rfl) rfl (by decide) rfl
    · exact Any.st_skip 39 rfl rfl (by decide) rfl 40 rfl (.inr rfl)
    · exact Any.st_skip 39 rfl rfl (by decide) rfl 41 rfl (.inr rfl)
    · exact Any.st_skip 39 rfl rfl (by decide) rfl 42 rfl (.inr rfl)
    · exact Any.st_skip 39 rfl rfl (by decide) rfl 43 rfl (.inr rfl)
    · exact Any.st_skip 39 rfl rfl (by decide) rfl 44 rfl (.inr rfl)
    · exact Any.st_skip 39 rfl rfl (by decide) rfl 45 rfl (.inr rfl)
    · exact Any.st_orT 46 39 45 (.plain rfl) rfl rfl (by decide) rfl rfl
    · exact Any.st_copy 47 46 (.plain rfl) (.inl rfl) rfl (by decide) rfl
    · exact Any.st_call0 48 _ (.known 47 rfl rfl (by decide) rfl) rfl rfl Try.func24 (by kernel_rfl) rfl rfl awake02_any
    · exact Any.st_and 49 47 48 _ (.plain rfl) rfl rfl (by decide) (by decide) rfl rfl rfl
    · exact Any.st_copy 4 49 (.plain rfl) (.inr rfl) rfl (by decide) rfl
    intro f w6 hg hf
    have h4 : f 4 = .bool true := hf 4 rfl
    have hB6 : Below w.heap.size w w6 := hB5w.drew.trans (hg.mono hB5w.size)
    simp only [Any.fill, List.foldl_cons, List.foldl_nil, List.setIfInBounds_toArray, List.set_cons_succ, List.set_cons_zero, h4]
    clear hf hg
    generalize f 37 = f37, f 38 = f38, f 39 = f39, f 40 = f40, f 41 = f41, f 42 = f42, f 43 = f43, f 44 = f44, f 45 = f45, f 46 = f46, f 47 = f47, f 48 = f48, f 49 = f49 at *
    go_wp2_with fail
    go_ret
    exact ⟨rfl, hB6⟩
set_option maxRecDepth 100000 in
theorem instBack_walk (w : World) (l : List I) (hok : ∀ i ∈ l, i.Ok) (A : Option Addr) (n c : Nat) (hr : Reads w w.heap.size 4 A n (cellsI l)) (_hc : n ≤ c) (_hm : c ≤ maxLen) (b : List Nat) (hokb : ∀ x ∈ b, x < 256) (A' : Option Addr) (n' c' : Nat) (hr' : Reads w w.heap.size 1 A' n' (bytesV b)) (hc' : n' ≤ c') (hm' : c' ≤ maxLen) :
    Calls Try.prog 19 #[.slice A n c, .slice A' n' c'] w fun e w' => e = .returned (.bool true) ∧ Below w.heap.size w w' := by
  by_cases hn : n ≤ 300
  · by_cases hn' : n' ≤ 3000
    · exact instBack_few w l hok A n c hr hn b hokb A' n' c' hr' hn' hc' hm'
    · have h1 : ¬ (300 : Int) < (n : Int) := by omega
      have h2 : (3000 : Int) < (n' : Int) := by omega
      go_enter Try.func19, Try.ntmps19
      go_wp2_with fail
      go_ret
      exact ⟨rfl, Below.refl _ _⟩
  · have h1 : (300 : Int) < (n : Int) := by omega
    go_enter Try.func19, Try.ntmps19
    go_wp2_with fail
    go_ret
    exact ⟨rfl, Below.refl _ _⟩
end Go.Proofs.Ytlpakmlpnjfcoaa
