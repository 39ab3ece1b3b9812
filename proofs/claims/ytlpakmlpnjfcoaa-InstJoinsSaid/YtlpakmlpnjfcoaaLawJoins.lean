/-
  The walk of strainerlaw02.InstJoins: true.
-/
import Derived.Test.YtlpakmlpnjfcoaaLawWrites
namespace Go.Proofs.Ytlpakmlpnjfcoaa
open Go.RowKit
set_option linter.unusedVariables false

theorem strB_append (a b : List Nat) : strB (a ++ b) = strB a ++ strB b := by
  unfold strB strOfNums
  simp
  apply ByteArray.ext
  simp
theorem strB_size (a : List Nat) : (strB a).size = a.length := by unfold strB; rw [strOfNums_size]; simp
theorem str_add {P : Program} (t : TypeId) (a b c : ByteArray) (w : World) (h : c = a ++ b) (hs : a.size + b.size ≤ 1000000) : (binOp .add t (.string a) (.string b)).run P w = .ok (.string c) w := by
  subst h
  simp [go_sem, Op.stringOp]
  try omega
theorem int_add {P : Program} (t : TypeId) (a b : Int) (w : World) (h1 : 0 ≤ a + b) (h2 : a + b ≤ 1000000) : (binOp .add t (.int .i64 a) (.int .i64 b)).run P w = .ok (.int .i64 (a + b)) w := by
  have : IntKind.i64.wrap (a + b) = a + b := by rw [IntKind.wrap_i64]; omega
  simp [go_sem, this]
theorem int_mul {P : Program} (t : TypeId) (a b c : Int) (w : World) (h : c = a * b) (h2 : 0 ≤ a * b ∧ a * b ≤ 1000000) : (binOp .mul t (.int .i64 a) (.int .i64 b)).run P w = .ok (.int .i64 c) w := by
  subst h
  have : IntKind.i64.wrap (a * b) = a * b := by rw [IntKind.wrap_i64]; omega
  simp [go_sem, this]
theorem cellsI_one (l : List I) : ∀ u ∈ cellsI l, u.oneCell' = true := by
  intro u hu
  unfold cellsI at hu
  obtain ⟨i, _, h⟩ := List.mem_flatMap.1 hu
  simp [I.vals] at h
  rcases h with rfl | rfl | rfl | rfl <;> rfl

def joinsK (a b : List I) : Tmp → Kd := kdOf [(20, .row 1 ((writeN (a ++ b)).length) (bytesV (writeN (a ++ b)))), (21, .eq (.string (strB (writeN (a ++ b))))), (22, .row 4 a.length (cellsI a)), (23, .row 4 a.length (cellsI a)), (24, .row 1 ((writeN a).length) (bytesV (writeN a))), (25, .eq (.string (strB (writeN a)))), (26, .row 4 b.length (cellsI b)), (27, .row 4 b.length (cellsI b)), (28, .row 1 ((writeN b).length) (bytesV (writeN b))), (29, .eq (.string (strB (writeN b)))), (30, .eq (.string (strB (writeN (a ++ b))))), (31, .eq (.bool true)), (32, .eq (.bool true)), (33, .row 1 ((writeN (a ++ b)).length) (bytesV (writeN (a ++ b)))), (34, .eq (.int .i64 (((writeN (a ++ b)).length : Nat) : Int))), (35, .row 4 a.length (cellsI a)), (36, .eq (.int .i64 (a.length : Int))), (37, .row 4 b.length (cellsI b)), (38, .eq (.int .i64 (b.length : Int))), (39, .eq (.int .i64 ((a.length : Int) + (b.length : Int)))), (40, .eq (.int .i64 (((writeN (a ++ b)).length : Nat) : Int))), (41, .eq (.bool true)), (42, .eq (.bool true)), (43, .eq (.bool true)), (44, .eq (.bool true)), (45, .eq (.bool true)), (4, .eq (.bool true))]

set_option maxRecDepth 100000 in
theorem instJoins_few (a b : List I) (ha : ∀ i ∈ a, i.Ok) (hb : ∀ i ∈ b, i.Ok) (A A2 : Option Addr) (c c2 : Nat) (w : World) (hra : Reads w w.heap.size 4 A a.length (cellsI a)) (hrb : Reads w w.heap.size 4 A2 b.length (cellsI b)) (hn : a.length ≤ 300) (hm : b.length ≤ 300) :
    Calls Try.prog 6 #[.slice A a.length c, .slice A2 b.length c2] w fun e w' => e = .returned (.bool true) ∧ Below w.heap.size w w' := by
  have hn' : ¬ (300 : Int) < (a.length : Int) := by omega
  have hm' : ¬ (300 : Int) < (b.length : Int) := by omega
  obtain ⟨i0, hi0, hz0, hz1, hz2⟩ := info_parts info_inst
  go_enter Try.func6, Try.ntmps6
  go_wp2_with fail
  refine (of_insts a ha _ _ _ w hra (by omega)).mono ?_
  rintro e w1 ⟨v1, rfl, ho1, hB1⟩
  go_wp2_with fail
  refine (of_insts b hb _ _ _ w1 (Grows.reads hB1 hrb) (by omega)).mono ?_
  rintro e w2 ⟨v2, rfl, ho2, hB2⟩
  have ho1' := own_grows hB2 ho1
  obtain ⟨Ab, cb, rfl, hrb2⟩ := own_reads ho2
  have hg2 : Grows w w2 := Grows.trans hB1 hB2
  clear ho1 ho2 hB1 hB2
  go_wp2_with (at_builtin; refine wpList_append_any _ rfl (.tmp 15) (.tmp 17) 33 rfl w.heap.size 92 i0 _ 4 8 Try.underlying33 hi0 hz0 hz1 hz2 rfl (by omega) v1 a.length (cellsI a) rfl ho1' w2.heap.size Ab b.length cb (cellsI b) rfl hrb2 (cellsI_one b) (by simp only [maxLen]; omega) (by omega) hg2.size ?_; intro v3 w3 hown3 hg3 hat3; obtain ⟨Ax, cx, rfl, hrx⟩ := own_reads hown3)
  rw [← cellsI_append] at hrx
  have hB3 : Below w.heap.size w w3 := Below.grown hg2 hg3 hg2.size (fun k hk => (ho1'.lt k hk).1)
  rw [← List.length_append] at hrx
  rw [← List.length_append]
  refine (write_any (a ++ b) (fun i hi => (List.mem_append.1 hi).elim (ha i) (hb i)) _ _ _ w3 hrx (by simp; omega)).mono ?_
  rintro e w4 ⟨v4, rfl, ho4, hB4⟩
  obtain ⟨A3, c3, rfl, hr3'⟩ := own_reads ho4
  have hg4 : Grows w w4 := Grows.trans hB3 hB4
  have hr3 : Reads w4.drew w4.drew.heap.size 1 A3 (writeN (a ++ b)).length (bytesV (writeN (a ++ b))) := hr3'
  have ha3 : Reads w4.drew w4.drew.heap.size 4 A a.length (cellsI a) := hg4.reads hra
  have hb3 : Reads w4.drew w4.drew.heap.size 4 A2 b.length (cellsI b) := hg4.reads hrb
  clear ho4 hB4 hrx hB3 hat3 hg3 hown3 hrb2 ho1' hg2 hr3'
  go_wp2_with fail
  refine Any.wp_region_kinds follows (joinsK a b) [20, 21, 22, 23, 24, 25, 26, 27, 28, 29, 30, 31, 32, 33, 34, 35, 36, 37, 38, 39, 40, 41, 42, 43, 44, 45, 4] (by kernel_rfl) (by kernel_rfl) (by kernel_rfl) ⟨?_, ?_, ?_, ?_, ?_, ?_, ?_, ?_, ?_, ?_, ?_, ?_, ?_, ?_, ?_, ?_, ?_, ?_, ?_, ?_, ?_, ?_, ?_, ?_, ?_, ?_, ?_, trivial⟩ ?_
  · exact Any.st_was 20 5 (.plain rfl) (.inl rfl) rfl (by decide) ⟨A3, c3, rfl, hr3⟩
  · exact Any.st_string 21 20 _ _ _ _ _ (.plain rfl) rfl rfl (by decide) Try.underlying31 Try.underlying5 Try.underlying9 rfl rfl
  · exact Any.st_was 22 0 (.plain rfl) (.inl rfl) rfl (by decide) ⟨A, c, rfl, ha3⟩
  · exact Any.st_call1 23 22 _ _ _ (.plain rfl) rfl rfl Try.func26 (by kernel_rfl) rfl (by decide) rfl fun w A c r => (of_insts a ha A _ c w r (by omega)).mono fun e w' h => make_insts h
  · exact Any.st_call1 24 23 _ _ _ (.plain rfl) rfl rfl Try.func25 (by kernel_rfl) rfl (by decide) rfl fun w A c r => (write_any a ha A _ c w r (by omega)).mono fun e w' h => make_bytes h
  · exact Any.st_string 25 24 _ _ _ _ _ (.plain rfl) rfl rfl (by decide) Try.underlying31 Try.underlying5 Try.underlying9 rfl rfl
  · exact Any.st_was 26 1 (.plain rfl) (.inl rfl) rfl (by decide) ⟨A2, c2, rfl, hb3⟩
  · exact Any.st_call1 27 26 _ _ _ (.plain rfl) rfl rfl Try.func26 (by kernel_rfl) rfl (by decide) rfl fun w A c r => (of_insts b hb A _ c w r (by omega)).mono fun e w' h => make_insts h
  · exact Any.st_call1 28 27 _ _ _ (.plain rfl) rfl rfl Try.func25 (by kernel_rfl) rfl (by decide) rfl fun w A c r => (write_any b hb A _ c w r (by omega)).mono fun e w' h => make_bytes h
  · exact Any.st_string 29 28 _ _ _ _ _ (.plain rfl) rfl rfl (by decide) Try.underlying31 Try.underlying5 Try.underlying9 rfl rfl
  · exact Any.st_bin 30 25 29 _ _ _ _ _ _ (.plain rfl) rfl rfl (by decide) (by decide) rfl rfl (fun w => by simp [go_sem]) (fun w => str_add _ _ _ _ _ (by rw [writeN_append, strB_append]) (by simp [strB_size, writeN_length]; omega)) rfl
  · exact Any.st_bin 31 21 30 _ _ _ _ _ _ (.plain rfl) rfl rfl (by decide) (by decide) rfl rfl (fun w => by simp [go_sem]) (fun w => by simp [go_sem]) rfl
  · exact Any.st_copy 32 31 (.plain rfl) (.inl rfl) rfl (by decide) rfl
  · exact Any.st_was 33 5 (.known 32 rfl rfl (by decide) rfl) (.inl rfl) rfl (by decide) ⟨A3, c3, rfl, hr3⟩
  · exact Any.st_len 34 33 _ _ _ _ _ (.known 32 rfl rfl (by decide) rfl) rfl rfl (by decide) Try.underlying31 rfl rfl
  · exact Any.st_was 35 0 (.known 32 rfl rfl (by decide) rfl) (.inl rfl) rfl (by decide) ⟨A, c, rfl, ha3⟩
  · exact Any.st_len 36 35 _ _ _ _ _ (.known 32 rfl rfl (by decide) rfl) rfl rfl (by decide) Try.underlying30 rfl rfl
  · exact Any.st_was 37 1 (.known 32 rfl rfl (by decide) rfl) (.inl rfl) rfl (by decide) ⟨A2, c2, rfl, hb3⟩
  · exact Any.st_len 38 37 _ _ _ _ _ (.known 32 rfl rfl (by decide) rfl) rfl rfl (by decide) Try.underlying30 rfl rfl
  · exact Any.st_bin 39 36 38 _ _ _ _ _ _ (.known 32 rfl rfl (by decide) rfl) rfl rfl (by decide) (by decide) rfl rfl (fun w => by simp [go_sem]) (fun w => int_add _ _ _ _ (by omega) (by omega)) rfl
  · exact Any.st_binL 40 39 _ _ _ _ _ _ (.known 32 rfl rfl (by decide) rfl) rfl rfl (by decide) rfl (fun w => by simp [go_sem]) (fun w => int_mul _ _ _ _ _ (by rw [writeN_length, List.length_append]; omega) (by omega)) rfl
  · exact Any.st_bin 41 34 40 _ _ _ _ _ _ (.known 32 rfl rfl (by decide) rfl) rfl rfl (by decide) (by decide) rfl rfl (fun w => by simp [go_sem]) (fun w => by simp [go_sem]) rfl
  · exact Any.st_and 42 32 41 _ (.plain rfl) rfl rfl (by decide) (by decide) rfl rfl rfl
  · exact Any.st_copy 43 42 (.plain rfl) (.inl rfl) rfl (by decide) rfl
  · exact Any.st_call0 44 _ (.known 43 rfl rfl (by decide) rfl) rfl rfl Try.func24 (by kernel_rfl) rfl rfl awake02_any
  · exact Any.st_and 45 43 44 _ (.plain rfl) rfl rfl (by decide) (by decide) rfl rfl rfl
  · exact Any.st_copy 4 45 (.plain rfl) (.inr rfl) rfl (by decide) rfl
  intro f w5 hg hf
  have h4 : f 4 = .bool true := hf 4 rfl
  have hB : Below w.heap.size w w5 := (Grows.drew hg4).trans hg
  simp only [Any.fill, List.foldl_cons, List.foldl_nil, List.setIfInBounds_toArray, List.set_cons_succ, List.set_cons_zero, h4]
  clear hf hg h4 hg4 hr3 ha3 hb3 hra hrb
  go_wp2_with fail
  go_ret
  exact ⟨rfl, hB⟩

set_option maxRecDepth 100000 in
theorem instJoins_many1 (A A2 : Option Addr) (n m c c2 : Nat) (w : World) (hn : 300 < n) : Calls Try.prog 6 #[.slice A n c, .slice A2 m c2] w fun e w' => e = .returned (.bool true) ∧ Below w.heap.size w w' := by
  have hn' : (300 : Int) < (n : Int) := by omega
  go_enter Try.func6, Try.ntmps6
  go_wp2_with fail
  go_ret
  exact ⟨rfl, Below.refl _ _⟩
set_option maxRecDepth 100000 in
theorem instJoins_many2 (A A2 : Option Addr) (n m c c2 : Nat) (w : World) (hn : n ≤ 300) (hm : 300 < m) : Calls Try.prog 6 #[.slice A n c, .slice A2 m c2] w fun e w' => e = .returned (.bool true) ∧ Below w.heap.size w w' := by
  have hn' : ¬ (300 : Int) < (n : Int) := by omega
  have hm' : (300 : Int) < (m : Int) := by omega
  go_enter Try.func6, Try.ntmps6
  go_wp2_with fail
  go_ret
  exact ⟨rfl, Below.refl _ _⟩

theorem instJoins_walk (w : World) (a : List I) (ha : ∀ i ∈ a, i.Ok) (A : Option Addr) (n c : Nat) (hra : Reads w w.heap.size 4 A n (cellsI a)) (_hc : n ≤ c) (_hm : c ≤ maxLen)
    (b : List I) (hb : ∀ i ∈ b, i.Ok) (A2 : Option Addr) (m c2 : Nat) (hrb : Reads w w.heap.size 4 A2 m (cellsI b)) (_hc2 : m ≤ c2) (_hm2 : c2 ≤ maxLen) :
    Calls Try.prog 6 #[.slice A n c, .slice A2 m c2] w fun e w' => e = .returned (.bool true) ∧ Below w.heap.size w w' := by
  have hl : n = a.length := by have := hra.1; rw [cellsI_length] at this; omega
  have hl2 : m = b.length := by have := hrb.1; rw [cellsI_length] at this; omega
  subst hl
  subst hl2
  by_cases h : a.length ≤ 300
  · by_cases h2 : b.length ≤ 300
    · exact instJoins_few a b ha hb A A2 c c2 w hra hrb h h2
    · exact instJoins_many2 A A2 _ _ c c2 w h (by omega)
  · exact instJoins_many1 A A2 _ _ c c2 w (by omega)
end Go.Proofs.Ytlpakmlpnjfcoaa
