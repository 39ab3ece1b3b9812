/-
  The walk of AsmChains.
-/
import Derived.Test.YtgalkidhgjgbhaaLawAsmFar
import Derived.Test.YtgalkidhgjgbhaaWalkRCheck
namespace Go.Proofs.Ytgalkidhgjgbhaa
open Go.RowKit
set_option linter.unusedVariables false

theorem wordLE_two (a : Nat) (ha : a < 65536) : wordLE ([a % 256, a / 256] ++ List.replicate 62 0) 0 = a := by
  have e : (([a % 256, a / 256] ++ List.replicate 62 0).drop 0).take 4 = [a % 256, a / 256, 0, 0] := rfl
  unfold wordLE
  rw [e]
  simp [valBE]; omega
theorem two_lt (a : Nat) (ha : a < 65536) : ∀ b ∈ ([a % 256, a / 256] ++ List.replicate 62 0), b < 256 := fun b hb => by
  rcases List.mem_append.1 hb with h | h
  · simp at h; omega
  · rw [List.eq_of_mem_replicate h]; omega
theorem bytesV_two (a : Nat) : ((bytesV (List.replicate 64 0)).set 0 (.int .u8 (a % 256 : Nat))).set 1 (.int .u8 (a / 256 : Nat)) = bytesV ([a % 256, a / 256] ++ List.replicate 62 0) := rfl

set_option maxRecDepth 100000 in
set_option maxHeartbeats 4000000 in
theorem asmChains_walk (w : World) (mn : Nat) (hmn : mn < 65536) (ask : Nat) (hask : ask < 65536) :
    Calls Try.prog 10 #[.int .u16 mn, .int .u16 ask] w fun e w' => e = .returned (.bool true) ∧ Below w.heap.size w w' := by
  obtain ⟨i0, hi0, hz0, hz1, hz2⟩ := info_parts info_item
  obtain ⟨j0, hj0, hy0, hy1, hy2⟩ := info_parts info_u8'
  obtain ⟨n, hn⟩ : ∃ n : Nat, n = mn % 600 + 1 := ⟨_, rfl⟩
  have hrem : (mn : Int) % 600 + 1 = (n : Int) := by omega
  have hlo : 1 ≤ n := by omega
  have hhi : n ≤ 600 := by omega
  clear hn
  have hfld : ∀ (v s : Int) (ld : Value) (w : World), (Instr.field 67 (.agg #[.int .u32 v, .int .i64 s, ld]) 0).run Try.prog w = .ok (.int .u32 v) w := fun _ _ _ _ => by first | rfl | simp [go_sem, Instr.field, asAgg]
  have key : ∀ (W1 : World) (g : Nat), W1.heap.size = g → w.heap.size ≤ g → (W1.alloc (.cells (cellsT (chB 0)).toArray 61)).ownsRow w.heap.size 61 5 (.slice (some ⟨g, 0, none⟩) 1 1) 1 (cellsT (chB 0)) := fun W1 g e h => by
    subst e
    exact own_lit W1 _ h _ 5 1 _ rfl (by simp [maxLen])
  have KEY := Lib.hid key
  have HREM := Lib.hid hrem
  clear key hrem
  go_enter Try.func10, Try.ntmps10
  go_wp2_with fail
  have hb1 := (Below.refl w.heap.size w).alloc (Nat.le_refl _) (.cells (cellsT (chB 0)).toArray 61)
  have HB1 := Lib.hid hb1
  clear hb1
  go_loopw [6, 7] (fun v i wr => ∃ j : Nat, j ≤ n ∧ i = .int .i64 j ∧ wr.ownsRow w.heap.size 61 5 v (1 + j) (cellsT (chB j)) ∧ Below w.heap.size w wr) (fun _ i _ => n - (intOf i).toNat)
  case atStart => exact ⟨0, by omega, rfl, KEY.out _ _ rfl (Nat.le_refl _), HB1.out⟩
  case round =>
    obtain ⟨j, hj, rfl, hown, hB⟩ := hrel
    have hsz := hB.size
    have z0 : (0 : Int) ≤ (j : Int) := by omega
    by_cases hlt : j < n
    · have z1 : (j : Int) < (mn : Int) % 600 + 1 := by have := HREM.out; omega
      have hstep := chB_succ j
      have HS := Lib.hid hstep
      have hw : IntKind.u32.wrap (j : Int) = (j : Int) := by simp [IntKind.wrap, IntKind.bits, IntKind.signed]; omega
      clear hstep
      go_wp2_with (at_builtin; refine wpList_append_lit rfl (.tmp 25) (.tmp 29) 62 rfl w.heap.size 61 i0 _ 5 32 Try.underlying62 hi0 hz0 hz1 hz2 rfl (by omega) _ _ (1 + j) _ rfl hown _ 1 1 rfl _ rfl rfl (by simp [Value.oneCell']) (by simp only [maxLen]; omega) (by omega) hsz ?_; intro v1 w1 hown1 hB1 hs1)
      go_roundw
      case rel =>
        refine ⟨j + 1, by omega, by go_num, ?_, hB.trans hB1⟩
        rw [HS.out, cellsT_append, ← Nat.add_assoc]
        exact hown1
      case measure => simp [intOf] <;> omega
    · obtain rfl : n = j := by omega
      have z1 : ¬ (n : Int) < (mn : Int) % 600 + 1 := by have := HREM.out; omega
      go_wp2_with (at_builtin; refine wpList_append_lit rfl (.tmp 31) (.tmp 35) 62 rfl w.heap.size 61 i0 _ 5 32 Try.underlying62 hi0 hz0 hz1 hz2 rfl (by omega) _ _ (1 + n) _ rfl hown _ 3 3 rfl _ rfl rfl (by simp [Value.oneCell']) (by simp only [maxLen]; omega) (by omega) hsz ?_; intro v1 w1 hown1 hB1 hs1)
      have hBw := hB.trans hB1
      have hown2 : w1.ownsRow w.heap.size 61 5 v1 (1 + n + 3) (cellsT (chT n)) := by
        unfold chT
        rw [cellsT_append]
        exact hown1
      obtain ⟨A1, c1, rfl, hr1⟩ := own_reads hown2
      clear hown hown1 hown2 hB1 hB hsz KEY HB1
      refine (assemble_yes (chT n) (chT_ok (by omega)) (chT_form n) A1 _ c1 w1 hr1 (by omega)).mono ?_
      rintro e w2 ⟨F, v2, hL, rfl, hown2, hB2⟩
      have hB2w := hBw.trans (hB2.mono hBw.size)
      obtain ⟨hpl, hck⟩ := chT_check hL (n := n) (by omega)
      have hres : asmR (chT n) F = (asmN (chT n) F, 0) := asmR_ok hpl hck
      have hrunT := chT_run n ask (wordLE ([ask % 256, ask / 256] ++ List.replicate 62 0)) (wordLE_two ask hask)
      have hgo : Goes (asmN (chT n) F) (wordLE ([ask % 256, ask / 256] ++ List.replicate 62 0)) 0 0 (if ask < n then 2 else 1) := goes_asm (chT_form n) hL hrunT (((chT_form n).reachB_iff (Nat.zero_le _)).2 .zero)
      have hpok := asmN_ok (chT_ok (n := n) (by omega)) (chT_form n) hL (by rw [chT_len]; omega)
      have hal := asmLen (chT n) F
      rw [hres] at hown2 ⊢
      simp only at hown2
      generalize asmN (chT n) F = p at *
      obtain ⟨v, hv⟩ : ∃ v : Nat, v = (if ask < n then 2 else 1) := ⟨_, rfl⟩
      rw [← hv] at hgo
      have hpl2 : p.length ≤ 4096 := by rw [hal]; exact hpl
      obtain ⟨A3, c3, rfl, hr3⟩ := own_reads hown2
      have HGO := Lib.hid hgo
      have HPOK := Lib.hid hpok
      have HV := Lib.hid hv
      have HCK := Lib.hid hck
      clear hres hck hpl hgo hrunT hL hown2 hpok hv hB2 hr1 hBw hal
      have a256 : ask % 256 < 256 := by omega
      have a2 : ask / 256 < 256 := by omega
      by_cases hc : ask < n
      · have hgo2 : Goes p (wordLE ([ask % 256, ask / 256] ++ List.replicate 62 0)) 0 0 2 := by have h1 := HGO.out; have h2 := HV.out; rw [if_pos hc] at h2; rw [h2] at h1; exact h1
        have zc : (ask : Int) < (mn : Int) % 600 + 1 := by have := HREM.out; omega
        go_wp2_with (refine wpList_make_full _ rfl (.const (.int .i64 64)) (.const (.int .i64 64)) 33 rfl w.heap.size 5 j0 _ 1 Try.underlying33 hj0 hy0 hy1 .i64 .i64 64 64 64 rfl rfl rfl rfl (by rw [hy2]; omega) (by simp [maxLen]) hB2w.size ?_; intro w4 own4 hg4; rw [made_bytes] at own4; obtain ⟨gb, capb, hvv, hgb, hcb, hmb, hrb⟩ := own_rowK own4 (by omega) (by omega); injection hvv with hv1 hv2 hv3; injection hv1 with hv4; injection hv4 with hv5; subst hv5; subst hv3; have e0 := hrb.cell (k := 0) rfl; have e1 := hrb.cell (k := 1) rfl; have f0 := hrb.frozen 0; have f1 := hrb.frozen 1)
        have hB4w := hB2w.grown hg4 hB2w.size (fun k e => by cases e)
        have hr4 : Reads w4 w4.heap.size 4 A3 p.length (cellsI p) := (hr3.grown hg4 (Nat.le_refl _) (fun k e => by cases e)).more hg4.size
        have hs0 := (hrb.set_ 0 (.int .u8 (ask % 256 : Nat))).set_ 1 (.int .u8 (ask / 256 : Nat))
        rw [bytesV_two] at hs0
        have hrb5 := hs0.reads
        have hB5w := (hB4w.setCell (p := ⟨w2.heap.size, 0, none⟩) hB2w.size (.int .u8 (ask % 256 : Nat))).setCell (p := ⟨w2.heap.size, 1, none⟩) hB2w.size (.int .u8 (ask / 256 : Nat))
        have hr5 := (hr3.grown hg4 (Nat.le_refl _) (fun k e => by cases e)).setCell (p := ⟨w2.heap.size, 0, none⟩) (Nat.le_refl _) (.int .u8 (ask % 256 : Nat)) |>.setCell (p := ⟨w2.heap.size, 1, none⟩) (Nat.le_refl _) (.int .u8 (ask / 256 : Nat))
        have hln : (bytesV ([ask % 256, ask / 256] ++ List.replicate 62 0)).length = 64 := by rw [bytesV_length]; simp
        rw [hln] at hrb5
        have i1 : ((ask % 256 : Nat) : Int) = (ask : Int) % 256 := by omega
        have i2 : ((ask / 256 : Nat) : Int) = (ask : Int) / 256 := by omega
        rw [i1, i2] at hrb5 hB5w hr5
        have hszz : w2.heap.size ≤ ((w4.setCell ⟨w2.heap.size, 0, none⟩ (.int .u8 ((ask : Int) % 256))).setCell ⟨w2.heap.size, 1, none⟩ (.int .u8 ((ask : Int) / 256))).heap.size := by simp [World.setCell]; exact hg4.size
        generalize (w4.setCell ⟨w2.heap.size, 0, none⟩ (.int .u8 ((ask : Int) % 256))).setCell ⟨w2.heap.size, 1, none⟩ (.int .u8 ((ask : Int) / 256)) = w5 at *
        have hr5' := hr5.more hszz
        have HP2 := Lib.hid hpl2
        clear hr4 hs0 hln i1 i2 hr5 hr3 hg4 own4 hrb e0 e1 f0 f1 hB4w hB2w hszz a256 a2 hpl2
        refine (back_insts p HPOK.out A3 _ c3 w5 hr5' (by have := HP2.out; omega)).mono ?_
        rintro e w6 ⟨v6, rfl, own6, hB6⟩
        obtain ⟨A6, c6, rfl, hr6⟩ := own_reads own6
        have hr56 := (hr5'.below hB6).more hB6.size
        have hrb6 := (hrb5.below hB6).more hB6.size
        have hB6w := hB5w.trans (hB6.mono hB5w.size)
        clear own6 hB6 hr5' hrb5 hB5w
        go_wp2_with fail
        refine (refCheck_any p HPOK.out A6 _ c6 w6 hr6 (by have := HP2.out; omega)).mono ?_
        rintro e w7 ⟨rfl, hB7⟩
        rw [HCK.out]
        have hr7 := (hr56.below hB7).more hB7.size
        have hrb7 := (hrb6.below hB7).more hB7.size
        have hB7w := hB6w.trans (hB7.mono hB6w.size)
        clear hB7 hr56 hrb6 hB6w hr6
        have HR7 := Lib.hid hr7
        clear hr7
        go_wp2_with fail
        refine (back_insts p HPOK.out A3 _ c3 _ HR7.out (by have := HP2.out; omega)).mono ?_
        rintro e w8 ⟨v8, rfl, own8, hB8⟩
        obtain ⟨A8, c8, rfl, hr8⟩ := own_reads own8
        have hrb8 := (hrb7.below hB8).more hB8.size
        have hB8w := hB7w.trans (hB8.mono hB7w.size)
        clear own8 hB8 hrb7 hB7w
        go_wp2_with fail
        refine (run06_any p HPOK.out A8 _ c8 ([ask % 256, ask / 256] ++ List.replicate 62 0) (two_lt ask hask) w2.heap.size 0 64 (by omega) (by simp [maxLen]) w8 hr8 (by have := HP2.out; omega) hrb8 2 ⟨0, rfl, hgo2⟩).mono ?_
        rintro e w9 ⟨⟨s, ld, rfl⟩, hB9⟩
        have hB9w := hB8w.trans (hB9.mono hB8w.size)
        clear hB9 hr8 hrb8 hB8w
        go_wp2_with fail
        refine (awake21_any _).mono ?_
        rintro e w10 ⟨rfl, hB10⟩
        go_wp2_with fail
        go_ret
        exact ⟨rfl, hB9w.trans (hB10.mono hB9w.size)⟩
      · have hgo2 : Goes p (wordLE ([ask % 256, ask / 256] ++ List.replicate 62 0)) 0 0 1 := by have h1 := HGO.out; have h2 := HV.out; rw [if_neg hc] at h2; rw [h2] at h1; exact h1
        have zc : ¬ (ask : Int) < (mn : Int) % 600 + 1 := by have := HREM.out; omega
        go_wp2_with (refine wpList_make_full _ rfl (.const (.int .i64 64)) (.const (.int .i64 64)) 33 rfl w.heap.size 5 j0 _ 1 Try.underlying33 hj0 hy0 hy1 .i64 .i64 64 64 64 rfl rfl rfl rfl (by rw [hy2]; omega) (by simp [maxLen]) hB2w.size ?_; intro w4 own4 hg4; rw [made_bytes] at own4; obtain ⟨gb, capb, hvv, hgb, hcb, hmb, hrb⟩ := own_rowK own4 (by omega) (by omega); injection hvv with hv1 hv2 hv3; injection hv1 with hv4; injection hv4 with hv5; subst hv5; subst hv3; have e0 := hrb.cell (k := 0) rfl; have e1 := hrb.cell (k := 1) rfl; have f0 := hrb.frozen 0; have f1 := hrb.frozen 1)
        have hB4w := hB2w.grown hg4 hB2w.size (fun k e => by cases e)
        have hr4 : Reads w4 w4.heap.size 4 A3 p.length (cellsI p) := (hr3.grown hg4 (Nat.le_refl _) (fun k e => by cases e)).more hg4.size
        have hs0 := (hrb.set_ 0 (.int .u8 (ask % 256 : Nat))).set_ 1 (.int .u8 (ask / 256 : Nat))
        rw [bytesV_two] at hs0
        have hrb5 := hs0.reads
        have hB5w := (hB4w.setCell (p := ⟨w2.heap.size, 0, none⟩) hB2w.size (.int .u8 (ask % 256 : Nat))).setCell (p := ⟨w2.heap.size, 1, none⟩) hB2w.size (.int .u8 (ask / 256 : Nat))
        have hr5 := (hr3.grown hg4 (Nat.le_refl _) (fun k e => by cases e)).setCell (p := ⟨w2.heap.size, 0, none⟩) (Nat.le_refl _) (.int .u8 (ask % 256 : Nat)) |>.setCell (p := ⟨w2.heap.size, 1, none⟩) (Nat.le_refl _) (.int .u8 (ask / 256 : Nat))
        have hln : (bytesV ([ask % 256, ask / 256] ++ List.replicate 62 0)).length = 64 := by rw [bytesV_length]; simp
        rw [hln] at hrb5
        have i1 : ((ask % 256 : Nat) : Int) = (ask : Int) % 256 := by omega
        have i2 : ((ask / 256 : Nat) : Int) = (ask : Int) / 256 := by omega
        rw [i1, i2] at hrb5 hB5w hr5
        have hszz : w2.heap.size ≤ ((w4.setCell ⟨w2.heap.size, 0, none⟩ (.int .u8 ((ask : Int) % 256))).setCell ⟨w2.heap.size, 1, none⟩ (.int .u8 ((ask : Int) / 256))).heap.size := by simp [World.setCell]; exact hg4.size
        generalize (w4.setCell ⟨w2.heap.size, 0, none⟩ (.int .u8 ((ask : Int) % 256))).setCell ⟨w2.heap.size, 1, none⟩ (.int .u8 ((ask : Int) / 256)) = w5 at *
        have hr5' := hr5.more hszz
        have HP2 := Lib.hid hpl2
        clear hr4 hs0 hln i1 i2 hr5 hr3 hg4 own4 hrb e0 e1 f0 f1 hB4w hB2w hszz a256 a2 hpl2
        refine (back_insts p HPOK.out A3 _ c3 w5 hr5' (by have := HP2.out; omega)).mono ?_
        rintro e w6 ⟨v6, rfl, own6, hB6⟩
        obtain ⟨A6, c6, rfl, hr6⟩ := own_reads own6
        have hr56 := (hr5'.below hB6).more hB6.size
        have hrb6 := (hrb5.below hB6).more hB6.size
        have hB6w := hB5w.trans (hB6.mono hB5w.size)
        clear own6 hB6 hr5' hrb5 hB5w
        go_wp2_with fail
        refine (refCheck_any p HPOK.out A6 _ c6 w6 hr6 (by have := HP2.out; omega)).mono ?_
        rintro e w7 ⟨rfl, hB7⟩
        rw [HCK.out]
        have hr7 := (hr56.below hB7).more hB7.size
        have hrb7 := (hrb6.below hB7).more hB7.size
        have hB7w := hB6w.trans (hB7.mono hB6w.size)
        clear hB7 hr56 hrb6 hB6w hr6
        have HR7 := Lib.hid hr7
        clear hr7
        go_wp2_with fail
        refine (back_insts p HPOK.out A3 _ c3 _ HR7.out (by have := HP2.out; omega)).mono ?_
        rintro e w8 ⟨v8, rfl, own8, hB8⟩
        obtain ⟨A8, c8, rfl, hr8⟩ := own_reads own8
        have hrb8 := (hrb7.below hB8).more hB8.size
        have hB8w := hB7w.trans (hB8.mono hB7w.size)
        clear own8 hB8 hrb7 hB7w
        go_wp2_with fail
        refine (run06_any p HPOK.out A8 _ c8 ([ask % 256, ask / 256] ++ List.replicate 62 0) (two_lt ask hask) w2.heap.size 0 64 (by omega) (by simp [maxLen]) w8 hr8 (by have := HP2.out; omega) hrb8 1 ⟨0, rfl, hgo2⟩).mono ?_
        rintro e w9 ⟨⟨s, ld, rfl⟩, hB9⟩
        have hB9w := hB8w.trans (hB9.mono hB8w.size)
        clear hB9 hr8 hrb8 hB8w
        go_wp2_with fail
        refine (awake21_any _).mono ?_
        rintro e w10 ⟨rfl, hB10⟩
        go_wp2_with fail
        go_ret
        exact ⟨rfl, hB9w.trans (hB10.mono hB9w.size)⟩
end Go.Proofs.Ytgalkidhgjgbhaa
