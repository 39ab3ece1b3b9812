/-
  The walk of TopJoins.
-/
import Derived.Test.YtgalkidhgjgbhaaPruneAll
import Derived.Test.YtgalkidhgjgbhaaWalkVm9
import Derived.Test.YtgalkidhgjgbhaaLongPlain
import Derived.Test.YtgalkidhgjgbhaaAwakeT
import Derived.Test.YtgalkidhgjgbhaaOpenArrs
namespace Go.Proofs.Ytgalkidhgjgbhaa
open Go.RowKit
set_option linter.unusedVariables false

theorem cellsI_one7 (l : List I) : ∀ v ∈ cellsI l, v.oneCell' = true := fun v hv => by
  unfold cellsI at hv
  obtain ⟨i, _, h⟩ := List.mem_flatMap.1 hv
  simp only [I.vals, List.mem_cons, List.not_mem_nil, or_false] at h
  rcases h with rfl | rfl | rfl | rfl <;> rfl
theorem keep_q {V W : World} {g : Nat} {t : TypeId} {c : Nat} {vs : List Value} (h : RowK V g t c vs) (hB : Below V.heap.size V W) : RowK W g t c vs := h.below hB h.lt
theorem longN_le (l : List I) : longN l ≤ l.length := by
  unfold longN
  split
  · exact mostN_le l _ _
  · omega
theorem runV_le (p : List I) (W : Nat → Nat) : ∀ (f : Nat) (s : Vs), (runV p W f s).2 ≤ f
  | 0, s => by unfold runV; exact Nat.le_refl _
  | f + 1, s => by
    unfold runV
    have := runV_le p W f
    split
    · simp
    · exact Nat.succ_le_succ (this _)
/-- What TopJoins says, in plain words. -/
structure Joined (x : List I) (n : Nat) (W : Nat → Nat) : Prop where
  ok : ∀ i ∈ joinN n x, i.Ok
  form : FormedP (joinN n x)
  check : (checkN (joinN n x)).2 = 0
  run : runV (joinN n x) W (joinN n x).length v0 = ((runV x W x.length v0).1, (runV x W x.length v0).2 + 1)
  long : longN (joinN n x) = longN x + 1
  okP : ∀ i ∈ pruneN (reachN (joinN n x)) (joinN n x), i.Ok
  checkP : (checkN (pruneN (reachN (joinN n x)) (joinN n x))).2 = 0
  runP : runV (pruneN (reachN (joinN n x)) (joinN n x)) W (pruneN (reachN (joinN n x)) (joinN n x)).length v0 = ((runV x W x.length v0).1, (runV x W x.length v0).2 + 1)
  lenP : (pruneN (reachN (joinN n x)) (joinN n x)).length ≤ n + 1 + x.length
theorem joined (x : List I) (hok : ∀ i ∈ x, i.Ok) (n : Nat) (hn : n < 256) (hx : x.length ≤ 100) (hc : (checkN x).2 = 0) (W : Nat → Nat) : Joined x n W := by
  have hP := formed_of_check hc
  have hlen : n + 1 + x.length ≤ 4096 := by omega
  have hPj := join_formed hP hlen
  have hcj := join_check hc hlen
  have hcj2 : (checkN (joinN n x)).2 = 0 := by rw [hcj]
  have hk := (reach_kept hPj).1
  have hokj : ∀ i ∈ joinN n x, i.Ok := fun i hi => by
    unfold joinN preN at hi
    rcases List.mem_append.1 hi with h | h
    · rcases List.mem_cons.1 h with rfl | h
      · exact ⟨by show 5 < 65536; omega, by show 0 < 256; omega, by show 0 < 256; omega, by show n < _; omega⟩
      · rw [List.eq_of_mem_replicate h]; exact ⟨by decide, by decide, by decide, by decide⟩
    · exact hok i h
  have hle : (pruneN (reachN (joinN n x)) (joinN n x)).length ≤ n + 1 + x.length := by
    rw [prune_length hk hPj, ← joinN_length]
    exact cntN_le _ _
  refine ⟨hokj, hPj, hcj2, join_run hP hlen W, join_long hc hlen, ?_, ?_, ?_, hle⟩
  · intro i hi
    have key : ∀ (R : List Bool) (y : List I) (hy : ∀ i ∈ y, i.Ok) (m : Nat), m ≤ y.length → ∀ i ∈ pruneU R y m, i.Ok := fun R y hy m => by
      induction m with
      | zero => intro _ i hi; cases hi
      | succ m ih =>
        intro hm i hi
        rcases List.mem_append.1 hi with h | h
        · exact ih (by omega) i h
        · split at h
          · rw [List.mem_singleton.1 h]
            exact fix_ok (getD_ok hy (by omega))
          · cases h
    exact key _ _ hokj _ (Nat.le_refl _) i hi
  · rw [prune_check hk hPj hcj2]
  · rw [prune_run hk hPj W, join_run hP hlen W]

set_option maxRecDepth 100000 in
set_option maxHeartbeats 4000000 in
theorem topJoins_few (w : World) (l : List I) (hok : ∀ i ∈ l, i.Ok) (A : Option Addr) (n c : Nat) (hr : Reads w w.heap.size 4 A n (cellsI l)) (hn : n ≤ 100) (ov : Nat) (hov : ov < 256) (b : Arr64V) (hb : b.Ok) :
    Calls Try.prog 3 #[.slice A n c, .int .u8 ov, b.val] w fun e w' => e = .returned (.bool true) ∧ Below w.heap.size w w' := by
  obtain ⟨i0, hi0, hz0, hz1, hz2⟩ := info_parts info_inst
  have hl : n = l.length := by have := hr.1; rw [cellsI_length] at this; omega
  obtain ⟨bl⟩ := b
  obtain ⟨hbl, hbb⟩ := hb
  simp only at hbl hbb
  have hbl64 : (bytesV bl).length = 64 * 1 := by rw [bytesV_length, hbl]
  have hrb0 := reads_lit w (bytesV bl) 23 1 64 hbl64
  have hB0 : Below w.heap.size w (w.alloc (.cells (bytesV bl).toArray 23)) := (Below.refl _ w).alloc (Nat.le_refl _) _
  have hsz0 : (w.alloc (.cells (bytesV bl).toArray 23)).heap.size = w.heap.size + 1 := World.size_alloc ..
  have hall := fun W hr => allT_insts l hok A n c W hr (by omega)
  have hrun := fun A1 c1 W (hr : Reads W W.heap.size 4 A1 n (cellsI l)) hrb => vmrun_any l hok A1 n c1 bl hbb (some ⟨w.heap.size, 0, none⟩) 64 W hr (by omega) hrb
  have hjoin := fun h0 => joined l hok ov hov (by omega) h0 (fun k => getN bl k 4 false)
  have hle1 : ¬ (100 : Int) < (n : Int) := by omega
  show Calls Try.prog 3 #[.slice A n c, .int .u8 ov, .agg (bytesV bl).toArray] w _
  generalize hbV : bytesV bl = bV at *
  have HL := Lib.hid hl
  have HOK := Lib.hid hok
  have HRB0 := Lib.hid hrb0
  have HB0 := Lib.hid hB0
  have HR := Lib.hid ((hr.below hB0).more hB0.size)
  have HALL := Lib.hid hall
  have HRUN := Lib.hid hrun
  have HJ := Lib.hid hjoin
  have HBB := Lib.hid hbb
  have HBV := Lib.hid hbV
  have HBL := Lib.hid hbl
  clear hl hok hrb0 hB0 hr hall hrun hjoin hbb hbV hbl
  go_enter Try.func3, Try.ntmps3
  go_wp2_with fail
  refine ((HALL.out) _ HR.out).mono ?_
  rintro e w1 ⟨v1, rfl, own1, hB1⟩
  rw [← HL.out] at own1
  obtain ⟨A1, c1, rfl, hr1⟩ := own_reads own1
  have hrb1 := (((HRB0.out).more (by rw [hsz0]; exact Nat.le_refl _) : Reads _ (w.alloc (.cells bV.toArray 23)).heap.size 1 _ 64 bV).below hB1).more hB1.size
  have hBw1 := (HB0.out).trans (hB1.mono (by rw [hsz0]; omega))
  have HR1 := Lib.hid hr1
  have HRB1 := Lib.hid hrb1
  have HBW1 := Lib.hid hBw1
  have hsz1 : w.heap.size + 1 ≤ w1.heap.size := by have := hB1.size; rw [hsz0] at this; exact this
  clear own1 hr1 hrb1 hBw1 hB1 HRB0 HB0 HR HALL hsz0 hbl64
  go_wp2_with fail
  refine ((HRUN.out) A1 c1 w1 HR1.out HRB1.out).mono ?_
  rintro e w2 ⟨v, st, ldA, ldn, ldc, hV, rfl, hB2⟩
  have HR2 := Lib.hid (((HR1.out).below hB2).more hB2.size)
  have HRB2 := Lib.hid (((HRB1.out).below hB2).more hB2.size)
  have HBW2 := Lib.hid ((HBW1.out).trans (hB2.mono (by omega)))
  have hsz2 : w.heap.size + 1 ≤ w2.heap.size := Nat.le_trans hsz1 hB2.size
  have HV := Lib.hid hV
  clear hV hB2 HR1 HRB1 HBW1 hsz1 HRUN
  by_cases hz : (checkN l).2 = 0
  · have HZ := Lib.hid hz
    rw [hz]
    clear hz
    have HJ0 := Lib.hid ((HJ.out) HZ.out)
    clear HJ
    go_wp2_with fail
    rw [show w2.heap.size + 1 = (w2.alloc (.cells #[.int .u32 v, .int .i64 st, .slice ldA ldn ldc] 29)).heap.size from (World.size_alloc ..).symm]
    have ho3 : RowK (w2.alloc (.cells #[.int .u32 v, .int .i64 st, .slice ldA ldn ldc] 29)) w2.heap.size 29 3 [.int .u32 v, .int .i64 st, .slice ldA ldn ldc] := RowK.new w2 29 #[.int .u32 v, .int .i64 st, .slice ldA ldn ldc] [.int .u32 v, .int .i64 st, .slice ldA ldn ldc] rfl
    have hg3 := (Below.refl w2.heap.size w2).alloc (Nat.le_refl _) (.cells #[.int .u32 v, .int .i64 st, .slice ldA ldn ldc] 29)
    have hr3 := ((HR2.out).below hg3).more hg3.size
    have hrb3 := ((HRB2.out).below hg3).more hg3.size
    have hB3 := (HBW2.out).trans (hg3.mono (by omega))
    have hs3 := Nat.le_trans hsz2 hg3.size
    generalize w2.alloc (.cells #[.int .u32 v, .int .i64 st, .slice ldA ldn ldc] 29) = w3 at *
    generalize w2.heap.size = go at *
    have hgol := ho3.lt
    have own4 : (w3.alloc (.cells #[.int .u16 5, .int .u8 0, .int .u8 0, .int .u32 ov] 37)).ownsRow w3.heap.size 37 4 (.slice (some ⟨w3.heap.size, 0, none⟩) 1 1) 1 [.int .u16 5, .int .u8 0, .int .u8 0, .int .u32 ov] :=
      ⟨by simp, .inr ⟨w3.heap.size, 1, #[.int .u16 5, .int .u8 0, .int .u8 0, .int .u32 ov], rfl, Nat.le_refl _, heap_alloc_new w3 _, Nat.le_refl _, by simp [maxLen], rfl, by simp⟩⟩
    have hB4 := (Below.refl w3.heap.size w3).alloc (Nat.le_refl _) (.cells #[.int .u16 5, .int .u8 0, .int .u8 0, .int .u32 ov] 37)
    have S3 := Lib.hid (And.intro ho3 (And.intro hr3 (And.intro hrb3 (And.intro hB3 hs3))))
    clear ho3 hr3 hrb3 hB3 hs3 HR2 HRB2 HBW2 hsz2 hg3
    have S4 := Lib.hid (And.intro own4 hB4)
    clear own4 hB4
    go_loopw [11, 12] (fun y i wr => ∃ k : Nat, k ≤ ov ∧ i = .int .i64 k ∧ wr.ownsRow w3.heap.size 37 4 y (k + 1) (cellsI (jumpI ov :: List.replicate k negI)) ∧ Below w3.heap.size w3 wr) (fun y i _ => ov - (intOf i).toNat)
    case atStart => exact ⟨0, by omega, rfl, (S4.out).1, (S4.out).2⟩
    case round =>
      obtain ⟨k, hk, rfl, hown, hB⟩ := hrel
      clear S4
      by_cases hlt : k < ov
      · obtain ⟨Ay, cy, rfl, -⟩ := own_reads hown
        have hownA := hown.alloc (.cells #[.int .u16 132, .int .u8 0, .int .u8 0, .int .u32 0] 37)
        have hrA := reads_lit wr [.int .u16 132, .int .u8 0, .int .u8 0, .int .u32 0] 37 4 1 rfl
        have hcells : cellsI (jumpI ov :: List.replicate (k + 1) negI) = cellsI (jumpI ov :: List.replicate k negI) ++ [.int .u16 132, .int .u8 0, .int .u8 0, .int .u32 0] := by
          rw [List.replicate_succ', ← List.cons_append, cellsI_append]; rfl
        have HC := Lib.hid hcells
        have hb1x : w3.heap.size ≤ (wr.alloc (.cells #[.int .u16 132, .int .u8 0, .int .u8 0, .int .u32 0] 37)).heap.size := by rw [World.size_alloc]; have := hB.size; omega
        have hml : k + 1 + 1 ≤ maxLen := by simp only [maxLen]; omega
        have hby : (k + 1 + 1) * 8 ≤ 140737488355328 := by omega
        have HBk := Lib.hid hB
        have hk1 : (k : Int) < (ov : Int) := by omega
        clear hcells hown hB
        generalize cellsI (jumpI ov :: List.replicate k negI) = cc at *
        go_wp2_with (at_builtin; go_loud (refine wpList_append_any _ rfl (.tmp 42) (.tmp 44) 24 rfl w3.heap.size 37 i0 _ 4 8 Try.underlying24 hi0 hz0 hz1 hz2 rfl (by omega) (.slice Ay (k + 1) cy) (k + 1) cc rfl hownA (wr.heap.size + 1) (some ⟨wr.heap.size, 0, none⟩) 1 1 [.int .u16 132, .int .u8 0, .int .u8 0, .int .u32 0] rfl hrA (by simp [Value.oneCell']) hml hby hb1x ?_); intro v9 w9 own9 hg9 hat9)
        go_roundw
        case rel =>
          refine ⟨k + 1, by omega, by go_num, ?_, ?_⟩
          · rw [HC.out]; exact own9
          · exact (((HBk.out).alloc (HBk.out).size _).grown hg9 hb1x (fun q e => by have := (hownA.lt q e).1; omega))
        case measure => simp [intOf]; omega
      · obtain rfl : k = ov := by omega
        obtain ⟨ho3, hr3, hrb3, hB3, hs3⟩ := S3.out
        obtain ⟨Ay, cy, rfl, -⟩ := own_reads hown
        have hrx := (hr3.below hB).more hB.size
        have hml : k + 1 + n ≤ maxLen := by simp only [maxLen]; omega
        have hby : (k + 1 + n) * 8 ≤ 140737488355328 := by omega
        have hBs := hB.size
        have HBk := Lib.hid hB
        have hcells : cellsI (joinN k l) = cellsI (jumpI k :: List.replicate k negI) ++ cellsI l := by
          rw [← cellsI_append]; rfl
        have HC := Lib.hid hcells
        have hk1 : ¬ (k : Int) < (k : Int) := by omega
        clear hB hr3 ho3 hrb3 hB3 hs3 hcells hk
        generalize cellsI (jumpI k :: List.replicate k negI) = cc at *
        have hone := cellsI_one7 l
        go_wp2_with (at_builtin; go_loud (refine wpList_append_any _ rfl (.tmp 46) (.tmp 47) 24 rfl w3.heap.size 37 i0 _ 4 8 Try.underlying24 hi0 hz0 hz1 hz2 rfl (by omega) (.slice Ay (k + 1) cy) (k + 1) cc rfl hown wr.heap.size A1 n c1 (cellsI l) rfl hrx hone hml hby hBs ?_); intro v5 w5 own5 hg5 hat5; obtain ⟨A5, c5, hv5, hr5⟩ := own_reads own5; subst hv5)
        have hB5 := (HBk.out).grown hg5 hBs (fun q e => (hown.lt q e).1)
        rw [← HC.out] at hr5
        clear own5 hg5 hat5 hown hrx hml hby hBs HC HBk hone
        generalize cc = cc0 at *
        obtain ⟨ho3, hr3, hrb3, hB3, hs3⟩ := S3.out
        have ho5 := ho3.below hB5 hgol
        have hrx5 := (hr3.below hB5).more hB5.size
        have hrb5 := (hrb3.below hB5).more hB5.size
        have hBw5 := hB3.trans (hB5.mono (by omega))
        have hgo5 : go < w5.heap.size := ho5.lt
        have hs5 : w.heap.size + 1 ≤ w5.heap.size := Nat.le_trans hs3 hB5.size
        have S5 := Lib.hid (And.intro ho5 (And.intro hrx5 (And.intro hrb5 (And.intro hBw5 hr5))))
        clear hB5 ho3 hr3 hrb3 hB3 hs3 S3 hgol hr5 ho5 hrx5 hrb5 hBw5
        have J := HJ0.out
        have HR5 := Lib.hid (vmrun_any (joinN k l) J.ok A5 (k + 1 + n) c5 bl HBB.out (some ⟨w.heap.size, 0, none⟩) 64 w5 (S5.out).2.2.2.2 (by omega) (by rw [HBV.out]; exact (S5.out).2.2.1))
        refine (HR5.out).mono ?_
        rintro e w6 ⟨v6, st6, lB, m6, k6, hV6, rfl, hB6⟩
        rw [J.check]
        have e6 : (v6, st6) = (v, st + 1) := (hV6 J.check).trans (J.run.trans (by rw [← (HV.out) HZ.out]))
        injection e6 with e7 e8
        subst e7
        have hst : (st6 : Int) = (st : Int) + 1 := by omega
        have hJrun := J.run
        rw [← (HV.out) HZ.out] at hJrun
        have hp15 : runV (pruneN (reachN (joinN k l)) (joinN k l)) (fun k => getN bl k 4 false) (pruneN (reachN (joinN k l)) (joinN k l)).length v0 = (v6, st6) := by
          rw [J.runP, ← (HV.out) HZ.out, e8]
        obtain ⟨ho5, hrx5, hrb5, hBw5, hr5⟩ := S5.out
        have hB7 := hB6.alloc hB6.size (.cells #[.int .u32 v6, .int .i64 st6, .slice lB m6 k6] 29)
        have hp7 : RowK (w6.alloc (.cells #[.int .u32 v6, .int .i64 st6, .slice lB m6 k6] 29)) w6.heap.size 29 3 [.int .u32 v6, .int .i64 st6, .slice lB m6 k6] := RowK.new w6 29 #[.int .u32 v6, .int .i64 st6, .slice lB m6 k6] [.int .u32 v6, .int .i64 st6, .slice lB m6 k6] rfl
        have ho7 := ho5.below hB7 hgo5
        have hrx7 := (hrx5.below hB7).more hB7.size
        have hrb7 := (hrb5.below hB7).more hB7.size
        have hry7 := (hr5.below hB7).more hB7.size
        have hBw7 := hBw5.trans (hB7.mono (by omega))
        have hs7 := Nat.le_trans hs5 hB7.size
        have HST := Lib.hid hst
        clear ho5 hrx5 hrb5 hBw5 hr5 S5 hB6 hB7 hV6 hJrun J e8 HR5 hst hgo5 hs5
        have HP15 := Lib.hid hp15
        have HO7 := Lib.hid ho7
        have HX7 := Lib.hid hrx7
        have HRB7 := Lib.hid hrb7
        have HRY7 := Lib.hid hry7
        have HBW7 := Lib.hid hBw7
        have HP7 := Lib.hid hp7
        clear hp15 ho7 hrx7 hrb7 hry7 hBw7 hp7
        go_upto_region 15 with fail
        generalize w6.alloc (.cells #[.int .u32 v6, .int .i64 st6, .slice lB m6 k6] 29) = w7 at *
        generalize w6.heap.size = gp at *
        have HC1 := Lib.hid (fun (V : World) (hV : Below w7.heap.size w7 V) => prune_any (joinN k l) (HJ0.out).ok (HJ0.out).form (HJ0.out).check A5 (k + 1 + n) c5 V (((HRY7.out).below hV).more hV.size) (by omega))
        have HC2 := Lib.hid (fun (V : World) (hV : Below w7.heap.size w7 V) (A : Option Addr) (m c : Nat) (hm : m ≤ 100000) (hr : Reads V V.heap.size 4 A m (cellsI (pruneN (reachN (joinN k l)) (joinN k l)))) => vmrun_any _ (HJ0.out).okP A m c bl HBB.out (some ⟨w.heap.size, 0, none⟩) 64 V hr hm (by rw [HBV.out]; exact ((HRB7.out).below hV).more hV.size))
        have hlp := (HJ0.out).lenP
        have hcp := (HJ0.out).checkP
        rw [← HL.out] at hlp
        unfold MakesInsts at HC1
        unfold TellsVm at HC2
        rw [hcp] at HC2
        have HP16 := Lib.hid ((HP15.out))
        rw [HP15.out] at HC2
        have HLP := Lib.hid hlp
        clear hlp hcp HP15 HP16
        generalize pruneN (reachN (joinN k l)) (joinN k l) = pr at *
        go_cut [15, 16] from 55 (fun s15 s16 wx => ∃ (g : Nat) (lA : Option Addr) (ln lc : Nat), s15 = .pointer (some ⟨g, 0, none⟩) ∧ s16 = .int .i64 0 ∧ RowK wx g 29 3 [.int .u32 v6, .int .i64 st6, .slice lA ln lc] ∧ Below w7.heap.size w7 wx)
        case first =>
          go_region_with (first
            | (go_at_call 18
               (with_reducible refine (HC1.out _ ?_).mono ?_)
               · first | exact (Below.refl _ _).drew | exact ((Below.refl _ _).alloc (Nat.le_refl _) _).drew
               rintro e w8 ⟨v8, rfl, own8, hB8⟩
               obtain ⟨A8, c8, hv8, hr8⟩ := own_reads own8
               subst hv8
               have hB78 : Below w7.heap.size w7 w8 := by first | exact Below.trans (Below.drew (Below.refl _ _)) hB8 | exact Below.trans (Below.drew ((Below.refl _ _).alloc (Nat.le_refl _) _)) (hB8.mono (by show w7.heap.size ≤ (w7.heap.push _).size; simp))
               try (have q8 := (show RowK ((w7.alloc (.cells #[.int .u32 0, .int .i64 0, .slice none 0 0] 29)).drew) w7.heap.size 29 3 [.int .u32 0, .int .i64 0, .slice none 0 0] from RowK.new w7 29 #[.int .u32 0, .int .i64 0, .slice none 0 0] [.int .u32 0, .int .i64 0, .slice none 0 0] rfl).below hB8 (by show w7.heap.size < (w7.heap.push _).size; simp))
               clear own8)
            | (go_at_call 16
               go_loud (
               (with_reducible refine (HC2.out _ ?_ _ _ _ ?_ ?_).mono ?_)
               · first | exact hB78 | exact hB78.alloc hB78.size _
               · have := HLP.out; omega
               · first | exact hr8 | exact (hr8.alloc (Nat.le_refl _) _).more (by simp)
               rintro e w9 ⟨v9, st9, lC, m9, k9, h9, rfl, hB9⟩
               obtain ⟨h11, h12⟩ : v9 = v6 ∧ st9 = st6 := by simpa using h9
               subst h11
               subst h12
               have hB79 : Below w7.heap.size w7 w9 := by first | exact hB78.trans (hB9.mono hB78.size) | exact (hB78.alloc hB78.size _).trans (hB9.mono (by rw [World.size_alloc]; have := hB78.size; omega))
               first
                 | (have q9 := keep_q (g := w7.heap.size) (t := 29) (vs := [.int .u32 0, .int .i64 0, .slice none 0 0]) (by assumption) hB9)
                 | (have q9 := keep_q (RowK.new w8 29 #[.int .u32 0, .int .i64 0, .slice none 0 0] [.int .u32 0, .int .i64 0, .slice none 0 0] rfl) hB9)
                 | skip
               try (have x0 := q9.cell (k := 0) rfl; have x1 := q9.cell (k := 1) rfl; have x2 := q9.cell (k := 2) rfl; have y0 := q9.frozen 0; have y1 := q9.frozen 1; have y2 := q9.frozen 2; have ylt := q9.lt)
               clear h9)))
          all_goals
            go_wp2_with fail
            go_meet
            refine ⟨_, lC, m9, k9, rfl, rfl, ?_, ?_⟩
            · first
                | exact RowK.new w9 29 #[.int .u32 v9, .int .i64 st9, .slice lC m9 k9] [.int .u32 v9, .int .i64 st9, .slice lC m9 k9] rfl
                | exact ((q9.set_ 0 _).set_ 1 _).set_ 2 _
            · first
                | exact hB79.alloc hB79.size _
                | exact ((hB79.setCell (p := ⟨w7.heap.size, 0, none⟩) (Nat.le_refl _) _).setCell (p := ⟨w7.heap.size, 1, none⟩) (Nat.le_refl _) _).setCell (p := ⟨w7.heap.size, 2, none⟩) (Nat.le_refl _) _
                | exact ((hB79.setCell (p := ⟨w8.heap.size, 0, none⟩) hB78.size _).setCell (p := ⟨w8.heap.size, 1, none⟩) hB78.size _).setCell (p := ⟨w8.heap.size, 2, none⟩) hB78.size _
        case rest =>
          obtain ⟨g, lA, ln, lc, rfl, rfl, hq, hBc⟩ := hcut
          have ho := (HO7.out).below hBc (HO7.out).lt
          have hp := (HP7.out).below hBc (HP7.out).lt
          have o0 := ho.cell (k := 0) rfl
          have o1 := ho.cell (k := 1) rfl
          have p0 := hp.cell (k := 0) rfl
          have p1 := hp.cell (k := 1) rfl
          have q0 := hq.cell (k := 0) rfl
          have q1 := hq.cell (k := 1) rfl
          have hst := HST.out
          have hsb : st ≤ 100 := by
            have h1 := (HV.out) HZ.out
            have h2 := runV_le l (fun k => getN bl k 4 false) l.length v0
            rw [← h1] at h2
            have := HL.out
            have h3 : st ≤ l.length := h2
            omega
          have hlb : longN l ≤ 100 := by
            have := longN_le l
            have := HL.out
            omega
          have HLY := Lib.hid (longest_any (joinN k l) (HJ0.out).ok A5 (k + 1 + n) c5 wc (((HRY7.out).below hBc).more hBc.size) (by omega))
          have HLX := Lib.hid (fun (V : World) (hV : Below wc.heap.size wc V) => longest_any l HOK.out A1 n c1 V ((((HX7.out).below hBc).more hBc.size |>.below hV).more hV.size) (by omega))
          rw [(HJ0.out).long] at HLY
          have HBC := Lib.hid ((HBW7.out).trans (hBc.mono (by omega)))
          have hsc : w.heap.size ≤ wc.heap.size := HBC.out.size
          clear ho hp hq hBc
          generalize longN l = L at *
          go_wp2_with fail
          refine (HLY.out).mono ?_
          rintro e w10 ⟨rfl, hB10⟩
          have HLX2 := Lib.hid ((HLX.out) w10 hB10)
          have HB10 := Lib.hid hB10
          clear hB10 HLX HLY
          go_wp2_with fail
          refine (HLX2.out).mono ?_
          rintro e w11 ⟨rfl, hB11⟩
          have hB11' := (HBC.out).trans (((HB10.out).trans (hB11.mono (HB10.out).size)).mono hsc)
          have hs11 := hB11'.size
          clear hB11 HB10 HLX2
          go_wp2_with fail
          refine (awakeT_any _).mono ?_
          rintro e w12 ⟨rfl, hB12⟩
          go_wp2_with fail
          go_ret
          exact ⟨rfl, hB11'.trans (hB12.mono hs11)⟩
  · have ez : ¬ (((checkN l).2 : Nat) : Int) = 0 := by omega
    generalize (checkN l).2 = E at *
    go_wp2_with fail
    refine (awakeT_any _).mono ?_
    rintro e w3 ⟨rfl, hB3⟩
    have hB4 := ((HBW2.out).alloc (Nat.le_of_succ_le hsz2) (.cells #[.int .u32 v, .int .i64 st, .slice ldA ldn ldc] 29))
    have hB5 := hB4.trans (hB3.mono hB4.size)
    go_wp2_with fail
    go_ret
    exact ⟨rfl, hB5⟩

set_option maxRecDepth 100000 in
theorem topJoins_walk (w : World) (l : List I) (hok : ∀ i ∈ l, i.Ok) (A : Option Addr) (n c : Nat) (hr : Reads w w.heap.size 4 A n (cellsI l)) (_hc : n ≤ c) (_hm : c ≤ maxLen) (ov : Nat) (hov : ov < 256) (b : Arr64V) (hb : b.Ok) :
    Calls Try.prog 3 #[.slice A n c, .int .u8 ov, b.val] w fun e w' => e = .returned (.bool true) ∧ Below w.heap.size w w' := by
  by_cases hn : n ≤ 100
  · exact topJoins_few w l hok A n c hr hn ov hov b hb
  · have h1 : (100 : Int) < (n : Int) := by omega
    obtain ⟨bl⟩ := b
    unfold Arr64V.val
    generalize (bytesV (Arr64V.mk bl).l).toArray = bV
    go_enter Try.func3, Try.ntmps3
    go_wp2_with fail
    go_ret
    exact ⟨rfl, (Below.refl _ w).alloc (Nat.le_refl _) _⟩
end Go.Proofs.Ytgalkidhgjgbhaa
