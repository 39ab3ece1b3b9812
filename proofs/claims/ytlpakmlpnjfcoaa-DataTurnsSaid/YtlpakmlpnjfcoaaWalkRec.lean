/-
  The walks of data.Write and its closure.
-/
import Derived.Test.YtlpakmlpnjfcoaaRec05
import Derived.Laws.CopyOwn
import Derived.ChangeKeysEq
namespace Go.Proofs.Ytlpakmlpnjfcoaa
open Go.RowKit
set_option linter.unusedVariables false

/-- What the closure hands back: the block of 64 bytes written anew, and nothing else. -/
def TellsDput (l : List Nat) (g : Nat) (w : World) (e : Ending) (w' : World) : Prop := e = .returned (.tuple #[]) ∧ Blk w' g 71 (bytesV l).toArray ∧ w.grownBy w' (some g)

theorem below_undrew {B : Nat} {w w1 : World} (h : Below B w.drew w1) : Below B w w1 := ⟨h.os, h.tape, h.output, h.size, h.block⟩
theorem blk_reads {w : World} {g : Nat} {t : TypeId} {l : List Nat} {n : Nat} (h : Blk w g t (bytesV l).toArray) (hn : l.length = n) : Reads w w.heap.size 1 (some ⟨g, 0, none⟩) n (bytesV l) := by
  refine ⟨by rw [bytesV_length]; omega, fun _ => ⟨_, rfl, h.lt, fun j u hu => ?_⟩⟩
  have e : (⟨g, 0, none⟩ : Addr).add j = ⟨g, j, none⟩ := by unfold Addr.add; split <;> simp_all
  rw [e, h.cell]
  simpa using hu

set_option maxRecDepth 100000 in
set_option maxHeartbeats 2000000 in
theorem dput_any (l : List Nat) (hl : l.length = 64) (hok : ∀ b ∈ l, b < 256) (g bb : Nat) (big : Bool) (at_ width : Nat) (hwr : wrongN 64 at_ width = 0) (hin : at_ + width ≤ 64) (n : Nat) (hn : n < 18446744073709551616)
    (w : World) (hg : Blk w g 71 (bytesV l).toArray) (hb : w.cell? ⟨bb, 0, none⟩ = some (.bool big)) (hbl : bb < w.heap.size) (hne : bb ≠ g) :
    Calls Try.prog 55 #[.int .i64 at_, .int .i64 width, .int .u64 n, .pointer (some ⟨g, 0, none⟩), .pointer (some ⟨bb, 0, none⟩)] w (TellsDput (putL l at_ width big n width) g w) := by
  have hr := blk_reads hg hl
  have hput : putN l at_ width big n = putL l at_ width big n width := by unfold putN; rw [if_pos (by rw [hl]; exact hwr)]; rfl
  have HP := Lib.hid hput
  have HL := Lib.hid hl
  have HW := Lib.hid hwr
  clear hput hl hwr
  go_enter Try.func55, Try.ntmps55
  go_wp2_with fail
  go_region_held3 (fun w' => w'.cell? ⟨bb, 0, none⟩ = some (.bool big)) (first | go_keep | exact cell_of_below (p := ⟨bb, 0, none⟩) hB hbl hb)
    ((go_at_call 35; refine (put_any l hok _ 64 64 at_ width big n hn _ hr.drew (by omega)).mono ?_; rintro e w1 ⟨v, rfl, hown, hB⟩))
  rw [HP.out, putL_length, HL.out] at hown
  obtain ⟨A, c, rfl, hr2⟩ := own_reads hown
  obtain ⟨g2, cap, hv, hg2, hc2, hm2, hrow⟩ := row_of_own hown (by omega)
  injection hv with hA hn2 hcap
  subst hA
  subst hcap
  have hB1 : Below w.heap.size w w1 := below_undrew hB
  have hg1 : Blk w1 g 71 (bytesV l).toArray := hg.below hB1 hg.lt
  have hlen : (bytesV (putL l at_ width big n width)).length = 64 := by rw [bytesV_length, putL_length, HL.out]
  have hlen0 : (bytesV l).toArray.size = 64 := by simp [bytesV, HL.out]
  have hsrc : ∀ j v, (bytesV (putL l at_ width big n width))[j]? = some v → w1.cell? ((⟨g2, 0, none⟩ : Addr).add j) = some v := by
    obtain ⟨ad, e, _, h⟩ := hr2.2 (by omega)
    injection e with e
    subst e
    exact h
  have hdrop : (List.take 0 (bytesV l).toArray.toList ++ (bytesV (putL l at_ width big n width) ++ (bytesV l).toArray.toList.drop (0 + (bytesV (putL l at_ width big n width)).length))).toArray = (bytesV (putL l at_ width big n width)).toArray := by
    rw [hlen]
    simp [List.drop_eq_nil_of_le, bytesV_length, HL.out]
  have hone := bytesV_one (putL l at_ width big n width)
  generalize hZe : bytesV (putL l at_ width big n width) = Z at *
  have HE := Lib.hid hZe
  clear hZe
  have hgz : (w1.setRow g Z.toArray).heap[g]? = some (.cells Z.toArray 71 (0, 0)) := by
    have := setRow_heap w1 g _ Z.toArray _ _ hg1
    exact this
  have hoth : ∀ k, k ≠ g → (w1.setRow g Z.toArray).heap[k]? = w1.heap[k]? := fun k hk => setRow_other w1 g k _ hk
  have hsz : w1.heap.size ≤ (w1.setRow g Z.toArray).heap.size := by simp [World.setRow]
  have HZ := Lib.hid (And.intro hgz (And.intro hoth hsz))
  have HB := Lib.hid hB1
  have HD := Lib.hid hdrop
  have HL1 := Lib.hid hlen
  have HL0 := Lib.hid hlen0
  have HS := Lib.hid hsrc
  have HO := Lib.hid hone
  clear hgz hoth hsz hdrop hlen hlen0 hsrc hone hrow hown hb hn2
  go_wp2_with (refine wpList_copy_own rfl (.tmp 19) (.tmp 20) 31 31 rfl 5 Try.underlying31 (by kernel_rfl) g 0 64 64 ⟨g2, 0, none⟩ 64 _ rfl rfl _ _ hg1 Z HL1.out HS.out (by rw [HL0.out, HL1.out]; omega) HO.out ?_; rw [HD.out])
  go_end0
  obtain ⟨z1, z2, z3⟩ := HZ.out
  refine ⟨rfl, by unfold Blk; rw [HE.out]; exact z1, hB1.os, hB1.tape, hB1.output, Nat.le_trans hB1.size z3, fun k hk hkg => ?_⟩
  rw [z2 k (fun e => hkg (by rw [e]))]
  exact hB1.block k hk

theorem run_index_arr {P : Program} {T e : TypeId} {n : Nat} {i : TypeInfo} (hT : P.underlying T = some (.array n e)) (hi : P.info? e = some i) (hc : P.cellsOf e = 1) (hp : P.plainKey e = true) (cs : Array Value) (k : Nat) (hk : k < n) (v : Value) (hv : cs[k]? = some v) (w : World) :
    (Instr.index T (.agg cs) (.int .i64 (k : Int))).run P w = .ok v w := by
  unfold Instr.index
  simp [asIntOf, run_underlying hT, run_sizeOf w hi, hc, hk, Result.andThen, run_part_plain w hp hv]

/-- A record's bytes. -/
theorem six (l : List Nat) (hl : l.length = 6) : ∃ a b c d e f, l = [a, b, c, d, e, f] := by
  match l, hl with
  | [a, b, c, d, e, f], _ => exact ⟨a, b, c, d, e, f, rfl⟩

def TellsRec (l : List Nat) (w : World) (e : Ending) (w' : World) : Prop := e = .returned (.agg (bytesV l).toArray) ∧ Below w.heap.size w w'

/-- What stays while a record's bytes are put in. -/
structure DInv (w : World) (R : Array Value) (big : Bool) (Z : Array Value) (wr : World) : Prop where
  rec_ : Blk wr w.heap.size 65 R
  big_ : Blk wr (w.heap.size + 1) 4 #[.bool big]
  res_ : Blk wr (w.heap.size + 1 + 1) 71 Z
  below : Below w.heap.size w wr
theorem DInv.start (w : World) (R : Array Value) (big : Bool) (Z Z2 : Array Value) : DInv w R big Z ((((w.alloc (.cells R 65)).alloc (.cells #[.bool big] 4)).alloc (.cells Z 71)).alloc (.cells Z2 71)) := by
  have h1 := Blk.new w 65 R
  have h2 := Blk.new (w.alloc (.cells R 65)) 4 #[.bool big]
  have h3 := Blk.new ((w.alloc (.cells R 65)).alloc (.cells #[.bool big] 4)) 71 Z
  simp only [World.size_alloc] at h2 h3
  exact ⟨((h1.alloc _).alloc _).alloc _, (h2.alloc _).alloc _, h3.alloc _, ((((Below.refl _ w).alloc (Nat.le_refl _) _).alloc (by simp) _).alloc (by simp; omega) _).alloc (by simp; omega) _⟩
theorem DInv.new (w : World) (R : Array Value) (big : Bool) (Z Z2 : Array Value) : Blk ((((w.alloc (.cells R 65)).alloc (.cells #[.bool big] 4)).alloc (.cells Z 71)).alloc (.cells Z2 71)) (w.heap.size + 1 + 1 + 1) 71 Z2 := by
  have h := Blk.new (((w.alloc (.cells R 65)).alloc (.cells #[.bool big] 4)).alloc (.cells Z 71)) 71 Z2
  simp only [World.size_alloc] at h
  exact h
theorem DInv.grown {w wr w1 : World} {R Z : Array Value} {big : Bool} (h : DInv w R big Z wr) (hg : wr.grownBy w1 (some (w.heap.size + 1 + 1 + 1))) : DInv w R big Z w1 :=
  ⟨h.rec_.grown hg (by simp <;> omega), h.big_.grown hg (by simp <;> omega), h.res_.grown hg (by simp), h.below.trans ⟨hg.os, hg.tape, hg.output, hg.size, fun k hk => hg.block k (by have := h.below.size; omega) (fun e => by injection e; omega)⟩⟩

set_option maxRecDepth 100000 in
set_option maxHeartbeats 4000000 in
theorem dwrite_any (x : RecV) (hx : x.Ok) (big : Bool) (w : World) : Calls Try.prog 41 #[x.val, .bool big] w (TellsRec (recB x big) w) := by
  have hx6 := hx.args
  obtain ⟨o1, o2, o3, o4, o5⟩ := hx
  obtain ⟨a0, a1, a2, a3, a4, a5, ha⟩ := six x.args o4
  have hval : x.val = .agg #[.int .u32 x.number, .int .u32 x.arch, .int .u64 x.pointer, .int .u64 a0, .int .u64 a1, .int .u64 a2, .int .u64 a3, .int .u64 a4, .int .u64 a5] := by
    unfold RecV.val RecV.cells u64sV; rw [ha]; rfl
  rw [hval]
  have hp0 : recAt (partN x.number 4 big) = putL (recAt []) 0 4 big x.number 4 := (recAt_put [] x.number 4 big (by simp)).symm
  have hp1 : recAt (partN x.number 4 big ++ partN x.arch 4 big) = putL (recAt (partN x.number 4 big)) 4 4 big x.arch 4 := by
    have := recAt_put (partN x.number 4 big) x.arch 4 big (by rw [partN_length]; omega)
    rw [partN_length] at this
    exact this.symm
  have hp2 : recAt (recPre x big 0) = putL (recAt (partN x.number 4 big ++ partN x.arch 4 big)) 8 8 big x.pointer 8 := by
    have := recAt_put (partN x.number 4 big ++ partN x.arch 4 big) x.pointer 8 big (by rw [List.length_append, partN_length, partN_length]; omega)
    rw [List.length_append, partN_length, partN_length] at this
    rw [this]
    unfold recPre argsB
    simp
  have hpk : ∀ k, k < 6 → recAt (recPre x big (k + 1)) = putL (recAt (recPre x big k)) (16 + 8 * k) 8 big (x.args.getD k 0) 8 := fun k hk => by
    have := recAt_put (recPre x big k) (x.args.getD k 0) 8 big (by rw [recPre_length x hx6 big k (by omega)]; omega)
    rw [recPre_length x hx6 big k (by omega)] at this
    rw [this, recPre_succ x hx6 big k hk]
  have hix : ∀ k : Nat, k < 6 → ∀ W, (Instr.index 63 (.agg #[.int .u64 a0, .int .u64 a1, .int .u64 a2, .int .u64 a3, .int .u64 a4, .int .u64 a5]) (.int .i64 (k : Int))).run Try.prog W = .ok (.int .u64 (x.args.getD k 0 : Nat)) W := fun k hk W => by
    obtain ⟨i0, hi0⟩ : ∃ i0, Try.prog.info? 41 = some i0 := by exact ⟨_, rfl⟩
    refine run_index_arr Try.underlying63 hi0 (by kernel_rfl) (by kernel_rfl) _ k hk _ ?_ W
    rw [ha]
    match k, hk with
    | 0, _ => rfl
    | 1, _ => rfl
    | 2, _ => rfl
    | 3, _ => rfl
    | 4, _ => rfl
    | 5, _ => rfl
  have hlt : ∀ k, k < 6 → x.args.getD k 0 < 18446744073709551616 := fun k hk => by
    have : x.args.getD k 0 = x.args[k]'(by omega) := by simp [show k < x.args.length by omega]
    rw [this]; exact o5 _ (List.getElem_mem _)
  have Ha := Lib.hid ha
  have HX := Lib.hid hix
  have H5 := Lib.hid hlt
  have H0 := Lib.hid hp0
  have H1 := Lib.hid hp1
  have H2 := Lib.hid hp2
  have HK := Lib.hid hpk
  have H6 := Lib.hid hx6
  clear ha hval o5 hix hlt hp0 hp1 hp2 hpk hx6 o4
  go_enter Try.func41, Try.ntmps41
  go_wp2_with fail
  refine (dput_any (recAt []) (recAt_length [] (by simp)) (recAt_lt [] (by simp)) _ _ big 0 4 (by decide) (by omega) x.number (by omega) _ ?hg ?hb (by simp) (by omega)).mono ?_
  case hg => exact DInv.new w _ big _ _
  case hb => exact (DInv.start w _ big _ _).big_.cell 0
  rintro e w1 ⟨rfl, hb1, hg1⟩
  obtain ⟨Zr, hZr, hI1⟩ : ∃ Zr : Array Value, Zr.size = 64 ∧ DInv w _ big Zr w1 := ⟨_, by rfl, DInv.grown (DInv.start w _ big _ _) hg1⟩
  rw [← H0.out] at hb1
  have HZ := Lib.hid hZr
  clear hg1 hZr
  have c1 := hI1.rec_.cell 1
  go_wp2_with fail
  refine (dput_any (recAt (partN x.number 4 big)) (recAt_length _ (by rw [partN_length]; omega)) (recAt_lt _ (partN_lt _ _ _)) _ _ big 4 4 (by decide) (by omega) x.arch (by omega) _ hb1 (hI1.big_.cell 0) (hI1.big_.lt) (by omega)).mono ?_
  rintro e w2 ⟨rfl, hb2, hg2⟩
  have hI2 := hI1.grown hg2
  rw [← H1.out] at hb2
  clear hg2 c1 hb1 hI1
  have c2 := hI2.rec_.cell 2
  go_wp2_with fail
  refine (dput_any (recAt (partN x.number 4 big ++ partN x.arch 4 big)) (recAt_length _ (by rw [List.length_append, partN_length, partN_length]; omega)) (recAt_lt _ (fun b hb => by rcases List.mem_append.1 hb with h | h <;> exact partN_lt _ _ _ b h)) _ _ big 8 8 (by decide) (by omega) x.pointer (by omega) _ hb2 (hI2.big_.cell 0) (hI2.big_.lt) (by omega)).mono ?_
  rintro e w3 ⟨rfl, hb3, hg3⟩
  have hI3 := hI2.grown hg3
  rw [← H2.out] at hb3
  clear hg3 c2 hb2 hI2
  have c3 := hI3.rec_.cell 3
  have c4 := hI3.rec_.cell 4
  have c5 := hI3.rec_.cell 5
  have c6 := hI3.rec_.cell 6
  have c7 := hI3.rec_.cell 7
  have c8 := hI3.rec_.cell 8
  go_wp2_with fail
  clear c3 c4 c5 c6 c7 c8
  go_loopw [26] (fun i wr => ∃ k : Nat, k ≤ 6 ∧ i = .int .i64 k ∧ Blk wr (w.heap.size + 1 + 1 + 1) 71 (bytesV (recAt (recPre x big k))).toArray ∧ DInv w #[.int .u32 x.number, .int .u32 x.arch, .int .u64 x.pointer, .int .u64 a0, .int .u64 a1, .int .u64 a2, .int .u64 a3, .int .u64 a4, .int .u64 a5] big Zr wr) (fun i _ => 6 - (intOf i).toNat)
  case atStart => exact ⟨0, by omega, rfl, hb3, hI3⟩
  case round =>
    obtain ⟨k, hk, rfl, hb, hI⟩ := hrel
    by_cases hlt : k < 6
    · have hix := HX.out k hlt
      have hx64 := H5.out k hlt
      have hstep := HK.out k hlt
      have hlen := recAt_length (recPre x big k) (by rw [recPre_length x H6.out big k (by omega)]; omega)
      have hok := recAt_lt _ (recPre_lt x big k)
      generalize x.args.getD k 0 = n at *
      have HS := Lib.hid hstep
      have HL := Lib.hid hlen
      have HO := Lib.hid hok
      clear hstep hlen hok hb3 hI3
      go_wp2_with fail
      rw [show (16 + 8 * (k : Int)) = ((16 + 8 * k : Nat) : Int) from by omega]
      refine (dput_any (recAt (recPre x big k)) HL.out HO.out _ _ big (16 + 8 * k) 8 ?hw (by omega) n hx64 _ hb (hI.big_.cell 0) (hI.big_.lt) (by omega)).mono ?_
      case hw =>
        unfold wrongN
        rw [if_neg (by omega), if_neg (by omega)]
      rintro e w4 ⟨rfl, hb4, hg4⟩
      have hI4 := hI.grown hg4
      rw [← HS.out] at hb4
      clear hg4 hix hb hI
      go_wp2_with fail
      go_roundw
      case rel => exact ⟨k + 1, by omega, by go_num, hb4, hI4⟩
      case measure => simp [intOf] <;> omega
    · obtain rfl : k = 6 := by omega
      have hfull : recAt (recPre x big 6) = recB x big := recAt_full _ (recPre_length x H6.out big 6 (Nat.le_refl _))
      rw [hfull] at hb
      have hlen : (bytesV (recB x big)).toArray.size = 64 := by simp [bytesV_length, recB_length x H6.out big]
      have hone : (bytesV (recB x big)).toArray.all (·.oneCell') = true := all_oneCell_toArray (bytesV_one _)
      have HL := Lib.hid hlen
      have HO := Lib.hid hone
      have HI := Lib.hid hI
      clear hlen hone hfull hI hb3 hI3
      generalize hZe : (bytesV (recB x big)).toArray = Z at *
      have HE := Lib.hid hZe
      clear hZe
      go_wp2_with (first | refine wpList_load_row rfl 71 (.tmp 5) rfl (w.heap.size + 1 + 1 + 1) rfl 71 Z (0, 0) _ hb Try.underlying71 rfl (by rw [HL.out]; kernel_rfl) ?_ | refine wpList_store_row rfl 71 (.tmp 4) (.tmp 37) rfl (w.heap.size + 1 + 1) Z rfl rfl 71 Zr HI.out.res_ (by rw [HL.out]; kernel_rfl) (by rw [HZ.out, HL.out]) HO.out ?_)
      have hset := setRow_heap wr (w.heap.size + 1 + 1) _ Z _ _ HI.out.res_
      refine bodyPost_ret (v := .agg Z) (results_cell_row (p := 4) (ty := 71) rfl _ _ (w.heap.size + 1 + 1) 71 Z (0, 0) _ rfl hset Try.underlying71 rfl (by rw [HL.out]; kernel_rfl)) rfl ⟨by rw [HE.out], below_setRow HI.out.below (by omega) _⟩
end Go.Proofs.Ytlpakmlpnjfcoaa
