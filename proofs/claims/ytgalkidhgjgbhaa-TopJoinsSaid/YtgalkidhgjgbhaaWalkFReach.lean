/-
  The walk of flow.Reach: a queue in a channel, in one goroutine.
-/
import Derived.Test.YtgalkidhgjgbhaaLoneAll
import Derived.Test.YtgalkidhgjgbhaaWalkLook
import Derived.Test.YtgalkidhgjgbhaaWalkFNext
import Derived.Test.YtgalkidhgjgbhaaWalkCheck
import Derived.Test.YtgalkidhgjgbhaaChkFacts
import Derived.Conc.LoneSelectN
import Derived.Test.YtgalkidhgjgbhaaPlainTop
import Derived.Test.YtgalkidhgjgbhaaReachHold
namespace Go.Proofs.Ytgalkidhgjgbhaa
open Go.RowKit Go.Conc
set_option linter.unusedVariables false

theorem info_intC : ∃ i, Try.prog.info? 3 = some i ∧ i.bytes = 8 := by
  have h : (Try.prog.info? 3).map (·.bytes) = some 8 := by kernel_rfl
  obtain ⟨i, hi, hb⟩ := Option.map_eq_some_iff.1 h
  exact ⟨i, hi, hb⟩
theorem mkTodo (n : Nat) (hn : n ≤ 4096) (w : World) : (Instr.makeChan 127 (.int .i64 n)).run Try.prog w = .ok (.chan (some w.heap.size)) (w.alloc (.chan n #[] false 0 0 false)) := by
  obtain ⟨i, hi, hb⟩ := info_intC
  simpa using run_makeChan (P := Try.prog) (w := w) Try.underlying127 hi .i64 n (by omega) (by rw [hb]; omega)

/-- What holds at the loop's head. -/
def RInv (l : List I) (A : Option Addr) (n c go gc g5 g6 : Nat) (w : World) (k : Nat) (a : Act) (wr : World) : Prop := ∃ (x : Nat → Value) (s : List Bool × List Nat), a = ⟨#[.slice A n c, x 1, x 2, x 3, x 4, .pointer (some ⟨g5, 0, none⟩), .pointer (some ⟨g6, 0, none⟩), .func (.func 62) #[] #[.pointer (some ⟨g5, 0, none⟩), .pointer (some ⟨g6, 0, none⟩)], x 8, x 9, x 10, x 11, x 12, x 13, x 14, x 15, x 16, x 17, x 18, x 19, x 20, x 21, x 22, x 23, x 24, x 25, x 26, x 27, x 28, x 29, x 30, x 31, x 32, x 33, x 34, x 35, x 36, x 37, x 38, x 39, x 40, x 41, x 42, x 43, x 44], []⟩ ∧ QIs go gc g5 g6 n w s wr ∧ Round l s ∧ s.2.length + falsesN s.1 ≤ n ∧ s.2.length + falsesN s.1 < k ∧ roundN l k s = reachN l

set_option maxRecDepth 100000 in
set_option maxHeartbeats 2000000 in
theorem reach_any (l : List I) (hok : ∀ i ∈ l, i.Ok) (hP : FormedP l) (hz : (checkN l).2 = 0) (A : Option Addr) (n c : Nat) (w : World) (hr : Reads w w.heap.size 4 A n (cellsI l)) (hn : n ≤ 4096) :
    Calls Try.prog 41 #[.slice A n c] w (TellsBools (reachN l) w) := by
  have hl : n = l.length := by have := hr.1; rw [cellsI_length] at this; omega
  obtain ⟨i0, hi0, hz0, hz1, hz2⟩ := info_parts info_bool
  have HL := Lib.hid hl
  clear hl
  have hmf : ∀ (fn : Fn) (first cap : Array Value) (w : World), (Instr.makeFunc fn first cap).run Try.prog w = .ok (.func fn first cap) w := fun _ _ _ _ => rfl
  refine calls_of_wpN Try.func41 rfl ?_
  have ht : ((#[.slice A n c] : Array Value) ++ Array.replicate (45 - (#[.slice A n c] : Array Value).size) undef) = #[.slice A n c, undef, undef, undef, undef, undef, undef, undef, undef, undef, undef, undef, undef, undef, undef, undef, undef, undef, undef, undef, undef, undef, undef, undef, undef, undef, undef, undef, undef, undef, undef, undef, undef, undef, undef, undef, undef, undef, undef, undef, undef, undef, undef, undef, undef] := by simp [Array.replicate, List.replicate]
  rw [Try.ntmps41, ht]
  clear ht
  refine wpN_seq (wpN_of_wp ?_)
  go_wp2_with fail
  refine wpN_seq (wpN_of_wp ?_)
  go_wp2_with fail
  refine (check_any l hok A n c w hr (by omega)).mono ?_
  rintro e w1 ⟨rfl, hB1⟩
  rw [hz]
  have hg0 := hB1.size
  have hmk := mkTodo n (by omega)
  have HB1 := Lib.hid hB1
  have HR := Lib.hid hr
  clear hB1 hr hz
  go_wp2_with fail
  refine wpN_seq (wpN_of_wp ?_)
  go_wp2_with (refine wpList_make_row _ rfl (.tmp 19) (.tmp 19) 87 rfl 4 i0 (.bool false) Try.underlying87 hi0 hz0 hz1 rfl .i64 .i64 n rfl rfl (by rw [hz2]; omega) (by omega) ?_)
  refine wpN_seq (wpN_of_wp ?_)
  go_wp2_with fail
  refine wpN_seq (wpN_of_wp ?_)
  go_wp2_with fail
  refine wpN_seq (wpN_of_wp ?_)
  go_wp2_with fail
  have hn0 : 0 < n := by have := hP.pos; have := HL.out; omega
  have hW : ∃ W2 : World, W2 = (((w1.alloc (.cells (madeCells #[.bool false] n) 4)).alloc (.cells #[.slice (some ⟨w1.heap.size, 0, none⟩) n n] 87)).alloc (.chan n #[] false 0 0 false)).alloc (.cells #[.chan (some (w1.heap.size + 1 + 1))] 127) := ⟨_, rfl⟩
  obtain ⟨W2, hW2⟩ := hW
  rw [← hW2]
  have r0 : RowK W2 w1.heap.size 4 n (boolsV (List.replicate n false)) := by
    have := RowK.new w1 4 (madeCells #[.bool false] n) (boolsV (List.replicate n false)) (by rw [boolsV_length, List.length_replicate, made_take]; simp [boolsV])
    rw [size_madeCells] at this
    rw [hW2]
    exact ((this.alloc _).alloc _).alloc _
  have r5 : RowK W2 (w1.heap.size + 1) 87 1 [.slice (some ⟨w1.heap.size, 0, none⟩) n n] := by
    have := RowK.new (w1.alloc (.cells (madeCells #[.bool false] n) 4)) 87 #[.slice (some ⟨w1.heap.size, 0, none⟩) n n] [.slice (some ⟨w1.heap.size, 0, none⟩) n n] rfl
    rw [show (w1.alloc (.cells (madeCells #[.bool false] n) 4)).heap.size = w1.heap.size + 1 by simp] at this
    rw [hW2]
    exact (this.alloc _).alloc _
  have hch : W2.heap[w1.heap.size + 1 + 1]? = some (.chan n #[] false 0 0 false) := by
    have := heap_alloc_new ((w1.alloc (.cells (madeCells #[.bool false] n) 4)).alloc (.cells #[.slice (some ⟨w1.heap.size, 0, none⟩) n n] 87)) (.chan n #[] false 0 0 false)
    rw [show ((w1.alloc (.cells (madeCells #[.bool false] n) 4)).alloc (.cells #[.slice (some ⟨w1.heap.size, 0, none⟩) n n] 87)).heap.size = w1.heap.size + 1 + 1 by simp] at this
    rw [hW2, Below.heap_alloc _ _ _ (by simp)]
    exact this
  have r6 : RowK W2 (w1.heap.size + 1 + 1 + 1) 127 1 [.chan (some (w1.heap.size + 1 + 1))] := by
    have := RowK.new (((w1.alloc (.cells (madeCells #[.bool false] n) 4)).alloc (.cells #[.slice (some ⟨w1.heap.size, 0, none⟩) n n] 87)).alloc (.chan n #[] false 0 0 false)) 127 #[.chan (some (w1.heap.size + 1 + 1))] [.chan (some (w1.heap.size + 1 + 1))] rfl
    rw [show (((w1.alloc (.cells (madeCells #[.bool false] n) 4)).alloc (.cells #[.slice (some ⟨w1.heap.size, 0, none⟩) n n] 87)).alloc (.chan n #[] false 0 0 false)).heap.size = w1.heap.size + 1 + 1 + 1 by simp] at this
    rw [hW2]
    exact this
  have hB2 : Below w.heap.size w W2 := by
    rw [hW2]
    exact ((((HB1.out).alloc hg0 _).alloc (by simp; omega) _).alloc (by simp; omega) _).alloc (by simp; omega) _
  clear hW2
  have q2 : QIs w1.heap.size (w1.heap.size + 1 + 1) (w1.heap.size + 1) (w1.heap.size + 1 + 1 + 1) n w (List.replicate n false, []) W2 := ⟨r0, ⟨0, 0, hch⟩, r5, r6, hB2⟩
  have hqa : QAt w1.heap.size (w1.heap.size + 1 + 1) (w1.heap.size + 1) (w1.heap.size + 1 + 1 + 1) w.heap.size := ⟨hg0, by omega, by omega, by omega, by omega, by omega, by omega⟩
  clear r0 hch r5 r6 hB2
  generalize w1.heap.size + 1 + 1 + 1 = g6 at *
  generalize w1.heap.size + 1 + 1 = gc at *
  generalize w1.heap.size + 1 = g5 at *
  generalize w1.heap.size = go at *
  refine (look_q q2 hqa (k := 0) hn0 (by simp) (by omega) (by have := falsesN_le (List.replicate n false); simp at this ⊢; omega)).mono ?_
  rintro e W3 ⟨rfl, q3, -⟩
  have Q3 := Lib.hid q3
  have QA := Lib.hid hqa
  clear q2 q3 hqa
  go_wp2_with fail
  refine wpN_block ?_
  refine wpN_loop (RInv l A n c go gc g5 g6 w) (n + 1) ?start ?round
  case start =>
    refine Exists.elim (slotsR _ _ _ _ _ _ _ _ _ _ _ _ _ _ _ _ _ _ _ _ _ _ _ _ _ _ _ _ _ _ _ _ _ _ _ _ _ _ _ _ _ _ _ _ _) (fun x hx => ⟨x, lookN (List.replicate n false, []) 0, hx, Q3.out, ?_, ?_, ?_, ?_⟩)
    · have := round_start hP
      rwa [← HL.out] at this
    · have := start_lt l hP.pos
      rw [← HL.out] at this
      omega
    · have := start_lt l hP.pos
      rw [← HL.out] at this
      omega
    · unfold reachN
      rw [HL.out]
  case round =>
    rintro k a wr ⟨x, ⟨o, qs⟩, rfl, hQ, hR, hle, hlt, hfin⟩
    have c6 := hQ.p6.cell (k := 0) rfl
    obtain ⟨sn, rn, hc⟩ := hQ.c
    have HQ := Lib.hid hQ
    have HRD := Lib.hid hR
    have HC := Lib.hid hc
    have HF := Lib.hid hfin
    clear hQ hR hc hfin
    refine wpN_block ?_
    refine wpN_seq (wpN_of_wp ?_)
    go_wp2_with fail
    cases qs with
    | nil =>
      have ho : reachN l = o := by rw [← HF.out]; cases k <;> rfl
      have hol : o.length = n := by rw [HL.out]; exact HRD.out.len
      refine wpN_seq (reg9_none _ _ _ _ _ _ _ _ _ _ _ _ _ _ _ _ _ _ _ _ _ _ _ _ _ _ _ undef _ _ _ _ _ _ _ _ _ _ _ _ _ _ _ _ _ gc n sn rn wr _ HC.out ?_)
      refine wpN_block (wpN_cond (t := false) rfl ?_)
      simp only [Bool.false_eq_true, if_false]
      refine wpN_of_wp ?_
      have c5 := (HQ.out).p5.cell (k := 0) rfl
      have HO := Lib.hid ho
      have HOL := Lib.hid hol
      clear ho hol hle hlt
      go_wp2_with fail
      go_ret
      rw [HO.out]
      refine ⟨some ⟨go, 0, none⟩, n, by rw [HOL.out]; rfl, ?_, (HQ.out).b, fun ad e => by cases e; exact (QA.out).hgo⟩
      have := (HQ.out).o.reads
      rwa [boolsV_length] at this
    | cons k0 q =>
      have hk0 : k0 < n := by rw [HL.out]; exact HRD.out.mem k0 (by simp)
      have hol : o.length = n := by rw [HL.out]; exact HRD.out.len
      have hq := (HQ.out).pop (QA.out) (sn := sn) (rn := rn + 1)
      refine wpN_seq (reg9_some _ _ _ _ _ _ _ _ _ _ _ _ _ _ _ _ _ _ _ _ _ _ _ _ _ _ _ undef _ _ _ _ _ _ _ _ _ _ _ _ _ _ _ _ _ gc n sn rn _ (by simp [natsV]) (.int .i64 k0) (by simp [natsV]) wr _ HC.out ?_)
      generalize (wr.setChan gc n ((natsV (k0 :: q)).toArray.extract 1 (natsV (k0 :: q)).toArray.size) false sn (rn + 1) false) = wr1 at *
      refine wpN_block (wpN_cond (t := true) rfl ?_)
      simp only [if_true]
      refine wpN_of_wp ?_
      have hrl := ((HR.out).below hq.b).more hq.b.size
      have hnx : ∀ t ∈ nextN l k0, t < n := fun t ht => by rw [HL.out]; exact (hP.next (by have := HL.out; omega) t ht).2
      have hnl : (nextN l k0).length ≤ 2 := by unfold nextN; (repeat' split) <;> simp
      have hC := next_any l hok A n c k0 wr1 hrl (by omega) hk0
      have hR1 := round_on hP HRD.out
      have hsum := foldL_sum (nextN l k0) (o, q) (fun t ht => by have := hnx t ht; simp only; omega)
      obtain ⟨k1, rfl⟩ : ∃ k1, k = k1 + 1 := ⟨k - 1, by omega⟩
      have hfin1 : roundN l k1 ((nextN l k0).foldl lookN (o, q)) = reachN l := HF.out
      have hle1 : q.length + falsesN o + 1 ≤ n := by simp only [List.length_cons] at hle; omega
      have hlt1 : q.length + falsesN o < k1 := by simp only [List.length_cons] at hlt; omega
      generalize hnxe : nextN l k0 = nx at *
      have HSUM := Lib.hid hsum
      have HR1 := Lib.hid hR1
      have HF1 := Lib.hid hfin1
      have HNX := Lib.hid hnx
      have HOL := Lib.hid hol
      have HQ1 := Lib.hid hq
      have HCC := Lib.hid hC
      clear hsum hR1 hfin1 hnx hol hq hC hnxe hrl HF HRD HC HQ hle hlt c6
      go_wp2_with fail
      refine (HCC.out).mono ?_
      rintro e w4 ⟨A4, c4, rfl, hr4, hB4, hf4⟩
      have hq4 := (HQ1.out).below hB4
      have hfar : ∀ ad, A4 = some ad → ad.block ≠ go ∧ ad.block ≠ gc := fun ad e => by
        have h1 := hf4 ad e
        have h2 := (HQ1.out).gc_lt
        have h3 := (HQ1.out).o.lt
        omega
      have HFAR := Lib.hid hfar
      have HQ4 := Lib.hid hq4
      have HR4 := Lib.hid hr4
      clear hB4 hf4 hq4 hr4 hfar HQ1 HCC
      go_wp2_with fail
      go_loopw [37] (fun i wr => ∃ m : Nat, m ≤ nx.length ∧ i = .int .i64 m ∧ QIs go gc g5 g6 n w ((nx.take m).foldl lookN (o, q)) wr ∧ Reads wr wr.heap.size 1 A4 nx.length (natsV nx)) (fun i _ => nx.length - (intOf i).toNat)
      case atStart => exact ⟨0, by omega, rfl, HQ4.out, HR4.out⟩
      case round =>
        obtain ⟨m, hm, rfl, hq5, hr5⟩ := hrel
        by_cases hml : m < nx.length
        · obtain ⟨b6, off6, rfl, hb6, cc6⟩ := cellNat hr5 hml
          have hto := HNX.out _ (getD_mem' hml)
          have hl5 : ((nx.take m).foldl lookN (o, q)).1.length = n := by rw [foldL_length]; exact HOL.out
          have hs5 := foldL_sum (nx.take m) (o, q) (fun t ht => by have := HNX.out t (List.mem_of_mem_take ht); have := HOL.out; simp only; omega)
          have hlook := look_q hq5 QA.out (k := nx.getD m 0) hto hl5 (by omega) (by rw [hs5]; simp only; omega)
          have hsn : lookN ((nx.take m).foldl lookN (o, q)) (nx.getD m 0) = (nx.take (m + 1)).foldl lookN (o, q) := by
            rw [take_snocM nx m hml, List.foldl_append]; rfl
          rw [hsn] at hlook
          have HLK := Lib.hid hlook
          have HR5 := Lib.hid hr5
          have hfar6 := HFAR.out _ rfl
          have HFAR6 := Lib.hid hfar6
          generalize nx.getD m 0 = to at *
          have z5 : (0 : Int) ≤ (m : Int) := by omega
          have z6 : (m : Int) < (nx.length : Int) := by omega
          clear hto hl5 hs5 hlook hsn hq5 hr5 hfar6 HQ4 HR4
          go_wp2_with fail
          refine (HLK.out).mono ?_
          rintro e w6 ⟨rfl, hq6, hbs⟩
          have hr6 := ((HR5.out).of_block (w' := w6) (fun ad e => by cases e; exact hbs.block _ (HFAR6.out).1 (HFAR6.out).2)).more (Nat.le_of_eq hbs.size.symm)
          clear hbs
          have HQ6 := Lib.hid hq6
          have HR6 := Lib.hid hr6
          clear hq6 hr6
          go_wp2_with fail
          go_roundw
          case rel => exact ⟨m + 1, by omega, by go_num, HQ6.out, HR6.out⟩
          case measure => simp [intOf]; omega
        · obtain rfl : m = nx.length := by omega
          rw [List.take_of_length_le (Nat.le_refl _)] at hq5
          have HQ5 := Lib.hid hq5
          clear hq5 hr5 HQ4 HR4
          go_wp2_with fail
          refine ⟨k1, Nat.lt_succ_self _, Exists.elim (slotsR _ _ _ _ _ _ _ _ _ _ _ _ _ _ _ _ _ _ _ _ _ _ _ _ _ _ _ _ _ _ _ _ _ _ _ _ _ _ _ _ _ _ _ _ _) (fun x hx => ⟨x, nx.foldl lookN (o, q), hx, HQ5.out, HR1.out, ?_, ?_, HF1.out⟩)⟩
          · rw [HSUM.out]; omega
          · rw [HSUM.out]; omega
end Go.Proofs.Ytgalkidhgjgbhaa
