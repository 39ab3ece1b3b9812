/-
  The walk of inst.Read: the instructions of bytes.
-/
import Derived.Test.YtpinnockcnmofaaGreatDoorChunks4
import Derived.Test.YtpinnockcnmofaaGreatDoorInsts
namespace Go.Proofs.YtpinnockcnmofaaGreatDoor
open Go.RowKit Go.Shelf
set_option linter.unusedVariables false
attribute [local go_sem] Oper.semAt_some

theorem own_reads_cap {w : World} {base : Nat} {e : TypeId} {size : Nat} {v : Value} {n : Nat} {xs : List Value} (h : w.ownsRow base e size v n xs) : ∃ A c, v = .slice A n c ∧ n ≤ c ∧ c ≤ maxLen ∧ Reads w w.heap.size size A n xs := by
  obtain ⟨A, c, rfl, hr⟩ := own_reads h
  obtain ⟨hl, hc⟩ := h
  rcases hc with ⟨e1, e2⟩ | ⟨g, cap, cur, e1, h1, h2, h3, h4, _⟩
  · injection e1 with _ e3 e4
    exact ⟨A, c, rfl, by omega, by omega, hr⟩
  · injection e1 with e2 e3 e4
    subst e4
    exact ⟨A, c, rfl, h3, h4, hr⟩
theorem own_keptB {W W' : World} {B base : Nat} {e : TypeId} {size n : Nat} {v : Value} {xs : List Value} {row : Option Nat} (h : W.ownsRow base e size v n xs) (hg : W.grownBy W' row) (hr : ∀ r, row = some r → B ≤ r ∧ ∃ o : Obj, W.heap[r]? = some o ∧ o.isCells = false) : W'.ownsRow base e size v n xs := by
  refine h.kept hg ?_
  cases hb : v.ownBlock with
  | none => exact .inl rfl
  | some g =>
    right
    intro e1
    obtain ⟨_, o, ho, hc⟩ := hr g e1.symm
    rcases h.2 with ⟨rfl, _⟩ | ⟨g', cap, cur, rfl, _, hh, _⟩
    · cases hb
    · have : g' = g := by simpa [Value.ownBlock] using hb
      subst this
      rw [hh] at ho
      injection ho with ho
      subst ho
      cases hc
theorem own_below {W W' : World} {base : Nat} {e : TypeId} {size n : Nat} {v : Value} {xs : List Value} (h : W.ownsRow base e size v n xs) (hB : Below W.heap.size W W') : W'.ownsRow base e size v n xs := by
  refine h.kept (row := none) ⟨hB.os, hB.tape, hB.output, hB.size, fun k hk _ => hB.block k hk⟩ ?_
  cases v.ownBlock with
  | none => exact .inl rfl
  | some g => exact .inr (fun e => by cases e)
theorem own_base {w : World} {B B' : Nat} {e : TypeId} {size n : Nat} {xs : List Value} {v : Value} (hb : B' ≤ B) (h : w.ownsRow B e size v n xs) : w.ownsRow B' e size v n xs := by
  refine ⟨h.1, ?_⟩
  rcases h.2 with h0 | ⟨g, cap, cur, h1, h2, h3⟩
  · exact .inl h0
  · exact .inr ⟨g, cap, cur, h1, Nat.le_trans hb h2, h3⟩
theorem own_setCell {W : World} {B : Nat} {e : TypeId} {size n : Nat} {xs : List Value} {v : Value} (h : W.ownsRow B e size v n xs) {p : Addr} (hp : v.ownBlock ≠ some p.block) (u : Value) : (W.setCell p u).ownsRow B e size v n xs := by
  refine ⟨h.1, ?_⟩
  rcases h.2 with h0 | ⟨g, cap, cur, h1, h2, h3, h4⟩
  · exact .inl h0
  · subst h1
    exact .inr ⟨g, cap, cur, rfl, h2, (Below.heap_setCell _ _ _ _ (fun e => hp (by simp [Value.ownBlock, e]))).trans h3, h4⟩
theorem keepsOthers_below {W W' : World} (h : Below W.heap.size W W') : KeepsOthers W W' := ⟨h.size, fun k o hk _ => (h.block k (Array.getElem?_eq_some_iff.1 hk).1).trans hk⟩
def readL (b : List Nat) : List I := if readE b.length = 0 then readN b else []
def TellsRead (b : List Nat) (w : World) (e : Ending) (w' : World) : Prop :=
  ∃ v, e = .returned (.tuple #[v, .int .i64 (readE b.length : Nat)]) ∧ w'.ownsRow w.heap.size 47 4 v (readL b).length (cellsI (readL b)) ∧ Below w.heap.size w w'

theorem reads_part {l : List Nat} (hok : ∀ b ∈ l, b < 256) {W : World} {B b off x : Nat} (hx : 8 * x + 8 ≤ l.length) (hb : b < B) (hc : ∀ j, j < 8 → W.cell? ⟨b, off + (8 * x + j), none⟩ = some (.int .u8 ((l.getD (8 * x + j) 0 : Nat) : Int))) :
    Reads W B 1 (some ⟨b, off + 8 * x, none⟩) 8 (bytesV ((l.drop (8 * x)).take 8)) := by
  refine ⟨by rw [bytesV_length]; simp; omega, fun _ => ⟨_, rfl, hb, fun j u hu => ?_⟩⟩
  have hj : j < 8 := by
    have := (List.getElem?_eq_some_iff.1 hu).1
    rw [bytesV_length] at this; simp at this; omega
  rw [Addr.add_mid, show off + 8 * x + j = off + (8 * x + j) by omega, hc j hj, ← hu]
  unfold bytesV
  rw [List.getElem?_map, List.getElem?_take, if_pos hj, List.getElem?_drop]
  simp [show 8 * x + j < l.length by omega]
theorem part_getD (l : List Nat) (i j : Nat) (hj : j < 8) : ((l.drop i).take 8).getD j 0 = l.getD (i + j) 0 := by
  rw [List.getD_eq_getElem?_getD, List.getElem?_take, if_pos hj, List.getElem?_drop, ← List.getD_eq_getElem?_getD]
theorem getN_code (l : List Nat) (i : Nat) (h : i + 8 ≤ l.length) : getN ((l.drop i).take 8) 0 2 false = l.getD i 0 + 256 * l.getD (i + 1) 0 := by
  have hl : ((l.drop i).take 8).length = 8 := by simp; omega
  unfold getN
  rw [hl, if_pos (by decide)]
  simp only [wordN, placeN, Int.reduceToNat, List.range_succ, List.range_zero, List.nil_append, List.cons_append, List.map_cons, List.map_nil, Bool.false_eq_true, if_false, valBE, List.foldl_cons, List.foldl_nil]
  rw [part_getD _ _ _ (by omega), part_getD _ _ _ (by omega)]
  simp only [Nat.reduceSub, Nat.zero_add, Nat.add_zero, Nat.sub_self, Nat.sub_zero, Nat.mul_zero]
  omega
theorem getN_k (l : List Nat) (i : Nat) (h : i + 8 ≤ l.length) : getN ((l.drop i).take 8) 4 4 false = l.getD (i + 4) 0 + 256 * (l.getD (i + 5) 0 + 256 * (l.getD (i + 6) 0 + 256 * l.getD (i + 7) 0)) := by
  have hl : ((l.drop i).take 8).length = 8 := by simp; omega
  unfold getN
  rw [hl, if_pos (by decide)]
  simp only [wordN, placeN, Int.reduceToNat, List.range_succ, List.range_zero, List.nil_append, List.cons_append, List.map_cons, List.map_nil, Bool.false_eq_true, if_false, valBE, List.foldl_cons, List.foldl_nil]
  rw [part_getD _ _ _ (by omega), part_getD _ _ _ (by omega), part_getD _ _ _ (by omega), part_getD _ _ _ (by omega)]
  simp only [Nat.reduceSub, Nat.zero_add, Nat.add_zero, Nat.sub_self, Nat.sub_zero, Nat.mul_zero, Nat.reduceAdd]
  omega

def readK (v : Value) (p p2 p3 : Addr) (y1 y2 y3 y4 : Nat) : Tmp → Kd := kdOf [(32, .eq v), (33, .eq (.int .u64 y1)), (34, .eq (.int .u16 y1)), (35, .eq (.slice (some p) 8 8)), (36, .eq (.pointer (some p2))), (37, .eq (.int .u8 y2)), (38, .eq (.slice (some p) 8 8)), (39, .eq (.pointer (some p3))), (40, .eq (.int .u8 y3)),
  (41, .eq (.int .u64 y4)), (42, .eq (.int .u32 y4)), (43, .eq (.agg #[.int .u16 y1, .int .u8 y2, .int .u8 y3, .int .u32 y4])), (44, .row 4 1 [.int .u16 y1, .int .u8 y2, .int .u8 y3, .int .u32 y4])]
def RoundEnd (lo hi : Nat) (w W : World) (l : List Nat) {m : Nat} (pre : List { x : Nat // x < m ∨ m = 0 }) (W' : World) : Prop :=
  KeepsFrom hi W W' ∧ KeepsAt lo hi W W' ∧ (∃ v, W'.cell? ⟨w.heap.size, 0, none⟩ = some v ∧ w.heap.size + 3 ≤ W'.heap.size ∧ W'.frozen? ⟨w.heap.size, 0, none⟩ = false ∧ W'.ownsRow (w.heap.size + 3) 47 4 v pre.length (cellsI (pre.map fun x => instAt l (8 * x.1)))) ∧ Below w.heap.size w W'
set_option maxRecDepth 100000 in
theorem iread_no (l : List Nat) (A : Option Addr) (n c : Nat) (w : World) (hl : n = l.length) (hn : n ≤ 1000000) (he : readE n ≠ 0) :
    Calls Tryz.prog 5 #[.slice A n c] w (TellsRead l w) := by
  have hg : readL l = [] := by unfold readL; rw [if_neg (by rw [← hl]; exact he)]
  have HL := Lib.hid hl
  have HG := Lib.hid hg
  clear hl hg
  by_cases h1 : 32768 < n
  · have h2 : readE n = 3 := by unfold readE; rw [if_pos h1]
    have h1' : (32768 : Int) < (n : Int) := by omega
    have HX := Lib.hid h2
    clear h2 he
    go_enter Tryz.func5, Tryz.ntmps5
    go_wp2_with fail
    go_ret2
    refine ⟨.slice none 0 0, ?_, ?_, Below.refl _ _⟩
    · rw [← HL.out, HX.out]; rfl
    · rw [HG.out]; exact World.ownsRow_nil _ _ _ _
  · have h3 : n % 8 ≠ 0 := by unfold readE at he; rw [if_neg h1] at he; split at he <;> omega
    have h2 : readE n = 2 := by unfold readE; rw [if_neg h1, if_pos h3]
    have h1' : ¬ (32768 : Int) < (n : Int) := by omega
    have h4 : ((n : Int) % 8 != 0) = true := by simp; omega
    have HX := Lib.hid h2
    clear h2 he h3
    go_enter Tryz.func5, Tryz.ntmps5
    go_wp2_with fail
    go_ret2
    refine ⟨.slice none 0 0, ?_, ?_, Below.refl _ _⟩
    · rw [← HL.out, HX.out]; rfl
    · rw [HG.out]; exact World.ownsRow_nil _ _ _ _

set_option maxRecDepth 100000 in
set_option maxHeartbeats 2000000 in
theorem iread_yes (l : List Nat) (hok : ∀ b ∈ l, b < 256) (A : Option Addr) (m c : Nat) (w : World) (hr : Reads w w.heap.size 1 A (8 * m) (bytesV l)) (hm : m ≤ 4096) (hc : 8 * m ≤ c) (hcm : c ≤ maxLen) :
    Calls Tryz.prog 5 #[.slice A (8 * m) c] w (TellsRead l w) := by
  obtain ⟨i0, hi0, hz0, hz1, hz2⟩ := info_parts info_inst
  have hl : 8 * m = l.length := by have := hr.1; rw [bytesV_length] at this; omega
  have he : readE l.length = 0 := by unfold readE; rw [if_neg (by omega), if_neg (by omega)]
  have hg : readL l = readUp l m := by unfold readL readN; rw [if_pos he, show l.length / 8 = m by omega]
  have HL := Lib.hid hl
  have HG := Lib.hid hg
  have HE := Lib.hid he
  have h1' : ¬ (32768 : Int) < ((8 * m : Nat) : Int) := by omega
  have h2' : (((8 * m : Nat) : Int) % 8 != 0) = false := by simp
  clear hl hg he
  refine (callsIn_wide (n := 5)).1 ?_
  refine callsIn_of_wp_marks Tryz.func5 rfl trivial ?_ rfl
  simp only [Tryz.ntmps5, List.size_toArray, List.length_cons, List.length_nil, Nat.reduceAdd, Nat.reduceSub, Array.replicate_succ, Array.replicate_zero, List.push_toArray, List.append_toArray, List.nil_append, List.cons_append]
  gi_wp2_with fail
  refine ⟨trivial, ?_⟩
  refine (chunk_in Fence.wide _ trivial rfl _ _ _ _).mono ?_
  rintro e w2 ⟨rfl, rfl⟩
  gi_wp2_with fail
  have bO := Boxed.new w 24 (.slice none 0 0)
  have bS := Boxed.new (w.alloc (.cells #[.slice none 0 0] 24)) 29 (.slice A (8 * m) c)
  have bN := Boxed.new ((w.alloc (.cells #[.slice none 0 0] 24)).alloc (.cells #[.slice A (8 * m) c] 29)) 3 (.int .i64 8)
  simp only [World.size_alloc] at bS bN
  have bO2 := (bO.alloc (.cells #[.slice A (8 * m) c] 29)).alloc (.cells #[.int .i64 8] 3)
  have bS1 := bS.alloc (.cells #[.int .i64 8] 3)
  have hB0 : Below w.heap.size w (((w.alloc (.cells #[.slice none 0 0] 24)).alloc (.cells #[.slice A (8 * m) c] 29)).alloc (.cells #[.int .i64 8] 3)) :=
    (((Below.refl _ w).alloc (Nat.le_refl _) _).alloc (by simp) _).alloc (by simp <;> omega) _
  have hsz : (((w.alloc (.cells #[.slice none 0 0] 24)).alloc (.cells #[.slice A (8 * m) c] 29)).alloc (.cells #[.int .i64 8] 3)).heap.size = w.heap.size + 3 := by simp
  have hrow0 : (((w.alloc (.cells #[.slice none 0 0] 24)).alloc (.cells #[.slice A (8 * m) c] 29)).alloc (.cells #[.int .i64 8] 3)).ownsRow (w.heap.size + 3) 47 4 (.slice none 0 0) 0 [] := World.ownsRow_nil _ _ _ _
  generalize (((w.alloc (.cells #[.slice none 0 0] 24)).alloc (.cells #[.slice A (8 * m) c] 29)).alloc (.cells #[.int .i64 8] 3)) = W0 at *
  obtain ⟨b, off, hA, hcells⟩ : ∃ b off, (0 < m → A = some ⟨b, off, none⟩ ∧ b < w.heap.size) ∧ (∀ j, j < 8 * m → w.cell? ⟨b, off + j, none⟩ = some (.int .u8 ((l.getD j 0 : Nat) : Int))) := by
    by_cases h0 : 0 < m
    · obtain ⟨b, off, e, hb, hc'⟩ := hr.at1 (k := 0) (by omega)
      exact ⟨b, off, fun _ => ⟨e, hb⟩, hc'⟩
    · exact ⟨0, 0, fun h => absurd h h0, fun j hj => by omega⟩
  obtain ⟨pl, hpl⟩ : ∃ pl : Nat → { x : Nat // x < m ∨ m = 0 }, ∀ k, k < m → (pl k).1 = k := by
    refine ⟨fun k => if h : k < m then ⟨k, .inl h⟩ else ⟨0, by omega⟩, fun k hk => ?_⟩
    simp [hk]
  refine wpIn_rangeFunc_ownG rfl (by omega) (gf := 25) (lb := #[.pointer (some ⟨w.heap.size + 1, 0, none⟩), .pointer (some ⟨w.heap.size + 1 + 1, 0, none⟩)]) rfl trivial (enters_of Tryz.func25 (by kernel_rfl) rfl)
    (chunk_stops (fun x : { x : Nat // x < m ∨ m = 0 } => x.1) pl Fence.wide _ trivial rfl (by omega) (w.heap.size + 1) m A b off c (fun h => (hA h).1) (by omega) hc hcm hpl (w.heap.size + 1) W0 (by omega) (by omega) bS1.cell bN.cell)
    (fun h k => KeepsAt.trans h k) (fun W l o o' hle _ _ _ => KeepsAt.putObj W l o' hle) (Below.refl _ _) (fun _ => rfl)
    (fun pre W => (∃ v, W.cell? ⟨w.heap.size, 0, none⟩ = some v ∧ w.heap.size + 3 ≤ W.heap.size ∧ W.frozen? ⟨w.heap.size, 0, none⟩ = false ∧ W.ownsRow (w.heap.size + 3) 47 4 v pre.length (cellsI (pre.map fun x => instAt l (8 * x.1)))) ∧ Below w.heap.size w W)
    (fun _ _ _ => False)
    (OwnFrom.and (fun s X Y row hs hg hr => ⟨hs.choose, cell_kept hs.choose_spec.1 hg (fun r e => (hr r e).2), Nat.le_trans hs.choose_spec.2.1 hg.size, (frozen_kept hs.choose_spec.1 hg (fun r e => (hr r e).2)).trans hs.choose_spec.2.2.1, own_keptB hs.choose_spec.2.2.2 hg hr⟩) (ownFrom_below (Nat.le_refl _) (by omega)))
    (fun _ _ _ _ _ hs _ _ => hs)
    ⟨⟨_, bO2.cell, Nat.le_of_eq hsz.symm, bO2.frozen, hrow0⟩, hB0⟩
    (fun x => { tmps := #[.slice A (8 * m) c, undef, .slice none 0 0, .int .i64 0, .pointer (some ⟨w.heap.size, 0, none⟩), .slice (some ⟨b, off + 8 * x.1, none⟩) 8 8, undef, undef, undef, undef, .bool (decide ((32768 : Int) < 8 * (m : Int))), .slice A (8 * m) c, .int .i64 (8 * (m : Int)), .bool (decide ((32768 : Int) < 8 * (m : Int))), .bool false, .slice A (8 * m) c, .int .i64 (8 * (m : Int)), .int .i64 0, .bool false, .slice A (8 * m) c,
      .func (.func 25) #[] #[.pointer (some ⟨w.heap.size + 1, 0, none⟩), .pointer (some ⟨w.heap.size + 1 + 1, 0, none⟩)], .slice (some ⟨b, off + 8 * x.1, none⟩) 8 8, undef, undef, undef, undef, undef, undef, undef, undef, undef, undef, undef, undef, undef, undef, undef, undef, undef, undef, undef, undef, undef, undef, undef, undef, undef], defers := [] }) ?assign ?body ?done ?stop
  case assign =>
    intro l x W K hK
    gi_wp2
    exact hK
  case body =>
    rintro l' pre x W ⟨⟨v, hcv, hWs, hfv, hown⟩, hB⟩ hlen
    have hxm : x.1 < m := by have := x.2; omega
    have hbw := (hA (by omega)).2
    have hpart := reads_part hok (B := w.heap.size) (W := W) (x := x.1) (by have := HL.out; omega) hbw (fun j hj => (hB.cell (p := ⟨b, off + (8 * x.1 + j), none⟩) hbw).trans (hcells (8 * x.1 + j) (by omega)))
    have hpok : ∀ y ∈ (l.drop (8 * x.1)).take 8, y < 256 := fun y hy => hok y (List.mem_of_mem_drop (List.mem_of_mem_take hy))
    have hg2 := getN_code l (8 * x.1) (by have := HL.out; omega)
    have hg4 := getN_k l (8 * x.1) (by have := HL.out; omega)
    have hin : instAt l (8 * x.1) = ⟨l.getD (8 * x.1) 0 + 256 * l.getD (8 * x.1 + 1) 0, l.getD (8 * x.1 + 2) 0, l.getD (8 * x.1 + 3) 0, l.getD (8 * x.1 + 4) 0 + 256 * (l.getD (8 * x.1 + 5) 0 + 256 * (l.getD (8 * x.1 + 6) 0 + 256 * l.getD (8 * x.1 + 7) 0))⟩ := rfl
    have HIN := Lib.hid hin
    have HG2 := Lib.hid hg2
    have HG4 := Lib.hid hg4
    have hW0 : W0.heap.size ≤ w.heap.size + 3 := Nat.le_of_eq hsz
    clear hin hg2 hg4 hpl bS1 bN bO bS bO2 hrow0 hsz
    gi_wp2_with fail
    refine ⟨trivial, ?_⟩
    refine (CallsIn.inRound l' (callsIn_wide.2 (get_any _ hpok _ 8 8 0 2 false W (hpart.more hB.size) (by omega)))).mono ?_
    rintro e W1 ⟨rfl, hB1⟩
    have hB1w : Below w.heap.size w W1 := hB.trans (hB1.mono hB.size)
    have hsz1 := hB1.size
    have hlt : w.heap.size < W.heap.size := block_lt_of_cell hcv
    gi_wp2_with fail
    refine ⟨trivial, ?_⟩
    refine (CallsIn.inRound l' (callsIn_wide.2 (get_any _ hpok _ 8 8 4 4 false W1 (((hpart.more hB.size).below hB1).more hsz1) (by omega)))).mono ?_
    rintro e W2 ⟨rfl, hB2⟩
    have hB2w : Below w.heap.size w W2 := hB1w.trans (hB2.mono hB1w.size)
    have hB12 : Below W.heap.size W W2 := hB1.trans (hB2.mono hsz1)
    rw [HG2.out, HG4.out]
    have hcv2 : W2.cell? ⟨w.heap.size, 0, none⟩ = some v := cell_of_below (p := ⟨w.heap.size, 0, none⟩) hB12 hlt hcv
    have hfv2 : W2.frozen? ⟨w.heap.size, 0, none⟩ = false := (World.frozen?_of_block (hB12.block _ hlt)).trans hfv
    have hown2 := own_below hown hB12
    have c2 : W2.cell? ⟨b, off + 8 * x.1 + 2, none⟩ = some (.int .u8 ((l.getD (8 * x.1 + 2) 0 : Nat) : Int)) := by
      rw [show off + 8 * x.1 + 2 = off + (8 * x.1 + 2) by omega]; exact (hB2w.cell (p := ⟨b, off + (8 * x.1 + 2), none⟩) hbw).trans (hcells _ (by omega))
    have c3 : W2.cell? ⟨b, off + 8 * x.1 + 3, none⟩ = some (.int .u8 ((l.getD (8 * x.1 + 3) 0 : Nat) : Int)) := by
      rw [show off + 8 * x.1 + 3 = off + (8 * x.1 + 3) by omega]; exact (hB2w.cell (p := ⟨b, off + (8 * x.1 + 3), none⟩) hbw).trans (hcells _ (by omega))
    have hstep : cellsI ((pre ++ [x]).map fun x => instAt l (8 * x.1)) = cellsI (pre.map fun x => instAt l (8 * x.1)) ++ I.vals (instAt l (8 * x.1)) := by
      rw [List.map_append, cellsI_append]; simp [cellsI]
    have hok8 := instAt_ok hok (8 * x.1)
    rw [HIN.out] at hstep hok8
    obtain ⟨o1, o2, o3, o4⟩ := hok8
    simp only at o1 o2 o3 o4
    simp only [I.vals] at hstep
    generalize l.getD (8 * x.1) 0 + 256 * l.getD (8 * x.1 + 1) 0 = y1 at *
    generalize l.getD (8 * x.1 + 4) 0 + 256 * (l.getD (8 * x.1 + 5) 0 + 256 * (l.getD (8 * x.1 + 6) 0 + 256 * l.getD (8 * x.1 + 7) 0)) = y4 at *
    generalize l.getD (8 * x.1 + 2) 0 = y2 at *
    generalize l.getD (8 * x.1 + 3) 0 = y3 at *
    have HS := Lib.hid hstep
    have hw1 : IntKind.u16.wrap (y1 : Int) = (y1 : Int) := by simp [IntKind.wrap, IntKind.bits, IntKind.signed]; omega
    have hw4 : IntKind.u32.wrap (y4 : Int) = (y4 : Int) := by simp [IntKind.wrap, IntKind.bits, IntKind.signed]; omega
    clear hstep hpart hcells HG2 HG4 HIN hown hfv
    gi_wp2_with fail
    refine wpIn_mono (Q := fun e _ w' => e = .normal ∧ RoundEnd (w.heap.size + 1) W0.heap.size w W l (pre ++ [x]) w') ?_ ?_
    · refine Any.wpIn_round_tail 13 follows (readK v ⟨b, off + 8 * x.1, none⟩ ⟨b, off + 8 * x.1 + 2, none⟩ ⟨b, off + 8 * x.1 + 3, none⟩ y1 y2 y3 y4) [32, 33, 34, 35, 36, 37, 38, 39, 40, 41, 42, 43, 44, 45] [32, 33, 34, 35, 36, 37, 38, 39, 40, 41, 42, 43, 44] (by kernel_rfl) (by kernel_rfl) (by kernel_rfl) (by kernel_rfl) (by kernel_rfl) (by simp) (by kernel_rfl) (fun ⟨_, _, h⟩ => by cases h.1)
        ⟨?_, ?_, ?_, ?_, ?_, ?_, ?_, ?_, ?_, ?_, ?_, ?_, ?_, trivial⟩ ?_
      · exact Any.st_j (Any.st_load_was 32 4 _ _ v (.plain rfl) rfl rfl (by decide) rfl hcv2 (fun w h => by simp [go_sem, h]) rfl)
      · exact Any.st_j (Any.st_was 33 6 (.plain rfl) (.inl rfl) rfl (by decide) rfl)
      · exact Any.st_j (Any.st_conv 34 33 _ _ (.int .u64 y1) (.int .u16 y1) (.plain rfl) rfl rfl (by decide) (fun w => by simp [go_sem, hw1]) rfl rfl)
      · exact Any.st_j (Any.st_was 35 5 (.plain rfl) (.inl rfl) rfl (by decide) rfl)
      · exact Any.st_j (Any.st_one 36 35 (.slice (some ⟨b, off + 8 * x.1, none⟩) 8 8) (.pointer (some ⟨b, off + 8 * x.1 + 2, none⟩)) (.plain rfl) rfl (by decide) rfl (fun a w h => by unfold execOp; simp only [h]; simp [go_sem]) rfl)
      · exact Any.st_j (Any.st_load_at 37 36 _ _ _ (.plain rfl) rfl rfl (by decide) rfl c2 (fun w h => by simp [go_sem, h]) rfl)
      · exact Any.st_j (Any.st_was 38 5 (.plain rfl) (.inl rfl) rfl (by decide) rfl)
      · exact Any.st_j (Any.st_one 39 38 (.slice (some ⟨b, off + 8 * x.1, none⟩) 8 8) (.pointer (some ⟨b, off + 8 * x.1 + 3, none⟩)) (.plain rfl) rfl (by decide) rfl (fun a w h => by unfold execOp; simp only [h]; simp [go_sem]) rfl)
      · exact Any.st_j (Any.st_load_at 40 39 _ _ _ (.plain rfl) rfl rfl (by decide) rfl c3 (fun w h => by simp [go_sem, h]) rfl)
      · exact Any.st_j (Any.st_was 41 8 (.plain rfl) (.inl rfl) rfl (by decide) rfl)
      · exact Any.st_j (Any.st_conv 42 41 _ _ (.int .u64 y4) (.int .u32 y4) (.plain rfl) rfl rfl (by decide) (fun w => by simp [go_sem, hw4]) rfl rfl)
      · exact Any.st_j (Any.st_built 43 _ _ #[(0, .int .u16 y1), (1, .int .u8 y2), (2, .int .u8 y3), (3, .int .u32 y4)] #[.int .u16 y1, .int .u8 y2, .int .u8 y3, .int .u32 y4] (.plain rfl) rfl rfl
          (fun a w h => by simp [h.eqv 34 (by decide) rfl, h.eqv 37 (by decide) rfl, h.eqv 40 (by decide) rfl, h.eqv 42 (by decide) rfl]) (fun w => by kernel_rfl) rfl)
      · exact Any.st_j (Any.st_builtSlice 44 _ 47 1 4 _ #[(0, .agg #[.int .u16 y1, .int .u8 y2, .int .u8 y3, .int .u32 y4])] [.int .u16 y1, .int .u8 y2, .int .u8 y3, .int .u32 y4] (.plain rfl) rfl rfl
          (fun a w h => by simp [h.eqv 43 (by decide) rfl]) (fun w => by kernel_rfl) rfl rfl)
      intro f w3 hg hf
      have h4 : f 32 = v := hf 32 rfl
      obtain ⟨A4, cc4, h44, hr4⟩ : IsRow 4 1 [.int .u16 y1, .int .u8 y2, .int .u8 y3, .int .u32 y4] (f 44) w3 := hf 44 rfl
      simp only [Any.fill, List.foldl_cons, List.foldl_nil, List.setIfInBounds_toArray, List.set_cons_succ, List.set_cons_zero, h4, h44, List.drop_succ_cons, List.drop_zero]
      clear hf h4 h44
      generalize f 33 = f33, f 34 = f34, f 35 = f35, f 36 = f36, f 37 = f37, f 38 = f38, f 39 = f39, f 40 = f40, f 41 = f41, f 42 = f42, f 43 = f43, f 45 = f45 at *
      have hB3 : Below W.heap.size W w3 := (hB12.drew).trans (hg.mono hB12.size)
      have hcv3 : w3.cell? ⟨w.heap.size, 0, none⟩ = some v := cell_of_below (p := ⟨w.heap.size, 0, none⟩) hB3 hlt (by assumption)
      have hfv3 : w3.frozen? ⟨w.heap.size, 0, none⟩ = false := (World.frozen?_of_block (hg.block w.heap.size (by have := hB12.size; show w.heap.size < W2.heap.size; omega))).trans hfv2
      have hown3 := own_grows hg (hown2.drew)
      have hsz3 := hB3.size
      have hvb : v.ownBlock ≠ some w.heap.size := fun e => by have := (hown3.lt _ e).1; omega
      refine wpList_append_any w3 rfl (.tmp 32) (.tmp 44) 24 rfl (w.heap.size + 3) 47 i0 _ 4 8 Tryz.underlying24 hi0 hz0 hz1 hz2 rfl (by omega) v pre.length _ (by rfl) hown3 w3.heap.size A4 1 cc4 _ (by rfl) hr4 (by simp [Value.oneCell']) (by simp only [maxLen]; omega) (by omega) (by omega) ?_
      intro v4 w4 own4 hg4 hat4
      have hlt4 : w.heap.size < w3.heap.size := by omega
      have hcv4 : w4.cell? ⟨w.heap.size, 0, none⟩ = some v := (World.cell?_of_block (hg4.block w.heap.size hlt4 (fun e => hvb e.symm))).trans hcv3
      have hfv4 : w4.frozen? ⟨w.heap.size, 0, none⟩ = false := (World.frozen?_of_block (hg4.block w.heap.size hlt4 (fun e => hvb e.symm))).trans hfv3
      have hko : KeepsOthers w3 w4 := KeepsOthers.of_grownBy hg4 (fun j o e ho => by
        rcases hown3.2 with ⟨e2, _⟩ | ⟨g, cap, cur, e2, _, hh, _⟩
        · rw [e2] at e; cases e
        · have : g = j := by rw [e2] at e; simpa [Value.ownBlock] using e
          subst this
          rw [hh] at ho; cases ho; rfl)
      have hrow4 := fun g e => (hown3.lt g e).1
      have hkf : KeepsFrom W0.heap.size W w4 := ((keepsOthers_below hB3).trans hko).from _
      have hka : KeepsAt (w.heap.size + 1) W0.heap.size W w4 := ⟨Nat.le_trans hB3.size hg4.size, fun k h1 h2 => (hg4.block k (by omega) (fun e => by have := hrow4 k e.symm; omega)).trans (hB3.block k (by omega))⟩
      have hBw4 : Below w.heap.size w w4 := (hB.trans (hB3.mono hB.size)).grown hg4 (by omega) (fun g e => by have := hrow4 g e; omega)
      have hs4 : w.heap.size + 3 ≤ w4.heap.size := by have := hg4.size; omega
      have hvb4 : v4.ownBlock ≠ some w.heap.size := fun e => by have := (own4.lt _ e).1; omega
      rw [← HS.out] at own4
      obtain ⟨A5, c5, rfl, _⟩ := own_reads own4
      clear hown3 hown2 hr4 hg4 hko hat4
      go_wp2_with fail
      refine ⟨hkf.trans ((KeepsOthers.setCell w4 _ _).from _), hka.setCell (.inl (by simp)) _, ⟨.slice A5 (pre.length + 1) c5, ?_, by simpa [World.setCell] using hs4, (World.frozen?_setCell _ _ _ _).trans hfv4, ?_⟩, hBw4.setCell (by simp) _⟩
      · exact World.cell?_setCell_same' _ _ _ (by rw [hcv4]; rfl)
      · rw [show (pre ++ [x]).length = pre.length + 1 by simp]; exact own_setCell own4 (fun e => hvb4 e) _
    · rintro e a' w' ⟨rfl, h⟩
      unfold RoundEnd at h
      gi_wp2
      exact h
  case done =>
    rintro D ys W hD rfl ⟨⟨v, hcv, hWs, hfv, hown⟩, hB⟩ hK
    have hfin : ((upto pl m).map fun x => instAt l (8 * x.1)) = readUp l m := by
      unfold upto readUp
      rw [List.map_map]
      apply List.map_congr_left
      intro k hk
      simp only [Function.comp]
      rw [hpl k (List.mem_range.1 hk)]
    rw [hfin, upto_length] at hown
    have HF := Lib.hid hpl
    clear hpl hfin
    gi_wp2
    refine ⟨by simp, .inl ⟨_, _, rfl, run_takeDeferred hK, ?_⟩⟩
    refine ⟨_, results_tmp2 rfl _ _ _, ?_⟩
    refine ⟨v, ?_, ?_, hB.trans (belowK_b (w := w) (Nat.le_refl _) W D _ _ (by omega) hK rfl rfl)⟩
    · rw [HE.out]; rfl
    · rw [HG.out, readUp_length]
      exact own_base (by omega) (own_keptB (B := 0) hown (grownBy_putObj' W D _) (fun r e => by cases e; exact ⟨Nat.zero_le _, _, hK, rfl⟩))
  case stop =>
    rintro D c pre W _ _ h _
    exact h.elim
theorem iread_any (l : List Nat) (hok : ∀ b ∈ l, b < 256) (A : Option Addr) (n c : Nat) (w : World) (hr : Reads w w.heap.size 1 A n (bytesV l)) (hn : n ≤ 1000000) (hc : n ≤ c) (hcm : c ≤ maxLen) :
    Calls Tryz.prog 5 #[.slice A n c] w (TellsRead l w) := by
  have hl : n = l.length := by have := hr.1; rw [bytesV_length] at this; omega
  by_cases he : readE n = 0
  · have h1 : n ≤ 32768 ∧ n % 8 = 0 := by
      unfold readE at he
      by_cases h : 32768 < n
      · rw [if_pos h] at he; omega
      · rw [if_neg h] at he
        by_cases h2 : n % 8 ≠ 0
        · rw [if_pos h2] at he; omega
        · omega
    obtain ⟨m, rfl⟩ : ∃ m, n = 8 * m := ⟨n / 8, by omega⟩
    exact iread_yes l hok A m c w hr (by omega) hc hcm
  · exact iread_no l A n c w hl hn he
theorem readL_ok {l : List Nat} (hok : ∀ b ∈ l, b < 256) : ∀ i ∈ readL l, i.Ok := by
  unfold readL
  split
  · exact readUp_ok hok _
  · intro i hi; cases hi
end Go.Proofs.YtpinnockcnmofaaGreatDoor
