/-
  The walk of word.Put: bytes with any number at any place, both ways round.
-/
import Derived.Test.YtlpakmlpnjfcoaaAwake01
import Derived.Test.YtlpakmlpnjfcoaaWalkWrite
namespace Go.Proofs.Ytlpakmlpnjfcoaa
open Go.RowKit Go.Shelf
set_option linter.unusedVariables false
attribute [local go_sem] Oper.semAt_some

theorem bytesV_one (l : List Nat) : ∀ u ∈ bytesV l, u.oneCell' = true := by
  intro u hu
  unfold bytesV at hu
  obtain ⟨n, _, rfl⟩ := List.mem_map.1 hu
  rfl

theorem own_empty (w : World) (e : TypeId) : (w.alloc (.cells #[] e)).ownsRow w.heap.size e 1 (.slice (some ⟨w.heap.size, 0, none⟩) 0 0) 0 [] :=
  ⟨by simp, .inr ⟨w.heap.size, 0, #[], rfl, Nat.le_refl _, heap_alloc_new w _, Nat.le_refl _, by simp [maxLen], rfl, by simp⟩⟩

set_option maxRecDepth 100000 in
theorem clone_any (l : List Nat) (A : Option Addr) (n c : Nat) (w : World) (hr : Reads w w.heap.size 1 A n (bytesV l)) (hn : n ≤ 1000000) :
    Calls Try.prog 52 #[.slice A n c] w (MakesBytes l w) := by
  obtain ⟨i0, hi0, hz0, hz1, hz2⟩ := info_parts info_u8
  have hl : n = l.length := by have := hr.1; rw [bytesV_length] at this; omega
  rcases A with _ | ad
  · have h0 : n = 0 := by
      rcases Nat.eq_zero_or_pos n with h0 | h0
      · exact h0
      · obtain ⟨ad, e, _⟩ := hr.2 h0; cases e
    have hl0 : l = [] := List.eq_nil_of_length_eq_zero (by omega)
    subst hl0
    subst h0
    clear hl hr hn
    have hq : ∀ W, (binOp .eql 31 (.slice none 0 c) (.slice none 0 0)).run Try.prog W = .ok (.bool true) W := fun W => Lib.run_eql_slice_nil (P := Try.prog) W 31 5 none 0 c 0 0 Try.underlying31
    go_enter Try.func52, Try.ntmps52
    go_wp2_with fail
    go_ret
    exact ⟨_, rfl, World.ownsRow_nil _ _ _ _, Below.refl _ _⟩
  · have Hl := Lib.hid hl
    clear hl
    have hq : ∀ W, (binOp .eql 31 (.slice (some ad) n c) (.slice none 0 0)).run Try.prog W = .ok (.bool false) W := fun W => Lib.run_eql_slice_nil (P := Try.prog) W 31 5 (some ad) n c 0 0 Try.underlying31
    go_enter Try.func52, Try.ntmps52
    go_wp2_with (at_builtin; refine wpList_append_any _ rfl (.tmp 5) (.tmp 6) 31 rfl w.heap.size 5 i0 _ 1 1 Try.underlying31 hi0 hz0 hz1 hz2 rfl (by omega) _ 0 [] rfl (own_empty w 5) w.heap.size (some ad) n c (bytesV l) rfl (hr.alloc (Nat.le_refl _) _) (bytesV_one l) (by simp only [maxLen]; omega) (by omega) (by simp) ?_; intro v3 w3 hown3 hg3 hat3)
    go_wp2_with fail
    go_ret
    exact ⟨_, rfl, by rw [← Hl.out]; simpa using hown3, ((Below.refl _ w).alloc (Nat.le_refl _) _).grown hg3 (by simp) (fun k hk => by cases hk; exact Nat.le_refl _)⟩

/-- The bytes with the lowest bytes of a number put in. -/
def putL (l : List Nat) (at_ width : Nat) (big : Bool) (n k : Nat) : List Nat := (List.range k).foldl (fun acc j => acc.set (placeN at_ width (!big) j) (n / 256 ^ j % 256)) l
theorem putL_succ (l : List Nat) (at_ width : Nat) (big : Bool) (n k : Nat) : putL l at_ width big n (k + 1) = (putL l at_ width big n k).set (placeN at_ width (!big) k) (n / 256 ^ k % 256) := by
  unfold putL
  rw [List.range_succ, List.foldl_append]
  rfl
theorem putL_length (l : List Nat) (at_ width : Nat) (big : Bool) (n : Nat) : ∀ k, (putL l at_ width big n k).length = l.length
  | 0 => rfl
  | k + 1 => by rw [putL_succ, List.length_set, putL_length]
def putN (l : List Nat) (at_ width : Int) (big : Bool) (n : Nat) : List Nat := if wrongN l.length at_ width = 0 then putL l at_.toNat width.toNat big n width.toNat else []

/-- A row of bytes in a block. -/
def RowAt (W : World) (g cap n : Nat) (l : List Nat) : Prop := ∃ cur, W.heap[g]? = some (.cells cur 5 (0, 0)) ∧ cur.size = cap ∧ cur.toList.take n = bytesV l
theorem RowAt.cell {W : World} {g cap n : Nat} {l : List Nat} (h : RowAt W g cap n l) (hl : n = l.length) {k : Nat} (hk : k < n) : W.cell? ⟨g, k, none⟩ = some (.int .u8 (l.getD k 0 : Nat)) := by
  obtain ⟨cur, hb, hs, ht⟩ := h
  have h1 : (cur.toList.take n)[k]? = some (.int .u8 (l.getD k 0 : Nat)) := by
    rw [ht]
    simp [bytesV, show k < l.length by omega]
  rw [List.getElem?_take, if_pos hk] at h1
  simp only [World.cell?, hb]
  simpa using h1
theorem RowAt.there {W : World} {g cap n : Nat} {l : List Nat} (h : RowAt W g cap n l) (hn : n ≤ cap) {k : Nat} (hk : k < n) : ∃ u, W.cell? ⟨g, k, none⟩ = some u := by
  obtain ⟨cur, hb, hs, ht⟩ := h
  exact ⟨cur[k]'(by omega), by simp [World.cell?, hb, show k < cur.size by omega]⟩
theorem RowAt.frozen {W : World} {g cap n : Nat} {l : List Nat} (h : RowAt W g cap n l) (k : Nat) : W.frozen? ⟨g, k, none⟩ = false := by
  obtain ⟨cur, hb, hs, ht⟩ := h
  simp [World.frozen?, hb]
theorem RowAt.set {W : World} {g cap n : Nat} {l : List Nat} (h : RowAt W g cap n l) (hn : n ≤ cap) {k : Nat} (hk : k < n) (y : Nat) : RowAt (W.setCell ⟨g, k, none⟩ (.int .u8 (y : Nat))) g cap n (l.set k y) := by
  obtain ⟨cur, hb, hs, ht⟩ := h
  refine ⟨_, heap_setCell_same _ _ _ _ _ _ hb, by simp [hs], ?_⟩
  rw [Array.toList_setIfInBounds, List.take_set, ht]
  unfold bytesV
  rw [List.map_set]
theorem RowAt.of_heap {W W' : World} {g cap n : Nat} {l : List Nat} (h : RowAt W g cap n l) (e : W'.heap[g]? = W.heap[g]?) : RowAt W' g cap n l := by
  obtain ⟨cur, hb, r⟩ := h
  exact ⟨cur, e.trans hb, r⟩
theorem RowAt.lt {W : World} {g cap n : Nat} {l : List Nat} (h : RowAt W g cap n l) : g < W.heap.size := by
  obtain ⟨cur, hb, r⟩ := h
  exact (Array.getElem?_eq_some_iff.1 hb).1
theorem RowAt.grown {W W' : World} {g cap n : Nat} {l : List Nat} {row : Option Nat} (h : RowAt W g cap n l) (hg : W.grownBy W' row) (hr : ∀ r, row = some r → ∃ o : Obj, W.heap[r]? = some o ∧ o.isCells = false) : RowAt W' g cap n l := by
  refine h.of_heap (hg.block g h.lt fun e => ?_)
  obtain ⟨cur, hb, _⟩ := h
  obtain ⟨o, h1, h2⟩ := hr g e.symm
  rw [hb] at h1
  injection h1 with h1
  subst h1
  cases h2
theorem row_of_own {W : World} {B n : Nat} {v : Value} {l : List Nat} (h : W.ownsRow B 5 1 v n (bytesV l)) (hn : 0 < n) : ∃ g cap, v = .slice (some ⟨g, 0, none⟩) n cap ∧ B ≤ g ∧ n ≤ cap ∧ cap ≤ maxLen ∧ RowAt W g cap n l := by
  obtain ⟨_, ⟨_, h0⟩ | ⟨g, cap, cur, rfl, hB, hb, h1, h2, h3, h4⟩⟩ := h
  · omega
  · exact ⟨g, cap, rfl, hB, h1, h2, cur, hb, by omega, by simpa using h4⟩
theorem RowAt.own {W : World} {B g cap n : Nat} {l : List Nat} (h : RowAt W g cap n l) (hl : n = l.length) (hB : B ≤ g) (h1 : n ≤ cap) (h2 : cap ≤ maxLen) : W.ownsRow B 5 1 (.slice (some ⟨g, 0, none⟩) n cap) n (bytesV l) := by
  obtain ⟨cur, hb, hs, ht⟩ := h
  exact ⟨by rw [bytesV_length]; omega, .inr ⟨g, cap, cur, rfl, hB, hb, h1, h2, by omega, by simpa using ht⟩⟩

/-- Bytes put at places, one behind another, and what is left of the number. -/
def putF (l : List Nat) (x : Nat) (ks : List Nat) : List Nat × Nat := ks.foldl (fun p k => (p.1.set k (p.2 % 256), p.2 / 256)) (l, x)
theorem putF_snoc (l : List Nat) (x : Nat) (ks : List Nat) (k : Nat) : putF l x (ks ++ [k]) = ((putF l x ks).1.set k ((putF l x ks).2 % 256), (putF l x ks).2 / 256) := by
  unfold putF
  rw [List.foldl_append]
  rfl
theorem putF_le : ∀ (ks : List Nat) (l : List Nat) (x : Nat), (putF l x ks).2 ≤ x
  | [], _, _ => Nat.le_refl _
  | k :: ks, l, x => Nat.le_trans (putF_le ks (l.set k (x % 256)) (x / 256)) (Nat.div_le_self _ _)
theorem putF_upto {α : Type} (val : α → Nat) (pl : Nat → α) (l : List Nat) (x at_ width : Nat) (big : Bool) (hpl : ∀ k, k < width → val (pl k) = placeN at_ width (!big) k) : ∀ k, k ≤ width → putF l x ((upto pl k).map val) = (putL l at_ width big x k, x / 256 ^ k)
  | 0, _ => by simp [upto, putF, putL]
  | k + 1, h => by
    rw [upto_succ, List.map_append]
    show putF l x ((upto pl k).map val ++ [val (pl k)]) = _
    rw [putF_snoc, putF_upto val pl l x at_ width big hpl k (by omega), putL_succ, hpl k (by omega), Nat.pow_succ, Nat.div_div_eq_div_mul]

def TellsPut (l : List Nat) (at_ width : Int) (big : Bool) (x : Nat) (w : World) (e : Ending) (w' : World) : Prop :=
  ∃ v, e = .returned (.tuple #[v, .int .i64 (wrongN l.length at_ width : Nat)]) ∧ w'.ownsRow w.heap.size 5 1 v (putN l at_ width big x).length (bytesV (putN l at_ width big x)) ∧ Below w.heap.size w w'

set_option maxRecDepth 100000 in
theorem put_no (l : List Nat) (A : Option Addr) (n c : Nat) (at_ width : Int) (big : Bool) (x : Nat) (w : World) (hl : n = l.length) (hn : n ≤ 1000000) (hw : wrongN n at_ width ≠ 0) :
    Calls Try.prog 35 #[.slice A n c, .int .i64 at_, .int .i64 width, .bool big, .int .u64 x] w (TellsPut l at_ width big x w) := by
  have hg : putN l at_ width big x = [] := by unfold putN; rw [if_neg (by rw [← hl]; exact hw)]
  have HL := Lib.hid hl
  have HG := Lib.hid hg
  clear hl hg
  go_enter Try.func35, Try.ntmps35
  go_wp2_with fail
  refine (there_any A n c at_ width _ (by omega)).mono ?_
  rintro e w1 ⟨rfl, hB⟩
  have hB0 : Below w.heap.size w w1 := ((Below.refl _ w).alloc (Nat.le_refl _) _).trans (hB.mono (by simp))
  generalize hx : wrongN n at_ width = y at *
  have HX := Lib.hid hx
  have he : ((y : Int) != 0) = true := by simp; omega
  clear hx hw
  go_wp2_with fail
  go_ret2
  refine ⟨.slice none 0 0, ?_, ?_, hB0⟩
  · rw [← HL.out, HX.out]
    rfl
  · rw [HG.out]; exact World.ownsRow_nil _ _ _ _

set_option maxRecDepth 100000 in
set_option maxHeartbeats 2000000 in
theorem put_yes (l : List Nat) (hok : ∀ b ∈ l, b < 256) (A : Option Addr) (n c : Nat) (at_ width : Nat) (big : Bool) (x : Nat) (hx64 : x < 18446744073709551616) (w : World) (hr : Reads w w.heap.size 1 A n (bytesV l)) (hl : n = l.length) (hn : n ≤ 1000000)
    (hw : wrongN n at_ width = 0) (hw8 : width ≤ 8) (hin : at_ + width ≤ n) (hpos : 0 < width) :
    Calls Try.prog 35 #[.slice A n c, .int .i64 at_, .int .i64 width, .bool big, .int .u64 x] w (TellsPut l at_ width big x w) := by
  have hg : putN l at_ width big x = putL l at_ width big x width := by unfold putN; rw [if_pos (by rw [← hl]; exact hw)]; rfl
  have HL := Lib.hid hl
  have HG := Lib.hid hg
  have HW := Lib.hid hw
  clear hl hg
  refine (callsIn_wide (n := 5)).1 ?_
  refine callsIn_of_wp_marks Try.func35 rfl trivial ?_ rfl
  simp only [Try.ntmps35, List.size_toArray, List.length_cons, List.length_nil, Nat.reduceAdd, Nat.reduceSub, Array.replicate_succ, Array.replicate_zero, List.push_toArray, List.append_toArray, List.nil_append, List.cons_append]
  gi_wp2_with fail
  refine ⟨trivial, ?_⟩
  refine (callsIn_wide.2 (there_any A n c at_ width _ (by omega))).mono ?_
  rintro e w1 ⟨rfl, hB1⟩
  rw [hw]
  have hB1w : Below w.heap.size w w1 := ((Below.refl _ w).alloc (Nat.le_refl _) _).trans (hB1.mono (by simp))
  have bX := (Boxed.new w 41 (.int .u64 x))
  have cX : w1.cell? ⟨w.heap.size, 0, none⟩ = some (.int .u64 x) := cell_of_below hB1 (by simp) bX.cell
  have fX : w1.frozen? ⟨w.heap.size, 0, none⟩ = false := (World.frozen?_of_block (hB1.block _ (by simp))).trans bX.frozen
  gi_wp2_with fail
  refine ⟨trivial, ?_⟩
  refine (callsIn_wide.2 (clone_any l A n c w1 ((hr.below hB1w).more hB1w.size) (by omega))).mono ?_
  rintro e w2 ⟨v, rfl, hown, hB2⟩
  obtain ⟨g, cap, rfl, hg1, hnc, hcm, hrow⟩ := row_of_own hown (by have := HL.out; omega)
  rw [← HL.out] at hrow
  rw [← HL.out]
  gi_wp2_with fail
  refine ⟨trivial, ?_⟩
  refine (places_in Fence.wide _ trivial rfl _ _ _ _).mono ?_
  rintro e w3 ⟨rfl, rfl⟩
  gi_wp2_with fail
  have hB2w : Below w.heap.size w w2 := hB1w.trans (hB2.mono hB1w.size)
  have hlt1 : w.heap.size < w1.heap.size := by have := hB1.size; simp at this; omega
  have hlt2 : w1.heap.size ≤ w2.heap.size := hB2.size
  have hglt := hrow.lt
  have cX2 : w2.cell? ⟨w.heap.size, 0, none⟩ = some (.int .u64 x) := cell_of_below (p := ⟨w.heap.size, 0, none⟩) hB2 hlt1 cX
  have fX2 : w2.frozen? ⟨w.heap.size, 0, none⟩ = false := (World.frozen?_of_block (hB2.block _ hlt1)).trans fX
  have bS := Boxed.new w2 31 (.slice (some ⟨g, 0, none⟩) n cap)
  have bA := Boxed.new (w2.alloc (.cells #[.slice (some ⟨g, 0, none⟩) n cap] 31)) 3 (.int .i64 at_)
  have bW := Boxed.new ((w2.alloc (.cells #[.slice (some ⟨g, 0, none⟩) n cap] 31)).alloc (.cells #[.int .i64 at_] 3)) 3 (.int .i64 width)
  have bB := Boxed.new (((w2.alloc (.cells #[.slice (some ⟨g, 0, none⟩) n cap] 31)).alloc (.cells #[.int .i64 at_] 3)).alloc (.cells #[.int .i64 width] 3)) 4 (.bool (!big))
  simp only [World.size_alloc] at bA bW bB
  have hB0 : Below w.heap.size w ((((w2.alloc (.cells #[.slice (some ⟨g, 0, none⟩) n cap] 31)).alloc (.cells #[.int .i64 at_] 3)).alloc (.cells #[.int .i64 width] 3)).alloc (.cells #[.bool (!big)] 4)) :=
    (((hB2w.alloc hB2w.size _).alloc (by simp; omega) _).alloc (by simp; omega) _).alloc (by simp; omega) _
  have bS3 := ((bS.alloc (.cells #[.int .i64 at_] 3)).alloc (.cells #[.int .i64 width] 3)).alloc (.cells #[.bool (!big)] 4)
  have bA2 := (bA.alloc (.cells #[.int .i64 width] 3)).alloc (.cells #[.bool (!big)] 4)
  have bW1 := bW.alloc (.cells #[.bool (!big)] 4)
  have hold : ∀ k, k < w2.heap.size → ((((w2.alloc (.cells #[.slice (some ⟨g, 0, none⟩) n cap] 31)).alloc (.cells #[.int .i64 at_] 3)).alloc (.cells #[.int .i64 width] 3)).alloc (.cells #[.bool (!big)] 4)).heap[k]? = w2.heap[k]? := fun k hk =>
    (((((Below.refl w2.heap.size w2).alloc (Nat.le_refl _) _).alloc (by simp <;> omega) _).alloc (by simp <;> omega) _).alloc (by simp <;> omega) _).block k hk
  have hcX0 := (World.cell?_of_block (hold w.heap.size (by omega))).trans cX2
  have hfX0 := (World.frozen?_of_block (hold w.heap.size (by omega))).trans fX2
  have hrow0 := hrow.of_heap (hold g hglt)
  have hsz : ((((w2.alloc (.cells #[.slice (some ⟨g, 0, none⟩) n cap] 31)).alloc (.cells #[.int .i64 at_] 3)).alloc (.cells #[.int .i64 width] 3)).alloc (.cells #[.bool (!big)] 4)).heap.size = w2.heap.size + 4 := by simp
  generalize ((((w2.alloc (.cells #[.slice (some ⟨g, 0, none⟩) n cap] 31)).alloc (.cells #[.int .i64 at_] 3)).alloc (.cells #[.int .i64 width] 3)).alloc (.cells #[.bool (!big)] 4)) = W0 at *
  generalize w2.heap.size = s1 at *
  obtain ⟨pl, hpl⟩ : ∃ pl : Nat → { x : Nat // x < n }, ∀ k, k < width → (pl k).1 = placeN at_ width (!big) k := by
    refine ⟨fun k => if h : placeN at_ width (!big) k < n then ⟨_, h⟩ else ⟨0, by omega⟩, fun k hk => ?_⟩
    have : placeN at_ width (!big) k < n := by unfold placeN; split <;> omega
    simp [this]
  refine wpIn_rangeFunc_ownG rfl (by omega) (gf := 59) (lb := #[.pointer (some ⟨s1 + 1 + 1, 0, none⟩), .pointer (some ⟨s1 + 1, 0, none⟩), .pointer (some ⟨s1 + 1 + 2, 0, none⟩)]) rfl trivial (enters_of Try.func59 (by kernel_rfl) rfl)
    (places_stops (fun x : { x : Nat // x < n } => x.1) pl Fence.wide _ trivial rfl (by omega) (s1 + 1) at_ width (!big) (by omega) hw8 hpl (s1 + 1) W0 (by omega) (by omega) bA2.cell bW1.cell bB.cell)
    (fun h k => KeepsAt.trans h k) (fun W l o o' hle _ _ _ => KeepsAt.putObj W l o' hle) (Below.refl _ _) (fun _ => rfl)
    (fun pre W => (W.cell? ⟨w.heap.size, 0, none⟩ = some (.int .u64 ((putF l x (pre.map fun x => x.1)).2 : Nat)) ∧ W.frozen? ⟨w.heap.size, 0, none⟩ = false ∧ W.cell? ⟨s1, 0, none⟩ = some (.slice (some ⟨g, 0, none⟩) n cap) ∧ RowAt W g cap n (putF l x (pre.map fun x => x.1)).1) ∧ Below w.heap.size w W)
    (fun _ _ _ => False)
    (OwnFrom.and (Own.from (fun s X Y row hs hg hr => ⟨cell_kept hs.1 hg hr, (frozen_kept hs.1 hg hr).trans hs.2.1, cell_kept hs.2.2.1 hg hr, RowAt.grown hs.2.2.2 hg hr⟩) _) (ownFrom_below (Nat.le_refl _) (by omega)))
    (fun _ _ _ _ _ hs _ _ => hs)
    ⟨⟨hcX0, hfX0, bS3.cell, hrow0⟩, hB0⟩
    (fun y => { tmps := #[.slice A n c, .int .i64 at_, .int .i64 width, .bool big, .int .u64 x, undef, undef, undef, undef, .pointer (some ⟨w.heap.size, 0, none⟩), .slice none 0 0, .int .i64 0, .int .i64 0, .pointer (some ⟨s1, 0, none⟩), .int .i64 (y.1 : Int), .slice A n c, .int .i64 at_, .int .i64 width, .int .i64 0, .int .i64 0, .bool false, undef, .slice A n c, .slice (some ⟨g, 0, none⟩) n cap, .int .i64 at_, .int .i64 width, .bool big, .bool !big,
      .func (.func 59) #[] #[.pointer (some ⟨s1 + 1 + 1, 0, none⟩), .pointer (some ⟨s1 + 1, 0, none⟩), .pointer (some ⟨s1 + 1 + 2, 0, none⟩)], .int .i64 (y.1 : Int), undef, undef, undef, undef, undef, undef, undef, undef], defers := [] }) ?assign ?body ?done ?stop
  case assign =>
    intro l x W K hK
    gi_wp2
    exact hK
  case body =>
    rintro l' pre y W ⟨⟨hcx, hfx, hcs, hrw⟩, hB⟩ hlen
    have hy := y.2
    have hle := putF_le (pre.map fun x => x.1) l x
    have hnext : putF l x ((pre ++ [y]).map fun x => x.1) = ((putF l x (pre.map fun x => x.1)).1.set y.1 ((putF l x (pre.map fun x => x.1)).2 % 256), (putF l x (pre.map fun x => x.1)).2 / 256) := by
      rw [List.map_append]; exact putF_snoc _ _ _ _
    generalize putF l x (pre.map fun x => x.1) = p at *
    obtain ⟨pl1, v⟩ := p
    simp only at hcx hrw hle hnext
    have HN := Lib.hid hnext
    clear hnext hpl bS3 bA2 bW1 bB bS bA bW hcX0 hfX0 hrow0 hlen hr hown
    obtain ⟨u, hu⟩ := hrw.there (by have := HL.out; omega) hy
    have hfr := hrw.frozen y.1
    have hset := hrw.set (by have := HL.out; omega) hy (v % 256)
    have hwr : IntKind.u8.wrap (v : Int) = ((v % 256 : Nat) : Int) := by simp [IntKind.wrap, IntKind.bits, IntKind.signed]
    have hlt0 : (0 : Int) ≤ (y.1 : Int) := Int.natCast_nonneg _
    have hlt2 : (y.1 : Int) < (n : Int) := by omega
    gi_wp2
    rw [show ((v : Int) / 256) = ((v / 256 : Nat) : Int) from by simp, show ((v : Int) % 256) = ((v % 256 : Nat) : Int) from by simp]
    have hne : (⟨g, y.1, none⟩ : Addr) ≠ ⟨w.heap.size, 0, none⟩ := fun h => by injection h; omega
    refine ⟨⟨by simp [World.setCell], fun k _ hk2 => ?_⟩, ((KeepsAt.refl _ _ W).setCell (.inl (by simp; omega)) _).setCell (.inl (by simp; omega)) _, ⟨?_, ?_, ?_, ?_⟩, (hB.setCell (by simp; omega) _).setCell (by simp) _⟩
    · exact (((KeepsOthers.setCell W _ _).trans (KeepsOthers.setCell _ _ _)).from _).same k ‹_› hk2
    · rw [HN.out]
      exact World.cell?_setCell_same' _ _ _ (by rw [World.cell?_setCell_other _ _ _ _ hne, hcx]; rfl)
    · exact (World.frozen?_setCell _ _ _ _).trans ((World.frozen?_setCell _ _ _ _).trans hfx)
    · exact (World.cell?_setCell_other _ _ _ _ (fun h => by injection h; omega)).trans ((World.cell?_setCell_other _ _ _ _ (fun h => by injection h; omega)).trans hcs)
    · rw [HN.out]
      exact hset.of_heap (Below.heap_setCell _ _ _ _ (by simp; omega))
  case done =>
    rintro D ys W hD rfl ⟨⟨hcx, hfx, hcs, hrw⟩, hB⟩ hK
    rw [putF_upto (fun x : { x : Nat // x < n } => x.1) pl l x at_ width big hpl width (Nat.le_refl _)] at hrw
    have hrw' : RowAt W g cap n (putL l at_ width big x width) := hrw
    have HF := Lib.hid hpl
    clear hcx hfx hrw hpl
    gi_wp2
    refine ⟨by simp, .inl ⟨_, _, rfl, run_takeDeferred hK, ?_⟩⟩
    refine ⟨_, results_tmp2 rfl _ _ _, ?_⟩
    refine ⟨.slice (some ⟨g, 0, none⟩) n cap, ?_, ?_, hB.trans (belowK_b (w := w) (Nat.le_refl _) W D _ _ (by omega) hK rfl rfl)⟩
    · rw [← HL.out, HW.out]
      rfl
    · rw [HG.out, putL_length, ← HL.out]
      refine RowAt.own (hrw'.of_heap ?_) (by rw [putL_length]; exact HL.out) (by omega) (by have := HL.out; omega) hcm
      exact World.putObj_heap_other (by omega)
  case stop =>
    rintro D c pre W _ _ h _
    exact h.elim
theorem put_any (l : List Nat) (hok : ∀ b ∈ l, b < 256) (A : Option Addr) (n c : Nat) (at_ width : Int) (big : Bool) (x : Nat) (hx : x < 18446744073709551616) (w : World) (hr : Reads w w.heap.size 1 A n (bytesV l)) (hn : n ≤ 1000000) :
    Calls Try.prog 35 #[.slice A n c, .int .i64 at_, .int .i64 width, .bool big, .int .u64 x] w (TellsPut l at_ width big x w) := by
  have hl : n = l.length := by have := hr.1; rw [bytesV_length] at this; omega
  by_cases hw : wrongN n at_ width = 0
  · obtain ⟨hwide, h0, h1⟩ := wrongN_zero hw
    obtain ⟨a, rfl⟩ : ∃ a : Nat, at_ = a := ⟨at_.toNat, by omega⟩
    have hwb : 1 ≤ width ∧ width ≤ 8 := by rcases hwide with h | h | h | h <;> omega
    obtain ⟨v, rfl⟩ : ∃ v : Nat, width = v := ⟨width.toNat, by omega⟩
    exact put_yes l hok A n c a v big x hx w hr hl hn hw (by omega) (by omega) (by omega)
  · exact put_no l A n c at_ width big x w hl hn hw
end Go.Proofs.Ytlpakmlpnjfcoaa
