/-
  The walk of word.Get: a word at any place, of any width, both ways round.
-/
import Derived.Test.YtpinnockcnmofaaGreatDoorWord03g
import Derived.Test.YtpinnockcnmofaaGreatDoorPlaces
namespace Go.Proofs.YtpinnockcnmofaaGreatDoor
open Go.RowKit Go.Shelf
set_option linter.unusedVariables false
attribute [local go_sem] Oper.semAt_some

/-- The bytes of a word, the highest first. -/
def wordN (l : List Nat) (at_ width : Nat) (big : Bool) : List Nat := (List.range width).map fun k => l.getD (placeN at_ width big k) 0
def getN (l : List Nat) (at_ width : Int) (big : Bool) : Nat := if wrongN l.length at_ width = 0 then valBE (wordN l at_.toNat width.toNat big) else 0

def TellsGet (l : List Nat) (at_ width : Int) (big : Bool) (w : World) (e : Ending) (w' : World) : Prop :=
  e = .returned (.tuple #[.int .u64 (getN l at_ width big : Nat), .int .i64 (wrongN l.length at_ width : Nat)]) ∧ Below w.heap.size w w'

set_option maxRecDepth 100000 in
theorem get_no (l : List Nat) (A : Option Addr) (n c : Nat) (at_ width : Int) (big : Bool) (w : World) (hl : n = l.length) (hn : n ≤ 1000000) (hw : wrongN n at_ width ≠ 0) :
    Calls Tryz.prog 13 #[.slice A n c, .int .i64 at_, .int .i64 width, .bool big] w (TellsGet l at_ width big w) := by
  have hg : getN l at_ width big = 0 := by unfold getN; rw [if_neg (by rw [← hl]; exact hw)]
  have HL := Lib.hid hl
  have HG := Lib.hid hg
  have he : ((wrongN n at_ width : Int) != 0) = true := by simp; omega
  clear hl hg
  go_enter Tryz.func13, Tryz.ntmps13
  go_wp2_with fail
  refine (there_any A n c at_ width _ (by omega)).mono ?_
  rintro e w1 ⟨rfl, hB⟩
  generalize hx : wrongN n at_ width = x at *
  have HX := Lib.hid hx
  clear hx hw
  go_wp2_with fail
  go_ret2
  refine ⟨?_, ((Below.refl _ w).alloc (Nat.le_refl _) _).trans (hB.mono (by simp))⟩
  rw [HG.out, ← HL.out, HX.out]
  rfl

theorem cell_of_below {B : Nat} {w w' : World} (h : Below B w w') {p : Addr} {v : Value} (hp : p.block < B) (hc : w.cell? p = some v) : w'.cell? p = some v := (h.cell hp).trans hc

theorem valBE_lt7 {l : List Nat} (h : ∀ b ∈ l, b < 256) (hl : l.length ≤ 7) : valBE l < 72057594037927936 := by
  have h1 := valBE_cons_lt l h
  have h3 : 256 ^ l.length ≤ 256 ^ 7 := Nat.pow_le_pow_right (by omega) hl
  have h4 : 256 ^ 7 = 72057594037927936 := by decide
  omega

theorem or_byte (v y : Nat) (hv : v < 72057594037927936) (hy : y < 256) : bits .or .u64 (IntKind.u64.wrap ((v : Int) * 256)) (IntKind.u64.wrap (y : Int)) = ((256 * v + y : Nat) : Int) := by
  have w1 : IntKind.u64.wrap ((v : Int) * 256) = (v : Int) * 256 := by simp [IntKind.wrap, IntKind.bits, IntKind.signed]; omega
  have w2 : IntKind.u64.wrap (y : Int) = (y : Int) := by simp [IntKind.wrap, IntKind.bits, IntKind.signed]; omega
  rw [w1, w2]
  have e : ((v : Int) * 256) = ((v * 256 : Nat) : Int) := by simp
  rw [e, u64_or_nat (v * 256) y (by omega) (by omega), nat_join 8 (v * 256) y (by omega) (by omega)]
  congr 1
  omega
theorem keepsFrom_set (B : Nat) (W : World) (a : Addr) (v : Value) : KeepsFrom B W (W.setCell a v).drew := ⟨((KeepsOthers.setCell W a v).from B).size, ((KeepsOthers.setCell W a v).from B).same⟩
theorem keepsAt_set {lo hi : Nat} {W : World} {a : Addr} (h : a.block < lo ∨ hi ≤ a.block) (v : Value) : KeepsAt lo hi W (W.setCell a v).drew := ((KeepsAt.refl lo hi W).setCell h v).drew
theorem below_set {B : Nat} {w W : World} (h : Below B w W) {a : Addr} (ha : B ≤ a.block) (v : Value) : Below B w (W.setCell a v).drew := (h.setCell ha v).drew

set_option maxRecDepth 100000 in
set_option maxHeartbeats 2000000 in
theorem get_yes (l : List Nat) (hok : ∀ b ∈ l, b < 256) (A : Option Addr) (n c : Nat) (at_ width : Nat) (big : Bool) (w : World) (hr : Reads w w.heap.size 1 A n (bytesV l)) (hl : n = l.length) (hn : n ≤ 1000000)
    (hw : wrongN n at_ width = 0) (hw8 : width ≤ 8) (hin : at_ + width ≤ n) (hpos : 0 < width) :
    Calls Tryz.prog 13 #[.slice A n c, .int .i64 at_, .int .i64 width, .bool big] w (TellsGet l at_ width big w) := by
  have hg : getN l at_ width big = valBE (wordN l at_ width big) := by unfold getN; rw [if_pos (by rw [← hl]; exact hw)]; rfl
  have HL := Lib.hid hl
  have HG := Lib.hid hg
  have HW := Lib.hid hw
  clear hl hg
  refine (callsIn_wide (n := 5)).1 ?_
  refine callsIn_of_wp_marks Tryz.func13 rfl trivial ?_ rfl
  simp only [Tryz.ntmps13, List.size_toArray, List.length_cons, List.length_nil, Nat.reduceAdd, Nat.reduceSub, Array.replicate_succ, Array.replicate_zero, List.push_toArray, List.append_toArray, List.nil_append, List.cons_append]
  gi_wp2_with fail
  refine ⟨trivial, ?_⟩
  refine (callsIn_wide.2 (there_any A n c at_ width _ (by omega))).mono ?_
  rintro e w1 ⟨rfl, hB1⟩
  rw [hw]
  gi_wp2_with fail
  refine ⟨trivial, ?_⟩
  refine (places_in Fence.wide _ trivial rfl _ _ _ _).mono ?_
  rintro e w2 ⟨rfl, rfl⟩
  gi_wp2_with fail
  have hB1w : Below w.heap.size w w1 := ((Below.refl _ w).alloc (Nat.le_refl _) _).trans (hB1.mono (by simp))
  have hcb : w1.cell? ⟨w.heap.size, 0, none⟩ = some (.slice A n c) := cell_of_below (p := ⟨w.heap.size, 0, none⟩) hB1 (by simp) (by rw [World.cell?_alloc_at _ _ _ _ rfl]; rfl)
  have hlt1 : w.heap.size < w1.heap.size := by have := hB1.size; simp at this; omega
  have bN := Boxed.new w1 51 (.int .u64 0)
  have bA := Boxed.new (w1.alloc (.cells #[.int .u64 0] 51)) 3 (.int .i64 at_)
  have bW := Boxed.new ((w1.alloc (.cells #[.int .u64 0] 51)).alloc (.cells #[.int .i64 at_] 3)) 3 (.int .i64 width)
  have bB := Boxed.new (((w1.alloc (.cells #[.int .u64 0] 51)).alloc (.cells #[.int .i64 at_] 3)).alloc (.cells #[.int .i64 width] 3)) 4 (.bool big)
  simp only [World.size_alloc] at bA bW bB
  have hB0 : Below w.heap.size w ((((w1.alloc (.cells #[.int .u64 0] 51)).alloc (.cells #[.int .i64 at_] 3)).alloc (.cells #[.int .i64 width] 3)).alloc (.cells #[.bool big] 4)) :=
    (((hB1w.alloc hB1w.size _).alloc (by simp; omega) _).alloc (by simp; omega) _).alloc (by simp; omega) _
  have bN3 := ((bN.alloc (.cells #[.int .i64 at_] 3)).alloc (.cells #[.int .i64 width] 3)).alloc (.cells #[.bool big] 4)
  have bA2 := (bA.alloc (.cells #[.int .i64 width] 3)).alloc (.cells #[.bool big] 4)
  have bW1 := bW.alloc (.cells #[.bool big] 4)
  have hcb0 : ((((w1.alloc (.cells #[.int .u64 0] 51)).alloc (.cells #[.int .i64 at_] 3)).alloc (.cells #[.int .i64 width] 3)).alloc (.cells #[.bool big] 4)).cell? ⟨w.heap.size, 0, none⟩ = some (.slice A n c) := by
    rw [World.cell?_alloc_past _ _ _ (by simp; omega), World.cell?_alloc_past _ _ _ (by simp; omega), World.cell?_alloc_past _ _ _ (by simp; omega), World.cell?_alloc_past _ _ _ hlt1]
    exact hcb
  have hsz : ((((w1.alloc (.cells #[.int .u64 0] 51)).alloc (.cells #[.int .i64 at_] 3)).alloc (.cells #[.int .i64 width] 3)).alloc (.cells #[.bool big] 4)).heap.size = w1.heap.size + 4 := by simp
  generalize ((((w1.alloc (.cells #[.int .u64 0] 51)).alloc (.cells #[.int .i64 at_] 3)).alloc (.cells #[.int .i64 width] 3)).alloc (.cells #[.bool big] 4)) = W0 at *
  generalize w1.heap.size = s1 at *
  obtain ⟨pl, hpl⟩ : ∃ pl : Nat → { x : Nat // x < n }, ∀ k, k < width → (pl k).1 = placeN at_ width big k := by
    refine ⟨fun k => if h : placeN at_ width big k < n then ⟨_, h⟩ else ⟨0, by omega⟩, fun k hk => ?_⟩
    have : placeN at_ width big k < n := by unfold placeN; split <;> omega
    simp [this]
  refine wpIn_rangeFunc_ownG rfl (by omega) (gf := 48) (lb := #[.pointer (some ⟨s1 + 1 + 1, 0, none⟩), .pointer (some ⟨s1 + 1, 0, none⟩), .pointer (some ⟨s1 + 1 + 2, 0, none⟩)]) rfl trivial (enters_of Tryz.func48 (by kernel_rfl) rfl)
    (places_stops (fun x : { x : Nat // x < n } => x.1) pl Fence.wide _ trivial rfl (by omega) (s1 + 1) at_ width big (by omega) hw8 hpl (s1 + 1) W0 (by omega) (by omega) bA2.cell bW1.cell bB.cell)
    (fun h k => KeepsAt.trans h k) (fun W l o o' hle _ _ _ => KeepsAt.putObj W l o' hle) (Below.refl _ _) (fun _ => rfl)
    (fun pre W => (W.cell? ⟨s1, 0, none⟩ = some (.int .u64 (valBE (pre.map fun x => l.getD x.1 0) : Nat)) ∧ W.frozen? ⟨s1, 0, none⟩ = false ∧ W.cell? ⟨w.heap.size, 0, none⟩ = some (.slice A n c)) ∧ Below w.heap.size w W)
    (fun _ _ _ => False)
    (OwnFrom.and (Own.from (fun s X Y row hs hg hr => ⟨cell_kept hs.1 hg hr, (frozen_kept hs.1 hg hr).trans hs.2.1, cell_kept hs.2.2 hg hr⟩) _) (ownFrom_below (Nat.le_refl _) (by omega)))
    (fun _ _ _ _ _ hs _ _ => hs)
    ⟨⟨bN3.cell, bN3.frozen, hcb0⟩, hB0⟩
    (fun x => { tmps := #[.slice A n c, .int .i64 at_, .int .i64 width, .bool big, .pointer (some ⟨w.heap.size, 0, none⟩), undef, undef, undef, .int .u64 0, .int .i64 0, .int .i64 0, .pointer (some ⟨s1, 0, none⟩), .int .i64 (x.1 : Int), .slice A n c, .int .i64 at_, .int .i64 width, .int .i64 0, .int .i64 0, .bool false, undef, .int .i64 at_, .int .i64 width, .bool big,
      .func (.func 48) #[] #[.pointer (some ⟨s1 + 1 + 1, 0, none⟩), .pointer (some ⟨s1 + 1, 0, none⟩), .pointer (some ⟨s1 + 1 + 2, 0, none⟩)], .int .i64 (x.1 : Int), undef, undef, undef, undef, undef, undef, undef, undef, undef], defers := [] }) ?assign ?body ?done ?stop
  case assign =>
    intro l x W K hK
    gi_wp2
    exact hK
  case body =>
    rintro l' pre x W ⟨⟨hc, hf, hcb'⟩, hB⟩ hlen
    obtain ⟨b, off, rfl, hb, hcs⟩ := (hr.below hB).at1 (k := x.1) x.2
    have hcx := hcs x.1 x.2
    have hx := x.2
    have hv : valBE (pre.map fun x => l.getD x.1 0) < 72057594037927936 := valBE_lt7 (fun b hb => by
      obtain ⟨y, _, rfl⟩ := List.mem_map.1 hb
      have hy : y.1 < l.length := by have := HL.out; have := y.2; omega
      have : l.getD y.1 0 = l[y.1] := by simp [hy]
      rw [this]; exact hok _ (List.getElem_mem hy)) (by simp; omega)
    have hbx : l.getD x.1 0 < 256 := by
      have hy : x.1 < l.length := by have := HL.out; omega
      have : l.getD x.1 0 = l[x.1] := by simp [hy]
      rw [this]; exact hok _ (List.getElem_mem hy)
    have hnext : valBE ((pre ++ [x]).map fun x => l.getD x.1 0) = 256 * valBE (pre.map fun x => l.getD x.1 0) + l.getD x.1 0 := by
      rw [List.map_append]; exact valBE_snoc _ _
    generalize l.getD x.1 0 = y at *
    generalize valBE (pre.map fun x => l.getD x.1 0) = v at *
    have HN := Lib.hid hnext
    clear hnext hcs hpl bN3 bA2 bW1 bB bN bA bW hcb0 hcb hlen hr
    have hor : bits .or .u64 (IntKind.u64.wrap ((v : Int) * 256)) (IntKind.u64.wrap (y : Int)) = ((256 * v + y : Nat) : Int) := or_byte v y hv hbx
    have HOR := Lib.hid hor
    clear hor
    have hlt0 : (0 : Int) ≤ (x.1 : Int) := Int.natCast_nonneg _
    have hlt2 : (x.1 : Int) < (n : Int) := by omega
    gi_wp2
    gi_region_with (fail)
    all_goals gi_wp2
    all_goals
      rw [HOR.out]
      exact ⟨keepsFrom_set _ _ _ _, keepsAt_set (.inl (by simp)) _, ⟨by rw [HN.out]; exact World.cell?_setCell_same' _ _ _ (by rw [hc]; rfl), (World.frozen?_setCell _ _ _ _).trans hf, (World.cell?_setCell_other _ _ _ _ (fun h => by injection h; omega)).trans hcb'⟩, below_set hB (by simp <;> omega) _⟩
  case done =>
    rintro D ys W hD rfl ⟨⟨hc, _⟩, hB⟩ hK
    have hfin : ((upto pl width).map fun x => l.getD x.1 0) = wordN l at_ width big := by
      unfold upto wordN
      rw [List.map_map]
      apply List.map_congr_left
      intro k hk
      simp only [Function.comp]
      rw [hpl k (List.mem_range.1 hk)]
    rw [hfin] at hc
    have HF := Lib.hid hpl
    clear hpl hfin
    gi_wp2
    refine ⟨by simp, .inl ⟨_, _, rfl, run_takeDeferred hK, ?_⟩⟩
    refine ⟨_, results_tmp2 rfl _ _ _, ?_⟩
    refine ⟨?_, hB.trans (belowK_b (w := w) (Nat.le_refl _) W D _ _ (by omega) hK rfl rfl)⟩
    rw [HG.out, ← HL.out, HW.out]
    rfl
  case stop =>
    rintro D c pre W _ _ h _
    exact h.elim
end Go.Proofs.YtpinnockcnmofaaGreatDoor
