/-
  strconv.FormatUint at base 10 of numbers of 32 bits; list.decimal.
-/
import Derived.Test.YtpinnockcnmofaaGreatDoorShelfC
import Derived.Test.YtpinnockcnmofaaGreatDoorListPlain2
import Derived.Lib.AppendIntMem
import Derived.Lib.Walk
import Derived.Lib.ItoaMem
import Derived.Lib.Hide
import Derived.Test.YtpinnockcnmofaaGreatDoorWords
/-! strconv.FormatUint at base 10 of numbers of 32 bits; list.decimal. -/
namespace Go.Proofs.YtpinnockcnmofaaGreatDoor
open Go.RowKit Go.Sort
set_option linter.unusedVariables false

/-- The library's two tables that are read. -/
structure Tabs (w : World) : Prop where
  pow : Lib.TabIs Tryz.prog w "internal/strconv.uint64pow10" .u64 Lib.pow10Tab
  sp : Lib.TabIs Tryz.prog w "strings.asciiSpace" .u8 Lib.asciiSpaceTab
theorem Tabs.below {w w' : World} (h : Tabs w) {B : Nat} (hb : Below B w w') (hB : w.heap.size ≤ B) : Tabs w' :=
  ⟨Lib.tabBelow_of_tabIs h.pow w' (hb.mono hB |> fun h => by simpa using h), Lib.tabBelow_of_tabIs h.sp w' (hb.mono hB |> fun h => by simpa using h)⟩

set_option maxHeartbeats 6400000 in
set_option maxRecDepth 100000 in
theorem formatUint_in (u : Nat) (hu : u < 4294967296) (w : World) (htab : Lib.TabIs Tryz.prog w "internal/strconv.uint64pow10" .u64 Lib.pow10Tab) :
    Calls Tryz.prog 93 #[.int .u64 u, .int .i64 10] w fun e w' => e = .returned (.string ⟨(decN u).toArray⟩) ∧ Below w.heap.size w w' := by
  by_cases hs : u < 100
  · go_enter Tryz.func93, Tryz.ntmps93
    go_wp2_with (go_at_call 115; refine (sh_internal_strconv_small u hs _).mono ?_; rintro e w' ⟨rfl, rfl⟩)
    go_ret
    exact ⟨rfl, Below.refl _ _⟩
  · have hu1 : 1 ≤ u := by omega
    have hu64 : u < 18446744073709551616 := by omega
    have hnd20 : Lib.nDigits u ≤ 20 := by have := Lib.numDigits_eq u hu1 hu64; split at this <;> omega
    have hb3 : Lib.nDigits u ≤ 23 := by omega
    have hal : Tryz.prog.arrayLen 175 = 24 := by simp [Program.arrayLen, Tryz.underlying175]
    have hsl1 : ∀ W, (Instr.sliceAt 175 (.pointer (some ⟨w.heap.size, 0, none⟩)) none (some (.int .i64 (Lib.nDigits u : Int))) none).run Tryz.prog W = .ok (.slice (some ⟨w.heap.size, 0, none⟩) (Lib.nDigits u) 24) W := fun W => by
      rw [run_sliceAt_array_h W 175 ⟨w.heap.size, 0, none⟩ (by simp [Program.arrayLen, Program.elem, Tryz.underlying175]) .i64 (Lib.nDigits u : Int) (by omega) (by rw [hal]; omega)]
      go_simp
      try omega
    have hH0 : Holds (fun (b : UInt8) => Value.int .u8 (b.toNat : Int)) (w.alloc (.cells Lib.zeros24 175)) w.heap.size 0 (Array.replicate (Lib.nDigits u) (0 : UInt8)) := fun j hj => by
      have hj' : j < Lib.nDigits u := by simpa using hj
      refine ⟨?_, World.frozen?_alloc_new _ _ _ _⟩
      rw [World.cell?_alloc_new, Lib.zeros24_at _ (by omega), getElem!_pos _ j hj]
      simp
    have hfmt := sh_internal_strconv_formatBase10 w.heap.size 0 24 u (Array.replicate (Lib.nDigits u) 0) (w.alloc (.cells Lib.zeros24 175)) hH0 (by rw [Array.size_replicate]; exact Lib.lt_pow_nDigits u) hu64 (by rw [Array.size_replicate]; omega)
    rw [Array.size_replicate] at hfmt
    have HH0 := Lib.hid hH0
    clear hH0 hal
    go_enter Tryz.func93, Tryz.ntmps93
    go_wp2_with (first
      | (go_at_call 116; refine (sh_internal_strconv_numDigits u hu1 hu64 _ (Lib.tabIs_alloc htab _)).mono ?_; rintro e w' ⟨rfl, rfl⟩))
    refine hfmt.mono ?_
    rintro e w' ⟨rfl, k, v', dk, rfl, hF⟩
    have hcv : (convert 29 9 (.slice (some ⟨w.heap.size, 0, none⟩) (Lib.nDigits u) 24)).run Tryz.prog ((putRow (fun (b : UInt8) => Value.int .u8 (b.toNat : Int)) (w.alloc (.cells Lib.zeros24 175)) w.heap.size 0 dk).drewN k) = .ok (.string ⟨(Lib.decDigits u).toArray⟩) ((putRow (fun (b : UInt8) => Value.int .u8 (b.toNat : Int)) (w.alloc (.cells Lib.zeros24 175)) w.heap.size 0 dk).drewN k) := by
      have h := run_convert_bytes_back (P := Tryz.prog) ((putRow (fun (b : UInt8) => Value.int .u8 (b.toNat : Int)) (w.alloc (.cells Lib.zeros24 175)) w.heap.size 0 dk).drewN k) 29 9 5 ⟨w.heap.size, 0, none⟩ 24 (Lib.decDigits u) Tryz.underlying29 Tryz.underlying5 Tryz.underlying9 (fun j hj => by
        rw [Lib.row_is_numeral hF j hj, Lib.add_plain, World.cell?_drewN]
        exact cell?_putRow (fun (b : UInt8) => Value.int .u8 (b.toNat : Int)) _ w.heap.size 0 _ dk HH0.out (by rw [hF.size, Array.size_replicate]) j (by rw [hF.size]; rw [Lib.decDigits_length] at hj; exact hj))
      rw [Lib.decDigits_length] at h
      exact h
    go_wp2
    go_ret
    obtain ⟨os, eo⟩ := Lib.fin_at w (.cells Lib.zeros24 175) dk k 0
    refine ⟨rfl, ?_⟩
    rw [eo]
    exact Lib.below_grow _ w (Nat.le_refl _) k os

set_option maxRecDepth 100000 in
theorem decimal_any (u : Nat) (hu : u < 4294967296) (w : World) (ht : Tabs w) :
    Calls Tryz.prog 36 #[.int .u32 u] w fun e w' => e = .returned (.string ⟨(decN u).toArray⟩) ∧ Below w.heap.size w w' := by
  have HT := Lib.hid ht
  clear ht
  go_enter Tryz.func36, Tryz.ntmps36
  go_wp2_with fail
  have key : Calls Tryz.prog 61 #[.int .u64 u, .int .i64 10] w fun e w' => e = .returned (.string ⟨(decN u).toArray⟩) ∧ Below w.heap.size w w' := by
    go_enter Tryz.func61, Tryz.ntmps61
    go_wp2_with fail
    refine (formatUint_in u hu w (HT.out).pow).mono ?_
    rintro e w1 ⟨rfl, hB⟩
    go_wp2_with fail
    go_ret
    exact ⟨rfl, hB⟩
  refine key.mono ?_
  rintro e w1 ⟨rfl, hB⟩
  go_wp2_with fail
  go_ret
  exact ⟨rfl, hB⟩
end Go.Proofs.YtpinnockcnmofaaGreatDoor

/-! The walk of list.forms: how the kinds' lines look. -/
namespace Go.Proofs.YtpinnockcnmofaaGreatDoor
open Go.RowKit
set_option linter.unusedVariables false

def strV (b : Bs) : Value := .string ⟨b.toArray⟩
def Fm.vals (f : Fm) : List Value := [strV f.word, strV f.other, .int .u16 f.code, .bool f.x, .bool f.jumps]
def cellsF (l : List Fm) : List Value := l.flatMap Fm.vals
theorem cellsF_append (a b : List Fm) : cellsF (a ++ b) = cellsF a ++ cellsF b := by unfold cellsF; rw [List.flatMap_append]
theorem cellsF_length (l : List Fm) : (cellsF l).length = l.length * 5 := by
  induction l with
  | nil => rfl
  | cons i l ih => unfold cellsF at ih ⊢; rw [List.flatMap_cons, List.length_append, ih, List.length_cons]; simp [Fm.vals]; omega
def fmsC : List Fm := fmsA ++ (List.range 8).flatMap twoB ++ fmsX
theorem info_form : (Tryz.prog.info? 95).map (fun i => (i.zero, i.size, i.bytes)) = some (some (.agg #[.string ⟨#[]⟩, .string ⟨#[]⟩, .int .u16 0, .bool false, .bool false]), 5, 40) := by kernel_rfl
def textB : Bs := [97, 100, 100, 32, 115, 117, 98, 32, 109, 117, 108, 32, 100, 105, 118, 32, 111, 114, 32, 97, 110, 100, 32, 108, 115, 104, 32, 114, 115, 104]
def textJ : Bs := [106, 101, 113, 32, 106, 103, 116, 32, 106, 103, 101, 32, 106, 115, 101, 116]
theorem fields_B : Lib.fields textB = wordsB := by decide
theorem fields_J : Lib.fields textJ = wordsJ := by decide
theorem words_cell (ws : List Bs) (w : World) (k : Nat) (hk : k < ws.length) (t : TypeId) : (w.alloc (.cells (ws.map fun l => Value.string ⟨l.toArray⟩).toArray t)).cell? ⟨w.heap.size, k, none⟩ = some (strV (ws.getD k [])) := by
  rw [World.cell?_alloc_new]
  simp [strV, hk]

theorem fields_call (b : Bs) (ws : List Bs) (hf : Lib.fields b = ws) (ha : ∀ x ∈ b, x.toNat < 128) (hl : b.length < 1000) (w : World) (ht : Tabs w) :
    Calls Tryz.prog 59 #[.string ⟨b.toArray⟩] w fun e w' => e = .returned (.slice (some ⟨w.heap.size, 0, none⟩) ws.length ws.length) ∧ w' = w.alloc (.cells (ws.map strV).toArray 9) := by
  have h := sh_strings_Fields_laid ⟨b.toArray⟩ w (by show b.toArray.size < _; rw [List.size_toArray]; omega) (fun j x hx => ha x (List.mem_of_getElem? hx)) ht.sp
  rw [show (⟨b.toArray⟩ : ByteArray).data.toList = b from rfl, hf] at h
  exact h

set_option maxRecDepth 100000 in
set_option maxHeartbeats 8000000 in
theorem forms_any (w : World) (ht : Tabs w) :
    Calls Tryz.prog 33 #[] w fun e w' => ∃ v, e = .returned v ∧ w'.ownsRow w.heap.size 95 5 v 41 (cellsF fms) ∧ Below w.heap.size w w' := by
  obtain ⟨i0, hi0, hz0, hz1, hz2⟩ := info_parts info_form
  have HT := Lib.hid ht
  clear ht
  go_enter Tryz.func33, Tryz.ntmps33
  go_wp2_with fail
  generalize (Value.agg #[.string ⟨#[108, 100]⟩, .string ⟨#[91, 93]⟩, .int .u16 32, .bool false, .bool false]) = z0
  generalize (Value.agg #[.string ⟨#[108, 100]⟩, .string ⟨#[35]⟩, .int .u16 0, .bool false, .bool false]) = z1
  generalize (Value.agg #[.string ⟨#[108, 100]⟩, .string ⟨#[109, 91, 93]⟩, .int .u16 96, .bool false, .bool false]) = z2
  generalize (Value.agg #[.string ⟨#[108, 100]⟩, .string ⟨#[108, 101, 110]⟩, .int .u16 128, .bool false, .bool false]) = z3
  generalize (Value.agg #[.string ⟨#[108, 100, 120]⟩, .string ⟨#[35]⟩, .int .u16 1, .bool false, .bool false]) = z4
  generalize (Value.agg #[.string ⟨#[108, 100, 120]⟩, .string ⟨#[109, 91, 93]⟩, .int .u16 97, .bool false, .bool false]) = z5
  generalize (Value.agg #[.string ⟨#[108, 100, 120]⟩, .string ⟨#[108, 101, 110]⟩, .int .u16 129, .bool false, .bool false]) = z6
  generalize (Value.agg #[.string ⟨#[115, 116]⟩, .string ⟨#[109, 91, 93]⟩, .int .u16 2, .bool false, .bool false]) = z7
  generalize (Value.agg #[.string ⟨#[115, 116, 120]⟩, .string ⟨#[109, 91, 93]⟩, .int .u16 3, .bool false, .bool false]) = z8
  generalize (Value.agg #[.string ⟨#[116, 97, 120]⟩, .string ⟨#[]⟩, .int .u16 7, .bool false, .bool false]) = z9
  generalize (Value.agg #[.string ⟨#[116, 120, 97]⟩, .string ⟨#[]⟩, .int .u16 135, .bool false, .bool false]) = z10
  generalize (Value.agg #[.string ⟨#[110, 101, 103]⟩, .string ⟨#[]⟩, .int .u16 132, .bool false, .bool false]) = z11
  generalize (Value.agg #[.string ⟨#[106, 97]⟩, .string ⟨#[107]⟩, .int .u16 5, .bool false, .bool false]) = z12
  generalize (Value.agg #[.string ⟨#[114, 101, 116]⟩, .string ⟨#[35]⟩, .int .u16 6, .bool false, .bool false]) = z13
  generalize (Value.agg #[.string ⟨#[114, 101, 116]⟩, .string ⟨#[97]⟩, .int .u16 22, .bool false, .bool false]) = z14
  show Calls Tryz.prog 59 #[.string ⟨textB.toArray⟩] (w.alloc (.cells (cellsF fmsA).toArray 95)) _
  have own1 : (w.alloc (.cells (cellsF fmsA).toArray 95)).ownsRow w.heap.size 95 5 (.slice (some ⟨w.heap.size, 0, none⟩) 15 15) 15 (cellsF fmsA) :=
    ⟨by rw [cellsF_length]; rfl, .inr ⟨w.heap.size, 15, (cellsF fmsA).toArray, rfl, Nat.le_refl _, heap_alloc_new w _, Nat.le_refl _, by simp [maxLen], by rw [List.size_toArray, cellsF_length]; rfl, by rw [List.take_of_length_le (by show (cellsF fmsA).length ≤ _; rw [cellsF_length]; decide)]⟩⟩
  have hB1 : Below w.heap.size w (w.alloc (.cells (cellsF fmsA).toArray 95)) := (Below.refl _ w).alloc (Nat.le_refl _) _
  generalize w.alloc (.cells (cellsF fmsA).toArray 95) = W1 at *
  have hF := fields_call textB wordsB fields_B (by decide) (by decide) W1 ((HT.out).below hB1 (Nat.le_refl _))
  refine hF.mono ?_
  rintro e w2 ⟨rfl, rfl⟩
  have hw0 : w.heap.size < W1.heap.size := by
    rcases own1.2 with ⟨h, _⟩ | ⟨g, cap, cur, h1, _, h2, _⟩
    · cases h
    · cases h1
      exact (Array.getElem?_eq_some_iff.1 h2).1
  have hg2 : (W1.alloc (.cells (wordsB.map strV).toArray 9)).heap[W1.heap.size]? = some (.cells (wordsB.map strV).toArray 9 (0, 0)) := heap_alloc_new W1 _
  have own2 := own1.alloc (.cells (wordsB.map strV).toArray 9)
  have hB2 := hB1.alloc hB1.size (.cells (wordsB.map strV).toArray 9)
  have hs2 : (W1.alloc (.cells (wordsB.map strV).toArray 9)).heap.size = W1.heap.size + 1 := World.size_alloc ..
  clear hF own1 hB1
  generalize (W1.alloc (.cells (wordsB.map strV).toArray 9)) = W2 at *
  generalize hgw : W1.heap.size = g at *
  go_wp2_with fail
  go_loopw [1, 26] (fun y i wr => ∃ k : Nat, k ≤ 8 ∧ i = .int .i64 k ∧ wr.ownsRow w.heap.size 95 5 y (15 + 2 * k) (cellsF (fmsA ++ (List.range k).flatMap twoB)) ∧ y.ownBlock ≠ some g ∧ wr.heap[g]? = some (.cells (wordsB.map strV).toArray 9 (0, 0)) ∧ Below w.heap.size w wr) (fun y i _ => 8 - (intOf i).toNat)
  case atStart => exact ⟨0, by omega, rfl, own2, by simp [Value.ownBlock]; omega, hg2, hB2⟩
  case round =>
    obtain ⟨k, hk, rfl, hown, hne, hgk, hB⟩ := hrel
    clear hg2 own2 hB2 hs2
    by_cases hlt : k < 8
    · have hlt1 : (k : Int) < 8 := by omega
      have hc : wr.cell? ⟨g, k, none⟩ = some (strV (wordsB.getD k [])) := by
        rw [Lib.cell_of_heap hgk]
        have : k < wordsB.length := hlt
        simp [this]
      have hz0' : (0 : Int) ≤ (k : Int) := Int.natCast_nonneg _
      have hw1 : IntKind.u16.wrap (4 + 16 * (k : Int)) = 4 + 16 * (k : Int) := by rw [IntKind.wrap_u16]; omega
      have hw2 : IntKind.u16.wrap (4 + 16 * (k : Int) + 8) = 4 + 16 * (k : Int) + 8 := by rw [IntKind.wrap_u16]; omega
      unfold strV at hc
      generalize hwd : wordsB.getD k [] = wd at *
      obtain ⟨Ay, cy, rfl, -⟩ := own_reads hown
      have hownA := hown.alloc (.cells #[.string ⟨wd.toArray⟩, .string ⟨#[35]⟩, .int .u16 (4 + 16 * (k : Int)), .bool false, .bool false, .string ⟨wd.toArray⟩, .string ⟨#[120]⟩, .int .u16 (4 + 16 * (k : Int) + 8), .bool true, .bool false] 95)
      have hrA := reads_lit wr [.string ⟨wd.toArray⟩, .string ⟨#[35]⟩, .int .u16 (4 + 16 * (k : Int)), .bool false, .bool false, .string ⟨wd.toArray⟩, .string ⟨#[120]⟩, .int .u16 (4 + 16 * (k : Int) + 8), .bool true, .bool false] 95 5 2 rfl
      have hcells : cellsF (fmsA ++ (List.range (k + 1)).flatMap twoB) = cellsF (fmsA ++ (List.range k).flatMap twoB) ++ [.string ⟨wd.toArray⟩, .string ⟨#[35]⟩, .int .u16 (4 + 16 * (k : Int)), .bool false, .bool false, .string ⟨wd.toArray⟩, .string ⟨#[120]⟩, .int .u16 (4 + 16 * (k : Int) + 8), .bool true, .bool false] := by
        rw [List.range_succ, List.flatMap_append, ← List.append_assoc, cellsF_append]
        congr 1
        rw [List.flatMap_cons, List.flatMap_nil, List.append_nil]
        unfold twoB
        rw [hwd]
        simp [cellsF, Fm.vals, strV, opN, opX]
      have HC := Lib.hid hcells
      have hb1x : w.heap.size ≤ (wr.alloc (.cells #[.string ⟨wd.toArray⟩, .string ⟨#[35]⟩, .int .u16 (4 + 16 * (k : Int)), .bool false, .bool false, .string ⟨wd.toArray⟩, .string ⟨#[120]⟩, .int .u16 (4 + 16 * (k : Int) + 8), .bool true, .bool false] 95)).heap.size := by rw [World.size_alloc]; have := hB.size; omega
      have hml : 15 + 2 * k + 2 ≤ maxLen := by simp only [maxLen]; omega
      have hby : (15 + 2 * k + 2) * 40 ≤ 140737488355328 := by omega
      have hgl : g < wr.heap.size := (Array.getElem?_eq_some_iff.1 hgk).1
      have HK := Lib.hid (And.intro hne (And.intro hgk hB))
      clear hcells hown hne hgk hB hwd
      generalize cellsF (fmsA ++ (List.range k).flatMap twoB) = cc at *
      go_wp2_with (at_builtin; go_loud (refine wpList_append_any _ rfl (.tmp 35) (.tmp 43) 92 rfl w.heap.size 95 i0 _ 5 40 Tryz.underlying92 hi0 hz0 hz1 hz2 rfl (by omega) (.slice Ay (15 + 2 * k) cy) (15 + 2 * k) cc rfl hownA (wr.heap.size + 1) (some ⟨wr.heap.size, 0, none⟩) 2 2 [.string ⟨wd.toArray⟩, .string ⟨#[35]⟩, .int .u16 (4 + 16 * (k : Int)), .bool false, .bool false, .string ⟨wd.toArray⟩, .string ⟨#[120]⟩, .int .u16 (4 + 16 * (k : Int) + 8), .bool true, .bool false] rfl hrA (by simp [Value.oneCell']) hml hby hb1x ?_); intro v9 w9 own9 hg9 hat9)
      go_roundw
      case rel =>
        obtain ⟨hne, hgk, hB⟩ := HK.out
        refine ⟨k + 1, by omega, by go_num, ?_, ?_, ?_, ?_⟩
        · rw [HC.out, show 15 + 2 * (k + 1) = 15 + 2 * k + 2 by omega]; exact own9
        · rcases hat9 with h | h
          · rw [h]; exact hne
          · rw [h, World.size_alloc]; intro e; injection e with e; omega
        · exact (hg9.block g (by rw [World.size_alloc]; omega) (fun e => hne e.symm)).trans ((Lib.alloc_old wr _ g hgl).trans hgk)
        · exact ((hB.alloc hB.size _).grown hg9 hb1x (fun q e => (hownA.lt q e).1))
      case measure => simp [intOf]; omega
    · obtain rfl : k = 8 := by omega
      have hnl : ¬ ((8 : Nat) : Int) < 8 := by omega
      obtain ⟨Ay, cy, rfl, -⟩ := own_reads hown
      have hownA := hown.alloc (.cells #[.string ⟨#[120, 111, 114]⟩, .string ⟨#[35]⟩, .int .u16 164, .bool false, .bool false, .string ⟨#[120, 111, 114]⟩, .string ⟨#[120]⟩, .int .u16 172, .bool true, .bool false] 95)
      have hrA := reads_lit wr [.string ⟨#[120, 111, 114]⟩, .string ⟨#[35]⟩, .int .u16 164, .bool false, .bool false, .string ⟨#[120, 111, 114]⟩, .string ⟨#[120]⟩, .int .u16 172, .bool true, .bool false] 95 5 2 rfl
      have HC := Lib.hid (show cellsF fmsC = cellsF (fmsA ++ (List.range 8).flatMap twoB) ++ [.string ⟨#[120, 111, 114]⟩, .string ⟨#[35]⟩, .int .u16 164, .bool false, .bool false, .string ⟨#[120, 111, 114]⟩, .string ⟨#[120]⟩, .int .u16 172, .bool true, .bool false] by unfold fmsC; rw [cellsF_append]; rfl)
      have hb1x : w.heap.size ≤ (wr.alloc (.cells #[.string ⟨#[120, 111, 114]⟩, .string ⟨#[35]⟩, .int .u16 164, .bool false, .bool false, .string ⟨#[120, 111, 114]⟩, .string ⟨#[120]⟩, .int .u16 172, .bool true, .bool false] 95)).heap.size := by rw [World.size_alloc]; have := hB.size; omega
      have hml : 15 + 2 * 8 + 2 ≤ maxLen := by simp only [maxLen]; omega
      have hby : (15 + 2 * 8 + 2) * 40 ≤ 140737488355328 := by omega
      have HB := Lib.hid (hB.alloc hB.size (.cells #[.string ⟨#[120, 111, 114]⟩, .string ⟨#[35]⟩, .int .u16 164, .bool false, .bool false, .string ⟨#[120, 111, 114]⟩, .string ⟨#[120]⟩, .int .u16 172, .bool true, .bool false] 95))
      have hnl2 : ¬ ((8 : Nat) : Int) < (wordsB.length : Int) := by decide
      clear hown hne hgk hB
      generalize cellsF (fmsA ++ (List.range 8).flatMap twoB) = cc at *
      go_wp2_with (at_builtin; go_loud (refine wpList_append_any _ rfl (.tmp 46) (.tmp 49) 92 rfl w.heap.size 95 i0 _ 5 40 Tryz.underlying92 hi0 hz0 hz1 hz2 rfl (by omega) (.slice Ay (15 + 2 * 8) cy) (15 + 2 * 8) cc rfl hownA (wr.heap.size + 1) (some ⟨wr.heap.size, 0, none⟩) 2 2 [.string ⟨#[120, 111, 114]⟩, .string ⟨#[35]⟩, .int .u16 164, .bool false, .bool false, .string ⟨#[120, 111, 114]⟩, .string ⟨#[120]⟩, .int .u16 172, .bool true, .bool false] rfl hrA (by simp [Value.oneCell']) hml hby hb1x ?_); intro v9 w9 own9 hg9 hat9)
      have hB9 := (HB.out).grown hg9 hb1x (fun q e => (hownA.lt q e).1)
      rw [← HC.out] at own9
      clear HC hg9 hat9 hownA hrA HB hb1x hml hby hnl2 hnl
      have hF := fields_call textJ wordsJ fields_J (by decide) (by decide) w9 ((HT.out).below hB9 (Nat.le_refl _))
      refine hF.mono ?_
      rintro e w2 ⟨rfl, rfl⟩
      have hg2 : (w9.alloc (.cells (wordsJ.map strV).toArray 9)).heap[w9.heap.size]? = some (.cells (wordsJ.map strV).toArray 9 (0, 0)) := heap_alloc_new w9 _
      have hne9 : v9.ownBlock ≠ some w9.heap.size := fun e => by have := (own9.lt _ e).2; omega
      have own2 := own9.alloc (.cells (wordsJ.map strV).toArray 9)
      have hB2 := hB9.alloc hB9.size (.cells (wordsJ.map strV).toArray 9)
      clear hF own9 hB9
      generalize (w9.alloc (.cells (wordsJ.map strV).toArray 9)) = W3 at *
      generalize hgw2 : w9.heap.size = g2 at *
      go_wp2_with fail
      go_loopw [1, 53] (fun y i wr2 => ∃ k : Nat, k ≤ 4 ∧ i = .int .i64 k ∧ wr2.ownsRow w.heap.size 95 5 y (33 + 2 * k) (cellsF (fmsC ++ (List.range k).flatMap twoJ)) ∧ y.ownBlock ≠ some g2 ∧ wr2.heap[g2]? = some (.cells (wordsJ.map strV).toArray 9 (0, 0)) ∧ Below w.heap.size w wr2) (fun y i _ => 4 - (intOf i).toNat)
      case atStart => exact ⟨0, by omega, rfl, own2, hne9, hg2, hB2⟩
      case round =>
        obtain ⟨k, hk, rfl, hown, hne, hgk, hB⟩ := hrel
        clear hg2 own2 hB2 hne9
        by_cases hlt : k < 4
        · have hlt1 : (k : Int) < 4 := by omega
          have hlt2 : (k : Int) < (wordsJ.length : Int) := hlt1
          have hc : wr.cell? ⟨g2, k, none⟩ = some (strV (wordsJ.getD k [])) := by
            rw [Lib.cell_of_heap hgk]
            have : k < wordsJ.length := hlt
            simp [this]
          have hz0' : (0 : Int) ≤ (k : Int) := Int.natCast_nonneg _
          have hw1 : IntKind.u16.wrap (21 + 16 * (k : Int)) = 21 + 16 * (k : Int) := by rw [IntKind.wrap_u16]; omega
          have hw2 : IntKind.u16.wrap (21 + 16 * (k : Int) + 8) = 21 + 16 * (k : Int) + 8 := by rw [IntKind.wrap_u16]; omega
          unfold strV at hc
          generalize hwd : wordsJ.getD k [] = wd at *
          obtain ⟨Ay, cy, rfl, -⟩ := own_reads hown
          have hownA := hown.alloc (.cells #[.string ⟨wd.toArray⟩, .string ⟨#[35]⟩, .int .u16 (21 + 16 * (k : Int)), .bool false, .bool true, .string ⟨wd.toArray⟩, .string ⟨#[120]⟩, .int .u16 (21 + 16 * (k : Int) + 8), .bool true, .bool true] 95)
          have hrA := reads_lit wr [.string ⟨wd.toArray⟩, .string ⟨#[35]⟩, .int .u16 (21 + 16 * (k : Int)), .bool false, .bool true, .string ⟨wd.toArray⟩, .string ⟨#[120]⟩, .int .u16 (21 + 16 * (k : Int) + 8), .bool true, .bool true] 95 5 2 rfl
          have hcells : cellsF (fmsC ++ (List.range (k + 1)).flatMap twoJ) = cellsF (fmsC ++ (List.range k).flatMap twoJ) ++ [.string ⟨wd.toArray⟩, .string ⟨#[35]⟩, .int .u16 (21 + 16 * (k : Int)), .bool false, .bool true, .string ⟨wd.toArray⟩, .string ⟨#[120]⟩, .int .u16 (21 + 16 * (k : Int) + 8), .bool true, .bool true] := by
            rw [List.range_succ, List.flatMap_append, ← List.append_assoc, cellsF_append]
            congr 1
            rw [List.flatMap_cons, List.flatMap_nil, List.append_nil]
            unfold twoJ
            rw [hwd]
            simp [cellsF, Fm.vals, strV, opN, opX]
          have HC := Lib.hid hcells
          have hb1x : w.heap.size ≤ (wr.alloc (.cells #[.string ⟨wd.toArray⟩, .string ⟨#[35]⟩, .int .u16 (21 + 16 * (k : Int)), .bool false, .bool true, .string ⟨wd.toArray⟩, .string ⟨#[120]⟩, .int .u16 (21 + 16 * (k : Int) + 8), .bool true, .bool true] 95)).heap.size := by rw [World.size_alloc]; have := hB.size; omega
          have hml : 33 + 2 * k + 2 ≤ maxLen := by simp only [maxLen]; omega
          have hby : (33 + 2 * k + 2) * 40 ≤ 140737488355328 := by clear hml hb1x hcells HC; omega
          have hgl : g2 < wr.heap.size := (Array.getElem?_eq_some_iff.1 hgk).1
          have HK2 := Lib.hid (And.intro hne (And.intro hgk hB))
          clear hcells hown hne hgk hB hwd
          generalize cellsF (fmsC ++ (List.range k).flatMap twoJ) = cc at *
          go_wp2_with (at_builtin; go_loud (refine wpList_append_any _ rfl (.tmp 62) (.tmp 70) 92 rfl w.heap.size 95 i0 _ 5 40 Tryz.underlying92 hi0 hz0 hz1 hz2 rfl (by omega) (.slice Ay (33 + 2 * k) cy) (33 + 2 * k) cc rfl hownA (wr.heap.size + 1) (some ⟨wr.heap.size, 0, none⟩) 2 2 [.string ⟨wd.toArray⟩, .string ⟨#[35]⟩, .int .u16 (21 + 16 * (k : Int)), .bool false, .bool true, .string ⟨wd.toArray⟩, .string ⟨#[120]⟩, .int .u16 (21 + 16 * (k : Int) + 8), .bool true, .bool true] rfl hrA (by simp [Value.oneCell']) hml hby hb1x ?_); intro v9 w9 own9 hg9 hat9)
          go_roundw
          case rel =>
            obtain ⟨hne, hgk, hB⟩ := HK2.out
            refine ⟨k + 1, by omega, by go_num, ?_, ?_, ?_, ?_⟩
            · rw [HC.out, show 33 + 2 * (k + 1) = 33 + 2 * k + 2 by omega]; exact own9
            · rcases hat9 with h | h
              · rw [h]; exact hne
              · rw [h, World.size_alloc]; intro e; injection e with e; omega
            · exact (hg9.block g2 (by rw [World.size_alloc]; omega) (fun e => hne e.symm)).trans ((Lib.alloc_old wr _ g2 hgl).trans hgk)
            · exact ((hB.alloc hB.size _).grown hg9 hb1x (fun q e => (hownA.lt q e).1))
          case measure => simp [intOf]; omega
        · obtain rfl : k = 4 := by omega
          have hnl3 : ¬ ((4 : Nat) : Int) < (wordsJ.length : Int) := by decide
          have e41 : fmsC ++ (List.range 4).flatMap twoJ = fms := rfl
          rw [e41] at hown
          clear e41
          go_wp2_with fail
          go_ret
          exact ⟨_, rfl, hown, hB⟩
end Go.Proofs.YtpinnockcnmofaaGreatDoor

/-! The walks of a form's numbered and written; list.need. -/
namespace Go.Proofs.YtpinnockcnmofaaGreatDoor
open Go.RowKit
set_option linter.unusedVariables false

def Fm.val (f : Fm) : Value := .agg #[strV f.word, strV f.other, .int .u16 f.code, .bool f.x, .bool f.jumps]
theorem bytes_app (a b : Bs) : (⟨a.toArray⟩ : ByteArray) ++ ⟨b.toArray⟩ = ⟨(a ++ b).toArray⟩ := by
  apply ByteArray.ext
  simp [ByteArray.data_append]
theorem fms_ascii : ∀ f ∈ fms, ∀ b ∈ f.other, b.toNat < 128 := by decide
theorem numb_ascii : ∀ b ∈ ([91, 35, 107] : Bs), b.toNat < 128 := by decide

set_option maxRecDepth 100000 in
theorem numbered_any (f : Fm) (hf : f ∈ fms) (w : World) :
    Calls Tryz.prog 34 #[f.val] w fun e w' => e = .returned (.bool f.numbered) ∧ Below w.heap.size w w' := by
  have h1 := fms_ascii f hf
  have h2 := (word_lens f hf).2
  have hca := fun W => sh_strings_ContainsAny_laid ⟨f.other.toArray⟩ ⟨#[91, 35, 107]⟩ W (by show f.other.toArray.size < _; rw [List.size_toArray]; omega) (by decide) (fun j b hb => h1 b (List.mem_of_getElem? hb)) (fun j b hb => numb_ascii b (List.mem_of_getElem? hb))
  obtain ⟨wd, ot, c, x, j⟩ := f
  clear h1 h2 hf
  have HC := Lib.hid hca
  clear hca
  show Calls Tryz.prog 34 #[.agg #[.string ⟨wd.toArray⟩, .string ⟨ot.toArray⟩, .int .u16 c, .bool x, .bool j]] w _
  go_enter Tryz.func34, Tryz.ntmps34
  go_wp2_with fail
  refine ((HC.out) _).mono ?_
  rintro e w1 ⟨rfl, hB⟩
  go_wp2_with fail
  go_ret
  exact ⟨rfl, ((Below.refl _ w).alloc (Nat.le_refl _) _).trans (hB.mono (by simp))⟩

theorem written_str (a : ByteArray) (b : Bs) (h : a.data.toList = b) : Ending.returned (.string a) = Ending.returned (strV b) := by
  subst h; rfl
set_option maxRecDepth 100000 in
theorem written_any (f : Fm) (hf : f ∈ fms) (k : Bs) (hk : k.length ≤ 100000) (w : World) :
    Calls Tryz.prog 35 #[f.val, strV k] w fun e w' => e = .returned (strV (f.written k)) ∧ Below w.heap.size w w' := by
  have ho := fms_other f hf
  have b1 : ¬ 9223372036854775807 < 1 + List.length k := by omega
  have b2 : ¬ 9223372036854775807 < 1 + List.length k + 1 := by omega
  have b3 : ¬ 9223372036854775807 < 2 + List.length k := by omega
  have b4 : ¬ 9223372036854775807 < 2 + List.length k + 1 := by omega
  obtain ⟨wd, ot, c, x, j⟩ := f
  clear hf
  show Calls Tryz.prog 35 #[.agg #[.string ⟨wd.toArray⟩, .string ⟨ot.toArray⟩, .int .u16 c, .bool x, .bool j], .string ⟨k.toArray⟩] w fun e w' => e = .returned (strV (wrO ot k)) ∧ _
  rcases ho with h | h | h | h | h | h | h | h <;> (simp only at h; subst h)
  · rw [wrO_sq]
    unfold opSq
    go_enter Tryz.func35, Tryz.ntmps35
    go_wp2_with fail
    go_ret
    exact ⟨written_str _ _ (by simp), (Below.refl _ w).alloc (Nat.le_refl _) _⟩
  · rw [wrO_m]
    unfold opM
    go_enter Tryz.func35, Tryz.ntmps35
    go_wp2_with fail
    go_ret
    exact ⟨written_str _ _ (by simp), (Below.refl _ w).alloc (Nat.le_refl _) _⟩
  · rw [wrO_n]
    unfold opN
    go_enter Tryz.func35, Tryz.ntmps35
    go_wp2_with fail
    go_ret
    exact ⟨written_str _ _ (by simp), (Below.refl _ w).alloc (Nat.le_refl _) _⟩
  · rw [wrO_k]
    unfold opK
    go_enter Tryz.func35, Tryz.ntmps35
    go_wp2_with fail
    go_ret
    exact ⟨written_str _ _ (by simp), (Below.refl _ w).alloc (Nat.le_refl _) _⟩
  · rw [wrO_x]
    unfold opX
    go_enter Tryz.func35, Tryz.ntmps35
    go_wp2_with fail
    go_ret
    exact ⟨written_str _ _ (by simp), (Below.refl _ w).alloc (Nat.le_refl _) _⟩
  · rw [wrO_a]
    go_enter Tryz.func35, Tryz.ntmps35
    go_wp2_with fail
    go_ret
    exact ⟨written_str _ _ (by simp), (Below.refl _ w).alloc (Nat.le_refl _) _⟩
  · rw [wrO_l]
    go_enter Tryz.func35, Tryz.ntmps35
    go_wp2_with fail
    go_ret
    exact ⟨written_str _ _ (by simp), (Below.refl _ w).alloc (Nat.le_refl _) _⟩
  · rw [show wrO [] k = [] from rfl]
    go_enter Tryz.func35, Tryz.ntmps35
    go_wp2_with fail
    go_ret
    exact ⟨written_str _ _ (by simp), (Below.refl _ w).alloc (Nat.le_refl _) _⟩

set_option maxRecDepth 100000 in
theorem need_true (w : World) : Calls Tryz.prog 55 #[.bool true] w fun e w' => e = .returned (.tuple #[]) ∧ w' = w := by
  go_enter Tryz.func55, Tryz.ntmps55
  go_wp2_with fail
  go_end0
  exact ⟨rfl, rfl⟩
end Go.Proofs.YtpinnockcnmofaaGreatDoor
