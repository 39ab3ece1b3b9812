/-
  An argument [8]byte opened.
-/
import Derived.Test.YtpinnockcnmofaaGreatDoorOpen
import Derived.OpenShut
/-! An argument [8]byte opened. -/
namespace Go.Proofs.YtpinnockcnmofaaGreatDoor
open Go.ChangeShapes Go.WideShapes Go.ChangeAt Go.RowKit
set_option linter.unusedVariables false

/-- Bytes by value. -/
structure Arr8V where
  l : List Nat
def Arr8V.val (x : Arr8V) : Value := .agg (bytesV x.l).toArray
def Arr8V.Ok (x : Arr8V) : Prop := x.l.length = 8 ∧ ∀ b ∈ x.l, b < 256

section
variable {H : Type} {enc : TypeId × Value → H} {P : Program} {w : World} {base : Nat} {spare : Nat → Bool} {held : Bool}
theorem okWide_array {n : Nat} {t e : TypeId} {r : Reach} {b0 : Nat} {v : Value} (ht : P.underlying t = some (.array n e)) (h : Value.okWide P w r b0 t v) : ∃ cs, v = .agg cs ∧ cs.size = P.cellsOf t := by
  simp only [Value.okWide, ht] at h
  obtain ⟨cs, h1, h2, _⟩ := h
  exact ⟨cs, h1, h2⟩
theorem open_arr8 {t e : TypeId} (ht : P.underlying t = some (.array 8 e)) (he : P.underlying e = some (.int .u8)) (hC : P.cellsOf t = 8) (hCe : P.cellsOf e = 1)
    {r : Reach} {b0 : Nat} {v : Value} {d : DataW H} {p : List MemPlace} (hv : Value.okWide P w r b0 t v) (h : DataW.Trod enc P w base spare held t v d p) : ∃ x : Arr8V, x.Ok ∧ v = x.val := by
  obtain ⟨cs, rfl, hsz⟩ := okWide_array ht hv
  obtain ⟨fuel, hf⟩ := h
  obtain ⟨xs, m, _, _, hl, hxl, hx⟩ := DataW.trod_array ht hf
  have hb : ∀ i, i < 8 → ∃ n : Nat, cs[i]? = some (.int .u8 n) ∧ n < 256 := by
    intro i hi
    have h1 := hx i hi
    rw [hCe, List.getElem?_eq_getElem (by omega : i < xs.length)] at h1
    have h2 : ((Value.agg cs).cells.toList.drop (i * 1)).take 1 = [cs[i]'(by omega)] := by
      simp [Value.cells, List.take_one, List.head?_drop]
    rw [h2] at h1
    obtain ⟨m0, e0, _, w0⟩ := DataW.trod_int he h1
    obtain ⟨n, rfl, hn⟩ := nat_u8 w0
    refine ⟨n, ?_, hn⟩
    rw [Array.getElem?_eq_getElem (by omega)]
    injection e0 with e0
    rw [e0]
  have hc : ∃ f : Nat → Nat, ∀ i, i < 8 → cs[i]? = some (.int .u8 (f i : Nat)) ∧ f i < 256 := by
    refine ⟨fun i => if h : i < 8 then (hb i h).choose else 0, fun i hi => ?_⟩
    simp only [hi, dif_pos]
    exact (hb i hi).choose_spec
  obtain ⟨f, hf8⟩ := hc
  refine ⟨⟨(List.range 8).map f⟩, ⟨by simp, fun b hb => ?_⟩, ?_⟩
  · obtain ⟨i, hi, rfl⟩ := List.mem_map.1 hb
    exact (hf8 i (List.mem_range.1 hi)).2
  · unfold Arr8V.val
    congr 1
    apply Array.ext_getElem?
    intro i
    by_cases hi : i < 8
    · rw [(hf8 i hi).1]
      simp [bytesV, hi]
    · rw [Array.getElem?_eq_none (by omega), Array.getElem?_eq_none (by simp [bytesV]; omega)]
end
end Go.Proofs.YtpinnockcnmofaaGreatDoor

/-! An argument [64]byte opened. -/
namespace Go.Proofs.YtpinnockcnmofaaGreatDoor
open Go.ChangeShapes Go.WideShapes Go.ChangeAt Go.RowKit
set_option linter.unusedVariables false

/-- Bytes by value. -/
structure Arr64V where
  l : List Nat
def Arr64V.val (x : Arr64V) : Value := .agg (bytesV x.l).toArray
def Arr64V.Ok (x : Arr64V) : Prop := x.l.length = 64 ∧ ∀ b ∈ x.l, b < 256

section
variable {H : Type} {enc : TypeId × Value → H} {P : Program} {w : World} {base : Nat} {spare : Nat → Bool} {held : Bool}
theorem open_arr64 {t e : TypeId} (ht : P.underlying t = some (.array 64 e)) (he : P.underlying e = some (.int .u8)) (hC : P.cellsOf t = 64) (hCe : P.cellsOf e = 1)
    {r : Reach} {b0 : Nat} {v : Value} {d : DataW H} {p : List MemPlace} (hv : Value.okWide P w r b0 t v) (h : DataW.Trod enc P w base spare held t v d p) : ∃ x : Arr64V, x.Ok ∧ v = x.val := by
  obtain ⟨cs, rfl, hsz⟩ := okWide_array ht hv
  obtain ⟨fuel, hf⟩ := h
  obtain ⟨xs, m, _, _, hl, hxl, hx⟩ := DataW.trod_array ht hf
  have hb : ∀ i, i < 64 → ∃ n : Nat, cs[i]? = some (.int .u8 n) ∧ n < 256 := by
    intro i hi
    have h1 := hx i hi
    rw [hCe, List.getElem?_eq_getElem (by omega : i < xs.length)] at h1
    have h2 : ((Value.agg cs).cells.toList.drop (i * 1)).take 1 = [cs[i]'(by omega)] := by
      simp [Value.cells, List.take_one, List.head?_drop]
    rw [h2] at h1
    obtain ⟨m0, e0, _, w0⟩ := DataW.trod_int he h1
    obtain ⟨n, rfl, hn⟩ := nat_u8 w0
    refine ⟨n, ?_, hn⟩
    rw [Array.getElem?_eq_getElem (by omega)]
    injection e0 with e0
    rw [e0]
  have hc : ∃ f : Nat → Nat, ∀ i, i < 64 → cs[i]? = some (.int .u8 (f i : Nat)) ∧ f i < 256 := by
    refine ⟨fun i => if h : i < 64 then (hb i h).choose else 0, fun i hi => ?_⟩
    simp only [hi, dif_pos]
    exact (hb i hi).choose_spec
  obtain ⟨f, hf64⟩ := hc
  refine ⟨⟨(List.range 64).map f⟩, ⟨by simp, fun b hb => ?_⟩, ?_⟩
  · obtain ⟨i, hi, rfl⟩ := List.mem_map.1 hb
    exact (hf64 i (List.mem_range.1 hi)).2
  · unfold Arr64V.val
    congr 1
    apply Array.ext_getElem?
    intro i
    by_cases hi : i < 64
    · rw [(hf64 i hi).1]
      simp [bytesV, hi]
    · rw [Array.getElem?_eq_none (by omega), Array.getElem?_eq_none (by simp [bytesV]; omega)]
end
end Go.Proofs.YtpinnockcnmofaaGreatDoor
