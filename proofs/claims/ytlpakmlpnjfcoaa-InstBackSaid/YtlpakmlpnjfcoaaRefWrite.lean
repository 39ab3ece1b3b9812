/-
  The walk of strainerref02.Write: the document's bytes of any instructions.
-/
import Derived.Test.YtlpakmlpnjfcoaaWalkWrite
import Derived.Laws.BitsAllLaws
namespace Go.Proofs.Ytlpakmlpnjfcoaa
open Go.RowKit

theorem writeI_wraps (xc xt xf xk : Nat) (o1 : xc < 65536) (o4 : xk < 4294967296) :
    #[Value.int IntKind.u8 (IntKind.u8.wrap ((xc : Int).tmod 256)), Value.int IntKind.u8 (IntKind.u8.wrap (IntKind.i64.wrap ((xc : Int) / 256))), Value.int IntKind.u8 (xt : Int),
        Value.int IntKind.u8 (xf : Int), Value.int IntKind.u8 (IntKind.u8.wrap ((xk : Int).tmod 256)),
        Value.int IntKind.u8 (IntKind.u8.wrap ((IntKind.i64.wrap ((xk : Int) / 256)).tmod 256)),
        Value.int IntKind.u8 (IntKind.u8.wrap ((IntKind.i64.wrap ((xk : Int) / 65536)).tmod 256)),
        Value.int IntKind.u8 (IntKind.u8.wrap (IntKind.i64.wrap ((xk : Int) / 16777216)))].toList = bytesV (writeI ⟨xc, xt, xf, xk⟩) := by
  have e : ∀ m : Int, 0 ≤ m → m < 4294967296 → IntKind.i64.wrap m = m := fun m h1 h2 => by rw [IntKind.wrap_i64]; omega
  have f : ∀ m : Int, 0 ≤ m → m.tmod 256 = m % 256 := fun m h => Int.tmod_eq_emod_of_nonneg h
  rw [e ((xc : Int) / 256) (by omega) (by omega), e ((xk : Int) / 256) (by omega) (by omega), e ((xk : Int) / 65536) (by omega) (by omega), e ((xk : Int) / 16777216) (by omega) (by omega),
    f _ (by omega), f _ (by omega), f _ (by omega), f _ (by omega)]
  simp only [IntKind.wrap_u8', bytesV, writeI, List.map_cons, List.map_nil]
  simp only [Int.natCast_emod, Int.natCast_ediv, Int.cast_ofNat_Int]
  have h1 : (xc : Int) / 256 % 256 = (xc : Int) / 256 := by omega
  have h2 : (xk : Int) / 16777216 % 256 = (xk : Int) / 16777216 := by omega
  rw [h1, h2]
  simp

set_option maxRecDepth 100000 in
theorem refWrite_any (l : List I) (hok : ∀ i ∈ l, i.Ok) (A : Option Addr) (n c : Nat) (w : World) (hr : Reads w w.heap.size 4 A n (cellsI l)) (hn : n ≤ 1000000) :
    Calls Try.prog 27 #[.slice A n c] w (MakesBytes (writeN l) w) := by
  obtain ⟨i0, hi0, hz0, hz1, hz2⟩ := info_parts info_u8
  have hl : n = l.length := by have := hr.1; rw [cellsI_length] at this; omega
  have Hl := Lib.hid hl
  clear hl
  go_enter Try.func27, Try.ntmps27
  go_wp2_with fail
  go_loopw [3, 4] (fun v i wr => ∃ k : Nat, k ≤ n ∧ i = .int .i64 k ∧ wr.ownsRow w.heap.size 5 1 v (8 * k) (bytesV (writeN (l.take k))) ∧ Below w.heap.size w wr) (fun _ i _ => n - (intOf i).toNat)
  case atStart => exact ⟨0, by omega, rfl, World.ownsRow_nil _ _ _ _, Below.refl _ _⟩
  case round =>
    obtain ⟨k, hk, rfl, hown, hB⟩ := hrel
    by_cases hlt : k < n
    · obtain ⟨b, off, rfl, hb, h0, h1, h2, h3⟩ := (hr.below hB).at4 hlt
      have hok' := getD_ok hok (k := k) (by have := Hl.out; omega)
      generalize hx : l.getD k default = x at *
      obtain ⟨xc, xt, xf, xk⟩ := x
      obtain ⟨o1, o2, o3, o4⟩ := hok'
      simp only at h0 h1 h2 h3 o1 o2 o3 o4
      have hnk : n = l.length := Hl.out
      have hstep := writeN_take l k (by omega)
      rw [hx] at hstep
      clear hx hnk
      have HS := Lib.hid hstep
      clear hstep
      have hz0' : (0 : Int) ≤ (k : Int) := Int.natCast_nonneg _
      have hz1' : (k : Int) < (n : Int) := by omega
      have ag : u3.ownBlock ≠ some b := fun e => by have := (hown.lt b e).1; omega
      have hsz := hB.size
      go_wp2_with fail
      go_quiet (fail)
      go_wp2_with fail
      have hown2 : (wr.drewN nq).ownsRow w.heap.size 5 1 u3 (8 * k) (bytesV (writeN (l.take k))) := hown
      have hB2 : Below w.heap.size w (wr.drewN nq) := ⟨hB.os, hB.tape, hB.output, hB.size, hB.block⟩
      have g1 : (wr.drewN nq).cell? ⟨b, off + k * 4 + 1, none⟩ = some (.int .u8 xt) := h1
      have g2 : (wr.drewN nq).cell? ⟨b, off + k * 4 + 2, none⟩ = some (.int .u8 xf) := h2
      have hsz2 : w.heap.size ≤ (wr.drewN nq).heap.size := hsz
      clear hown hB h0 h1 h2 h3 hsz hr
      generalize wr.drewN nq = wq at *
      go_region_held3 (fun w' => w'.cell? ⟨b, off + k * 4 + 1, none⟩ = some (.int .u8 xt) ∧ w'.cell? ⟨b, off + k * 4 + 2, none⟩ = some (.int .u8 xf))
        (first
          | go_keep
          | (go_split_ands
             refine ⟨?_, ?_⟩ <;> (rw [hgrow.cell_far _ (by simp; omega) (Ne.symm ag)]; assumption)))
        ((refine step_append_lies _ (by rfl) _ _ _ (by rfl) w.heap.size 5 i0 _ 1 1 Try.underlying31 hi0 hz0 hz1 hz2 rfl (by omega) u3 (8 * k) (bytesV (writeN (l.take k))) (by rfl) ((hown2.alloc _).drew)
            ⟨wq.heap.size, 0, none⟩ 8 8 _ (by rfl) (by rfl) (World.news_of_block (t := 5) (fr := (0, 0)) (heap_alloc_new wq _)) (by simp [Value.oneCell'])
            (by omega) (by simp only [maxLen]; omega) (by omega) (by simp; omega) (wq.heap.size + 1) (by simp) ?_; intro gg cap w1 hown1 hgrow hat hlt1))
      go_wp2_with fail
      go_roundw
      case rel =>
        refine ⟨k + 1, by omega, by go_num, ?_, below_held hB2 hsz2 hgrow hown2⟩
        rw [HS.out, bytesV_append, show 8 * (k + 1) = 8 * k + 8 by omega, ← writeI_wraps xc xt xf xk o1 o4]
        exact hown1
      case measure => simp [intOf]; omega
    · obtain rfl : k = n := by omega
      have hfin : l.take k = l := List.take_of_length_le (by have := Hl.out; omega)
      have HF := Lib.hid hfin
      clear hfin hr
      go_wp2_with fail
      go_ret
      refine ⟨_, rfl, ?_, hB⟩
      rw [HF.out] at hown
      rw [writeN_length, ← Hl.out]
      exact hown
end Go.Proofs.Ytlpakmlpnjfcoaa
