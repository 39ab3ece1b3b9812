/-
  The walk of strainertop.all.
-/
import Derived.Test.YtpinnockcnmofaaGreatDoorInsts
namespace Go.Proofs.YtpinnockcnmofaaGreatDoor
open Go.RowKit

set_option maxRecDepth 100000 in
theorem allT_insts (l : List I) (hok : ∀ i ∈ l, i.Ok) (A : Option Addr) (n c : Nat) (w : World) (hr : Reads w w.heap.size 4 A n (cellsI l)) (hn : n ≤ 1000000) :
    Calls Tryz.prog 4 #[.slice A n c] w (MakesInsts l w) := by
  obtain ⟨i0, hi0, hz0, hz1, hz2⟩ := info_parts info_inst
  have hl : n = l.length := by have := hr.1; rw [cellsI_length] at this; omega
  have Hl := Lib.hid hl
  clear hl
  go_enter Tryz.func4, Tryz.ntmps4
  go_wp2_with fail
  go_loopw [3, 4] (fun v i wr => ∃ k : Nat, k ≤ n ∧ i = .int .i64 k ∧ wr.ownsRow w.heap.size 47 4 v k (cellsI (l.take k)) ∧ Below w.heap.size w wr) (fun _ i _ => n - (intOf i).toNat)
  case atStart => exact ⟨0, by omega, rfl, World.ownsRow_nil _ _ _ _, Below.refl _ _⟩
  case round =>
    obtain ⟨k, hk, rfl, hown, hB⟩ := hrel
    by_cases hlt : k < n
    · obtain ⟨b, off, rfl, hb, h0, h1, h2, h3⟩ := (hr.below hB).at4 hlt
      have hok' := getD_ok hok (k := k) (by have := Hl.out; omega)
      generalize hx : l.getD k default = x at *
      obtain ⟨xc, xt, xf, xk⟩ := x
      obtain ⟨o1, o2, o3, o4⟩ := hok'
      simp only at h0 h1 h2 h3 o1 o2 o3 o4
      have hnk : n = l.length := Hl.out
      have hstep := take_snocI l k (by omega)
      rw [hx] at hstep
      clear hx hnk
      have HS := Lib.hid hstep
      clear hstep
      go_wp2_with fail
      have hz0' : (0 : Int) ≤ (k : Int) := Int.natCast_nonneg _
      have hz1' : (k : Int) < (n : Int) := by omega
      have ag : u3.ownBlock ≠ some b := fun e => by have := (hown.lt b e).1; omega
      have hsz := hB.size
      go_region_held3 (fun w' => w'.cell? ⟨b, off + k * 4, none⟩ = some (.int .u16 xc) ∧ w'.cell? ⟨b, off + k * 4 + 1, none⟩ = some (.int .u8 xt) ∧ w'.cell? ⟨b, off + k * 4 + 2, none⟩ = some (.int .u8 xf) ∧ w'.cell? ⟨b, off + k * 4 + 3, none⟩ = some (.int .u32 xk))
        (first
          | go_keep
          | (go_split_ands
             refine ⟨?_, ?_, ?_, ?_⟩ <;> (rw [hgrow.cell_far _ (by simp; omega) (Ne.symm ag)]; assumption)))
        ((refine step_append_lies _ (by rfl) _ _ _ (by rfl) w.heap.size 47 i0 _ 4 8 Tryz.underlying24 hi0 hz0 hz1 hz2 rfl (by omega) u3 k (cellsI (l.take k)) (by rfl) ((hown.alloc _).drew)
            ⟨wr.heap.size, 0, none⟩ 1 1 [.int .u16 xc, .int .u8 xt, .int .u8 xf, .int .u32 xk] (by rfl) (by rfl) (World.news_of_block (cs := #[.int .u16 xc, .int .u8 xt, .int .u8 xf, .int .u32 xk]) (t := 47) (fr := (0, 0)) (heap_alloc_new wr _)) (by simp [Value.oneCell'])
            (by omega) (by simp only [maxLen]; omega) (by omega) (by simp; omega) (wr.heap.size + 1) (by simp) ?_; intro gg cap w1 hown1 hgrow hat hlt1))
      go_wp2_with fail
      go_roundw
      case rel =>
        refine ⟨k + 1, by omega, by go_num, ?_, below_held hB hsz hgrow hown⟩
        rw [HS.out, cellsI_append]
        simpa [cellsI, I.vals] using hown1
      case measure => simp [intOf]; omega
    · obtain rfl : k = n := by omega
      have hfin : l.take k = l := List.take_of_length_le (by have := Hl.out; omega)
      have HF := Lib.hid hfin
      clear hfin hr
      go_wp2_with fail
      go_ret
      refine ⟨_, rfl, ?_, hB⟩
      rw [HF.out] at hown
      rw [← Hl.out]
      exact hown
end Go.Proofs.YtpinnockcnmofaaGreatDoor
