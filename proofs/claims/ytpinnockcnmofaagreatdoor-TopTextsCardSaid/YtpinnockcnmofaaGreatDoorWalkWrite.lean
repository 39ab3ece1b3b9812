/-
  The walk of inst.Write: the bytes of any instructions.
-/
import Derived.Test.YtpinnockcnmofaaGreatDoorCloneB
import Derived.Test.YtpinnockcnmofaaGreatDoorData
namespace Go.Proofs.YtpinnockcnmofaaGreatDoor
open Go.RowKit



set_option maxRecDepth 100000 in
theorem write_any (l : List I) (hok : ∀ i ∈ l, i.Ok) (A : Option Addr) (n c : Nat) (w : World) (hr : Reads w w.heap.size 4 A n (cellsI l)) (hn : n ≤ 1000000) :
    Calls Tryz.prog 6 #[.slice A n c] w (MakesBytes (writeN l) w) := by
  obtain ⟨i0, hi0, hz0, hz1, hz2⟩ := info_parts info_u8
  have hl : n = l.length := by have := hr.1; rw [cellsI_length] at this; omega
  have Hl := Lib.hid hl
  clear hl
  go_enter Tryz.func6, Tryz.ntmps6
  go_wp2_with fail
  go_loopw [3, 8] (fun v i wr => ∃ k : Nat, k ≤ n ∧ i = .int .i64 k ∧ wr.ownsRow w.heap.size 5 1 v (8 * k) (bytesV (writeN (l.take k))) ∧ Below w.heap.size w wr) (fun _ i _ => n - (intOf i).toNat)
  case atStart => exact ⟨0, by omega, rfl, World.ownsRow_nil _ _ _ _, Below.refl _ _⟩
  case round =>
    obtain ⟨k, hk, rfl, hown, hB⟩ := hrel
    by_cases hlt : k < n
    · obtain ⟨b, off, rfl, hb, h0, h1, h2, h3⟩ := (hr.below hB).at4 hlt
      have hok' := getD_ok hok (k := k) (by have := Hl.out; omega)
      generalize hx : l.getD k default = x at *
      obtain ⟨xc, xt, xf, xk⟩ := x
      obtain ⟨o1, o2, o3, o4⟩ := hok'
      simp only at h0 h1 h2 h3 o1 o2 o3 o4
      have hnk : n = l.length := Hl.out
      have hstep := writeN_take l k (by omega)
      rw [hx] at hstep
      clear hx hnk
      have HS := Lib.hid hstep
      clear hstep
      go_wp2_with (at_builtin; refine wpList_append_lit rfl (.tmp 12) (.tmp 39) 29 rfl w.heap.size 5 i0 _ 1 1 Tryz.underlying29 hi0 hz0 hz1 hz2 rfl (by omega) _ _ _ _ rfl (hown.alloc _) _ 8 8 (by simp) _ rfl rfl (by simp [Value.oneCell']) (by simp only [maxLen]; omega) (by omega) (by have := hB.size; simp; omega) ?_; intro v' w1 hown1 hB1 hs1)
      go_roundw
      case rel =>
        refine ⟨k + 1, by omega, by go_num, ?_, hB.trans (((Below.refl _ _).alloc hB.size _).trans hB1)⟩
        rw [HS.out, bytesV_append, show 8 * (k + 1) = 8 * k + 8 by omega]
        simpa [bytesV, writeI] using hown1
      case measure => simp [intOf]; omega
    · obtain rfl : k = n := by omega
      have hfin : l.take k = l := List.take_of_length_le (by have := Hl.out; omega)
      have HF := Lib.hid hfin
      clear hfin hr
      go_wp2_with fail
      go_ret
      refine ⟨_, rfl, ?_, hB⟩
      rw [HF.out] at hown
      rw [writeN_length, ← Hl.out]
      exact hown
end Go.Proofs.YtpinnockcnmofaaGreatDoor
