/-
  The walk of inst.Of: whatever the code, what it hands back, and that nothing that was there has changed.
-/
import Derived.Test.YtpinnockcnmofaaGreatDoorPlainOf
namespace Go.Proofs.YtpinnockcnmofaaGreatDoor
open Go.RowKit

set_option maxRecDepth 100000 in
theorem alone_any (w : World) : Calls Tryz.prog 40 #[] w fun e w' => e = .returned (.map (some w.heap.size)) ∧ w' = w.alloc (.map (IntMaps.lit .u16 aloneL) aloneL.length) := by
  go_enter Tryz.func40, Tryz.ntmps40
  go_wp2_with (first | refine IntMaps.wpList_make rfl 106 rfl .u16 w ?_ | refine IntMaps.wpList_insert rfl 106 (.tmp 1) .u16 _ _ rfl _ _ Tryz.underlying106 Tryz.underlying44 w _ (by decide) rfl (by decide) ?_)
  go_ret
  exact ⟨rfl, rfl⟩
set_option maxRecDepth 100000 in
theorem both_any (w : World) : Calls Tryz.prog 41 #[] w fun e w' => e = .returned (.map (some w.heap.size)) ∧ w' = w.alloc (.map (IntMaps.lit .u16 bothL) bothL.length) := by
  go_enter Tryz.func41, Tryz.ntmps41
  go_wp2_with (first | refine IntMaps.wpList_make rfl 106 rfl .u16 w ?_ | refine IntMaps.wpList_insert rfl 106 (.tmp 1) .u16 _ _ rfl _ _ Tryz.underlying106 Tryz.underlying44 w _ (by decide) rfl (by decide) ?_)
  go_ret
  exact ⟨rfl, rfl⟩
theorem zeroKind (w : World) : (zeroValue 71).run Tryz.prog w = .ok (.int .i64 0) w := by kernel_rfl

theorem alloc2 (w : World) (o p : Obj) : ((w.alloc o).alloc p).heap[w.heap.size + 1]? = some p := by
  have := heap_alloc_new (w.alloc o) p
  rwa [World.size_alloc] at this
set_option maxRecDepth 100000 in
theorem of_one (c : Int) (w : World) (hc : (Lit.int .u16 c).wf = true) (k : Int) (h1 : IntMaps.look aloneL c = some (.int .i64 k)) : Calls Tryz.prog 21 #[.int .u16 c] w fun e w' => e = .returned (.tuple #[.int .i64 k, .bool false, .bool true]) ∧ Below w.heap.size w w' := by
  have H1 := Lib.hid h1
  clear h1
  go_enter Tryz.func21, Tryz.ntmps21
  go_wp2_with (first 
    | (go_at_call 40; refine (alone_any _).mono ?_; rintro e w' ⟨rfl, rfl⟩)
    | (refine IntMaps.wpList_lookup rfl 106 (.tmp 6) (.tmp 7) rfl _ _ .u16 Tryz.underlying106 Tryz.underlying44 _ w.heap.size aloneL aloneL.length c _ _ rfl rfl hc zeroKind (heap_alloc_new _ _) H1.out ?_))
  go_ret3
  exact ⟨rfl, (Below.refl _ _).alloc (Nat.le_refl _) _⟩
set_option maxRecDepth 100000 in
theorem of_two (c : Int) (w : World) (hc : (Lit.int .u16 c).wf = true) (hd : (Lit.int .u16 (bits .andNot .u16 c 8)).wf = true) (h1 : IntMaps.look aloneL c = none) (k : Int) (h2 : IntMaps.look bothL (bits .andNot .u16 c 8) = some (.int .i64 k)) :
    Calls Tryz.prog 21 #[.int .u16 c] w fun e w' => e = .returned (.tuple #[.int .i64 k, .bool (bits .and .u16 c 8 != 0), .bool true]) ∧ Below w.heap.size w w' := by
  have H1 := Lib.hid h1
  clear h1
  have H2 := Lib.hid h2
  clear h2
  generalize hx : bits .andNot .u16 c 8 = x at *
  have HX := Lib.hid hx
  clear hx
  go_enter Tryz.func21, Tryz.ntmps21
  go_wp2_with (first 
    | (go_at_call 40; refine (alone_any _).mono ?_; rintro e w' ⟨rfl, rfl⟩)
    | (refine IntMaps.wpList_lookup rfl 106 (.tmp 6) (.tmp 7) rfl _ _ .u16 Tryz.underlying106 Tryz.underlying44 _ w.heap.size aloneL aloneL.length c _ _ rfl rfl hc zeroKind (heap_alloc_new _ _) H1.out ?_)
    | (refine IntMaps.wpList_lookup rfl 106 (.tmp 14) (.tmp 16) rfl _ _ .u16 Tryz.underlying106 Tryz.underlying44 _ (w.heap.size + 1) bothL bothL.length x _ _ rfl (congrArg (Value.int .u16) HX.out) hd zeroKind (alloc2 _ _ _) H2.out ?_)
    | (go_at_call 41; refine (both_any _).mono ?_; rintro e w' ⟨rfl, rfl⟩))
  go_ret3
  exact ⟨rfl, ((Below.refl _ _).alloc (Nat.le_refl _) _).alloc (by simp) _⟩

set_option maxRecDepth 100000 in
theorem of_three (c : Int) (w : World) (hc : (Lit.int .u16 c).wf = true) (hd : (Lit.int .u16 (bits .andNot .u16 c 8)).wf = true) (h1 : IntMaps.look aloneL c = none) (h2 : IntMaps.look bothL (bits .andNot .u16 c 8) = none) :
    Calls Tryz.prog 21 #[.int .u16 c] w fun e w' => e = .returned (.tuple #[.int .i64 0, .bool false, .bool false]) ∧ Below w.heap.size w w' := by
  have H1 := Lib.hid h1
  clear h1
  have H2 := Lib.hid h2
  clear h2
  generalize hx : bits .andNot .u16 c 8 = x at *
  have HX := Lib.hid hx
  clear hx
  go_enter Tryz.func21, Tryz.ntmps21
  go_wp2_with (first 
    | (go_at_call 40; refine (alone_any _).mono ?_; rintro e w' ⟨rfl, rfl⟩)
    | (refine IntMaps.wpList_lookup rfl 106 (.tmp 6) (.tmp 7) rfl _ _ .u16 Tryz.underlying106 Tryz.underlying44 _ w.heap.size aloneL aloneL.length c _ _ rfl rfl hc zeroKind (heap_alloc_new _ _) H1.out ?_)
    | (refine IntMaps.wpList_lookup rfl 106 (.tmp 14) (.tmp 16) rfl _ _ .u16 Tryz.underlying106 Tryz.underlying44 _ (w.heap.size + 1) bothL bothL.length x _ _ rfl (congrArg (Value.int .u16) HX.out) hd zeroKind (alloc2 _ _ _) H2.out ?_)
    | (go_at_call 41; refine (both_any _).mono ?_; rintro e w' ⟨rfl, rfl⟩))
  go_ret3
  exact ⟨rfl, ((Below.refl _ _).alloc (Nat.le_refl _) _).alloc (by simp) _⟩

/-- What is told of a code by inst.Of. -/
def GivesOf (c : Nat) (w : World) (e : Ending) (w' : World) : Prop := e = .returned (.tuple #[.int .i64 ((ofN c).1 : Nat), .bool (ofN c).2, .bool ((((ofN c).1 : Nat) : Int) != 0)]) ∧ Below w.heap.size w w'

/-- **inst.Of.** -/
theorem of_any (c : Nat) (hc : c < 65536) (w : World) : Calls Tryz.prog 21 #[.int .u16 c] w fun e w' =>
    e = .returned (.tuple #[.int .i64 ((ofN c).1 : Nat), .bool (ofN c).2, .bool ((ofN c).1 != 0)]) ∧ Below w.heap.size w w' := by
  have hwf : (Lit.int .u16 (c : Int)).wf = true := by go_wf
  have hle := kindA_le c
  by_cases h1 : kindA c = 0
  · have hl1 : IntMaps.look aloneL c = none := by rw [lookA_eq]; unfold lookA; rw [if_pos h1]
    obtain ⟨d, hd, hdl⟩ : ∃ d, d = (if c / 8 % 2 = 1 then c - 8 else c) ∧ d < 65536 := ⟨_, rfl, by split <;> omega⟩
    have hb : bits .andNot .u16 (c : Int) 8 = (d : Int) := by rw [andNot8 c hc, hd]
    have hwd : (Lit.int .u16 (bits .andNot .u16 (c : Int) 8)).wf = true := by rw [hb]; go_wf
    by_cases h2 : kindB d = 0
    · refine (of_three c w hwf hwd hl1 (by rw [hb, lookB_eq]; unfold lookB; rw [if_pos h2])).mono ?_
      rintro e w' ⟨rfl, hB⟩
      refine ⟨?_, hB⟩
      have : ofN c = (0, false) := by
        unfold ofN
        rw [if_neg (by omega)]
        subst hd
        by_cases hb8 : c / 8 % 2 = 1
        · rw [if_pos hb8] at h2 ⊢; rw [h2]; rfl
        · rw [if_neg hb8] at h2 ⊢; rw [h2]
      rw [this]; rfl
    · refine (of_two c w hwf hwd hl1 (kindB d) (by rw [hb, lookB_eq]; unfold lookB; rw [if_neg h2])).mono ?_
      rintro e w' ⟨rfl, hB⟩
      refine ⟨?_, hB⟩
      have : ofN c = (kindB d, decide (c / 8 % 2 = 1)) := by
        unfold ofN
        rw [if_neg (by omega)]
        subst hd
        by_cases hb8 : c / 8 % 2 = 1
        · rw [if_pos hb8] at h2 ⊢; rw [if_pos hb8]; simp [h2, hb8]
        · rw [if_neg hb8] at h2 ⊢; rw [if_neg hb8]; simp [hb8]
      rw [this, and8 c hc]
      simp [h2]
  · refine (of_one c w hwf (kindA c) (by rw [lookA_eq]; unfold lookA; rw [if_neg h1])).mono ?_
    rintro e w' ⟨rfl, hB⟩
    refine ⟨?_, hB⟩
    have : ofN c = (kindA c, false) := by unfold ofN; rw [if_pos h1]
    rw [this]
    simp [h1]
theorem of_gives (c : Nat) (hc : c < 65536) (w : World) : Calls Tryz.prog 21 #[.int .u16 c] w (GivesOf c w) :=
  (of_any c hc w).mono fun e w' ⟨he, hB⟩ => ⟨by
    have : ((((ofN c).1 : Nat) : Int) != 0) = ((ofN c).1 != 0) := by
      rw [Bool.eq_iff_iff]; simp
    rw [he, this], hB⟩
end Go.Proofs.YtpinnockcnmofaaGreatDoor
