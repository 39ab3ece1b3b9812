/-
  The walk of list.formed: words read as a form's.
-/
import Derived.Test.YtpinnockcnmofaaGreatDoorWalkInner3
import Derived.Test.YtpinnockcnmofaaGreatDoorFormsAt
import Derived.Test.YtpinnockcnmofaaGreatDoorInsts
import Derived.Deep.Cut
import Derived.Deep.CutRange
import Derived.Test.YtpinnockcnmofaaGreatDoorWalkVm9
import Derived.Test.YtpinnockcnmofaaGreatDoorGrow
import Derived.BigQuiet
import Derived.Deep.RegionWith
import Derived.Test.YtpinnockcnmofaaGreatDoorChunks4
import Derived.Deep.LoopGhost
import Derived.Laws.Rows
import Derived.Defers
import Derived.Recover
/-! The walk of list.formed: words read as a form's. -/
namespace Go.Proofs.YtpinnockcnmofaaGreatDoor
open Go.RowKit
set_option linter.unusedVariables false

/-- What a form reads of the words of another form's line. -/
structure Words1 (g : Fm) (i : I) (W : World) (bl ol n : Nat) : Prop where
  lt : bl < W.heap.size
  c0 : W.cell? ⟨bl, ol, none⟩ = some (strV g.word)
  len : n = (g.words i).length
  c1 : g.other ≠ [] → W.cell? ⟨bl, ol + 1, none⟩ = some (strV (g.written (decN i.k)))
  c2 : g.jumps = true → W.cell? ⟨bl, ol + 2, none⟩ = some (strV (decN i.jt))
  c3 : g.jumps = true → W.cell? ⟨bl, ol + 3, none⟩ = some (strV (decN i.jf))
theorem Words1.below {g : Fm} {i : I} {W W' : World} {bl ol n : Nat} (h : Words1 g i W bl ol n) (hB : Below W.heap.size W W') : Words1 g i W' bl ol n :=
  ⟨Nat.lt_of_lt_of_le h.lt hB.size, (hB.cell (p := ⟨bl, ol, none⟩) h.lt).trans h.c0, h.len, fun h1 => (hB.cell (p := ⟨bl, ol + 1, none⟩) h.lt).trans (h.c1 h1), fun h1 => (hB.cell (p := ⟨bl, ol + 2, none⟩) h.lt).trans (h.c2 h1), fun h1 => (hB.cell (p := ⟨bl, ol + 3, none⟩) h.lt).trans (h.c3 h1)⟩
theorem words_len (g : Fm) (i : I) : (g.words i).length = 1 + (if g.other = [] then 0 else 1) + (if g.jumps = true then 2 else 0) := by
  unfold Fm.words
  simp only [List.length_append, List.length_cons, List.length_nil]
  split <;> split <;> rfl
theorem fms_same : ∀ f ∈ fms, ∀ g ∈ fms, f.word = g.word → f.jumps = g.jumps := by decide

theorem fms_noempty : ∀ f ∈ fms, ∀ g ∈ fms, f.word = g.word → f ≠ g → f.other ≠ [] ∧ g.other ≠ [] := by decide
theorem written_len (f : Fm) (hf : f ∈ fms) (k : Bs) : (f.written k).length ≤ k.length + 3 := by
  unfold Fm.written
  rcases fms_other f hf with h | h | h | h | h | h | h | h <;> rw [h]
  · rw [wrO_sq]; simp
  · rw [wrO_m]; simp
  · rw [wrO_n]; simp
  · rw [wrO_k]; omega
  · rw [wrO_x]; simp [opX]
  · rw [wrO_a]; simp
  · rw [wrO_l]; simp
  · rw [show wrO [] k = [] from rfl]; simp

theorem inst_row {W : World} {g : Nat} {t : TypeId} {a b c d : Value} (h : RowK W g t 4 [a, b, c, d]) : W.heap[g]? = some (.cells #[a, b, c, d] t (0, 0)) := by
  obtain ⟨cur, hcur, hsz, htk⟩ := h
  have hcs : cur = #[a, b, c, d] := by
    apply Array.toList_inj.1
    rw [← htk, List.take_of_length_le (by simp [hsz])]
  rw [← hcs]
  exact hcur

set_option maxRecDepth 100000 in
set_option maxHeartbeats 8000000 in
theorem formed_no (f g : Fm) (hf : f ∈ fms) (hg : g ∈ fms) (hne : f ≠ g) (i : I) (hi : i.Ok) (bl ol n c : Nat) (w : World) (hw : Words1 g i w bl ol n) (ho : g.fits i = true) :
    Calls Tryz.prog 57 #[f.val, .slice (some ⟨bl, ol, none⟩) n c] w fun e w' => e = .returned (.tuple #[.agg #[.int .u16 0, .int .u8 0, .int .u8 0, .int .u32 0], .bool false]) ∧ Below w.heap.size w w' := by
  have hA := fms_inj f hf g hg
  have hJ := fms_same f hf g hg
  have hE := fms_noempty f hf g hg
  have hin : f.word = g.word → f.other ≠ [] → g.other ≠ [] → (innerN f (g.written (decN i.k))).2 = false := fun h1 h2 h3 => inner_other f g hf hg h2 h3 (fun e => hne (hA h1 e)) (decN i.k) (dec_ne _) (dec_digits _)
  have hinn := fun W => inner_any f hf (g.written (decN i.k)) (by
    have := (lineWords_clean i hi)
    have h2 := written_len g hg (decN i.k)
    have h3 := dec_len i.k hi.2.2.2
    omega) W
  obtain ⟨hlt, q0, hn, q1, q2, q3⟩ := hw
  have hB0 : Below w.heap.size w ((w.alloc (.cells #[.string ⟨f.word.toArray⟩, .string ⟨f.other.toArray⟩, .int .u16 f.code, .bool f.x, .bool f.jumps] 95)).alloc (.cells #[.int .u16 0, .int .u8 0, .int .u8 0, .int .u32 0] 47)) := ((Below.refl _ w).alloc (Nat.le_refl _) _).alloc (by simp) _
  have hf0 : ((w.alloc (.cells #[.string ⟨f.word.toArray⟩, .string ⟨f.other.toArray⟩, .int .u16 f.code, .bool f.x, .bool f.jumps] 95)).alloc (.cells #[.int .u16 0, .int .u8 0, .int .u8 0, .int .u32 0] 47)).heap[w.heap.size]? = some (.cells #[.string ⟨f.word.toArray⟩, .string ⟨f.other.toArray⟩, .int .u16 f.code, .bool f.x, .bool f.jumps] 95 (0, 0)) :=
    (Lib.alloc_old _ _ _ (by simp)).trans (heap_alloc_new w _)
  have hr0 : RowK ((w.alloc (.cells #[.string ⟨f.word.toArray⟩, .string ⟨f.other.toArray⟩, .int .u16 f.code, .bool f.x, .bool f.jumps] 95)).alloc (.cells #[.int .u16 0, .int .u8 0, .int .u8 0, .int .u32 0] 47)) (w.heap.size + 1) 47 4 [.int .u16 0, .int .u8 0, .int .u8 0, .int .u32 0] := by
    have := RowK.new (w.alloc (.cells #[.string ⟨f.word.toArray⟩, .string ⟨f.other.toArray⟩, .int .u16 f.code, .bool f.x, .bool f.jumps] 95)) 47 #[.int .u16 0, .int .u8 0, .int .u8 0, .int .u32 0] [.int .u16 0, .int .u8 0, .int .u8 0, .int .u32 0] rfl
    simpa using this
  have q0' := (hB0.cell (p := ⟨bl, ol, none⟩) hlt).trans q0
  have hs0 : ((w.alloc (.cells #[.string ⟨f.word.toArray⟩, .string ⟨f.other.toArray⟩, .int .u16 f.code, .bool f.x, .bool f.jumps] 95)).alloc (.cells #[.int .u16 0, .int .u8 0, .int .u8 0, .int .u32 0] 47)).heap.size = w.heap.size + 2 := by simp
  obtain ⟨wd, ot, fc, fx, fj⟩ := f
  simp only at hA hJ hE hin hB0 hf0 hr0 q0' hs0
  unfold strV at q0 q0' q1
  have HQ1 := Lib.hid q1
  have HNE := Lib.hid hne
  have HAA := Lib.hid hA
  have HJJ := Lib.hid hJ
  have HEE := Lib.hid hE
  have HIN := Lib.hid hin
  have HINN := Lib.hid hinn
  have HN := Lib.hid hn
  have HB0 := Lib.hid hB0
  have HF0 := Lib.hid hf0
  have HR0 := Lib.hid hr0
  clear q1 q2 q3 hA hJ hE hin hinn hn hB0 hf0 hr0 q0 hne
  show Calls Tryz.prog 57 #[.agg #[.string ⟨wd.toArray⟩, .string ⟨ot.toArray⟩, .int .u16 fc, .bool fx, .bool fj], .slice (some ⟨bl, ol, none⟩) n c] w _
  go_enter Tryz.func57, Tryz.ntmps57
  go_upto_region 1 with fail
  generalize ((w.alloc (.cells #[.string ⟨wd.toArray⟩, .string ⟨ot.toArray⟩, .int .u16 fc, .bool fx, .bool fj] 95)).alloc (.cells #[.int .u16 0, .int .u8 0, .int .u8 0, .int .u32 0] 47)) = W0 at *
  obtain ⟨f0, f1, f2, f3, f4⟩ : W0.cell? ⟨w.heap.size, 0, none⟩ = some (.string ⟨wd.toArray⟩) ∧ W0.cell? ⟨w.heap.size, 1, none⟩ = some (.string ⟨ot.toArray⟩) ∧ W0.cell? ⟨w.heap.size, 2, none⟩ = some (.int .u16 fc) ∧ W0.cell? ⟨w.heap.size, 3, none⟩ = some (.bool fx) ∧ W0.cell? ⟨w.heap.size, 4, none⟩ = some (.bool fj) := by
    have := HF0.out
    simp [World.cell?, this]
  have hn0 : (0 : Int) < (n : Int) := by have := HN.out; rw [words_len] at this; omega
  by_cases hwd : wd = g.word
  · subst hwd
    obtain ⟨ho1, ho2⟩ := (HEE.out) rfl HNE.out
    have hinn0 := (HIN.out) rfl ho1 ho2
    have q1 := (HQ1.out) ho2
    have q1' := ((HB0.out).cell (p := ⟨bl, ol + 1, none⟩) hlt).trans q1
    have hjj := (HJJ.out) rfl
    have hlen := HN.out
    rw [words_len, if_neg ho2, ← hjj] at hlen
    clear q1 HIN HEE HAA HQ1 HJJ HN hjj
    obtain ⟨o0, os, rfl⟩ := List.exists_cons_of_ne_nil ho1
    have hw11 : (g.word == g.word) = true := by simp
    have HI0 := Lib.hid hinn0
    clear hinn0
    cases fj
    all_goals
      simp only [Bool.false_eq_true, if_false, if_true, Nat.reduceAdd] at hlen
      subst hlen
      go_upto_region 6 with fail
      go_quiet (fail)
      have hB1 := below_drewNL HB0.out nq
      have hr1 : RowK (W0.drewN nq) (w.heap.size + 1) 47 4 [.int .u16 0, .int .u8 0, .int .u8 0, .int .u32 0] := (HR0.out).below (below_drewNL (Below.refl W0.heap.size W0) nq) (by omega)
      have hs1 : (W0.drewN nq).heap.size = w.heap.size + 2 := hs0
      have hB1' := below_drewNL (Below.refl W0.heap.size W0) nq
      have f2' := (hB1'.cell (p := ⟨w.heap.size, 2, none⟩) (by simp only; omega)).trans f2
      have f1' := (hB1'.cell (p := ⟨w.heap.size, 1, none⟩) (by simp only; omega)).trans f1
      have q1'' := (hB1'.cell (p := ⟨bl, ol + 1, none⟩) (by simp only; omega)).trans q1'
      have hf1 := (hB1'.block w.heap.size (by omega)).trans HF0.out
      clear f0 f1 f2 f3 f4 q0' q1' hB1'
      generalize W0.drewN nq = W1 at *
      have f1'' : ∀ o, (W1.alloc o).cell? ⟨w.heap.size, 1, none⟩ = some (.string ⟨(o0 :: os).toArray⟩) := fun o => (((Below.refl W1.heap.size W1).alloc (Nat.le_refl _) o).cell (p := ⟨w.heap.size, 1, none⟩) (by simp only; omega)).trans f1'
      go_upto_region 11 with fail
      have hB2 := hB1.alloc (by omega) (.cells #[.int .u16 fc, .int .u8 0, .int .u8 0, .int .u32 0] 47)
      have hr2 := hr1.alloc (.cells #[.int .u16 fc, .int .u8 0, .int .u8 0, .int .u32 0] 47)
      have hB2' := (Below.refl W1.heap.size W1).alloc (Nat.le_refl _) (.cells #[.int .u16 fc, .int .u8 0, .int .u8 0, .int .u32 0] 47)
      have q2 := (hB2'.cell (p := ⟨bl, ol + 1, none⟩) (by simp only; omega)).trans q1''
      have hf2 := (hB2'.block w.heap.size (by omega)).trans hf1
      have hs2 : (W1.alloc (.cells #[.int .u16 fc, .int .u8 0, .int .u8 0, .int .u32 0] 47)).heap.size = w.heap.size + 3 := by rw [World.size_alloc, hs1]
      generalize W1.alloc (.cells #[.int .u16 fc, .int .u8 0, .int .u8 0, .int .u32 0] 47) = W2 at *
      have k2 := as_cell q2
      have HB2 := Lib.hid hB2
      have HR2 := Lib.hid hr2
      have HF2 := Lib.hid hf2
      clear hB2 hr2 hf2 hB2' q2 f1'' f1' f2' q1'' hf1 hB1 hr1 HF0 HR0 HB0
      refine wp_region_grow (by kernel_rfl) (by kernel_rfl) ?_
      repeat (first
        | go_big_quiet_skip
        | (go_big_quiet_want
           first
             | (refine quiet_load_row 95 (.tmp 2) rfl w.heap.size rfl _ _ _ _ (as_row HF2.out) Tryz.underlying95 rfl (by kernel_rfl) ?_; simp only [Act.put, List.setIfInBounds_toArray, List.set_cons_succ, List.set_cons_zero]; go_big_quiet_on)
             | (go_big_quiet_op
                first
                  | go_big_quiet_on
                  | go_big_quiet_call (first
                      | (go_at_call 90; exact calls_grow (HINN.out _))))))
      refine wpQuiet_nil ?_
      intro w5 hg5
      rw [HI0.out]
      have hB5 := (HB2.out).trans (hg5.mono (by omega))
      have hr5 := (HR2.out).below hg5 (by omega)
      have a0 := hr5.cell (k := 0) rfl
      have a1 := hr5.cell (k := 1) rfl
      have a2 := hr5.cell (k := 2) rfl
      have a3 := hr5.cell (k := 3) rfl
      have e0 := hr5.frozen 0
      have e1 := hr5.frozen 1
      have e2 := hr5.frozen 2
      have e3 := hr5.frozen 3
      have HB5 := Lib.hid hB5
      have HR5 := Lib.hid hr5
      clear hB5 hr5 hg5 HB2 HR2 HF2 HINN HI0 k2
      go_wp2_with fail
      refine bodyPost_ret (v := .tuple #[.agg #[.int .u16 0, .int .u8 0, .int .u8 0, .int .u32 0], .bool false]) (results_ct (p := 4) (q := 5) (ty := 47) rfl _ _ (w.heap.size + 1) _ _ _ _ _ rfl rfl (inst_row (((((HR5.out).set_ 0 (.int .u16 0)).set_ 1 (.int .u8 0)).set_ 2 (.int .u8 0)).set_ 3 (.int .u32 0))) Tryz.underlying47 rfl (by kernel_rfl)) rfl ⟨rfl, ((((HB5.out).setCell (p := ⟨w.heap.size + 1, 0, none⟩) (by simp) _).setCell (p := ⟨w.heap.size + 1, 1, none⟩) (by simp) _).setCell (p := ⟨w.heap.size + 1, 2, none⟩) (by simp) _).setCell (p := ⟨w.heap.size + 1, 3, none⟩) (by simp) _⟩
  · have hbw : (g.word == wd) = false := by
      cases h : (g.word == wd) with
      | false => rfl
      | true => exact absurd (eq_of_beq h).symm hwd
    cases fj
    all_goals
      by_cases ho : ot = []
      · subst ho
        go_upto_region 6 with fail
        go_quiet (fail)
        have hB1 := below_drewNL HB0.out nq
        have hr1 : RowK (W0.drewN nq) (w.heap.size + 1) 47 4 [.int .u16 0, .int .u8 0, .int .u8 0, .int .u32 0] := (HR0.out).below (below_drewNL (Below.refl W0.heap.size W0) nq) (by omega)
        have hs1 : (W0.drewN nq).heap.size = w.heap.size + 2 := hs0
        generalize W0.drewN nq = W1 at *
        have a0 := hr1.cell (k := 0) rfl
        have a1 := hr1.cell (k := 1) rfl
        have a2 := hr1.cell (k := 2) rfl
        have a3 := hr1.cell (k := 3) rfl
        have e0 := hr1.frozen 0
        have e1 := hr1.frozen 1
        have e2 := hr1.frozen 2
        have e3 := hr1.frozen 3
        have HB1 := Lib.hid hB1
        have HR1 := Lib.hid hr1
        clear hB1 hr1 f0 f1 f2 f3 f4 q0'
        go_wp2_with fail
        refine bodyPost_ret (v := .tuple #[.agg #[.int .u16 0, .int .u8 0, .int .u8 0, .int .u32 0], .bool false]) (results_ct (p := 4) (q := 5) (ty := 47) rfl _ _ (w.heap.size + 1) _ _ _ _ _ rfl rfl (inst_row (((((HR1.out).set_ 0 (.int .u16 0)).set_ 1 (.int .u8 0)).set_ 2 (.int .u8 0)).set_ 3 (.int .u32 0))) Tryz.underlying47 rfl (by kernel_rfl)) rfl ⟨rfl, ((((HB1.out).setCell (p := ⟨w.heap.size + 1, 0, none⟩) (by simp) _).setCell (p := ⟨w.heap.size + 1, 1, none⟩) (by simp) _).setCell (p := ⟨w.heap.size + 1, 2, none⟩) (by simp) _).setCell (p := ⟨w.heap.size + 1, 3, none⟩) (by simp) _⟩
      · obtain ⟨o0, os, rfl⟩ := List.exists_cons_of_ne_nil ho
        go_upto_region 6 with fail
        go_quiet (fail)
        have hB1 := below_drewNL HB0.out nq
        have hr1 : RowK (W0.drewN nq) (w.heap.size + 1) 47 4 [.int .u16 0, .int .u8 0, .int .u8 0, .int .u32 0] := (HR0.out).below (below_drewNL (Below.refl W0.heap.size W0) nq) (by omega)
        have hs1 : (W0.drewN nq).heap.size = w.heap.size + 2 := hs0
        generalize W0.drewN nq = W1 at *
        have a0 := hr1.cell (k := 0) rfl
        have a1 := hr1.cell (k := 1) rfl
        have a2 := hr1.cell (k := 2) rfl
        have a3 := hr1.cell (k := 3) rfl
        have e0 := hr1.frozen 0
        have e1 := hr1.frozen 1
        have e2 := hr1.frozen 2
        have e3 := hr1.frozen 3
        have HB1 := Lib.hid hB1
        have HR1 := Lib.hid hr1
        clear hB1 hr1 f0 f1 f2 f3 f4 q0'
        go_wp2_with fail
        refine bodyPost_ret (v := .tuple #[.agg #[.int .u16 0, .int .u8 0, .int .u8 0, .int .u32 0], .bool false]) (results_ct (p := 4) (q := 5) (ty := 47) rfl _ _ (w.heap.size + 1) _ _ _ _ _ rfl rfl (inst_row (((((HR1.out).set_ 0 (.int .u16 0)).set_ 1 (.int .u8 0)).set_ 2 (.int .u8 0)).set_ 3 (.int .u32 0))) Tryz.underlying47 rfl (by kernel_rfl)) rfl ⟨rfl, ((((HB1.out).setCell (p := ⟨w.heap.size + 1, 0, none⟩) (by simp) _).setCell (p := ⟨w.heap.size + 1, 1, none⟩) (by simp) _).setCell (p := ⟨w.heap.size + 1, 2, none⟩) (by simp) _).setCell (p := ⟨w.heap.size + 1, 3, none⟩) (by simp) _⟩
end Go.Proofs.YtpinnockcnmofaaGreatDoor

/-! The walk of list.formed at the form's own words. -/
namespace Go.Proofs.YtpinnockcnmofaaGreatDoor
open Go.RowKit
set_option linter.unusedVariables false

theorem fms_bare : ∀ f ∈ fms, f.other = [] → f.numbered = false ∧ f.jumps = false := by decide
theorem fits_parts {f : Fm} {i : I} (h : f.fits i = true) : f.code = i.code ∧ (f.numbered = false → i.k = 0) ∧ (f.jumps = false → i.jt = 0 ∧ i.jf = 0) := by
  unfold Fm.fits at h
  simp only [Bool.and_eq_true, decide_eq_true_eq, Bool.or_eq_true] at h
  obtain ⟨⟨h1, h2⟩, h3⟩ := h
  refine ⟨h1, fun hn => ?_, fun hj => ?_⟩
  · rcases h2 with h | h
    · rw [hn] at h; cases h
    · exact h
  · rcases h3 with h | h
    · rw [hj] at h; cases h
    · exact h
theorem inst_load {W : World} {g : Nat} {t : TypeId} {a b c d : Value} (h : RowK W g t 4 [a, b, c, d]) : W.cell? ⟨g, 0, none⟩ = some a ∧ W.cell? ⟨g, 1, none⟩ = some b ∧ W.cell? ⟨g, 2, none⟩ = some c ∧ W.cell? ⟨g, 3, none⟩ = some d ∧ W.frozen? ⟨g, 0, none⟩ = false ∧ W.frozen? ⟨g, 1, none⟩ = false ∧ W.frozen? ⟨g, 2, none⟩ = false ∧ W.frozen? ⟨g, 3, none⟩ = false :=
  ⟨h.cell (k := 0) rfl, h.cell (k := 1) rfl, h.cell (k := 2) rfl, h.cell (k := 3) rfl, h.frozen 0, h.frozen 1, h.frozen 2, h.frozen 3⟩

set_option maxRecDepth 100000 in
set_option maxHeartbeats 8000000 in
theorem formed_yes (f : Fm) (hf : f ∈ fms) (i : I) (hi : i.Ok) (bl ol n c : Nat) (w : World) (hw : Words1 f i w bl ol n) (hfit : f.fits i = true) :
    Calls Tryz.prog 57 #[f.val, .slice (some ⟨bl, ol, none⟩) n c] w fun e w' => e = .returned (.tuple #[.agg #[.int .u16 i.code, .int .u8 i.jt, .int .u8 i.jf, .int .u32 i.k], .bool true]) ∧ Below w.heap.size w w' := by
  obtain ⟨hcode, hk0, hj0⟩ := fits_parts hfit
  have hbare := fms_bare f hf
  have hinn := fun W => inner_any f hf (f.written (decN i.k)) (by
    have h2 := written_len f hf (decN i.k)
    have h3 := dec_len i.k hi.2.2.2
    omega) W
  have hnum := fun W => numbered_any f hf W
  have hin : f.numbered = true → innerN f (f.written (decN i.k)) = (decN i.k, true) := fun h => inner_same f hf h _ (dec_ne _) (dec_digits _)
  have hin2 : f.numbered = false → innerN f (f.written (decN i.k)) = ([], true) := fun h => inner_plain f h _ (written_plain f hf h _)
  have hnK : ∀ W, Calls Tryz.prog 56 #[.string ⟨(decN i.k).toArray⟩, .int .i64 32] W fun e w' => e = .returned (.int .u32 i.k) ∧ Below W.heap.size W w' := fun W => number_any i.k 32 (by omega) hi.2.2.2 W
  have hnT : ∀ W, Calls Tryz.prog 56 #[.string ⟨(decN i.jt).toArray⟩, .int .i64 8] W fun e w' => e = .returned (.int .u32 i.jt) ∧ Below W.heap.size W w' := fun W => number_any i.jt 8 (by omega) hi.2.1 W
  have hnF : ∀ W, Calls Tryz.prog 56 #[.string ⟨(decN i.jf).toArray⟩, .int .i64 8] W fun e w' => e = .returned (.int .u32 i.jf) ∧ Below W.heap.size W w' := fun W => number_any i.jf 8 (by omega) hi.2.2.1 W
  have hwT : IntKind.u8.wrap (i.jt : Int) = i.jt := by rw [IntKind.wrap_u8]; have := hi.2.1; omega
  have hwF : IntKind.u8.wrap (i.jf : Int) = i.jf := by rw [IntKind.wrap_u8]; have := hi.2.2.1; omega
  obtain ⟨hlt, q0, hn, q1, q2, q3⟩ := hw
  have hB0 : Below w.heap.size w ((w.alloc (.cells #[.string ⟨f.word.toArray⟩, .string ⟨f.other.toArray⟩, .int .u16 f.code, .bool f.x, .bool f.jumps] 95)).alloc (.cells #[.int .u16 0, .int .u8 0, .int .u8 0, .int .u32 0] 47)) := ((Below.refl _ w).alloc (Nat.le_refl _) _).alloc (by simp) _
  have hf0 : ((w.alloc (.cells #[.string ⟨f.word.toArray⟩, .string ⟨f.other.toArray⟩, .int .u16 f.code, .bool f.x, .bool f.jumps] 95)).alloc (.cells #[.int .u16 0, .int .u8 0, .int .u8 0, .int .u32 0] 47)).heap[w.heap.size]? = some (.cells #[.string ⟨f.word.toArray⟩, .string ⟨f.other.toArray⟩, .int .u16 f.code, .bool f.x, .bool f.jumps] 95 (0, 0)) :=
    (Lib.alloc_old _ _ _ (by simp)).trans (heap_alloc_new w _)
  have hr0 : RowK ((w.alloc (.cells #[.string ⟨f.word.toArray⟩, .string ⟨f.other.toArray⟩, .int .u16 f.code, .bool f.x, .bool f.jumps] 95)).alloc (.cells #[.int .u16 0, .int .u8 0, .int .u8 0, .int .u32 0] 47)) (w.heap.size + 1) 47 4 [.int .u16 0, .int .u8 0, .int .u8 0, .int .u32 0] := by
    have := RowK.new (w.alloc (.cells #[.string ⟨f.word.toArray⟩, .string ⟨f.other.toArray⟩, .int .u16 f.code, .bool f.x, .bool f.jumps] 95)) 47 #[.int .u16 0, .int .u8 0, .int .u8 0, .int .u32 0] [.int .u16 0, .int .u8 0, .int .u8 0, .int .u32 0] rfl
    simpa using this
  have q0' := (hB0.cell (p := ⟨bl, ol, none⟩) hlt).trans q0
  have hs0 : ((w.alloc (.cells #[.string ⟨f.word.toArray⟩, .string ⟨f.other.toArray⟩, .int .u16 f.code, .bool f.x, .bool f.jumps] 95)).alloc (.cells #[.int .u16 0, .int .u8 0, .int .u8 0, .int .u32 0] 47)).heap.size = w.heap.size + 2 := by simp
  rw [words_len] at hn
  unfold strV at q0 q0' q1 q2 q3 hnK hnT hnF hinn
  unfold Fm.val strV at hnum hinn
  obtain ⟨wd, ot, fc, fx, fj⟩ := f
  simp only at hcode hbare hB0 hf0 hr0 q0' hs0 q1 q2 q3 hn hj0 hnum hinn
  subst hcode
  have HQ1 := Lib.hid q1
  have HQ2 := Lib.hid q2
  have HQ3 := Lib.hid q3
  have HK0 := Lib.hid hk0
  have HJ0 := Lib.hid hj0
  have HBARE := Lib.hid hbare
  have HIN := Lib.hid hin
  have HIN2 := Lib.hid hin2
  have HINN := Lib.hid hinn
  have HNUM := Lib.hid hnum
  have HNK := Lib.hid hnK
  have HNT := Lib.hid hnT
  have HNF := Lib.hid hnF
  have HN := Lib.hid hn
  have HB0 := Lib.hid hB0
  have HF0 := Lib.hid hf0
  have HR0 := Lib.hid hr0
  clear q1 q2 q3 hk0 hj0 hbare hin hin2 hinn hnum hnK hnT hnF hn hB0 hf0 hr0 q0 hfit
  show Calls Tryz.prog 57 #[.agg #[.string ⟨wd.toArray⟩, .string ⟨ot.toArray⟩, .int .u16 i.code, .bool fx, .bool fj], .slice (some ⟨bl, ol, none⟩) n c] w _
  go_enter Tryz.func57, Tryz.ntmps57
  go_upto_region 1 with fail
  generalize ((w.alloc (.cells #[.string ⟨wd.toArray⟩, .string ⟨ot.toArray⟩, .int .u16 i.code, .bool fx, .bool fj] 95)).alloc (.cells #[.int .u16 0, .int .u8 0, .int .u8 0, .int .u32 0] 47)) = W0 at *
  obtain ⟨f0, f1, f2, f3, f4⟩ : W0.cell? ⟨w.heap.size, 0, none⟩ = some (.string ⟨wd.toArray⟩) ∧ W0.cell? ⟨w.heap.size, 1, none⟩ = some (.string ⟨ot.toArray⟩) ∧ W0.cell? ⟨w.heap.size, 2, none⟩ = some (.int .u16 i.code) ∧ W0.cell? ⟨w.heap.size, 3, none⟩ = some (.bool fx) ∧ W0.cell? ⟨w.heap.size, 4, none⟩ = some (.bool fj) := by
    have := HF0.out
    simp [World.cell?, this]
  have hn0 : (0 : Int) < (n : Int) := by have := HN.out; omega
  have hw11 : (wd == wd) = true := by simp
  by_cases ho1 : ot = []
  · subst ho1
    obtain ⟨hb1, hb2⟩ := (HBARE.out) rfl
    subst hb2
    have hk := (HK0.out) hb1
    obtain ⟨ht, hff⟩ := (HJ0.out) rfl
    have hlen := HN.out
    simp only [if_true, Bool.false_eq_true, if_false, Nat.add_zero] at hlen
    subst hlen
    have HKK := Lib.hid hk
    have HTT := Lib.hid ht
    have HFF := Lib.hid hff
    clear hk ht hff hb1 HN
    go_upto_region 6 with fail
    go_quiet (fail)
    have hB1 := below_drewNL HB0.out nq
    have hr1 : RowK (W0.drewN nq) (w.heap.size + 1) 47 4 [.int .u16 0, .int .u8 0, .int .u8 0, .int .u32 0] := (HR0.out).below (below_drewNL (Below.refl W0.heap.size W0) nq) (by omega)
    have hs1 : (W0.drewN nq).heap.size = w.heap.size + 2 := hs0
    have hB1' := below_drewNL (Below.refl W0.heap.size W0) nq
    have f2' := (hB1'.cell (p := ⟨w.heap.size, 2, none⟩) (by simp only; omega)).trans f2
    have f1' := (hB1'.cell (p := ⟨w.heap.size, 1, none⟩) (by simp only; omega)).trans f1
    clear f0 f1 f2 f3 f4 q0' hB1'
    generalize W0.drewN nq = W1 at *
    have f1'' : ∀ o, (W1.alloc o).cell? ⟨w.heap.size, 1, none⟩ = some (.string ⟨#[]⟩) := fun o => (((Below.refl W1.heap.size W1).alloc (Nat.le_refl _) o).cell (p := ⟨w.heap.size, 1, none⟩) (by simp only; omega)).trans f1'
    go_upto_region 9 with fail
    have hr2 := hr1.alloc (.cells #[.int .u16 i.code, .int .u8 0, .int .u8 0, .int .u32 0] 47)
    have hr7 : RowK (W1.alloc (.cells #[.int .u16 i.code, .int .u8 0, .int .u8 0, .int .u32 0] 47)) (w.heap.size + 2) 47 4 [.int .u16 i.code, .int .u8 0, .int .u8 0, .int .u32 0] := by
      have := RowK.new W1 47 #[.int .u16 i.code, .int .u8 0, .int .u8 0, .int .u32 0] [.int .u16 i.code, .int .u8 0, .int .u8 0, .int .u32 0] rfl
      rwa [hs1] at this
    have hB2 := hB1.alloc (by omega) (.cells #[.int .u16 i.code, .int .u8 0, .int .u8 0, .int .u32 0] 47)
    have f1e := f1'' (.cells #[.int .u16 i.code, .int .u8 0, .int .u8 0, .int .u32 0] 47)
    generalize W1.alloc (.cells #[.int .u16 i.code, .int .u8 0, .int .u8 0, .int .u32 0] 47) = W2 at *
    obtain ⟨a0, a1, a2, a3, e0, e1, e2, e3⟩ := inst_load hr2
    obtain ⟨b0, b1, b2, b3, -, -, -, -⟩ := inst_load hr7
    have HR2 := Lib.hid hr2
    have HB2 := Lib.hid hB2
    clear hr2 hr7 hB2 hB1 hr1 f1' f2' f1''
    go_wp2_with fail
    refine bodyPost_ret (v := .tuple #[.agg #[.int .u16 i.code, .int .u8 0, .int .u8 0, .int .u32 0], .bool true]) (results_ct (p := 4) (q := 5) (ty := 47) rfl _ _ (w.heap.size + 1) _ _ _ _ _ rfl rfl (inst_row (((((HR2.out).set_ 0 (.int .u16 i.code)).set_ 1 (.int .u8 0)).set_ 2 (.int .u8 0)).set_ 3 (.int .u32 0))) Tryz.underlying47 rfl (by kernel_rfl)) rfl ⟨?_, ((((HB2.out).setCell (p := ⟨w.heap.size + 1, 0, none⟩) (by simp) _).setCell (p := ⟨w.heap.size + 1, 1, none⟩) (by simp) _).setCell (p := ⟨w.heap.size + 1, 2, none⟩) (by simp) _).setCell (p := ⟨w.heap.size + 1, 3, none⟩) (by simp) _⟩
    rw [HKK.out, HTT.out, HFF.out]
    rfl
  · have q1 := (HQ1.out) ho1
    have q1' := ((HB0.out).cell (p := ⟨bl, ol + 1, none⟩) hlt).trans q1
    have hlen := HN.out
    rw [if_neg ho1] at hlen
    clear q1 HQ1 HBARE HN
    obtain ⟨o0, os, rfl⟩ := List.exists_cons_of_ne_nil ho1
    cases fj with
    | false =>
      simp only [Bool.false_eq_true, if_false, Nat.reduceAdd] at hlen
      subst hlen
      go_upto_region 6 with fail
      go_quiet (fail)
      have hB1 := below_drewNL HB0.out nq
      have hr1 : RowK (W0.drewN nq) (w.heap.size + 1) 47 4 [.int .u16 0, .int .u8 0, .int .u8 0, .int .u32 0] := (HR0.out).below (below_drewNL (Below.refl W0.heap.size W0) nq) (by omega)
      have hs1 : (W0.drewN nq).heap.size = w.heap.size + 2 := hs0
      have hB1' := below_drewNL (Below.refl W0.heap.size W0) nq
      have f2' := (hB1'.cell (p := ⟨w.heap.size, 2, none⟩) (by simp only; omega)).trans f2
      have f1' := (hB1'.cell (p := ⟨w.heap.size, 1, none⟩) (by simp only; omega)).trans f1
      have q1'' := (hB1'.cell (p := ⟨bl, ol + 1, none⟩) (by simp only; omega)).trans q1'
      have hf1 := (hB1'.block w.heap.size (by omega)).trans HF0.out
      clear f0 f1 f2 f3 f4 q0' q1' hB1'
      generalize W0.drewN nq = W1 at *
      have f1'' : ∀ o, (W1.alloc o).cell? ⟨w.heap.size, 1, none⟩ = some (.string ⟨(o0 :: os).toArray⟩) := fun o => (((Below.refl W1.heap.size W1).alloc (Nat.le_refl _) o).cell (p := ⟨w.heap.size, 1, none⟩) (by simp only; omega)).trans f1'
      go_upto_region 11 with fail
      have hB2 := hB1.alloc (by omega) (.cells #[.int .u16 i.code, .int .u8 0, .int .u8 0, .int .u32 0] 47)
      have hr2 := hr1.alloc (.cells #[.int .u16 i.code, .int .u8 0, .int .u8 0, .int .u32 0] 47)
      have hr7 : RowK (W1.alloc (.cells #[.int .u16 i.code, .int .u8 0, .int .u8 0, .int .u32 0] 47)) (w.heap.size + 2) 47 4 [.int .u16 i.code, .int .u8 0, .int .u8 0, .int .u32 0] := by
        have := RowK.new W1 47 #[.int .u16 i.code, .int .u8 0, .int .u8 0, .int .u32 0] [.int .u16 i.code, .int .u8 0, .int .u8 0, .int .u32 0] rfl
        rwa [hs1] at this
      have hB2' := (Below.refl W1.heap.size W1).alloc (Nat.le_refl _) (.cells #[.int .u16 i.code, .int .u8 0, .int .u8 0, .int .u32 0] 47)
      have q2 := (hB2'.cell (p := ⟨bl, ol + 1, none⟩) (by simp only; omega)).trans q1''
      have hf2 := (hB2'.block w.heap.size (by omega)).trans hf1
      have hs2 : (W1.alloc (.cells #[.int .u16 i.code, .int .u8 0, .int .u8 0, .int .u32 0] 47)).heap.size = w.heap.size + 3 := by rw [World.size_alloc, hs1]
      generalize W1.alloc (.cells #[.int .u16 i.code, .int .u8 0, .int .u8 0, .int .u32 0] 47) = W2 at *
      have k2 := as_cell q2
      have HB2 := Lib.hid hB2
      have HR2 := Lib.hid hr2
      have HR7 := Lib.hid hr7
      have HF2 := Lib.hid hf2
      clear hB2 hr2 hr7 hf2 hB2' q2 f1'' f1' f2' q1'' hf1 hB1 hr1 HF0 HR0 HB0
      refine wp_region_grow (by kernel_rfl) (by kernel_rfl) ?_
      repeat (first
        | go_big_quiet_skip
        | (go_big_quiet_want
           first
             | (refine quiet_load_row 95 (.tmp 2) rfl w.heap.size rfl _ _ _ _ (as_row HF2.out) Tryz.underlying95 rfl (by kernel_rfl) ?_; simp only [Act.put, List.setIfInBounds_toArray, List.set_cons_succ, List.set_cons_zero]; go_big_quiet_on)
             | (go_big_quiet_op
                first
                  | go_big_quiet_on
                  | go_big_quiet_call (first
                      | (go_at_call 90; exact calls_grow (HINN.out _))))))
      refine wpQuiet_nil ?_
      intro w5 hg5
      have hB5 := (HB2.out).trans (hg5.mono (by omega))
      have hr5 := (HR2.out).below hg5 (by omega)
      have hr75 := (HR7.out).below hg5 (by omega)
      have hf5 := (hg5.block w.heap.size (by omega)).trans HF2.out
      have hs5 := hg5.size
      have HB5 := Lib.hid hB5
      have HR5 := Lib.hid hr5
      have HR75 := Lib.hid hr75
      have HF5 := Lib.hid hf5
      clear hB5 hr5 hr75 hf5 hg5 HB2 HR2 HR7 HF2 HINN k2
      generalize hnb : Fm.numbered _ = nb at *
      cases nb with
      | false =>
        obtain ⟨f0, f1, f2, f3, f4⟩ : w5.cell? ⟨w.heap.size, 0, none⟩ = some (.string ⟨wd.toArray⟩) ∧ w5.cell? ⟨w.heap.size, 1, none⟩ = some (.string ⟨(o0 :: os).toArray⟩) ∧ w5.cell? ⟨w.heap.size, 2, none⟩ = some (.int .u16 i.code) ∧ w5.cell? ⟨w.heap.size, 3, none⟩ = some (.bool fx) ∧ w5.cell? ⟨w.heap.size, 4, none⟩ = some (.bool false) := by
          have := HF5.out
          simp [World.cell?, this]
        rw [(HIN2.out) rfl]
        go_wp2_with fail
        refine ((HNUM.out) _).mono ?_
        rintro e w6 ⟨rfl, hB6⟩
        have hl7 : w.heap.size + 2 < w5.heap.size := by omega
        have hl6 := hB6.size
        have hr6 := (HR5.out).below hB6 (by omega)
        have hr76 := (HR75.out).below hB6 (by omega)
        have hf6 := (hB6.block w.heap.size (by omega)).trans HF5.out
        have hBw6 := (HB5.out).trans (hB6.mono (HB5.out).size)
        have HR6 := Lib.hid hr6
        have HR76 := Lib.hid hr76
        have HF6 := Lib.hid hf6
        have HB6 := Lib.hid hBw6
        clear hr6 hr76 hf6 hBw6 hB6 f0 f1 f2 f3 f4
        have hr9 := HR6.out
        have hr79 := HR76.out
        have hf9 := HF6.out
        have hB9 := HB6.out
        have f4 : w6.cell? ⟨w.heap.size, 4, none⟩ = some (.bool false) := by simp [World.cell?, hf9]
        have hs9 : w.heap.size + 3 ≤ w6.heap.size := by omega
        go_upto_region 16 with fail
        generalize w6 = X at *
        clear f4
        have f4 : X.cell? ⟨w.heap.size, 4, none⟩ = some (.bool false) := by simp [World.cell?, hf9]
        have HRX := Lib.hid hr9
        have HBX := Lib.hid hB9
        have HR7X := Lib.hid hr79
        clear hr9 hB9 hr79 hf9
        obtain ⟨b0, b1, b2, b3, -, -, -, -⟩ := inst_load HR7X.out
        obtain ⟨d0, d1, d2, d3, g0, g1, g2, g3⟩ := inst_load HRX.out
        go_wp2_with fail
        refine bodyPost_ret (v := .tuple #[.agg #[.int .u16 i.code, .int .u8 0, .int .u8 0, .int .u32 0], .bool true]) (results_ct (p := 4) (q := 5) (ty := 47) rfl _ _ (w.heap.size + 1) _ _ _ _ _ rfl rfl (inst_row (((((HRX.out).set_ 0 (.int .u16 i.code)).set_ 1 (.int .u8 0)).set_ 2 (.int .u8 0)).set_ 3 (.int .u32 0))) Tryz.underlying47 rfl (by kernel_rfl)) rfl ⟨?_, ((((HBX.out).setCell (p := ⟨w.heap.size + 1, 0, none⟩) (by simp) _).setCell (p := ⟨w.heap.size + 1, 1, none⟩) (by simp) _).setCell (p := ⟨w.heap.size + 1, 2, none⟩) (by simp) _).setCell (p := ⟨w.heap.size + 1, 3, none⟩) (by simp) _⟩
        rw [((HJ0.out) trivial).1, ((HJ0.out) trivial).2, (HK0.out) trivial]
        rfl
      | true =>
        obtain ⟨f0, f1, f2, f3, f4⟩ : w5.cell? ⟨w.heap.size, 0, none⟩ = some (.string ⟨wd.toArray⟩) ∧ w5.cell? ⟨w.heap.size, 1, none⟩ = some (.string ⟨(o0 :: os).toArray⟩) ∧ w5.cell? ⟨w.heap.size, 2, none⟩ = some (.int .u16 i.code) ∧ w5.cell? ⟨w.heap.size, 3, none⟩ = some (.bool fx) ∧ w5.cell? ⟨w.heap.size, 4, none⟩ = some (.bool false) := by
          have := HF5.out
          simp [World.cell?, this]
        rw [(HIN.out) rfl]
        go_wp2_with fail
        refine ((HNUM.out) _).mono ?_
        rintro e w6 ⟨rfl, hB6⟩
        have hl7 : w.heap.size + 2 < w5.heap.size := by omega
        have hl6 := hB6.size
        have hr6 := (HR5.out).below hB6 (by omega)
        have hr76 := (HR75.out).below hB6 (by omega)
        have hf6 := (hB6.block w.heap.size (by omega)).trans HF5.out
        have hBw6 := (HB5.out).trans (hB6.mono (HB5.out).size)
        have HR6 := Lib.hid hr6
        have HR76 := Lib.hid hr76
        have HF6 := Lib.hid hf6
        have HB6 := Lib.hid hBw6
        clear hr6 hr76 hf6 hBw6 hB6 f0 f1 f2 f3 f4
        go_wp2_with fail
        refine ((HNK.out) _).mono ?_
        rintro e w7 ⟨rfl, hB7⟩
        have hl7b := hB7.size
        have hr8 := (HR6.out).below hB7 (by omega)
        have hr78 := (HR76.out).below hB7 (by omega)
        have hf8 := (hB7.block w.heap.size (by omega)).trans HF6.out
        have hBw8 := (HB6.out).trans (hB7.mono (HB6.out).size)
        clear hB7
        obtain ⟨b0, b1, b2, b3, c0, c1, c2, c3⟩ := inst_load hr78
        go_upto_region 16 with fail
        have hr9 := hr8.far (p := ⟨w.heap.size + 2, 3, none⟩) (by simp) (.int .u32 i.k)
        have hr79 := hr78.set_ 3 (.int .u32 i.k)
        have hf9 := (Below.heap_setCell w7 ⟨w.heap.size + 2, 3, none⟩ (.int .u32 i.k) w.heap.size (by simp)).trans hf8
        have hB9 := hBw8.setCell (p := ⟨w.heap.size + 2, 3, none⟩) (by simp) (.int .u32 i.k)
        have hs9 : w.heap.size + 3 ≤ (w7.setCell ⟨w.heap.size + 2, 3, none⟩ (.int .u32 i.k)).heap.size := by have := hr79.lt; omega
        simp only [List.set_cons_succ, List.set_cons_zero] at hr79
        clear b0 b1 b2 b3 c0 c1 c2 c3 hr8 hr78 hf8 hBw8
        generalize w7.setCell ⟨w.heap.size + 2, 3, none⟩ (.int .u32 i.k) = X at *
        have f4 : X.cell? ⟨w.heap.size, 4, none⟩ = some (.bool false) := by simp [World.cell?, hf9]
        have HRX := Lib.hid hr9
        have HBX := Lib.hid hB9
        have HR7X := Lib.hid hr79
        clear hr9 hB9 hr79 hf9
        obtain ⟨b0, b1, b2, b3, -, -, -, -⟩ := inst_load HR7X.out
        obtain ⟨d0, d1, d2, d3, g0, g1, g2, g3⟩ := inst_load HRX.out
        go_wp2_with fail
        refine bodyPost_ret (v := .tuple #[.agg #[.int .u16 i.code, .int .u8 0, .int .u8 0, .int .u32 i.k], .bool true]) (results_ct (p := 4) (q := 5) (ty := 47) rfl _ _ (w.heap.size + 1) _ _ _ _ _ rfl rfl (inst_row (((((HRX.out).set_ 0 (.int .u16 i.code)).set_ 1 (.int .u8 0)).set_ 2 (.int .u8 0)).set_ 3 (.int .u32 i.k))) Tryz.underlying47 rfl (by kernel_rfl)) rfl ⟨?_, ((((HBX.out).setCell (p := ⟨w.heap.size + 1, 0, none⟩) (by simp) _).setCell (p := ⟨w.heap.size + 1, 1, none⟩) (by simp) _).setCell (p := ⟨w.heap.size + 1, 2, none⟩) (by simp) _).setCell (p := ⟨w.heap.size + 1, 3, none⟩) (by simp) _⟩
        rw [((HJ0.out) trivial).1, ((HJ0.out) trivial).2]
        rfl
    | true =>
      simp only [if_true, Nat.reduceAdd] at hlen
      subst hlen
      go_upto_region 6 with fail
      go_quiet (fail)
      have hB1 := below_drewNL HB0.out nq
      have hr1 : RowK (W0.drewN nq) (w.heap.size + 1) 47 4 [.int .u16 0, .int .u8 0, .int .u8 0, .int .u32 0] := (HR0.out).below (below_drewNL (Below.refl W0.heap.size W0) nq) (by omega)
      have hs1 : (W0.drewN nq).heap.size = w.heap.size + 2 := hs0
      have hB1' := below_drewNL (Below.refl W0.heap.size W0) nq
      have f2' := (hB1'.cell (p := ⟨w.heap.size, 2, none⟩) (by simp only; omega)).trans f2
      have f1' := (hB1'.cell (p := ⟨w.heap.size, 1, none⟩) (by simp only; omega)).trans f1
      have q1'' := (hB1'.cell (p := ⟨bl, ol + 1, none⟩) (by simp only; omega)).trans q1'
      have hf1 := (hB1'.block w.heap.size (by omega)).trans HF0.out
      clear f0 f1 f2 f3 f4 q0' q1' hB1'
      generalize W0.drewN nq = W1 at *
      have f1'' : ∀ o, (W1.alloc o).cell? ⟨w.heap.size, 1, none⟩ = some (.string ⟨(o0 :: os).toArray⟩) := fun o => (((Below.refl W1.heap.size W1).alloc (Nat.le_refl _) o).cell (p := ⟨w.heap.size, 1, none⟩) (by simp only; omega)).trans f1'
      go_upto_region 11 with fail
      have hB2 := hB1.alloc (by omega) (.cells #[.int .u16 i.code, .int .u8 0, .int .u8 0, .int .u32 0] 47)
      have hr2 := hr1.alloc (.cells #[.int .u16 i.code, .int .u8 0, .int .u8 0, .int .u32 0] 47)
      have hr7 : RowK (W1.alloc (.cells #[.int .u16 i.code, .int .u8 0, .int .u8 0, .int .u32 0] 47)) (w.heap.size + 2) 47 4 [.int .u16 i.code, .int .u8 0, .int .u8 0, .int .u32 0] := by
        have := RowK.new W1 47 #[.int .u16 i.code, .int .u8 0, .int .u8 0, .int .u32 0] [.int .u16 i.code, .int .u8 0, .int .u8 0, .int .u32 0] rfl
        rwa [hs1] at this
      have hB2' := (Below.refl W1.heap.size W1).alloc (Nat.le_refl _) (.cells #[.int .u16 i.code, .int .u8 0, .int .u8 0, .int .u32 0] 47)
      have q2 := (hB2'.cell (p := ⟨bl, ol + 1, none⟩) (by simp only; omega)).trans q1''
      have hf2 := (hB2'.block w.heap.size (by omega)).trans hf1
      have hs2 : (W1.alloc (.cells #[.int .u16 i.code, .int .u8 0, .int .u8 0, .int .u32 0] 47)).heap.size = w.heap.size + 3 := by rw [World.size_alloc, hs1]
      generalize W1.alloc (.cells #[.int .u16 i.code, .int .u8 0, .int .u8 0, .int .u32 0] 47) = W2 at *
      have k2 := as_cell q2
      have HB2 := Lib.hid hB2
      have HR2 := Lib.hid hr2
      have HR7 := Lib.hid hr7
      have HF2 := Lib.hid hf2
      clear hB2 hr2 hr7 hf2 hB2' q2 f1'' f1' f2' q1'' hf1 hB1 hr1 HF0 HR0 HB0
      refine wp_region_grow (by kernel_rfl) (by kernel_rfl) ?_
      repeat (first
        | go_big_quiet_skip
        | (go_big_quiet_want
           first
             | (refine quiet_load_row 95 (.tmp 2) rfl w.heap.size rfl _ _ _ _ (as_row HF2.out) Tryz.underlying95 rfl (by kernel_rfl) ?_; simp only [Act.put, List.setIfInBounds_toArray, List.set_cons_succ, List.set_cons_zero]; go_big_quiet_on)
             | (go_big_quiet_op
                first
                  | go_big_quiet_on
                  | go_big_quiet_call (first
                      | (go_at_call 90; exact calls_grow (HINN.out _))))))
      refine wpQuiet_nil ?_
      intro w5 hg5
      have hB5 := (HB2.out).trans (hg5.mono (by omega))
      have hr5 := (HR2.out).below hg5 (by omega)
      have hr75 := (HR7.out).below hg5 (by omega)
      have hf5 := (hg5.block w.heap.size (by omega)).trans HF2.out
      have hs5 := hg5.size
      have HB5 := Lib.hid hB5
      have HR5 := Lib.hid hr5
      have HR75 := Lib.hid hr75
      have HF5 := Lib.hid hf5
      clear hB5 hr5 hr75 hf5 hg5 HB2 HR2 HR7 HF2 HINN k2
      generalize hnb : Fm.numbered _ = nb at *
      cases nb with
      | false =>
        obtain ⟨f0, f1, f2, f3, f4⟩ : w5.cell? ⟨w.heap.size, 0, none⟩ = some (.string ⟨wd.toArray⟩) ∧ w5.cell? ⟨w.heap.size, 1, none⟩ = some (.string ⟨(o0 :: os).toArray⟩) ∧ w5.cell? ⟨w.heap.size, 2, none⟩ = some (.int .u16 i.code) ∧ w5.cell? ⟨w.heap.size, 3, none⟩ = some (.bool fx) ∧ w5.cell? ⟨w.heap.size, 4, none⟩ = some (.bool true) := by
          have := HF5.out
          simp [World.cell?, this]
        rw [(HIN2.out) rfl]
        go_wp2_with fail
        refine ((HNUM.out) _).mono ?_
        rintro e w6 ⟨rfl, hB6⟩
        have hl7 : w.heap.size + 2 < w5.heap.size := by omega
        have hl6 := hB6.size
        have hr6 := (HR5.out).below hB6 (by omega)
        have hr76 := (HR75.out).below hB6 (by omega)
        have hf6 := (hB6.block w.heap.size (by omega)).trans HF5.out
        have hBw6 := (HB5.out).trans (hB6.mono (HB5.out).size)
        have HR6 := Lib.hid hr6
        have HR76 := Lib.hid hr76
        have HF6 := Lib.hid hf6
        have HB6 := Lib.hid hBw6
        clear hr6 hr76 hf6 hBw6 hB6 f0 f1 f2 f3 f4
        have hr9 := HR6.out
        have hr79 := HR76.out
        have hf9 := HF6.out
        have hB9 := HB6.out
        have f4 : w6.cell? ⟨w.heap.size, 4, none⟩ = some (.bool true) := by simp [World.cell?, hf9]
        have hs9 : w.heap.size + 3 ≤ w6.heap.size := by omega
        go_upto_region 16 with fail
        generalize w6 = X at *
        clear f4
        have f4 : X.cell? ⟨w.heap.size, 4, none⟩ = some (.bool true) := by simp [World.cell?, hf9]
        have HRX := Lib.hid hr9
        have HBX := Lib.hid hB9
        have HR7X := Lib.hid hr79
        clear hr9 hB9 hr79 hf9
        generalize decN i.jt = dt at *
        generalize decN i.jf = df at *
        have m2 := ((HBX.out).cell (p := ⟨bl, ol + 2, none⟩) hlt).trans ((HQ2.out) trivial)
        have m3 := ((HBX.out).cell (p := ⟨bl, ol + 3, none⟩) hlt).trans ((HQ3.out) trivial)
        have hblX : bl < X.heap.size := by omega
        have HA := Lib.hid (fun (Y : World) (hY : Grows X Y) => And.intro ((hY.cell (p := ⟨bl, ol + 2, none⟩) hblX).trans m2) (And.intro ((hY.cell (p := ⟨bl, ol + 3, none⟩) hblX).trans m3) (inst_load ((HR7X.out).below hY (by omega)))))
        obtain ⟨m2, m3, b0, b1, b2, b3, c0, c1, c2, c3⟩ := (HA.out) X (Grows.refl X)
        go_upto_region 17 with fail
        clear f4
        have hX0 : Grows X X.drew := (Grows.refl X).drew
        have HNN := Lib.hid (show ∀ (d : Bs) (v : Nat), (d = dt ∧ v = i.jt) ∨ (d = df ∧ v = i.jf) → ∀ W, Calls Tryz.prog 56 #[.string ⟨d.toArray⟩, .int .i64 8] W fun e w' => e = .returned (.int .u32 v) ∧ Grows W w' from fun d v h => by
          rcases h with ⟨rfl, rfl⟩ | ⟨rfl, rfl⟩
          · exact HNT.out
          · exact HNF.out)
        clear HNK HNT HNF
        go_region_with (go_at_call 56; go_loud (refine ((HNN.out) _ _ (by first | exact .inl ⟨rfl, rfl⟩ | exact .inr ⟨rfl, rfl⟩) _).mono ?_); rintro e y ⟨rfl, hy⟩; go_loud (have hG : Grows X y := Grows.trans (by assumption) hy); go_loud (obtain ⟨m2y, m3y, b0y, b1y, b2y, b3y, c0y, c1y, c2y, c3y⟩ := (HA.out) y hG))
        all_goals
          have hRy := (((HRX.out).below hG (by omega)).far (p := ⟨w.heap.size + 2, 1, none⟩) (by simp) (.int .u8 i.jt)).far (p := ⟨w.heap.size + 2, 2, none⟩) (by simp) (.int .u8 i.jf)
          have hR7y := (((HR7X.out).below hG (by omega)).set_ 1 (.int .u8 i.jt)).set_ 2 (.int .u8 i.jf)
          have hBy := (((HBX.out).trans (hG.mono (HBX.out).size)).setCell (p := ⟨w.heap.size + 2, 1, none⟩) (by simp) (.int .u8 i.jt)).setCell (p := ⟨w.heap.size + 2, 2, none⟩) (by simp) (.int .u8 i.jf)
          simp only [List.set_cons_succ, List.set_cons_zero] at hR7y
          clear m2y m3y b0y b1y b2y b3y c0y c1y c2y c3y m2 m3 b0 b1 b2 b3 c0 c1 c2 c3 HA hG hy
          generalize (y.setCell ⟨w.heap.size + 2, 1, none⟩ (.int .u8 i.jt)).setCell ⟨w.heap.size + 2, 2, none⟩ (.int .u8 i.jf) = Z at *
          clear HRX HBX HR7X
          have HRX := Lib.hid hRy
          have HBX := Lib.hid hBy
          obtain ⟨b0, b1, b2, b3, -, -, -, -⟩ := inst_load hR7y
          obtain ⟨d0, d1, d2, d3, g0, g1, g2, g3⟩ := inst_load hRy
          clear hRy hBy hR7y
          go_wp2_with fail
          refine bodyPost_ret (v := .tuple #[.agg #[.int .u16 i.code, .int .u8 i.jt, .int .u8 i.jf, .int .u32 0], .bool true]) (results_ct (p := 4) (q := 5) (ty := 47) rfl _ _ (w.heap.size + 1) _ _ _ _ _ rfl rfl (inst_row (((((HRX.out).set_ 0 (.int .u16 i.code)).set_ 1 (.int .u8 i.jt)).set_ 2 (.int .u8 i.jf)).set_ 3 (.int .u32 0))) Tryz.underlying47 rfl (by kernel_rfl)) rfl ⟨?_, ((((HBX.out).setCell (p := ⟨w.heap.size + 1, 0, none⟩) (by simp) _).setCell (p := ⟨w.heap.size + 1, 1, none⟩) (by simp) _).setCell (p := ⟨w.heap.size + 1, 2, none⟩) (by simp) _).setCell (p := ⟨w.heap.size + 1, 3, none⟩) (by simp) _⟩
          rw [(HK0.out) trivial]
          rfl
      | true =>
        obtain ⟨f0, f1, f2, f3, f4⟩ : w5.cell? ⟨w.heap.size, 0, none⟩ = some (.string ⟨wd.toArray⟩) ∧ w5.cell? ⟨w.heap.size, 1, none⟩ = some (.string ⟨(o0 :: os).toArray⟩) ∧ w5.cell? ⟨w.heap.size, 2, none⟩ = some (.int .u16 i.code) ∧ w5.cell? ⟨w.heap.size, 3, none⟩ = some (.bool fx) ∧ w5.cell? ⟨w.heap.size, 4, none⟩ = some (.bool true) := by
          have := HF5.out
          simp [World.cell?, this]
        rw [(HIN.out) rfl]
        go_wp2_with fail
        refine ((HNUM.out) _).mono ?_
        rintro e w6 ⟨rfl, hB6⟩
        have hl7 : w.heap.size + 2 < w5.heap.size := by omega
        have hl6 := hB6.size
        have hr6 := (HR5.out).below hB6 (by omega)
        have hr76 := (HR75.out).below hB6 (by omega)
        have hf6 := (hB6.block w.heap.size (by omega)).trans HF5.out
        have hBw6 := (HB5.out).trans (hB6.mono (HB5.out).size)
        have HR6 := Lib.hid hr6
        have HR76 := Lib.hid hr76
        have HF6 := Lib.hid hf6
        have HB6 := Lib.hid hBw6
        clear hr6 hr76 hf6 hBw6 hB6 f0 f1 f2 f3 f4
        go_wp2_with fail
        refine ((HNK.out) _).mono ?_
        rintro e w7 ⟨rfl, hB7⟩
        have hl7b := hB7.size
        have hr8 := (HR6.out).below hB7 (by omega)
        have hr78 := (HR76.out).below hB7 (by omega)
        have hf8 := (hB7.block w.heap.size (by omega)).trans HF6.out
        have hBw8 := (HB6.out).trans (hB7.mono (HB6.out).size)
        clear hB7
        obtain ⟨b0, b1, b2, b3, c0, c1, c2, c3⟩ := inst_load hr78
        go_upto_region 16 with fail
        have hr9 := hr8.far (p := ⟨w.heap.size + 2, 3, none⟩) (by simp) (.int .u32 i.k)
        have hr79 := hr78.set_ 3 (.int .u32 i.k)
        have hf9 := (Below.heap_setCell w7 ⟨w.heap.size + 2, 3, none⟩ (.int .u32 i.k) w.heap.size (by simp)).trans hf8
        have hB9 := hBw8.setCell (p := ⟨w.heap.size + 2, 3, none⟩) (by simp) (.int .u32 i.k)
        have hs9 : w.heap.size + 3 ≤ (w7.setCell ⟨w.heap.size + 2, 3, none⟩ (.int .u32 i.k)).heap.size := by have := hr79.lt; omega
        simp only [List.set_cons_succ, List.set_cons_zero] at hr79
        clear b0 b1 b2 b3 c0 c1 c2 c3 hr8 hr78 hf8 hBw8
        generalize w7.setCell ⟨w.heap.size + 2, 3, none⟩ (.int .u32 i.k) = X at *
        have f4 : X.cell? ⟨w.heap.size, 4, none⟩ = some (.bool true) := by simp [World.cell?, hf9]
        have HRX := Lib.hid hr9
        have HBX := Lib.hid hB9
        have HR7X := Lib.hid hr79
        clear hr9 hB9 hr79 hf9
        generalize decN i.jt = dt at *
        generalize decN i.jf = df at *
        have m2 := ((HBX.out).cell (p := ⟨bl, ol + 2, none⟩) hlt).trans ((HQ2.out) trivial)
        have m3 := ((HBX.out).cell (p := ⟨bl, ol + 3, none⟩) hlt).trans ((HQ3.out) trivial)
        have hblX : bl < X.heap.size := by omega
        have HA := Lib.hid (fun (Y : World) (hY : Grows X Y) => And.intro ((hY.cell (p := ⟨bl, ol + 2, none⟩) hblX).trans m2) (And.intro ((hY.cell (p := ⟨bl, ol + 3, none⟩) hblX).trans m3) (inst_load ((HR7X.out).below hY (by omega)))))
        obtain ⟨m2, m3, b0, b1, b2, b3, c0, c1, c2, c3⟩ := (HA.out) X (Grows.refl X)
        go_upto_region 17 with fail
        clear f4
        have hX0 : Grows X X.drew := (Grows.refl X).drew
        have HNN := Lib.hid (show ∀ (d : Bs) (v : Nat), (d = dt ∧ v = i.jt) ∨ (d = df ∧ v = i.jf) → ∀ W, Calls Tryz.prog 56 #[.string ⟨d.toArray⟩, .int .i64 8] W fun e w' => e = .returned (.int .u32 v) ∧ Grows W w' from fun d v h => by
          rcases h with ⟨rfl, rfl⟩ | ⟨rfl, rfl⟩
          · exact HNT.out
          · exact HNF.out)
        clear HNK HNT HNF
        go_region_with (go_at_call 56; go_loud (refine ((HNN.out) _ _ (by first | exact .inl ⟨rfl, rfl⟩ | exact .inr ⟨rfl, rfl⟩) _).mono ?_); rintro e y ⟨rfl, hy⟩; go_loud (have hG : Grows X y := Grows.trans (by assumption) hy); go_loud (obtain ⟨m2y, m3y, b0y, b1y, b2y, b3y, c0y, c1y, c2y, c3y⟩ := (HA.out) y hG))
        all_goals
          have hRy := (((HRX.out).below hG (by omega)).far (p := ⟨w.heap.size + 2, 1, none⟩) (by simp) (.int .u8 i.jt)).far (p := ⟨w.heap.size + 2, 2, none⟩) (by simp) (.int .u8 i.jf)
          have hR7y := (((HR7X.out).below hG (by omega)).set_ 1 (.int .u8 i.jt)).set_ 2 (.int .u8 i.jf)
          have hBy := (((HBX.out).trans (hG.mono (HBX.out).size)).setCell (p := ⟨w.heap.size + 2, 1, none⟩) (by simp) (.int .u8 i.jt)).setCell (p := ⟨w.heap.size + 2, 2, none⟩) (by simp) (.int .u8 i.jf)
          simp only [List.set_cons_succ, List.set_cons_zero] at hR7y
          clear m2y m3y b0y b1y b2y b3y c0y c1y c2y c3y m2 m3 b0 b1 b2 b3 c0 c1 c2 c3 HA hG hy
          generalize (y.setCell ⟨w.heap.size + 2, 1, none⟩ (.int .u8 i.jt)).setCell ⟨w.heap.size + 2, 2, none⟩ (.int .u8 i.jf) = Z at *
          clear HRX HBX HR7X
          have HRX := Lib.hid hRy
          have HBX := Lib.hid hBy
          obtain ⟨b0, b1, b2, b3, -, -, -, -⟩ := inst_load hR7y
          obtain ⟨d0, d1, d2, d3, g0, g1, g2, g3⟩ := inst_load hRy
          clear hRy hBy hR7y
          go_wp2_with fail
          refine bodyPost_ret (v := .tuple #[.agg #[.int .u16 i.code, .int .u8 i.jt, .int .u8 i.jf, .int .u32 i.k], .bool true]) (results_ct (p := 4) (q := 5) (ty := 47) rfl _ _ (w.heap.size + 1) _ _ _ _ _ rfl rfl (inst_row (((((HRX.out).set_ 0 (.int .u16 i.code)).set_ 1 (.int .u8 i.jt)).set_ 2 (.int .u8 i.jf)).set_ 3 (.int .u32 i.k))) Tryz.underlying47 rfl (by kernel_rfl)) rfl ⟨?_, ((((HBX.out).setCell (p := ⟨w.heap.size + 1, 0, none⟩) (by simp) _).setCell (p := ⟨w.heap.size + 1, 1, none⟩) (by simp) _).setCell (p := ⟨w.heap.size + 1, 2, none⟩) (by simp) _).setCell (p := ⟨w.heap.size + 1, 3, none⟩) (by simp) _⟩
          rfl
end Go.Proofs.YtpinnockcnmofaaGreatDoor

/-! The walk of list.line at an instruction's own words. -/
namespace Go.Proofs.YtpinnockcnmofaaGreatDoor
open Go.RowKit
set_option linter.unusedVariables false

/-- The words of an instruction's line, in memory. -/
structure LineAt (i : I) (W : World) (bl ol n : Nat) : Prop where
  lt : bl < W.heap.size
  len : n = (lineWords i).length
  cells : ∀ j x, (lineWords i)[j]? = some x → W.cell? ⟨bl, ol + j, none⟩ = some (strV x)
theorem LineAt.below {i : I} {W W' : World} {bl ol n : Nat} (h : LineAt i W bl ol n) (hB : Below W.heap.size W W') : LineAt i W' bl ol n :=
  ⟨Nat.lt_of_lt_of_le h.lt hB.size, h.len, fun j x hx => (hB.cell (p := ⟨bl, ol + j, none⟩) h.lt).trans (h.cells j x hx)⟩
theorem LineAt.form {i : I} {W : World} {bl ol n : Nat} (h : LineAt i W bl ol n) {g : Fm} (hg : g ∈ fms) (hw : lineWords i = g.words i) : Words1 g i W bl ol n := by
  have hb := fms_bare g hg
  obtain ⟨h1, h2, h3⟩ := h
  rw [hw] at h2 h3
  refine ⟨h1, h3 0 _ (by unfold Fm.words; simp), h2, fun ho => h3 1 _ (by unfold Fm.words; rw [if_neg ho]; simp), fun hj => ?_, fun hj => ?_⟩
  · have ho : g.other ≠ [] := fun e => by have := (hb e).2; rw [hj] at this; cases this
    exact h3 2 _ (by unfold Fm.words; rw [if_neg ho, if_pos hj]; simp)
  · have ho : g.other ≠ [] := fun e => by have := (hb e).2; rw [hj] at this; cases this
    exact h3 3 _ (by unfold Fm.words; rw [if_neg ho, if_pos hj]; simp)
theorem fms_at {g : Fm} (hg : g ∈ fms) : ∃ p, p < 41 ∧ fms.getD p default = g := by
  obtain ⟨m, hm, rfl⟩ := List.getElem_of_mem hg
  refine ⟨m, by rw [fms_length] at hm; exact hm, ?_⟩
  rw [List.getD_eq_getElem?_getD, List.getElem?_eq_getElem hm]
  rfl

set_option maxRecDepth 100000 in
set_option maxHeartbeats 8000000 in
theorem line_form (i : I) (hi : i.Ok) (g : Fm) (hg : fms.find? (·.fits i) = some g) (bl ol n c : Nat) (w : World) (ht : Tabs w) (hl : LineAt i w bl ol n) :
    Calls Tryz.prog 31 #[.slice (some ⟨bl, ol, none⟩) n c] w fun e w' => e = .returned (.agg #[.int .u16 i.code, .int .u8 i.jt, .int .u8 i.jf, .int .u32 i.k]) ∧ Below w.heap.size w w' := by
  obtain ⟨hm, hfit, hw⟩ := lineWords_form hg
  obtain ⟨p, hp, hpg⟩ := fms_at hm
  have hW := hl.form hm hw
  have hraw := fms_raw g hm
  have hB0 : Below w.heap.size w (w.alloc (.cells #[.int .u16 0, .int .u8 0, .int .u8 0, .int .u32 0] 47)) := (Below.refl _ w).alloc (Nat.le_refl _) _
  have hr0 : RowK (w.alloc (.cells #[.int .u16 0, .int .u8 0, .int .u8 0, .int .u32 0] 47)) w.heap.size 47 4 [.int .u16 0, .int .u8 0, .int .u8 0, .int .u32 0] := RowK.new w 47 #[.int .u16 0, .int .u8 0, .int .u8 0, .int .u32 0] [.int .u16 0, .int .u8 0, .int .u8 0, .int .u32 0] rfl
  have hW0 := hW.below hB0
  have hs0 : (w.alloc (.cells #[.int .u16 0, .int .u8 0, .int .u8 0, .int .u32 0] 47)).heap.size = w.heap.size + 1 := World.size_alloc ..
  have q0 := hW0.c0
  have hbw : (g.word == [46, 99, 111, 100, 101]) = false := by
    cases h : (g.word == [46, 99, 111, 100, 101]) with
    | false => rfl
    | true => exact absurd (eq_of_beq h) hraw
  have hn0 : (0 : Int) < (n : Int) := by have := hW.len; rw [words_len] at this; omega
  unfold strV at q0
  have HW0 := Lib.hid hW0
  have HB0 := Lib.hid hB0
  have HR0 := Lib.hid hr0
  have HT := Lib.hid ht
  have HP := Lib.hid hpg
  clear hW hW0 hB0 hr0 ht hl hw hpg hraw hg
  go_enter Tryz.func31, Tryz.ntmps31
  go_upto_region 1 with fail
  generalize (w.alloc (.cells #[.int .u16 0, .int .u8 0, .int .u8 0, .int .u32 0] 47)) = W0 at *
  go_wp2_with fail
  refine (forms_any W0 ((HT.out).below HB0.out (Nat.le_refl _))).mono ?_
  rintro e w1 ⟨v, rfl, own1, hB1⟩
  obtain ⟨Af, cf, rfl, hrf⟩ := own_reads own1
  obtain ⟨bf, of, rfl, hbf, hcf⟩ := hrf.atF (by omega)
  have HCF := Lib.hid hcf
  have HW1 := Lib.hid ((HW0.out).below hB1)
  have HR1 := Lib.hid ((HR0.out).below hB1 (by omega))
  have HB1 := Lib.hid ((HB0.out).trans (hB1.mono (by omega)))
  have hs1 := hB1.size
  clear own1 hrf hB1 hcf HW0 HR0 HB0 q0
  go_wp2_with fail
  go_loopg [37] 41 (fun q x wr => ∃ k : Nat, k ≤ 41 ∧ q = 41 - k ∧ x = .int .i64 k ∧ (∀ m, m < k → fms.getD m default ≠ g) ∧ Below w1.heap.size w1 wr)
  case atStart => exact ⟨0, by omega, rfl, rfl, fun m hm => by omega, Below.refl _ _⟩
  case round =>
    obtain ⟨k, hk, rfl, rfl, hno, hBr⟩ := hrel
    by_cases hlt : k < 41
    · have hlt1 : (k : Int) < 41 := by omega
      have hz0' : (0 : Int) ≤ (k : Int) := Int.natCast_nonneg _
      obtain ⟨c0, c1, c2, c3, c4⟩ := (HCF.out) k hlt
      have hmem := getD_mem_fms hlt
      have d0 := (hBr.cell (p := ⟨bf, of + k * 5, none⟩) hbf).trans c0
      have d1 := (hBr.cell (p := ⟨bf, of + k * 5 + 1, none⟩) hbf).trans c1
      have d2 := (hBr.cell (p := ⟨bf, of + k * 5 + 2, none⟩) hbf).trans c2
      have d3 := (hBr.cell (p := ⟨bf, of + k * 5 + 3, none⟩) hbf).trans c3
      have d4 := (hBr.cell (p := ⟨bf, of + k * 5 + 4, none⟩) hbf).trans c4
      clear c0 c1 c2 c3 c4
      have HNO := Lib.hid hno
      clear hno
      generalize hfx : fms.getD k default = f at *
      have HFX := Lib.hid hfx
      unfold strV at d0 d1
      have hB2 := (Below.refl wr.heap.size wr).alloc (Nat.le_refl _) (.cells #[.string ⟨f.word.toArray⟩, .string ⟨f.other.toArray⟩, .int .u16 f.code, .bool f.x, .bool f.jumps] 95)
      have hWr := ((HW1.out).below hBr).below hB2
      have hRr := ((HR1.out).below hBr (by omega)).below hB2 (by have := hBr.size; omega)
      have hBB := ((HB1.out).trans (hBr.mono (by omega))).trans (hB2.mono (by have := hBr.size; omega))
      have hBr2 := hBr.trans (hB2.mono hBr.size)
      have HWR := Lib.hid hWr
      have HRR := Lib.hid hRr
      have HBB := Lib.hid hBB
      have HBR := Lib.hid hBr2
      clear hWr hRr hBB hBr hB2 hBr2 hfx
      go_upto_region 7 with fail
      have hf2 : (wr.alloc (.cells #[.string ⟨f.word.toArray⟩, .string ⟨f.other.toArray⟩, .int .u16 f.code, .bool f.x, .bool f.jumps] 95)).heap[wr.heap.size]? = some (.cells #[.string ⟨f.word.toArray⟩, .string ⟨f.other.toArray⟩, .int .u16 f.code, .bool f.x, .bool f.jumps] 95 (0, 0)) := heap_alloc_new wr _
      generalize (wr.alloc (.cells #[.string ⟨f.word.toArray⟩, .string ⟨f.other.toArray⟩, .int .u16 f.code, .bool f.x, .bool f.jumps] 95)) = W2 at *
      generalize wr.heap.size = gf at *
      obtain ⟨f0, f1, f2, f3, f4⟩ := cells5 hf2
      by_cases hfg : f = g
      · have hc := formed_yes f hmem i hi bl ol n c W2 (by rw [hfg]; exact HWR.out) (by rw [hfg]; exact hfit)
        have HC := Lib.hid hc
        clear hc hf2 hfg
        go_wp2_with fail
        refine (HC.out).mono ?_
        rintro e w5 ⟨rfl, hB5⟩
        have hR5 := (HRR.out).below hB5 (HRR.out).lt
        have hBw5 := (HBB.out).trans (hB5.mono (HBB.out).size)
        have HR5 := Lib.hid hR5
        have HB5 := Lib.hid hBw5
        clear hR5 hBw5 hB5 f0 f1 f2 f3 f4 HC
        go_upto_region 9 with fail
        have hR6 := (HR5.out).alloc (.cells #[.int .u16 i.code, .int .u8 i.jt, .int .u8 i.jf, .int .u32 i.k] 47)
        have hR7 : RowK (w5.alloc (.cells #[.int .u16 i.code, .int .u8 i.jt, .int .u8 i.jf, .int .u32 i.k] 47)) w5.heap.size 47 4 [.int .u16 i.code, .int .u8 i.jt, .int .u8 i.jf, .int .u32 i.k] := RowK.new w5 47 #[.int .u16 i.code, .int .u8 i.jt, .int .u8 i.jf, .int .u32 i.k] [.int .u16 i.code, .int .u8 i.jt, .int .u8 i.jf, .int .u32 i.k] rfl
        have hB6 := (HB5.out).alloc (HB5.out).size (.cells #[.int .u16 i.code, .int .u8 i.jt, .int .u8 i.jf, .int .u32 i.k] 47)
        generalize (w5.alloc (.cells #[.int .u16 i.code, .int .u8 i.jt, .int .u8 i.jf, .int .u32 i.k] 47)) = W6 at *
        generalize w5.heap.size = g5 at *
        obtain ⟨b0, b1, b2, b3, -, -, -, -⟩ := inst_load hR7
        obtain ⟨e0, e1, e2, e3, h0, h1, h2, h3⟩ := inst_load hR6
        have HR6 := Lib.hid hR6
        have HB6 := Lib.hid hB6
        clear hR6 hR7 hB6
        go_wp2_with fail
        refine bodyPost_ret (v := .agg #[.int .u16 i.code, .int .u8 i.jt, .int .u8 i.jf, .int .u32 i.k]) (results_cell_row (p := 2) (ty := 47) rfl _ _ w.heap.size 47 #[.int .u16 i.code, .int .u8 i.jt, .int .u8 i.jf, .int .u32 i.k] (0, 0) _ rfl (inst_row (((((HR6.out).set_ 0 (.int .u16 i.code)).set_ 1 (.int .u8 i.jt)).set_ 2 (.int .u8 i.jf)).set_ 3 (.int .u32 i.k))) Tryz.underlying47 rfl (by kernel_rfl)) rfl ⟨rfl, ((((HB6.out).setCell (p := ⟨w.heap.size, 0, none⟩) (by simp) _).setCell (p := ⟨w.heap.size, 1, none⟩) (by simp) _).setCell (p := ⟨w.heap.size, 2, none⟩) (by simp) _).setCell (p := ⟨w.heap.size, 3, none⟩) (by simp) _⟩
      · have hc := formed_no f g hmem hm hfg i hi bl ol n c W2 HWR.out hfit
        have HC := Lib.hid hc
        have HNE := Lib.hid hfg
        clear hc hf2 hfg
        go_wp2_with fail
        refine (HC.out).mono ?_
        rintro e w5 ⟨rfl, hB5⟩
        have HB5 := Lib.hid ((HBR.out).trans (hB5.mono (HBR.out).size))
        clear hB5 f0 f1 f2 f3 f4 HC
        go_wp2_with fail
        go_roundg (41 - (k + 1))
        case measure => omega
        case rel =>
          refine ⟨k + 1, by omega, rfl, by go_num, fun m hm => ?_, (HB5.out).alloc (HB5.out).size _⟩
          by_cases hmk : m = k
          · subst hmk; rw [HFX.out]; exact HNE.out
          · exact (HNO.out) m (by omega)
    · exact absurd HP.out (hno p (by omega))
end Go.Proofs.YtpinnockcnmofaaGreatDoor

/-! The walk of list.line at a raw line, and whichever. -/
namespace Go.Proofs.YtpinnockcnmofaaGreatDoor
open Go.RowKit
set_option linter.unusedVariables false

set_option maxRecDepth 100000 in
set_option maxHeartbeats 8000000 in
theorem line_raw (i : I) (hi : i.Ok) (hraw : lineWords i = rawWords i) (bl ol n c : Nat) (w : World) (hl : LineAt i w bl ol n) :
    Calls Tryz.prog 31 #[.slice (some ⟨bl, ol, none⟩) n c] w fun e w' => e = .returned (.agg #[.int .u16 i.code, .int .u8 i.jt, .int .u8 i.jf, .int .u32 i.k]) ∧ Below w.heap.size w w' := by
  have hB0 : Below w.heap.size w (w.alloc (.cells #[.int .u16 0, .int .u8 0, .int .u8 0, .int .u32 0] 47)) := (Below.refl _ w).alloc (Nat.le_refl _) _
  have hr0 : RowK (w.alloc (.cells #[.int .u16 0, .int .u8 0, .int .u8 0, .int .u32 0] 47)) w.heap.size 47 4 [.int .u16 0, .int .u8 0, .int .u8 0, .int .u32 0] := RowK.new w 47 #[.int .u16 0, .int .u8 0, .int .u8 0, .int .u32 0] [.int .u16 0, .int .u8 0, .int .u8 0, .int .u32 0] rfl
  have hs0 : (w.alloc (.cells #[.int .u16 0, .int .u8 0, .int .u8 0, .int .u32 0] 47)).heap.size = w.heap.size + 1 := World.size_alloc ..
  obtain ⟨h1, h2, h3⟩ := hl.below hB0
  rw [hraw] at h2 h3
  obtain rfl : n = 5 := h2
  have c0 : (w.alloc (.cells #[.int .u16 0, .int .u8 0, .int .u8 0, .int .u32 0] 47)).cell? ⟨bl, ol, none⟩ = some (.string ⟨#[46, 99, 111, 100, 101]⟩) := h3 0 rawB rfl
  have c1 := h3 1 _ rfl
  have c2 := h3 2 _ rfl
  have c3 := h3 3 _ rfl
  have c4 := h3 4 _ rfl
  unfold strV at c1 c2 c3 c4
  have HW1 := Lib.hid (show IntKind.u16.wrap (i.code : Int) = i.code by rw [IntKind.wrap_u16]; have := hi.1; omega)
  have HW2 := Lib.hid (show IntKind.u8.wrap (i.jt : Int) = i.jt by rw [IntKind.wrap_u8]; have := hi.2.1; omega)
  have HW3 := Lib.hid (show IntKind.u8.wrap (i.jf : Int) = i.jf by rw [IntKind.wrap_u8]; have := hi.2.2.1; omega)
  have HI := Lib.hid hi
  have HB0 := Lib.hid hB0
  have HR0 := Lib.hid hr0
  clear h3 hraw hi hl hB0 hr0
  go_enter Tryz.func31, Tryz.ntmps31
  go_upto_region 1 with fail
  generalize (w.alloc (.cells #[.int .u16 0, .int .u8 0, .int .u8 0, .int .u32 0] 47)) = W0 at *
  have HC1 := Lib.hid (show W0.drew.cell? ⟨bl, ol + 1, none⟩ = _ from c1)
  have HC2 := Lib.hid (show W0.drew.cell? ⟨bl, ol + 2, none⟩ = _ from c2)
  have HC3 := Lib.hid (show W0.drew.cell? ⟨bl, ol + 3, none⟩ = _ from c3)
  have HC4 := Lib.hid (show W0.drew.cell? ⟨bl, ol + 4, none⟩ = _ from c4)
  clear c1 c2 c3 c4
  go_wp2_with fail
  refine (need_true _).mono ?_
  rintro e w5 ⟨rfl, rfl⟩
  rename World => W0
  go_upto_region 3 with fail
  refine Any.wp_region_tailD 20 follows (kdOf [(15, .eq (.slice (some ⟨bl, ol, none⟩) 5 c)), (16, .eq (.pointer (some ⟨bl, ol + 1, none⟩))), (17, .eq (.string ⟨(decN i.code).toArray⟩)), (18, .eq (.int .u32 i.code)), (19, .eq (.int .u16 i.code)), (20, .eq (.slice (some ⟨bl, ol, none⟩) 5 c)), (21, .eq (.pointer (some ⟨bl, ol + 2, none⟩))), (22, .eq (.string ⟨(decN i.jt).toArray⟩)), (23, .eq (.int .u32 i.jt)), (24, .eq (.int .u8 i.jt)), (25, .eq (.slice (some ⟨bl, ol, none⟩) 5 c)), (26, .eq (.pointer (some ⟨bl, ol + 3, none⟩))), (27, .eq (.string ⟨(decN i.jf).toArray⟩)), (28, .eq (.int .u32 i.jf)), (29, .eq (.int .u8 i.jf)), (30, .eq (.slice (some ⟨bl, ol, none⟩) 5 c)), (31, .eq (.pointer (some ⟨bl, ol + 4, none⟩))), (32, .eq (.string ⟨(decN i.k).toArray⟩)), (33, .eq (.int .u32 i.k)), (34, .eq (.agg #[.int .u16 i.code, .int .u8 i.jt, .int .u8 i.jf, .int .u32 i.k]))]) (fun _ _ => True) trivial [15, 16, 17, 18, 19, 20, 21, 22, 23, 24, 25, 26, 27, 28, 29, 30, 31, 32, 33, 34] [15, 16, 17, 18, 19, 20, 21, 22, 23, 24, 25, 26, 27, 28, 29, 30, 31, 32, 33, 34] (by kernel_rfl) (by kernel_rfl) (by kernel_rfl) (by kernel_rfl) (by kernel_rfl) (by simp) ?steps ?done
  case steps =>
    refine ⟨?_, ?_, ?_, ?_, ?_, ?_, ?_, ?_, ?_, ?_, ?_, ?_, ?_, ?_, ?_, ?_, ?_, ?_, ?_, ?_, trivial⟩
    · exact Any.st_j (Any.st_was 15 0 (.plain rfl) (.inl rfl) rfl (by decide) rfl)
    · exact Any.st_j (Any.sx_one 16 15 _ _ (.plain rfl) rfl (by decide) rfl (fun a w h => by unfold execOp; simp only [h]; simp [go_sem]) rfl)
    · exact Any.st_j (Any.sx_load_at 17 16 _ _ _ (.plain rfl) rfl rfl (by decide) rfl (HC1.out) (fun w h => by simp [go_sem, h]) rfl)
    · exact Any.st_j (Any.st_callv 18 #[.string ⟨(decN i.code).toArray⟩, .int .i64 16] (.plain rfl) rfl rfl Tryz.func56 rfl rfl (fun a w h => by have e0 : a.eval (.tmp 17) = .string ⟨(decN i.code).toArray⟩ := h.eqv 17 (by decide) rfl; simp only [List.map_toArray, List.map_cons, List.map_nil, e0]; rfl) (fun W hg => (number_any i.code 16 (by omega) (HI.out).1 W).mono (fun e w' h => ⟨_, h.1, rfl, h.2⟩)))
    · exact Any.st_j (Any.st_conv 19 18 _ _ _ _ (.plain rfl) rfl rfl (by decide) (fun w => by simp [go_sem, HW1.out]) rfl rfl)
    · exact Any.st_j (Any.st_was 20 0 (.plain rfl) (.inl rfl) rfl (by decide) rfl)
    · exact Any.st_j (Any.sx_one 21 20 _ _ (.plain rfl) rfl (by decide) rfl (fun a w h => by unfold execOp; simp only [h]; simp [go_sem]) rfl)
    · exact Any.st_j (Any.sx_load_at 22 21 _ _ _ (.plain rfl) rfl rfl (by decide) rfl (HC2.out) (fun w h => by simp [go_sem, h]) rfl)
    · exact Any.st_j (Any.st_callv 23 #[.string ⟨(decN i.jt).toArray⟩, .int .i64 8] (.plain rfl) rfl rfl Tryz.func56 rfl rfl (fun a w h => by have e0 : a.eval (.tmp 22) = .string ⟨(decN i.jt).toArray⟩ := h.eqv 22 (by decide) rfl; simp only [List.map_toArray, List.map_cons, List.map_nil, e0]; rfl) (fun W hg => (number_any i.jt 8 (by omega) (HI.out).2.1 W).mono (fun e w' h => ⟨_, h.1, rfl, h.2⟩)))
    · exact Any.st_j (Any.st_conv 24 23 _ _ _ _ (.plain rfl) rfl rfl (by decide) (fun w => by simp [go_sem, HW2.out]) rfl rfl)
    · exact Any.st_j (Any.st_was 25 0 (.plain rfl) (.inl rfl) rfl (by decide) rfl)
    · exact Any.st_j (Any.sx_one 26 25 _ _ (.plain rfl) rfl (by decide) rfl (fun a w h => by unfold execOp; simp only [h]; simp [go_sem]) rfl)
    · exact Any.st_j (Any.sx_load_at 27 26 _ _ _ (.plain rfl) rfl rfl (by decide) rfl (HC3.out) (fun w h => by simp [go_sem, h]) rfl)
    · exact Any.st_j (Any.st_callv 28 #[.string ⟨(decN i.jf).toArray⟩, .int .i64 8] (.plain rfl) rfl rfl Tryz.func56 rfl rfl (fun a w h => by have e0 : a.eval (.tmp 27) = .string ⟨(decN i.jf).toArray⟩ := h.eqv 27 (by decide) rfl; simp only [List.map_toArray, List.map_cons, List.map_nil, e0]; rfl) (fun W hg => (number_any i.jf 8 (by omega) (HI.out).2.2.1 W).mono (fun e w' h => ⟨_, h.1, rfl, h.2⟩)))
    · exact Any.st_j (Any.st_conv 29 28 _ _ _ _ (.plain rfl) rfl rfl (by decide) (fun w => by simp [go_sem, HW3.out]) rfl rfl)
    · exact Any.st_j (Any.st_was 30 0 (.plain rfl) (.inl rfl) rfl (by decide) rfl)
    · exact Any.st_j (Any.sx_one 31 30 _ _ (.plain rfl) rfl (by decide) rfl (fun a w h => by unfold execOp; simp only [h]; simp [go_sem]) rfl)
    · exact Any.st_j (Any.sx_load_at 32 31 _ _ _ (.plain rfl) rfl rfl (by decide) rfl (HC4.out) (fun w h => by simp [go_sem, h]) rfl)
    · exact Any.st_j (Any.st_callv 33 #[.string ⟨(decN i.k).toArray⟩, .int .i64 32] (.plain rfl) rfl rfl Tryz.func56 rfl rfl (fun a w h => by have e0 : a.eval (.tmp 32) = .string ⟨(decN i.k).toArray⟩ := h.eqv 32 (by decide) rfl; simp only [List.map_toArray, List.map_cons, List.map_nil, e0]; rfl) (fun W hg => (number_any i.k 32 (by omega) (HI.out).2.2.2 W).mono (fun e w' h => ⟨_, h.1, rfl, h.2⟩)))
    · exact Any.st_j (Any.st_built 34 _ _ #[(0, .int .u16 i.code), (1, .int .u8 i.jt), (2, .int .u8 i.jf), (3, .int .u32 i.k)] #[.int .u16 i.code, .int .u8 i.jt, .int .u8 i.jf, .int .u32 i.k] (.plain rfl) rfl rfl (fun a w h => by have e0 : a.eval (.tmp 19) = .int .u16 i.code := h.eqv 19 (by decide) rfl; have e1 : a.eval (.tmp 24) = .int .u8 i.jt := h.eqv 24 (by decide) rfl; have e2 : a.eval (.tmp 29) = .int .u8 i.jf := h.eqv 29 (by decide) rfl; have e3 : a.eval (.tmp 33) = .int .u32 i.k := h.eqv 33 (by decide) rfl; simp only [List.map_toArray, List.map_cons, List.map_nil, e0, e1, e2, e3]) (fun w => by kernel_rfl) rfl)
  case done =>
    intro f w3 hg hf
    have h34 : f 34 = .agg #[.int .u16 i.code, .int .u8 i.jt, .int .u8 i.jf, .int .u32 i.k] := hf 34 rfl
    simp only [Any.fill, List.foldl_cons, List.foldl_nil, List.setIfInBounds_toArray, List.set_cons_succ, List.set_cons_zero, h34, List.drop_succ_cons, List.drop_zero]
    clear hf h34
    generalize f 15 = f15, f 16 = f16, f 17 = f17, f 18 = f18, f 19 = f19, f 20 = f20, f 21 = f21, f 22 = f22, f 23 = f23, f 24 = f24, f 25 = f25, f 26 = f26, f 27 = f27, f 28 = f28, f 29 = f29, f 30 = f30, f 31 = f31, f 32 = f32, f 33 = f33 at *
    have hB3 := (HB0.out).trans (((Below.refl _ W0).drew.trans hg).mono (by show w.heap.size ≤ W0.heap.size; omega))
    have hR3 := ((HR0.out).drew).below hg (by show w.heap.size < W0.heap.size; omega)
    obtain ⟨e0, e1, e2, e3, h0, h1, h2, h3⟩ := inst_load hR3
    have HR3 := Lib.hid hR3
    have HB3 := Lib.hid hB3
    clear hR3 hB3 hg
    go_wp2_with fail
    refine bodyPost_ret (v := .agg #[.int .u16 i.code, .int .u8 i.jt, .int .u8 i.jf, .int .u32 i.k]) (results_cell_row (p := 2) (ty := 47) rfl _ _ w.heap.size 47 #[.int .u16 i.code, .int .u8 i.jt, .int .u8 i.jf, .int .u32 i.k] (0, 0) _ rfl (inst_row (((((HR3.out).set_ 0 (.int .u16 i.code)).set_ 1 (.int .u8 i.jt)).set_ 2 (.int .u8 i.jf)).set_ 3 (.int .u32 i.k))) Tryz.underlying47 rfl (by kernel_rfl)) rfl ⟨rfl, ((((HB3.out).setCell (p := ⟨w.heap.size, 0, none⟩) (by simp) _).setCell (p := ⟨w.heap.size, 1, none⟩) (by simp) _).setCell (p := ⟨w.heap.size, 2, none⟩) (by simp) _).setCell (p := ⟨w.heap.size, 3, none⟩) (by simp) _⟩
theorem line_ok (i : I) (hi : i.Ok) (bl ol n c : Nat) (w : World) (ht : Tabs w) (hl : LineAt i w bl ol n) :
    Calls Tryz.prog 31 #[.slice (some ⟨bl, ol, none⟩) n c] w fun e w' => e = .returned (.agg #[.int .u16 i.code, .int .u8 i.jt, .int .u8 i.jf, .int .u32 i.k]) ∧ Below w.heap.size w w' := by
  cases h : fms.find? (·.fits i) with
  | some g => exact line_form i hi g h bl ol n c w ht hl
  | none => exact line_raw i hi (by unfold lineWords; rw [h]) bl ol n c w hl
end Go.Proofs.YtpinnockcnmofaaGreatDoor

/-! The walk of list.words at an instruction's line, and at nothing. -/
namespace Go.Proofs.YtpinnockcnmofaaGreatDoor
open Go.RowKit Go.Lib
set_option linter.unusedVariables false

set_option maxRecDepth 100000 in
theorem blank_any (x : Nat) (w : World) : Calls Tryz.prog 54 #[.int .i32 (x : Int)] w fun e w' => e = .returned (.bool (blankP x)) ∧ ∃ q, w' = w.drewN q := by
  unfold blankP
  by_cases h1 : x = 32
  · subst h1
    go_enter Tryz.func54, Tryz.ntmps54
    go_wp2_with fail
    go_ret
    exact ⟨rfl, 0, rfl⟩
  · have n1 : ¬ (x : Int) = 32 := by omega
    by_cases h2 : x = 9
    · subst h2
      go_enter Tryz.func54, Tryz.ntmps54
      go_wp2_with fail
      go_ret
      exact ⟨rfl, 0, rfl⟩
    · have n2 : ¬ (x : Int) = 9 := by omega
      have d1 : (x == 32) = false := by simpa using h1
      have d2 : (x == 9) = false := by simpa using h2
      rw [d1, d2]
      by_cases h3 : x = 13
      · subst h3
        go_enter Tryz.func54, Tryz.ntmps54
        go_wp2_with fail
        go_ret
        exact ⟨rfl, 0, rfl⟩
      · have n3 : ¬ (x : Int) = 13 := by omega
        have d3 : (x == 13) = false := by simpa using h3
        rw [d3]
        clear d1 d2 d3
        go_enter Tryz.func54, Tryz.ntmps54
        go_wp2_with fail
        go_ret
        refine ⟨?_, 0, rfl⟩
        show Ending.returned (.bool ((x : Int) == 32 || (x : Int) == 9 || (x : Int) == 13)) = _
        rw [beq_eq_false_iff_ne.2 n1, beq_eq_false_iff_ne.2 n2, beq_eq_false_iff_ne.2 n3]

theorem own_base2 {w : World} {B B' : Nat} {e : TypeId} {size n : Nat} {xs : List Value} {v : Value} (hb : B' ≤ B) (h : w.ownsRow B e size v n xs) : w.ownsRow B' e size v n xs := by
  refine ⟨h.1, ?_⟩
  rcases h.2 with h0 | ⟨g, cap, cur, h1, h2, h3⟩
  · exact .inl h0
  · exact .inr ⟨g, cap, cur, h1, Nat.le_trans hb h2, h3⟩
set_option maxRecDepth 100000 in
theorem words_any (l : Bs) (ws : List Bs) (hl : l.length ≤ 1000) (hno : (59 : UInt8) ∉ l) (hf : Lib.goFieldsP blankP ⟨l.toArray⟩ = ws.map fun x => (⟨x.toArray⟩ : ByteArray)) (w : World) :
    Calls Tryz.prog 30 #[strV l] w fun e w' => ∃ A, e = .returned (.slice (some ⟨A, 0, none⟩) ws.length ws.length) ∧ w'.ownsRow w.heap.size 9 1 (.slice (some ⟨A, 0, none⟩) ws.length ws.length) ws.length (ws.map strV) ∧ Below w.heap.size w w' := by
  have hc := cut_no l 59 hno w
  have hff := fun W => sh_strings_FieldsFunc 54 #[] (fun args w => rfl) blankP ⟨l.toArray⟩ W (by show l.toArray.size ≤ _; rw [List.size_toArray]; omega) (fun W x hb => blank_any x W)
  rw [hf] at hff
  simp only [List.length_map, List.map_map] at hff
  have HF := Lib.hid hff
  unfold strV at hc ⊢
  clear hff hf
  go_enter Tryz.func30, Tryz.ntmps30
  go_wp2_with fail
  refine hc.mono ?_
  rintro e w1 ⟨rfl, hB1⟩
  clear hc
  have HB1 := Lib.hid hB1
  clear hB1
  go_wp2_with fail
  refine ((HF.out) _).mono ?_
  rintro e w2 ⟨A, rfl, hA, hown, hB2⟩
  have HO := Lib.hid hown
  have HB2 := Lib.hid ((HB1.out).trans (hB2.mono (HB1.out).size))
  clear hown hB2
  go_wp2_with fail
  go_ret
  refine ⟨A, rfl, ?_, HB2.out⟩
  exact own_base2 (HB1.out).size HO.out
end Go.Proofs.YtpinnockcnmofaaGreatDoor

/-! The walk of list.Read at an instruction's line, and at nothing. -/
namespace Go.Proofs.YtpinnockcnmofaaGreatDoor
open Go.RowKit
set_option linter.unusedVariables false

set_option maxRecDepth 100000 in
set_option maxHeartbeats 4000000 in
theorem calm_any (g2 g3 : Nat) (w : World) :
    CallsD Tryz.prog 29 #[.pointer (some ⟨g2, 0, none⟩), .pointer (some ⟨g3, 0, none⟩)] .returning w fun e u' w' => e = .returned (.tuple #[]) ∧ u' = .returning ∧ w' = w := by
  refine callsD_of_wpS Tryz.func29 rfl fun c₀ cs hu => ?_
  apply wpS_seq
  apply wpS_region
  simp [wpOpsS, go_sem, recoverD, hu, Tryz.ntmps29, Exit.thenS]
  refine wpS_of_wp ?_
  go_wp2_with fail
  refine ⟨rfl, .returning, ?_, _, results_none rfl _ _ _, rfl, rfl, rfl⟩
  rw [← hu]
/-- What list.Read leaves. -/
theorem read_leaves (w W : World) (a : I) (e : Nat) (tmps : Array Value) (h2 : tmps.getD 2 undef = .pointer (some ⟨w.heap.size, 0, none⟩)) (h3 : tmps.getD 3 undef = .pointer (some ⟨w.heap.size + 1, 0, none⟩))
    (hr : RowK W w.heap.size 47 4 [.int .u16 a.code, .int .u8 a.jt, .int .u8 a.jf, .int .u32 a.k]) (he : RowK W (w.heap.size + 1) 26 1 [.int .i64 e]) (hB : Below w.heap.size w W) (dargs : Array Value) (hd : dargs = #[]) :
    Leaves Tryz.prog Tryz.f15 tmps (fun e' w' => e' = .returned (.tuple #[.agg #[.int .u16 a.code, .int .u8 a.jt, .int .u8 a.jf, .int .u32 a.k], .int .i64 e]) ∧ Below w.heap.size w w')
      [{ target := .fn (.func 29) #[.pointer (some ⟨w.heap.size, 0, none⟩), .pointer (some ⟨w.heap.size + 1, 0, none⟩)], args := dargs }] .returning W := by
  subst hd
  refine leaves_cons (f := 29) (args := #[.pointer (some ⟨w.heap.size, 0, none⟩), .pointer (some ⟨w.heap.size + 1, 0, none⟩)]) (by simp) (by simp [go_sem]) ?_
  refine (calm_any _ _ W).mono ?_
  rintro e' u' w' ⟨rfl, rfl, rfl⟩
  exact ⟨_, results_two (p := 2) (q := 3) (ty := 47) (tz := 26) rfl _ _ w.heap.size (w.heap.size + 1) _ _ _ _ h2 h3 (inst_row hr) Tryz.underlying47 rfl (by kernel_rfl) _ (load_errno _ _ _ (he.cell (k := 0) rfl)), rfl, hB⟩

set_option maxRecDepth 100000 in
set_option maxHeartbeats 4000000 in
theorem readLine_ok (i : I) (hi : i.Ok) (w : World) (ht : Tabs w) :
    Calls Tryz.prog 15 #[strV (lineN i)] w fun e w' => e = .returned (.tuple #[.agg #[.int .u16 i.code, .int .u8 i.jt, .int .u8 i.jf, .int .u32 i.k], .int .i64 (0 : Nat)]) ∧ Below w.heap.size w w' := by
  have hmf : ∀ (fn : Fn) (first cap : Array Value) (w : World), (Instr.makeFunc fn first cap).run Tryz.prog w = .ok (.func fn first cap) w := fun _ _ _ _ => rfl
  have hw := fun W => words_any (lineN i) (lineWords i) (by have := line_len i hi; omega) (cut_line i hi) (fields_lineN i hi) W
  have hpos := (lineWords_len i).1
  have hB0 : Below w.heap.size w ((w.alloc (.cells #[.int .u16 0, .int .u8 0, .int .u8 0, .int .u32 0] 47)).alloc (.cells #[.int .i64 0] 26)) := ((Below.refl _ w).alloc (Nat.le_refl _) _).alloc (by simp) _
  have hr0 : RowK ((w.alloc (.cells #[.int .u16 0, .int .u8 0, .int .u8 0, .int .u32 0] 47)).alloc (.cells #[.int .i64 0] 26)) w.heap.size 47 4 [.int .u16 0, .int .u8 0, .int .u8 0, .int .u32 0] := (RowK.new w 47 #[.int .u16 0, .int .u8 0, .int .u8 0, .int .u32 0] [.int .u16 0, .int .u8 0, .int .u8 0, .int .u32 0] rfl).alloc _
  have he0 : RowK ((w.alloc (.cells #[.int .u16 0, .int .u8 0, .int .u8 0, .int .u32 0] 47)).alloc (.cells #[.int .i64 0] 26)) (w.heap.size + 1) 26 1 [.int .i64 0] := by
    have := RowK.new (w.alloc (.cells #[.int .u16 0, .int .u8 0, .int .u8 0, .int .u32 0] 47)) 26 #[.int .i64 0] [.int .i64 0] rfl
    simpa using this
  have hs0 : ((w.alloc (.cells #[.int .u16 0, .int .u8 0, .int .u8 0, .int .u32 0] 47)).alloc (.cells #[.int .i64 0] 26)).heap.size = w.heap.size + 2 := by simp
  have HB0 := Lib.hid hB0
  have HR0 := Lib.hid hr0
  have HE0 := Lib.hid he0
  have HT := Lib.hid ht
  have HI := Lib.hid hi
  have HWD := Lib.hid hw
  clear hB0 hr0 he0 ht hi hw
  unfold strV
  go_enter_defers Tryz.func15, Tryz.ntmps15
  go_upto_region 2 with fail
  generalize ((w.alloc (.cells #[.int .u16 0, .int .u8 0, .int .u8 0, .int .u32 0] 47)).alloc (.cells #[.int .i64 0] 26)) = W0 at *
  go_wp2_with fail
  refine ((HWD.out) W0).mono ?_
  rintro e w1 ⟨A, rfl, own1, hB1⟩
  have hline : LineAt i w1 A 0 (lineWords i).length := by
    rcases own1.2 with ⟨h, _⟩ | ⟨g, cap, cur, h1, _, hh, _, _, _, h4⟩
    · cases h
    · cases h1
      refine ⟨(Array.getElem?_eq_some_iff.1 hh).1, rfl, fun j x hx => ?_⟩
      have hjl : j < (lineWords i).length := (List.getElem?_eq_some_iff.1 hx).1
      have e1 : (cur.toList.take ((lineWords i).length * 1))[j]? = some (strV x) := by rw [h4, List.getElem?_map, hx]; rfl
      rw [List.getElem?_take, if_pos (by omega)] at e1
      rw [Lib.cell_of_heap hh, Nat.zero_add]
      simpa using e1
  generalize hn : (lineWords i).length = n at *
  have hn0 : ¬ (n : Int) = 0 := by omega
  have hr1 := (HR0.out).below hB1 (by omega)
  have he1 := (HE0.out).below hB1 (by omega)
  have hBw1 := (HB0.out).trans (hB1.mono (HB0.out).size)
  have hs1 := hB1.size
  have hc := line_ok i HI.out A 0 n n w1 ((HT.out).below hBw1 (Nat.le_refl _)) hline
  have HC := Lib.hid hc
  have HR1 := Lib.hid hr1
  have HE1 := Lib.hid he1
  have HB1 := Lib.hid hBw1
  clear hc hr1 he1 hBw1 own1 hB1 hline hn HR0 HE0 HB0 HWD
  go_wp2_with fail
  refine (HC.out).mono ?_
  rintro e w2 ⟨rfl, hB2⟩
  have hr2 := (HR1.out).below hB2 (by omega)
  have he2 := (HE1.out).below hB2 (by omega)
  have hB3 := (HB1.out).trans (hB2.mono (HB1.out).size)
  obtain ⟨a0, a1, a2, a3, f0, f1, f2, f3⟩ := inst_load hr2
  have b0 := he2.cell (k := 0) rfl
  have g0 := he2.frozen 0
  have HR2 := Lib.hid hr2
  have HE2 := Lib.hid he2
  have HB3 := Lib.hid hB3
  clear hr2 he2 hB3 hB2 HC
  go_wp2_with fail
  refine read_leaves w _ i 0 _ rfl rfl ((((((HR2.out).set_ 0 (.int .u16 i.code)).set_ 1 (.int .u8 i.jt)).set_ 2 (.int .u8 i.jf)).set_ 3 (.int .u32 i.k)).far (p := ⟨w.heap.size + 1, 0, none⟩) (by simp) (.int .i64 0)) ((((((HE2.out).far (p := ⟨w.heap.size, 0, none⟩) (by simp) (.int .u16 i.code)).far (p := ⟨w.heap.size, 1, none⟩) (by simp) (.int .u8 i.jt)).far (p := ⟨w.heap.size, 2, none⟩) (by simp) (.int .u8 i.jf)).far (p := ⟨w.heap.size, 3, none⟩) (by simp) (.int .u32 i.k)).set_ 0 (.int .i64 0)) ((((((HB3.out).setCell (p := ⟨w.heap.size, 0, none⟩) (by simp) _).setCell (p := ⟨w.heap.size, 1, none⟩) (by simp) _).setCell (p := ⟨w.heap.size, 2, none⟩) (by simp) _).setCell (p := ⟨w.heap.size, 3, none⟩) (by simp) _).setCell (p := ⟨w.heap.size + 1, 0, none⟩) (by simp) _) _ rfl

set_option maxRecDepth 100000 in
set_option maxHeartbeats 4000000 in
theorem readLine_none (w : World) :
    Calls Tryz.prog 15 #[strV []] w fun e w' => e = .returned (.tuple #[.agg #[.int .u16 (0 : Nat), .int .u8 (0 : Nat), .int .u8 (0 : Nat), .int .u32 (0 : Nat)], .int .i64 (4 : Nat)]) ∧ Below w.heap.size w w' := by
  have hmf : ∀ (fn : Fn) (first cap : Array Value) (w : World), (Instr.makeFunc fn first cap).run Tryz.prog w = .ok (.func fn first cap) w := fun _ _ _ _ => rfl
  have hw := fun W => words_any [] [] (by simp) (by simp) fields_none W
  have hB0 : Below w.heap.size w ((w.alloc (.cells #[.int .u16 0, .int .u8 0, .int .u8 0, .int .u32 0] 47)).alloc (.cells #[.int .i64 0] 26)) := ((Below.refl _ w).alloc (Nat.le_refl _) _).alloc (by simp) _
  have hr0 : RowK ((w.alloc (.cells #[.int .u16 0, .int .u8 0, .int .u8 0, .int .u32 0] 47)).alloc (.cells #[.int .i64 0] 26)) w.heap.size 47 4 [.int .u16 0, .int .u8 0, .int .u8 0, .int .u32 0] := (RowK.new w 47 #[.int .u16 0, .int .u8 0, .int .u8 0, .int .u32 0] [.int .u16 0, .int .u8 0, .int .u8 0, .int .u32 0] rfl).alloc _
  have he0 : RowK ((w.alloc (.cells #[.int .u16 0, .int .u8 0, .int .u8 0, .int .u32 0] 47)).alloc (.cells #[.int .i64 0] 26)) (w.heap.size + 1) 26 1 [.int .i64 0] := by
    have := RowK.new (w.alloc (.cells #[.int .u16 0, .int .u8 0, .int .u8 0, .int .u32 0] 47)) 26 #[.int .i64 0] [.int .i64 0] rfl
    simpa using this
  have hs0 : ((w.alloc (.cells #[.int .u16 0, .int .u8 0, .int .u8 0, .int .u32 0] 47)).alloc (.cells #[.int .i64 0] 26)).heap.size = w.heap.size + 2 := by simp
  have HB0 := Lib.hid hB0
  have HR0 := Lib.hid hr0
  have HE0 := Lib.hid he0
  have HWD := Lib.hid hw
  clear hB0 hr0 he0 hw
  unfold strV
  go_enter_defers Tryz.func15, Tryz.ntmps15
  go_upto_region 2 with fail
  generalize ((w.alloc (.cells #[.int .u16 0, .int .u8 0, .int .u8 0, .int .u32 0] 47)).alloc (.cells #[.int .i64 0] 26)) = W0 at *
  go_wp2_with fail
  refine ((HWD.out) W0).mono ?_
  rintro e w1 ⟨A, rfl, -, hB1⟩
  have hr1 := (HR0.out).below hB1 (by omega)
  have he1 := (HE0.out).below hB1 (by omega)
  have hBw1 := (HB0.out).trans (hB1.mono (HB0.out).size)
  obtain ⟨a0, a1, a2, a3, f0, f1, f2, f3⟩ := inst_load hr1
  have b0 := he1.cell (k := 0) rfl
  have g0 := he1.frozen 0
  have HR2 := Lib.hid hr1
  have HE2 := Lib.hid he1
  have HB3 := Lib.hid hBw1
  clear hr1 he1 hBw1 hB1 HR0 HE0 HB0 HWD
  go_wp2_with fail
  refine read_leaves w _ ⟨0, 0, 0, 0⟩ 4 _ rfl rfl ((((((HR2.out).set_ 0 (.int .u16 (0 : Nat))).set_ 1 (.int .u8 (0 : Nat))).set_ 2 (.int .u8 (0 : Nat))).set_ 3 (.int .u32 (0 : Nat))).far (p := ⟨w.heap.size + 1, 0, none⟩) (by simp) (.int .i64 4)) ((((((HE2.out).far (p := ⟨w.heap.size, 0, none⟩) (by simp) (.int .u16 (0 : Nat))).far (p := ⟨w.heap.size, 1, none⟩) (by simp) (.int .u8 (0 : Nat))).far (p := ⟨w.heap.size, 2, none⟩) (by simp) (.int .u8 (0 : Nat))).far (p := ⟨w.heap.size, 3, none⟩) (by simp) (.int .u32 (0 : Nat))).set_ 0 (.int .i64 4)) ((((((HB3.out).setCell (p := ⟨w.heap.size, 0, none⟩) (by simp) _).setCell (p := ⟨w.heap.size, 1, none⟩) (by simp) _).setCell (p := ⟨w.heap.size, 2, none⟩) (by simp) _).setCell (p := ⟨w.heap.size, 3, none⟩) (by simp) _).setCell (p := ⟨w.heap.size + 1, 0, none⟩) (by simp) _) _ rfl
end Go.Proofs.YtpinnockcnmofaaGreatDoor
