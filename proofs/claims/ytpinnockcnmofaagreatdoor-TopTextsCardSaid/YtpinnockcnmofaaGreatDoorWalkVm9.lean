/-
  The walk of a program's run from its instructions on.
-/
import Derived.Test.YtpinnockcnmofaaGreatDoorWalkVm8
import Derived.Laws.Rows
namespace Go.Proofs.YtpinnockcnmofaaGreatDoor
open Go.RowKit
set_option linter.unusedVariables false

/-- What vm.Run hands back. -/
def TellsVm (p : List I) (bs : List Nat) (w : World) (e : Ending) (w' : World) : Prop :=
  ∃ (v st : Nat) (ldA : Option Addr) (ldn ldc : Nat), ((checkN p).2 = 0 → (v, st) = runV p (fun k => getN bs k 4 false) p.length v0) ∧
    e = .returned (.tuple #[.agg #[.int .u32 v, .int .i64 st, .slice ldA ldn ldc], .int .i64 ((checkN p).2 : Nat)]) ∧ Below w.heap.size w w'

/-- What a run of any program comes to: nothing where it does not pass the check. -/
def vmN (p : List I) (bs : List Nat) : Nat × Nat := if (checkN p).2 = 0 then runV p (fun k => getN bs k 4 false) p.length v0 else (0, 0)
def TellsVm0 (p : List I) (bs : List Nat) (w : World) (e : Ending) (w' : World) : Prop :=
  ∃ (v st : Nat) (ldA : Option Addr) (ldn ldc : Nat), (v, st) = vmN p bs ∧
    e = .returned (.tuple #[.agg #[.int .u32 v, .int .i64 st, .slice ldA ldn ldc], .int .i64 ((checkN p).2 : Nat)]) ∧ Below w.heap.size w w'

theorem results_ct {P : Program} {fn : Func} {p q : Tmp} {ty : TypeId} (h : fn.results = #[.cell p ty, .tmp q]) (tmps : Array Value) (w : World) (g : Nat) (t : TypeId) (cs : Array Value) (fr : Nat × Nat) (d : TypeDesc) (v : Value)
    (hp : tmps.getD p undef = .pointer (some ⟨g, 0, none⟩)) (hq : tmps.getD q undef = v) (hg : w.heap[g]? = some (.cells cs t fr))
    (hu : P.underlying ty = some d) (hd : (match d with | .struct _ | .array _ _ => true | _ => false) = true) (hi : (P.info? ty).map (·.size) = some cs.size) :
    (results fn tmps).run P w = .ok (.tuple #[.agg cs, v]) w := by
  have hp' : tmps[p]?.getD undef = .pointer (some ⟨g, 0, none⟩) := by simpa using hp
  have hq' : tmps[q]?.getD undef = v := by simpa using hq
  simp [results, h, hp', hq', asAddr, run_loadVar_row w g t ty cs fr d hg hu hd hi]
theorem formed_of_check {p : List I} (h : (checkN p).2 = 0) : FormedP p := formed_of (by
  unfold checkN at h
  by_cases hf : (formedN p).2 = 0
  · exact hf
  · rw [if_pos hf] at h; exact h)

set_option maxRecDepth 100000 in
set_option maxHeartbeats 1000000 in
theorem vmrun_all (p : List I) (hok : ∀ i ∈ p, i.Ok) (A : Option Addr) (n c : Nat) (bs : List Nat) (hbs : ∀ b ∈ bs, b < 256) (B : Option Addr) (cb : Nat) (w : World) (hr : Reads w w.heap.size 4 A n (cellsI p)) (hn : n ≤ 100000) (hrb : Reads w w.heap.size 1 B 64 (bytesV bs)) :
    Calls Tryz.prog 10 #[.slice A n c, .slice B 64 cb] w (TellsVm0 p bs w) := by
  let W0 : World := w.alloc (.cells #[.int .u32 0, .int .i64 0, .slice none 0 0] 39)
  have h4 : RowK W0 w.heap.size 39 3 [.int .u32 0, .int .i64 0, .slice none 0 0] := RowK.new w 39 #[.int .u32 0, .int .i64 0, .slice none 0 0] [.int .u32 0, .int .i64 0, .slice none 0 0] rfl
  have hB0 : Below w.heap.size w W0 := (Below.refl _ w).alloc (Nat.le_refl _) _
  have hs0 : W0.heap.size = w.heap.size + 1 := by simp [W0]
  have hr0 := (hr.below hB0).more hB0.size
  have hrb0 := (hrb.below hB0).more hB0.size
  have hW : w.alloc (.cells #[.int .u32 0, .int .i64 0, .slice none 0 0] 39) = W0 := rfl
  have ends : ∀ (w6 : World) (v st : Nat) (ldA : Option Addr) (ldn ldc : Nat), RowK w6 w.heap.size 39 3 [.int .u32 v, .int .i64 st, .slice ldA ldn ldc] → w6.heap[w.heap.size]? = some (.cells #[.int .u32 v, .int .i64 st, .slice ldA ldn ldc] 39 (0, 0)) := by
    rintro w6 v st ldA ldn ldc ⟨cur, hcur, hsz, htk⟩
    have hcs3 : cur = #[.int .u32 v, .int .i64 st, .slice ldA ldn ldc] := by
      apply Array.toList_inj.1
      rw [← htk, List.take_of_length_le (by simp [hsz])]
    rw [← hcs3]
    exact hcur
  go_enter Tryz.func10, Tryz.ntmps10
  go_wp2_with fail
  clear hW
  clear_value W0
  refine (new_any p hok A n c W0 hr0 hn).mono ?_
  rintro e w1 (⟨gm, A1, c1, hz, rfl, hg1, hg2, hc1, ho1, hB1⟩ | ⟨hz, rfl, hB1⟩)
  · have h41 := h4.below hB1 (by omega)
    have hsz1 := hB1.size
    have hb1 := (hrb0.below hB1).more hB1.size
    have HZ := Lib.hid hz
    have H41 := Lib.hid h41
    have HB1 := Lib.hid (hB0.trans (hB1.mono (by omega)))
    clear hz h41 h4 hr hrb hr0 hrb0 hB1 hB0
    go_wp2_with fail
    refine (run_any p hok (formed_of_check HZ.out) bs hbs gm A1 c1 B cb w1 hc1 ho1 hb1).mono ?_
    rintro e w2 ⟨ldA, ldn, ldc, rfl, hB2⟩
    have h42 := (H41.out).below hB2 (by omega)
    have a0 := h42.cell (k := 0) rfl
    have a1 := h42.cell (k := 1) rfl
    have a2 := h42.cell (k := 2) rfl
    have e0 := h42.frozen 0
    have e1 := h42.frozen 1
    have e2 := h42.frozen 2
    have hl4 := h42.lt
    have H42 := Lib.hid h42
    have HB2 := Lib.hid ((HB1.out).trans (hB2.mono (by omega)))
    clear h42 hB2
    generalize hV : runV p (fun k => getN bs k 4 false) p.length v0 = V at *
    obtain ⟨v, st⟩ := V
    simp only
    go_wp2_with fail
    have r6 := ends _ _ _ _ _ _ ((((H42.out).set_ 0 (.int .u32 v)).set_ 1 (.int .i64 st)).set_ 2 (.slice ldA ldn ldc))
    have b6 := (((HB2.out).setCell (p := ⟨w.heap.size, 0, none⟩) (Nat.le_refl _) (.int .u32 v)).setCell (p := ⟨w.heap.size, 1, none⟩) (Nat.le_refl _) (.int .i64 st)).setCell (p := ⟨w.heap.size, 2, none⟩) (Nat.le_refl _) (.slice ldA ldn ldc)
    refine bodyPost_ret (v := .tuple #[.agg #[.int .u32 v, .int .i64 st, .slice ldA ldn ldc], .int .i64 0]) (results_ct (p := 4) (q := 5) (ty := 39) rfl _ _ w.heap.size _ _ _ _ _ rfl rfl r6 Tryz.underlying39 rfl (by kernel_rfl)) rfl ⟨v, st, ldA, ldn, ldc, by unfold vmN; rw [if_pos HZ.out]; exact hV.symm, ?_, b6⟩
    rw [HZ.out]; rfl
  · have h42 := h4.below hB1 (by omega)
    have HB2 := Lib.hid (hB0.trans (hB1.mono (by omega)))
    have a0 := h42.cell (k := 0) rfl
    have a1 := h42.cell (k := 1) rfl
    have a2 := h42.cell (k := 2) rfl
    have e0 := h42.frozen 0
    have e1 := h42.frozen 1
    have e2 := h42.frozen 2
    have hl4 := h42.lt
    have H42 := Lib.hid h42
    have ez : ¬ (((checkN p).2 : Nat) : Int) = 0 := by omega
    have EZ := Lib.hid hz
    clear h42 hB1 hB0 hz hr hrb hr0 hrb0 h4
    generalize hE : (checkN p).2 = E at *
    have HE := Lib.hid hE
    clear hE
    go_wp2_with fail
    try go_region
    all_goals
      have r6 := ends _ _ _ _ _ _ ((((H42.out).set_ 0 (.int .u32 0)).set_ 1 (.int .i64 0)).set_ 2 (.slice none 0 0))
      have b6 := (((HB2.out).setCell (p := ⟨w.heap.size, 0, none⟩) (Nat.le_refl _) (.int .u32 0)).setCell (p := ⟨w.heap.size, 1, none⟩) (Nat.le_refl _) (.int .i64 0)).setCell (p := ⟨w.heap.size, 2, none⟩) (Nat.le_refl _) (.slice none 0 0)
      refine bodyPost_ret (v := .tuple #[.agg #[.int .u32 0, .int .i64 0, .slice none 0 0], .int .i64 (E : Nat)]) (results_ct (p := 4) (q := 5) (ty := 39) rfl _ _ w.heap.size _ _ _ _ _ rfl rfl r6 Tryz.underlying39 rfl (by kernel_rfl)) rfl ⟨0, 0, none, 0, 0, by unfold vmN; rw [if_neg (fun h => absurd (HE.out.symm.trans h) EZ.out)], ?_, b6⟩
      rw [HE.out]; rfl
theorem vmrun_any (p : List I) (hok : ∀ i ∈ p, i.Ok) (A : Option Addr) (n c : Nat) (bs : List Nat) (hbs : ∀ b ∈ bs, b < 256) (B : Option Addr) (cb : Nat) (w : World) (hr : Reads w w.heap.size 4 A n (cellsI p)) (hn : n ≤ 100000) (hrb : Reads w w.heap.size 1 B 64 (bytesV bs)) :
    Calls Tryz.prog 10 #[.slice A n c, .slice B 64 cb] w (TellsVm p bs w) := by
  refine (vmrun_all p hok A n c bs hbs B cb w hr hn hrb).mono ?_
  rintro e w' ⟨v, st, ldA, ldn, ldc, hv, he, hB⟩
  exact ⟨v, st, ldA, ldn, ldc, fun h => by rw [hv]; unfold vmN; rw [if_pos h], he, hB⟩
end Go.Proofs.YtpinnockcnmofaaGreatDoor
