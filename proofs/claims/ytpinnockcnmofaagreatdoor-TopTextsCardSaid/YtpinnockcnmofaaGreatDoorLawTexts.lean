/-
  A range over an iterator that writes one cell of its own between two rounds: the law, where no round leaves by a jump, and strings.SplitSeq's contract at a program's text.
-/
import Derived.Test.YtpinnockcnmofaaGreatDoorWalkReadL6
import Derived.Test.YtpinnockcnmofaaGreatDoorPlaces
import Derived.Test.YtpinnockcnmofaaGreatDoorChunks4
import Derived.Test.YtpinnockcnmofaaGreatDoorWalkIRead
import Derived.Test.YtpinnockcnmofaaGreatDoorWalkText2
import Derived.Test.YtpinnockcnmofaaGreatDoorWalkWrite
import Derived.Test.YtpinnockcnmofaaGreatDoorWalkAllT
import Derived.Test.YtpinnockcnmofaaGreatDoorAwakeT
import Derived.Test.YtpinnockcnmofaaGreatDoorWalkCheck
import Derived.Test.YtpinnockcnmofaaGreatDoorOpenArrs
import Derived.Test.YtpinnockcnmofaaGreatDoorRows
import Derived.ProofKit
import Derived.Lay
import Derived.LaidMore
import Derived.MakeChecks
import Derived.OpenShut
import Derived.Stop.Joined
import Derived.Stop.LaidErr
/-! A range over an iterator that writes one cell of its own between two rounds: the law, where no round leaves by a jump, and strings.SplitSeq's contract at a program's text. -/
namespace Go.Proofs.YtpinnockcnmofaaGreatDoor
open Go.RowKit Go.Shelf
set_option linter.unusedVariables false
attribute [local go_sem] Oper.semAt_some

section
variable {F : Fence} {n : Nat} {P : Program}
/-- The iterator at closure g calls yield m times, at val 0, val 1, ..; between two rounds it writes its cell B alone. -/
def TurnsOf (F : Fence) (n : Nat) (P : Program) (g : Nat) (lb : Array Value) (val : Nat → Value) (m B lo : Nat) (w : World) : Prop :=
  ∀ (l : Nat) (J : Nat → World → Prop) (W : World), Below w.heap.size w W →
    (∀ k X v, J k X → J k (X.setCell ⟨B, 0, none⟩ v)) →
    (∀ k X, k < m → J k X → YieldAt F (n - 1) P l #[val k] X fun e X' => e = .returned (.bool true) ∧ J (k + 1) X' ∧ KeepsAt lo w.heap.size X X') →
    J 0 W →
    CallsIn F n P g (#[.func (.yield l) #[] #[]] ++ lb) W fun e X' => (∃ v, e = .returned v) ∧ J m X'

theorem rangeFunc_turns {g : Operand} {ps : Array Tmp} {assign body : Code} {Q : Exit → Act → World → Prop} {a : Act} {w : World}
    (hro : F.round = none) (h1 : 1 ≤ n) {gf : Nat} {lb : Array Value} (hg : a.eval g = .func (.func gf) #[] lb) (hFg : F.fn gf) (eg : ∀ args w, (callFunc gf args).run P w = .ok (.enter gf args) w)
    {val : Nat → Value} {m B lo : Nat} (hseq : TurnsOf F (n - 1) P gf lb val m B lo w) (hB : B < w.heap.size) (hps : ps.size = 1)
    (I : Nat → World → Prop) (hIs : ∀ k X v, I k X → I k (X.setCell ⟨B, 0, none⟩ v))
    (hIp : ∀ k X l o o', I k X → w.heap.size ≤ l → X.heap[l]? = some o → o.isCells = false → I k (X.putObj l o'))
    (hIa : ∀ k X o, I k X → w.heap.size ≤ X.heap.size → I k (X.alloc o)) (h0 : I 0 w) (a₁ : Nat → Act)
    (hassign : ∀ (l k : Nat) (X : World) (K : Act → World → Prop), K (a₁ k) X →
      assign.wpIn (F.inRound l) (n - 1 - 1) P (Exit.then K (fun _ _ _ => False)) { tmps := (ps.zip #[val k]).foldl (fun t (p, v) => t.setIfInBounds p v) a.tmps, defers := [] } X)
    (hbody : ∀ (l k : Nat) (X : World), I k X → k < m → body.wpIn (F.inRound l) (n - 1 - 1) P (fun e _ X' => e = .normal ∧ KeepsOthers X X' ∧ KeepsAt lo w.heap.size X X' ∧ I (k + 1) X') (a₁ k) X)
    (hdone : ∀ (D : Nat) (X : World), w.heap.size ≤ D → I m X → X.heap[D]? = some (.deferred (some [])) → Q .normal { a with defers := { target := .collected D, args := #[] } :: a.defers } X) :
    (Code.rangeFunc g ps assign body).wpIn F n P Q a w := by
  refine wpIn_rangeFunc fun fn hfn => ?_
  rw [hro]
  let r0 : Loop := { state := .ready, pending := none, fn := fn, tmps := a.tmps, params := ps, assign := assign, body := body, defers := w.heap.size }
  have hr0 : r0 = { state := .ready, pending := none, fn := fn, tmps := a.tmps, params := ps, assign := assign, body := body, defers := w.heap.size } := rfl
  obtain ⟨V, hV⟩ : ∃ V, (w.alloc (.deferred (some []))).alloc (.loop r0) = V := ⟨_, rfl⟩
  have vL : V.heap[w.heap.size + 1]? = some (.loop r0) := by
    rw [← hV]
    have := World.alloc_heap_new (w.alloc (.deferred (some []))) (.loop r0)
    rwa [World.size_alloc] at this
  have vD : V.heap[w.heap.size]? = some (.deferred (some [])) := by
    rw [← hV]
    exact (Below.heap_alloc _ _ _ (by simp)).trans (World.alloc_heap_new w _)
  have vB : Below w.heap.size w V := by
    rw [← hV]
    exact ((Below.refl _ w).alloc (Nat.le_refl _) _).alloc (by simp) _
  have vI : I 0 V := by
    rw [← hV]
    exact hIa _ _ _ (hIa _ _ _ h0 (Nat.le_refl _)) (by simp)
  refine ⟨w.heap.size + 1, [{ target := .collected w.heap.size, args := #[] }], V, { target := .fn (.func gf) lb, args := #[.func (.yield (w.heap.size + 1)) #[] #[]] }, V, gf,
    #[.func (.yield (w.heap.size + 1)) #[] #[]] ++ lb, V, ?enter, ?res, ?leads, ?inv, fun _ => h1, ?call⟩
  case enter => rw [← hV]; exact run_enterLoop_outer _ _ _ _ _
  case res => simp only [resolve, hg]; simp [go_sem]
  case leads => intro f' h; simp [Target.leads] at h; subst h; exact hFg
  case inv => simp [invoke, go_sem, eg]
  case call =>
    refine (hseq (w.heap.size + 1) (fun k X => I k X ∧ X.heap[w.heap.size + 1]? = some (.loop r0) ∧ X.heap[w.heap.size]? = some (.deferred (some []))) V vB ?write ?round ⟨vI, vL, vD⟩).mono ?behind
    case write =>
      rintro k X v ⟨hi, hl, hd⟩
      exact ⟨hIs k X v hi, (Below.heap_setCell _ _ _ _ (by simp; omega)).trans hl, (Below.heap_setCell _ _ _ _ (by simp; omega)).trans hd⟩
    case round =>
      rintro k X hk ⟨hi, hl, hd⟩
      have hlt := (Array.getElem?_eq_some_iff.1 hl).1
      refine ⟨fn, _, assign, body, run_yield (P := P) (args := #[val k]) hl (by simp [hr0, hps]), roundIn_of_wpIn hfn (hassign _ k X _ ⟨_, run_beginRound hl rfl, ?_⟩)⟩
      have hl2 : (X.putObj (w.heap.size + 1) (.loop { r0 with state := .busy })).heap[w.heap.size + 1]? = some (.loop { r0 with state := .busy }) := World.putObj_heap_same hlt
      have hd2 : (X.putObj (w.heap.size + 1) (.loop { r0 with state := .busy })).heap[w.heap.size]? = some (.deferred (some [])) := (World.putObj_heap_other (by omega)).trans hd
      have k2 : KeepsAt lo w.heap.size X (X.putObj (w.heap.size + 1) (.loop { r0 with state := .busy })) := KeepsAt.putObj _ _ _ (by omega)
      have i2 := hIp k X _ _ (.loop { r0 with state := .busy }) hi (Nat.le_succ _) hl rfl
      refine wpIn_mono (hbody _ k _ i2 hk) ?_
      rintro e a3 Y ⟨rfl, ho, hK, hi3⟩
      have hl3 := ho.same _ _ hl2 rfl
      have hd3 := ho.same _ _ hd2 rfl
      refine ⟨_, _, run_endRound (P := P) none hl3, rfl, ⟨hIp _ _ _ _ _ hi3 (Nat.le_succ _) hl3 rfl, ?_, (World.putObj_heap_other (by omega)).trans hd3⟩, (k2.trans hK).trans (KeepsAt.putObj _ _ _ (by omega))⟩
      exact World.putObj_heap_same (Array.getElem?_eq_some_iff.1 hl3).1
    case behind =>
      rintro e X ⟨⟨v, rfl⟩, hi, hl, hd⟩
      exact ⟨none, _, run_endLoop (P := P) hl (by simp [hr0]), hdone _ _ (Nat.le_refl _) (hIp _ _ _ _ _ hi (Nat.le_succ _) hl rfl) ((World.putObj_heap_other (by omega)).trans hd)⟩
end
end Go.Proofs.YtpinnockcnmofaaGreatDoor

/-! strings.SplitSeq at a program's text and a newline: its lines one by one, and nothing behind the last. -/
namespace Go.Proofs.YtpinnockcnmofaaGreatDoor
open Go.RowKit Go.Shelf
set_option linter.unusedVariables false
attribute [local go_sem] Oper.semAt_some

/-- The k-th piece of a text that is cut at its newlines. -/
def pieceV (l : List I) (k : Nat) : Value := strV ((l.map lineN).getD k [])
def boxLen (w : World) (B : Nat) : Nat := match w.cell? ⟨B, 0, none⟩ with | some (.string s) => s.size | _ => 0
theorem boxLen_of {w : World} {B : Nat} {s : ByteArray} (h : w.cell? ⟨B, 0, none⟩ = some (.string s)) : boxLen w B = s.size := by unfold boxLen; rw [h]

set_option maxRecDepth 100000 in
set_option maxHeartbeats 1000000 in
theorem split1_in (n : Nat) (hn : 1 ≤ n) (l B : Nat) (is : List I) (hok : ∀ i ∈ is, i.Ok) (hlen : is.length ≤ 10000) (lo hi : Nat) (hB : lo ≤ B) (hB2 : B + 3 ≤ hi) (J : Nat → World → Prop)
    (hJs : ∀ k X v, J k X → J k (X.setCell ⟨B, 0, none⟩ v))
    (hY : ∀ k X, k < is.length + 1 → J k X → YieldAt Fence.wide (n - 1) Tryz.prog l #[pieceV is k] X fun e X' => e = .returned (.bool true) ∧ J (k + 1) X' ∧ KeepsAt lo hi X X')
    (W : World) (h1 : W.cell? ⟨B, 0, none⟩ = some (.string ⟨(textN is).toArray⟩)) (hf : W.frozen? ⟨B, 0, none⟩ = false) (h2 : W.cell? ⟨B + 1, 0, none⟩ = some (.string ⟨#[10]⟩)) (h3 : W.cell? ⟨B + 2, 0, none⟩ = some (.int .i64 0)) (h0 : J 0 W) :
    CallsIn Fence.wide n Tryz.prog 49 #[.func (.yield l) #[] #[], .pointer (some ⟨B + 1, 0, none⟩), .pointer (some ⟨B, 0, none⟩), .pointer (some ⟨B + 2, 0, none⟩)] W fun e W' => (∃ v, e = .returned v) ∧ J (is.length + 1) W' := by
  have htl := text_len is hok
  refine callsIn_of_wp Tryz.func49 rfl trivial ?_ rfl
  simp only [Tryz.ntmps49, List.size_toArray, List.length_cons, List.length_nil, Nat.reduceAdd, Nat.reduceSub, Array.replicate_succ, Array.replicate_zero, List.push_toArray, List.append_toArray, List.nil_append, List.cons_append]
  have hs1 : (⟨#[10]⟩ : ByteArray).size = 1 := rfl
  gi_wp2
  gi_loopw [7] (fun i wr => ∃ k : Nat, k ≤ is.length ∧ J k wr ∧ wr.cell? ⟨B, 0, none⟩ = some (.string ⟨(textN (is.drop k)).toArray⟩) ∧ wr.frozen? ⟨B, 0, none⟩ = false ∧ wr.cell? ⟨B + 1, 0, none⟩ = some (.string ⟨#[10]⟩) ∧ wr.cell? ⟨B + 2, 0, none⟩ = some (.int .i64 0))
    (fun _ wr => boxLen wr B)
  case atStart => exact ⟨0, Nat.zero_le _, h0, by simpa using h1, hf, h2, h3⟩
  case round =>
    obtain ⟨k, hk, hJk, c1, cf, c2, c3⟩ := hrel
    by_cases hlt : k < is.length
    · have hd : is.drop k = is[k] :: is.drop (k + 1) := List.drop_eq_getElem_cons hlt
      have ht : textN (is.drop k) = lineN is[k] ++ 10 :: textN (is.drop (k + 1)) := by
        rw [hd]; unfold textN; rw [List.flatMap_cons]; simp
      have hlk := line_len is[k] (hok _ (List.getElem_mem hlt))
      have hno := line_no10 is[k] (hok _ (List.getElem_mem hlt))
      have htr := text_len (is.drop (k + 1)) (fun i hi => hok i (List.mem_of_mem_drop hi))
      have hpv : pieceV is k = .string ⟨(lineN is[k]).toArray⟩ := by
        unfold pieceV strV; simp [List.getD_eq_getElem?_getD, hlt]
      have hdl : (is.drop (k + 1)).length ≤ 10000 := by simp; omega
      rw [ht] at c1
      have hidx := fun W => sh_strings_Index_one ⟨(lineN is[k] ++ 10 :: textN (is.drop (k + 1))).toArray⟩ 10 W
      rw [show (⟨(lineN is[k] ++ 10 :: textN (is.drop (k + 1))).toArray⟩ : ByteArray).data.toList = lineN is[k] ++ 10 :: textN (is.drop (k + 1)) from rfl, index_some 10 _ _ hno] at hidx
      have e1 : (⟨(lineN is[k] ++ 10 :: textN (is.drop (k + 1))).toArray⟩ : ByteArray).extract 0 (lineN is[k]).length = ⟨(lineN is[k]).toArray⟩ := by
        apply ByteArray.ext; simp
      have e2 : (⟨(lineN is[k] ++ 10 :: textN (is.drop (k + 1))).toArray⟩ : ByteArray).extract ((lineN is[k]).length + 1) ((lineN is[k]).length + ((textN (is.drop (k + 1))).length + 1)) = ⟨(textN (is.drop (k + 1))).toArray⟩ := by
        apply ByteArray.ext; simp; rw [show List.length (lineN is[k]) + (List.length (textN (is.drop (k + 1))) + 1) - (List.length (lineN is[k]) + 1) = (textN (is.drop (k + 1))).length by omega, List.take_length]
      have hs : (⟨(lineN is[k] ++ 10 :: textN (is.drop (k + 1))).toArray⟩ : ByteArray).size = (lineN is[k]).length + ((textN (is.drop (k + 1))).length + 1) := by show (lineN is[k] ++ 10 :: textN (is.drop (k + 1))).toArray.size = _; simp
      obtain ⟨fn, tmps, assign, body, hy, hR⟩ := hY k wr (by omega) hJk
      rw [hpv, ← e1] at hy
      have HE2 := Lib.hid e2
      have HB := Lib.hid (boxLen_of c1)
      rw [hs] at HB
      clear h1 h2 h3 hf hpv ht hd hno e1 e2 hY
      generalize hS : (⟨(lineN is[k] ++ 10 :: textN (is.drop (k + 1))).toArray⟩ : ByteArray) = S at *
      generalize (lineN is[k]).length = a at *
      have z1 : (a : Int) ≤ (S.size : Int) := by omega
      have z2 : (a : Int) + 1 ≤ (S.size : Int) := by omega
      clear hS
      gi_wp2
      refine ⟨trivial, ?_⟩
      refine (callsIn_wide.2 (hidx wr)).mono ?_
      rintro e w1 ⟨rfl, rfl⟩
      clear hidx
      gi_wp2
      refine hR.mono ?_
      rintro e W3 ⟨rfl, hJ3, hk3⟩
      have g1 : W3.cell? ⟨B, 0, none⟩ = some (.string S) := (hk3.cell (p := ⟨B, 0, none⟩) hB (by simp; omega)).trans c1
      have g2 : W3.cell? ⟨B + 1, 0, none⟩ = some (.string ⟨#[10]⟩) := (hk3.cell (p := ⟨B + 1, 0, none⟩) (by simp; omega) (by simp; omega)).trans c2
      have g3 : W3.cell? ⟨B + 2, 0, none⟩ = some (.int .i64 0) := (hk3.cell (p := ⟨B + 2, 0, none⟩) (by simp; omega) (by simp; omega)).trans c3
      have gf : W3.frozen? ⟨B, 0, none⟩ = false := (World.frozen?_of_block (hk3.same B hB (by omega))).trans cf
      clear c1 c2 c3 cf hy
      gi_wp2
      rw [HE2.out]
      have q1 : (W3.setCell ⟨B, 0, none⟩ (.string ⟨(textN (is.drop (k + 1))).toArray⟩)).cell? ⟨B, 0, none⟩ = some (.string ⟨(textN (is.drop (k + 1))).toArray⟩) := World.cell?_setCell_same' _ _ _ (by rw [g1]; rfl)
      refine ⟨⟨k + 1, by omega, hJs _ _ _ hJ3, q1, (World.frozen?_setCell _ _ _ _).trans gf, ?_, ?_⟩, ?_⟩
      · exact (World.cell?_of_block (Below.heap_setCell _ _ _ _ (by simp))).trans g2
      · exact (World.cell?_of_block (Below.heap_setCell _ _ _ _ (by simp))).trans g3
      · rw [boxLen_of q1, HB.out]
        show (textN (is.drop (k + 1))).toArray.size < _
        simp
        omega
    · obtain rfl : k = is.length := by omega
      have ht : textN (is.drop is.length) = [] := by simp [textN]
      have hpv : pieceV is is.length = .string ⟨#[]⟩ := by unfold pieceV strV; simp [List.getD_eq_getElem?_getD]
      rw [ht] at c1
      have hidx := fun W => sh_strings_Index_one ⟨#[]⟩ 10 W
      rw [show Lib.indexByte (⟨#[]⟩ : ByteArray).data.toList 10 = -1 from rfl] at hidx
      obtain ⟨fn, tmps, assign, body, hy, hR⟩ := hY is.length wr (by omega) hJk
      rw [hpv] at hy
      clear h1 h2 h3 hf hpv ht hY
      gi_wp2
      refine ⟨trivial, ?_⟩
      refine (callsIn_wide.2 (hidx wr)).mono ?_
      rintro e w1 ⟨rfl, rfl⟩
      clear hidx
      gi_wp2
      refine hR.mono ?_
      rintro e W3 ⟨rfl, hJ3, hk3⟩
      gi_wp2
      go_end0
      exact ⟨⟨_, rfl⟩, hJ3⟩
/-- **The iterator's contract.** -/
theorem split_turns (n : Nat) (hn : 1 ≤ n) (B : Nat) (is : List I) (hok : ∀ i ∈ is, i.Ok) (hlen : is.length ≤ 10000) (lo : Nat) (w : World) (hB : lo ≤ B) (hB2 : B + 3 ≤ w.heap.size)
    (h1 : w.cell? ⟨B, 0, none⟩ = some (.string ⟨(textN is).toArray⟩)) (hf : w.frozen? ⟨B, 0, none⟩ = false) (h2 : w.cell? ⟨B + 1, 0, none⟩ = some (.string ⟨#[10]⟩)) (h3 : w.cell? ⟨B + 2, 0, none⟩ = some (.int .i64 0)) :
    TurnsOf Fence.wide n Tryz.prog 49 #[.pointer (some ⟨B + 1, 0, none⟩), .pointer (some ⟨B, 0, none⟩), .pointer (some ⟨B + 2, 0, none⟩)] (pieceV is) (is.length + 1) B lo w := fun l J W hW hJs hY h0 => by
  have g1 := (hW.cell (p := ⟨B, 0, none⟩) (by simp; omega)).trans h1
  have g2 := (hW.cell (p := ⟨B + 1, 0, none⟩) (by simp; omega)).trans h2
  have g3 := (hW.cell (p := ⟨B + 2, 0, none⟩) (by simp; omega)).trans h3
  have gf := (World.frozen?_of_block (hW.block B (by omega))).trans hf
  exact split1_in n hn l B is hok hlen lo w.heap.size hB hB2 J hJs hY W g1 gf g2 g3 h0

set_option maxRecDepth 100000 in
theorem split_in (n : Nat) (hn : 1 ≤ n) (s t : ByteArray) (w : World) :
    CallsIn Fence.wide n Tryz.prog 14 #[.string s, .string t] w fun e w' =>
      e = .returned (.func (.func 49) #[] #[.pointer (some ⟨w.heap.size + 1, 0, none⟩), .pointer (some ⟨w.heap.size, 0, none⟩), .pointer (some ⟨w.heap.size + 2, 0, none⟩)]) ∧
      w' = ((w.alloc (.cells #[.string s] 9)).alloc (.cells #[.string t] 9)).alloc (.cells #[.int .i64 0] 3) := by
  have key : ∀ m w, CallsIn Fence.wide m Tryz.prog 28 #[.string s, .string t, .int .i64 0] w fun e w' =>
      e = .returned (.func (.func 49) #[] #[.pointer (some ⟨w.heap.size + 1, 0, none⟩), .pointer (some ⟨w.heap.size, 0, none⟩), .pointer (some ⟨w.heap.size + 2, 0, none⟩)]) ∧
      w' = ((w.alloc (.cells #[.string s] 9)).alloc (.cells #[.string t] 9)).alloc (.cells #[.int .i64 0] 3) := fun m w => by
    refine callsIn_of_wp Tryz.func28 rfl trivial ?_ rfl
    simp only [Tryz.ntmps28, List.size_toArray, List.length_cons, List.length_nil, Nat.reduceAdd, Nat.reduceSub, Array.replicate_succ, Array.replicate_zero, List.push_toArray, List.append_toArray, List.nil_append, List.cons_append]
    gi_wp2
    go_ret
    exact ⟨rfl, rfl⟩
  refine callsIn_of_wp Tryz.func14 rfl trivial ?_ rfl
  simp only [Tryz.ntmps14, List.size_toArray, List.length_cons, List.length_nil, Nat.reduceAdd, Nat.reduceSub, Array.replicate_succ, Array.replicate_zero, List.push_toArray, List.append_toArray, List.nil_append, List.cons_append]
  gi_wp2
  refine ⟨trivial, ?_⟩
  refine (key _ _).mono ?_
  rintro e w1 ⟨rfl, rfl⟩
  gi_wp2
  go_ret
  exact ⟨rfl, rfl⟩
end Go.Proofs.YtpinnockcnmofaaGreatDoor

/-! list.Program at a program's text: the program. -/
namespace Go.Proofs.YtpinnockcnmofaaGreatDoor
open Go.RowKit Go.Shelf
set_option linter.unusedVariables false
attribute [local go_sem] Oper.semAt_some

/-- What stands between two rounds of list.Program's loop. -/
structure ProgI (w W0 : World) (is : List I) (k : Nat) (X : World) : Prop where
  keeps : KeepsAt w.heap.size (w.heap.size + 3) W0 X
  below : Below w.heap.size w X
  size : w.heap.size + 8 ≤ X.heap.size
  out : ∃ v, X.cell? ⟨w.heap.size + 3, 0, none⟩ = some v ∧ X.ownsRow (w.heap.size + 8) 47 4 v (is.take k).length (cellsI (is.take k))
  outf : X.frozen? ⟨w.heap.size + 3, 0, none⟩ = false
  num : X.cell? ⟨w.heap.size + 4, 0, none⟩ = some (.int .i64 k)
  numf : X.frozen? ⟨w.heap.size + 4, 0, none⟩ = false

theorem ProgI.write {w W0 : World} {is : List I} {k : Nat} {X : World} (h : ProgI w W0 is k X) (v : Value) : ProgI w W0 is k (X.setCell ⟨w.heap.size + 5, 0, none⟩ v) := by
  obtain ⟨v0, c0, r0⟩ := h.out
  refine ⟨h.keeps.setCell (.inr (by simp)) v, h.below.setCell (by simp) v, by simpa [World.setCell] using h.size, ⟨v0, ?_, ?_⟩, (World.frozen?_setCell _ _ _ _).trans h.outf, ?_, (World.frozen?_setCell _ _ _ _).trans h.numf⟩
  · exact (World.cell?_of_block (Below.heap_setCell _ _ _ _ (by simp))).trans c0
  · exact own_setCell r0 (fun e => by have := (r0.lt _ e).1; simp at this) v
  · exact (World.cell?_of_block (Below.heap_setCell _ _ _ _ (by simp))).trans h.num
theorem ProgI.grown {w W0 : World} {is : List I} {k : Nat} {X Y : World} {row : Option Nat} (h : ProgI w W0 is k X) (hg : X.grownBy Y row) (hr : ∀ r, row = some r → w.heap.size + 8 ≤ r ∧ ∃ o : Obj, X.heap[r]? = some o ∧ o.isCells = false) : ProgI w W0 is k Y := by
  obtain ⟨v0, c0, r0⟩ := h.out
  have hs := h.size
  refine ⟨h.keeps.trans ⟨hg.size, fun b _ h2 => hg.block b (by omega) (fun e => by have := (hr b e.symm).1; omega)⟩, h.below.grown hg (by omega) (fun g e => by have := (hr g e).1; omega), Nat.le_trans h.size hg.size, ⟨v0, ?_, own_keptB r0 hg (B := w.heap.size + 8) hr⟩, ?_, ?_, ?_⟩
  · exact cell_kept c0 hg (fun r e => (hr r e).2)
  · exact (frozen_kept c0 hg (fun r e => (hr r e).2)).trans h.outf
  · exact cell_kept h.num hg (fun r e => (hr r e).2)
  · exact (frozen_kept h.num hg (fun r e => (hr r e).2)).trans h.numf

theorem KeepsAt.less {lo hi hi' : Nat} {W W' : World} (h : KeepsAt lo hi W W') (hh : hi' ≤ hi) : KeepsAt lo hi' W W' := ⟨h.size, fun b h1 h2 => h.same b h1 (by omega)⟩
theorem KeepsAt.ofBelow {lo hi : Nat} {W W' : World} (h : Below W.heap.size W W') (hh : hi ≤ W.heap.size) : KeepsAt lo hi W W' := ⟨h.size, fun b _ h2 => h.block b (by omega)⟩

theorem load_insts (w : World) (g : Nat) (v : Value) (h : w.cell? ⟨g, 0, none⟩ = some v) : (loadVar 24 ⟨g, 0, none⟩).run Tryz.prog w = .ok v w := by
  have ha : (isAgg 24).run Tryz.prog w = .ok false w := by
    unfold isAgg
    rw [Sem.run_bind, run_underlying Tryz.underlying24 w]
    rfl
  simp [loadVar, Sem.run_bind, ha, go_sem, h]
theorem load_int (w : World) (g : Nat) (k : Int) (h : w.cell? ⟨g, 0, none⟩ = some (.int .i64 k)) : (loadVar 3 ⟨g, 0, none⟩).run Tryz.prog w = .ok (.int .i64 k) w := by
  have ha : (isAgg 3).run Tryz.prog w = .ok false w := by
    unfold isAgg
    rw [Sem.run_bind, run_underlying Tryz.underlying3 w]
    rfl
  simp [loadVar, Sem.run_bind, ha, go_sem, h]
theorem results_three {P : Program} {fn : Func} {p q r : Tmp} {tx ty tz : TypeId} (h : fn.results = #[.cell p tx, .cell q ty, .cell r tz]) (tmps : Array Value) (w : World) (g1 g2 g3 : Nat)
    (hp : tmps.getD p undef = .pointer (some ⟨g1, 0, none⟩)) (hq : tmps.getD q undef = .pointer (some ⟨g2, 0, none⟩)) (hr : tmps.getD r undef = .pointer (some ⟨g3, 0, none⟩)) (v1 v2 v3 : Value)
    (h1 : (loadVar tx ⟨g1, 0, none⟩).run P w = .ok v1 w) (h2 : (loadVar ty ⟨g2, 0, none⟩).run P w = .ok v2 w) (h3 : (loadVar tz ⟨g3, 0, none⟩).run P w = .ok v3 w) :
    (results fn tmps).run P w = .ok (.tuple #[v1, v2, v3]) w := by
  have hp' : tmps[p]?.getD undef = .pointer (some ⟨g1, 0, none⟩) := by simpa using hp
  have hq' : tmps[q]?.getD undef = .pointer (some ⟨g2, 0, none⟩) := by simpa using hq
  have hr' : tmps[r]?.getD undef = .pointer (some ⟨g3, 0, none⟩) := by simpa using hr
  simp [results, h, hp', hq', hr', asAddr, h1, h2, h3]

def TellsProgram (is : List I) (w : World) (e : Ending) (w' : World) : Prop :=
  ∃ v, e = .returned (.tuple #[v, .int .i64 (0 : Nat), .int .i64 (0 : Nat)]) ∧ w'.ownsRow w.heap.size 47 4 v is.length (cellsI is) ∧ Below w.heap.size w w'

set_option maxRecDepth 100000 in
set_option maxHeartbeats 4000000 in
theorem program_any (is : List I) (hok : ∀ i ∈ is, i.Ok) (hlen : is.length ≤ 10000) (htx : (textN is).length ≤ 65536) (w : World) (ht : Tabs w) :
    Calls Tryz.prog 7 #[strV (textN is)] w (TellsProgram is w) := by
  obtain ⟨i0, hi0, hz0, hz1, hz2⟩ := info_parts info_inst
  have hs : (⟨(textN is).toArray⟩ : ByteArray).size = (textN is).length := by show (textN is).toArray.size = _; simp
  unfold strV
  generalize hS : (⟨(textN is).toArray⟩ : ByteArray) = S at *
  have h1' : ¬ (65536 : Int) < (S.size : Int) := by omega
  have hmf : ∀ (fn : Fn) (first cap : Array Value) (w : World), (Instr.makeFunc fn first cap).run Tryz.prog w = .ok (.func fn first cap) w := fun _ _ _ _ => rfl
  refine (callsIn_wide (n := 5)).1 ?_
  refine callsIn_of_wp_marks Tryz.func7 rfl trivial ?_ rfl
  simp only [Tryz.ntmps7, List.size_toArray, List.length_cons, List.length_nil, Nat.reduceAdd, Nat.reduceSub, Array.replicate_succ, Array.replicate_zero, List.push_toArray, List.append_toArray, List.nil_append, List.cons_append]
  gi_wp2_with fail
  refine ⟨trivial, ?_⟩
  refine (split_in _ (by omega) _ _ _).mono ?_
  rintro e w2 ⟨rfl, rfl⟩
  gi_wp2_with fail
  simp only [Nat.add_assoc, Nat.reduceAdd]
  have b0 := Boxed.new w 24 (.slice none 0 0)
  have b1 := Boxed.new (w.alloc (.cells #[.slice none 0 0] 24)) 3 (.int .i64 0)
  have b2 := Boxed.new ((w.alloc (.cells #[.slice none 0 0] 24)).alloc (.cells #[.int .i64 0] 3)) 26 (.int .i64 0)
  have b3 := Boxed.new (((w.alloc (.cells #[.slice none 0 0] 24)).alloc (.cells #[.int .i64 0] 3)).alloc (.cells #[.int .i64 0] 26)) 24 (.slice none 0 0)
  have b4 := Boxed.new ((((w.alloc (.cells #[.slice none 0 0] 24)).alloc (.cells #[.int .i64 0] 3)).alloc (.cells #[.int .i64 0] 26)).alloc (.cells #[.slice none 0 0] 24)) 3 (.int .i64 0)
  have b5 := Boxed.new (((((w.alloc (.cells #[.slice none 0 0] 24)).alloc (.cells #[.int .i64 0] 3)).alloc (.cells #[.int .i64 0] 26)).alloc (.cells #[.slice none 0 0] 24)).alloc (.cells #[.int .i64 0] 3)) 9 (.string S)
  have b6 := Boxed.new ((((((w.alloc (.cells #[.slice none 0 0] 24)).alloc (.cells #[.int .i64 0] 3)).alloc (.cells #[.int .i64 0] 26)).alloc (.cells #[.slice none 0 0] 24)).alloc (.cells #[.int .i64 0] 3)).alloc (.cells #[.string S] 9)) 9 (.string ⟨#[10]⟩)
  have b7 := Boxed.new (((((((w.alloc (.cells #[.slice none 0 0] 24)).alloc (.cells #[.int .i64 0] 3)).alloc (.cells #[.int .i64 0] 26)).alloc (.cells #[.slice none 0 0] 24)).alloc (.cells #[.int .i64 0] 3)).alloc (.cells #[.string S] 9)).alloc (.cells #[.string ⟨#[10]⟩] 9)) 3 (.int .i64 0)
  simp only [World.size_alloc, Nat.add_assoc, Nat.reduceAdd] at b1 b2 b3 b4 b5 b6 b7
  have d0 := ((((((b0.alloc (.cells #[.int .i64 0] 3)).alloc (.cells #[.int .i64 0] 26)).alloc (.cells #[.slice none 0 0] 24)).alloc (.cells #[.int .i64 0] 3)).alloc (.cells #[.string S] 9)).alloc (.cells #[.string ⟨#[10]⟩] 9)).alloc (.cells #[.int .i64 0] 3)
  have d1 := (((((b1.alloc (.cells #[.int .i64 0] 26)).alloc (.cells #[.slice none 0 0] 24)).alloc (.cells #[.int .i64 0] 3)).alloc (.cells #[.string S] 9)).alloc (.cells #[.string ⟨#[10]⟩] 9)).alloc (.cells #[.int .i64 0] 3)
  have d2 := ((((b2.alloc (.cells #[.slice none 0 0] 24)).alloc (.cells #[.int .i64 0] 3)).alloc (.cells #[.string S] 9)).alloc (.cells #[.string ⟨#[10]⟩] 9)).alloc (.cells #[.int .i64 0] 3)
  have d3 := (((b3.alloc (.cells #[.int .i64 0] 3)).alloc (.cells #[.string S] 9)).alloc (.cells #[.string ⟨#[10]⟩] 9)).alloc (.cells #[.int .i64 0] 3)
  have d4 := ((b4.alloc (.cells #[.string S] 9)).alloc (.cells #[.string ⟨#[10]⟩] 9)).alloc (.cells #[.int .i64 0] 3)
  have d5 := (b5.alloc (.cells #[.string ⟨#[10]⟩] 9)).alloc (.cells #[.int .i64 0] 3)
  have d6 := b6.alloc (.cells #[.int .i64 0] 3)
  have hB0 : Below w.heap.size w ((((((((w.alloc (.cells #[.slice none 0 0] 24)).alloc (.cells #[.int .i64 0] 3)).alloc (.cells #[.int .i64 0] 26)).alloc (.cells #[.slice none 0 0] 24)).alloc (.cells #[.int .i64 0] 3)).alloc (.cells #[.string S] 9)).alloc (.cells #[.string ⟨#[10]⟩] 9)).alloc (.cells #[.int .i64 0] 3)) :=
    ((((((((Below.refl _ w).alloc (Nat.le_refl _) _).alloc (by simp) _).alloc (by simp <;> omega) _).alloc (by simp <;> omega) _).alloc (by simp <;> omega) _).alloc (by simp <;> omega) _).alloc (by simp <;> omega) _).alloc (by simp <;> omega) _
  have hsz : ((((((((w.alloc (.cells #[.slice none 0 0] 24)).alloc (.cells #[.int .i64 0] 3)).alloc (.cells #[.int .i64 0] 26)).alloc (.cells #[.slice none 0 0] 24)).alloc (.cells #[.int .i64 0] 3)).alloc (.cells #[.string S] 9)).alloc (.cells #[.string ⟨#[10]⟩] 9)).alloc (.cells #[.int .i64 0] 3)).heap.size = w.heap.size + 8 := by simp
  generalize ((((((((w.alloc (.cells #[.slice none 0 0] 24)).alloc (.cells #[.int .i64 0] 3)).alloc (.cells #[.int .i64 0] 26)).alloc (.cells #[.slice none 0 0] 24)).alloc (.cells #[.int .i64 0] 3)).alloc (.cells #[.string S] 9)).alloc (.cells #[.string ⟨#[10]⟩] 9)).alloc (.cells #[.int .i64 0] 3)) = W0 at *
  clear b0 b1 b2 b3 b4 b5 b6
  generalize (textN is).length = T at *
  have hTl : ∀ X, ProgI w W0 is (is.length + 1) X → ∃ v, X.cell? ⟨w.heap.size + 3, 0, none⟩ = some v ∧ X.ownsRow (w.heap.size + 8) 47 4 v is.length (cellsI is) := fun X h => by
    obtain ⟨v, c, r⟩ := h.out
    rw [List.take_of_length_le (by omega)] at r
    exact ⟨v, c, r⟩
  have hst := split_turns 4 (by omega) (w.heap.size + 5) is hok hlen (w.heap.size + 5) W0 (Nat.le_refl _) (by omega) (by rw [d5.cell, ← hS]) d5.frozen d6.cell b7.cell
  refine rangeFunc_turns rfl (by omega) (gf := 49) (lb := #[.pointer (some ⟨w.heap.size + 6, 0, none⟩), .pointer (some ⟨w.heap.size + 5, 0, none⟩), .pointer (some ⟨w.heap.size + 7, 0, none⟩)]) rfl trivial (enters_of Tryz.func49 (by kernel_rfl) rfl)
    hst (by omega) rfl (ProgI w W0 is) (fun k X v h => h.write v) (fun k X l o o' h hl ho hc => h.grown (grownBy_putObj' X l o') (fun r e => by cases e; exact ⟨by omega, o, ho, hc⟩))
    (fun k X o h hle => h.grown (World.grownBy_alloc X o none) (fun r e => by cases e)) ?start
    (fun k => { tmps := #[.string S, undef, .pointer (some ⟨w.heap.size, 0, none⟩), .pointer (some ⟨w.heap.size + 1, 0, none⟩), .pointer (some ⟨w.heap.size + 2, 0, none⟩), .pointer (some ⟨w.heap.size + 3, 0, none⟩), .pointer (some ⟨w.heap.size + 4, 0, none⟩), pieceV is k, undef, undef, .string S, .int .i64 (T : Int), .bool (decide ((65536 : Int) < (T : Int))), .string S,
      .func (.func 49) #[] #[.pointer (some ⟨w.heap.size + 6, 0, none⟩), .pointer (some ⟨w.heap.size + 5, 0, none⟩), .pointer (some ⟨w.heap.size + 7, 0, none⟩)], pieceV is k, undef, undef, undef, undef, undef, undef, undef, undef, undef, undef, undef, undef, undef, undef, undef, undef, undef, undef, undef], defers := [] }) ?assign ?body ?done
  case start =>
    exact ⟨KeepsAt.refl _ _ _, hB0, by omega, ⟨_, d3.cell, World.ownsRow_nil _ _ _ _⟩, d3.frozen, d4.cell, d4.frozen⟩
  case assign =>
    intro l k X K hK
    gi_wp2
    exact hK
  case body =>
    rintro l' k X ⟨hKp, hBl, hsz8, ⟨v, hcv, hown⟩, hfv, hn, hnf⟩ hk
    have htX : Tabs X := ht.below hBl (Nat.le_refl _)
    have hw1 : IntKind.i64.wrap ((k : Int) + 1) = (k : Int) + 1 := by simp [IntKind.wrap, IntKind.bits, IntKind.signed]; omega
    have hW0 : W0.heap.size ≤ w.heap.size + 8 := Nat.le_of_eq hsz
    clear d0 d1 d2 d3 d4 d5 d6 b7 hst hTl hsz hB0 htx
    by_cases hlt : k < is.length
    · have hp : pieceV is k = strV (lineN is[k]) := by unfold pieceV; simp [List.getD_eq_getElem?_getD, hlt]
      simp only [hp]
      have hstep : cellsI (is.take (k + 1)) = cellsI (is.take k) ++ I.vals is[k] := by
        rw [List.take_succ_eq_append_getElem hlt, cellsI_append]; simp [cellsI]
      have hlk : (is.take k).length = k := by simp; omega
      have hlk1 : (is.take (k + 1)).length = k + 1 := by simp; omega
      rw [hlk] at hown
      have hok' := hok _ (List.getElem_mem hlt)
      generalize is[k] = i at *
      have HS := Lib.hid hstep
      have HL1 := Lib.hid hlk1
      clear hstep hlk hlk1 hp hok
      gi_wp2_with fail
      have hB3 : Below w.heap.size w (X.setCell ⟨w.heap.size + 4, 0, none⟩ (.int .i64 ((k : Int) + 1))) := hBl.setCell (by simp) _
      have hc3 : (X.setCell ⟨w.heap.size + 4, 0, none⟩ (.int .i64 ((k : Int) + 1))).cell? ⟨w.heap.size + 3, 0, none⟩ = some v := (World.cell?_of_block (Below.heap_setCell _ _ _ _ (by simp))).trans hcv
      have hn3 : (X.setCell ⟨w.heap.size + 4, 0, none⟩ (.int .i64 ((k : Int) + 1))).cell? ⟨w.heap.size + 4, 0, none⟩ = some (.int .i64 ((k : Int) + 1)) := World.cell?_setCell_same' _ _ _ (by rw [hn]; rfl)
      have hf3 : (X.setCell ⟨w.heap.size + 4, 0, none⟩ (.int .i64 ((k : Int) + 1))).frozen? ⟨w.heap.size + 3, 0, none⟩ = false := (World.frozen?_setCell _ _ _ _).trans hfv
      have hg3 : (X.setCell ⟨w.heap.size + 4, 0, none⟩ (.int .i64 ((k : Int) + 1))).frozen? ⟨w.heap.size + 4, 0, none⟩ = false := (World.frozen?_setCell _ _ _ _).trans hnf
      have hown3 := own_setCell hown (p := ⟨w.heap.size + 4, 0, none⟩) (fun e => by have := (hown.lt _ e).1; simp at this) (.int .i64 ((k : Int) + 1))
      have hk3 : KeepsAt w.heap.size (w.heap.size + 3) X (X.setCell ⟨w.heap.size + 4, 0, none⟩ (.int .i64 ((k : Int) + 1))) := (KeepsAt.refl _ _ _).setCell (.inr (by simp)) _
      have hj3 : KeepsAt (w.heap.size + 5) (w.heap.size + 8) X (X.setCell ⟨w.heap.size + 4, 0, none⟩ (.int .i64 ((k : Int) + 1))) := (KeepsAt.refl _ _ _).setCell (.inl (by simp)) _
      have ho3 : KeepsOthers X (X.setCell ⟨w.heap.size + 4, 0, none⟩ (.int .i64 ((k : Int) + 1))) := KeepsOthers.setCell _ _ _
      have hs3 : w.heap.size + 8 ≤ (X.setCell ⟨w.heap.size + 4, 0, none⟩ (.int .i64 ((k : Int) + 1))).heap.size := by simpa [World.setCell] using hsz8
      generalize X.setCell ⟨w.heap.size + 4, 0, none⟩ (.int .i64 ((k : Int) + 1)) = W3 at *
      refine ⟨trivial, ?_⟩
      refine (CallsIn.inRound l' (callsIn_wide.2 (readLine_ok i hok' W3 (ht.below hB3 (Nat.le_refl _))))).mono ?_
      rintro e W4 ⟨rfl, hB4⟩
      have hs4 := hB4.size
      have hc4 := cell_of_below (p := ⟨w.heap.size + 3, 0, none⟩) hB4 (by simp; omega) hc3
      have hn4 := cell_of_below (p := ⟨w.heap.size + 4, 0, none⟩) hB4 (by simp; omega) hn3
      have hf4 : W4.frozen? ⟨w.heap.size + 3, 0, none⟩ = false := (World.frozen?_of_block (hB4.block _ (by simp; omega))).trans hf3
      have hg4 : W4.frozen? ⟨w.heap.size + 4, 0, none⟩ = false := (World.frozen?_of_block (hB4.block _ (by simp; omega))).trans hg3
      have hown4 := own_below hown3 hB4
      clear hcv hn hfv hnf hown hc3 hn3 hf3 hg3 hown3
      have hc5 : ∀ o, (W4.alloc o).cell? ⟨w.heap.size + 3, 0, none⟩ = some v := fun o => cell_of_below (p := ⟨w.heap.size + 3, 0, none⟩) ((Below.refl W4.heap.size W4).alloc (Nat.le_refl _) o) (by simp; omega) hc4
      have hB6 : ∀ o o', Below W4.heap.size W4 ((W4.alloc o).alloc o') := fun o o' => ((Below.refl W4.heap.size W4).alloc (Nat.le_refl _) o).alloc (by simp) o'
      gi_wp2_with (gi_at_builtin; refine Hid.out ?_)
      refine Lib.hid ?_
      refine wpListIn_append_own _ rfl _ _ 24 rfl (w.heap.size + 8) 47 i0 _ 4 8 Tryz.underlying24 hi0 hz0 hz1 hz2 rfl (by decide) _ _ _ rfl ((hown4.alloc _).alloc _) ⟨W4.heap.size + 1, 0, none⟩ 1 1 [.int .u16 i.code, .int .u8 i.jt, .int .u8 i.jf, .int .u32 i.k] rfl rfl (fun j u hu => cells_new _ [.int .u16 i.code, .int .u8 i.jt, .int .u8 i.jf, .int .u32 i.k] 47 _ (by simp) j u hu) (by simp [Value.oneCell']) (by simp only [maxLen]; omega) (by omega) (by simp; omega) ?_
      intro v7 w7 own7 hg7 _
      replace hg7 : ((W4.alloc (.cells #[.int .u16 i.code, .int .u8 i.jt, .int .u8 i.jf, .int .u32 i.k] 47)).alloc (.cells #[.int .u16 i.code, .int .u8 i.jt, .int .u8 i.jf, .int .u32 i.k] 47)).grownBy w7 v.ownBlock := hg7
      have hq7 : some (w.heap.size + 3) ≠ v.ownBlock := fun e => by have := (hown4.lt _ e.symm).1; omega
      have hq8 : some (w.heap.size + 4) ≠ v.ownBlock := fun e => by have := (hown4.lt _ e.symm).1; omega
      have hs7 := hg7.size
      simp only [World.size_alloc] at hs7
      have hc7 : w7.cell? ⟨w.heap.size + 3, 0, none⟩ = some v := ((World.cell?_of_block (hg7.block (w.heap.size + 3) (by simp; omega) hq7)).trans (cell_of_below (p := ⟨w.heap.size + 3, 0, none⟩) (hB6 _ _) (by simp; omega) hc4))
      have hf7 : w7.frozen? ⟨w.heap.size + 3, 0, none⟩ = false := (World.frozen?_of_block (hg7.block (w.heap.size + 3) (by simp; omega) hq7)).trans ((World.frozen?_of_block ((hB6 _ _).block _ (by simp; omega))).trans hf4)
      have hn7 : w7.cell? ⟨w.heap.size + 4, 0, none⟩ = some (.int .i64 ((k : Int) + 1)) := ((World.cell?_of_block (hg7.block (w.heap.size + 4) (by simp; omega) hq8)).trans (cell_of_below (p := ⟨w.heap.size + 4, 0, none⟩) (hB6 _ _) (by simp; omega) hn4))
      have hm7 : w7.frozen? ⟨w.heap.size + 4, 0, none⟩ = false := (World.frozen?_of_block (hg7.block (w.heap.size + 4) (by simp; omega) hq8)).trans ((World.frozen?_of_block ((hB6 _ _).block _ (by simp; omega))).trans hg4)
      have hB36 : ∀ o o', Below W3.heap.size W3 ((W4.alloc o).alloc o') := fun o o' => hB4.trans ((hB6 o o').mono hB4.size)
      have hrow7 : ∀ r, v.ownBlock = some r → w.heap.size + 8 ≤ r := fun r e => (hown4.lt r e).1
      have hX7 : ∀ lo hi, hi ≤ w.heap.size + 8 → KeepsAt lo hi W3 w7 := fun lo hi hh => (KeepsAt.ofBelow (hB36 _ _) (by omega)).trans ⟨hg7.size, fun b _ h2 => hg7.block b (by simp; omega) (fun e => by have := hrow7 b e.symm; omega)⟩
      have hO7 : KeepsOthers W3 w7 := (keepsOthers_below (hB36 _ _)).trans (KeepsOthers.of_grownBy hg7 (fun j o e ho => by
        rcases ((hown4.alloc (.cells #[.int .u16 i.code, .int .u8 i.jt, .int .u8 i.jf, .int .u32 i.k] 47)).alloc (.cells #[.int .u16 i.code, .int .u8 i.jt, .int .u8 i.jf, .int .u32 i.k] 47)).2 with ⟨e2, _⟩ | ⟨g, cap, cur, e2, _, hh, _⟩
        · rw [e2] at e; cases e
        · have : g = j := by rw [e2] at e; simpa [Value.ownBlock] using e
          subst this
          rw [hh] at ho; cases ho; rfl))
      have hB7 : Below w.heap.size w w7 := (hB3.trans ((hB36 _ _).mono hB3.size)).grown hg7 (by simp; omega) (fun g e => by have := hrow7 g e; omega)
      obtain ⟨g8, c8, rfl⟩ := ownsRow_succ own7
      have hv8 := fun e => (own7.lt (w.heap.size + 3) e).1
      have hfin : KeepsOthers X (w7.setCell ⟨w.heap.size + 3, 0, none⟩ (.slice (some ⟨g8, 0, none⟩) (k + 1) c8)) ∧ KeepsAt (w.heap.size + 5) W0.heap.size X (w7.setCell ⟨w.heap.size + 3, 0, none⟩ (.slice (some ⟨g8, 0, none⟩) (k + 1) c8)) ∧ ProgI w W0 is (k + 1) (w7.setCell ⟨w.heap.size + 3, 0, none⟩ (.slice (some ⟨g8, 0, none⟩) (k + 1) c8)) := by
        refine ⟨(ho3.trans hO7).trans (KeepsOthers.setCell _ _ _), ?_, ?_, hB7.setCell (by simp) _, ?_, ⟨_, World.cell?_setCell_same' _ _ _ (by rw [hc7]; rfl), ?_⟩, (World.frozen?_setCell _ _ _ _).trans hf7, ?_, (World.frozen?_setCell _ _ _ _).trans hm7⟩
        · exact ((hj3.trans (hX7 _ _ (Nat.le_refl _))).setCell (.inl (by simp)) _).less hW0
        · exact ((hKp.trans hk3).trans (hX7 _ _ (by omega))).setCell (.inr (by simp)) _
        · have : (w7.setCell ⟨w.heap.size + 3, 0, none⟩ (.slice (some ⟨g8, 0, none⟩) (k + 1) c8)).heap.size = w7.heap.size := by simp [World.setCell]
          omega
        · rw [HL1.out, HS.out]
          exact own_setCell own7 (fun e => by have := hv8 e; simp at this) _
        · have : ((k + 1 : Nat) : Int) = (k : Int) + 1 := by omega
          rw [this]
          exact (World.cell?_of_block (Below.heap_setCell _ _ _ _ (by simp))).trans hn7
      have HF := Lib.hid hfin
      clear hfin hX7 hO7 hB7 own7 hg7 hown4 hB36 hB6 hrow7 hv8 hq7 hq8 hc4 hc5 hn4 hf4 hg4 hn7 hm7
      gi_wp2_with fail
      exact HF.out
    · obtain rfl : k = is.length := by omega
      have hp : pieceV is is.length = strV [] := by unfold pieceV; simp [List.getD_eq_getElem?_getD]
      simp only [hp]
      have htk : is.take (is.length + 1) = is.take is.length := by rw [List.take_of_length_le (by omega), List.take_of_length_le (by omega)]
      gi_wp2_with fail
      have hB3 : Below w.heap.size w (X.setCell ⟨w.heap.size + 4, 0, none⟩ (.int .i64 ((is.length : Int) + 1))) := hBl.setCell (by simp) _
      have hc3 : (X.setCell ⟨w.heap.size + 4, 0, none⟩ (.int .i64 ((is.length : Int) + 1))).cell? ⟨w.heap.size + 3, 0, none⟩ = some v := (World.cell?_of_block (Below.heap_setCell _ _ _ _ (by simp))).trans hcv
      have hn3 : (X.setCell ⟨w.heap.size + 4, 0, none⟩ (.int .i64 ((is.length : Int) + 1))).cell? ⟨w.heap.size + 4, 0, none⟩ = some (.int .i64 ((is.length : Int) + 1)) := World.cell?_setCell_same' _ _ _ (by rw [hn]; rfl)
      have hf3 : (X.setCell ⟨w.heap.size + 4, 0, none⟩ (.int .i64 ((is.length : Int) + 1))).frozen? ⟨w.heap.size + 3, 0, none⟩ = false := (World.frozen?_setCell _ _ _ _).trans hfv
      have hg3 : (X.setCell ⟨w.heap.size + 4, 0, none⟩ (.int .i64 ((is.length : Int) + 1))).frozen? ⟨w.heap.size + 4, 0, none⟩ = false := (World.frozen?_setCell _ _ _ _).trans hnf
      have hown3 := own_setCell hown (p := ⟨w.heap.size + 4, 0, none⟩) (fun e => by have := (hown.lt _ e).1; simp at this) (.int .i64 ((is.length : Int) + 1))
      have hk3 : KeepsAt w.heap.size (w.heap.size + 3) X (X.setCell ⟨w.heap.size + 4, 0, none⟩ (.int .i64 ((is.length : Int) + 1))) := (KeepsAt.refl _ _ _).setCell (.inr (by simp)) _
      have hj3 : KeepsAt (w.heap.size + 5) (w.heap.size + 8) X (X.setCell ⟨w.heap.size + 4, 0, none⟩ (.int .i64 ((is.length : Int) + 1))) := (KeepsAt.refl _ _ _).setCell (.inl (by simp)) _
      have ho3 : KeepsOthers X (X.setCell ⟨w.heap.size + 4, 0, none⟩ (.int .i64 ((is.length : Int) + 1))) := KeepsOthers.setCell _ _ _
      have hs3 : w.heap.size + 8 ≤ (X.setCell ⟨w.heap.size + 4, 0, none⟩ (.int .i64 ((is.length : Int) + 1))).heap.size := by simpa [World.setCell] using hsz8
      generalize X.setCell ⟨w.heap.size + 4, 0, none⟩ (.int .i64 ((is.length : Int) + 1)) = W3 at *
      refine ⟨trivial, ?_⟩
      refine (CallsIn.inRound l' (callsIn_wide.2 (readLine_none W3))).mono ?_
      rintro e W4 ⟨rfl, hB4⟩
      have hfin : ∀ o, KeepsOthers X (W4.alloc o) ∧ KeepsAt (w.heap.size + 5) W0.heap.size X (W4.alloc o) ∧ ProgI w W0 is (is.length + 1) (W4.alloc o) := fun o => by
        have hB5 : Below W3.heap.size W3 (W4.alloc o) := hB4.alloc hB4.size o
        refine ⟨ho3.trans (keepsOthers_below hB5), (hj3.trans (KeepsAt.ofBelow hB5 hs3)).less hW0, (hKp.trans hk3).trans (KeepsAt.ofBelow hB5 (by omega)), hB3.trans (hB5.mono hB3.size), Nat.le_trans hs3 hB5.size, ⟨v, cell_of_below (p := ⟨w.heap.size + 3, 0, none⟩) hB5 (by simp; omega) hc3, ?_⟩, (World.frozen?_of_block (hB5.block _ (by simp; omega))).trans hf3, ?_, (World.frozen?_of_block (hB5.block _ (by simp; omega))).trans hg3⟩
        · rw [htk]; exact own_below hown3 hB5
        · have : ((is.length + 1 : Nat) : Int) = (is.length : Int) + 1 := by omega
          rw [this]
          exact cell_of_below (p := ⟨w.heap.size + 4, 0, none⟩) hB5 (by simp; omega) hn3
      have HF := Lib.hid hfin
      clear hfin hcv hn hfv hnf hown hc3 hn3 hf3 hg3 hown3 htk
      gi_wp2_with fail
      exact HF.out _
  case done =>
    rintro D X hD hI hK
    obtain ⟨v, hcv, hown⟩ := hTl X hI
    have e0 : Boxed X w.heap.size 24 (.slice none 0 0) := (hI.keeps.same _ (Nat.le_refl _) (by omega)).trans d0
    have e1 : Boxed X (w.heap.size + 1) 3 (.int .i64 0) := (hI.keeps.same _ (by omega) (by omega)).trans d1
    have e2 : Boxed X (w.heap.size + 2) 26 (.int .i64 0) := (hI.keeps.same _ (by omega) (by omega)).trans d2
    have c0 := e0.cell
    have c1 := e1.cell
    have c2 := e2.cell
    have f0 := e0.frozen
    have f1 := e1.frozen
    have f2 := e2.frozen
    have hBX := hI.below
    have hDs : w.heap.size + 8 ≤ D := by omega
    obtain ⟨A, c, rfl, _⟩ := own_reads hown
    have HB := Lib.hid hBX
    have HO := Lib.hid hown
    have HK := Lib.hid hK
    clear d0 d1 d2 d3 d4 d5 d6 b7 hst hTl hsz hB0 htx hI e0 e1 e2 hBX hown hK
    gi_wp2_with fail
    have hrow : ((X.setCell ⟨w.heap.size, 0, none⟩ (.slice A is.length c)).setCell ⟨w.heap.size + 1, 0, none⟩ (.int .i64 0)).setCell ⟨w.heap.size + 2, 0, none⟩ (.int .i64 0) |>.ownsRow (w.heap.size + 8) 47 4 (.slice A is.length c) is.length (cellsI is) := by
      have l0 := fun e => (HO.out.lt (w.heap.size) e).1
      have l1 := fun e => (HO.out.lt (w.heap.size + 1) e).1
      have l2 := fun e => (HO.out.lt (w.heap.size + 2) e).1
      exact own_setCell (own_setCell (own_setCell HO.out (fun e => by have := l0 e; omega) _) (fun e => by have := l1 e; omega) _) (fun e => by have := l2 e; omega) _
    have hBf : Below w.heap.size w (((X.setCell ⟨w.heap.size, 0, none⟩ (.slice A is.length c)).setCell ⟨w.heap.size + 1, 0, none⟩ (.int .i64 0)).setCell ⟨w.heap.size + 2, 0, none⟩ (.int .i64 0)) := ((HB.out.setCell (by simp) _).setCell (by simp) _).setCell (by simp) _
    have hKf : (((X.setCell ⟨w.heap.size, 0, none⟩ (.slice A is.length c)).setCell ⟨w.heap.size + 1, 0, none⟩ (.int .i64 0)).setCell ⟨w.heap.size + 2, 0, none⟩ (.int .i64 0)).heap[D]? = some (.deferred (some [])) :=
      (Below.heap_setCell _ _ _ _ (by simp; omega)).trans ((Below.heap_setCell _ _ _ _ (by simp; omega)).trans ((Below.heap_setCell _ _ _ _ (by simp; omega)).trans HK.out))
    have q0 : (((X.setCell ⟨w.heap.size, 0, none⟩ (.slice A is.length c)).setCell ⟨w.heap.size + 1, 0, none⟩ (.int .i64 0)).setCell ⟨w.heap.size + 2, 0, none⟩ (.int .i64 0)).cell? ⟨w.heap.size, 0, none⟩ = some (.slice A is.length c) :=
      (World.cell?_of_block (Below.heap_setCell _ _ _ _ (by simp))).trans ((World.cell?_of_block (Below.heap_setCell _ _ _ _ (by simp))).trans (World.cell?_setCell_same' _ _ _ (by rw [c0]; rfl)))
    have q1 : (((X.setCell ⟨w.heap.size, 0, none⟩ (.slice A is.length c)).setCell ⟨w.heap.size + 1, 0, none⟩ (.int .i64 0)).setCell ⟨w.heap.size + 2, 0, none⟩ (.int .i64 0)).cell? ⟨w.heap.size + 1, 0, none⟩ = some (.int .i64 0) :=
      (World.cell?_of_block (Below.heap_setCell _ _ _ _ (by simp))).trans (World.cell?_setCell_same' _ _ _ (by rw [World.cell?_of_block (Below.heap_setCell _ _ _ _ (by simp)), c1]; rfl))
    have q2 : (((X.setCell ⟨w.heap.size, 0, none⟩ (.slice A is.length c)).setCell ⟨w.heap.size + 1, 0, none⟩ (.int .i64 0)).setCell ⟨w.heap.size + 2, 0, none⟩ (.int .i64 0)).cell? ⟨w.heap.size + 2, 0, none⟩ = some (.int .i64 0) :=
      World.cell?_setCell_same' _ _ _ (by rw [World.cell?_of_block (Below.heap_setCell _ _ _ _ (by simp)), World.cell?_of_block (Below.heap_setCell _ _ _ _ (by simp)), c2]; rfl)
    generalize ((X.setCell ⟨w.heap.size, 0, none⟩ (.slice A is.length c)).setCell ⟨w.heap.size + 1, 0, none⟩ (.int .i64 0)).setCell ⟨w.heap.size + 2, 0, none⟩ (.int .i64 0) = Y at *
    refine ⟨by simp, .inl ⟨_, _, rfl, run_takeDeferred hKf, ?_⟩⟩
    have gq := fun (p : Addr) (v : Value) (h : Y.cell? p = some v) => cell_kept h (grownBy_putObj' Y D (.deferred none)) (fun r e => by cases e; exact ⟨_, hKf, rfl⟩)
    refine ⟨_, results_three rfl _ _ _ _ _ rfl rfl rfl _ _ _ (load_insts _ _ _ (gq _ _ q0)) (load_int _ _ _ (gq _ _ q1)) (load_errno _ _ _ (gq _ _ q2)), ?_⟩
    refine ⟨_, rfl, ?_, hBf.trans (belowK_b (w := w) (Nat.le_refl _) Y D _ _ (by omega) hKf rfl rfl)⟩
    exact own_base (by omega) (own_keptB (B := 0) hrow (grownBy_putObj' Y D _) (fun r e => by cases e; exact ⟨Nat.zero_le _, _, hKf, rfl⟩))
end Go.Proofs.YtpinnockcnmofaaGreatDoor

/-! The walk of TopTexts. -/
namespace Go.Proofs.YtpinnockcnmofaaGreatDoor
open Go.RowKit
set_option linter.unusedVariables false

theorem write_bytes {l : List I} (hok : ∀ i ∈ l, i.Ok) : ∀ x ∈ writeN l, x < 256 := fun x hx => by
  obtain ⟨i, hi, h⟩ := List.mem_flatMap.1 hx
  obtain ⟨h1, h2, h3, h4⟩ := hok i hi
  simp only [writeI, List.mem_cons, List.not_mem_nil, or_false] at h
  rcases h with rfl | rfl | rfl | rfl | rfl | rfl | rfl | rfl <;> omega

set_option maxRecDepth 100000 in
set_option maxHeartbeats 4000000 in
theorem topTexts_few (w : World) (htabs : Tabs w) (l : List I) (hok : ∀ i ∈ l, i.Ok) (A : Option Addr) (n c : Nat) (hr : Reads w w.heap.size 4 A n (cellsI l)) (hn : n ≤ 100) (b : Arr64V) (hb : b.Ok) :
    Calls Tryz.prog 3 #[.slice A n c, b.val] w fun e w' => e = .returned (.bool true) ∧ Below w.heap.size w w' := by
  have hl : n = l.length := by have := hr.1; rw [cellsI_length] at this; omega
  obtain ⟨bl⟩ := b
  obtain ⟨hbl, hbb⟩ := hb
  simp only at hbl hbb
  have hbl64 : (bytesV bl).length = 64 * 1 := by rw [bytesV_length, hbl]
  have hrb0 := reads_lit w (bytesV bl) 23 1 64 hbl64
  have hB0 : Below w.heap.size w (w.alloc (.cells (bytesV bl).toArray 23)) := (Below.refl _ w).alloc (Nat.le_refl _) _
  have hsz0 : (w.alloc (.cells (bytesV bl).toArray 23)).heap.size = w.heap.size + 1 := World.size_alloc ..
  have hwl := writeN_length l
  have hre : readE (writeN l).length = 0 := by unfold readE; rw [if_neg (by omega), if_neg (by omega)]
  have hrl : readL (writeN l) = l := by unfold readL; rw [if_pos hre, readN_write hok]
  have htl := text_len l hok
  have hall := fun W hr => allT_insts l hok A n c W hr (by omega)
  have hwr := fun A1 c1 W (hr : Reads W W.heap.size 4 A1 n (cellsI l)) => write_any l hok A1 n c1 W hr (by omega)
  have hrd := fun A1 m c1 W (hr : Reads W W.heap.size 1 A1 m (bytesV (writeN l))) => iread_any (writeN l) (write_bytes hok) A1 m c1 W hr
  have htx := fun A1 c1 W (hr : Reads W W.heap.size 4 A1 n (cellsI l)) => text_any l hok A1 n c1 W hr (by omega)
  have hpr := fun W => program_any l hok (by omega) (by omega) W
  have hck := fun A1 c1 W (hr : Reads W W.heap.size 4 A1 n (cellsI l)) => check_any l hok A1 n c1 W hr (by omega)
  have hrun := fun A1 c1 W (hr : Reads W W.heap.size 4 A1 n (cellsI l)) hrb => vmrun_all l hok A1 n c1 bl hbb (some ⟨w.heap.size, 0, none⟩) 64 W hr (by omega) hrb
  have hle1 : ¬ (100 : Int) < (n : Int) := by omega
  show Calls Tryz.prog 3 #[.slice A n c, .agg (bytesV bl).toArray] w _
  generalize hbV : bytesV bl = bV at *
  have HL := Lib.hid hl
  have HRB0 := Lib.hid hrb0
  have HB0 := Lib.hid hB0
  have HR := Lib.hid ((hr.below hB0).more hB0.size)
  have HALL := Lib.hid hall
  have HWR := Lib.hid hwr
  have HRD := Lib.hid hrd
  have HTX := Lib.hid htx
  have HPR := Lib.hid hpr
  have HCK := Lib.hid hck
  have HRUN := Lib.hid hrun
  have HBV := Lib.hid hbV
  have HT := Lib.hid htabs
  have HRE := Lib.hid hre
  have HRL := Lib.hid hrl
  have HWL := Lib.hid hwl
  clear hl hok hrb0 hB0 hr hall hrun hbb hbV hbl hwr hrd htx hpr hck htabs hre hrl hwl htl
  go_enter Tryz.func3, Tryz.ntmps3
  go_wp2_with fail
  refine ((HALL.out) _ HR.out).mono ?_
  rintro e w1 ⟨v1, rfl, own1, hB1⟩
  rw [← HL.out] at own1
  obtain ⟨A1, c1, rfl, hr1⟩ := own_reads own1
  have hrb1 := (((HRB0.out).more (by rw [hsz0]; exact Nat.le_refl _) : Reads _ (w.alloc (.cells bV.toArray 23)).heap.size 1 _ 64 bV).below hB1).more hB1.size
  have hBw1 := (HB0.out).trans (hB1.mono (by rw [hsz0]; omega))
  have HR1 := Lib.hid hr1
  have HRB1 := Lib.hid hrb1
  have HBW1 := Lib.hid hBw1
  have hsz1 : w.heap.size + 1 ≤ w1.heap.size := by have := hB1.size; rw [hsz0] at this; exact this
  clear own1 hr1 hrb1 hBw1 hB1 HRB0 HB0 HR HALL hsz0 hbl64
  go_wp2_with fail
  -- the instructions written and read
  refine ((HWR.out) A1 c1 w1 HR1.out).mono ?_
  rintro e w2 ⟨v2, rfl, own2, hB2⟩
  obtain ⟨A2, c2, rfl, h2c, h2m, hr2⟩ := own_reads_cap own2
  have HR2 := Lib.hid hr2
  have HC2 := Lib.hid h2c
  have HM2 := Lib.hid h2m
  have HB2 := Lib.hid hB2
  have hs2 := hB2.size
  clear own2 hr2 h2c h2m hB2
  go_wp2_with fail
  refine ((HRD.out) A2 _ c2 w2 HR2.out (by rw [HWL.out, ← HL.out]; omega) HC2.out HM2.out).mono ?_
  rintro e w3 ⟨v3, rfl, own3, hB3⟩
  rw [HRL.out, ← HL.out] at own3
  rw [HRE.out]
  obtain ⟨A3, c3, rfl, hr3⟩ := own_reads own3
  have hB13 : Below w1.heap.size w1 w3 := (HB2.out).trans (hB3.mono hs2)
  have HX3 := Lib.hid (((HR1.out).below hB13).more hB13.size)
  have HRB3 := Lib.hid (((HRB1.out).below hB13).more hB13.size)
  have HBW3 := Lib.hid ((HBW1.out).trans (hB13.mono (by omega)))
  have HY3 := Lib.hid hr3
  have hsz3 : w.heap.size + 1 ≤ w3.heap.size := Nat.le_trans hsz1 hB13.size
  clear own3 hr3 hB3 hB13 HR2 HC2 HM2 HB2 hs2 HR1 HRB1 HBW1 hsz1 HWR HRD HRE HRL HWL
  go_wp2_with fail
  refine ((HTX.out) A1 c1 w3 HX3.out ((HT.out).below HBW3.out (Nat.le_refl _))).mono ?_
  rintro e w4 ⟨rfl, hB4⟩
  have HX4 := Lib.hid (((HX3.out).below hB4).more hB4.size)
  have HY4 := Lib.hid (((HY3.out).below hB4).more hB4.size)
  have HRB4 := Lib.hid (((HRB3.out).below hB4).more hB4.size)
  have HBW4 := Lib.hid ((HBW3.out).trans (hB4.mono (by omega)))
  have hsz4 : w.heap.size + 1 ≤ w4.heap.size := Nat.le_trans hsz3 hB4.size
  clear hB4 HX3 HY3 HRB3 HBW3 hsz3 HTX
  go_wp2_with fail
  refine ((HPR.out) w4 ((HT.out).below HBW4.out (Nat.le_refl _))).mono ?_
  rintro e w5 ⟨v5, rfl, own5, hB5⟩
  rw [← HL.out] at own5
  obtain ⟨A5, c5, rfl, hr5⟩ := own_reads own5
  have HX5 := Lib.hid (((HX4.out).below hB5).more hB5.size)
  have HY5 := Lib.hid (((HY4.out).below hB5).more hB5.size)
  have HZ5 := Lib.hid hr5
  have HRB5 := Lib.hid (((HRB4.out).below hB5).more hB5.size)
  have HBW5 := Lib.hid ((HBW4.out).trans (hB5.mono (by omega)))
  have hsz5 : w.heap.size + 1 ≤ w5.heap.size := Nat.le_trans hsz4 hB5.size
  clear own5 hr5 hB5 HX4 HY4 HRB4 HBW4 hsz4 HPR HT
  go_wp2_with fail
  -- the two checks
  refine ((HCK.out) A1 c1 w5 HX5.out).mono ?_
  rintro e w6 ⟨rfl, hB6⟩
  have hB56 : Below w5.heap.size w5 w6 := hB6
  have HY6 := Lib.hid (((HY5.out).below hB6).more hB6.size)
  have HZ6 := Lib.hid (((HZ5.out).below hB6).more hB6.size)
  have HRB6 := Lib.hid (((HRB5.out).below hB6).more hB6.size)
  have HBW6 := Lib.hid ((HBW5.out).trans (hB6.mono (by omega)))
  have hsz6 : w.heap.size + 1 ≤ w6.heap.size := Nat.le_trans hsz5 hB6.size
  clear hB6 hB56 HX5 HY5 HZ5 HRB5 HBW5 hsz5
  generalize hK1 : (checkN l).1 = q1 at *
  generalize hK2 : (checkN l).2 = q2 at *
  have HK1 := Lib.hid hK1
  have HK2 := Lib.hid hK2
  clear hK1 hK2
  go_wp2_with fail
  refine ((HCK.out) A5 c5 w6 HZ6.out).mono ?_
  rintro e w7 ⟨rfl, hB7⟩
  rw [HK1.out, HK2.out]
  have HY7 := Lib.hid (((HY6.out).below hB7).more hB7.size)
  have HZ7 := Lib.hid (((HZ6.out).below hB7).more hB7.size)
  have HRB7 := Lib.hid (((HRB6.out).below hB7).more hB7.size)
  have HBW7 := Lib.hid ((HBW6.out).trans (hB7.mono (by omega)))
  have hsz7 : w.heap.size + 1 ≤ w7.heap.size := Nat.le_trans hsz6 hB7.size
  clear hB7 HY6 HZ6 HRB6 HBW6 hsz6 HCK
  go_wp2_with fail
  -- the two runs
  refine ((HRUN.out) A3 c3 w7 HY7.out HRB7.out).mono ?_
  rintro e w8 ⟨v, st, ldA, ldn, ldc, hV, rfl, hB8⟩
  rw [HK2.out]
  have HZ8 := Lib.hid (((HZ7.out).below hB8).more hB8.size)
  have HRB8 := Lib.hid (((HRB7.out).below hB8).more hB8.size)
  have HBW8 := Lib.hid ((HBW7.out).trans (hB8.mono (by omega)))
  have hsz8 : w.heap.size + 1 ≤ w8.heap.size := Nat.le_trans hsz7 hB8.size
  have HV := Lib.hid hV
  clear hB8 HY7 HZ7 HRB7 HBW7 hsz7 hV
  go_wp2_with fail
  have hz8 : (w8.alloc (.cells #[.int .u32 v, .int .i64 st, .slice ldA ldn ldc] 39)).heap.size = w8.heap.size + 1 := World.size_alloc ..
  have hA8 : Below w8.heap.size w8 (w8.alloc (.cells #[.int .u32 v, .int .i64 st, .slice ldA ldn ldc] 39)) := (Below.refl _ w8).alloc (Nat.le_refl _) _
  have ho8 : RowK (w8.alloc (.cells #[.int .u32 v, .int .i64 st, .slice ldA ldn ldc] 39)) w8.heap.size 39 3 [.int .u32 v, .int .i64 st, .slice ldA ldn ldc] := RowK.new w8 39 #[.int .u32 v, .int .i64 st, .slice ldA ldn ldc] [.int .u32 v, .int .i64 st, .slice ldA ldn ldc] rfl
  have hz1 := ((HZ8.out).below hA8).more hA8.size
  have hz2 := ((HRB8.out).below hA8).more hA8.size
  have hz3 := (HBW8.out).trans (hA8.mono (by omega))
  have hlt8 := ho8.lt
  generalize w8.alloc (.cells #[.int .u32 v, .int .i64 st, .slice ldA ldn ldc] 39) = W8 at *
  refine ((HRUN.out) A5 c5 W8 hz1 hz2).mono ?_
  rintro e w9 ⟨v9, st9, lB, m9, k9, hV9, rfl, hB9⟩
  rw [HK2.out]
  have e9 : (v9, st9) = (v, st) := hV9.trans (HV.out).symm
  injection e9 with e1 e2
  subst e1
  subst e2
  have ho9 := ho8.below hB9 hlt8
  have hlt9 := ho9.lt
  have hB9w := hz3.trans (hB9.mono (by omega))
  have ha0 : ∀ o, (w9.alloc o).cell? ⟨w8.heap.size, 0, none⟩ = some (.int .u32 (v9 : Int)) := fun o => cell_of_below (p := ⟨w8.heap.size, 0, none⟩) ((Below.refl w9.heap.size w9).alloc (Nat.le_refl _) o) hlt9 (ho9.cell (k := 0) rfl)
  have ha1 : ∀ o, (w9.alloc o).cell? ⟨w8.heap.size, 1, none⟩ = some (.int .i64 (st9 : Int)) := fun o => cell_of_below (p := ⟨w8.heap.size, 1, none⟩) ((Below.refl w9.heap.size w9).alloc (Nat.le_refl _) o) hlt9 (ho9.cell (k := 1) rfl)
  have hfin : ∀ o, Below w.heap.size w (w9.alloc o) := fun o => hB9w.alloc hB9w.size o
  have HF := Lib.hid hfin
  clear hfin hB9w ho9 hlt9 hV9 hz1 hz2 hz3 hA8 ho8 hB9 hlt8 hz8 HZ8 HRB8 HBW8 HV HRUN HBV HL HK1 HK2 hsz8 hle1
  generalize w8.heap.size = g8 at *
  go_wp2_with fail
  have hB10 := HF.out (.cells #[.int .u32 v9, .int .i64 st9, .slice lB m9 k9] 39)
  generalize w9.alloc (.cells #[.int .u32 v9, .int .i64 st9, .slice lB m9 k9] 39) = w10 at *
  refine (awakeT_any w10).mono ?_
  rintro e w11 ⟨rfl, hB11⟩
  have HE := Lib.hid (hB10.trans (hB11.mono hB10.size))
  clear hB10 hB11 HF ha0 ha1
  go_wp2_with fail
  go_ret
  exact ⟨rfl, HE.out⟩

theorem topTexts_walk (w : World) (ht : Tabs w) (l : List I) (hok : ∀ i ∈ l, i.Ok) (A : Option Addr) (n c : Nat) (hr : Reads w w.heap.size 4 A n (cellsI l)) (_hc : n ≤ c) (_hm : c ≤ maxLen) (b : Arr64V) (hb : b.Ok) :
    Calls Tryz.prog 3 #[.slice A n c, b.val] w fun e w' => e = .returned (.bool true) ∧ Below w.heap.size w w' := by
  by_cases hn : n ≤ 100
  · exact topTexts_few w ht l hok A n c hr hn b hb
  · have h1 : (100 : Int) < (n : Int) := by omega
    obtain ⟨bl⟩ := b
    unfold Arr64V.val
    generalize (bytesV (Arr64V.mk bl).l).toArray = bV
    go_enter Tryz.func3, Tryz.ntmps3
    go_wp2_with fail
    go_ret
    exact ⟨rfl, (Below.refl _ w).alloc (Nat.le_refl _) _⟩
end Go.Proofs.YtpinnockcnmofaaGreatDoor

/-! A world that meets TopTexts' condition: each listed variable laid by the function. -/
namespace Go.Proofs.YtpinnockcnmofaaGreatDoor.topTexts
open Go.ChangeShapes Go.WideShapes Go.ChangeAt Go.RowKit
set_option linter.unusedVariables false

theorem plainList : (Rows.topTextsRow.laid.all fun x => x.2.handleName?.isNone) = true := by kernel_rfl
theorem lay_fits (os : Os) : (World.holding Tryz.prog os ⟨#[], #[], []⟩).layFits Tryz.prog Rows.topTextsRow.laid [] = true := by kernel_rfl
theorem lay_ifaces (os : Os) : (World.holding Tryz.prog os ⟨#[], #[], []⟩).layIfaces Tryz.prog Rows.topTextsRow.laid (World.laidAll Tryz.prog os Rows.topTextsRow.laid) = true := by kernel_rfl
theorem door_met (os : Os) (args : Array Value) : laidMetH Tryz.prog Rows.topTextsRow.laid ((World.laidAll Tryz.prog os Rows.topTextsRow.laid).forCall (fun _ _ => 0) ⟨#[], args, []⟩).memory := by
  rw [MakeChecks.laidMetH_plain _ _ _ plainList]
  exact laidMet_laidAll args (lay_fits os) (lay_ifaces os)
theorem door_shaped (os : Os) : (World.laidAll Tryz.prog os Rows.topTextsRow.laid).Shaped Tryz.prog := World.shaped_of_ZipB (by kernel_rfl) (by kernel_rfl)
end Go.Proofs.YtpinnockcnmofaaGreatDoor.topTexts
