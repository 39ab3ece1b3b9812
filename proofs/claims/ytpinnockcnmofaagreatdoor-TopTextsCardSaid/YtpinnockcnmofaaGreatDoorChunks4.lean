/-
  The instructions of bytes: in plain words.
-/
import Derived.Test.YtpinnockcnmofaaGreatDoorData
import Derived.Test.YtpinnockcnmofaaGreatDoorPlaces
import Derived.Test.YtpinnockcnmofaaGreatDoorKinds3
import Derived.StillTail
import Derived.RangeFuncCalls
import Derived.RangeFuncWrites
import Derived.OwnWalkIn
import Derived.Test.YtpinnockcnmofaaGreatDoorWalkGet
/-! The instructions of bytes: in plain words. -/
namespace Go.Proofs.YtpinnockcnmofaaGreatDoor
set_option linter.unusedVariables false

def instAt (b : List Nat) (i : Nat) : I := ⟨b.getD i 0 + 256 * b.getD (i + 1) 0, b.getD (i + 2) 0, b.getD (i + 3) 0, b.getD (i + 4) 0 + 256 * (b.getD (i + 5) 0 + 256 * (b.getD (i + 6) 0 + 256 * b.getD (i + 7) 0))⟩
def readUp (b : List Nat) (k : Nat) : List I := (List.range k).map fun k => instAt b (8 * k)
def readN (b : List Nat) : List I := readUp b (b.length / 8)
def readE (n : Nat) : Nat := if 32768 < n then 3 else if n % 8 ≠ 0 then 2 else 0
theorem readUp_succ (b : List Nat) (k : Nat) : readUp b (k + 1) = readUp b k ++ [instAt b (8 * k)] := by simp [readUp, List.range_succ]
theorem readUp_length (b : List Nat) (k : Nat) : (readUp b k).length = k := by simp [readUp]
theorem getD_byte {b : List Nat} (hb : ∀ x ∈ b, x < 256) (i : Nat) : b.getD i 0 < 256 := by
  by_cases h : i < b.length
  · have : b.getD i 0 = b[i] := by simp [h]
    rw [this]; exact hb _ (List.getElem_mem h)
  · simp [show b.length ≤ i by omega]
theorem instAt_ok {b : List Nat} (hb : ∀ x ∈ b, x < 256) (i : Nat) : (instAt b i).Ok := by
  have h := getD_byte hb
  have h0 := h i
  have h1 := h (i + 1)
  have h2 := h (i + 2)
  have h3 := h (i + 3)
  have h4 := h (i + 4)
  have h5 := h (i + 5)
  have h6 := h (i + 6)
  have h7 := h (i + 7)
  unfold instAt I.Ok
  simp only
  omega
theorem readUp_ok {b : List Nat} (hb : ∀ x ∈ b, x < 256) (k : Nat) : ∀ i ∈ readUp b k, i.Ok := fun i hi => by
  unfold readUp at hi
  obtain ⟨j, _, rfl⟩ := List.mem_map.1 hi
  exact instAt_ok hb _
theorem writeN_getD (l : List I) (k j : Nat) (hk : k < l.length) (hj : j < 8) : (writeN l).getD (8 * k + j) 0 = (writeI (l.getD k default)).getD j 0 := by
  induction l generalizing k with
  | nil => simp at hk
  | cons i l ih =>
    have e : writeN (i :: l) = writeI i ++ writeN l := by simp [writeN]
    rw [e]
    cases k with
    | zero =>
      rw [List.getD_eq_getElem?_getD, List.getElem?_append_left (by simp [writeI]; omega)]
      simp
    | succ k =>
      rw [List.getD_eq_getElem?_getD, List.getElem?_append_right (by simp [writeI]; omega)]
      have := ih k (by simpa using hk)
      rw [show 8 * (k + 1) + j - (writeI i).length = 8 * k + j by simp [writeI]; omega, ← List.getD_eq_getElem?_getD, this]
      simp
theorem instAt_write {l : List I} (hok : ∀ i ∈ l, i.Ok) (k : Nat) (hk : k < l.length) : instAt (writeN l) (8 * k) = l.getD k default := by
  obtain ⟨h1, h2, h3, h4⟩ := getD_ok hok hk
  unfold instAt
  have g := fun j hj => writeN_getD l k j hk hj
  have g0 := g 0 (by omega)
  rw [Nat.add_zero] at g0
  rw [g0, g 1 (by omega), g 2 (by omega), g 3 (by omega), g 4 (by omega), g 5 (by omega), g 6 (by omega), g 7 (by omega)]
  generalize l.getD k default = x at *
  obtain ⟨a, b, c, d⟩ := x
  simp only at h1 h2 h3 h4
  simp only [writeI, List.getD_cons_zero, List.getD_cons_succ]
  congr 1
  · omega
  · omega
theorem list_ext_getD {α : Type} [Inhabited α] {a b : List α} (d : α) (h : a.length = b.length) (hg : ∀ i, i < a.length → a.getD i d = b.getD i d) : a = b := by
  apply List.ext_getElem h
  intro i h1 h2
  have := hg i h1
  simpa [h1, h2] using this
theorem readN_write {l : List I} (hok : ∀ i ∈ l, i.Ok) : readN (writeN l) = l := by
  have hl : (writeN l).length / 8 = l.length := by rw [writeN_length]; omega
  unfold readN
  rw [hl]
  refine list_ext_getD default (readUp_length _ _) (fun i hi => ?_)
  rw [readUp_length] at hi
  rw [← instAt_write hok i hi]
  simp [readUp, hi]
theorem write_readN {b : List Nat} (hb : ∀ x ∈ b, x < 256) (h8 : b.length % 8 = 0) : writeN (readN b) = b := by
  have hl : (writeN (readN b)).length = b.length := by rw [writeN_length]; unfold readN; rw [readUp_length]; omega
  refine list_ext_getD 0 hl (fun i hi => ?_)
  rw [hl] at hi
  have hk : i / 8 < (readN b).length := by unfold readN; rw [readUp_length]; omega
  have hj : i % 8 < 8 := by omega
  have e := writeN_getD (readN b) (i / 8) (i % 8) hk hj
  rw [show 8 * (i / 8) + i % 8 = i by omega] at e
  have hg : (readN b).getD (i / 8) default = instAt b (8 * (i / 8)) := by
    unfold readN readUp at hk ⊢
    simp at hk
    simp [hk]
  rw [e, hg]
  have h := getD_byte hb
  have a0 := h (8 * (i / 8))
  have a1 := h (8 * (i / 8) + 1)
  have a4 := h (8 * (i / 8) + 4)
  have a5 := h (8 * (i / 8) + 5)
  have a6 := h (8 * (i / 8) + 6)
  have a7 := h (8 * (i / 8) + 7)
  obtain ⟨m, r, hm, hr⟩ : ∃ m r, i = 8 * m + r ∧ r < 8 := ⟨i / 8, i % 8, by omega, hj⟩
  have e1 : i / 8 = m := by omega
  have e2 : i % 8 = r := by omega
  rw [e1] at a0 a1 a4 a5 a6 a7
  rw [e1, e2, hm]
  unfold instAt writeI
  match r, hr with
  | 0, _ => simp only [List.getD_cons_zero, Nat.add_zero]; omega
  | 1, _ => simp only [List.getD_cons_zero, List.getD_cons_succ]; omega
  | 2, _ => rfl
  | 3, _ => rfl
  | 4, _ => simp only [List.getD_cons_zero, List.getD_cons_succ]; omega
  | 5, _ => simp only [List.getD_cons_zero, List.getD_cons_succ]; omega
  | 6, _ => simp only [List.getD_cons_zero, List.getD_cons_succ]; omega
  | 7, _ => simp only [List.getD_cons_zero, List.getD_cons_succ]; omega
end Go.Proofs.YtpinnockcnmofaaGreatDoor

/-! slices.Chunk: the iterator over a slice's pieces of eight bytes. -/
namespace Go.Proofs.YtpinnockcnmofaaGreatDoor
open Go.RowKit Go.Shelf
set_option linter.unusedVariables false
attribute [local go_sem] Oper.semAt_some

theorem grownBy_drew_none (W : World) : W.grownBy W.drew none := ⟨(World.grownBy.refl W none).os, (World.grownBy.refl W none).tape, (World.grownBy.refl W none).output, (World.grownBy.refl W none).size, (World.grownBy.refl W none).block⟩
section
variable {α : Type} (val : α → Nat) (pl : Nat → α)
set_option maxRecDepth 100000 in
set_option maxHeartbeats 1000000 in
theorem chunk1_in (F : Fence) (n : Nat) (h59 : F.fn 25) (hro : F.round = none) (hn : 1 ≤ n) (l B m : Nat) (A : Option Addr) (b off c : Nat) (hA : 0 < m → A = some ⟨b, off, none⟩) (hm : m ≤ 1000000) (hc : 8 * m ≤ c) (hcm : c ≤ maxLen) (hpl : ∀ k, k < m → val (pl k) = k) (lo hi : Nat) (hB : lo ≤ B) (hB2 : B + 2 ≤ hi) (J Jx : List α → World → Prop) (hdr : ∀ pre W, J pre W → J pre W.drew)
    (hY : ∀ pre x W, J pre W → pre.length < m → YieldAt F (n - 1) Tryz.prog l #[.slice (some ⟨b, off + 8 * val x, none⟩) 8 8] W fun e W' =>
      (e = .returned (.bool true) ∧ J (pre ++ [x]) W' ∧ KeepsAt lo hi W W') ∨ (e = .returned (.bool false) ∧ Jx (pre ++ [x]) W'))
    (W : World) (h1 : W.cell? ⟨B, 0, none⟩ = some (.slice A (8 * m) c)) (h2 : W.cell? ⟨B + 1, 0, none⟩ = some (.int .i64 8)) (h0 : J [] W) :
    CallsIn F n Tryz.prog 25 #[.func (.yield l) #[] #[], .pointer (some ⟨B, 0, none⟩), .pointer (some ⟨B + 1, 0, none⟩)] W fun e W' => (∃ v, e = .returned v) ∧
      ((∃ ys, ys = upto pl m ∧ J ys W') ∨ (∃ pre, (∃ k, k ≤ m ∧ pre = upto pl k) ∧ Jx pre W')) := by
  unfold maxLen at hcm
  refine callsIn_of_wp Tryz.func25 rfl h59 ?_ hro
  simp only [Tryz.ntmps25, List.size_toArray, List.length_cons, List.length_nil, Nat.reduceAdd, Nat.reduceSub, Array.replicate_succ, Array.replicate_zero, List.push_toArray, List.append_toArray, List.nil_append, List.cons_append]
  gi_wp2
  gi_loopw [4] (fun i wr => ∃ k : Nat, k ≤ m ∧ i = .int .i64 ((8 * k : Nat) : Int) ∧ J (upto pl k) wr ∧ KeepsAt lo hi W wr)
    (fun i _ => 8 * m - (intOf i).toNat)
  case atStart => exact ⟨0, Nat.zero_le _, rfl, h0, KeepsAt.refl _ _ _⟩
  case round =>
    obtain ⟨k, hk, rfl, hJs, hK⟩ := hrel
    have g1 : wr.cell? ⟨B, 0, none⟩ = some (.slice A (8 * m) c) := (hK.cell (p := ⟨B, 0, none⟩) hB (by simp; omega)).trans h1
    have g2 : wr.cell? ⟨B + 1, 0, none⟩ = some (.int .i64 8) := (hK.cell (p := ⟨B + 1, 0, none⟩) (by simp; omega) (by simp; omega)).trans h2
    by_cases hlt : k < m
    · obtain rfl := hA (by omega)
      obtain ⟨fn, tmps, assign, body, hy, hR⟩ := hY _ (pl k) wr.drew (hdr _ _ hJs) (by rw [upto_length]; exact hlt)
      have hv := hpl k hlt
      have hstep := upto_succ pl k
      rw [hv] at hy
      have HS := Lib.hid hstep
      clear hv hpl hstep h1 h2 hY
      have z0 : (0 : Int) ≤ ((8 * k : Nat) : Int) := by omega
      have z1 : ((8 * k : Nat) : Int) < ((8 * m : Nat) : Int) := by omega
      have n0 : ¬ c = 8 * k := by omega
      have n1 : (8 : Int) ≤ ((8 * m - 8 * k : Nat) : Int) := by omega
      gi_wp2
      gi_region_with (fail)
      all_goals gi_wp2
      all_goals
        refine hR.mono ?_
        rintro e W3 (⟨rfl, hJ3, hk3⟩ | ⟨rfl, hJx3⟩)
        · have g3 : W3.cell? ⟨B + 1, 0, none⟩ = some (.int .i64 8) := (hk3.cell (p := ⟨B + 1, 0, none⟩) (by simp; omega) (by simp; omega)).trans g2
          clear g1 g2
          gi_wp2
          go_roundw
          case rel => exact ⟨k + 1, by omega, by go_num, by rw [HS.out]; exact hJ3, hK.trans ((KeepsAt.refl _ _ _).drew.trans hk3)⟩
          case measure => simp [intOf] <;> omega
        · gi_wp2
          refine bodyPost_ret (results_none rfl _ _ _) rfl ?_
          exact ⟨⟨_, rfl⟩, .inr ⟨_, ⟨k + 1, by omega, HS.out.symm⟩, hJx3⟩⟩
    · obtain rfl : k = m := by omega
      clear hpl
      gi_wp2
      go_end0
      exact ⟨⟨_, rfl⟩, .inl ⟨_, rfl, hJs⟩⟩

/-- **The iterator's contract.** -/
theorem chunk_stops (F : Fence) (n : Nat) (h59 : F.fn 25) (hro : F.round = none) (hn : 1 ≤ n) (B m : Nat) (A : Option Addr) (b off c : Nat) (hA : 0 < m → A = some ⟨b, off, none⟩) (hm : m ≤ 1000000) (hc : 8 * m ≤ c) (hcm : c ≤ maxLen) (hpl : ∀ k, k < m → val (pl k) = k) (lo : Nat) (w : World) (hB : lo ≤ B) (hB2 : B + 2 ≤ w.heap.size)
    (h1 : w.cell? ⟨B, 0, none⟩ = some (.slice A (8 * m) c)) (h2 : w.cell? ⟨B + 1, 0, none⟩ = some (.int .i64 8)) :
    SeqStopsK F n Tryz.prog 25 #[.pointer (some ⟨B, 0, none⟩), .pointer (some ⟨B + 1, 0, none⟩)] (fun x : α => #[Value.slice (some ⟨b, off + 8 * val x, none⟩) 8 8]) (KeepsAt lo w.heap.size) (fun ys => ys = upto pl m)
      (fun pre => ∃ k, k ≤ m ∧ pre = upto pl k) m w := fun l J Jx W hW hJ _ hY h0 => by
  have g1 := (hW.cell (p := ⟨B, 0, none⟩) (by simp; omega)).trans h1
  have g2 := (hW.cell (p := ⟨B + 1, 0, none⟩) (by simp; omega)).trans h2
  exact chunk1_in val pl F n h59 hro hn l B m A b off c hA hm hc hcm hpl lo w.heap.size hB hB2 J Jx (fun pre W h => hJ pre W W.drew none h (grownBy_drew_none W) (fun r e => by cases e)) hY W g1 g2 h0
end

set_option maxRecDepth 100000 in
theorem chunk_in (F : Fence) (n : Nat) (h51 : F.fn 12) (hro : F.round = none) (A : Option Addr) (m c : Nat) (w : World) :
    CallsIn F n Tryz.prog 12 #[.slice A m c, .int .i64 8] w fun e w' =>
      e = .returned (.func (.func 25) #[] #[.pointer (some ⟨w.heap.size, 0, none⟩), .pointer (some ⟨w.heap.size + 1, 0, none⟩)]) ∧
      w' = (w.alloc (.cells #[.slice A m c] 29)).alloc (.cells #[.int .i64 8] 3) := by
  refine callsIn_of_wp Tryz.func12 rfl h51 ?_ hro
  simp only [Tryz.ntmps12, List.size_toArray, List.length_cons, List.length_nil, Nat.reduceAdd, Nat.reduceSub, Array.replicate_succ, Array.replicate_zero, List.push_toArray, List.append_toArray, List.nil_append, List.cons_append]
  gi_wp2
  go_ret
  exact ⟨rfl, rfl⟩
end Go.Proofs.YtpinnockcnmofaaGreatDoor

/-! A region that draws its order, within a round of a range over a function, walked as outside of one: its head by facts about its slots, one tail behind. -/
namespace Go.Proofs.YtpinnockcnmofaaGreatDoor
open Go.RowKit
variable {P : Program}

theorem rowsIn_round {l n : Nat} {row : String} {args : Array Value} {w : World} {R : Value → World → Prop} (h : Rows P row args w R) : RowsIn (Fence.wide.inRound l) n P row args w R :=
  fun c cs _ => let ⟨v, w', r, s⟩ := h c cs; ⟨v, w', r, stepsIn_wide.2 s⟩
theorem Oper.wpIn_round {l n : Nat} {o : Oper} {a : Act} {w : World} {K : Act → World → Prop} {Q : Exit → Act → World → Prop} (hd : ∀ c, o.op ≠ .defer c) (h : o.wp P a w K Q) : o.wpIn (Fence.wide.inRound l) n P a w K Q := by
  refine ⟨fun _ _ => trivial, ?_⟩
  rw [Oper.semAt_plain _ _ _ hd]
  unfold Oper.wp at h
  generalize (execOp a.eval o).run P w = r at *
  cases r with
  | ok x w' =>
    cases x with
    | enter f args => exact ⟨(fun e => by cases e), CallsIn.inRound l (callsIn_wide.2 h)⟩
    | row row args => exact ⟨(fun e => by cases e), rowsIn_round h⟩
    | round => exact h.elim
    | _ => exact h
  | halt x w' => cases x <;> exact h
theorem wpAnyIn_round {l n : Nat} {md : Region.Mode} {ops : Array Oper} {Q : Exit → Act → World → Prop} (hd : ∀ (i : Nat) (o : Oper) (c : Call), ops[i]? = some o → o.op ≠ .defer c) (hQ : ¬ LetsOut Q) : ∀ (fuel : Nat) (listed : Array Bool) (a : Act) (w : World),
    wpAny P md ops Q fuel listed a w → wpAnyIn (Fence.wide.inRound l) n P md ops Q fuel listed a w
  | 0, _, _, _, h => h
  | fuel + 1, listed, a, w, h => ⟨h.1, fun i hi => by
    have h2 := h.2 i hi
    unfold wpOp at h2
    unfold wpOpIn
    split
    · rename_i ho; simp only [ho] at h2; exact wpAnyIn_round hd hQ fuel _ _ _ h2
    · rename_i o ho
      simp only [ho] at h2
      split
      · rename_i hw
        rw [if_pos hw] at h2
        rcases h2 with h2 | ⟨_, h2⟩
        · exact Oper.wpIn_mono (fun a w h => wpAnyIn_round hd hQ fuel _ a w h) (Oper.wpIn_round (fun c => hd i o c ho) h2)
        · exact (hQ h2).elim
      · rename_i hw
        rw [if_neg hw] at h2
        exact ⟨fun _ _ => trivial, wpAnyIn_round hd hQ fuel _ _ _ h2⟩⟩
def noDeferB (ops : Array Oper) : Bool := ops.all fun o => match o.op with | .defer _ => false | _ => true
theorem noDefer_of {ops : Array Oper} (h : noDeferB ops = true) (i : Nat) (o : Oper) (c : Call) (ho : ops[i]? = some o) : o.op ≠ .defer c := fun e => by
  unfold noDeferB at h
  rw [Array.all_eq_true_iff_forall_mem] at h
  have := h o (Array.mem_of_getElem? ho)
  rw [e] at this
  cases this
theorem notOut_ownG {α : Type} {B : Nat} {Kp : World → World → Prop} {I : List α → World → Prop} {Ix : Code → List α → World → Prop} {xs : List α} {W : World} : ¬ LetsOut (ownPostG B Kp I Ix xs W) := fun ⟨_, _, h⟩ => h

namespace Any
/-- **THE LAW, by kinds, with a tail that may write slots, within a round.** -/
theorem wpIn_round_tail {id r n' : Nat} {Q : Exit → Act → World → Prop} {l : List Oper} {a0 : Act} {w : World} (k : Nat) (hm : P.follows .mixedOrders = true) (S : Tmp → Kd) (D Dk : List Tmp) (hD : dsts l.toArray = D) (hDk : dsts (l.take k).toArray = Dk)
    (hsz : D.all (fun d => decide (d < a0.tmps.size)) = true) (hback : backB l.toArray = true) (hcov : coverB l.toArray k = true) (hk : k ≤ l.length) (hdef : noDeferB l.toArray = true) (hQ : ¬ LetsOut Q)
    (steps : StepsTo P l.toArray Q (fun d v w => (S d).sat v w) (fun _ _ => True) a0 w.drew k l)
    (done : ∀ (f : Tmp → Value) (w' : World), Grows w.drew w' → (∀ d, Dk.contains d = true → (S d).sat (f d) w') → wpList P l.toArray Q (l.drop k) { tmps := fill f D a0.tmps, defers := a0.defers } w') :
    (Code.region id l.toArray true).wpIn (Fence.wide.inRound r) n' P Q a0 w := by
  refine wpIn_region_any hm (wpAnyIn_round (fun i o c ho => noDefer_of hdef i o c ho) hQ _ _ _ _ ?_)
  have hsz' : ∀ d ∈ dsts l.toArray, d < a0.tmps.size := fun d hd => by
    rw [hD] at hd
    simpa using List.all_eq_true.1 hsz d hd
  refine wpAny_head (k := k) (F := fun d v w => (S d).sat v w) (J := fun _ _ => True) (a0 := a0) (w0 := w.drew) hcov (fun d v w w' hg h => (S d).mono v w w' hg h) hsz' (back_of hback) (by simpa using hk) (fun i o hi ho => stepsTo_of steps i o hi (by simpa using ho)) (fun a w' listed hh hj hall => ?_) _ _ _ _ ⟨by simp, fun j oj hj hl => ?_⟩ ?_ trivial (fun j h1 h2 => by simp only [Array.getD_eq_getD_getElem?, Array.getElem?_replicate, if_pos h2]; rfl) ?_
  · have hsh := hh.shape
    rw [hD] at hsh
    rw [hsh]
    have := done (fun d => a.tmps.getD d undef) w' hh.grows (fun d hd => ?_)
    · simpa using this
    · have hd' : d ∈ dsts (l.take k).toArray := by rw [hDk]; simpa using hd
      unfold dsts at hd'
      obtain ⟨o, ho, hod⟩ := List.mem_filterMap.1 hd'
      obtain ⟨j, hj⟩ := List.getElem?_of_mem ho
      have hj2 : (l.take k)[j]? = some o := by simpa using hj
      rw [List.getElem?_take] at hj2
      by_cases hjk : j < k
      · rw [if_pos hjk] at hj2
        exact hh.new j o d (by simpa using hj2) (hall j hjk) hod
      · rw [if_neg hjk] at hj2; cases hj2
  · have hjs : j < l.toArray.size := (Array.getElem?_eq_some_iff.1 hj).1
    simp only [Array.getD_eq_getD_getElem?, Array.getElem?_replicate, if_pos hjs] at hl
    cases hl
  · refine ⟨Grows.refl _, rfl, rfl, fun _ _ => rfl, fun j oj d hj hl => ?_⟩
    have hjs : j < l.toArray.size := (Array.getElem?_eq_some_iff.1 hj).1
    simp only [Array.getD_eq_getD_getElem?, Array.getElem?_replicate, if_pos hjs] at hl
    cases hl
  · have := List.countP_le_length (p := fun i => !(Array.replicate l.toArray.size false).getD i true) (l := List.range l.toArray.size)
    simpa using this
/-- An operation of the head, with nothing to be kept besides. -/
theorem st_j {ops : Array Oper} {Q : Exit → Act → World → Prop} {S : Tmp → Kd} {a0 : Act} {w0 : World} {o : Oper} (h : St P ops Q S a0 w0 o) : StepJ P ops Q (fun d v w => (S d).sat v w) (fun _ _ => True) a0 w0 o := stepJ_of h (fun _ _ _ _ _ _ => trivial)
/-- A load by a pointer that stood before. -/
theorem st_load_was {ops : Array Oper} {Q : Exit → Act → World → Prop} {S : Tmp → Kd} {a0 : Act} {w0 : World} {o : Oper} (d t : Tmp) (ty : TypeId) (p : Addr) (v : Value) (hw : Runs ops S o) (ho : o.op = .load ty (.tmp t)) (hd : o.dst = some d) (ht : (dsts ops).contains t = false) (hp : a0.tmps.getD t undef = .pointer (some p))
    (hc : w0.cell? p = some v) (hr : ∀ w : World, w.cell? p = some v → (Instr.loadAt ty (.pointer (some p))).run P w = .ok v w) (hS : S d = .eq v) : St P ops Q S a0 w0 o :=
  st_run hw fun a w hc' => wp_value d hd (v := v) (by
    have e1 := hc'.was t ht
    rw [hp] at e1
    unfold execOp
    simp only [ho, e1, Sem.run_bind, hr w ((hc'.grows.cell (block_lt_of_cell hc)).trans hc), Result.andThen]
    rfl) (by rw [hS]; rfl)
theorem st_load_at {ops : Array Oper} {Q : Exit → Act → World → Prop} {S : Tmp → Kd} {a0 : Act} {w0 : World} {o : Oper} (d t : Tmp) (ty : TypeId) (p : Addr) (v : Value) (hw : Runs ops S o) (ho : o.op = .load ty (.tmp t)) (hd : o.dst = some d) (ht : (deps ops o).contains t = true) (hS1 : S t = .eq (.pointer (some p)))
    (hc : w0.cell? p = some v) (hr : ∀ w : World, w.cell? p = some v → (Instr.loadAt ty (.pointer (some p))).run P w = .ok v w) (hS : S d = .eq v) : St P ops Q S a0 w0 o :=
  st_run hw fun a w hc' => wp_value d hd (v := v) (by
    have e1 := hc'.at t ht
    rw [hS1] at e1
    have e2 : a.eval (.tmp t) = .pointer (some p) := e1
    unfold execOp
    simp only [ho, e2, Sem.run_bind, hr w ((hc'.grows.cell (block_lt_of_cell hc)).trans hc), Result.andThen]
    rfl) (by rw [hS]; rfl)
/-- An operation that reckons a value out of one slot of the region. -/
theorem st_one {ops : Array Oper} {Q : Exit → Act → World → Prop} {S : Tmp → Kd} {a0 : Act} {w0 : World} {o : Oper} (d t : Tmp) (u v : Value) (hw : Runs ops S o) (hd : o.dst = some d) (ht : (deps ops o).contains t = true) (hS1 : S t = .eq u)
    (hr : ∀ (a : Act) (w : World), a.eval (.tmp t) = u → (execOp a.eval o).run P w = .ok (.value v) w) (hS : S d = .eq v) : St P ops Q S a0 w0 o :=
  st_run hw fun a w hc => wp_value d hd (v := v) (hr a w (by have e1 := hc.at t ht; rw [hS1] at e1; exact e1)) (by rw [hS]; rfl)
/-- A struct's value, out of slots. -/
theorem st_built {ops : Array Oper} {Q : Exit → Act → World → Prop} {S : Tmp → Kd} {a0 : Act} {w0 : World} {o : Oper} (d : Tmp) (t : TypeId) (parts : Array (Nat × Operand)) (vals : Array (Nat × Value)) (cells : Array Value) (hw : Runs ops S o) (ho : o.op = .build t parts) (hd : o.dst = some d)
    (hp : ∀ (a : Act) (w : World), Ctx ops S a0 w0 o a w → (parts.map fun (i, x) => (i, a.eval x)) = vals) (hb : ∀ w, (Instr.build t vals).run P w = .ok (.agg cells) w) (hS : S d = .eq (.agg cells)) : St P ops Q S a0 w0 o :=
  st_run hw fun a w hc => wp_value d hd (v := .agg cells) (by
    unfold execOp
    simp only [ho, hp a w hc, Sem.run_bind, hb w, Result.andThen]
    rfl) (by rw [hS]; rfl)
/-- A slice literal, out of slots. -/
theorem st_builtSlice {ops : Array Oper} {Q : Exit → Act → World → Prop} {S : Tmp → Kd} {a0 : Act} {w0 : World} {o : Oper} (d : Tmp) (t e : TypeId) (len size : Nat) (parts : Array (Nat × Operand)) (vals : Array (Nat × Value)) (cells : List Value) (hw : Runs ops S o) (ho : o.op = .buildSlice t len parts) (hd : o.dst = some d)
    (hp : ∀ (a : Act) (w : World), Ctx ops S a0 w0 o a w → (parts.map fun (i, x) => (i, a.eval x)) = vals) (hb : ∀ w, (Instr.buildSlice t len vals).run P w = .ok (.slice (some ⟨w.heap.size, 0, none⟩) len len) (w.alloc (.cells cells.toArray e))) (hl : cells.length = len * size)
    (hS : S d = .row size len cells) : St P ops Q S a0 w0 o :=
  st_run hw fun a w hc => by
    unfold Oper.wp execOp
    simp only [ho, hp a w hc, Sem.run_bind, hb w, Result.andThen_ok]
    refine ⟨_, rfl, fun d' hd' => ?_, (Grows.refl w).alloc _⟩
    rw [hd] at hd'
    cases hd'
    rw [hS]
    exact ⟨_, _, rfl, (reads_lit w cells e size len hl).more (by simp)⟩
end Any
end Go.Proofs.YtpinnockcnmofaaGreatDoor

/-! word.Get, whatever the place and the width. -/
namespace Go.Proofs.YtpinnockcnmofaaGreatDoor
open Go.RowKit
set_option linter.unusedVariables false

theorem wrongN_zero {size at_ width : Int} (h : wrongN size at_ width = 0) : Wide width ∧ 0 ≤ at_ ∧ at_ + width ≤ size := by
  unfold wrongN at h
  by_cases h1 : width ≠ 1 ∧ width ≠ 2 ∧ width ≠ 4 ∧ width ≠ 8
  · rw [if_pos h1] at h; omega
  · rw [if_neg h1] at h
    by_cases h2 : at_ < 0 ∨ size - width < at_
    · rw [if_pos h2] at h; omega
    · exact ⟨by unfold Wide; omega, by omega, by omega⟩

theorem get_any (l : List Nat) (hok : ∀ b ∈ l, b < 256) (A : Option Addr) (n c : Nat) (at_ width : Int) (big : Bool) (w : World) (hr : Reads w w.heap.size 1 A n (bytesV l)) (hn : n ≤ 1000000) :
    Calls Tryz.prog 13 #[.slice A n c, .int .i64 at_, .int .i64 width, .bool big] w (TellsGet l at_ width big w) := by
  have hl : n = l.length := by have := hr.1; rw [bytesV_length] at this; omega
  by_cases hw : wrongN n at_ width = 0
  · obtain ⟨hwide, h0, h1⟩ := wrongN_zero hw
    obtain ⟨a, rfl⟩ : ∃ a : Nat, at_ = a := ⟨at_.toNat, by omega⟩
    have hwb : 1 ≤ width ∧ width ≤ 8 := by rcases hwide with h | h | h | h <;> omega
    obtain ⟨v, rfl⟩ : ∃ v : Nat, width = v := ⟨width.toNat, by omega⟩
    exact get_yes l hok A n c a v big w hr hl hn hw (by omega) (by omega) (by omega)
  · exact get_no l A n c at_ width big w hl hn hw
end Go.Proofs.YtpinnockcnmofaaGreatDoor
