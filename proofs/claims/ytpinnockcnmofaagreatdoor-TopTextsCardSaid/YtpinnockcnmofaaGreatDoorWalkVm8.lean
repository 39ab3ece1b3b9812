/-
  The walk of a machine's run.
-/
import Derived.Test.YtpinnockcnmofaaGreatDoorWalkVm67
import Derived.Test.YtpinnockcnmofaaGreatDoorCloneB
import Derived.Test.YtpinnockcnmofaaGreatDoorPlainTop
import Derived.Defers
import Derived.Deep.LoopGhost
import Derived.BigRegion
import Derived.Deep.RegionHeld3
import Derived.Laws.EntriesVeiled
namespace Go.Proofs.YtpinnockcnmofaaGreatDoor
open Go.RowKit
set_option linter.unusedVariables false

theorem own_addr {w : World} {base : Nat} {e : TypeId} {size : Nat} {v : Value} {n : Nat} {xs : List Value} (h : w.ownsRow base e size v n xs) (hn : 0 < n) : ∃ b c, v = .slice (some ⟨b, 0, none⟩) n c ∧ b < w.heap.size ∧ Reads w w.heap.size size (some ⟨b, 0, none⟩) n xs := by
  obtain ⟨A', c', e', hr⟩ := own_reads h
  obtain ⟨hl, h | ⟨b, c, cs, rfl, hb, hh, _⟩⟩ := h
  · exact absurd h.2 (by omega)
  · cases e'
    exact ⟨b, _, rfl, (Array.getElem?_eq_some_iff.1 hh).1, hr⟩
theorem flat_getO {α : Type} (f : α → List Value) (s : Nat) (hf : ∀ x, (f x).length = s) (d : α) (l : List α) (k j : Nat) (hk : k < l.length) (hj : j < s) : (l.flatMap f)[k * s + j]? = (f (l.getD k d))[j]? := by
  induction l generalizing k with
  | nil => simp at hk
  | cons i l ih =>
    rw [List.flatMap_cons]
    cases k with
    | zero =>
      rw [List.getElem?_append_left (by rw [hf]; omega)]
      simp
    | succ k =>
      rw [List.getElem?_append_right (by rw [hf, Nat.succ_mul]; omega)]
      rw [show (k + 1) * s + j - (f i).length = k * s + j by rw [hf, Nat.succ_mul]; omega, ih k (by simpa using hk)]
      simp
/-- A looked-up instruction's seven cells. -/
theorem Reads.at7 {w : World} {B n : Nat} {A : Option Addr} {l : List I} (h : Reads w B 7 A n (cellsO l)) (hn : 0 < n) :
    ∃ b off, A = some ⟨b, off, none⟩ ∧ b < B ∧ ∀ k, k < n → (w.cell? ⟨b, off + k * 7, none⟩ = some (.int .u16 (l.getD k default).code) ∧ w.cell? ⟨b, off + k * 7 + 1, none⟩ = some (.int .u8 (l.getD k default).jt) ∧
      w.cell? ⟨b, off + k * 7 + 2, none⟩ = some (.int .u8 (l.getD k default).jf) ∧ w.cell? ⟨b, off + k * 7 + 3, none⟩ = some (.int .u32 (l.getD k default).k) ∧ w.cell? ⟨b, off + k * 7 + 4, none⟩ = some (.func (.func (fnN (kd (l.getD k default)))) #[] #[]) ∧
      w.cell? ⟨b, off + k * 7 + 5, none⟩ = some (.int .i64 (kd (l.getD k default) : Nat)) ∧ w.cell? ⟨b, off + k * 7 + 6, none⟩ = some (.bool (kx (l.getD k default)))) := by
  obtain ⟨ad, rfl, hb, hc⟩ := h.2 (by omega)
  have hn : n = l.length := by have := h.1; rw [cellsO_length] at this; omega
  have hg := fun k (hk : k < n) j (hj : j < 7) => flat_getO opV 7 (fun _ => rfl) default l k j (by omega) hj
  obtain ⟨b, off, spot⟩ := ad
  have h0 := hc (0 * 7 + 0) _ ((hg 0 (by omega) 0 (by omega)).trans rfl)
  have hsp : spot = none := by simpa [Addr.add] using World.cell?_spot h0
  subst hsp
  refine ⟨b, off, rfl, hb, fun k hk => ?_⟩
  have key : ∀ j u, j < 7 → (opV (l.getD k default))[j]? = some u → w.cell? ⟨b, off + k * 7 + j, none⟩ = some u := by
    intro j u hj hu
    have := hc (k * 7 + j) u ((hg k hk j hj).trans hu)
    rw [← this]
    unfold Addr.add
    by_cases h0 : k * 7 + j = 0
    · rw [if_pos h0, show off + k * 7 + j = off by omega]
    · rw [if_neg h0]; simp [Nat.add_assoc]
  exact ⟨key 0 _ (by omega) rfl, key 1 _ (by omega) rfl, key 2 _ (by omega) rfl, key 3 _ (by omega) rfl, key 4 _ (by omega) rfl, key 5 _ (by omega) rfl, key 6 _ (by omega) rfl⟩
theorem getN_lt4 {l : List Nat} (h : ∀ b ∈ l, b < 256) (k : Int) : getN l k 4 false < 4294967296 := by
  unfold getN
  split
  · have h1 := valBE_cons_lt (wordN l k.toNat (4 : Int).toNat false) (fun b hb => by
      unfold wordN at hb
      obtain ⟨j, _, rfl⟩ := List.mem_map.1 hb
      rw [List.getD_eq_getElem?_getD]
      cases e : l[placeN k.toNat (4 : Int).toNat false j]? with
      | none => decide
      | some v => exact h _ (List.mem_of_getElem? e))
    have h2 : (wordN l k.toNat (4 : Int).toNat false).length = 4 := by unfold wordN; simp
    rw [h2] at h1
    exact h1
  · decide
theorem results_two {P : Program} {fn : Func} {p q : Tmp} {ty tz : TypeId} (h : fn.results = #[.cell p ty, .cell q tz]) (tmps : Array Value) (w : World) (g g5 : Nat) (t : TypeId) (cs : Array Value) (fr : Nat × Nat) (d : TypeDesc)
    (hp : tmps.getD p undef = .pointer (some ⟨g, 0, none⟩)) (hq : tmps.getD q undef = .pointer (some ⟨g5, 0, none⟩)) (hg : w.heap[g]? = some (.cells cs t fr))
    (hu : P.underlying ty = some d) (hd : (match d with | .struct _ | .array _ _ => true | _ => false) = true) (hi : (P.info? ty).map (·.size) = some cs.size) (v : Value) (hv : (loadVar tz ⟨g5, 0, none⟩).run P w = .ok v w) :
    (results fn tmps).run P w = .ok (.tuple #[.agg cs, v]) w := by
  have hp' : tmps[p]?.getD undef = .pointer (some ⟨g, 0, none⟩) := by simpa using hp
  have hq' : tmps[q]?.getD undef = .pointer (some ⟨g5, 0, none⟩) := by simpa using hq
  simp [results, h, hp', hq', asAddr, run_loadVar_row w g t ty cs fr d hg hu hd hi, hv]
theorem load_errno (w : World) (g : Nat) (k : Int) (h : w.cell? ⟨g, 0, none⟩ = some (.int .i64 k)) : (loadVar 26 ⟨g, 0, none⟩).run Tryz.prog w = .ok (.int .i64 k) w := by
  have ha : (isAgg 26).run Tryz.prog w = .ok false w := by
    unfold isAgg
    rw [Sem.run_bind, run_underlying Tryz.underlying26 w]
    rfl
  simp [loadVar, Sem.run_bind, ha, go_sem, h]
/-- What a run of a formed program hands back. -/
def TellsRun (p : List I) (bs : List Nat) (w : World) (e : Ending) (w' : World) : Prop :=
  ∃ (ldA : Option Addr) (ldn ldc : Nat), e = .returned (.tuple #[.agg #[.int .u32 ((runV p (fun k => getN bs k 4 false) p.length v0).1 : Nat), .int .i64 ((runV p (fun k => getN bs k 4 false) p.length v0).2 : Nat), .slice ldA ldn ldc], .int .i64 0]) ∧ Below w.heap.size w w'

set_option maxRecDepth 100000 in
set_option maxHeartbeats 4000000 in
theorem run_any (p : List I) (hok : ∀ i ∈ p, i.Ok) (hf : FormedP p) (bs : List Nat) (hbs : ∀ b ∈ bs, b < 256) (gm : Nat) (A : Option Addr) (c : Nat) (B : Option Addr) (cb : Nat) (w : World)
    (hgm : w.cell? ⟨gm, 0, none⟩ = some (.slice A p.length c)) (hro : Reads w w.heap.size 7 A p.length (cellsO p)) (hrb : Reads w w.heap.size 1 B 64 (bytesV bs)) :
    Calls Tryz.prog 23 #[.pointer (some ⟨gm, 0, none⟩), .slice B 64 cb] w (TellsRun p bs w) := by
  have hmf : ∀ (fn : Fn) (first cap : Array Value) (w : World), (Instr.makeFunc fn first cap).run Tryz.prog w = .ok (.func fn first cap) w := fun _ _ _ _ => rfl
  have hgl := lt_of_cell hgm
  go_enter_defers Tryz.func23, Tryz.ntmps23
  go_wp2_with fail
  let W0 : World := (w.alloc (.cells #[.int .u32 0, .int .i64 0, .slice none 0 0] 39)).alloc (.cells #[.int .i64 0] 26)
  have h4 : RowK W0 w.heap.size 39 3 [.int .u32 0, .int .i64 0, .slice none 0 0] := (RowK.new w 39 #[.int .u32 0, .int .i64 0, .slice none 0 0] [.int .u32 0, .int .i64 0, .slice none 0 0] rfl).alloc _
  have h5 : RowK W0 (w.heap.size + 1) 26 1 [.int .i64 0] := by
    have := RowK.new (w.alloc (.cells #[.int .u32 0, .int .i64 0, .slice none 0 0] 39)) 26 #[.int .i64 0] [.int .i64 0] rfl
    simpa using this
  have hB0 : Below w.heap.size w W0 := ((Below.refl _ w).alloc (Nat.le_refl _) _).alloc (by simp) _
  have hs0 : W0.heap.size = w.heap.size + 2 := by simp [W0]
  have hr0 := (hrb.below hB0).more hB0.size
  refine (clone_any bs B 64 cb W0 hr0 (by omega)).mono ?_
  rintro e w1 ⟨v, rfl, hown1, hB1⟩
  rw [show bs.length = 64 by have := hrb.1; rw [bytesV_length] at this; omega] at hown1
  obtain ⟨gb, cc, rfl, hgb, hrb1⟩ := own_addr hown1 (by omega)
  have h41 := h4.below hB1 (by omega)
  have h51 := h5.below hB1 (by omega)
  have hB01 := hB0.trans (hB1.mono (by omega))
  have hs1 : w.heap.size + 2 ≤ w1.heap.size := by have := hB1.size; omega
  clear hB1 hown1 h4 h5 hr0 hrb hB0
  clear_value W0
  go_wp2_with fail
  let rc : Obj := .cells #[.slice (some ⟨gb, 0, none⟩) 64 cc, .int .i64 0, .int .u32 0, .int .u32 0, .int .u32 0, .int .u32 0, .int .u32 0, .int .u32 0, .int .u32 0, .int .u32 0, .int .u32 0, .int .u32 0, .int .u32 0, .int .u32 0, .int .u32 0, .int .u32 0, .int .u32 0, .int .u32 0, .int .u32 0, .int .u32 0, .int .u32 0, .int .i64 0, .slice none 0 0] 121
  let W2 : World := (w1.alloc rc).alloc (.cells #[.pointer (some ⟨w1.heap.size, 0, none⟩)] 115)
  have hs2 : W2.heap.size = w1.heap.size + 2 := by simp [W2]
  have hB2 : Below w1.heap.size w1 W2 := ((Below.refl _ w1).alloc (Nat.le_refl _) _).alloc (by simp) _
  have hr2 : RowK W2 w1.heap.size 121 23 (runC (.slice (some ⟨gb, 0, none⟩) 64 cc) v0 0 (.slice none 0 0)) := (RowK.new w1 121 _ _ rfl).alloc _
  have hp2 : W2.cell? ⟨w1.heap.size + 1, 0, none⟩ = some (.pointer (some ⟨w1.heap.size, 0, none⟩)) := by
    have this := (RowK.new (w1.alloc rc) 115 #[.pointer (some ⟨w1.heap.size, 0, none⟩)] [.pointer (some ⟨w1.heap.size, 0, none⟩)] rfl).cell (k := 0) rfl
    have e : (w1.alloc rc).heap.size = w1.heap.size + 1 := by simp
    rw [e] at this
    exact this
  have hown2 : W2.ownsRow (w1.heap.size + 2) 3 1 (.slice none 0 0) 0 [] := World.ownsRow_nil _ _ _ _
  have hm2 := (hB01.trans (hB2.mono (by omega))).cell (p := ⟨gm, 0, none⟩) hgl
  rw [hgm] at hm2
  have ho2 := ((hro.below hB01).below (hB2.mono (by omega))).more (B' := w.heap.size) (Nat.le_refl _)
  have h42 := h41.below hB2 (by omega)
  have h52 := h51.below hB2 (by omega)
  have hb2 := (hrb1.below hB2).more hB2.size
  have hB02 := hB01.trans (hB2.mono (by omega))
  have hW2 : (w1.alloc rc).alloc (.cells #[.pointer (some ⟨w1.heap.size, 0, none⟩)] 115) = W2 := rfl
  rw [hW2]
  clear_value W2
  clear hW2 hro hrb1 hgm h41 h51 hB2 hB01
  generalize hg : w1.heap.size = g at *
  clear rc
  have hpl : p.length ≤ 4096 := hf.le
  have hpp := hf.pos
  go_loopg [7] p.length (fun k o wr => ∃ (s : Vs) (st q : Nat) (ld : Value) (xs : List Value), s.Ok ∧ s.at_ < p.length ∧ k = p.length - s.at_ ∧ RowK wr g 121 23 (runC (.slice (some ⟨gb, 0, none⟩) 64 cc) s st ld) ∧ wr.ownsRow (g + 2) 3 1 ld q xs ∧ q ≤ st ∧ st + k ≤ p.length ∧
      (runV p (fun k => getN bs k 4 false) k s).1 = (runV p (fun k => getN bs k 4 false) p.length v0).1 ∧ st + (runV p (fun k => getN bs k 4 false) k s).2 = (runV p (fun k => getN bs k 4 false) p.length v0).2 ∧ ButW g W2 wr)
  case atStart => exact ⟨v0, 0, 0, _, _, v0_ok, hpp, rfl, hr2, hown2, Nat.le_refl _, by omega, rfl, by omega, .refl _ _⟩
  case round =>
    obtain ⟨s, st, q, ld, xs, hs, hat, rfl, hr, hown, hq, hst, hv1, hv2, hBW⟩ := hrel
    have hBl : Below w.heap.size W2 wr := hBW.below (by omega) (by omega)
    have hm := hBl.cell (p := ⟨gm, 0, none⟩) hgl
    rw [hm2] at hm
    have hp : wr.cell? ⟨g + 1, 0, none⟩ = some (.pointer (some ⟨g, 0, none⟩)) := by
      rw [← hp2]
      unfold World.cell?
      rw [hBW.block (g + 1) (by omega) (by omega) (by omega)]
    have hat1 := hr.cell (k := 1) rfl
    have f1 := hr.frozen 1
    have f21 := hr.frozen 21
    have hst1 := hr.cell (k := 21) (runC_steps hs.len)
    have hgr := hr.lt
    have hrs : g + 2 ≤ wr.heap.size := by have := hBW.size; omega
    have hgr1 : g + 1 < wr.heap.size := by omega
    have hgmr : gm < wr.heap.size := by omega
    obtain ⟨b, off, rfl, hb, hcs⟩ := (ho2.below hBl).at7 hpp
    have hbr : b < wr.heap.size := by omega
    obtain ⟨o0, o1, o2, o3, o4, o5, o6⟩ := hcs s.at_ hat
    have e0 := getD_ok hok hat
    have e1 := hf.kd0 hat
    have e2 := hf.load hat
    have e3 := hf.cell hat
    have e4 := hf.store hat
    have e5 := stepV_at hf hat (fun k => getN bs k 4 false)
    have e6 := fun v h => runV_stop (l := p) (W := fun k => getN bs k 4 false) (f := p.length - s.at_) (s := s) (v := v) (by omega) h
    have e7 := runV_goes hf (W := fun k => getN bs k 4 false) hat
    generalize hi : p.getD s.at_ default = i at *
    have hk28 := kd_le i
    have hcf : ∀ args W, (callFunc (fnN (kd i)) args).run Tryz.prog W = .ok (.enter (fnN (kd i)) args) W := fun a W => callFn (by omega) hk28 a W
    have E0 := Lib.hid e0
    have E1 := Lib.hid e1
    have E2 := Lib.hid e2
    have E3 := Lib.hid e3
    have E4 := Lib.hid e4
    have E5 := Lib.hid e5
    have E6 := Lib.hid e6
    have E7 := Lib.hid e7
    have E8 := Lib.hid hk28
    have HV1 := Lib.hid hv1
    have HV2 := Lib.hid hv2
    have HR := Lib.hid hr
    have HOWN := Lib.hid hown
    have HBW := Lib.hid hBW
    have HCS := Lib.hid hcs
    have HS := Lib.hid hs
    have HOK := Lib.hid hok
    have HF := Lib.hid hf
    have HBS := Lib.hid hbs
    have H42 := Lib.hid h42
    have H52 := Lib.hid h52
    have HO2 := Lib.hid ho2
    have HB2 := Lib.hid hb2
    have HB02 := Lib.hid hB02
    have HBL := Lib.hid hBl
    have HP2 := Lib.hid hp2
    have HM2 := Lib.hid hm2
    clear e0 e1 e2 e3 e4 e5 e6 e7 hk28 hv1 hv2 hr hown hBW hcs hok hf hbs h42 h52 ho2 hb2 hB02 hBl hp2 hm2 hr2 hown2 hs hi
    go_wp2_with fail
    go_region
    go_wp2_with fail
    have BG : ButG g wr _ := ((((ButG.refl g wr).setCell (p := ⟨g, 1, none⟩) rfl (.int .i64 (s.at_ + 1 : Nat))).setCell (p := ⟨g, 21, none⟩) rfl (.int .i64 (st + 1 : Nat))).alloc (.cells #[.int .u16 i.code, .int .u8 i.jt, .int .u8 i.jf, .int .u32 i.k, .func (.func (fnN (kd i))) #[] #[], .int .i64 (kd i : Nat), .bool (kx i)] 117)).drew
    have hr1 := (((HR.out.set_ 1 (.int .i64 (s.at_ + 1 : Nat))).set_ 21 (.int .i64 (st + 1 : Nat))).alloc (.cells #[.int .u16 i.code, .int .u8 i.jt, .int .u8 i.jf, .int .u32 i.k, .func (.func (fnN (kd i))) #[] #[], .int .i64 (kd i : Nat), .bool (kx i)] 117)).drew
    rw [show (runC (.slice (some ⟨gb, 0, none⟩) 64 cc) s st ld).set 1 (.int .i64 (s.at_ + 1 : Nat)) = runC (.slice (some ⟨gb, 0, none⟩) 64 cc) { s with at_ := s.at_ + 1 } st ld from rfl, runC_setSteps (s := { s with at_ := s.at_ + 1 }) HS.out.len] at hr1
    refine (does_any i E0.out (by have := E1.out; omega) E8.out E2.out (fun h => by
      rcases h with h | h | h | h
      · exact E3.out (.inl h)
      · exact E3.out (.inr h)
      · exact E4.out (.inl h)
      · exact E4.out (.inr h)) g bs HBS.out gb 0 cc hgb { s with at_ := s.at_ + 1 } ⟨HS.out.a, HS.out.x, HS.out.len, HS.out.cell⟩ (by show s.at_ + 1 ≤ _; omega) (st + 1) ld q xs (by omega) _ hr1 (reads_but BG (by omega) (reads_butW HBW.out hgb HB2.out)) (own_but HOWN.out BG (by omega)) (fun k => getN_lt4 HBS.out k)).mono ?_
    have HB5 := Lib.hid ((HBW.out).trans (.of_but BG))
    clear hr1 BG
    rintro e w5 (⟨v, ld', q', xs', hstop, rfl, hr5, hq5, hown5, hB5⟩ | ⟨ld', q', xs', hstop, rfl, hr5, hq5, hown5, hB5⟩)
    · unfold overV
      go_wp2_with fail
      have HT := (HB5.out).trans hB5
      obtain ⟨lA, lC, rfl, _⟩ := own_reads hown5
      have hp5 : w5.cell? ⟨g + 1, 0, none⟩ = some (.pointer (some ⟨g, 0, none⟩)) := by
        rw [← HP2.out]
        unfold World.cell?
        rw [HT.block (g + 1) (by omega) (by omega) (by omega)]
      have h45 := (H42.out).of_heap (HT.block w.heap.size (by omega) (by omega) (by omega))
      have h55 := (H52.out).of_heap (HT.block (w.heap.size + 1) (by omega) (by omega) (by omega))
      have hfin := E6.out v hstop
      refine leaves_cons (f := 46) (args := #[.pointer (some ⟨g + 1, 0, none⟩), .pointer (some ⟨w.heap.size, 0, none⟩), .pointer (some ⟨w.heap.size + 1, 0, none⟩)]) (by simp) (by simp [go_sem]) ?_
      refine (catch_any v g w.heap.size (w.heap.size + 1) _ { s with at_ := s.at_ + 1 } ⟨HS.out.a, HS.out.x, HS.out.len, HS.out.cell⟩ (st + 1) lA q' lC w5 hr5 hp5 h45 h55 (by omega) (by omega) (by omega)).mono ?_
      rintro e u' w6 ⟨rfl, rfl, r4, r5, rb⟩
      have c5 := r5.cell (k := 0) rfl
      obtain ⟨cur, hcur, hsz, htk⟩ := r4
      have hcs3 : cur = #[.int .u32 v, .int .i64 (st + 1 : Nat), .slice lA q' lC] := by
        apply Array.toList_inj.1
        rw [← htk, List.take_of_length_le (by simp [hsz])]
      subst hcs3
      have hv1 := HV1.out
      have hv2 := HV2.out
      rw [hfin] at hv1 hv2
      refine ⟨_, results_two (p := 4) (q := 5) (ty := 39) (tz := 26) rfl _ _ w.heap.size (w.heap.size + 1) _ _ _ _ rfl rfl hcur Tryz.underlying39 rfl (by kernel_rfl) _ (load_errno _ _ _ c5), lA, q', lC, ?_, (HB02.out).trans ((HT.below (by omega) (by omega)).trans (rb w.heap.size (Nat.le_refl _) (by omega)))⟩
      rw [← hv1, ← hv2]
    · go_wp2_with fail
      have HT := (HB5.out).trans hB5
      have hst2 := E5.out hstop
      have hgo := E7.out hstop
      have hv1 := HV1.out
      have hv2 := HV2.out
      rw [hgo] at hv1 hv2
      have hsok := stepV_ok (W := fun k => getN bs k 4 false) (i := i) (s := { s with at_ := s.at_ + 1 }) ⟨HS.out.a, HS.out.x, HS.out.len, HS.out.cell⟩ E0.out (fun k => getN_lt4 HBS.out k)
      go_roundg (p.length - (stepV (fun k => getN bs k 4 false) i { s with at_ := s.at_ + 1 }).at_)
      case measure => omega
      case rel => exact ⟨_, st + 1, q', ld', xs', hsok, hst2.2, rfl, hr5, hown5, by omega, by omega, hv1, by rw [← hv2]; show _ = st + (_ + 1); omega, HT⟩
end Go.Proofs.YtpinnockcnmofaaGreatDoor
