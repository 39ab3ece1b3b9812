/-
  The walks of vm.deeds and vm.New.
-/
import Derived.Test.YtpinnockcnmofaaGreatDoorWalkVm4
import Derived.Test.YtpinnockcnmofaaGreatDoorMapRow
import Derived.Test.YtpinnockcnmofaaGreatDoorWalkCheck
namespace Go.Proofs.YtpinnockcnmofaaGreatDoor
open Go.RowKit
set_option linter.unusedVariables false

/-- The number of the function that does a kind's deed. -/
def deedF : List Nat := [68, 69, 70, 71, 72, 73, 74, 75, 76, 77, 78, 79, 80, 81, 82]
def fnN (d : Nat) : Nat := if 25 ≤ d then 43 else if 16 ≤ d then 44 else deedF.getD (d - 1) 0
def deedV (f : Nat) : Value := .func (.func f) #[] #[]
def deedsL : List (Int × Value) := [(1, deedV 68), (2, deedV 69), (3, deedV 70), (4, deedV 71), (5, deedV 72), (6, deedV 73), (7, deedV 74), (8, deedV 75), (9, deedV 76), (10, deedV 77), (11, deedV 78), (12, deedV 79), (13, deedV 80), (14, deedV 81), (15, deedV 82)]

theorem wpList_insertX {P : Program} {ops : Array Oper} {rest : List Oper} {o : Oper} {a : Act} {Q : Exit → Act → World → Prop} (hgd : o.guard = none) (t : TypeId) (m x : Operand) (q : IntKind) (k : Int) (v : Value)
    (ho : o.op = .insert t m (.const (.int q k)) x) (kt et : TypeId) (ht : P.underlying t = some (.map kt et)) (hk : P.underlying kt = some (.int q)) (w : World) (l : List (Int × Value))
    (hx : a.eval x = v) (hw : (Lit.int q k).wf = true) (hm : a.eval m = .map (some w.heap.size)) (hn : IntMaps.look l k = none)
    (h : wpList P ops Q rest (a.put o.dst undef) (w.alloc (.map (IntMaps.lit q (l ++ [(k, v)])) (l ++ [(k, v)]).length))) :
    wpList P ops Q (o :: rest) a (w.alloc (.map (IntMaps.lit q l) l.length)) := by
  refine wpList_plain hgd fun K hK => ?_
  have hr := IntMaps.run_insert (P := P) t kt et q ht hk w l k v hw hn
  have hc : a.eval (.const (.int q k)) = .int q k := rfl
  unfold Oper.wp execOp
  simp only [ho, hm, hx, hc, Sem.run_bind, hr, Result.andThen]
  exact hK _ _ h

set_option maxRecDepth 100000 in
theorem deeds_any (w : World) : Calls Tryz.prog 42 #[] w fun e w' => e = .returned (.map (some w.heap.size)) ∧ w' = w.alloc (.map (IntMaps.lit .i64 deedsL) deedsL.length) := by
  go_enter Tryz.func42, Tryz.ntmps42
  go_wp2_with (first | refine IntMaps.wpList_make rfl 111 rfl .i64 w ?_ | refine wpList_insertX rfl 111 (.tmp 1) _ .i64 _ _ rfl _ _ Tryz.underlying111 Tryz.underlying71 w _ rfl rfl rfl rfl ?_)
  go_ret
  exact ⟨rfl, rfl⟩

/-- An instruction, looked up, as cells. -/
def opV (i : I) : List Value := [.int .u16 i.code, .int .u8 i.jt, .int .u8 i.jf, .int .u32 i.k, deedV (fnN (kd i)), .int .i64 (kd i : Nat), .bool (kx i)]
def cellsO (l : List I) : List Value := l.flatMap opV
theorem cellsO_append (a b : List I) : cellsO (a ++ b) = cellsO a ++ cellsO b := by unfold cellsO; rw [List.flatMap_append]
theorem cellsO_length (l : List I) : (cellsO l).length = l.length * 7 := by
  induction l with
  | nil => rfl
  | cons i l ih => unfold cellsO at ih ⊢; rw [List.flatMap_cons, List.length_append, ih, List.length_cons]; show 7 + _ = _; omega
theorem info_op : (Tryz.prog.info? 117).map (fun i => (i.zero, i.size, i.bytes)) = some (some (.agg #[.int .u16 0, .int .u8 0, .int .u8 0, .int .u32 0, .nilFunc, .int .i64 0, .bool false]), 7, 32) := by kernel_rfl
theorem opV_take (l : List I) (k : Nat) (hk : k < l.length) : cellsO (l.take (k + 1)) = cellsO (l.take k) ++ opV (l.getD k default) := by
  rw [take_snocI l k hk, cellsO_append]; simp [cellsO]
theorem look_deeds (d : Nat) (h1 : 1 ≤ d) (h2 : d ≤ 15) : IntMaps.look deedsL (d : Int) = some (deedV (fnN d)) := by
  match d, h1, h2 with
  | 1, _, _ => rfl
  | 2, _, _ => rfl
  | 3, _, _ => rfl
  | 4, _, _ => rfl
  | 5, _, _ => rfl
  | 6, _, _ => rfl
  | 7, _, _ => rfl
  | 8, _, _ => rfl
  | 9, _, _ => rfl
  | 10, _, _ => rfl
  | 11, _, _ => rfl
  | 12, _, _ => rfl
  | 13, _, _ => rfl
  | 14, _, _ => rfl
  | 15, _, _ => rfl
theorem look_none (d : Nat) (h1 : 16 ≤ d) (h2 : d ≤ 28) : IntMaps.look deedsL (d : Int) = none := by
  have h3 : d = 16 ∨ d = 17 ∨ d = 18 ∨ d = 19 ∨ d = 20 ∨ d = 21 ∨ d = 22 ∨ d = 23 ∨ d = 24 ∨ d = 25 ∨ d = 26 ∨ d = 27 ∨ d = 28 := by omega
  rcases h3 with rfl | rfl | rfl | rfl | rfl | rfl | rfl | rfl | rfl | rfl | rfl | rfl | rfl <;> rfl
theorem zeroDeed (w : World) : (zeroValue 113).run Tryz.prog w = .ok .nilFunc w := by kernel_rfl

def TellsNew (p : List I) (w : World) (e : Ending) (w' : World) : Prop :=
  (∃ (gm : Nat) (A : Option Addr) (c : Nat), (checkN p).2 = 0 ∧ e = .returned (.tuple #[.pointer (some ⟨gm, 0, none⟩), .int .i64 0]) ∧ w.heap.size ≤ gm ∧ gm < w'.heap.size ∧ w'.cell? ⟨gm, 0, none⟩ = some (.slice A p.length c) ∧ Reads w' w'.heap.size 7 A p.length (cellsO p) ∧ Below w.heap.size w w') ∨
  ((checkN p).2 ≠ 0 ∧ e = .returned (.tuple #[.pointer none, .int .i64 ((checkN p).2 : Nat)]) ∧ Below w.heap.size w w')

set_option maxRecDepth 100000 in
set_option maxHeartbeats 4000000 in
theorem new_any (p : List I) (hok : ∀ i ∈ p, i.Ok) (A : Option Addr) (n c : Nat) (w : World) (hr : Reads w w.heap.size 4 A n (cellsI p)) (hn : n ≤ 100000) :
    Calls Tryz.prog 22 #[.slice A n c] w (TellsNew p w) := by
  obtain ⟨i0, hi0, hz0, hz1, hz2⟩ := info_parts info_op
  have hl : n = p.length := by have := hr.1; rw [cellsI_length] at this; omega
  have HL := Lib.hid hl
  clear hl
  go_enter Tryz.func22, Tryz.ntmps22
  go_wp2_with fail
  refine (check_any p hok A n c w hr (by omega)).mono ?_
  rintro e w1 ⟨rfl, hB1⟩
  by_cases hc : (checkN p).2 = 0
  · have HC := Lib.hid hc
    rw [hc]
    clear hc
    have hr1 := (hr.below hB1).more hB1.size
    go_wp2_with fail
    refine (deeds_any _).mono ?_
    rintro e w2 ⟨rfl, rfl⟩
    have hs1 : (w1.alloc (.cells #[.slice none 0 0] 110)).heap.size = w1.heap.size + 1 := by simp
    have hm0 : ((w1.alloc (.cells #[.slice none 0 0] 110)).alloc (.map (IntMaps.lit .i64 deedsL) deedsL.length)).heap[w1.heap.size + 1]? = some (.map (IntMaps.lit .i64 deedsL) deedsL.length) := by
      have := heap_alloc_new (w1.alloc (.cells #[.slice none 0 0] 110)) (.map (IntMaps.lit .i64 deedsL) deedsL.length)
      rwa [hs1] at this
    have hrow0 := (RowK.new w1 110 #[.slice none 0 0] [.slice none 0 0] rfl).alloc (.map (IntMaps.lit .i64 deedsL) deedsL.length)
    have hB2 := (hB1.alloc hB1.size (.cells #[.slice none 0 0] 110)).alloc (by rw [hs1]; have := hB1.size; omega) (.map (IntMaps.lit .i64 deedsL) deedsL.length)
    have hs2 : ((w1.alloc (.cells #[.slice none 0 0] 110)).alloc (.map (IntMaps.lit .i64 deedsL) deedsL.length)).heap.size = w1.heap.size + 2 := by simp
    generalize (w1.alloc (.cells #[.slice none 0 0] 110)).alloc (.map (IntMaps.lit .i64 deedsL) deedsL.length) = w2 at *
    go_wp2_with fail
    have hsz1 := hB1.size
    go_loopw [27] (fun i wr => ∃ (k : Nat) (v : Value), k ≤ n ∧ i = .int .i64 k ∧ RowK wr w1.heap.size 110 1 [v] ∧ wr.ownsRow (w1.heap.size + 2) 117 7 v k (cellsO (p.take k)) ∧ MapRow wr (w1.heap.size + 1) deedsL ∧ Below w.heap.size w wr) (fun i _ => n - (intOf i).toNat)
    case atStart => exact ⟨0, .slice none 0 0, by omega, rfl, hrow0, World.ownsRow_nil _ _ _ _, hm0, hB2⟩
    case round =>
      obtain ⟨k, v, hk, rfl, hrow, hown, hmap, hB⟩ := hrel
      have z0 : (0 : Int) ≤ (k : Int) := by omega
      by_cases hlt : k < n
      · have hkl : k < p.length := by have := HL.out; omega
        obtain ⟨b2, off2, rfl, hb2, c0, c1, c2, c3⟩ := (hr.below hB).at4 hlt
        have hok' := getD_ok hok hkl
        have hform := formed_of (l := p) (by
          have h := HC.out
          unfold checkN at h
          by_cases hf : (formedN p).2 = 0
          · exact hf
          · rw [if_pos hf] at h; exact h)
        have hkd0 := hform.kd0 hkl
        have hkd28 := kd_le (p.getD k default)
        have htake := opV_take p k hkl
        have hopv : opV (p.getD k default) = [.int .u16 (p.getD k default).code, .int .u8 (p.getD k default).jt, .int .u8 (p.getD k default).jf, .int .u32 (p.getD k default).k, deedV (fnN (kd (p.getD k default))), .int .i64 (kd (p.getD k default) : Nat), .bool (kx (p.getD k default))] := rfl
        rw [hopv] at htake
        have hof : ∀ W, Calls Tryz.prog 21 #[.int .u16 (p.getD k default).code] W fun e w' => e = .returned (.tuple #[.int .i64 (kd (p.getD k default) : Nat), .bool (kx (p.getD k default)), .bool (kd (p.getD k default) != 0)]) ∧ Below W.heap.size W w' := fun W => of_any _ hok'.1 W
        clear hform hopv
        generalize kd (p.getD k default) = d at *
        generalize kx (p.getD k default) = x at *
        generalize p.getD k default = i at *
        obtain ⟨xc, xt, xf, xk⟩ := i
        simp only at c0 c1 c2 c3 hof htake
        have HOF := Lib.hid hof
        have TAKE := Lib.hid htake
        have HROW := Lib.hid hrow
        have HOWN := Lib.hid hown
        have HMAP := Lib.hid hmap
        have HB := Lib.hid hB
        have z1 : (k : Int) < (n : Int) := by omega
        have hszr : w1.heap.size + 1 < wr.heap.size := hmap.lt
        clear hof htake hrow hown hmap hB hrow0 hm0 hB2 hB1 hr1 hs1 hs2
        go_wp2_with fail
        refine (HOF.out _).mono ?_
        rintro e w3 ⟨rfl, hB3⟩
        have hri := (RowK.new wr 47 #[.int .u16 xc, .int .u8 xt, .int .u8 xf, .int .u32 xk] [.int .u16 xc, .int .u8 xt, .int .u8 xf, .int .u32 xk] rfl).below hB3 (by simp)
        have row3 := (HROW.out.alloc (.cells #[.int .u16 xc, .int .u8 xt, .int .u8 xf, .int .u32 xk] 47)).below hB3 (by simp; omega)
        have map3 := (HMAP.out.alloc (.cells #[.int .u16 xc, .int .u8 xt, .int .u8 xf, .int .u32 xk] 47)).below hB3 (by simp; omega)
        have own3 := own_belowV (HOWN.out.alloc (.cells #[.int .u16 xc, .int .u8 xt, .int .u8 xf, .int .u32 xk] 47)) hB3
        have hb3 := (HB.out.alloc HB.out.size (.cells #[.int .u16 xc, .int .u8 xt, .int .u8 xf, .int .u32 xk] 47)).trans (hB3.mono (by simp; have := HB.out.size; omega))
        have hsz3 : wr.heap.size < w3.heap.size := by have := hB3.size; simp at this; omega
        have ag : v.ownBlock ≠ some w1.heap.size := fun e => by have := (own3.lt _ e).1; omega
        have agm : v.ownBlock ≠ some (w1.heap.size + 1) := fun e => by have := (own3.lt _ e).1; omega
        have hc0 := fun (o : Obj) (w4 : World) (hgrow : ((w3.alloc o).drew).grownBy w4 v.ownBlock) => (show w4.cell? ⟨w1.heap.size, 0, none⟩ = some v ∧ w4.frozen? ⟨w1.heap.size, 0, none⟩ = false from
          ⟨(hgrow.cell_far ⟨w1.heap.size, 0, none⟩ (by simp; omega) (Ne.symm ag)).trans ((row3.alloc o).cell (k := 0) rfl), (hgrow.frozen_far ⟨w1.heap.size, 0, none⟩ (by simp; omega) (Ne.symm ag)).trans ((row3.alloc o).frozen 0)⟩)
        have hnew7 := fun (o : Obj) => heap_alloc_new w3 o
        have hwfd : (Lit.int .i64 (d : Int)).wf = true := by go_wf
        have hlkY := fun (h1 : d ≤ 15) => run_lookup_row map3 111 _ _ Tryz.underlying111 Tryz.underlying71 (d : Int) .nilFunc hwfd (zeroDeed w3)
        have d0 := hri.cell (k := 0) rfl
        have d1 := hri.cell (k := 1) rfl
        have d2 := hri.cell (k := 2) rfl
        have d3 := hri.cell (k := 3) rfl
        have m0 := row3.cell (k := 0) rfl
        have hm3 : w1.heap.size < w3.heap.size := row3.lt
        have C0 := Lib.hid hc0
        have NEW7 := Lib.hid hnew7
        have ROW3 := Lib.hid row3
        have MAP3 := Lib.hid map3
        have OWN3 := Lib.hid own3
        have HB3 := Lib.hid hb3
        have AG := Lib.hid ag
        have AGM := Lib.hid agm
        have LK := Lib.hid hlkY
        clear hri row3 map3 own3 hb3 hB3 ag agm hc0 hnew7 HOF HROW HOWN HMAP HB c0 c1 c2 c3 hwfd hlkY
        by_cases h25 : 25 ≤ d
        · have g25 : (25 : Int) ≤ (d : Int) := by omega
          have hfv : deedV (fnN d) = .func (.func 43) #[] #[] := by unfold fnN; rw [if_pos h25]; rfl
          have hlk := run_lookup_row MAP3.out 111 _ _ Tryz.underlying111 Tryz.underlying71 (d : Int) .nilFunc (by go_wf) (zeroDeed w3)
          rw [look_none d (by omega) (by omega)] at hlk
          simp only [Option.getD_none] at hlk
          have htk := TAKE.out
          rw [hfv] at htk
          have TK := Lib.hid htk
          clear htk hfv
          go_wp2_with fail
          go_region_law ((refine step_append_lies _ (by rfl) _ _ _ (by rfl) (w1.heap.size + 2) 117 i0 _ 7 32 Tryz.underlying108 hi0 hz0 hz1 hz2 rfl (by omega) v k (cellsO (p.take k)) (by rfl) ((OWN3.out.alloc _).drew) ⟨w3.heap.size, 0, none⟩ 1 1 [.int .u16 xc, .int .u8 xt, .int .u8 xf, .int .u32 xk, .func (.func 43) #[] #[], .int .i64 (d : Nat), .bool x] (by rfl) (by rfl) (World.news_of_block (cs := #[.int .u16 xc, .int .u8 xt, .int .u8 xf, .int .u32 xk, .func (.func 43) #[] #[], .int .i64 (d : Nat), .bool x]) (t := 117) (fr := (0, 0)) (NEW7.out _)) (by simp [Value.oneCell']) (by omega) (by simp only [maxLen]; omega) (by omega) (by simp; omega) (w3.heap.size + 1) (by simp) ?_; intro gg cap w4 hown4 hgrow hat hlt4; obtain ⟨c0', f0'⟩ := C0.out _ _ hgrow))
          all_goals
            go_wp2_with fail
            go_roundw
            case rel =>
              refine ⟨k + 1, .slice (some ⟨gg, 0, none⟩) (k + 1) cap, by omega, by go_num, ?_, ?_, ?_, ?_⟩
              · exact ((ROW3.out.alloc _).drew.grown hgrow (Ne.symm AG.out)).set_ 0 _
              · rw [TK.out]
                exact own_setV hown4 (p := ⟨w1.heap.size, 0, none⟩) (by show w1.heap.size < w1.heap.size + 2; omega) _
              · exact (((MAP3.out.alloc _).drew.grown hgrow (Ne.symm AGM.out))).setCell (p := ⟨w1.heap.size, 0, none⟩) (by show w1.heap.size + 1 ≠ w1.heap.size; omega) _
              · exact ((((HB3.out.alloc HB3.out.size _).drew).grown hgrow (by simp; have := HB3.out.size; omega) (fun q e => by have := (OWN3.out.lt q e).1; omega)).setCell (p := ⟨w1.heap.size, 0, none⟩) (by show w.heap.size ≤ w1.heap.size; omega) _)
            case measure => simp [intOf] <;> omega
        · have g25 : ¬ (25 : Int) ≤ (d : Int) := by omega
          by_cases h16 : 16 ≤ d
          · have g16 : (16 : Int) ≤ (d : Int) := by omega
            have hfv : deedV (fnN d) = .func (.func 44) #[] #[] := by unfold fnN; rw [if_neg h25, if_pos h16]; rfl
            have hlk := run_lookup_row MAP3.out 111 _ _ Tryz.underlying111 Tryz.underlying71 (d : Int) .nilFunc (by go_wf) (zeroDeed w3)
            rw [look_none d (by omega) (by omega)] at hlk
            simp only [Option.getD_none] at hlk
            have htk := TAKE.out
            rw [hfv] at htk
            have TK := Lib.hid htk
            clear htk hfv
            go_wp2_with fail
            go_region_law ((refine step_append_lies _ (by rfl) _ _ _ (by rfl) (w1.heap.size + 2) 117 i0 _ 7 32 Tryz.underlying108 hi0 hz0 hz1 hz2 rfl (by omega) v k (cellsO (p.take k)) (by rfl) ((OWN3.out.alloc _).drew) ⟨w3.heap.size, 0, none⟩ 1 1 [.int .u16 xc, .int .u8 xt, .int .u8 xf, .int .u32 xk, .func (.func 44) #[] #[], .int .i64 (d : Nat), .bool x] (by rfl) (by rfl) (World.news_of_block (cs := #[.int .u16 xc, .int .u8 xt, .int .u8 xf, .int .u32 xk, .func (.func 44) #[] #[], .int .i64 (d : Nat), .bool x]) (t := 117) (fr := (0, 0)) (NEW7.out _)) (by simp [Value.oneCell']) (by omega) (by simp only [maxLen]; omega) (by omega) (by simp; omega) (w3.heap.size + 1) (by simp) ?_; intro gg cap w4 hown4 hgrow hat hlt4; obtain ⟨c0', f0'⟩ := C0.out _ _ hgrow))
            all_goals
              go_wp2_with fail
              go_roundw
              case rel =>
                refine ⟨k + 1, .slice (some ⟨gg, 0, none⟩) (k + 1) cap, by omega, by go_num, ?_, ?_, ?_, ?_⟩
                · exact ((ROW3.out.alloc _).drew.grown hgrow (Ne.symm AG.out)).set_ 0 _
                · rw [TK.out]
                  exact own_setV hown4 (p := ⟨w1.heap.size, 0, none⟩) (by show w1.heap.size < w1.heap.size + 2; omega) _
                · exact (((MAP3.out.alloc _).drew.grown hgrow (Ne.symm AGM.out))).setCell (p := ⟨w1.heap.size, 0, none⟩) (by show w1.heap.size + 1 ≠ w1.heap.size; omega) _
                · exact ((((HB3.out.alloc HB3.out.size _).drew).grown hgrow (by simp; have := HB3.out.size; omega) (fun q e => by have := (OWN3.out.lt q e).1; omega)).setCell (p := ⟨w1.heap.size, 0, none⟩) (by show w.heap.size ≤ w1.heap.size; omega) _)
              case measure => simp [intOf] <;> omega
          · have g16 : ¬ (16 : Int) ≤ (d : Int) := by omega
            have hfv : deedV (fnN d) = .func (.func (fnN d)) #[] #[] := rfl
            have hlk := run_lookup_row MAP3.out 111 _ _ Tryz.underlying111 Tryz.underlying71 (d : Int) .nilFunc (by go_wf) (zeroDeed w3)
            rw [look_deeds d (by omega) (by omega)] at hlk
            simp only [Option.getD_some, hfv] at hlk
            have htk := TAKE.out
            rw [hfv] at htk
            generalize fnN d = ff at *
            have TK := Lib.hid htk
            clear htk hfv
            go_wp2_with fail
            go_region_law ((refine step_append_lies _ (by rfl) _ _ _ (by rfl) (w1.heap.size + 2) 117 i0 _ 7 32 Tryz.underlying108 hi0 hz0 hz1 hz2 rfl (by omega) v k (cellsO (p.take k)) (by rfl) ((OWN3.out.alloc _).drew) ⟨w3.heap.size, 0, none⟩ 1 1 [.int .u16 xc, .int .u8 xt, .int .u8 xf, .int .u32 xk, .func (.func ff) #[] #[], .int .i64 (d : Nat), .bool x] (by rfl) (by rfl) (World.news_of_block (cs := #[.int .u16 xc, .int .u8 xt, .int .u8 xf, .int .u32 xk, .func (.func ff) #[] #[], .int .i64 (d : Nat), .bool x]) (t := 117) (fr := (0, 0)) (NEW7.out _)) (by simp [Value.oneCell']) (by omega) (by simp only [maxLen]; omega) (by omega) (by simp; omega) (w3.heap.size + 1) (by simp) ?_; intro gg cap w4 hown4 hgrow hat hlt4; obtain ⟨c0', f0'⟩ := C0.out _ _ hgrow))
            all_goals
              go_wp2_with fail
              go_roundw
              case rel =>
                refine ⟨k + 1, .slice (some ⟨gg, 0, none⟩) (k + 1) cap, by omega, by go_num, ?_, ?_, ?_, ?_⟩
                · exact ((ROW3.out.alloc _).drew.grown hgrow (Ne.symm AG.out)).set_ 0 _
                · rw [TK.out]
                  exact own_setV hown4 (p := ⟨w1.heap.size, 0, none⟩) (by show w1.heap.size < w1.heap.size + 2; omega) _
                · exact (((MAP3.out.alloc _).drew.grown hgrow (Ne.symm AGM.out))).setCell (p := ⟨w1.heap.size, 0, none⟩) (by show w1.heap.size + 1 ≠ w1.heap.size; omega) _
                · exact ((((HB3.out.alloc HB3.out.size _).drew).grown hgrow (by simp; have := HB3.out.size; omega) (fun q e => by have := (OWN3.out.lt q e).1; omega)).setCell (p := ⟨w1.heap.size, 0, none⟩) (by show w.heap.size ≤ w1.heap.size; omega) _)
              case measure => simp [intOf] <;> omega
      · obtain rfl : n = k := by omega
        have z1 : ¬ (n : Int) < (n : Int) := by omega
        have hfin : p.take n = p := List.take_of_length_le (by have := HL.out; omega)
        rw [hfin] at hown
        obtain ⟨A2, c2, rfl, hr2⟩ := own_reads hown
        have c0 := hrow.cell (k := 0) rfl
        have hlt2 := hrow.lt
        rw [HL.out] at hr2 c0
        have HR2 := Lib.hid hr2
        have C0 := Lib.hid c0
        clear hr2 c0 hown hrow hmap hfin hr hr1 hrow0 hm0 hB2
        go_wp2_with fail
        go_ret2
        exact .inl ⟨w1.heap.size, A2, c2, HC.out, rfl, hsz1, hlt2, C0.out, HR2.out, hB⟩
  · have HC := Lib.hid hc
    have z : ((((checkN p).2 : Nat) : Int) != 0) = true := by simp; omega
    clear hc
    go_wp2_with fail
    go_ret2
    exact .inr ⟨HC.out, rfl, hB1⟩
end Go.Proofs.YtpinnockcnmofaaGreatDoor
