/-
  The walk of asm.Assemble: the program of items.
-/
import Derived.Test.YtgalkidhgjgbhaaWalkLaid
import Derived.Test.YtgalkidhgjgbhaaAsmOk2
import Derived.Test.YtgalkidhgjgbhaaWalkCheck
import Derived.Test.YtgalkidhgjgbhaaKinds3
import Derived.Test.YtgalkidhgjgbhaaWalkAll
namespace Go.Proofs.Ytgalkidhgjgbhaa
open Go.RowKit
set_option linter.unusedVariables false

/-- The program, and an error's number. -/
def asmR (l : List It) (F : Nat → Bool) : List I × Nat := if 4096 < plN l F (ins l).length then ([], 3) else if (checkN (asmN l F)).2 ≠ 0 then ([], (checkN (asmN l F)).2) else (asmN l F, 0)
def TellsAsm (l : List It) (w : World) (e : Ending) (w' : World) : Prop :=
  ∃ (F : Nat → Bool) (v : Value), Laid l F ∧ e = .returned (.tuple #[v, .int .i64 ((asmR l F).2 : Nat)]) ∧ w'.ownsRow w.heap.size 37 4 v (asmR l F).1.length (cellsI (asmR l F).1) ∧ Below w.heap.size w w'
theorem new_cell (W : World) (cs : Array Value) (t : TypeId) (o : Obj) (j : Nat) (v : Value) (h : cs[j]? = some v) : ((W.alloc (.cells cs t)).alloc o).cell? ⟨W.heap.size, j, none⟩ = some v := by
  rw [World.cell?_alloc_lt _ _ ⟨W.heap.size, j, none⟩ (by simp), World.cell?_alloc_at _ _ _ _ rfl]; exact h
theorem old_cell2 {W : World} {p : Addr} {v : Value} (h : W.cell? p = some v) (o1 o2 : Obj) : ((W.alloc o1).alloc o2).cell? p = some v := by
  have hl := block_lt_of_cell h
  rw [World.cell?_alloc_lt _ _ p (by simp; omega), World.cell?_alloc_lt _ _ p hl]; exact h
theorem new_blk2 (W : World) (o1 : Obj) (cs : Array Value) (t : TypeId) : ((W.alloc o1).alloc (.cells cs t)).drew.heap[W.heap.size + 1]? = some (.cells cs t (0, 0)) := by show ((W.heap.push o1).push (.cells cs t))[W.heap.size + 1]? = _; rw [show W.heap.size + 1 = (W.heap.push o1).size by simp, Array.getElem?_push_size]
theorem lt_two {W : World} {g : Nat} (h : g < W.heap.size) (o1 o2 : Obj) : g < ((W.alloc o1).alloc o2).drew.heap.size := by show g < ((W.alloc o1).alloc o2).heap.size; simp <;> omega
theorem range_two {W : World} {g o : Nat} {cs : List Value} (h : W.rangeAt g o cs) (o1 o2 : Obj) : ((W.alloc o1).alloc o2).drew.rangeAt g o cs := fun j v hv => old_cell2 (h j v hv) o1 o2
theorem ownB {w : World} {B B' : Nat} {e : TypeId} {size n : Nat} {xs : List Value} {v : Value} (hb : B' ≤ B) (h : w.ownsRow B e size v n xs) : w.ownsRow B' e size v n xs := by
  refine ⟨h.1, ?_⟩
  rcases h.2 with h0 | ⟨g, cap, cur, h1, h2, h3⟩
  · exact .inl h0
  · exact .inr ⟨g, cap, cur, h1, Nat.le_trans hb h2, h3⟩
theorem u32_diff (a b : Nat) (h : b + 1 ≤ a) (ha : a ≤ 1000000) : IntKind.u32.wrap (IntKind.i64.wrap (IntKind.i64.wrap ((a : Int) - (b : Int)) - 1)) = ((a - b - 1 : Nat) : Int) := by
  have h1 : IntKind.i64.wrap ((a : Int) - (b : Int)) = (a : Int) - (b : Int) := IntWalk.i64_in _ (by omega)
  have h2 : IntKind.i64.wrap ((a : Int) - (b : Int) - 1) = (a : Int) - (b : Int) - 1 := IntWalk.i64_in _ (by omega)
  rw [h1, h2]
  simp [IntKind.wrap, IntKind.bits, IntKind.signed]; omega
theorem u8_diff (a b : Nat) (h : b + 1 ≤ a) (ha : a - b - 1 ≤ 255) : IntKind.u8.wrap (IntKind.i64.wrap (IntKind.i64.wrap ((a : Int) - (b : Int)) - 1)) = ((a - b - 1 : Nat) : Int) := by
  have h1 : IntKind.i64.wrap ((a : Int) - (b : Int)) = (a : Int) - (b : Int) := IntWalk.i64_in _ (by omega)
  have h2 : IntKind.i64.wrap ((a : Int) - (b : Int) - 1) = (a : Int) - (b : Int) - 1 := IntWalk.i64_in _ (by omega)
  rw [h1, h2]
  simp [IntKind.wrap, IntKind.bits, IntKind.signed]; omega
theorem wpList_append_litD {P : Program} {ops : Array Oper} {rest : List Oper} {o : Oper} {a : Act} {Q : Exit → Act → World → Prop} (hgd : o.guard = none) (s x : Operand) (t : TypeId)
    (ho : o.op = .call { callee := .builtin .append, args := #[s, x], argTypes := #[t, t] })
    (base : Nat) (e : TypeId) (i : TypeInfo) (z : Value) (size bytes : Nat) (ht : P.underlying t = some (.slice e)) (hi : P.info? e = some i) (hz : i.zero = some z)
    (hsize : i.size = size) (hby : i.bytes = bytes) (hzs : z.cells.size = size) (hsz : 0 < size)
    (w : World) (v : Value) (n : Nat) (xs : List Value) (hs : a.eval s = v) (hown : w.ownsRow base e size v n xs)
    (b m c : Nat) (hb : b = w.heap.size) (news : List Value) (hx : a.eval x = .slice (some ⟨b, 0, none⟩) m c) (hl : news.length = m * size) (h1 : ∀ u ∈ news, u.oneCell' = true)
    (h63 : n + m ≤ maxLen) (hbytes : (n + m) * bytes ≤ 140737488355328) (hbase : base ≤ w.heap.size)
    (h : ∀ v' w', w'.ownsRow base e size v' (n + m) (xs ++ news) → Below base w w' → w.heap.size < w'.heap.size → wpList P ops Q rest (a.put o.dst v') w') :
    wpList P ops Q (o :: rest) a ((w.alloc (.cells news.toArray e)).drew) := by
  refine wpList_append_own _ hgd s x t ho base e i z size bytes ht hi hz hsize hby hzs hsz v n xs hs (hown.alloc _).drew ⟨b, 0, none⟩ m c news hx hl (cells_new w news e b hb) h1 h63 hbytes (by simp; omega) ?_
  intro v' w' h2 h3 _
  refine h v' w' h2 ?_ (by have := h3.size; simp at this; omega)
  refine Below.grown ((Below.refl base w).alloc hbase _).drew h3 (by simp; omega) (fun k hk => ?_)
  exact (hown.lt k hk).1
def farK (v : Value) (B g n cap pk t u : Nat) (xc xk : Int) (c1 c2 : List Value) (q1 q2 : Nat) : Tmp → Kd := kdOf [(42, .eq v), (43, .eq (.agg #[.int .u16 xc, .int .u8 0, .int .u8 1, .int .u32 xk])), (44, .eq (.pointer (some ⟨B, 9, none⟩))), (45, .eq (.int .i64 (pk : Nat))), (46, .eq (.int .i64 ((pk + 1 : Nat) : Int))),
  (47, .eq (.slice (some ⟨g, 0, none⟩) n cap)), (48, .eq (.pointer (some ⟨B, 6, none⟩))), (49, .eq (.int .i64 (t : Nat))), (50, .eq (.pointer (some ⟨g, t * 11, none⟩))), (51, .eq (.agg c1.toArray)), (52, .eq (.agg #[.int .u16 5, .int .u8 0, .int .u8 0, .int .u32 (q1 : Nat)])),
  (53, .eq (.pointer (some ⟨B, 9, none⟩))), (54, .eq (.int .i64 (pk : Nat))), (55, .eq (.int .i64 ((pk + 2 : Nat) : Int))), (56, .eq (.slice (some ⟨g, 0, none⟩) n cap)), (57, .eq (.pointer (some ⟨B, 7, none⟩))), (58, .eq (.int .i64 (u : Nat))), (59, .eq (.pointer (some ⟨g, u * 11, none⟩))), (60, .eq (.agg c2.toArray)), (61, .eq (.agg #[.int .u16 5, .int .u8 0, .int .u8 0, .int .u32 (q2 : Nat)])),
  (62, .row 4 3 [.int .u16 xc, .int .u8 0, .int .u8 1, .int .u32 xk, .int .u16 5, .int .u8 0, .int .u8 0, .int .u32 (q1 : Nat), .int .u16 5, .int .u8 0, .int .u8 0, .int .u32 (q2 : Nat)])]
set_option maxRecDepth 100000 in
set_option maxHeartbeats 4000000 in
theorem assemble_yes (l : List It) (hok : ∀ x ∈ l, x.Ok) (hF : Form l) (A : Option Addr) (n c : Nat) (w : World) (hr : Reads w w.heap.size 5 A n (cellsT l)) (hn : n ≤ 100000) :
    Calls Try.prog 30 #[.slice A n c] w (TellsAsm l w) := by
  obtain ⟨i0, hi0, hz0, hz1, hz2⟩ := info_parts info_inst
  have hl : n = l.length := by have := hr.1; rw [cellsT_length] at this; omega
  have hNle : (ins l).length ≤ 100000 := by
    have := cnt_le l l.length (Nat.le_refl _)
    rw [cnt_all] at this; omega
  have HL := Lib.hid hl
  clear hl
  go_enter Try.func30, Try.ntmps30
  go_wp2_with fail
  refine (formedG_any l hok A n c w hr (by omega)).mono ?_
  rintro e w1 ⟨b, rfl, hb, hB⟩
  have hbt : b = true := hb.2 hF
  subst hbt
  clear hb
  go_wp2_with fail
  refine (laid_any l hok hF A n c w1 ((hr.below hB).more hB.size) hn).mono ?_
  rintro e w2 ⟨F, g, cap, hL, rfl, hg, hrow, hcap, hmx, hB2⟩
  have hB2w := hB.trans (hB2.mono hB.size)
  have hple := plN_le l F
  by_cases hbig : 4096 < plN l F (ins l).length
  · have hbI : (4096 : Int) < (plN l F (ins l).length : Nat) := by omega
    have hres : asmR l F = ([], 3) := by unfold asmR; rw [if_pos hbig]
    have HRES := Lib.hid hres
    clear hres
    go_wp2_with fail
    go_ret2
    exact ⟨F, .slice none 0 0, hL, by rw [HRES.out]; rfl, by rw [HRES.out]; exact World.ownsRow_nil _ _ _ _, hB2w⟩
  · have hbI : ¬ (4096 : Int) < (plN l F (ins l).length : Nat) := by omega
    obtain ⟨N, hN⟩ : ∃ N, N = (ins l).length := ⟨_, rfl⟩
    rw [← hN] at hcap hNle
    rw [← hN] at hbI
    rw [← hN]
    have HN := Lib.hid hN
    have hup0 : asmUp l F 0 = [] := rfl
    have hglt := hrow.lt
    have hbig2 := hbig
    have HBIG := Lib.hid hbig2
    clear hN hB hB2 hbig2
    go_wp2_with fail
    go_loopw [6, 24] (fun v i wr => ∃ k : Nat, k ≤ N ∧ i = .int .i64 k ∧ wr.ownsRow w2.heap.size 37 4 v (plN l F k) (cellsI (asmUp l F k)) ∧ RowK wr g 104 (cap * 11) (cellsS (stL (ins l) (yesN l) (noN l) F (plN l F) fun n => !reachB l n)) ∧ Below w2.heap.size w2 wr) (fun _ i _ => N - (intOf i).toNat)
    case atStart => exact ⟨0, by omega, rfl, World.ownsRow_nil _ _ _ _, hrow, Below.refl _ _⟩
    case round =>
      obtain ⟨k, hk, rfl, hown, hr, hBr⟩ := hrel
      by_cases hlt : k < N
      · have z0 : (0 : Int) ≤ (k : Int) := by omega
        have z1 : (k : Int) < (N : Int) := by omega
        have hkL : k < (ins l).length := by have := HN.out; omega
        have hrange := stL_range hkL hr
        have hxok : ((ins l).getD k default).Ok := getD_okT (fun x hx => by unfold ins at hx; exact hok x (List.mem_filter.1 hx).1) hkL
        have hups := asmUp_succ l F k
        have hpls := plN_succ l F k
        have hs3 := szN_le l F k
        have hpk := plN_le l F k
        have hpm : plN l F k ≤ plN l F N := plN_mono l F (by omega)
        have hpm1 : plN l F (k + 1) ≤ plN l F N := plN_mono l F (by omega)
        have hit : (ins l).getD k default = itAt l k := rfl
        rw [hit] at hrange hxok
        have hinfo : (Try.prog.info? 104).map (·.size) = some (11 : Nat) := by kernel_rfl
        have hbrF : F k = true → reachB l k = true := fun h => (hF.reachB_iff (by omega)).2 (hL.br k h).2.1
        have hcs : St.vals ⟨itAt l k, yesN l k, noN l k, F k, plN l F k, !reachB l k⟩ = [.int .i64 (itAt l k).mark, .int .u16 (itAt l k).code, .int .u32 (itAt l k).k, .int .i64 (itAt l k).tr, .int .i64 (itAt l k).fa, .int .i64 ((itAt l k).kd : Nat), .int .i64 (yesN l k), .int .i64 (noN l k), .bool (F k), .int .i64 (plN l F k : Nat), .bool (!reachB l k)] := rfl
        rw [hcs] at hrange
        have HRG := Lib.hid hrange
        clear hrange hcs
        generalize hx : itAt l k = x at *
        obtain ⟨xm, xc, xk, xt, xf⟩ := x
        generalize hD : It.kd ⟨xm, xc, xk, xt, xf⟩ = d at *
        simp only at *
        have hgw := hr.lt
        have hBs := hBr.size
        cases hrb : reachB l k with
        | false =>
          rw [hrb] at HRG
          have hout := outAt_none (F := F) hrb
          go_wp2_with (refine wpList_load_mid rfl 104 (.tmp 26) rfl g (k * 11) rfl _ _ HRG.out Try.underlying104 rfl hinfo ?_; simp only [Act.put, List.setIfInBounds_toArray, List.set_cons_succ, List.set_cons_zero])
          have hs0 : szN l F k = 0 := by rw [szN_eq, hrb]; rfl
          rw [hs0, Nat.add_zero] at hpls
          rw [hout, List.append_nil] at hups
          go_roundw
          case rel => exact ⟨k + 1, by omega, by go_num, by rw [hpls, hups]; exact (hown.alloc _).alloc _, (hr.alloc _).alloc _, (hBr.alloc hBr.size _).alloc (by simp; omega) _⟩
          case measure => simp [intOf] <;> omega
        | true =>
          rw [hrb] at HRG
          have HUPS := Lib.hid hups
          cases hfk : F k with
          | true =>
            rw [hfk] at HRG
            have hs1 : szN l F k = 3 := by rw [szN_eq, hrb, hfk]; rfl
            obtain ⟨t, u, ey, eo, ht1, ht2, hu1, hu2⟩ := hF.ways hkL (hL.br k hfk).2.2
            have hah := plN_ahead F hrb ht1
            have hau := plN_ahead F hrb hu1
            rw [hs1] at hpls hah hau
            have HPLS := Lib.hid hpls
            clear hpls hups hs1
            have hout := outAt_far hrb hfk ey eo
            rw [hx] at hout
            rw [ey, eo] at HRG
            have hpt := plN_mono l F (show t ≤ N by have := HN.out; omega)
            have hpu := plN_mono l F (show u ≤ N by have := HN.out; omega)
            have hA := fun (j : Nat) (v : Value) (o : Obj) (h : (#[.int .i64 xm, .int .u16 xc, .int .u32 xk, .int .i64 xt, .int .i64 xf, .int .i64 (d : Nat), .int .i64 (t : Nat), .int .i64 (u : Nat), .bool true, .int .i64 (plN l F k : Nat), .bool false] : Array Value)[j]? = some v) => new_cell wr (#[.int .i64 xm, .int .u16 xc, .int .u32 xk, .int .i64 xt, .int .i64 xf, .int .i64 (d : Nat), .int .i64 (t : Nat), .int .i64 (u : Nat), .bool true, .int .i64 (plN l F k : Nat), .bool false]) 104 o j v h
            have hR1 := stL_range ht2 hr
            have hR2 := stL_range hu2 hr
            have hP1 : ∀ w, Calls Try.prog 52 #[.int .i64 ((plN l F k + 1 : Nat) : Int), .agg (St.vals ⟨(ins l).getD t default, yesN l t, noN l t, F t, plN l F t, !reachB l t⟩).toArray] w (fun e w' => e = .returned (.agg #[.int .u16 5, .int .u8 0, .int .u8 0, .int .u32 (plN l F t - (plN l F k + 1) - 1 : Nat)]) ∧ Below w.heap.size w w') :=
              fun w => plain_any (plN l F k + 1) ⟨(ins l).getD t default, yesN l t, noN l t, F t, plN l F t, !reachB l t⟩ (by show plN l F k + 1 + 1 ≤ plN l F t; omega) (by show plN l F t ≤ 1000000; omega) w
            have hP2 : ∀ w, Calls Try.prog 52 #[.int .i64 ((plN l F k + 2 : Nat) : Int), .agg (St.vals ⟨(ins l).getD u default, yesN l u, noN l u, F u, plN l F u, !reachB l u⟩).toArray] w (fun e w' => e = .returned (.agg #[.int .u16 5, .int .u8 0, .int .u8 0, .int .u32 (plN l F u - (plN l F k + 2) - 1 : Nat)]) ∧ Below w.heap.size w w') :=
              fun w => plain_any (plN l F k + 2) ⟨(ins l).getD u default, yesN l u, noN l u, F u, plN l F u, !reachB l u⟩ (by show plN l F k + 2 + 1 ≤ plN l F u; omega) (by show plN l F u ≤ 1000000; omega) w
            have hl1 := St.vals_length ⟨(ins l).getD t default, yesN l t, noN l t, F t, plN l F t, !reachB l t⟩
            have hl2 := St.vals_length ⟨(ins l).getD u default, yesN l u, noN l u, F u, plN l F u, !reachB l u⟩
            generalize St.vals ⟨(ins l).getD t default, yesN l t, noN l t, F t, plN l F t, !reachB l t⟩ = c1 at hR1 hP1 hl1
            generalize St.vals ⟨(ins l).getD u default, yesN l u, noN l u, F u, plN l F u, !reachB l u⟩ = c2 at hR2 hP2 hl2
            have HP1 := Lib.hid hP1
            have HP2 := Lib.hid hP2
            have HR1 := Lib.hid hR1
            have HR2 := Lib.hid hR2
            have a6 := fun o => hA 6 _ o rfl
            have a7 := fun o => hA 7 _ o rfl
            have a9 := fun o => hA 9 _ o rfl
            have HOUT := Lib.hid hout
            have HA6 := Lib.hid a6
            have HA7 := Lib.hid a7
            have HA9 := Lib.hid a9
            have HL1 := Lib.hid hl1
            have HL2 := Lib.hid hl2
            have zt0 : (0 : Int) ≤ (t : Int) := by omega
            have zt1 : (t : Int) < (N : Int) := by have := HN.out; omega
            have zu0 : (0 : Int) ≤ (u : Int) := by omega
            have zu1 : (u : Int) < (N : Int) := by have := HN.out; omega
            clear hout hP1 hP2 hR1 hR2 hA a6 a7 a9 ey eo hl1 hl2
            go_wp2_with (refine wpList_load_mid rfl 104 (.tmp 26) rfl g (k * 11) rfl _ _ HRG.out Try.underlying104 rfl hinfo ?_; simp only [Act.put, List.setIfInBounds_toArray, List.set_cons_succ, List.set_cons_zero])
            have hw46 : IntKind.i64.wrap ((plN l F k : Nat) + 1 : Int) = ((plN l F k + 1 : Nat) : Int) := by rw [IntWalk.i64_in _ (by omega)]; omega
            have hw55 : IntKind.i64.wrap ((plN l F k : Nat) + 2 : Int) = ((plN l F k + 2 : Nat) : Int) := by rw [IntWalk.i64_in _ (by omega)]; omega
            refine Any.wp_region_tailD 21 follows (farK u6 wr.heap.size g N cap (plN l F k) t u xc xk c1 c2 (plN l F t - (plN l F k + 1) - 1) (plN l F u - (plN l F k + 2) - 1)) (Any.Slot 6 u6) (by unfold Any.Slot; rfl) [42, 43, 44, 45, 46, 47, 48, 49, 50, 51, 52, 53, 54, 55, 56, 57, 58, 59, 60, 61, 62, 63, 6] [42, 43, 44, 45, 46, 47, 48, 49, 50, 51, 52, 53, 54, 55, 56, 57, 58, 59, 60, 61, 62] (by kernel_rfl) (by kernel_rfl) (by kernel_rfl) (by kernel_rfl) (by kernel_rfl) (by simp) ?steps ?done
            case steps =>
              refine ⟨?_, ?_, ?_, ?_, ?_, ?_, ?_, ?_, ?_, ?_, ?_, ?_, ?_, ?_, ?_, ?_, ?_, ?_, ?_, ?_, ?_, trivial⟩
              · exact Any.sj_move rfl rfl rfl (by decide) rfl
              · exact Any.sj (d := 43) rfl (by decide) (Any.st_load_row 43 9 _ (wr.heap.size + 1) _ #[.int .u16 xc, .int .u8 0, .int .u8 1, .int .u32 xk] _ (.plain rfl) rfl rfl (by decide) rfl (new_blk2 wr _ _ _) Try.underlying37 rfl (by kernel_rfl) rfl)
              · exact Any.sj (d := 44) rfl (by decide) (Any.st_old1 44 8 _ _ (.plain rfl) rfl (by decide) rfl (fun a w h => by unfold execOp; simp only [h]; simp [go_sem]) (fun _ _ => rfl))
              · exact Any.sj (d := 45) rfl (by decide) (Any.sx_load_at 45 44 _ _ _ (.plain rfl) rfl rfl (by decide) rfl (HA9.out _) (fun w h => by simp [go_sem, h]) rfl)
              · exact Any.sj (d := 46) rfl (by decide) (Any.st_binR 46 45 _ _ _ _ _ _ (.plain rfl) rfl rfl (by decide) rfl (fun w => by simp [go_sem]) (fun w => by simp [go_sem, hw46]) rfl)
              · exact Any.sj (d := 47) rfl (by decide) (Any.st_was 47 4 (.plain rfl) (.inl rfl) rfl (by decide) rfl)
              · exact Any.sj (d := 48) rfl (by decide) (Any.st_old1 48 8 _ _ (.plain rfl) rfl (by decide) rfl (fun a w h => by unfold execOp; simp only [h]; simp [go_sem]) (fun _ _ => rfl))
              · exact Any.sj (d := 49) rfl (by decide) (Any.sx_load_at 49 48 _ _ _ (.plain rfl) rfl rfl (by decide) rfl (HA6.out _) (fun w h => by simp [go_sem, h]) rfl)
              · exact Any.sj (d := 50) rfl (by decide) (Any.sx_two 50 47 49 _ _ _ (.plain rfl) rfl (by decide) (by decide) rfl rfl (fun a w h1 h2 => by unfold execOp; simp only [h1, h2]; simp [go_sem, zt0, zt1]) rfl)
              · exact Any.sj (d := 51) rfl (by decide) (Any.sx_load_mid 51 50 _ g (t * 11) c1 _ (.plain rfl) rfl rfl (by decide) rfl (lt_two hgw _ _) (range_two HR1.out _ _) Try.underlying104 rfl (hinfo.trans (by rw [HL1.out])) rfl)
              · exact Any.sj (d := 52) rfl (by decide) (Any.st_callv 52 _ (.plain rfl) rfl rfl Try.func52 rfl rfl (fun a w h => by have e1 : a.eval (.tmp 46) = .int .i64 ((plN l F k + 1 : Nat) : Int) := h.eqv 46 (by decide) rfl; have e2 : a.eval (.tmp 51) = .agg c1.toArray := h.eqv 51 (by decide) rfl; simp only [List.map_toArray, List.map_cons, List.map_nil, e1, e2]) (fun w _ => (HP1.out w).mono (fun e w' h => ⟨_, h.1, rfl, h.2⟩)))
              · exact Any.sj (d := 53) rfl (by decide) (Any.st_old1 53 8 _ _ (.plain rfl) rfl (by decide) rfl (fun a w h => by unfold execOp; simp only [h]; simp [go_sem]) (fun _ _ => rfl))
              · exact Any.sj (d := 54) rfl (by decide) (Any.sx_load_at 54 53 _ _ _ (.plain rfl) rfl rfl (by decide) rfl (HA9.out _) (fun w h => by simp [go_sem, h]) rfl)
              · exact Any.sj (d := 55) rfl (by decide) (Any.st_binR 55 54 _ _ _ _ _ _ (.plain rfl) rfl rfl (by decide) rfl (fun w => by simp [go_sem]) (fun w => by simp [go_sem, hw55]) rfl)
              · exact Any.sj (d := 56) rfl (by decide) (Any.st_was 56 4 (.plain rfl) (.inl rfl) rfl (by decide) rfl)
              · exact Any.sj (d := 57) rfl (by decide) (Any.st_old1 57 8 _ _ (.plain rfl) rfl (by decide) rfl (fun a w h => by unfold execOp; simp only [h]; simp [go_sem]) (fun _ _ => rfl))
              · exact Any.sj (d := 58) rfl (by decide) (Any.sx_load_at 58 57 _ _ _ (.plain rfl) rfl rfl (by decide) rfl (HA7.out _) (fun w h => by simp [go_sem, h]) rfl)
              · exact Any.sj (d := 59) rfl (by decide) (Any.sx_two 59 56 58 _ _ _ (.plain rfl) rfl (by decide) (by decide) rfl rfl (fun a w h1 h2 => by unfold execOp; simp only [h1, h2]; simp [go_sem, zu0, zu1]) rfl)
              · exact Any.sj (d := 60) rfl (by decide) (Any.sx_load_mid 60 59 _ g (u * 11) c2 _ (.plain rfl) rfl rfl (by decide) rfl (lt_two hgw _ _) (range_two HR2.out _ _) Try.underlying104 rfl (hinfo.trans (by rw [HL2.out])) rfl)
              · exact Any.sj (d := 61) rfl (by decide) (Any.st_callv 61 _ (.plain rfl) rfl rfl Try.func52 rfl rfl (fun a w h => by have e1 : a.eval (.tmp 55) = .int .i64 ((plN l F k + 2 : Nat) : Int) := h.eqv 55 (by decide) rfl; have e2 : a.eval (.tmp 60) = .agg c2.toArray := h.eqv 60 (by decide) rfl; simp only [List.map_toArray, List.map_cons, List.map_nil, e1, e2]) (fun w _ => (HP2.out w).mono (fun e w' h => ⟨_, h.1, rfl, h.2⟩)))
              · exact Any.sj (d := 62) rfl (by decide) (Any.sx_builtSlice 62 _ 37 3 4 _ #[(0, .agg #[.int .u16 xc, .int .u8 0, .int .u8 1, .int .u32 xk]), (1, .agg #[.int .u16 5, .int .u8 0, .int .u8 0, .int .u32 (plN l F t - (plN l F k + 1) - 1 : Nat)]), (2, .agg #[.int .u16 5, .int .u8 0, .int .u8 0, .int .u32 (plN l F u - (plN l F k + 2) - 1 : Nat)])] [.int .u16 xc, .int .u8 0, .int .u8 1, .int .u32 xk, .int .u16 5, .int .u8 0, .int .u8 0, .int .u32 (plN l F t - (plN l F k + 1) - 1 : Nat), .int .u16 5, .int .u8 0, .int .u8 0, .int .u32 (plN l F u - (plN l F k + 2) - 1 : Nat)] (.plain rfl) rfl rfl
                  (fun a w h => by have e1 : a.eval (.tmp 43) = .agg #[.int .u16 xc, .int .u8 0, .int .u8 1, .int .u32 xk] := h.eqv 43 (by decide) rfl; have e2 : a.eval (.tmp 52) = .agg #[.int .u16 5, .int .u8 0, .int .u8 0, .int .u32 (plN l F t - (plN l F k + 1) - 1 : Nat)] := h.eqv 52 (by decide) rfl; have e3 : a.eval (.tmp 61) = .agg #[.int .u16 5, .int .u8 0, .int .u8 0, .int .u32 (plN l F u - (plN l F k + 2) - 1 : Nat)] := h.eqv 61 (by decide) rfl; simp only [List.map_toArray, List.map_cons, List.map_nil, e1, e2, e3]) (fun w => by kernel_rfl) rfl rfl)
            case done =>
              intro f w3 hg hf
              have h4 : f 42 = u6 := hf 42 rfl
              obtain ⟨A4, cc4, h44, hr4⟩ : IsRow 4 3 [.int .u16 xc, .int .u8 0, .int .u8 1, .int .u32 xk, .int .u16 5, .int .u8 0, .int .u8 0, .int .u32 (plN l F t - (plN l F k + 1) - 1 : Nat), .int .u16 5, .int .u8 0, .int .u8 0, .int .u32 (plN l F u - (plN l F k + 2) - 1 : Nat)] (f 62) w3 := hf 62 rfl
              simp only [Any.fill, List.foldl_cons, List.foldl_nil, List.setIfInBounds_toArray, List.set_cons_succ, List.set_cons_zero, h4, h44, List.drop_succ_cons, List.drop_zero]
              clear hf h4 h44
              generalize f 6 = f6, f 43 = f43, f 44 = f44, f 45 = f45, f 46 = f46, f 47 = f47, f 48 = f48, f 49 = f49, f 50 = f50, f 51 = f51, f 52 = f52, f 53 = f53, f 54 = f54, f 55 = f55, f 56 = f56, f 57 = f57, f 58 = f58, f 59 = f59, f 60 = f60, f 61 = f61, f 63 = f63 at *
              have hB3 : Below wr.heap.size wr w3 := (((Below.refl _ wr).alloc (Nat.le_refl _) _).alloc (by simp) _).drew.trans (hg.mono (by show wr.heap.size ≤ ((wr.alloc _).alloc _).heap.size; simp <;> omega))
              have hown3 := own_grows hg (((hown.alloc _).alloc _).drew)
              have hsz3 := hB3.size
              refine wpList_append_any w3 rfl (.tmp 42) (.tmp 62) 24 rfl w2.heap.size 37 i0 _ 4 8 Try.underlying24 hi0 hz0 hz1 hz2 rfl (by omega) u6 (plN l F k) _ (by rfl) hown3 w3.heap.size A4 3 cc4 _ (by rfl) hr4 (by simp [Value.oneCell']) (by simp only [maxLen]; omega) (by omega) (by omega) ?_
              intro v4 w4 own4 hg4 hat4
              have hB4 : Below w2.heap.size wr w4 := (hB3.mono hBr.size).grown hg4 (by omega) (fun g e => (hown3.lt g e).1)
              clear hg hg4 hat4 hr4 hown3
              go_wp2_with fail
              go_roundw
              case rel =>
                refine ⟨k + 1, by omega, by go_num, ?_, hr.below hB4 hglt, hBr.trans hB4⟩
                rw [HPLS.out, HUPS.out, HOUT.out, cellsI_append]
                exact own4
              case measure => simp [intOf] <;> omega
          | false =>
            rw [hfk] at HRG
            have hs1 : szN l F k = 1 := by rw [szN_eq, hrb, hfk]; rfl
            rw [hs1] at hpls
            have HPLS := Lib.hid hpls
            clear hpls hups hs1
            by_cases hd13 : d = 13
            · subst hd13
              have hkd : (itAt l k).kd = 13 := by rw [hx, hD]
              obtain ⟨t, ey, ht1, ht2⟩ := hF.jumpWay hkL hkd
              have hout := outAt_jump hrb hfk hkd ey
              rw [hx] at hout
              rw [ey] at HRG
              have hah := plN_ahead F hrb ht1
              have hpt := plN_mono l F (show t ≤ N by have := HN.out; omega)
              have hA := fun (j : Nat) (v : Value) (o : Obj) (h : (#[.int .i64 xm, .int .u16 xc, .int .u32 xk, .int .i64 xt, .int .i64 xf, .int .i64 (13 : Nat), .int .i64 (t : Nat), .int .i64 (noN l k), .bool false, .int .i64 (plN l F k : Nat), .bool false] : Array Value)[j]? = some v) => new_cell wr (#[.int .i64 xm, .int .u16 xc, .int .u32 xk, .int .i64 xt, .int .i64 xf, .int .i64 (13 : Nat), .int .i64 (t : Nat), .int .i64 (noN l k), .bool false, .int .i64 (plN l F k : Nat), .bool false]) 104 o j v h
              have hG := fun (o1 o2 : Obj) => old_cell2 (stL_cell ht2 hr 9 (by omega) _ rfl) o1 o2
              have a6 := fun o => hA 6 _ o rfl
              have a9 := fun o => hA 9 _ o rfl
              simp only at hG
              have hV : IntKind.u32.wrap (IntKind.i64.wrap (IntKind.i64.wrap ((plN l F t : Nat) - (plN l F k : Nat) : Int) - 1)) = ((plN l F t - plN l F k - 1 : Nat) : Int) := u32_diff _ _ (by omega) (by omega)
              have HV := Lib.hid hV
              have HOUT := Lib.hid hout
              have HA6 := Lib.hid a6
              have HA9 := Lib.hid a9
              have HG := Lib.hid hG
              have zt0 : (0 : Int) ≤ (t : Int) := by omega
              have zt1 : (t : Int) < (N : Int) := by have := HN.out; omega
              clear hout hkd hV hA a6 a9 hG ey hah
              go_wp2_with (refine wpList_load_mid rfl 104 (.tmp 26) rfl g (k * 11) rfl _ _ HRG.out Try.underlying104 rfl hinfo ?_; simp only [Act.put, List.setIfInBounds_toArray, List.set_cons_succ, List.set_cons_zero])
              go_region_held3 (fun w' => w'.cell? ⟨wr.heap.size, 6, none⟩ = some (.int .i64 (t : Nat)) ∧ w'.cell? ⟨wr.heap.size, 9, none⟩ = some (.int .i64 (plN l F k : Nat)) ∧ w'.cell? ⟨g, t * 11 + 9, none⟩ = some (.int .i64 (plN l F t : Nat)))
                (first | exact ⟨HA6.out _, HA9.out _, HG.out _ _⟩ | go_keep) (fail)
              rw [HV.out]
              go_wp2_with (at_builtin; refine wpList_append_litD rfl (.tmp 108) (.tmp 110) 24 rfl w2.heap.size 37 i0 _ 4 8 Try.underlying24 hi0 hz0 hz1 hz2 rfl (by omega) _ _ (plN l F k) _ rfl ((hown.alloc _).alloc _) _ 1 1 (by simp) _ rfl rfl (by simp [Value.oneCell']) (by simp only [maxLen]; omega) (by omega) (by simp; omega) ?_; intro v3 w3 hown3 hB3 hs3)
              go_roundw
              case rel =>
                refine ⟨k + 1, by omega, by go_num, ?_, ?_, ((hBr.alloc hBr.size _).alloc (by simp; omega) _).trans hB3⟩
                · rw [HPLS.out, HUPS.out, HOUT.out, cellsI_append]
                  exact hown3
                · exact ((hr.alloc _).alloc _).below hB3 (by omega)
              case measure => simp [intOf] <;> omega
            · by_cases hd25 : 25 ≤ d
              · have hkd : (itAt l k).kd = d := by rw [hx, hD]
                obtain ⟨t, u, ey, eo, ht1, ht2, hu1, hu2⟩ := hF.ways hkL (by show 25 ≤ (itAt l k).kd; omega)
                have hout := outAt_near hrb hfk (by omega) ey eo
                rw [hx] at hout
                rw [ey, eo] at HRG
                have hah := plN_ahead F hrb ht1
                have hau := plN_ahead F hrb hu1
                have hpt := plN_mono l F (show t ≤ N by have := HN.out; omega)
                have hpu := plN_mono l F (show u ≤ N by have := HN.out; omega)
                have hclosed := hL.closed k ⟨hkL, (hF.reachB_iff (by omega)).1 hrb, by show 25 ≤ (itAt l k).kd; omega⟩ hfk
                rw [farN_ways F ey eo] at hclosed
                have hA := fun (j : Nat) (v : Value) (o : Obj) (h : (#[.int .i64 xm, .int .u16 xc, .int .u32 xk, .int .i64 xt, .int .i64 xf, .int .i64 (d : Nat), .int .i64 (t : Nat), .int .i64 (u : Nat), .bool false, .int .i64 (plN l F k : Nat), .bool false] : Array Value)[j]? = some v) => new_cell wr (#[.int .i64 xm, .int .u16 xc, .int .u32 xk, .int .i64 xt, .int .i64 xf, .int .i64 (d : Nat), .int .i64 (t : Nat), .int .i64 (u : Nat), .bool false, .int .i64 (plN l F k : Nat), .bool false]) 104 o j v h
                have hG := fun (o1 o2 : Obj) => old_cell2 (stL_cell ht2 hr 9 (by omega) _ rfl) o1 o2
                have hG2 := fun (o1 o2 : Obj) => old_cell2 (stL_cell hu2 hr 9 (by omega) _ rfl) o1 o2
                have a6 := fun o => hA 6 _ o rfl
                have a7 := fun o => hA 7 _ o rfl
                have a9 := fun o => hA 9 _ o rfl
                simp only at hG hG2
                have hV : IntKind.u8.wrap (IntKind.i64.wrap (IntKind.i64.wrap ((plN l F t : Nat) - (plN l F k : Nat) : Int) - 1)) = ((plN l F t - plN l F k - 1 : Nat) : Int) := u8_diff _ _ (by omega) (by omega)
                have hV2 : IntKind.u8.wrap (IntKind.i64.wrap (IntKind.i64.wrap ((plN l F u : Nat) - (plN l F k : Nat) : Int) - 1)) = ((plN l F u - plN l F k - 1 : Nat) : Int) := u8_diff _ _ (by omega) (by omega)
                have HV := Lib.hid hV
                have HV2 := Lib.hid hV2
                have HOUT := Lib.hid hout
                have HA6 := Lib.hid a6
                have HA7 := Lib.hid a7
                have HA9 := Lib.hid a9
                have HG := Lib.hid hG
                have HG2 := Lib.hid hG2
                have zt0 : (0 : Int) ≤ (t : Int) := by omega
                have zt1 : (t : Int) < (N : Int) := by have := HN.out; omega
                have zu0 : (0 : Int) ≤ (u : Int) := by omega
                have zu1 : (u : Int) < (N : Int) := by have := HN.out; omega
                have q1 : ((d : Int) == 13) = false := by simp; omega
                have q2 : (25 : Int) ≤ (d : Int) := by omega
                clear hout hkd hV hV2 hA a6 a7 a9 hG hG2 ey eo hah hau hclosed
                go_wp2_with (refine wpList_load_mid rfl 104 (.tmp 26) rfl g (k * 11) rfl _ _ HRG.out Try.underlying104 rfl hinfo ?_; simp only [Act.put, List.setIfInBounds_toArray, List.set_cons_succ, List.set_cons_zero])
                go_region_held3 (fun w' => w'.cell? ⟨wr.heap.size, 6, none⟩ = some (.int .i64 (t : Nat)) ∧ w'.cell? ⟨wr.heap.size, 7, none⟩ = some (.int .i64 (u : Nat)) ∧ w'.cell? ⟨wr.heap.size, 9, none⟩ = some (.int .i64 (plN l F k : Nat)) ∧ w'.cell? ⟨g, t * 11 + 9, none⟩ = some (.int .i64 (plN l F t : Nat)) ∧ w'.cell? ⟨g, u * 11 + 9, none⟩ = some (.int .i64 (plN l F u : Nat)))
                  (first | exact ⟨HA6.out _, HA7.out _, HA9.out _, HG.out _ _, HG2.out _ _⟩ | go_keep) (fail)
                rw [HV.out, HV2.out]
                go_wp2_with (at_builtin; refine wpList_append_litD rfl (.tmp 108) (.tmp 110) 24 rfl w2.heap.size 37 i0 _ 4 8 Try.underlying24 hi0 hz0 hz1 hz2 rfl (by omega) _ _ (plN l F k) _ rfl ((hown.alloc _).alloc _) _ 1 1 (by simp) _ rfl rfl (by simp [Value.oneCell']) (by simp only [maxLen]; omega) (by omega) (by simp; omega) ?_; intro v3 w3 hown3 hB3 hs3)
                go_roundw
                case rel =>
                  refine ⟨k + 1, by omega, by go_num, ?_, ?_, ((hBr.alloc hBr.size _).alloc (by simp; omega) _).trans hB3⟩
                  · rw [HPLS.out, HUPS.out, HOUT.out, cellsI_append]
                    exact hown3
                  · exact ((hr.alloc _).alloc _).below hB3 (by omega)
                case measure => simp [intOf] <;> omega
              · have hkd : (itAt l k).kd = d := by rw [hx, hD]
                have hout := outAt_other hrb hfk (by rw [hkd]; exact hd13) (by rw [hkd]; exact hd25)
                rw [hx] at hout
                have HOUT := Lib.hid hout
                have q1 : ((d : Int) == 13) = false := by simp; omega
                have q2 : ¬ (25 : Int) ≤ (d : Int) := by omega
                clear hout hkd
                go_wp2_with (first
                  | (refine wpList_load_mid rfl 104 (.tmp 26) rfl g (k * 11) rfl _ _ HRG.out Try.underlying104 rfl hinfo ?_; simp only [Act.put, List.setIfInBounds_toArray, List.set_cons_succ, List.set_cons_zero])
                  | (at_builtin; refine wpList_append_lit rfl (.tmp 108) (.tmp 110) 24 rfl w2.heap.size 37 i0 _ 4 8 Try.underlying24 hi0 hz0 hz1 hz2 rfl (by omega) _ _ (plN l F k) _ rfl ((hown.alloc _).alloc _) _ 1 1 (by simp) _ rfl rfl (by simp [Value.oneCell']) (by simp only [maxLen]; omega) (by omega) (by simp; omega) ?_; intro v3 w3 hown3 hB3 hs3))
                go_roundw
                case rel =>
                  refine ⟨k + 1, by omega, by go_num, ?_, ?_, ((hBr.alloc hBr.size _).alloc (by simp; omega) _).trans hB3⟩
                  · rw [HPLS.out, HUPS.out, HOUT.out, cellsI_append]
                    exact hown3
                  · exact ((hr.alloc _).alloc _).below hB3 (by omega)
                case measure => simp [intOf] <;> omega
      · have hkN : k = N := by omega
        subst hkN
        have z1 : ¬ (k : Int) < (k : Int) := by omega
        have hasm : asmUp l F k = asmN l F := by unfold asmN; rw [HN.out]
        rw [hasm] at hown
        obtain ⟨A5, c5, rfl, hr5⟩ := own_reads hown
        have hck := check_any (asmN l F) (asmN_ok hok hF hL (by have := HN.out; omega)) A5 (plN l F k) c5 wr hr5 (by omega)
        have hpl : (asmN l F).length = plN l F k := by unfold asmN; rw [← HN.out]; exact asmUp_length l F k
        have hres : asmR l F = if (checkN (asmN l F)).2 ≠ 0 then ([], (checkN (asmN l F)).2) else (asmN l F, 0) := by unfold asmR; rw [if_neg HBIG.out]
        generalize checkN (asmN l F) = p at hck hres
        obtain ⟨p1, p2⟩ := p
        unfold TellsTwo at hck
        simp only at hck hres
        have HCK := Lib.hid hck
        have HPL := Lib.hid hpl
        by_cases he : p2 = 0
        · subst he
          rw [if_neg (by simp)] at hres
          have HRES := Lib.hid hres
          clear hck hpl hres hasm
          go_wp2_with fail
          refine HCK.out.mono ?_
          rintro e w5 ⟨rfl, hB5⟩
          go_wp2_with fail
          go_ret2
          refine ⟨F, .slice A5 (plN l F k) c5, hL, by rw [HRES.out]; rfl, ?_, hB2w.trans ((hBr.trans (hB5.mono hBr.size)).mono hB2w.size)⟩
          rw [HRES.out]
          simp only
          rw [HPL.out]
          exact ownB hB2w.size (own_grows hB5 hown)
        · rw [if_pos he] at hres
          have HRES := Lib.hid hres
          have he2 : ¬ (p2 : Int) = 0 := by omega
          have he3 : ((p2 : Int) != 0) = true := by simp; omega
          clear hck hpl hres hasm
          go_wp2_with fail
          refine HCK.out.mono ?_
          rintro e w5 ⟨rfl, hB5⟩
          go_wp2_with fail
          go_ret2
          exact ⟨F, .slice none 0 0, hL, by rw [HRES.out]; rfl, by rw [HRES.out]; exact World.ownsRow_nil _ _ _ _, hB2w.trans ((hBr.trans (hB5.mono hBr.size)).mono hB2w.size)⟩
/-- Not formed: nothing, and error 1. -/
def TellsNo (w : World) (e : Ending) (w' : World) : Prop := e = .returned (.tuple #[.slice none 0 0, .int .i64 1]) ∧ Below w.heap.size w w'
set_option maxRecDepth 100000 in
theorem assemble_no (l : List It) (hok : ∀ x ∈ l, x.Ok) (hF : ¬ Form l) (A : Option Addr) (n c : Nat) (w : World) (hr : Reads w w.heap.size 5 A n (cellsT l)) (hn : n ≤ 100000) :
    Calls Try.prog 30 #[.slice A n c] w (TellsNo w) := by
  go_enter Try.func30, Try.ntmps30
  go_wp2_with fail
  refine (formedG_any l hok A n c w hr (by omega)).mono ?_
  rintro e w1 ⟨b, rfl, hb, hB⟩
  have hbt : b = false := by
    cases b with
    | false => rfl
    | true => exact absurd (hb.1 rfl) hF
  subst hbt
  clear hb
  go_wp2_with fail
  go_ret2
  exact ⟨rfl, hB⟩
end Go.Proofs.Ytgalkidhgjgbhaa
