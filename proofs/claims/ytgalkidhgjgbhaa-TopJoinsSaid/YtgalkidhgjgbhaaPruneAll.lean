/-
  The walk of the closures of flow.Prune: how far a jump leads among those that are kept.
-/
import Derived.Test.YtgalkidhgjgbhaaWalkReached7
import Derived.Test.YtgalkidhgjgbhaaWalkLongest
import Derived.Test.YtgalkidhgjgbhaaWalkAlls
import Derived.Deep.Cut
/-! The walk of the closures of flow.Prune: how far a jump leads among those that are kept. -/
namespace Go.Proofs.Ytgalkidhgjgbhaa
open Go.RowKit
set_option linter.unusedVariables false

set_option maxRecDepth 100000 in
set_option maxHeartbeats 2000000 in
theorem to_any (a b ga gn ba N cap k m : Nat) (hab : b ≤ a) (ha : a ≤ 4096) (W : World) (c0 : W.cell? ⟨ga, 0, none⟩ = some (.slice (some ⟨ba, 0, none⟩) N cap)) (c1 : W.cell? ⟨gn, 0, none⟩ = some (.int .i64 m))
    (c2 : W.cell? ⟨ba, m + 1 + k, none⟩ = some (.int .i64 a)) (c3 : W.cell? ⟨ba, m + 1, none⟩ = some (.int .i64 b)) (hk : m + 1 + k < N) (hN : N ≤ 4097) :
    Calls Try.prog 44 #[.int .i64 k, .pointer (some ⟨ga, 0, none⟩), .pointer (some ⟨gn, 0, none⟩)] W fun e w' => e = .returned (.int .i64 ((a - b : Nat) : Int)) ∧ ∃ q, w' = W.drewN q := by
  have e1 : IntKind.i64.wrap ((m : Int) + 1) = ((m + 1 : Nat) : Int) := by rw [IntKind.wrap_i64]; omega
  have e2 : IntKind.i64.wrap (((m + 1 : Nat) : Int) + (k : Int)) = ((m + 1 + k : Nat) : Int) := by rw [IntKind.wrap_i64]; omega
  have e3 : IntKind.i64.wrap ((a : Int) - (b : Int)) = ((a - b : Nat) : Int) := by rw [IntKind.wrap_i64]; omega
  generalize hp : m + 1 + k = p at *
  generalize hq : m + 1 = q at *
  have z0 : (0 : Int) ≤ (p : Int) := by omega
  have z1 : (p : Int) < (N : Int) := by omega
  have z2 : (0 : Int) ≤ (q : Int) := by omega
  have z3 : (q : Int) < (N : Int) := by omega
  generalize a - b = d at *
  clear hp hq hab
  go_enter Try.func44, Try.ntmps44
  go_wp2_with fail
  go_quiet (fail)
  go_wp2_with fail
  go_ret
  exact ⟨rfl, nq, rfl⟩
end Go.Proofs.Ytgalkidhgjgbhaa

/-! The walk of the function that flow.Prune hands on: it adds the instruction with its jumps shortened. -/
namespace Go.Proofs.Ytgalkidhgjgbhaa
open Go.RowKit
set_option linter.unusedVariables false

theorem own_below7 {W W' : World} {base : Nat} {e : TypeId} {size n : Nat} {v : Value} {xs : List Value} (h : W.ownsRow base e size v n xs) (hB : Below W.heap.size W W') : W'.ownsRow base e size v n xs := by
  refine h.kept (row := none) ⟨hB.os, hB.tape, hB.output, hB.size, fun k hk _ => hB.block k hk⟩ ?_
  cases v.ownBlock with
  | none => exact .inl rfl
  | some g => exact .inr (fun e => by cases e)
theorem own_setCell7 {W : World} {B : Nat} {e : TypeId} {size n : Nat} {xs : List Value} {v : Value} (h : W.ownsRow B e size v n xs) {p : Addr} (hp : v.ownBlock ≠ some p.block) (u : Value) : (W.setCell p u).ownsRow B e size v n xs := by
  refine ⟨h.1, ?_⟩
  rcases h.2 with h0 | ⟨g, cap, cur, h1, h2, h3, h4⟩
  · exact .inl h0
  · subst h1
    exact .inr ⟨g, cap, cur, rfl, h2, (Below.heap_setCell _ _ _ _ (fun e => hp (by simp [Value.ownBlock, e]))).trans h3, h4⟩

theorem heap_cell {V W : World} (h : V.heap = W.heap) (p : Addr) : V.cell? p = W.cell? p := World.cell?_of_block (by rw [h])
theorem below_drewN7 {B : Nat} {a w : World} (h : Below B a w) (n : Nat) : Below B a (w.drewN n) := ⟨h.os, h.tape, h.output, h.size, h.block⟩
theorem cntN_diff (R : List Bool) (m : Nat) : ∀ d, cntN R (m + d) - cntN R m ≤ d
  | 0 => by simp
  | d + 1 => by
    have h := cntN_diff R m d
    have h2 : cntN R (m + (d + 1)) ≤ cntN R (m + d) + 1 := by
      show cntN R (m + d) + _ ≤ _
      split <;> omega
    omega

structure PInv (l : List I) (n cap ga ba go B1 : Nat) (w0 : World) (rb m : Nat) (W : World) : Prop where
  at_ : RowK W ga 27 1 [.slice (some ⟨ba, 0, none⟩) (n + 1) cap]
  row : RowK W ba 3 cap (natsV ((List.range (n + 1)).map (cntN (reachN l))))
  out : ∃ v, RowK W go 24 1 [v] ∧ W.ownsRow B1 37 4 v (cntN (reachN l) m) (cellsI (pruneU (reachN l) l m)) ∧ v.ownBlock ≠ some rb
  below : Below w0.heap.size w0 W

/-- What the function leaves. -/
def PDone (l : List I) (n cap ga ba go B1 : Nat) (w0 : World) (rb m : Nat) (W : World) (e : Ending) (W' : World) : Prop :=
  e = .returned (.tuple #[]) ∧ PInv l n cap ga ba go B1 w0 rb (m + 1) W' ∧ W'.heap[rb]? = W.heap[rb]? ∧ W.heap.size ≤ W'.heap.size

theorem at_cell {R : List Bool} {n cap ba : Nat} {W : World} (h : RowK W ba 3 cap (natsV ((List.range (n + 1)).map (cntN R)))) {j : Nat} (hj : j ≤ n) : W.cell? ⟨ba, j, none⟩ = some (.int .i64 (cntN R j : Nat)) := by
  have := h.cell (natsV_get _ j (by simp; omega))
  rw [this]
  simp [List.getD, show j < n + 1 by omega]
theorem fix_eq_jump {R : List Bool} {l : List I} {m : Nat} {x : I} (hx : l.getD m default = x) (h : kd x = 13) : fixN R l m = ⟨x.code, x.jt, x.jf, cntN R (m + 1 + x.k) - cntN R (m + 1)⟩ := by
  unfold fixN; simp only [hx, if_pos h]
theorem fix_eq_two {R : List Bool} {l : List I} {m : Nat} {x : I} (hx : l.getD m default = x) (h : 25 ≤ kd x) : fixN R l m = ⟨x.code, cntN R (m + 1 + x.jt) - cntN R (m + 1), cntN R (m + 1 + x.jf) - cntN R (m + 1), x.k⟩ := by
  unfold fixN; simp only [hx, if_pos h, if_neg (show ¬ kd x = 13 by omega)]
theorem fix_eq_not {R : List Bool} {l : List I} {m : Nat} {x : I} (hx : l.getD m default = x) (h : ¬ kd x = 13) (h2 : ¬ 25 ≤ kd x) : fixN R l m = x := by
  unfold fixN; simp only [hx, if_neg h, if_neg h2]
theorem ways_jump {l : List I} {n m : Nat} {x : I} (hP : FormedP l) (hl : n = l.length) (hm : m < n) (hx : l.getD m default = x) (h : kd x = 13) : m + 1 + x.k < n := by
  have := hP.next (show m < l.length by omega) (m + 1 + x.k)
  rw [hl]
  refine (this ?_).2
  unfold nextN
  rw [hx, if_neg (by rw [h]; unfold isEnd; omega), if_pos h]
  simp
theorem ways_two {l : List I} {n m : Nat} {x : I} (hP : FormedP l) (hl : n = l.length) (hm : m < n) (hx : l.getD m default = x) (h : 25 ≤ kd x) : m + 1 + x.jt < n ∧ m + 1 + x.jf < n := by
  have h2 := hP.next (show m < l.length by omega)
  unfold nextN at h2
  rw [hx, if_neg (by unfold isEnd; omega), if_neg (by omega), if_pos h] at h2
  rw [hl]
  exact ⟨(h2 (m + 1 + x.jt) (by simp)).2, (h2 (m + 1 + x.jf) (by simp)).2⟩

set_option maxRecDepth 100000 in
set_option maxHeartbeats 4000000 in
theorem prune1_any (l : List I) (hok : ∀ i ∈ l, i.Ok) (hP : FormedP l) (n : Nat) (hl : n = l.length) (hn : n ≤ 4096) (cap ga ba go B1 : Nat) (w0 : World) (hga : ga < B1) (hba : ba < B1) (hgo : go < B1) (hgo0 : w0.heap.size ≤ go) (hgg : ga ≠ go) (hbg : ba ≠ go) (hB01 : w0.heap.size ≤ B1)
    (rb m : Nat) (W : World) (hm : m < n) (hrb0 : B1 ≤ rb) (hrb : rb < W.heap.size) (hr : (reachN l).getD m false = true) (hI : PInv l n cap ga ba go B1 w0 rb m W) :
    Calls Try.prog 43 #[.int .i64 m, .agg #[.int .u16 (l.getD m default).code, .int .u8 (l.getD m default).jt, .int .u8 (l.getD m default).jf, .int .u32 (l.getD m default).k], .int .i64 (kd (l.getD m default) : Nat), .pointer (some ⟨ga, 0, none⟩), .pointer (some ⟨go, 0, none⟩)] W
      (PDone l n cap ga ba go B1 w0 rb m W) := by
  obtain ⟨i0, hi0, hz0, hz1, hz2⟩ := info_parts info_inst
  obtain ⟨hat, hrow, ⟨v, hout, hown, hv⟩, hbel⟩ := hI
  have hok' := getD_ok hok (k := m) (by omega)
  have hstep : pruneU (reachN l) l (m + 1) = pruneU (reachN l) l m ++ [fixN (reachN l) l m] := by
    show pruneU (reachN l) l m ++ _ = _
    rw [if_pos hr]
  have hcnt := cntN_true hr
  have hclm := cntN_le (reachN l) m
  have hcell := fun j (hj : j ≤ n) => at_cell hrow hj
  have hcle := fun j => cntN_le (reachN l) j
  have hmono := fun d => cntN_mono (reachN l) (m + 1) d
  have hf1 := @fix_eq_jump (reachN l) l m _ rfl
  have hf2 := @fix_eq_two (reachN l) l m _ rfl
  have hf3 := @fix_eq_not (reachN l) l m _ rfl
  have hw1 := @ways_jump l n m _ hP hl hm rfl
  have hw2 := @ways_two l n m _ hP hl hm rfl
  have hkn := fun W => callFn_of7 (f := 44) Try.func44 (by kernel_rfl) rfl W
  generalize fixN (reachN l) l m = F at *
  generalize kd (l.getD m default) = D at *
  generalize l.getD m default = x at *
  obtain ⟨xc, xt, xf, xk⟩ := x
  obtain ⟨o1, o2, o3, o4⟩ := hok'
  simp only at o1 o2 o3 o4 hf1 hf2 hf3 hw1 hw2 ⊢
  let W1 : World := (W.alloc (.cells #[.int .i64 m] 3)).alloc (.cells #[.int .u16 xc, .int .u8 xt, .int .u8 xf, .int .u32 xk] 37)
  have hW : (W.alloc (.cells #[.int .i64 m] 3)).alloc (.cells #[.int .u16 xc, .int .u8 xt, .int .u8 xf, .int .u32 xk] 37) = W1 := rfl
  have hs1 : W1.heap.size = W.heap.size + 2 := by simp [W1]
  have hB1 : Below W.heap.size W W1 := ((Below.refl _ W).alloc (Nat.le_refl _) _).alloc (by simp) _
  have hgn : RowK W1 W.heap.size 3 1 [.int .i64 m] := (RowK.new W 3 #[.int .i64 m] [.int .i64 m] rfl).alloc _
  have hgi : RowK W1 (W.heap.size + 1) 37 4 [.int .u16 xc, .int .u8 xt, .int .u8 xf, .int .u32 xk] := by
    have := RowK.new (W.alloc (.cells #[.int .i64 m] 3)) 37 #[.int .u16 xc, .int .u8 xt, .int .u8 xf, .int .u32 xk] [.int .u16 xc, .int .u8 xt, .int .u8 xf, .int .u32 xk] rfl
    rwa [World.size_alloc] at this
  have HOWN0 := Lib.hid hown
  have HB01 := Lib.hid hB01
  clear hB01
  have hat1 := hat.below hB1 hat.lt
  have hrow1 := hrow.below hB1 hrow.lt
  have hout1 := hout.below hB1 hout.lt
  have hown1 := own_below7 hown hB1
  have hcell1 : ∀ j, j ≤ n → W1.cell? ⟨ba, j, none⟩ = some (.int .i64 (cntN (reachN l) j : Nat)) := fun j hj => at_cell hrow1 hj
  have na0 := hat1.cell (k := 0) rfl
  have nm0 := hgn.cell (k := 0) rfl
  have ni0 := hgi.cell (k := 0) rfl
  have ni1 := hgi.cell (k := 1) rfl
  have ni2 := hgi.cell (k := 2) rfl
  have ni3 := hgi.cell (k := 3) rfl
  have fi1 := hgi.frozen 1
  have fi2 := hgi.frozen 2
  have fi3 := hgi.frozen 3
  have HAT1 := Lib.hid hat1
  have HROW1 := Lib.hid hrow1
  have HOUT1 := Lib.hid hout1
  have HOWN1 := Lib.hid hown1
  have HGI := Lib.hid hgi
  have HB1 := Lib.hid hB1
  have HSTEP := Lib.hid hstep
  have HCNT := Lib.hid hcnt
  have HCELL := Lib.hid hcell1
  have HMONO := Lib.hid hmono
  have HCLE := Lib.hid hcle
  have HBEL := Lib.hid hbel
  clear hat1 hrow1 hout1 hown1 hgi hB1 hstep hcnt hcell1 hmono hcle hbel hat hrow hout hown hgn hcell hr hok hl
  have HVN := Lib.hid (fun (b : Nat) (hb : W.heap.size ≤ b) => show v.ownBlock ≠ some b from fun e => by have := (HOWN0.out.lt b e).2; omega)
  by_cases h13 : D = 13
  · have hF := Lib.hid (hf1 h13)
    have hk := hw1 h13
    subst h13
    clear hf1 hf2 hf3 hw1 hw2
    have hab := (HMONO.out) xk
    have hle := (HCLE.out) (m + 1 + xk)
    have q1 := (HCELL.out) (m + 1 + xk) (by omega)
    have q2 := (HCELL.out) (m + 1) (by omega)
    have HTO := Lib.hid (to_any (cntN (reachN l) (m + 1 + xk)) (cntN (reachN l) (m + 1)) ga W.heap.size ba (n + 1) cap xk m hab (by omega) W1 na0 nm0 q1 q2 (by omega) (by omega))
    generalize hyk : cntN (reachN l) (m + 1 + xk) - cntN (reachN l) (m + 1) = yk at *
    have e4 : IntKind.u32.wrap (yk : Int) = (yk : Int) := by rw [IntKind.wrap_u32]; omega
    clear hab hle hyk q1 q2
    go_enter Try.func43, Try.ntmps43
    go_wp2_with fail
    refine (HTO.out).mono ?_
    rintro e w2 ⟨rfl, q, rfl⟩
    go_upto_region 6 with fail
    have hXI := (show RowK (W1.drewN q) (W.heap.size + 1) 37 4 _ from HGI.out).set_ 3 (.int .u32 yk)
    have hXA := (show RowK (W1.drewN q) ga 27 1 [.slice (some ⟨ba, 0, none⟩) (n + 1) cap] from HAT1.out).far (p := ⟨W.heap.size + 1, 3, none⟩) (by show ga ≠ W.heap.size + 1; omega) (.int .u32 yk)
    have hXR := (show RowK (W1.drewN q) ba 3 cap (natsV ((List.range (n + 1)).map (cntN (reachN l)))) from HROW1.out).far (p := ⟨W.heap.size + 1, 3, none⟩) (by show ba ≠ W.heap.size + 1; omega) (.int .u32 yk)
    have hXO := (show RowK (W1.drewN q) go 24 1 [v] from HOUT1.out).far (p := ⟨W.heap.size + 1, 3, none⟩) (by show go ≠ W.heap.size + 1; omega) (.int .u32 yk)
    have hXW := own_setCell7 (show (W1.drewN q).ownsRow B1 37 4 v (cntN (reachN l) m) (cellsI (pruneU (reachN l) l m)) from HOWN1.out) (p := ⟨W.heap.size + 1, 3, none⟩) (by show v.ownBlock ≠ some (W.heap.size + 1); exact HVN.out (W.heap.size + 1) (by omega)) (.int .u32 yk)
    have hXB := (show Below W.heap.size W (W1.drewN q) from below_drewN7 HB1.out q).setCell (p := ⟨W.heap.size + 1, 3, none⟩) (by show W.heap.size ≤ W.heap.size + 1; omega) (.int .u32 yk)
    have hXS : ((W1.drewN q).setCell ⟨W.heap.size + 1, 3, none⟩ (.int .u32 yk)).heap.size = W.heap.size + 2 := by rw [World.size_setCell]; exact hs1
    generalize (W1.drewN q).setCell ⟨W.heap.size + 1, 3, none⟩ (.int .u32 yk) = wx at *
    clear na0 nm0 ni0 ni1 ni2 ni3 fi1 fi2 fi3 hkn HTO
    have x0 := hXI.cell (k := 0) rfl
    have x1 := hXI.cell (k := 1) rfl
    have x2 := hXI.cell (k := 2) rfl
    have x3 := hXI.cell (k := 3) rfl
    have xo := hXO.cell (k := 0) rfl
    have hownA := hXW.alloc (.cells #[.int .u16 xc, .int .u8 xt, .int .u8 xf, .int .u32 yk] 37)
    have hrA := reads_lit wx [.int .u16 xc, .int .u8 xt, .int .u8 xf, .int .u32 yk] 37 4 1 rfl
    have hne := fun (b : Nat) (hb : b < B1) => show some b ≠ v.ownBlock from fun e => by have := (hXW.lt b e.symm).1; omega
    have hb1x : B1 ≤ (wx.alloc (.cells #[.int .u16 xc, .int .u8 xt, .int .u8 xf, .int .u32 yk] 37)).heap.size := by rw [World.size_alloc]; omega
    have hby : (cntN (reachN l) m + 1) * 8 ≤ 140737488355328 := by omega
    have hml : cntN (reachN l) m + 1 ≤ maxLen := by simp only [maxLen]; omega
    have HXS := Lib.hid hXS
    clear hXS
    have hX2 := Lib.hid (And.intro hXA (And.intro hXR (And.intro hXB hXI)))
    have hNE := Lib.hid hne
    clear hXA hXR hXB hXI hne hXW
    generalize hcc : cellsI (pruneU (reachN l) l m) = cc at *
    have HCC := Lib.hid hcc
    clear hcc
    go_wp2_with (at_builtin; go_loud (refine wpList_append_any _ rfl (.tmp 37) (.tmp 39) 24 rfl B1 37 i0 _ 4 8 Try.underlying24 hi0 hz0 hz1 hz2 rfl (by omega) v (cntN (reachN l) m) cc rfl hownA (wx.heap.size + 1) (some ⟨wx.heap.size, 0, none⟩) 1 1 [.int .u16 xc, .int .u8 xt, .int .u8 xf, .int .u32 yk] rfl hrA (by simp [Value.oneCell']) hml hby hb1x ?_); intro v9 w9 own9 hg9 hat9; obtain ⟨A9, c9, hv9, hr9⟩ := own_reads own9; subst hv9; have hX9 := (hXO.alloc (.cells #[.int .u16 xc, .int .u8 xt, .int .u8 xf, .int .u32 yk] 37)).grown hg9 ((hNE.out) go hgo); have y0 := hX9.cell (k := 0) rfl; have y1 := hX9.frozen 0)
    go_end0
    obtain ⟨hXA, hXR, hXB, hXI⟩ := hX2.out
    have hXS := HXS.out
    have hne9 : ∀ b, b < wx.heap.size + 1 → v.ownBlock ≠ some b → (Value.slice A9 (cntN (reachN l) m + 1) c9).ownBlock ≠ some b := fun b hb h1 h2 => by
      rcases hat9 with h3 | h3
      · exact h1 (h3.symm.trans h2)
      · rw [h2] at h3
        have : b = wx.heap.size + 1 := by simpa using h3
        omega
    have hsz9 := hg9.size
    rw [World.size_alloc] at hsz9
    refine ⟨rfl, ⟨((hXA.alloc _).grown hg9 ((hNE.out) ga hga)).far (p := ⟨go, 0, none⟩) hgg _, ((hXR.alloc _).grown hg9 ((hNE.out) ba hba)).far (p := ⟨go, 0, none⟩) hbg _, ⟨_, hX9.set_ 0 _, ?_, ?_⟩, ?_⟩, ?_, ?_⟩
    · refine own_setCell7 ?_ (hne9 go (by have := hXO.lt; omega) (fun e => (hNE.out) go hgo e.symm)) _
      rw [HCNT.out, HSTEP.out, cellsI_append, hF.out, HCC.out]
      exact own9
    · exact hne9 rb (by omega) hv
    · exact (((((HBEL.out).trans (hXB.mono (HBEL.out).size)).alloc (by have := (HBEL.out).size; omega) _).grown hg9 (by rw [World.size_alloc]; have := (HBEL.out).size; omega) (fun k e => by have := (hownA.lt k e).1; have := HB01.out; omega))).setCell (p := ⟨go, 0, none⟩) hgo0 _
    · refine (Below.heap_setCell _ _ _ _ (by show rb ≠ go; omega)).trans ?_
      refine (hg9.block rb (by rw [World.size_alloc]; omega) (fun e => hv e.symm)).trans ?_
      exact (Below.heap_alloc wx _ rb (by omega)).trans (hXB.block rb hrb)
    · rw [World.size_setCell]; omega

  · by_cases h25 : 25 ≤ D
    · have hF := Lib.hid (hf2 h25)
      obtain ⟨hk1, hk2⟩ := hw2 h25
      clear hf1 hf2 hf3 hw1 hw2
      have hab1 := (HMONO.out) xt
      have hab2 := (HMONO.out) xf
      have hle1 := (HCLE.out) (m + 1 + xt)
      have hle2 := (HCLE.out) (m + 1 + xf)
      have q1 := (HCELL.out) (m + 1 + xt) (by omega)
      have q2 := (HCELL.out) (m + 1 + xf) (by omega)
      have q3 := (HCELL.out) (m + 1) (by omega)
      have HT1 := Lib.hid (fun (V : World) (hV : V.heap = W1.heap) => to_any (cntN (reachN l) (m + 1 + xt)) (cntN (reachN l) (m + 1)) ga W.heap.size ba (n + 1) cap xt m hab1 (by omega) V ((heap_cell hV _).trans na0) ((heap_cell hV _).trans nm0) ((heap_cell hV _).trans q1) ((heap_cell hV _).trans q3) (by omega) (by omega))
      have HT2 := Lib.hid (fun (V : World) (hV : V.heap = W1.heap) => to_any (cntN (reachN l) (m + 1 + xf)) (cntN (reachN l) (m + 1)) ga W.heap.size ba (n + 1) cap xf m hab2 (by omega) V ((heap_cell hV _).trans na0) ((heap_cell hV _).trans nm0) ((heap_cell hV _).trans q2) ((heap_cell hV _).trans q3) (by omega) (by omega))
      have hd1 : cntN (reachN l) (m + 1 + xt) - cntN (reachN l) (m + 1) < 256 := by have := cntN_diff (reachN l) (m + 1) xt; omega
      have hd2 : cntN (reachN l) (m + 1 + xf) - cntN (reachN l) (m + 1) < 256 := by have := cntN_diff (reachN l) (m + 1) xf; omega
      generalize cntN (reachN l) (m + 1 + xt) - cntN (reachN l) (m + 1) = yt at *
      generalize cntN (reachN l) (m + 1 + xf) - cntN (reachN l) (m + 1) = yf at *
      have e4 : IntKind.u8.wrap (yt : Int) = (yt : Int) := by rw [IntKind.wrap_u8]; omega
      have e5 : IntKind.u8.wrap (yf : Int) = (yf : Int) := by rw [IntKind.wrap_u8]; omega
      have e6 : IntKind.i64.wrap (xt : Int) = (xt : Int) := by rw [IntKind.wrap_i64]; omega
      have e7 : IntKind.i64.wrap (xf : Int) = (xf : Int) := by rw [IntKind.wrap_i64]; omega
      have e25 : (25 : Int) ≤ (D : Int) := by omega
      have e13 : ¬ (D : Int) = 13 := by omega
      clear hab1 hab2 hle1 hle2 q1 q2 q3 h13 h25
      go_enter Try.func43, Try.ntmps43
      go_upto_region 5 with fail
      clear hW
      clear_value W1
      go_region_with (first | (go_at_call 44; (with_reducible refine (HT1.out _ ?_).mono ?_); rfl; rintro e w2 ⟨rfl, q, rfl⟩) | (go_at_call 44; (with_reducible refine (HT2.out _ ?_).mono ?_); rfl; rintro e w2 ⟨rfl, q, rfl⟩))
      all_goals
        rename_i qa
        generalize 1 + qa + q = qq at *
        have hXI := ((show RowK (W1.drewN qq) (W.heap.size + 1) 37 4 _ from HGI.out).set_ 1 (.int .u8 yt)).set_ 2 (.int .u8 yf)
        have hXA := ((show RowK (W1.drewN qq) ga 27 1 [.slice (some ⟨ba, 0, none⟩) (n + 1) cap] from HAT1.out).far (p := ⟨W.heap.size + 1, 1, none⟩) (by show ga ≠ W.heap.size + 1; omega) (.int .u8 yt)).far (p := ⟨W.heap.size + 1, 2, none⟩) (by show ga ≠ W.heap.size + 1; omega) (.int .u8 yf)
        have hXR := ((show RowK (W1.drewN qq) ba 3 cap (natsV ((List.range (n + 1)).map (cntN (reachN l)))) from HROW1.out).far (p := ⟨W.heap.size + 1, 1, none⟩) (by show ba ≠ W.heap.size + 1; omega) (.int .u8 yt)).far (p := ⟨W.heap.size + 1, 2, none⟩) (by show ba ≠ W.heap.size + 1; omega) (.int .u8 yf)
        have hXO := ((show RowK (W1.drewN qq) go 24 1 [v] from HOUT1.out).far (p := ⟨W.heap.size + 1, 1, none⟩) (by show go ≠ W.heap.size + 1; omega) (.int .u8 yt)).far (p := ⟨W.heap.size + 1, 2, none⟩) (by show go ≠ W.heap.size + 1; omega) (.int .u8 yf)
        have hXW := own_setCell7 (own_setCell7 (show (W1.drewN qq).ownsRow B1 37 4 v (cntN (reachN l) m) (cellsI (pruneU (reachN l) l m)) from HOWN1.out) (p := ⟨W.heap.size + 1, 1, none⟩) (by show v.ownBlock ≠ some (W.heap.size + 1); exact HVN.out (W.heap.size + 1) (by omega)) (.int .u8 yt)) (p := ⟨W.heap.size + 1, 2, none⟩) (by show v.ownBlock ≠ some (W.heap.size + 1); exact HVN.out (W.heap.size + 1) (by omega)) (.int .u8 yf)
        have hXB := ((show Below W.heap.size W (W1.drewN qq) from below_drewN7 HB1.out qq).setCell (p := ⟨W.heap.size + 1, 1, none⟩) (by show W.heap.size ≤ W.heap.size + 1; omega) (.int .u8 yt)).setCell (p := ⟨W.heap.size + 1, 2, none⟩) (by show W.heap.size ≤ W.heap.size + 1; omega) (.int .u8 yf)
        have hXS : (((W1.drewN qq).setCell ⟨W.heap.size + 1, 1, none⟩ (.int .u8 yt)).setCell ⟨W.heap.size + 1, 2, none⟩ (.int .u8 yf)).heap.size = W.heap.size + 2 := by rw [World.size_setCell, World.size_setCell]; exact hs1
        generalize ((W1.drewN qq).setCell ⟨W.heap.size + 1, 1, none⟩ (.int .u8 yt)).setCell ⟨W.heap.size + 1, 2, none⟩ (.int .u8 yf) = wx at *
        clear na0 nm0 ni0 ni1 ni2 ni3 fi1 fi2 fi3 hkn HT1 HT2
        have x0 := hXI.cell (k := 0) rfl
        have x1 := hXI.cell (k := 1) rfl
        have x2 := hXI.cell (k := 2) rfl
        have x3 := hXI.cell (k := 3) rfl
        have xo := hXO.cell (k := 0) rfl
        have hownA := hXW.alloc (.cells #[.int .u16 xc, .int .u8 yt, .int .u8 yf, .int .u32 xk] 37)
        have hrA := reads_lit wx [.int .u16 xc, .int .u8 yt, .int .u8 yf, .int .u32 xk] 37 4 1 rfl
        have hne := fun (b : Nat) (hb : b < B1) => show some b ≠ v.ownBlock from fun e => by have := (hXW.lt b e.symm).1; omega
        have hb1x : B1 ≤ (wx.alloc (.cells #[.int .u16 xc, .int .u8 yt, .int .u8 yf, .int .u32 xk] 37)).heap.size := by rw [World.size_alloc]; omega
        have hby : (cntN (reachN l) m + 1) * 8 ≤ 140737488355328 := by omega
        have hml : cntN (reachN l) m + 1 ≤ maxLen := by simp only [maxLen]; omega
        have HXS := Lib.hid hXS
        clear hXS
        have hX2 := Lib.hid (And.intro hXA (And.intro hXR (And.intro hXB hXI)))
        have hNE := Lib.hid hne
        clear hXA hXR hXB hXI hne hXW
        generalize hcc : cellsI (pruneU (reachN l) l m) = cc at *
        have HCC := Lib.hid hcc
        clear hcc
        go_wp2_with (at_builtin; go_loud (refine wpList_append_any _ rfl (.tmp 37) (.tmp 39) 24 rfl B1 37 i0 _ 4 8 Try.underlying24 hi0 hz0 hz1 hz2 rfl (by omega) v (cntN (reachN l) m) cc rfl hownA (wx.heap.size + 1) (some ⟨wx.heap.size, 0, none⟩) 1 1 [.int .u16 xc, .int .u8 yt, .int .u8 yf, .int .u32 xk] rfl hrA (by simp [Value.oneCell']) hml hby hb1x ?_); intro v9 w9 own9 hg9 hat9; obtain ⟨A9, c9, hv9, hr9⟩ := own_reads own9; subst hv9; have hX9 := (hXO.alloc (.cells #[.int .u16 xc, .int .u8 yt, .int .u8 yf, .int .u32 xk] 37)).grown hg9 ((hNE.out) go hgo); have y0 := hX9.cell (k := 0) rfl; have y1 := hX9.frozen 0)
        go_end0
        obtain ⟨hXA, hXR, hXB, hXI⟩ := hX2.out
        have hXS := HXS.out
        have hne9 : ∀ b, b < wx.heap.size + 1 → v.ownBlock ≠ some b → (Value.slice A9 (cntN (reachN l) m + 1) c9).ownBlock ≠ some b := fun b hb h1 h2 => by
          rcases hat9 with h3 | h3
          · exact h1 (h3.symm.trans h2)
          · rw [h2] at h3
            have : b = wx.heap.size + 1 := by simpa using h3
            omega
        have hsz9 := hg9.size
        rw [World.size_alloc] at hsz9
        refine ⟨rfl, ⟨((hXA.alloc _).grown hg9 ((hNE.out) ga hga)).far (p := ⟨go, 0, none⟩) hgg _, ((hXR.alloc _).grown hg9 ((hNE.out) ba hba)).far (p := ⟨go, 0, none⟩) hbg _, ⟨_, hX9.set_ 0 _, ?_, ?_⟩, ?_⟩, ?_, ?_⟩
        · refine own_setCell7 ?_ (hne9 go (by have := hXO.lt; omega) (fun e => (hNE.out) go hgo e.symm)) _
          rw [HCNT.out, HSTEP.out, cellsI_append, hF.out, HCC.out]
          exact own9
        · exact hne9 rb (by omega) hv
        · exact (((((HBEL.out).trans (hXB.mono (HBEL.out).size)).alloc (by have := (HBEL.out).size; omega) _).grown hg9 (by rw [World.size_alloc]; have := (HBEL.out).size; omega) (fun k e => by have := (hownA.lt k e).1; have := HB01.out; omega))).setCell (p := ⟨go, 0, none⟩) hgo0 _
        · refine (Below.heap_setCell _ _ _ _ (by show rb ≠ go; omega)).trans ?_
          refine (hg9.block rb (by rw [World.size_alloc]; omega) (fun e => hv e.symm)).trans ?_
          exact (Below.heap_alloc wx _ rb (by omega)).trans (hXB.block rb hrb)
        · rw [World.size_setCell]; omega
    · have hF := Lib.hid (hf3 h13 h25)
      have e25 : ¬ (25 : Int) ≤ (D : Int) := by omega
      have e13 : ¬ (D : Int) = 13 := by omega
      clear hf1 hf2 hf3 hw1 hw2 h13 h25
      have HTO := Lib.hid hs1
      go_enter Try.func43, Try.ntmps43
      go_upto_region 6 with fail
      have hXI := HGI.out
      have hXA := HAT1.out
      have hXR := HROW1.out
      have hXO := HOUT1.out
      have hXW := HOWN1.out
      have hXB := HB1.out
      have hXS := hs1
      clear hs1
      clear hW
      clear_value W1
      generalize W1 = wx at *
      clear na0 nm0 ni0 ni1 ni2 ni3 fi1 fi2 fi3 hkn HTO
      have x0 := hXI.cell (k := 0) rfl
      have x1 := hXI.cell (k := 1) rfl
      have x2 := hXI.cell (k := 2) rfl
      have x3 := hXI.cell (k := 3) rfl
      have xo := hXO.cell (k := 0) rfl
      have hownA := hXW.alloc (.cells #[.int .u16 xc, .int .u8 xt, .int .u8 xf, .int .u32 xk] 37)
      have hrA := reads_lit wx [.int .u16 xc, .int .u8 xt, .int .u8 xf, .int .u32 xk] 37 4 1 rfl
      have hne := fun (b : Nat) (hb : b < B1) => show some b ≠ v.ownBlock from fun e => by have := (hXW.lt b e.symm).1; omega
      have hb1x : B1 ≤ (wx.alloc (.cells #[.int .u16 xc, .int .u8 xt, .int .u8 xf, .int .u32 xk] 37)).heap.size := by rw [World.size_alloc]; omega
      have hby : (cntN (reachN l) m + 1) * 8 ≤ 140737488355328 := by omega
      have hml : cntN (reachN l) m + 1 ≤ maxLen := by simp only [maxLen]; omega
      have HXS := Lib.hid hXS
      clear hXS
      have hX2 := Lib.hid (And.intro hXA (And.intro hXR (And.intro hXB hXI)))
      have hNE := Lib.hid hne
      clear hXA hXR hXB hXI hne hXW
      generalize hcc : cellsI (pruneU (reachN l) l m) = cc at *
      have HCC := Lib.hid hcc
      clear hcc
      go_wp2_with (at_builtin; go_loud (refine wpList_append_any _ rfl (.tmp 37) (.tmp 39) 24 rfl B1 37 i0 _ 4 8 Try.underlying24 hi0 hz0 hz1 hz2 rfl (by omega) v (cntN (reachN l) m) cc rfl hownA (wx.heap.size + 1) (some ⟨wx.heap.size, 0, none⟩) 1 1 [.int .u16 xc, .int .u8 xt, .int .u8 xf, .int .u32 xk] rfl hrA (by simp [Value.oneCell']) hml hby hb1x ?_); intro v9 w9 own9 hg9 hat9; obtain ⟨A9, c9, hv9, hr9⟩ := own_reads own9; subst hv9; have hX9 := (hXO.alloc (.cells #[.int .u16 xc, .int .u8 xt, .int .u8 xf, .int .u32 xk] 37)).grown hg9 ((hNE.out) go hgo); have y0 := hX9.cell (k := 0) rfl; have y1 := hX9.frozen 0)
      go_end0
      obtain ⟨hXA, hXR, hXB, hXI⟩ := hX2.out
      have hXS := HXS.out
      have hne9 : ∀ b, b < wx.heap.size + 1 → v.ownBlock ≠ some b → (Value.slice A9 (cntN (reachN l) m + 1) c9).ownBlock ≠ some b := fun b hb h1 h2 => by
        rcases hat9 with h3 | h3
        · exact h1 (h3.symm.trans h2)
        · rw [h2] at h3
          have : b = wx.heap.size + 1 := by simpa using h3
          omega
      have hsz9 := hg9.size
      rw [World.size_alloc] at hsz9
      refine ⟨rfl, ⟨((hXA.alloc _).grown hg9 ((hNE.out) ga hga)).far (p := ⟨go, 0, none⟩) hgg _, ((hXR.alloc _).grown hg9 ((hNE.out) ba hba)).far (p := ⟨go, 0, none⟩) hbg _, ⟨_, hX9.set_ 0 _, ?_, ?_⟩, ?_⟩, ?_, ?_⟩
      · refine own_setCell7 ?_ (hne9 go (by have := hXO.lt; omega) (fun e => (hNE.out) go hgo e.symm)) _
        rw [HCNT.out, HSTEP.out, cellsI_append, hF.out, HCC.out]
        exact own9
      · exact hne9 rb (by omega) hv
      · exact (((((HBEL.out).trans (hXB.mono (HBEL.out).size)).alloc (by have := (HBEL.out).size; omega) _).grown hg9 (by rw [World.size_alloc]; have := (HBEL.out).size; omega) (fun k e => by have := (hownA.lt k e).1; have := HB01.out; omega))).setCell (p := ⟨go, 0, none⟩) hgo0 _
      · refine (Below.heap_setCell _ _ _ _ (by show rb ≠ go; omega)).trans ?_
        refine (hg9.block rb (by rw [World.size_alloc]; omega) (fun e => hv e.symm)).trans ?_
        exact (Below.heap_alloc wx _ rb (by omega)).trans (hXB.block rb hrb)
      · rw [World.size_setCell]; omega

end Go.Proofs.Ytgalkidhgjgbhaa

/-! The walk of flow.Prune: the program without what no way leads to. -/
namespace Go.Proofs.Ytgalkidhgjgbhaa
open Go.RowKit
set_option linter.unusedVariables false

theorem own_rowK7 {W : World} {B n size : Nat} {e : TypeId} {v : Value} {xs : List Value} (h : W.ownsRow B e size v n xs) (hn : 0 < n) (hs : 0 < size) : ∃ g cap, v = .slice (some ⟨g, 0, none⟩) n cap ∧ B ≤ g ∧ n ≤ cap ∧ cap ≤ maxLen ∧ RowK W g e (cap * size) xs := by
  obtain ⟨hl, ⟨_, h0⟩ | ⟨g, cap, cur, rfl, hB, hb, h1, h2, h3, h4⟩⟩ := h
  · subst h0
    have := Nat.mul_pos hn hs
    simp at hl
    omega
  · exact ⟨g, cap, rfl, hB, h1, h2, cur, hb, h3, by rw [hl]; exact h4⟩
theorem made_nats7 (k : Nat) : (madeCells (Value.int .i64 0).cells (k * 1)).toList = natsV (List.replicate k 0) := by
  show (madeCells #[Value.int .i64 0] (k * 1)).toList = _
  rw [madeCells_one]
  simp [natsV]
theorem own_base7 {w : World} {B B' : Nat} {e : TypeId} {size n : Nat} {xs : List Value} {v : Value} (hb : B' ≤ B) (h : w.ownsRow B e size v n xs) : w.ownsRow B' e size v n xs := by
  refine ⟨h.1, ?_⟩
  rcases h.2 with h0 | ⟨g, cap, cur, h1, h2, h3⟩
  · exact .inl h0
  · exact .inr ⟨g, cap, cur, h1, Nat.le_trans hb h2, h3⟩
/-- The counts as far as they have been made. -/
def partN (R : List Bool) (n k : Nat) : List Nat := (List.range (n + 1)).map fun j => if j ≤ k then cntN R j else 0
theorem part_length (R : List Bool) (n k : Nat) : (partN R n k).length = n + 1 := by simp [partN]
theorem part_0 (R : List Bool) (n : Nat) : partN R n 0 = List.replicate (n + 1) 0 := by
  apply List.ext_getElem?
  intro j
  unfold partN
  rw [List.getElem?_map, List.getElem?_replicate]
  by_cases h : j < n + 1
  · rw [List.getElem?_range h, if_pos h]
    simp only [Option.map_some, Option.some.injEq]
    split
    · rename_i h0
      obtain rfl : j = 0 := by omega
      rfl
    · rfl
  · rw [List.getElem?_eq_none (by simp; omega), if_neg h]; rfl
theorem part_end (R : List Bool) (n : Nat) : partN R n n = (List.range (n + 1)).map (cntN R) := by
  unfold partN
  apply List.map_congr_left
  intro j hj
  rw [if_pos (by have := List.mem_range.1 hj; omega)]
theorem part_at (R : List Bool) {n k j : Nat} (hj : j ≤ k) (hn : j ≤ n) : (partN R n k).getD j 0 = cntN R j := by
  simp [partN, List.getD, show j < n + 1 by omega, if_pos hj]
theorem part_set (R : List Bool) {n k : Nat} (hk : k < n) : (partN R n k).set (k + 1) (cntN R (k + 1)) = partN R n (k + 1) := by
  apply List.ext_getElem?
  intro j
  rw [List.getElem?_set]
  unfold partN
  rw [List.getElem?_map, List.getElem?_map, List.length_map, List.length_range]
  by_cases h : k + 1 = j
  · subst h
    rw [if_pos rfl, if_pos (by omega), List.getElem?_range (by omega)]
    simp
  · rw [if_neg h]
    by_cases hj : j < n + 1
    · rw [List.getElem?_range hj]
      simp only [Option.map_some, Option.some.injEq]
      by_cases h1 : j ≤ k
      · rw [if_pos h1, if_pos (by omega)]
      · rw [if_neg h1, if_neg (by omega)]
    · rw [List.getElem?_eq_none (by simp; omega)]
      rfl
theorem app32 (a b c d e : Value) : (#[a, b, c] ++ #[d, e] : Array Value) = #[a, b, c, d, e] := rfl

theorem prune_do (l : List I) (hok : ∀ i ∈ l, i.Ok) (hP : FormedP l) (n : Nat) (hl : n = l.length) (hn : n ≤ 4096) (A : Option Addr) (cap ga ba go : Nat) (w w2 : World) (hr : Reads w w.heap.size 4 A n (cellsI l)) (hga : ga < w2.heap.size) (hba : ba < w2.heap.size) (hgo : go < w2.heap.size) (hgo0 : w.heap.size ≤ go) (hgg : ga ≠ go) (hbg : ba ≠ go)
    (hat : RowK w2 ga 27 1 [.slice (some ⟨ba, 0, none⟩) (n + 1) cap]) (hrow : RowK w2 ba 3 cap (natsV ((List.range (n + 1)).map (cntN (reachN l))))) (hout : RowK w2 go 24 1 [.slice none 0 0]) (hB : Below w.heap.size w w2) :
    Do7 l A n w2 43 #[.pointer (some ⟨ga, 0, none⟩), .pointer (some ⟨go, 0, none⟩)] (fun rb m W => PInv l n cap ga ba go w2.heap.size w rb m W) where
  call := callFn_of7 (f := 43) Try.func43 (by kernel_rfl) rfl
  start := fun rb W hrb hW => ⟨hat.below hW hga, hrow.below hW hba, ⟨_, hout.below hW hgo, World.ownsRow_nil _ _ _ _, by simp [Value.ownBlock]⟩, hB.trans (hW.mono hB.size)⟩
  below := fun rb m W W' hI hW => by
    obtain ⟨h1, h2, ⟨v, h3, h4, h5⟩, h6⟩ := hI
    exact ⟨h1.below hW h1.lt, h2.below hW h2.lt, ⟨v, h3.below hW h3.lt, own_below7 h4 hW, h5⟩, h6.trans (hW.mono h6.size)⟩
  old := fun rb m W hI => (hr.below hI.below).more hI.below.size
  no := fun rb m W hI hf => by
    obtain ⟨h1, h2, ⟨v, h3, h4, h5⟩, h6⟩ := hI
    have hf' : ¬ (reachN l).getD m false = true := by rw [hf]; simp
    refine ⟨h1, h2, ⟨v, h3, ?_, h5⟩, h6⟩
    rw [cntN_false hf']
    have : pruneU (reachN l) l (m + 1) = pruneU (reachN l) l m := by
      show pruneU (reachN l) l m ++ _ = _
      rw [if_neg hf', List.append_nil]
    rw [this]
    exact h4
  yes := fun rb m W hm hrb hrbl hr hI => by
    rw [app32]
    have h := prune1_any l hok hP n hl hn cap ga ba go w2.heap.size w hga hba hgo hgo0 hgg hbg hB.size rb m W hm hrb hrbl hr hI
    refine Calls.mono h ?_
    rintro e W' ⟨h1, h2, h3, h4⟩
    exact ⟨h1, h2, h3, h4⟩

set_option maxRecDepth 100000 in
set_option maxHeartbeats 4000000 in
theorem prune_any (l : List I) (hok : ∀ i ∈ l, i.Ok) (hP : FormedP l) (hz : (checkN l).2 = 0) (A : Option Addr) (n c : Nat) (w : World) (hr : Reads w w.heap.size 4 A n (cellsI l)) (hn : n ≤ 4096) :
    Calls Try.prog 18 #[.slice A n c] w (MakesInsts (pruneN (reachN l) l) w) := by
  obtain ⟨i0, hi0, hz0, hz1, hz2⟩ := info_parts info_intL
  have hl : n = l.length := by have := hr.1; rw [cellsI_length] at this; omega
  have hRl := (reach_kept hP).2
  rw [← hl] at hRl
  have hn0 : 0 < n := by have := hP.pos; omega
  have hreach := reach_any l hok hP hz A n c w hr hn
  have hdo := fun cap ga ba go w2 => prune_do l hok hP n hl hn A cap ga ba go w w2 hr
  have hgo := fun W hr' cap Inv hd => reached_walk l hok hP hz A n c W hr' hn 43 cap Inv hd
  have hlen : (pruneN (reachN l) l).length = cntN (reachN l) n := by unfold pruneN; rw [pruneU_length, hl]
  have hpr : pruneN (reachN l) l = pruneU (reachN l) l n := by unfold pruneN; rw [hl]
  unfold MakesInsts
  rw [hlen, hpr]
  unfold TellsBools at hreach
  rw [hRl] at hreach
  have HDO := Lib.hid hdo
  have HGO := Lib.hid hgo
  have HR0 := Lib.hid hr
  clear hdo hgo hlen hpr hr
  generalize hR : reachN l = R at *
  have HRR := Lib.hid hR
  have HL := Lib.hid hl
  have HRL := Lib.hid hRl
  have HOK := Lib.hid hok
  have HP := Lib.hid hP
  have HREACH := Lib.hid hreach
  clear hR hl hRl hok hP hz hreach
  go_enter Try.func18, Try.ntmps18
  go_wp2_with fail
  refine (HREACH.out).mono ?_
  rintro e w1 ⟨A1, c1, rfl, hr1, hB1, hf1⟩
  clear HREACH
  obtain ⟨b1, off1, rfl, hb1, -⟩ := cellB7 hr1 hn0
  have hfb := hf1 _ rfl
  simp only at hfb
  have HB1 := Lib.hid hB1
  have HR1 := Lib.hid hr1
  have hbs1 := hB1.size
  clear hB1 hr1 hf1
  go_wp2_with (refine wpList_make_full w1 rfl (.tmp 12) (.tmp 12) 27 rfl w1.heap.size 3 i0 _ 1 Try.underlying27 hi0 hz0 hz1 .i64 .i64 ((n : Int) + 1) ((n : Int) + 1) (n + 1) rfl rfl (by omega) (by omega) (by rw [hz2]; omega) (by simp only [maxLen]; omega) (Nat.le_refl _) ?_; intro w2 own2 hg2; rw [made_nats7] at own2; obtain ⟨gb, capb, hv, hgb, hcb, hmb, hrb⟩ := own_rowK7 own2 (by omega) (by omega); injection hv with hv1 hv2 hv3; injection hv1 with hv4; injection hv4 with hv5; subst hv5; subst hv3; rw [Nat.mul_one] at hrb; have HG2 := Lib.hid hg2; have HRB := Lib.hid hrb; clear own2 hg2 hrb hgb hcb hmb)
  clear hv2
  rename_i x1 x2
  clear x1 x2
  have hba0 : w1.heap.size < w2.heap.size := (HRB.out).lt
  have hB2 : Below w.heap.size w w2 := (HB1.out).grown HG2.out hbs1 (fun k e => by cases e)
  have hB3 : Below w.heap.size w (w2.alloc (.cells #[.slice (some ⟨w1.heap.size, 0, none⟩) (n + 1) (n + 1)] 27)) := hB2.alloc (by omega) _
  have hga3 : RowK (w2.alloc (.cells #[.slice (some ⟨w1.heap.size, 0, none⟩) (n + 1) (n + 1)] 27)) w2.heap.size 27 1 [.slice (some ⟨w1.heap.size, 0, none⟩) (n + 1) (n + 1)] := RowK.new w2 27 #[.slice (some ⟨w1.heap.size, 0, none⟩) (n + 1) (n + 1)] [.slice (some ⟨w1.heap.size, 0, none⟩) (n + 1) (n + 1)] rfl
  have hba3 : RowK (w2.alloc (.cells #[.slice (some ⟨w1.heap.size, 0, none⟩) (n + 1) (n + 1)] 27)) w1.heap.size 3 (n + 1) (natsV (partN R n 0)) := by
    rw [part_0]
    exact (HRB.out).alloc _
  have hr3 : Reads (w2.alloc (.cells #[.slice (some ⟨w1.heap.size, 0, none⟩) (n + 1) (n + 1)] 27)) w1.heap.size 1 (some ⟨b1, off1, none⟩) n (boolsV R) := ((HR1.out).grown HG2.out (Nat.le_refl _) (fun k e => by cases e)).alloc (by omega) _
  generalize w2.alloc (.cells #[.slice (some ⟨w1.heap.size, 0, none⟩) (n + 1) (n + 1)] 27) = w3 at *
  generalize w2.heap.size = ga at *
  generalize w1.heap.size = ba at *
  clear HG2 HRB HB1 HR1 hB2
  have S3 := Lib.hid (And.intro hga3 (And.intro hba3 (And.intro hr3 hB3)))
  clear hga3 hba3 hr3 hB3
  go_loopw [16] (fun i wr => ∃ k : Nat, k ≤ n ∧ i = .int .i64 k ∧ RowK wr ga 27 1 [.slice (some ⟨ba, 0, none⟩) (n + 1) (n + 1)] ∧ RowK wr ba 3 (n + 1) (natsV (partN R n k)) ∧ Reads wr ba 1 (some ⟨b1, off1, none⟩) n (boolsV R) ∧ Below w.heap.size w wr) (fun i _ => n - (intOf i).toNat)
  case atStart => exact ⟨0, by omega, rfl, (S3.out).1, (S3.out).2.1, (S3.out).2.2.1, (S3.out).2.2.2⟩
  case round =>
    obtain ⟨k, hk, rfl, hat, hrow, hrd, hB⟩ := hrel
    by_cases hlt : k < n
    · obtain ⟨b2, off2, he2, hb2, hc2⟩ := cellB7 hrd hlt
      cases he2
      have z0 : (0 : Int) ≤ (k : Int) := by omega
      have z1 : (k : Int) < (n : Int) := by omega
      have z2 : (0 : Int) ≤ (k : Int) + 1 := by omega
      have z3 : (k : Int) < (n : Int) + 1 := by omega
      have z4 : (k : Int) + 1 < (n : Int) + 1 := by omega
      have z5 : ((k : Int) + 1).toNat = k + 1 := by omega
      have z6 : IntKind.i64.wrap ((k : Int) + 1) = (k : Int) + 1 := by rw [IntKind.wrap_i64]; omega
      have a0 := hat.cell (k := 0) rfl
      have r0 := hrow.cell (natsV_get _ k (by rw [part_length]; omega))
      have r1 := hrow.cell (natsV_get _ (k + 1) (by rw [part_length]; omega))
      rw [part_at R (Nat.le_refl k) hk] at r0
      have f1 := hrow.frozen (k + 1)
      have hcle := cntN_le R k
      have hset := part_set R hlt
      have hct := @cntN_true R k
      have hcf := @cntN_false R k
      have S := Lib.hid (And.intro hat (And.intro hrow (And.intro hrd hB)))
      have HSET := Lib.hid hset
      have HCT := Lib.hid hct
      have HCF := Lib.hid hcf
      generalize (partN R n k).getD (k + 1) 0 = old at r1
      have hgb := hat.lt
      have hbl := hrow.lt
      have hneg : ga ≠ ba := by omega
      clear hat hrow hrd hB hset hct hcf
      generalize hcn : cntN R k = cn at *
      have HCN := Lib.hid hcn
      clear hcn
      cases hb : R.getD k false with
      | false =>
        rw [hb] at hc2
        have HB := Lib.hid hb
        clear hb
        go_wp2_with fail
        go_region
        go_wp2_with fail
        go_roundw
        case rel =>
          obtain ⟨hat, hrow, hrd, hB⟩ := S.out
          have h := hrow.set_ (k + 1) (.int .i64 (cn : Nat))
          rw [natsV_set, show (partN R n k).set (k + 1) cn = partN R n (k + 1) by rw [← (HCF.out) (by rw [HB.out]; simp)]; exact HSET.out] at h
          exact ⟨k + 1, by omega, by go_num, hat.far (p := ⟨ba, k + 1, none⟩) hneg _, h, hrd.setCell (Nat.le_refl _) _, (hB.setCell (p := ⟨ba, k + 1, none⟩) hbs1 _).drew⟩
        case measure => simp [intOf]; omega
      | true =>
        rw [hb] at hc2
        have HB := Lib.hid hb
        clear hb
        go_wp2_with fail
        go_region
        go_wp2_with fail
        go_roundw
        case rel =>
          obtain ⟨hat, hrow, hrd, hB⟩ := S.out
          have h := (hrow.set_ (k + 1) (.int .i64 (cn : Nat))).set_ (k + 1) (.int .i64 ((cn + 1 : Nat) : Int))
          rw [natsV_set, natsV_set, List.set_set, show (partN R n k).set (k + 1) (cn + 1) = partN R n (k + 1) by rw [← (HCT.out) HB.out]; exact HSET.out] at h
          have e1 : (cn : Int) + 1 = ((cn + 1 : Nat) : Int) := by omega
          rw [e1]
          exact ⟨k + 1, by omega, by go_num, (hat.far (p := ⟨ba, k + 1, none⟩) hneg _).far (p := ⟨ba, k + 1, none⟩) hneg _, h, (hrd.setCell (Nat.le_refl _) _).setCell (Nat.le_refl _) _, ((hB.setCell (p := ⟨ba, k + 1, none⟩) hbs1 _).setCell (p := ⟨ba, k + 1, none⟩) hbs1 _).drew⟩
        case measure => simp [intOf]; omega
    · obtain rfl : k = n := by omega
      have hW4 : Below w.heap.size w (wr.alloc (.cells #[.slice none 0 0] 24)) := hB.alloc hB.size _
      rw [part_end] at hrow
      have hgo4 : RowK (wr.alloc (.cells #[.slice none 0 0] 24)) wr.heap.size 24 1 [.slice none 0 0] := RowK.new wr 24 #[.slice none 0 0] [.slice none 0 0] rfl
      have hgl := hat.lt
      have hbl := hrow.lt
      have hdo := (HDO.out) (k + 1) ga ba wr.heap.size (wr.alloc (.cells #[.slice none 0 0] 24)) (by rw [World.size_alloc]; omega) (by rw [World.size_alloc]; omega) (by rw [World.size_alloc]; omega) hB.size (by omega) (by omega) (hat.alloc _) (hrow.alloc _) hgo4 hW4
      have HCALL := Lib.hid ((HGO.out) (wr.alloc (.cells #[.slice none 0 0] 24)) (((HR0.out).below hW4).more hW4.size) _ _ hdo)
      have hws := hW4.size
      clear hW4 hrow hat hgo4 hrd hB hdo
      go_wp2_with fail
      refine (HCALL.out).mono ?_
      rintro e w5 ⟨rfl, rb, hrb, hI⟩
      obtain ⟨-, -, ⟨v, hout, hown, -⟩, hbel⟩ := hI
      have o0 := hout.cell (k := 0) rfl
      rw [HRR.out] at hown
      have HOWN := Lib.hid (own_base7 hws hown)
      have HBEL := Lib.hid hbel
      clear hown hbel hout
      go_wp2_with fail
      go_ret
      exact ⟨v, rfl, HOWN.out, HBEL.out⟩
end Go.Proofs.Ytgalkidhgjgbhaa
