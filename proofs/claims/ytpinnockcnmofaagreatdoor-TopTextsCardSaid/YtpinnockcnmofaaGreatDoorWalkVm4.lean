/-
  The walk of a machine's deed that loads a word.
-/
import Derived.Test.YtpinnockcnmofaaGreatDoorWalkVm23
import Derived.Test.YtpinnockcnmofaaGreatDoorWalkGet
import Derived.Test.YtpinnockcnmofaaGreatDoorGrow
import Derived.Deep.RegionLaw
namespace Go.Proofs.YtpinnockcnmofaaGreatDoor
open Go.RowKit
set_option linter.unusedVariables false

theorem info_int : (Tryz.prog.info? 3).map (fun i => (i.zero, i.size, i.bytes)) = some (some (.int .i64 0), 1, 8) := by kernel_rfl
theorem own_belowV {W W' : World} {base : Nat} {e : TypeId} {size n : Nat} {v : Value} {xs : List Value} (h : W.ownsRow base e size v n xs) (hB : Below W.heap.size W W') : W'.ownsRow base e size v n xs := by
  refine h.kept (row := none) ⟨hB.os, hB.tape, hB.output, hB.size, fun k hk _ => hB.block k hk⟩ ?_
  cases v.ownBlock with
  | none => exact .inl rfl
  | some g => exact .inr (fun e => by cases e)
theorem own_setV {W : World} {B : Nat} {e : TypeId} {size n : Nat} {xs : List Value} {v : Value} (h : W.ownsRow B e size v n xs) {p : Addr} (hp : p.block < B) (u : Value) : (W.setCell p u).ownsRow B e size v n xs := by
  refine ⟨h.1, ?_⟩
  rcases h.2 with h0 | ⟨g, cap, cur, h1, h2, h3, h4⟩
  · exact .inl h0
  · subst h1
    exact .inr ⟨g, cap, cur, rfl, h2, (Below.heap_setCell _ _ _ _ (by omega)).trans h3, h4⟩
theorem own_lt {W : World} {B : Nat} {e : TypeId} {size n : Nat} {xs : List Value} {v : Value} (h : W.ownsRow B e size v n xs) {k : Nat} (hk : v.ownBlock = some k) : k < W.heap.size := by
  rcases h.2 with ⟨h0, _⟩ | ⟨g, cap, cur, h1, h2, h3, h4⟩
  · subst h0; cases hk
  · subst h1
    have : g = k := by simpa [Value.ownBlock] using hk
    subst this
    exact (Array.getElem?_eq_some_iff.1 h3).1
theorem own_but {W W' : World} {g B : Nat} {e : TypeId} {size n : Nat} {xs : List Value} {v : Value} (h : W.ownsRow B e size v n xs) (hB : ButG g W W') (hg : g < B) : W'.ownsRow B e size v n xs := by
  refine ⟨h.1, ?_⟩
  rcases h.2 with h0 | ⟨k, cap, cur, h1, h2, h3, h4⟩
  · exact .inl h0
  · subst h1
    exact .inr ⟨k, cap, cur, rfl, h2, (hB.block k (Array.getElem?_eq_some_iff.1 h3).1 (by omega)).trans h3, h4⟩
theorem reads_but {g : Nat} {w w' : World} (h : ButG g w w') {size b off n : Nat} {xs : List Value} (hb : b ≠ g) (hr : Reads w w.heap.size size (some ⟨b, off, none⟩) n xs) : Reads w' w'.heap.size size (some ⟨b, off, none⟩) n xs := by
  refine ⟨hr.1, fun h0 => ?_⟩
  obtain ⟨ad, e, hlt, hc⟩ := hr.2 h0
  cases e
  refine ⟨_, rfl, Nat.lt_of_lt_of_le hlt h.size, fun j u hu => ?_⟩
  rw [← hc j u hu]
  refine World.cell?_of_block ?_
  have : (Addr.add ⟨b, off, none⟩ j).block = b := by unfold Addr.add; split <;> rfl
  rw [this]
  exact h.block b hlt hb

/-- All old blocks but one, up to two behind it, are as they were. -/
structure ButW (g : Nat) (w w' : World) : Prop where
  os : w'.os = w.os
  tape : w'.tape = w.tape
  output : w'.output = w.output
  size : w.heap.size ≤ w'.heap.size
  block : ∀ k, k < w.heap.size → k < g + 2 → k ≠ g → w'.heap[k]? = w.heap[k]?
theorem ButW.of_but {g : Nat} {w w' : World} (h : ButG g w w') : ButW g w w' := ⟨h.os, h.tape, h.output, h.size, fun k hk _ hg => h.block k hk hg⟩
theorem ButW.refl (g : Nat) (w : World) : ButW g w w := .of_but (.refl g w)
theorem ButW.trans {g : Nat} {a b c : World} (h : ButW g a b) (k : ButW g b c) : ButW g a c := ⟨k.os.trans h.os, k.tape.trans h.tape, k.output.trans h.output, Nat.le_trans h.size k.size, fun j hj h2 hg => (k.block j (Nat.lt_of_lt_of_le hj h.size) h2 hg).trans (h.block j hj h2 hg)⟩
theorem ButW.setCell {g : Nat} {a w : World} (h : ButW g a w) {off : Nat} (v : Value) : ButW g a (w.setCell ⟨g, off, none⟩ v) :=
  h.trans (.of_but ((ButG.refl g w).setCell rfl v))
theorem ButW.grown {g : Nat} {a w w' : World} (h : ButW g a w) {row : Option Nat} (hg : w.grownBy w' row) (hr : ∀ k, row = some k → g + 2 ≤ k) : ButW g a w' :=
  h.trans ⟨hg.os, hg.tape, hg.output, hg.size, fun k hk h2 _ => hg.block k hk (fun e => by have := hr k e.symm; omega)⟩
theorem ButW.below {g B : Nat} {w w' : World} (h : ButW g w w') (hg : B ≤ g) (hB : B ≤ w.heap.size) : Below B w w' := ⟨h.os, h.tape, h.output, h.size, fun k hk => h.block k (Nat.lt_of_lt_of_le hk hB) (by omega) (by omega)⟩
theorem reads_butW {g : Nat} {w w' : World} (h : ButW g w w') {size b off n : Nat} {xs : List Value} (hb : b < g) (hr : Reads w w.heap.size size (some ⟨b, off, none⟩) n xs) : Reads w' w'.heap.size size (some ⟨b, off, none⟩) n xs := by
  refine ⟨hr.1, fun h0 => ?_⟩
  obtain ⟨ad, e, hlt, hc⟩ := hr.2 h0
  cases e
  refine ⟨_, rfl, Nat.lt_of_lt_of_le hlt h.size, fun j u hu => ?_⟩
  rw [← hc j u hu]
  refine World.cell?_of_block ?_
  have : (Addr.add ⟨b, off, none⟩ j).block = b := by unfold Addr.add; split <;> rfl
  rw [this]
  exact h.block b hlt (by omega) (by omega)

set_option maxRecDepth 100000 in
set_option maxHeartbeats 4000000 in
theorem load_any (i : I) (hi : i.Ok) (h60 : i.k ≤ 60) (f d : Nat) (x : Bool) (g : Nat) (bs : List Nat) (hbs : ∀ b ∈ bs, b < 256) (gb off cb : Nat) (hgb : gb ≠ g) (s : Vs) (hs : s.Ok) (st : Nat) (ld : Value) (q : Nat) (xs : List Value) (hq : q ≤ 1000000) (w : World)
    (hr : RowK w g 121 23 (runC (.slice (some ⟨gb, off, none⟩) 64 cb) s st ld)) (hrb : Reads w w.heap.size 1 (some ⟨gb, off, none⟩) 64 (bytesV bs)) (hown : w.ownsRow (g + 2) 3 1 ld q xs) (hy : getN bs i.k 4 false < 4294967296) :
    Calls Tryz.prog 68 #[.pointer (some ⟨g, 0, none⟩), opA i f d x] w fun e w' => e = .returned (.tuple #[]) ∧ (∃ ld' xs', RowK w' g 121 23 (runC (.slice (some ⟨gb, off, none⟩) 64 cb) { s with a := getN bs i.k 4 false } st ld') ∧ w'.ownsRow (g + 2) 3 1 ld' (q + 1) xs') ∧ ButW g w w' := by
  obtain ⟨i0, hi0, hz0, hz1, hz2⟩ := info_parts info_int
  have hlb : 64 = bs.length := by have := hrb.1; rw [bytesV_length] at this; omega
  obtain ⟨xc, xt, xf, xk⟩ := i
  simp only at h60 hy
  have hwr : wrongN 64 xk (4 : Nat) = 0 := by unfold wrongN; rw [if_neg (by omega), if_neg (by omega)]
  have hwr2 : wrongN bs.length xk (4 : Nat) = 0 := by rw [← hlb]; exact hwr
  have hget := fun W h => get_yes bs hbs (some ⟨gb, off, none⟩) 64 cb xk 4 false W h hlb (by omega) hwr (by omega) (by omega) (by omega)
  unfold TellsGet at hget
  rw [hwr2] at hget
  have hyy : getN bs (xk : Int) ((4 : Nat) : Int) false = getN bs xk 4 false := rfl
  rw [hyy] at hget
  generalize getN bs xk 4 false = y at *
  have c0 := hr.cell (k := 0) rfl
  have hgl := hr.lt
  have HLEN := Lib.hid hs.len
  have HGET := Lib.hid hget
  have HR := Lib.hid hr
  have HOWN := Lib.hid hown
  have ag2 : ld.ownBlock ≠ some w.heap.size := fun e => by have := own_lt hown e; omega
  have AG2 := Lib.hid ag2
  clear hget hr hown hyy hwr hwr2 ag2
  unfold opA
  simp only
  go_enter Tryz.func68, Tryz.ntmps68
  go_wp2_with fail
  have hri := RowK.new w 117 #[.int .u16 xc, .int .u8 xt, .int .u8 xf, .int .u32 xk, .func (.func f) #[] #[], .int .i64 d, .bool x] [.int .u16 xc, .int .u8 xt, .int .u8 xf, .int .u32 xk, .func (.func f) #[] #[], .int .i64 d, .bool x] rfl
  have hr1 := HR.out.alloc (.cells #[.int .u16 xc, .int .u8 xt, .int .u8 xf, .int .u32 xk, .func (.func f) #[] #[], .int .i64 d, .bool x] 117)
  have bg1 := (ButG.refl g w).alloc (.cells #[.int .u16 xc, .int .u8 xt, .int .u8 xf, .int .u32 xk, .func (.func f) #[] #[], .int .i64 d, .bool x] 117)
  have own1 := HOWN.out.alloc (.cells #[.int .u16 xc, .int .u8 xt, .int .u8 xf, .int .u32 xk, .func (.func f) #[] #[], .int .i64 d, .bool x] 117)
  have hrb1 : Reads (w.alloc (.cells #[.int .u16 xc, .int .u8 xt, .int .u8 xf, .int .u32 xk, .func (.func f) #[] #[], .int .i64 d, .bool x] 117)) (w.alloc (.cells #[.int .u16 xc, .int .u8 xt, .int .u8 xf, .int .u32 xk, .func (.func f) #[] #[], .int .i64 d, .bool x] 117)).heap.size 1 (some ⟨gb, off, none⟩) 64 (bytesV bs) := (hrb.alloc (Nat.le_refl _) _).more (by simp)
  have hsz1 : (w.alloc (.cells #[.int .u16 xc, .int .u8 xt, .int .u8 xf, .int .u32 xk, .func (.func f) #[] #[], .int .i64 d, .bool x] 117)).heap.size = w.heap.size + 1 := by simp
  generalize w.alloc (.cells #[.int .u16 xc, .int .u8 xt, .int .u8 xf, .int .u32 xk, .func (.func f) #[] #[], .int .i64 d, .bool x] 117) = W0 at *
  have c0 := hr1.cell (k := 0) rfl
  have g3 := hri.cell (k := 3) rfl
  have hgl1 := hr1.lt
  have a0 := as_cell c0
  have a3 := as_cell g3
  have HR1 := Lib.hid hr1
  have HRI := Lib.hid hri
  have BG1 := Lib.hid bg1
  have OWN1 := Lib.hid own1
  have HRB1 := Lib.hid hrb1
  have HRB := Lib.hid hrb
  have HSZ1 := Lib.hid hsz1
  clear hr1 hri bg1 own1 hrb1 hrb c0 g3 HR HOWN hsz1 hbs hs hlb
  refine wp_region_grow (by kernel_rfl) (by kernel_rfl) ?_
  repeat (first
    | go_big_quiet_skip
    | (go_big_quiet_want
       first
         | (go_big_quiet_op
            first
              | go_big_quiet_on
              | go_big_quiet_call (first
                  | (go_at_call 13; exact calls_grow (HGET.out _ (as_reads HRB1.out _)))))))
  refine wpQuiet_nil ?_
  intro w5 hg5
  have hr5 := HR1.out.below hg5 HR1.out.lt
  have hri5 := HRI.out.below hg5 (by rw [HSZ1.out]; omega)
  have own5 := own_belowV OWN1.out hg5
  have bg5 := BG1.out.trans (.of_below hg5)
  have c2 := hr5.cell (k := 2) rfl
  have f2 := hr5.frozen 2
  have hgl5 := hr5.lt
  have hw : IntKind.u32.wrap (y : Int) = (y : Int) := by simp [IntKind.wrap, IntKind.bits, IntKind.signed]; omega
  have hr6 := hr5.set_ 2 (.int .u32 y)
  have hri6 := hri5.far (p := ⟨g, 2, none⟩) (by show w.heap.size ≠ g; omega) (.int .u32 y)
  have own6 := own_setV own5 (p := ⟨g, 2, none⟩) (by show g < g + 2; omega) (.int .u32 y)
  have bg6 := bg5.setCell (p := ⟨g, 2, none⟩) rfl (.int .u32 y)
  have hgl6 := hr6.lt
  have hszw : w.heap.size < (w5.setCell ⟨g, 2, none⟩ (.int .u32 y)).heap.size := by have := hri6.lt; exact this
  have HR6 := Lib.hid hr6
  have HRI6 := Lib.hid hri6
  have OWN6 := Lib.hid own6
  have BG6 := Lib.hid bg6
  clear hr5 hri5 own5 bg5 hr6 hri6 own6 bg6 HR1 HRI OWN1 BG1 HRB1 a0 a3 hg5
  go_wp2_with fail
  generalize w5.setCell ⟨g, 2, none⟩ (.int .u32 y) = w6 at *
  have hr22 : (runC (.slice (some ⟨gb, off, none⟩) 64 cb) { s with a := y } st ld)[22]? = some ld := runC_loads HLEN.out
  have c22 := HR6.out.cell (k := 22) hr22
  have f22 := HR6.out.frozen 22
  have g3 := HRI6.out.cell (k := 3) rfl
  have hown := OWN6.out
  have ag : ld.ownBlock ≠ some g := fun e => by have := (hown.lt g e).1; omega
  have ag2 := AG2.out
  clear c2 f2
  have hwk : IntKind.i64.wrap (xk : Int) = (xk : Int) := by simp [IntKind.wrap, IntKind.bits, IntKind.signed]; omega
  have c22' : ∀ (o : Obj) (w1 : World), ((w6.alloc o).drew).grownBy w1 ld.ownBlock → w1.cell? ⟨g, 22, none⟩ = some ld ∧ w1.frozen? ⟨g, 22, none⟩ = false := fun o w1 hgrow =>
    ⟨(hgrow.cell_far ⟨g, 22, none⟩ (by simp; omega) (Ne.symm ag)).trans ((HR6.out.alloc o).cell (k := 22) hr22), (hgrow.frozen_far ⟨g, 22, none⟩ (by simp; omega) (Ne.symm ag)).trans ((HR6.out.alloc o).frozen 22)⟩
  have C22 := Lib.hid c22'
  have HOWN := Lib.hid hown
  clear c22' hown hr22
  go_region_law ((refine step_append_lies _ (by rfl) _ _ _ (by rfl) (g + 2) 3 i0 _ 1 8 Tryz.underlying37 hi0 hz0 hz1 hz2 rfl (by omega) ld q xs (by rfl) ((HOWN.out.alloc _).drew) ⟨w6.heap.size, 0, none⟩ 1 1 [.int .i64 xk] (by rfl) (by rfl) (World.news_of_block (cs := #[.int .i64 xk]) (t := 3) (fr := (0, 0)) (heap_alloc_new w6 _)) (by simp [Value.oneCell']) (by omega) (by simp only [maxLen]; omega) (by omega) (by simp; omega) (w6.heap.size + 1) (by simp) ?_; intro gg cap w1 hown1 hgrow hat hlt1; obtain ⟨c22', f22'⟩ := C22.out _ _ hgrow))
  all_goals
    go_end0
    refine ⟨rfl, ⟨.slice (some ⟨gg, 0, none⟩) (q + 1) cap, _, ?_, own_setV hown1 (p := ⟨g, 22, none⟩) (by show g < g + 2; omega) _⟩, ?_⟩
    · have r1 := ((HR6.out.alloc _).drew.grown hgrow (Ne.symm ag)).set_ 22 (.slice (some ⟨gg, 0, none⟩) (q + 1) cap)
      have e := runC_setLoads (b := .slice (some ⟨gb, off, none⟩) 64 cb) (s := { s with a := y }) (st := st) (ld := ld) HLEN.out (.slice (some ⟨gg, 0, none⟩) (q + 1) cap)
      have r2 : RowK _ g _ 23 ((runC (.slice (some ⟨gb, off, none⟩) 64 cb) { s with a := y } st ld).set 22 (.slice (some ⟨gg, 0, none⟩) (q + 1) cap)) := r1
      rw [e] at r2
      exact r2
    · exact ((ButW.of_but ((BG6.out.alloc _).drew)).grown hgrow (fun k e => (HOWN.out.lt k e).1)).setCell _
end Go.Proofs.YtpinnockcnmofaaGreatDoor
