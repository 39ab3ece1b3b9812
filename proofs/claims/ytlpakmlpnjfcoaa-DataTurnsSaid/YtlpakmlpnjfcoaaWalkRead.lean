/-
  The walks of data.Read and its closure.
-/
import Derived.Test.YtlpakmlpnjfcoaaEq05
namespace Go.Proofs.Ytlpakmlpnjfcoaa
open Go.RowKit
set_option linter.unusedVariables false

def TellsNum (n : Nat) (w : World) (e : Ending) (w' : World) : Prop := e = .returned (.int .u64 (n : Nat)) ∧ Below w.heap.size w w'

set_option maxRecDepth 100000 in
set_option maxHeartbeats 1000000 in
theorem dget_any (l : List Nat) (hok : ∀ b ∈ l, b < 256) (A : Option Addr) (n c pb qb : Nat) (at_ width : Int) (big : Bool) (w : World) (hr : Reads w w.heap.size 1 A n (bytesV l)) (hn : n ≤ 1000000)
    (hb : w.cell? ⟨pb, 0, none⟩ = some (.slice A n c)) (hq : w.cell? ⟨qb, 0, none⟩ = some (.bool big)) :
    Calls Try.prog 53 #[.int .i64 at_, .int .i64 width, .pointer (some ⟨pb, 0, none⟩), .pointer (some ⟨qb, 0, none⟩)] w (TellsNum (getN l at_ width big) w) := by
  go_enter Try.func53, Try.ntmps53
  go_wp2_with fail
  refine (get_any l hok A n c at_ width big _ hr hn).mono ?_
  rintro e w1 ⟨rfl, hB⟩
  go_wp2_with fail
  go_ret
  exact ⟨rfl, hB⟩

/-- The record of 64 bytes. -/
def recR (l : List Nat) (big : Bool) : RecV := ⟨getN l 0 4 big, getN l 4 4 big, getN l 8 8 big, (List.range 6).map fun i : Nat => getN l ((16 + 8 * i : Nat) : Int) 8 big⟩
/-- Its cells with so many arguments. -/
def recU (a b c : Nat) (f : Nat → Nat) (k : Nat) : Array Value := #[.int .u32 a, .int .u32 b, .int .u64 c, .int .u64 (if 0 < k then f 0 else 0 : Nat), .int .u64 (if 1 < k then f 1 else 0 : Nat), .int .u64 (if 2 < k then f 2 else 0 : Nat), .int .u64 (if 3 < k then f 3 else 0 : Nat), .int .u64 (if 4 < k then f 4 else 0 : Nat), .int .u64 (if 5 < k then f 5 else 0 : Nat)]
theorem recU_set (a b c : Nat) (f : Nat → Nat) (k : Nat) (hk : k < 6) : (recU a b c f k).setIfInBounds (3 + k) (.int .u64 (f k : Nat)) = recU a b c f (k + 1) := by
  match k, hk with
  | 0, _ => simp [recU]
  | 1, _ => simp [recU]
  | 2, _ => simp [recU]
  | 3, _ => simp [recU]
  | 4, _ => simp [recU]
  | 5, _ => simp [recU]
theorem recU_full (l : List Nat) (big : Bool) : recU (getN l 0 4 big) (getN l 4 4 big) (getN l 8 8 big) (fun i => getN l ((16 + 8 * i : Nat) : Int) 8 big) 6 = (recR l big).cells.toArray := by
  simp [recU, recR, RecV.cells, u64sV, List.range_succ]
theorem getN_lt (l : List Nat) (hok : ∀ b ∈ l, b < 256) (at_ width : Nat) (big : Bool) : getN l at_ width big < 256 ^ width := by
  unfold getN
  split
  · have h := valBE_cons_lt (wordN l (at_ : Int).toNat (width : Int).toNat big) (fun b hb => by
      unfold wordN at hb
      obtain ⟨k, _, rfl⟩ := List.mem_map.1 hb
      rw [List.getD_eq_getElem?_getD]
      cases h : l[placeN (at_ : Int).toNat (width : Int).toNat big k]? with
      | none => simp
      | some x => simp; exact hok x (List.mem_of_getElem? h))
    simpa [wordN] using h
  · exact Nat.pow_pos (by omega)
theorem recR_ok (l : List Nat) (hok : ∀ b ∈ l, b < 256) (big : Bool) : (recR l big).Ok where
  number := by have := getN_lt l hok 0 4 big; have e : 256 ^ 4 = 4294967296 := (by decide); rw [e] at this; exact this
  arch := by have := getN_lt l hok 4 4 big; have e : 256 ^ 4 = 4294967296 := (by decide); rw [e] at this; exact this
  pointer := by have := getN_lt l hok 8 8 big; have e : 256 ^ 8 = 18446744073709551616 := (by decide); rw [e] at this; exact this
  args := by simp [recR]
  arg := fun n hn => by
    obtain ⟨i, _, rfl⟩ := List.mem_map.1 hn
    have := getN_lt l hok (16 + 8 * i) 8 big
    have e : 256 ^ 8 = 18446744073709551616 := by decide
    rw [e] at this; exact this

/-- What data.Read tells. -/
def recN (l : List Nat) (big : Bool) : RecV := if l.length = 64 then recR l big else ⟨0, 0, 0, [0, 0, 0, 0, 0, 0]⟩
def errR (n : Nat) : Nat := if n < 64 then 2 else if 64 < n then 3 else 0
def TellsRead (l : List Nat) (big : Bool) (w : World) (e : Ending) (w' : World) : Prop := e = .returned (.tuple #[.agg (recN l big).cells.toArray, .int .i64 (errR l.length : Nat)]) ∧ Below w.heap.size w w'

set_option maxRecDepth 100000 in
set_option maxHeartbeats 1000000 in
theorem dread_no (l : List Nat) (A : Option Addr) (n c : Nat) (big : Bool) (w : World) (hl : n = l.length) (hn : n ≤ 1000000) (hne : n ≠ 64) :
    Calls Try.prog 38 #[.slice A n c, .bool big] w (TellsRead l big w) := by
  have e1 : recN l big = ⟨0, 0, 0, [0, 0, 0, 0, 0, 0]⟩ := if_neg (by omega)
  unfold TellsRead
  rw [e1, ← hl]
  have HL := Lib.hid hl
  clear hl e1
  by_cases h : n < 64
  · have e2 : errR n = 2 := if_pos h
    rw [e2]
    clear e2
    go_enter Try.func38, Try.ntmps38
    go_wp2_with fail
    exact bodyPost_ret (v := .tuple #[.agg #[.int .u32 0, .int .u32 0, .int .u64 0, .int .u64 0, .int .u64 0, .int .u64 0, .int .u64 0, .int .u64 0, .int .u64 0], .int .i64 2]) (by simp [results, Try.results38, go_sem]) rfl ⟨rfl, (((Below.refl _ w).alloc (Nat.le_refl _) _).alloc (by simp) _).alloc (by simp; omega) _⟩
  · have e2 : errR n = 3 := by unfold errR; rw [if_neg h, if_pos (by omega)]
    rw [e2]
    clear e2
    have h2 : 64 < n := by omega
    go_enter Try.func38, Try.ntmps38
    go_wp2_with fail
    exact bodyPost_ret (v := .tuple #[.agg #[.int .u32 0, .int .u32 0, .int .u64 0, .int .u64 0, .int .u64 0, .int .u64 0, .int .u64 0, .int .u64 0, .int .u64 0], .int .i64 3]) (by simp [results, Try.results38, go_sem]) rfl ⟨rfl, (((Below.refl _ w).alloc (Nat.le_refl _) _).alloc (by simp) _).alloc (by simp; omega) _⟩

/-- What stays while a record is read. -/
structure RInv (w : World) (A : Option Addr) (n c : Nat) (big : Bool) (wr : World) : Prop where
  b_ : Blk wr w.heap.size 31 #[.slice A n c]
  big_ : Blk wr (w.heap.size + 1) 4 #[.bool big]
  res_ : ∃ Z : Array Value, Z.size = 9 ∧ Blk wr (w.heap.size + 1 + 1) 65 Z
  below : Below w.heap.size w wr
theorem RInv.start (w : World) (A : Option Addr) (n c : Nat) (big : Bool) (Z : Array Value) (hZ : Z.size = 9) : RInv w A n c big (((w.alloc (.cells #[.slice A n c] 31)).alloc (.cells #[.bool big] 4)).alloc (.cells Z 65)) := by
  have h1 := Blk.new w 31 #[.slice A n c]
  have h2 := Blk.new (w.alloc (.cells #[.slice A n c] 31)) 4 #[.bool big]
  have h3 := Blk.new ((w.alloc (.cells #[.slice A n c] 31)).alloc (.cells #[.bool big] 4)) 65 Z
  simp only [World.size_alloc] at h2 h3
  exact ⟨(h1.alloc _).alloc _, h2.alloc _, ⟨Z, hZ, h3⟩, (((Below.refl _ w).alloc (Nat.le_refl _) _).alloc (by simp) _).alloc (by simp; omega) _⟩
theorem RInv.grows {w wr w1 : World} {A : Option Addr} {n c : Nat} {big : Bool} (h : RInv w A n c big wr) (hg : Below wr.heap.size wr w1) : RInv w A n c big w1 := by
  obtain ⟨Z, hZ, hb⟩ := h.res_
  exact ⟨h.b_.below hg h.b_.lt, h.big_.below hg h.big_.lt, ⟨Z, hZ, hb.below hg hb.lt⟩, h.below.trans (hg.mono h.below.size)⟩
theorem RInv.setCell {w wr : World} {A : Option Addr} {n c : Nat} {big : Bool} (h : RInv w A n c big wr) {p : Addr} (hp : w.heap.size + 1 + 1 < p.block) (u : Value) : RInv w A n c big (wr.setCell p u) := by
  obtain ⟨Z, hZ, hb⟩ := h.res_
  exact ⟨h.b_.far (by omega) u, h.big_.far (by omega) u, ⟨Z, hZ, hb.far (by omega) u⟩, h.below.setCell (by omega) u⟩

set_option maxRecDepth 100000 in
set_option maxHeartbeats 4000000 in
theorem dread_yes (l : List Nat) (hok : ∀ b ∈ l, b < 256) (A : Option Addr) (c : Nat) (big : Bool) (w : World) (hl : l.length = 64) (hr : Reads w w.heap.size 1 A 64 (bytesV l)) :
    Calls Try.prog 38 #[.slice A 64 c, .bool big] w (TellsRead l big w) := by
  have e1 : recN l big = recR l big := if_pos hl
  have e2 : errR 64 = 0 := by decide
  have e3 := recR_ok l hok big
  have e4 := recU_full l big
  have u1 : getN l 0 4 big < 4294967296 := e3.number
  have u2 : getN l 4 4 big < 4294967296 := e3.arch
  unfold TellsRead
  rw [e1, hl, e2]
  have E := Lib.hid e4
  clear e1 e2 e3 hl e4
  generalize h1 : getN l 0 4 big = n1 at *
  generalize h2 : getN l 4 4 big = n2 at *
  generalize h3 : getN l 8 8 big = n3 at *
  have H1 := Lib.hid h1
  have H2 := Lib.hid h2
  have H3 := Lib.hid h3
  clear h1 h2 h3
  go_enter Try.func38, Try.ntmps38
  go_wp2_with fail
  refine (dget_any l hok A 64 c _ _ 0 4 big _ ?hr (by omega) ?hb ?hq).mono ?_
  case hr => exact (hr.below (RInv.start w A 64 c big _ rfl).below).more (RInv.start w A 64 c big _ rfl).below.size
  case hb => exact (RInv.start w A 64 c big _ rfl).b_.cell 0
  case hq => exact (RInv.start w A 64 c big _ rfl).big_.cell 0
  rintro e w1 ⟨rfl, hB1⟩
  have hI1 := (RInv.start w A 64 c big _ rfl).grows hB1
  rw [H1.out]
  clear hB1
  go_wp2_with fail
  refine (dget_any l hok A 64 c _ _ 4 4 big _ ((hr.below hI1.below).more hI1.below.size) (by omega) (hI1.b_.cell 0) (hI1.big_.cell 0)).mono ?_
  rintro e w2 ⟨rfl, hB2⟩
  have hI2 := hI1.grows hB2
  rw [H2.out]
  clear hB2 hI1
  go_wp2_with fail
  refine (dget_any l hok A 64 c _ _ 8 8 big _ ((hr.below hI2.below).more hI2.below.size) (by omega) (hI2.b_.cell 0) (hI2.big_.cell 0)).mono ?_
  rintro e w3 ⟨rfl, hB3⟩
  have hI3 := hI2.grows hB3
  rw [H3.out]
  clear hB3 hI2
  have hgt : w.heap.size + 1 + 1 < w3.heap.size := by obtain ⟨Z, _, hb⟩ := hI3.res_; exact hb.lt
  go_wp2_with fail
  have hI4 := hI3.grows ((Below.refl w3.heap.size w3).alloc (Nat.le_refl _) (.cells (recU n1 n2 n3 (fun i => getN l ((16 + 8 * i : Nat) : Int) 8 big) 0) 65))
  have hb4 := Blk.new w3 65 (recU n1 n2 n3 (fun i => getN l ((16 + 8 * i : Nat) : Int) 8 big) 0)
  change Code.wp _ _ _ _ (w3.alloc (.cells (recU n1 n2 n3 (fun i => getN l ((16 + 8 * i : Nat) : Int) 8 big) 0) 65))
  generalize w3.alloc (.cells (recU n1 n2 n3 (fun i => getN l ((16 + 8 * i : Nat) : Int) 8 big) 0) 65) = w4 at *
  generalize w3.heap.size = g at *
  clear hI3
  generalize hfe : (fun i : Nat => getN l ((16 + 8 * i : Nat) : Int) 8 big) = f at *
  have HF := Lib.hid hfe
  clear hfe
  go_loopw [29] (fun i wr => ∃ k : Nat, k ≤ 6 ∧ i = .int .i64 k ∧ Blk wr g 65 (recU n1 n2 n3 f k) ∧ RInv w A 64 c big wr) (fun i _ => 6 - (intOf i).toNat)
  case atStart => exact ⟨0, by omega, rfl, hb4, hI4⟩
  case round =>
    obtain ⟨k, hk, rfl, hb, hI⟩ := hrel
    by_cases hlt : k < 6
    · have hstep := recU_set n1 n2 n3 f k hlt
      have hfk : getN l ((16 + 8 * k : Nat) : Int) 8 big = f k := congrFun HF.out k
      have HS := Lib.hid hstep
      have HK := Lib.hid hfk
      clear hstep hfk hb4 hI4
      go_wp2_with fail
      rw [show (16 + 8 * (k : Int)) = ((16 + 8 * k : Nat) : Int) from by omega]
      refine (dget_any l hok A 64 c _ _ _ 8 big _ ((hr.below hI.below).more hI.below.size) (by omega) (hI.b_.cell 0) (hI.big_.cell 0)).mono ?_
      rintro e w5 ⟨rfl, hB5⟩
      rw [HK.out]
      have hI5 := hI.grows hB5
      have hb5 := hb.below hB5 hb.lt
      have hc5 : ∃ u, w5.cell? ⟨g, 3 + k, none⟩ = some u := ⟨_, (hb5.cell (3 + k)).trans (Array.getElem?_eq_getElem (by simp [recU]; omega))⟩
      obtain ⟨u, hu⟩ := hc5
      have hfr := hb5.frozen (3 + k)
      have hset := hb5.set_ (3 + k) (.int .u64 (f k : Nat))
      rw [HS.out] at hset
      have hI6 := hI5.setCell (p := ⟨g, 3 + k, none⟩) hgt (.int .u64 (f k : Nat))
      have z0 : (0 : Int) ≤ (k : Int) := by omega
      have z1 : (k : Int) < 6 := by omega
      clear hB5 hI hb hI5 hb5
      go_wp2_with fail
      go_roundw
      case rel => exact ⟨k + 1, by omega, by go_num, hset, hI6⟩
      case measure => simp [intOf] <;> omega
    · obtain rfl : k = 6 := by omega
      obtain ⟨Zr, hZr, hres⟩ := hI.res_
      have hsz : (recU n1 n2 n3 f 6).size = 9 := rfl
      have hone : (recU n1 n2 n3 f 6).all (·.oneCell') = true := by simp [recU, Value.oneCell']
      have HL := Lib.hid hsz
      have HO := Lib.hid hone
      have HI := Lib.hid hI
      have HZ := Lib.hid hZr
      clear hsz hone hI hb4 hI4 hZr
      generalize recU n1 n2 n3 f 6 = Z at *
      go_wp2_with (first | refine wpList_load_row rfl 65 (.tmp 7) rfl g rfl 65 Z (0, 0) _ hb Try.underlying65 rfl (by rw [HL.out]; kernel_rfl) ?_ | refine wpList_store_row rfl 65 (.tmp 4) (.tmp 41) rfl (w.heap.size + 1 + 1) Z rfl rfl 65 Zr hres (by rw [HL.out]; kernel_rfl) (by rw [HZ.out, HL.out]) HO.out ?_)
      have hset := setRow_heap wr (w.heap.size + 1 + 1) _ Z _ _ hres
      have hload := run_loadVar_row (P := Try.prog) _ (w.heap.size + 1 + 1) 65 65 Z (0, 0) _ hset Try.underlying65 rfl (by rw [HL.out]; kernel_rfl)
      refine bodyPost_ret (v := .tuple #[.agg Z, .int .i64 0]) ?_ rfl ⟨by rw [← E.out]; rfl, below_setRow HI.out.below (by omega) _⟩
      simp [results, Try.results38, asAddr, hload, Result.andThen]

theorem dread_any (l : List Nat) (hok : ∀ b ∈ l, b < 256) (A : Option Addr) (n c : Nat) (big : Bool) (w : World) (hr : Reads w w.heap.size 1 A n (bytesV l)) (hn : n ≤ 1000000) :
    Calls Try.prog 38 #[.slice A n c, .bool big] w (TellsRead l big w) := by
  have hl : n = l.length := by have := hr.1; rw [bytesV_length] at this; omega
  by_cases h : n = 64
  · subst h; exact dread_yes l hok A c big w hl.symm hr
  · exact dread_no l A n c big w hl hn h
end Go.Proofs.Ytlpakmlpnjfcoaa
