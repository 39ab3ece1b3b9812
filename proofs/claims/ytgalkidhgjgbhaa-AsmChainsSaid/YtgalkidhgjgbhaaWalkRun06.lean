/-
  The walks of the reference's Number, Word and Run, of programs without cells.
-/
import Derived.Test.YtgalkidhgjgbhaaAsmPlain3
import Derived.Test.YtgalkidhgjgbhaaRefOf
import Derived.Test.YtgalkidhgjgbhaaRow16
import Derived.Test.YtgalkidhgjgbhaaData
import Derived.Test.YtgalkidhgjgbhaaKinds
import Derived.Test.YtgalkidhgjgbhaaOpen
namespace Go.Proofs.Ytgalkidhgjgbhaa
open Go.RowKit
set_option linter.unusedVariables false

/-- A number out of its bytes, the highest first. -/
def valBE (l : List Nat) : Nat := l.foldl (fun n b => 256 * n + b) 0
theorem valBE_snoc (l : List Nat) (b : Nat) : valBE (l ++ [b]) = 256 * valBE l + b := by unfold valBE; rw [List.foldl_append]; rfl
theorem foldBE_lt : ∀ (l : List Nat) (a : Nat), (∀ b ∈ l, b < 256) → l.foldl (fun n b => 256 * n + b) a < (a + 1) * 256 ^ l.length
  | [], a, _ => by simp
  | x :: l, a, h => by
    have h1 := foldBE_lt l (256 * a + x) (fun b hb => h b (by simp [hb]))
    have h2 := h x (by simp)
    have h3 : (256 * a + x + 1) * 256 ^ l.length ≤ (a + 1) * 256 * 256 ^ l.length := Nat.mul_le_mul_right _ (by omega)
    rw [List.foldl_cons, List.length_cons, Nat.pow_succ, Nat.mul_comm (256 ^ l.length) 256, ← Nat.mul_assoc]
    omega
theorem valBE_cons_lt (l : List Nat) (h : ∀ b ∈ l, b < 256) : valBE l < 256 ^ l.length := by
  have := foldBE_lt l 0 h
  unfold valBE
  omega
theorem drop_rev (l : List Nat) (m : Nat) (hm : m < l.length) : (l.drop m).reverse = (l.drop (m + 1)).reverse ++ [l.getD m 0] := by
  rw [List.drop_eq_getElem_cons hm, List.reverse_cons]
  congr 2
  simp [hm]
theorem drop_take_lt {l : List Nat} (hok : ∀ b ∈ l, b < 256) (a v : Nat) : ∀ b ∈ (l.drop a).take v, b < 256 := fun b h => hok b (List.mem_of_mem_drop (List.mem_of_mem_take h))
/-- A piece of a slice of bytes. -/
theorem Reads.piece {w : World} {B : Nat} {b off n : Nat} {l : List Nat} (h : Reads w B 1 (some ⟨b, off, none⟩) n (bytesV l)) (lo width : Nat) (hin : lo + width ≤ n) :
    Reads w B 1 (some ⟨b, off + lo, none⟩) width (bytesV ((l.drop lo).take width)) := by
  have hn : n = l.length := by have := h.1; rw [bytesV_length] at this; omega
  refine ⟨by rw [bytesV_length]; simp; omega, fun hw => ?_⟩
  obtain ⟨ad, e, hb, hc⟩ := h.2 (by omega)
  injection e with e
  subst e
  refine ⟨_, rfl, hb, fun j u hu => ?_⟩
  have hj : j < width := by have := (List.getElem?_eq_some_iff.1 hu).1; rw [bytesV_length] at this; simp at this; omega
  have hu' : (bytesV l)[lo + j]? = some u := by
    rw [← hu]
    simp [bytesV, hj]
  rw [← hc (lo + j) u hu']
  unfold Addr.add
  by_cases h0 : j = 0
  · subst h0
    by_cases hl : lo = 0
    · subst hl; simp
    · simp [hl]
  · rw [if_neg h0, if_neg (by omega)]; simp [Nat.add_assoc]

set_option maxRecDepth 100000 in
theorem number_any (l : List Nat) (hok : ∀ b ∈ l, b < 256) (A : Option Addr) (n c : Nat) (w : World) (hr : Reads w w.heap.size 1 A n (bytesV l)) (hn : n ≤ 8) :
    Calls Try.prog 70 #[.slice A n c] w fun e w' => e = .returned (.int .u64 (valBE l.reverse : Nat)) ∧ w = w' := by
  have hl : n = l.length := by have := hr.1; rw [bytesV_length] at this; omega
  have Hl := Lib.hid hl
  clear hl
  go_enter Try.func70, Try.ntmps70
  go_wp2_with fail
  go_loop [3, 4] (fun v i => ∃ m : Nat, m ≤ n ∧ i = .int .i64 ((m : Int) - 1) ∧ v = .int .u64 (valBE (l.drop m).reverse : Nat)) (fun _ i => (intOf i + 1).toNat)
  case atStart =>
    refine ⟨n, by omega, rfl, ?_⟩
    have e : l.drop n = [] := List.drop_eq_nil_of_le (by have := Hl.out; omega)
    rw [e]; rfl
  case round =>
    obtain ⟨m, hm, rfl, rfl⟩ := hrel
    rcases m with _ | m
    · rw [show (((0 : Nat) : Int) - 1) = (-1 : Int) from rfl, List.drop_zero]
      go_wp2_with fail
      go_ret
      exact ⟨rfl, rfl⟩
    · rw [show (((m + 1 : Nat) : Int) - 1) = (m : Int) from by omega]
      obtain ⟨b, off, rfl, hb, hc⟩ := hr.at1 (k := m) (by omega)
      have hcm := hc m (by omega)
      have hml : m < l.length := by have := Hl.out; omega
      have hstep := drop_rev l m hml
      have hx : l.getD m 0 < 256 := by
        have : l.getD m 0 = l[m] := by simp [hml]
        rw [this]; exact hok _ (List.getElem_mem hml)
      generalize l.getD m 0 = x at *
      have hv : valBE (l.drop (m + 1)).reverse < 72057594037927936 := by
        have h1 := valBE_cons_lt (l.drop (m + 1)).reverse (fun b hb => hok b (List.mem_of_mem_drop (by simpa using hb)))
        have h2 : (l.drop (m + 1)).reverse.length ≤ 7 := by simp; have := Hl.out; omega
        have h3 : 256 ^ (l.drop (m + 1)).reverse.length ≤ 256 ^ 7 := Nat.pow_le_pow_right (by omega) h2
        have h4 : 256 ^ 7 = 72057594037927936 := by decide
        omega
      have hval : valBE (l.drop m).reverse = 256 * valBE (l.drop (m + 1)).reverse + x := by rw [hstep, valBE_snoc]
      generalize valBE (l.drop (m + 1)).reverse = v at *
      have HV := Lib.hid hval
      clear hval hstep hc hml
      go_wp2_with fail
      go_round
      case rel => exact ⟨m, by omega, by go_num, by rw [HV.out]; go_num⟩
      case measure => simp [intOf] <;> omega

/-- The 32 bits at a place. -/
def wordLE (l : List Nat) (k : Nat) : Nat := valBE ((l.drop k).take 4).reverse
theorem wordLE_lt (l : List Nat) (hok : ∀ b ∈ l, b < 256) (k : Nat) : wordLE l k < 4294967296 := by
  unfold wordLE
  have h1 := valBE_cons_lt ((l.drop k).take 4).reverse (fun b hb => drop_take_lt hok k 4 b (List.mem_reverse.1 hb))
  have h2 : 256 ^ ((l.drop k).take 4).reverse.length ≤ 256 ^ 4 := Nat.pow_le_pow_right (by omega) (by simp; omega)
  omega
set_option maxRecDepth 100000 in
theorem word_any (l : List Nat) (hok : ∀ b ∈ l, b < 256) (b off n c k : Nat) (w : World) (hr : Reads w w.heap.size 1 (some ⟨b, off, none⟩) n (bytesV l)) (hk : k + 4 ≤ n) (hc : n ≤ c) (hm : c ≤ maxLen) :
    Calls Try.prog 53 #[.slice (some ⟨b, off, none⟩) n c, .int .i64 k] w fun e w' => e = .returned (.int .u32 (wordLE l k : Nat)) ∧ w = w' := by
  have hp := hr.piece k 4 hk
  have hlt := wordLE_lt l hok k
  have hnum := fun (c' : Nat) => number_any ((l.drop k).take 4) (drop_take_lt hok k 4) (some ⟨b, off + k, none⟩) 4 c' w hp (by omega)
  have hv : valBE ((l.drop k).take 4).reverse = wordLE l k := rfl
  rw [hv] at hnum
  have HN := Lib.hid hnum
  unfold maxLen at hm
  generalize wordLE l k = v at *
  have z0 : (0 : Int) ≤ (k : Int) := by omega
  have z1 : (k : Int) ≤ (k : Int) + 4 := by omega
  have z2 : (k : Int) + 4 ≤ (c : Int) := by omega
  clear hnum hv hp hr
  go_enter Try.func53, Try.ntmps53
  go_wp2_with fail
  refine (HN.out _).mono ?_
  rintro e w2 ⟨rfl, rfl⟩
  go_wp2_with fail
  go_ret
  exact ⟨rfl, rfl⟩

theorem own_below06 {W W' : World} {base : Nat} {e : TypeId} {size n : Nat} {v : Value} {xs : List Value} (h : W.ownsRow base e size v n xs) (hB : Below W.heap.size W W') : W'.ownsRow base e size v n xs := by
  refine h.kept (row := none) ⟨hB.os, hB.tape, hB.output, hB.size, fun k hk _ => hB.block k hk⟩ ?_
  cases v.ownBlock with
  | none => exact .inl rfl
  | some g => exact .inr (fun e => by cases e)
theorem own_setCellB06 {W : World} {B : Nat} {e : TypeId} {size n : Nat} {xs : List Value} {v : Value} (h : W.ownsRow B e size v n xs) {p : Addr} (hp : p.block < B) (u : Value) : (W.setCell p u).ownsRow B e size v n xs := by
  refine ⟨h.1, ?_⟩
  rcases h.2 with h0 | ⟨g, cap, cur, h1, h2, h3, h4⟩
  · exact .inl h0
  · subst h1
    exact .inr ⟨g, cap, cur, rfl, h2, (Below.heap_setCell _ _ _ _ (by omega)).trans h3, h4⟩
theorem below_drewN06 {B : Nat} {a w : World} (h : Below B a w) (q : Nat) : Below B a (w.drewN q) := ⟨h.os, h.tape, h.output, h.size, h.block⟩
theorem ofN_low {c : Nat} (h : (ofN c).1 ≤ 15) : (ofN c).2 = false := by
  have hk : ∀ d, kindB d ≤ 15 → kindB d = 0 := fun d hd => by unfold kindB at hd ⊢; split at hd <;> rename_i hh <;> simp [hh] at hd ⊢ <;> omega
  unfold ofN at h ⊢
  split
  · rfl
  · rename_i h1
    rw [if_neg h1] at h
    split
    · rename_i h2
      rw [if_pos h2] at h
      simp only at h ⊢
      rw [hk _ h]; rfl
    · rfl
theorem info_int : (Try.prog.info? 3).map (fun i => (i.zero, i.size, i.bytes)) = some (some (.int .i64 0), 1, 8) := by kernel_rfl
/-- The cells of what a run tells. -/
def outV (v s : Int) (ld : Value) : List Value := [.int .u32 v, .int .i64 s, ld]

set_option maxRecDepth 100000 in
set_option maxHeartbeats 4000000 in
theorem run06_any (p : List I) (hok : ∀ i ∈ p, i.Ok) (A : Option Addr) (n c : Nat) (bs : List Nat) (hbs : ∀ b ∈ bs, b < 256) (b off cb : Nat) (hcb : 64 ≤ cb) (hmb : cb ≤ maxLen) (w : World) (hr : Reads w w.heap.size 4 A n (cellsI p)) (hn : n ≤ 100000) (hrb : Reads w w.heap.size 1 (some ⟨b, off, none⟩) 64 (bytesV bs)) (v : Nat) (hgo : ∃ a, a = 0 ∧ Goes p (wordLE bs) a 0 v) :
    Calls Try.prog 32 #[.slice A n c, .slice (some ⟨b, off, none⟩) 64 cb] w fun e w' => (∃ s ld, e = .returned (.agg #[.int .u32 v, .int .i64 s, ld])) ∧ Below w.heap.size w w' := by
  have hl : n = p.length := by have := hr.1; rw [cellsI_length] at this; omega
  have HL := Lib.hid hl
  clear hl
  have HGO := Lib.hid hgo
  clear hgo
  obtain ⟨i0, hi0, hz0, hz1, hz2⟩ := info_parts info_int
  go_enter Try.func32, Try.ntmps32
  go_wp2_with fail
  have hB0 : Below w.heap.size w (((w.alloc (.cells #[.int .u32 0, .int .i64 0, .slice none 0 0] 67)).alloc (.cells #[.int .u32 0, .int .i64 0, .slice none 0 0] 67)).alloc (.cells #[.int .u32 0, .int .u32 0, .int .u32 0, .int .u32 0, .int .u32 0, .int .u32 0, .int .u32 0, .int .u32 0, .int .u32 0, .int .u32 0, .int .u32 0, .int .u32 0, .int .u32 0, .int .u32 0, .int .u32 0, .int .u32 0] 106)) :=
    (((Below.refl _ w).alloc (Nat.le_refl _) _).alloc (by simp) _).alloc (by simp; omega) _
  have h0 := ((RowK.new w 67 #[.int .u32 0, .int .i64 0, .slice none 0 0] (outV 0 0 (.slice none 0 0)) (by rfl)).alloc (.cells #[.int .u32 0, .int .i64 0, .slice none 0 0] 67)).alloc (.cells #[.int .u32 0, .int .u32 0, .int .u32 0, .int .u32 0, .int .u32 0, .int .u32 0, .int .u32 0, .int .u32 0, .int .u32 0, .int .u32 0, .int .u32 0, .int .u32 0, .int .u32 0, .int .u32 0, .int .u32 0, .int .u32 0] 106)
  have h1 := (RowK.new (w.alloc (.cells #[.int .u32 0, .int .i64 0, .slice none 0 0] 67)) 67 #[.int .u32 0, .int .i64 0, .slice none 0 0] (outV 0 0 (.slice none 0 0)) (by rfl)).alloc (.cells #[.int .u32 0, .int .u32 0, .int .u32 0, .int .u32 0, .int .u32 0, .int .u32 0, .int .u32 0, .int .u32 0, .int .u32 0, .int .u32 0, .int .u32 0, .int .u32 0, .int .u32 0, .int .u32 0, .int .u32 0, .int .u32 0] 106)
  have hs1 : (w.alloc (.cells #[.int .u32 0, .int .i64 0, .slice none 0 0] 67)).heap.size = w.heap.size + 1 := by simp
  rw [hs1] at h1
  have hs3 : (((w.alloc (.cells #[.int .u32 0, .int .i64 0, .slice none 0 0] 67)).alloc (.cells #[.int .u32 0, .int .i64 0, .slice none 0 0] 67)).alloc (.cells #[.int .u32 0, .int .u32 0, .int .u32 0, .int .u32 0, .int .u32 0, .int .u32 0, .int .u32 0, .int .u32 0, .int .u32 0, .int .u32 0, .int .u32 0, .int .u32 0, .int .u32 0, .int .u32 0, .int .u32 0, .int .u32 0] 106)).heap.size = w.heap.size + 3 := by simp
  generalize (((w.alloc (.cells #[.int .u32 0, .int .i64 0, .slice none 0 0] 67)).alloc (.cells #[.int .u32 0, .int .i64 0, .slice none 0 0] 67)).alloc (.cells #[.int .u32 0, .int .u32 0, .int .u32 0, .int .u32 0, .int .u32 0, .int .u32 0, .int .u32 0, .int .u32 0, .int .u32 0, .int .u32 0, .int .u32 0, .int .u32 0, .int .u32 0, .int .u32 0, .int .u32 0, .int .u32 0] 106)) = w0 at *
  have hs0 : w.heap.size + 3 ≤ w0.heap.size := by omega
  clear hs1 hs3
  go_loopw [6, 9] (fun a i wr => ∃ (x k m : Nat) (ld : Value) (xs : List Value), a = .int .u32 x ∧ x < 4294967296 ∧ i = .int .i64 k ∧ k ≤ n ∧ Goes p (wordLE bs) x k v ∧ RowK wr w.heap.size 67 3 (outV 0 0 (.slice none 0 0)) ∧ RowK wr (w.heap.size + 1) 67 3 (outV 0 m ld) ∧ m ≤ k ∧ (∃ q, q ≤ k ∧ wr.ownsRow (w.heap.size + 3) 3 1 ld q xs) ∧ w.heap.size + 3 ≤ wr.heap.size ∧ Below w.heap.size w wr) (fun _ i _ => n - (intOf i).toNat)
  case atStart =>
    obtain ⟨a, rfl, hg⟩ := HGO.out
    exact ⟨0, 0, 0, .slice none 0 0, [], rfl, by omega, rfl, by omega, hg, h0, h1, by omega, ⟨0, by omega, World.ownsRow_nil _ _ _ _⟩, hs0, hB0⟩
  case round =>
    obtain ⟨x, k, m, ld, xs, rfl, hx, rfl, hkn, hgo, hr0, hr1, hmk, hown, hsz, hB⟩ := hrel
    have hkl : k < p.length := by cases hgo <;> assumption
    have hlt : k < n := by have := HL.out; omega
    obtain ⟨b2, off2, rfl, hb2, c0, c1, c2, c3⟩ := (hr.below hB).at4 hlt
    have hok' := getD_ok hok hkl
    have z0 : (0 : Int) ≤ (k : Int) := by omega
    have z1 : (k : Int) < (n : Int) := by omega
    have d0 := hr0.cell (k := 0) rfl
    have d1 := hr1.cell (k := 0) rfl
    have d2 := hr1.cell (k := 1) rfl
    have d3 := hr1.cell (k := 2) rfl
    have f0 := hr1.frozen 0
    have f1 := hr1.frozen 1
    have f2 := hr1.frozen 2
    have HR0 := Lib.hid hr0
    have HR1 := Lib.hid hr1
    have HOWN := Lib.hid hown
    have HOK := Lib.hid hok'
    clear hr0 hr1 hown h0 h1
    cases hgo with
    | load hlen hk h60 hnext =>
      generalize p.getD k default = i at *
      obtain ⟨xc, xt, xf, xk⟩ := i
      obtain ⟨o1, o2, o3, o4⟩ := hok'
      simp only at c0 c1 c2 c3 o1 o2 o3 o4 hk h60 hnext
      have hkd : (ofN xc).1 = 1 := hk
      have hkx : (ofN xc).2 = false := ofN_low (by omega)
      have hof := fun W => refOf_any xc o1 W
      unfold TellsOf at hof
      rw [hkd, hkx] at hof
      have HOF := Lib.hid hof
      clear hof hkd hkx hk HOK
      go_wp2_with fail
      refine (HOF.out _).mono ?_
      rintro e w3 ⟨rfl, hB3⟩
      have hri := (RowK.new wr 51 #[.int .u16 xc, .int .u8 xt, .int .u8 xf, .int .u32 xk] [.int .u16 xc, .int .u8 xt, .int .u8 xf, .int .u32 xk] rfl).below hB3 (by simp)
      have g1 := hri.cell (k := 1) rfl
      have g2 := hri.cell (k := 2) rfl
      have g3 := hri.cell (k := 3) rfl
      have hr0 := (HR0.out.alloc (.cells #[.int .u16 xc, .int .u8 xt, .int .u8 xf, .int .u32 xk] 51)).below hB3 (by simp; omega)
      have hr1 := (HR1.out.alloc (.cells #[.int .u16 xc, .int .u8 xt, .int .u8 xf, .int .u32 xk] 51)).below hB3 (by simp; omega)
      have hB3w := (hB.alloc (by omega) (.cells #[.int .u16 xc, .int .u8 xt, .int .u8 xf, .int .u32 xk] 51)).trans (hB3.mono (by simp; omega))
      have hsz3 : w.heap.size + 3 ≤ w3.heap.size := by have := hB3.size; simp at this; omega
      have d0 := hr0.cell (k := 0) rfl
      have d1 := hr1.cell (k := 0) rfl
      have d2 := hr1.cell (k := 1) rfl
      have d3 := hr1.cell (k := 2) rfl
      have d4 := hr0.cell (k := 1) rfl
      have d5 := hr0.cell (k := 2) rfl
      have f0 := hr1.frozen 0
      have f1 := hr1.frozen 1
      have f2 := hr1.frozen 2
      have f3 := hr0.frozen 0
      have f4 := hr0.frozen 1
      have f5 := hr0.frozen 2
      obtain ⟨q, hq, hown⟩ := HOWN.out
      have hown3 := own_below06 (hown.alloc (.cells #[.int .u16 xc, .int .u8 xt, .int .u8 xf, .int .u32 xk] 51)) hB3
      have hrn := fun nq => (show RowK (w3.drewN nq) _ _ _ _ from hr1).set_ 1 (.int .i64 ((m : Int) + 1))
      have hr0n := fun nq => (show RowK (w3.drewN nq) _ _ _ _ from hr0).far (p := ⟨w.heap.size + 1, 1, none⟩) (by show w.heap.size ≠ w.heap.size + 1; omega) (.int .i64 ((m : Int) + 1))
      have hownn := fun nq => own_setCellB06 (show (w3.drewN nq).ownsRow _ _ _ _ _ _ from hown3) (p := ⟨w.heap.size + 1, 1, none⟩) (by show w.heap.size + 1 < w.heap.size + 3; omega) (.int .i64 ((m : Int) + 1))
      have hBn := fun nq => (below_drewN06 hB3w nq).setCell (p := ⟨w.heap.size + 1, 1, none⟩) (by show w.heap.size ≤ w.heap.size + 1; omega) (.int .i64 ((m : Int) + 1))
      have hszn : ∀ nq, w.heap.size + 3 ≤ ((w3.drewN nq).setCell ⟨w.heap.size + 1, 1, none⟩ (.int .i64 ((m : Int) + 1))).heap.size := fun nq => by simp [World.setCell]; exact hsz3
      have RN := Lib.hid hrn
      have R0N := Lib.hid hr0n
      have OWNN := Lib.hid hownn
      have BN := Lib.hid hBn
      have SZN := Lib.hid hszn
      clear hri hr0 hr1 hown hown3 hB3 HOF hB hrn hr0n hownn c0 c1 c2 c3 HR0 HR1 HOWN hB3w HGO hBn hszn
      go_wp2_with fail
      go_quiet (fail)
      have hkl2 : k + 1 < p.length := by cases hnext <;> assumption
      have hkn2 : k + 1 ≤ n := by have := HL.out; omega
      have HN := Lib.hid hnext
      have hwl := wordLE_lt bs hbs xk
      have hword := fun W h => word_any bs hbs b off 64 cb xk W h (by omega) hcb hmb
      generalize wordLE bs xk = y at *
      have HW := Lib.hid hword
      clear hnext hword
      go_wp2_with fail
      have r1 := RN.out nq
      have r0 := R0N.out nq
      have ow := OWNN.out nq
      have bn := BN.out nq
      have sz := SZN.out nq
      clear RN R0N OWNN BN SZN
      generalize (w3.drewN nq).setCell ⟨w.heap.size + 1, 1, none⟩ (.int .i64 ((m : Int) + 1)) = w4 at *
      refine (HW.out w4 ((hrb.below bn).more bn.size)).mono ?_
      rintro e w5 ⟨rfl, rfl⟩
      have d3' := r1.cell (k := 2) rfl
      go_wp2_with (at_builtin; refine wpList_append_lit rfl (.tmp 50) (.tmp 53) 27 rfl (w.heap.size + 3) 3 i0 _ 1 8 Try.underlying27 hi0 hz0 hz1 hz2 rfl (by omega) _ _ q _ rfl ow _ 1 1 rfl _ rfl rfl (by simp [Value.oneCell']) (by simp only [maxLen]; omega) (by omega) sz ?_; intro v1 w6 hown1 hB1 hs1; obtain ⟨A1, c1, rfl, -⟩ := own_reads hown1; have r1' := r1.below hB1 (by omega); have d3'' := r1'.cell (k := 2) rfl; have f3'' := r1'.frozen 2)
      go_roundw
      case rel =>
        exact ⟨y, k + 1, m + 1, _, _, rfl, hwl, by go_num, hkn2, HN.out, (r0.below hB1 (by omega)).far (p := ⟨w.heap.size + 1, 2, none⟩) (by show w.heap.size ≠ w.heap.size + 1; omega) _, r1'.set_ 2 _, by omega, ⟨q + 1, by omega, own_setCellB06 hown1 (p := ⟨w.heap.size + 1, 2, none⟩) (by show w.heap.size + 1 < w.heap.size + 3; omega) _⟩, by simp [World.setCell]; omega, (bn.trans (hB1.mono (by omega))).setCell (p := ⟨w.heap.size + 1, 2, none⟩) (by show w.heap.size ≤ w.heap.size + 1; omega) _⟩
      case measure => simp [intOf] <;> omega
    | imm hlen hk hnext =>
      generalize p.getD k default = i at *
      obtain ⟨xc, xt, xf, xk⟩ := i
      obtain ⟨o1, o2, o3, o4⟩ := hok'
      simp only at c0 c1 c2 c3 o1 o2 o3 o4 hk hnext
      have hkd : (ofN xc).1 = 2 := hk
      have hkx : (ofN xc).2 = false := ofN_low (by omega)
      have hof := fun W => refOf_any xc o1 W
      unfold TellsOf at hof
      rw [hkd, hkx] at hof
      have HOF := Lib.hid hof
      clear hof hkd hkx hk HOK
      go_wp2_with fail
      refine (HOF.out _).mono ?_
      rintro e w3 ⟨rfl, hB3⟩
      have hri := (RowK.new wr 51 #[.int .u16 xc, .int .u8 xt, .int .u8 xf, .int .u32 xk] [.int .u16 xc, .int .u8 xt, .int .u8 xf, .int .u32 xk] rfl).below hB3 (by simp)
      have g1 := hri.cell (k := 1) rfl
      have g2 := hri.cell (k := 2) rfl
      have g3 := hri.cell (k := 3) rfl
      have hr0 := (HR0.out.alloc (.cells #[.int .u16 xc, .int .u8 xt, .int .u8 xf, .int .u32 xk] 51)).below hB3 (by simp; omega)
      have hr1 := (HR1.out.alloc (.cells #[.int .u16 xc, .int .u8 xt, .int .u8 xf, .int .u32 xk] 51)).below hB3 (by simp; omega)
      have hB3w := (hB.alloc (by omega) (.cells #[.int .u16 xc, .int .u8 xt, .int .u8 xf, .int .u32 xk] 51)).trans (hB3.mono (by simp; omega))
      have hsz3 : w.heap.size + 3 ≤ w3.heap.size := by have := hB3.size; simp at this; omega
      have d0 := hr0.cell (k := 0) rfl
      have d1 := hr1.cell (k := 0) rfl
      have d2 := hr1.cell (k := 1) rfl
      have d3 := hr1.cell (k := 2) rfl
      have d4 := hr0.cell (k := 1) rfl
      have d5 := hr0.cell (k := 2) rfl
      have f0 := hr1.frozen 0
      have f1 := hr1.frozen 1
      have f2 := hr1.frozen 2
      have f3 := hr0.frozen 0
      have f4 := hr0.frozen 1
      have f5 := hr0.frozen 2
      obtain ⟨q, hq, hown⟩ := HOWN.out
      have hown3 := own_below06 (hown.alloc (.cells #[.int .u16 xc, .int .u8 xt, .int .u8 xf, .int .u32 xk] 51)) hB3
      have hrn := fun nq => (show RowK (w3.drewN nq) _ _ _ _ from hr1).set_ 1 (.int .i64 ((m : Int) + 1))
      have hr0n := fun nq => (show RowK (w3.drewN nq) _ _ _ _ from hr0).far (p := ⟨w.heap.size + 1, 1, none⟩) (by show w.heap.size ≠ w.heap.size + 1; omega) (.int .i64 ((m : Int) + 1))
      have hownn := fun nq => own_setCellB06 (show (w3.drewN nq).ownsRow _ _ _ _ _ _ from hown3) (p := ⟨w.heap.size + 1, 1, none⟩) (by show w.heap.size + 1 < w.heap.size + 3; omega) (.int .i64 ((m : Int) + 1))
      have hBn := fun nq => (below_drewN06 hB3w nq).setCell (p := ⟨w.heap.size + 1, 1, none⟩) (by show w.heap.size ≤ w.heap.size + 1; omega) (.int .i64 ((m : Int) + 1))
      have hszn : ∀ nq, w.heap.size + 3 ≤ ((w3.drewN nq).setCell ⟨w.heap.size + 1, 1, none⟩ (.int .i64 ((m : Int) + 1))).heap.size := fun nq => by simp [World.setCell]; exact hsz3
      have RN := Lib.hid hrn
      have R0N := Lib.hid hr0n
      have OWNN := Lib.hid hownn
      have BN := Lib.hid hBn
      have SZN := Lib.hid hszn
      clear hri hr0 hr1 hown hown3 hB3 HOF hB hrn hr0n hownn c0 c1 c2 c3 HR0 HR1 HOWN hB3w HGO hBn hszn
      go_wp2_with fail
      go_quiet (fail)
      have hkl2 : k + 1 < p.length := by cases hnext <;> assumption
      have hkn2 : k + 1 ≤ n := by have := HL.out; omega
      have HN := Lib.hid hnext
      clear hnext
      go_wp2_with fail
      have r1 := RN.out nq
      have r0 := R0N.out nq
      have ow := OWNN.out nq
      have bn := BN.out nq
      have sz := SZN.out nq
      clear RN R0N OWNN BN SZN
      generalize (w3.drewN nq).setCell ⟨w.heap.size + 1, 1, none⟩ (.int .i64 ((m : Int) + 1)) = w4 at *
      go_roundw
      case rel => exact ⟨xk, k + 1, m + 1, ld, xs, by go_num, o4, by go_num, hkn2, HN.out, r0, r1, by omega, ⟨q, by omega, ow⟩, sz, bn⟩
      case measure => simp [intOf] <;> omega
    | neg hlen hk hnext =>
      generalize p.getD k default = i at *
      obtain ⟨xc, xt, xf, xk⟩ := i
      obtain ⟨o1, o2, o3, o4⟩ := hok'
      simp only at c0 c1 c2 c3 o1 o2 o3 o4 hk
      have hkd : (ofN xc).1 = 12 := hk
      have hkx : (ofN xc).2 = false := ofN_low (by omega)
      have hof := fun W => refOf_any xc o1 W
      unfold TellsOf at hof
      rw [hkd, hkx] at hof
      have HOF := Lib.hid hof
      clear hof hkd hkx hk HOK
      go_wp2_with fail
      refine (HOF.out _).mono ?_
      rintro e w3 ⟨rfl, hB3⟩
      have hri := (RowK.new wr 51 #[.int .u16 xc, .int .u8 xt, .int .u8 xf, .int .u32 xk] [.int .u16 xc, .int .u8 xt, .int .u8 xf, .int .u32 xk] rfl).below hB3 (by simp)
      have g1 := hri.cell (k := 1) rfl
      have g2 := hri.cell (k := 2) rfl
      have g3 := hri.cell (k := 3) rfl
      have hr0 := (HR0.out.alloc (.cells #[.int .u16 xc, .int .u8 xt, .int .u8 xf, .int .u32 xk] 51)).below hB3 (by simp; omega)
      have hr1 := (HR1.out.alloc (.cells #[.int .u16 xc, .int .u8 xt, .int .u8 xf, .int .u32 xk] 51)).below hB3 (by simp; omega)
      have hB3w := (hB.alloc (by omega) (.cells #[.int .u16 xc, .int .u8 xt, .int .u8 xf, .int .u32 xk] 51)).trans (hB3.mono (by simp; omega))
      have hsz3 : w.heap.size + 3 ≤ w3.heap.size := by have := hB3.size; simp at this; omega
      have d0 := hr0.cell (k := 0) rfl
      have d1 := hr1.cell (k := 0) rfl
      have d2 := hr1.cell (k := 1) rfl
      have d3 := hr1.cell (k := 2) rfl
      have d4 := hr0.cell (k := 1) rfl
      have d5 := hr0.cell (k := 2) rfl
      have f0 := hr1.frozen 0
      have f1 := hr1.frozen 1
      have f2 := hr1.frozen 2
      have f3 := hr0.frozen 0
      have f4 := hr0.frozen 1
      have f5 := hr0.frozen 2
      obtain ⟨q, hq, hown⟩ := HOWN.out
      have hown3 := own_below06 (hown.alloc (.cells #[.int .u16 xc, .int .u8 xt, .int .u8 xf, .int .u32 xk] 51)) hB3
      have hrn := fun nq => (show RowK (w3.drewN nq) _ _ _ _ from hr1).set_ 1 (.int .i64 ((m : Int) + 1))
      have hr0n := fun nq => (show RowK (w3.drewN nq) _ _ _ _ from hr0).far (p := ⟨w.heap.size + 1, 1, none⟩) (by show w.heap.size ≠ w.heap.size + 1; omega) (.int .i64 ((m : Int) + 1))
      have hownn := fun nq => own_setCellB06 (show (w3.drewN nq).ownsRow _ _ _ _ _ _ from hown3) (p := ⟨w.heap.size + 1, 1, none⟩) (by show w.heap.size + 1 < w.heap.size + 3; omega) (.int .i64 ((m : Int) + 1))
      have hBn := fun nq => (below_drewN06 hB3w nq).setCell (p := ⟨w.heap.size + 1, 1, none⟩) (by show w.heap.size ≤ w.heap.size + 1; omega) (.int .i64 ((m : Int) + 1))
      have hszn : ∀ nq, w.heap.size + 3 ≤ ((w3.drewN nq).setCell ⟨w.heap.size + 1, 1, none⟩ (.int .i64 ((m : Int) + 1))).heap.size := fun nq => by simp [World.setCell]; exact hsz3
      have RN := Lib.hid hrn
      have R0N := Lib.hid hr0n
      have OWNN := Lib.hid hownn
      have BN := Lib.hid hBn
      have SZN := Lib.hid hszn
      clear hri hr0 hr1 hown hown3 hB3 HOF hB hrn hr0n hownn c0 c1 c2 c3 HR0 HR1 HOWN hB3w HGO hBn hszn
      go_wp2_with fail
      go_quiet (fail)
      have hkl2 : k + 1 < p.length := by cases hnext <;> assumption
      have hkn2 : k + 1 ≤ n := by have := HL.out; omega
      have HN := Lib.hid hnext
      clear hnext
      go_wp2_with fail
      have r1 := RN.out nq
      have r0 := R0N.out nq
      have ow := OWNN.out nq
      have bn := BN.out nq
      have sz := SZN.out nq
      clear RN R0N OWNN BN SZN
      generalize (w3.drewN nq).setCell ⟨w.heap.size + 1, 1, none⟩ (.int .i64 ((m : Int) + 1)) = w4 at *
      go_roundw
      case rel => exact ⟨(4294967296 - x) % 4294967296, k + 1, m + 1, ld, xs, by go_num, by omega, by go_num, hkn2, HN.out, r0, r1, by omega, ⟨q, by omega, ow⟩, sz, bn⟩
      case measure => simp [intOf] <;> omega
    | jump hlen hk hnext =>
      generalize p.getD k default = i at *
      obtain ⟨xc, xt, xf, xk⟩ := i
      obtain ⟨o1, o2, o3, o4⟩ := hok'
      simp only at c0 c1 c2 c3 o1 o2 o3 o4 hk hnext
      have hkd : (ofN xc).1 = 13 := hk
      have hkx : (ofN xc).2 = false := ofN_low (by omega)
      have hof := fun W => refOf_any xc o1 W
      unfold TellsOf at hof
      rw [hkd, hkx] at hof
      have HOF := Lib.hid hof
      clear hof hkd hkx hk HOK
      go_wp2_with fail
      refine (HOF.out _).mono ?_
      rintro e w3 ⟨rfl, hB3⟩
      have hri := (RowK.new wr 51 #[.int .u16 xc, .int .u8 xt, .int .u8 xf, .int .u32 xk] [.int .u16 xc, .int .u8 xt, .int .u8 xf, .int .u32 xk] rfl).below hB3 (by simp)
      have g1 := hri.cell (k := 1) rfl
      have g2 := hri.cell (k := 2) rfl
      have g3 := hri.cell (k := 3) rfl
      have hr0 := (HR0.out.alloc (.cells #[.int .u16 xc, .int .u8 xt, .int .u8 xf, .int .u32 xk] 51)).below hB3 (by simp; omega)
      have hr1 := (HR1.out.alloc (.cells #[.int .u16 xc, .int .u8 xt, .int .u8 xf, .int .u32 xk] 51)).below hB3 (by simp; omega)
      have hB3w := (hB.alloc (by omega) (.cells #[.int .u16 xc, .int .u8 xt, .int .u8 xf, .int .u32 xk] 51)).trans (hB3.mono (by simp; omega))
      have hsz3 : w.heap.size + 3 ≤ w3.heap.size := by have := hB3.size; simp at this; omega
      have d0 := hr0.cell (k := 0) rfl
      have d1 := hr1.cell (k := 0) rfl
      have d2 := hr1.cell (k := 1) rfl
      have d3 := hr1.cell (k := 2) rfl
      have d4 := hr0.cell (k := 1) rfl
      have d5 := hr0.cell (k := 2) rfl
      have f0 := hr1.frozen 0
      have f1 := hr1.frozen 1
      have f2 := hr1.frozen 2
      have f3 := hr0.frozen 0
      have f4 := hr0.frozen 1
      have f5 := hr0.frozen 2
      obtain ⟨q, hq, hown⟩ := HOWN.out
      have hown3 := own_below06 (hown.alloc (.cells #[.int .u16 xc, .int .u8 xt, .int .u8 xf, .int .u32 xk] 51)) hB3
      have hrn := fun nq => (show RowK (w3.drewN nq) _ _ _ _ from hr1).set_ 1 (.int .i64 ((m : Int) + 1))
      have hr0n := fun nq => (show RowK (w3.drewN nq) _ _ _ _ from hr0).far (p := ⟨w.heap.size + 1, 1, none⟩) (by show w.heap.size ≠ w.heap.size + 1; omega) (.int .i64 ((m : Int) + 1))
      have hownn := fun nq => own_setCellB06 (show (w3.drewN nq).ownsRow _ _ _ _ _ _ from hown3) (p := ⟨w.heap.size + 1, 1, none⟩) (by show w.heap.size + 1 < w.heap.size + 3; omega) (.int .i64 ((m : Int) + 1))
      have hBn := fun nq => (below_drewN06 hB3w nq).setCell (p := ⟨w.heap.size + 1, 1, none⟩) (by show w.heap.size ≤ w.heap.size + 1; omega) (.int .i64 ((m : Int) + 1))
      have hszn : ∀ nq, w.heap.size + 3 ≤ ((w3.drewN nq).setCell ⟨w.heap.size + 1, 1, none⟩ (.int .i64 ((m : Int) + 1))).heap.size := fun nq => by simp [World.setCell]; exact hsz3
      have RN := Lib.hid hrn
      have R0N := Lib.hid hr0n
      have OWNN := Lib.hid hownn
      have BN := Lib.hid hBn
      have SZN := Lib.hid hszn
      clear hri hr0 hr1 hown hown3 hB3 HOF hB hrn hr0n hownn c0 c1 c2 c3 HR0 HR1 HOWN hB3w HGO hBn hszn
      go_wp2_with fail
      go_quiet (fail)
      have hkl2 : k + 1 + xk < p.length := by cases hnext <;> assumption
      have hkn2 : k + 1 + xk ≤ n := by have := HL.out; omega
      have HN := Lib.hid hnext
      clear hnext
      go_wp2_with fail
      have r1 := RN.out nq
      have r0 := R0N.out nq
      have ow := OWNN.out nq
      have bn := BN.out nq
      have sz := SZN.out nq
      clear RN R0N OWNN BN SZN
      generalize (w3.drewN nq).setCell ⟨w.heap.size + 1, 1, none⟩ (.int .i64 ((m : Int) + 1)) = w4 at *
      go_roundw
      case rel => exact ⟨x, k + 1 + xk, m + 1, ld, xs, by go_num, hx, by go_num, hkn2, HN.out, r0, r1, by omega, ⟨q, by omega, ow⟩, sz, bn⟩
      case measure => simp [intOf] <;> omega
    | ret hlen hk =>
      generalize hI : p.getD k default = i at *
      obtain ⟨xc, xt, xf, xk⟩ := i
      obtain ⟨o1, o2, o3, o4⟩ := hok'
      simp only at c0 c1 c2 c3 o1 o2 o3 o4 hk
      have hkd : (ofN xc).1 = 14 := hk
      have hkx : (ofN xc).2 = false := ofN_low (by omega)
      have hof := fun W => refOf_any xc o1 W
      unfold TellsOf at hof
      rw [hkd, hkx] at hof
      have HOF := Lib.hid hof
      have HI := Lib.hid hI
      clear hI
      clear hof hkd hkx hk HOK
      go_wp2_with fail
      refine (HOF.out _).mono ?_
      rintro e w3 ⟨rfl, hB3⟩
      have hri := (RowK.new wr 51 #[.int .u16 xc, .int .u8 xt, .int .u8 xf, .int .u32 xk] [.int .u16 xc, .int .u8 xt, .int .u8 xf, .int .u32 xk] rfl).below hB3 (by simp)
      have g1 := hri.cell (k := 1) rfl
      have g2 := hri.cell (k := 2) rfl
      have g3 := hri.cell (k := 3) rfl
      have hr0 := (HR0.out.alloc (.cells #[.int .u16 xc, .int .u8 xt, .int .u8 xf, .int .u32 xk] 51)).below hB3 (by simp; omega)
      have hr1 := (HR1.out.alloc (.cells #[.int .u16 xc, .int .u8 xt, .int .u8 xf, .int .u32 xk] 51)).below hB3 (by simp; omega)
      have hB3w := (hB.alloc (by omega) (.cells #[.int .u16 xc, .int .u8 xt, .int .u8 xf, .int .u32 xk] 51)).trans (hB3.mono (by simp; omega))
      have hsz3 : w.heap.size + 3 ≤ w3.heap.size := by have := hB3.size; simp at this; omega
      have d0 := hr0.cell (k := 0) rfl
      have d1 := hr1.cell (k := 0) rfl
      have d2 := hr1.cell (k := 1) rfl
      have d3 := hr1.cell (k := 2) rfl
      have d4 := hr0.cell (k := 1) rfl
      have d5 := hr0.cell (k := 2) rfl
      have f0 := hr1.frozen 0
      have f1 := hr1.frozen 1
      have f2 := hr1.frozen 2
      have f3 := hr0.frozen 0
      have f4 := hr0.frozen 1
      have f5 := hr0.frozen 2
      obtain ⟨q, hq, hown⟩ := HOWN.out
      have hown3 := own_below06 (hown.alloc (.cells #[.int .u16 xc, .int .u8 xt, .int .u8 xf, .int .u32 xk] 51)) hB3
      have hrn := fun nq => (show RowK (w3.drewN nq) _ _ _ _ from hr1).set_ 1 (.int .i64 ((m : Int) + 1))
      have hr0n := fun nq => (show RowK (w3.drewN nq) _ _ _ _ from hr0).far (p := ⟨w.heap.size + 1, 1, none⟩) (by show w.heap.size ≠ w.heap.size + 1; omega) (.int .i64 ((m : Int) + 1))
      have hownn := fun nq => own_setCellB06 (show (w3.drewN nq).ownsRow _ _ _ _ _ _ from hown3) (p := ⟨w.heap.size + 1, 1, none⟩) (by show w.heap.size + 1 < w.heap.size + 3; omega) (.int .i64 ((m : Int) + 1))
      have hBn := fun nq => (below_drewN06 hB3w nq).setCell (p := ⟨w.heap.size + 1, 1, none⟩) (by show w.heap.size ≤ w.heap.size + 1; omega) (.int .i64 ((m : Int) + 1))
      have hszn : ∀ nq, w.heap.size + 3 ≤ ((w3.drewN nq).setCell ⟨w.heap.size + 1, 1, none⟩ (.int .i64 ((m : Int) + 1))).heap.size := fun nq => by simp [World.setCell]; exact hsz3
      have RN := Lib.hid hrn
      have R0N := Lib.hid hr0n
      have OWNN := Lib.hid hownn
      have BN := Lib.hid hBn
      have SZN := Lib.hid hszn
      clear hri hr0 hr1 hown hown3 hB3 HOF hB hrn hr0n hownn c0 c1 c2 c3 HR0 HR1 HOWN hB3w HGO hBn hszn
      go_wp2_with fail
      go_quiet (fail)
      obtain ⟨Al, cl, rfl, -⟩ := own_reads (OWNN.out 0)
      go_wp2_with fail
      have rr := ((((R0N.out nq).far (p := ⟨w.heap.size + 1, 0, none⟩) (by show w.heap.size ≠ w.heap.size + 1; omega) (.int .u32 xk)).set_ 0 (.int .u32 xk)).set_ 1 (.int .i64 ((m : Int) + 1))).set_ 2 (.slice Al q cl)
      have bb := (((((BN.out nq).setCell (p := ⟨w.heap.size + 1, 0, none⟩) (by show w.heap.size ≤ w.heap.size + 1; omega) (.int .u32 xk))).setCell (p := ⟨w.heap.size, 0, none⟩) (Nat.le_refl _) (.int .u32 xk)).setCell (p := ⟨w.heap.size, 1, none⟩) (Nat.le_refl _) (.int .i64 ((m : Int) + 1))).setCell (p := ⟨w.heap.size, 2, none⟩) (Nat.le_refl _) (.slice Al q cl)
      obtain ⟨cs, h1, h2, h3⟩ := rr
      have hcs : cs = #[.int .u32 xk, .int .i64 ((m : Int) + 1), .slice Al q cl] := by
        apply Array.ext'
        have h3' : cs.toList.take 3 = [.int .u32 xk, .int .i64 ((m : Int) + 1), .slice Al q cl] := h3
        rw [List.take_of_length_le (by simp; omega)] at h3'
        exact h3'
      subst hcs
      refine bodyPost_ret (v := .agg #[.int .u32 xk, .int .i64 ((m : Int) + 1), .slice Al q cl]) (results_cell_row (p := 4) (ty := 67) rfl _ _ w.heap.size _ _ _ _ rfl h1 Try.underlying67 rfl (by kernel_rfl)) rfl ⟨?_, bb⟩
      rw [HI.out]
      exact ⟨_, _, rfl⟩
    | yes hlen hk hx2 ha hnext =>
      generalize p.getD k default = i at *
      obtain ⟨xc, xt, xf, xk⟩ := i
      obtain ⟨o1, o2, o3, o4⟩ := hok'
      simp only at c0 c1 c2 c3 o1 o2 o3 o4 hk hx2 ha hnext
      have hkd : (ofN xc).1 = 25 := hk
      have hkx : (ofN xc).2 = false := hx2
      have hof := fun W => refOf_any xc o1 W
      unfold TellsOf at hof
      rw [hkd, hkx] at hof
      have HOF := Lib.hid hof
      clear hof hkd hkx hk HOK
      go_wp2_with fail
      refine (HOF.out _).mono ?_
      rintro e w3 ⟨rfl, hB3⟩
      have hri := (RowK.new wr 51 #[.int .u16 xc, .int .u8 xt, .int .u8 xf, .int .u32 xk] [.int .u16 xc, .int .u8 xt, .int .u8 xf, .int .u32 xk] rfl).below hB3 (by simp)
      have g1 := hri.cell (k := 1) rfl
      have g2 := hri.cell (k := 2) rfl
      have g3 := hri.cell (k := 3) rfl
      have hr0 := (HR0.out.alloc (.cells #[.int .u16 xc, .int .u8 xt, .int .u8 xf, .int .u32 xk] 51)).below hB3 (by simp; omega)
      have hr1 := (HR1.out.alloc (.cells #[.int .u16 xc, .int .u8 xt, .int .u8 xf, .int .u32 xk] 51)).below hB3 (by simp; omega)
      have hB3w := (hB.alloc (by omega) (.cells #[.int .u16 xc, .int .u8 xt, .int .u8 xf, .int .u32 xk] 51)).trans (hB3.mono (by simp; omega))
      have hsz3 : w.heap.size + 3 ≤ w3.heap.size := by have := hB3.size; simp at this; omega
      have d0 := hr0.cell (k := 0) rfl
      have d1 := hr1.cell (k := 0) rfl
      have d2 := hr1.cell (k := 1) rfl
      have d3 := hr1.cell (k := 2) rfl
      have d4 := hr0.cell (k := 1) rfl
      have d5 := hr0.cell (k := 2) rfl
      have f0 := hr1.frozen 0
      have f1 := hr1.frozen 1
      have f2 := hr1.frozen 2
      have f3 := hr0.frozen 0
      have f4 := hr0.frozen 1
      have f5 := hr0.frozen 2
      obtain ⟨q, hq, hown⟩ := HOWN.out
      have hown3 := own_below06 (hown.alloc (.cells #[.int .u16 xc, .int .u8 xt, .int .u8 xf, .int .u32 xk] 51)) hB3
      have hrn := fun nq => (show RowK (w3.drewN nq) _ _ _ _ from hr1).set_ 1 (.int .i64 ((m : Int) + 1))
      have hr0n := fun nq => (show RowK (w3.drewN nq) _ _ _ _ from hr0).far (p := ⟨w.heap.size + 1, 1, none⟩) (by show w.heap.size ≠ w.heap.size + 1; omega) (.int .i64 ((m : Int) + 1))
      have hownn := fun nq => own_setCellB06 (show (w3.drewN nq).ownsRow _ _ _ _ _ _ from hown3) (p := ⟨w.heap.size + 1, 1, none⟩) (by show w.heap.size + 1 < w.heap.size + 3; omega) (.int .i64 ((m : Int) + 1))
      have hBn := fun nq => (below_drewN06 hB3w nq).setCell (p := ⟨w.heap.size + 1, 1, none⟩) (by show w.heap.size ≤ w.heap.size + 1; omega) (.int .i64 ((m : Int) + 1))
      have hszn : ∀ nq, w.heap.size + 3 ≤ ((w3.drewN nq).setCell ⟨w.heap.size + 1, 1, none⟩ (.int .i64 ((m : Int) + 1))).heap.size := fun nq => by simp [World.setCell]; exact hsz3
      have RN := Lib.hid hrn
      have R0N := Lib.hid hr0n
      have OWNN := Lib.hid hownn
      have BN := Lib.hid hBn
      have SZN := Lib.hid hszn
      clear hri hr0 hr1 hown hown3 hB3 HOF hB hrn hr0n hownn c0 c1 c2 c3 HR0 HR1 HOWN hB3w HGO hBn hszn
      go_wp2_with fail
      go_quiet (fail)
      subst ha
      have hkl2 : k + 1 + xt < p.length := by cases hnext <;> assumption
      have hkn2 : k + 1 + xt ≤ n := by have := HL.out; omega
      have HN := Lib.hid hnext
      clear hnext
      go_wp2_with fail
      have r1 := RN.out nq
      have r0 := R0N.out nq
      have ow := OWNN.out nq
      have bn := BN.out nq
      have sz := SZN.out nq
      clear RN R0N OWNN BN SZN
      generalize (w3.drewN nq).setCell ⟨w.heap.size + 1, 1, none⟩ (.int .i64 ((m : Int) + 1)) = w4 at *
      go_roundw
      case rel => exact ⟨x, k + 1 + xt, m + 1, ld, xs, by go_num, o4, by go_num, hkn2, HN.out, r0, r1, by omega, ⟨q, by omega, ow⟩, sz, bn⟩
      case measure => simp [intOf] <;> omega
    | no hlen hk hx2 ha hnext =>
      generalize p.getD k default = i at *
      obtain ⟨xc, xt, xf, xk⟩ := i
      obtain ⟨o1, o2, o3, o4⟩ := hok'
      simp only at c0 c1 c2 c3 o1 o2 o3 o4 hk hx2 ha hnext
      have hkd : (ofN xc).1 = 25 := hk
      have hkx : (ofN xc).2 = false := hx2
      have hof := fun W => refOf_any xc o1 W
      unfold TellsOf at hof
      rw [hkd, hkx] at hof
      have HOF := Lib.hid hof
      clear hof hkd hkx hk HOK
      go_wp2_with fail
      refine (HOF.out _).mono ?_
      rintro e w3 ⟨rfl, hB3⟩
      have hri := (RowK.new wr 51 #[.int .u16 xc, .int .u8 xt, .int .u8 xf, .int .u32 xk] [.int .u16 xc, .int .u8 xt, .int .u8 xf, .int .u32 xk] rfl).below hB3 (by simp)
      have g1 := hri.cell (k := 1) rfl
      have g2 := hri.cell (k := 2) rfl
      have g3 := hri.cell (k := 3) rfl
      have hr0 := (HR0.out.alloc (.cells #[.int .u16 xc, .int .u8 xt, .int .u8 xf, .int .u32 xk] 51)).below hB3 (by simp; omega)
      have hr1 := (HR1.out.alloc (.cells #[.int .u16 xc, .int .u8 xt, .int .u8 xf, .int .u32 xk] 51)).below hB3 (by simp; omega)
      have hB3w := (hB.alloc (by omega) (.cells #[.int .u16 xc, .int .u8 xt, .int .u8 xf, .int .u32 xk] 51)).trans (hB3.mono (by simp; omega))
      have hsz3 : w.heap.size + 3 ≤ w3.heap.size := by have := hB3.size; simp at this; omega
      have d0 := hr0.cell (k := 0) rfl
      have d1 := hr1.cell (k := 0) rfl
      have d2 := hr1.cell (k := 1) rfl
      have d3 := hr1.cell (k := 2) rfl
      have d4 := hr0.cell (k := 1) rfl
      have d5 := hr0.cell (k := 2) rfl
      have f0 := hr1.frozen 0
      have f1 := hr1.frozen 1
      have f2 := hr1.frozen 2
      have f3 := hr0.frozen 0
      have f4 := hr0.frozen 1
      have f5 := hr0.frozen 2
      obtain ⟨q, hq, hown⟩ := HOWN.out
      have hown3 := own_below06 (hown.alloc (.cells #[.int .u16 xc, .int .u8 xt, .int .u8 xf, .int .u32 xk] 51)) hB3
      have hrn := fun nq => (show RowK (w3.drewN nq) _ _ _ _ from hr1).set_ 1 (.int .i64 ((m : Int) + 1))
      have hr0n := fun nq => (show RowK (w3.drewN nq) _ _ _ _ from hr0).far (p := ⟨w.heap.size + 1, 1, none⟩) (by show w.heap.size ≠ w.heap.size + 1; omega) (.int .i64 ((m : Int) + 1))
      have hownn := fun nq => own_setCellB06 (show (w3.drewN nq).ownsRow _ _ _ _ _ _ from hown3) (p := ⟨w.heap.size + 1, 1, none⟩) (by show w.heap.size + 1 < w.heap.size + 3; omega) (.int .i64 ((m : Int) + 1))
      have hBn := fun nq => (below_drewN06 hB3w nq).setCell (p := ⟨w.heap.size + 1, 1, none⟩) (by show w.heap.size ≤ w.heap.size + 1; omega) (.int .i64 ((m : Int) + 1))
      have hszn : ∀ nq, w.heap.size + 3 ≤ ((w3.drewN nq).setCell ⟨w.heap.size + 1, 1, none⟩ (.int .i64 ((m : Int) + 1))).heap.size := fun nq => by simp [World.setCell]; exact hsz3
      have RN := Lib.hid hrn
      have R0N := Lib.hid hr0n
      have OWNN := Lib.hid hownn
      have BN := Lib.hid hBn
      have SZN := Lib.hid hszn
      clear hri hr0 hr1 hown hown3 hB3 HOF hB hrn hr0n hownn c0 c1 c2 c3 HR0 HR1 HOWN hB3w HGO hBn hszn
      go_wp2_with fail
      go_quiet (fail)
      have hne : ((x : Int) == (xk : Int)) = false := by simp; omega
      have HA := Lib.hid ha
      clear ha
      have hkl2 : k + 1 + xf < p.length := by cases hnext <;> assumption
      have hkn2 : k + 1 + xf ≤ n := by have := HL.out; omega
      have HN := Lib.hid hnext
      clear hnext
      go_wp2_with fail
      have r1 := RN.out nq
      have r0 := R0N.out nq
      have ow := OWNN.out nq
      have bn := BN.out nq
      have sz := SZN.out nq
      clear RN R0N OWNN BN SZN
      generalize (w3.drewN nq).setCell ⟨w.heap.size + 1, 1, none⟩ (.int .i64 ((m : Int) + 1)) = w4 at *
      go_roundw
      case rel => exact ⟨x, k + 1 + xf, m + 1, ld, xs, by go_num, hx, by go_num, hkn2, HN.out, r0, r1, by omega, ⟨q, by omega, ow⟩, sz, bn⟩
      case measure => simp [intOf] <;> omega
end Go.Proofs.Ytgalkidhgjgbhaa
