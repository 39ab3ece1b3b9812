/-
  The walk of CheckFree.
-/
import Derived.Test.YtgalkidhgjgbhaaLawTells
import Derived.Test.YtgalkidhgjgbhaaWalkFree
namespace Go.Proofs.Ytgalkidhgjgbhaa
open Go.RowKit
set_option linter.unusedVariables false

theorem info_refinst : (Try.prog.info? 51).map (fun i => (i.zero, i.size, i.bytes)) = some (some (.agg #[.int .u16 0, .int .u8 0, .int .u8 0, .int .u32 0]), 4, 8) := by kernel_rfl

theorem own_empty4 (w : World) (e : TypeId) : (w.alloc (.cells #[] e)).ownsRow w.heap.size e 4 (.slice (some ⟨w.heap.size, 0, none⟩) 0 0) 0 [] :=
  ⟨by simp, .inr ⟨w.heap.size, 0, #[], rfl, Nat.le_refl _, heap_alloc_new w _, Nat.le_refl _, by simp [maxLen], rfl, by simp⟩⟩
def u32sV (l : List Nat) : List Value := l.map fun n => .int .u32 (n : Nat)
theorem cellsI_one (l : List I) : ∀ v ∈ cellsI l, v.oneCell' = true := fun v hv => by
  unfold cellsI at hv
  obtain ⟨i, _, h⟩ := List.mem_flatMap.1 hv
  simp only [I.vals, List.mem_cons, List.not_mem_nil, or_false] at h
  rcases h with rfl | rfl | rfl | rfl <;> rfl
theorem u32sV_get (l : List Nat) (k : Nat) (h : k < l.length) : (u32sV l)[k]? = some (.int .u32 (l.getD k 0 : Nat)) := by simp [u32sV, h]
theorem cellU32 {w : World} {B n : Nat} {A : Option Addr} {l : List Nat} (h : Reads w B 1 A n (u32sV l)) {k : Nat} (hk : k < n) : ∃ b off, A = some ⟨b, off, none⟩ ∧ b < B ∧ w.cell? ⟨b, off + k, none⟩ = some (.int .u32 (l.getD k 0 : Nat)) := by
  obtain ⟨ad, rfl, hb, hc⟩ := h.2 (by omega)
  have hn : n = l.length := by have := h.1; simp [u32sV] at this; omega
  obtain ⟨b, off, spot⟩ := ad
  have h0 := hc 0 _ (u32sV_get l 0 (by omega))
  have hsp : spot = none := by simpa [Addr.add] using World.cell?_spot h0
  subst hsp
  refine ⟨b, off, rfl, hb, ?_⟩
  rw [← hc k _ (u32sV_get l k (by omega))]
  unfold Addr.add
  by_cases h0 : k = 0
  · subst h0; simp
  · rw [if_neg h0]
/-- A slice's block may be written, and lies at or behind B. -/
def Free (w : World) (B : Nat) (A : Option Addr) : Prop := ∀ b off s, A = some ⟨b, off, s⟩ → B ≤ b ∧ b < w.heap.size ∧ ∀ j, w.frozen? ⟨b, j, none⟩ = false
theorem Free.below {w w' : World} {B : Nat} {A : Option Addr} (h : Free w B A) (hB : Below w.heap.size w w') : Free w' B A := fun b off s e => by
  obtain ⟨h1, h2, h3⟩ := h b off s e
  refine ⟨h1, Nat.lt_of_lt_of_le h2 hB.size, fun j => ?_⟩
  have h4 := h3 j
  unfold World.frozen? at h4 ⊢
  rwa [hB.block b h2]
theorem Free.setCell {w : World} {B : Nat} {A : Option Addr} (h : Free w B A) (p : Addr) (u : Value) : Free (w.setCell p u) B A := fun b off s e => by
  obtain ⟨h1, h2, h3⟩ := h b off s e
  exact ⟨h1, by simpa [World.setCell] using h2, fun j => (World.frozen?_setCell _ _ _ _).trans (h3 j)⟩
theorem own_reads_new {w : World} {base : Nat} {e : TypeId} {size : Nat} {v : Value} {n : Nat} {xs : List Value} (h : w.ownsRow base e size v n xs) : ∃ A c, v = .slice A n c ∧ Reads w w.heap.size size A n xs ∧ Free w base A := by
  obtain ⟨A, c, rfl, hr⟩ := own_reads h
  refine ⟨A, c, rfl, hr, fun b off s e => ?_⟩
  subst e
  obtain ⟨hl, hc⟩ := h
  rcases hc with ⟨e1, e2⟩ | ⟨g, cap, cur, e1, h1, h2, h3⟩
  · cases e1
  · cases e1
    refine ⟨h1, ?_, fun j => ?_⟩
    · rcases Nat.lt_or_ge b w.heap.size with h | h
      · exact h
      · rw [Array.getElem?_eq_none h] at h2; cases h2
    · unfold World.frozen?
      simp [h2]

set_option maxRecDepth 100000 in
set_option maxHeartbeats 4000000 in
theorem checkFree_few (w : World) (l : List I) (hok : ∀ i ∈ l, i.Ok) (A : Option Addr) (n c : Nat) (hr : Reads w w.heap.size 4 A n (cellsI l)) (hn : n ≤ 200) (ks : List Nat) (hks : ∀ b ∈ ks, b < 4294967296) (A' : Option Addr) (n' c' : Nat) (hr' : Reads w w.heap.size 1 A' n' (u32sV ks)) (hn' : n' ≤ 200) :
    Calls Try.prog 6 #[.slice A n c, .slice A' n' c'] w fun e w' => e = .returned (.bool true) ∧ Below w.heap.size w w' := by
  obtain ⟨i0, hi0, hz0, hz1, hz2⟩ := info_parts info_refinst
  have hl : n = l.length := by have := hr.1; rw [cellsI_length] at this; omega
  have HL := Lib.hid hl
  clear hl
  have hle1 : ¬ (200 : Int) < (n : Int) := by omega
  have hle2 : ¬ (200 : Int) < (n' : Int) := by omega
  go_enter Try.func6, Try.ntmps6
  go_wp2_with (at_builtin; refine wpList_append_any _ rfl (.tmp 19) (.tmp 20) 22 rfl w.heap.size 51 i0 _ 4 8 Try.underlying22 hi0 hz0 hz1 hz2 rfl (by omega) _ 0 [] rfl (own_empty4 w 51) w.heap.size A n c (cellsI l) rfl (hr.alloc (Nat.le_refl _) _) (cellsI_one l) (by simp only [maxLen]; omega) (by omega) (by simp) ?_; intro v1 w1 own1 hg1 hat1)
  have hB1 : Below w.heap.size w w1 := ((Below.refl _ w).alloc (Nat.le_refl _) _).grown hg1 (by simp) (fun k e => by cases e; exact Nat.le_refl _)
  rw [List.nil_append, Nat.zero_add] at own1
  obtain ⟨A1, c1, rfl, hr1, hnew⟩ := own_reads_new own1
  clear hg1 hat1 own1
  go_loopw [6] (fun i wr => ∃ k : Nat, k ≤ n ∧ i = .int .i64 k ∧ Reads wr wr.heap.size 4 A1 n (cellsI (mixL l ks k)) ∧ Below w.heap.size w wr ∧ Free wr w.heap.size A1) (fun i _ => n - (intOf i).toNat)
  case atStart => exact ⟨0, by omega, rfl, hr1, hB1, hnew⟩
  case round =>
    obtain ⟨k, hk, rfl, hrk, hB, hfree⟩ := hrel
    have hz0 : (0 : Int) ≤ (k : Int) := Int.natCast_nonneg _
    have hso := mixL_ok l ks hok hks k
    have hsl := mixL_length l ks k
    by_cases hlt : k < n ∧ k < n'
    · have hz1 : (k : Int) < (n : Int) := by omega
      have hz2 : (k : Int) < (n' : Int) := by omega
      obtain ⟨b, off, rfl, hb, h0, h1, h2, h3⟩ := hrk.at4 hlt.1
      have hxo := getD_ok hso (k := k) (by rw [hsl, ← HL.out]; omega)
      have hstep := mixL_succ l ks k
      unfold mixOne at hstep
      have HST := Lib.hid hstep
      have HSO := Lib.hid hso
      clear hstep hso h1 h2 h3
      go_wp2_with fail
      refine (free_any _ hxo.1 _).mono ?_
      rintro e w3 ⟨rfl, hB3⟩
      have hB3w := hB.trans (hB3.mono hB.size)
      have hr3 := (hrk.below hB3).more hB3.size
      have hrl := hr3.1
      have hset := hr3.set_ (j := k * 4 + 3) (by rw [hrl]; omega) (.int .u32 (ks.getD k 0 : Nat))
      rw [cellsI_set, ← Nat.add_assoc] at hset
      have hfree3 := hfree.below hB3
      obtain ⟨hbn, hb3, hfz⟩ := hfree3 b off none rfl
      have hfz3 := hfz (off + k * 4 + 3)
      obtain ⟨b', off', e1, hb', g0, g1, g2, g3⟩ := hr3.at4 hlt.1
      cases e1
      obtain ⟨b2, off2, rfl, hb2, hc2⟩ := cellU32 ((hr'.below hB3w)) hlt.2
      clear hrk h0 hB hB3 hfz hfree hnew
      by_cases hf : freeN ((mixL l ks k).getD k default).code = true
      · have hm := HST.out
        rw [if_pos hf] at hm
        rw [← hm] at hset
        have hBs := hB3w.setCell (p := ⟨b, off + k * 4 + 3, none⟩) hbn (.int .u32 (ks.getD k 0 : Nat))
        rw [hf]
        generalize ks.getD k 0 = y at *
        clear hm hr3
        go_wp2_with fail
        go_roundw
        case rel => exact ⟨k + 1, by omega, by go_num, hset.more (by simp [World.setCell]), hBs, hfree3.setCell _ _⟩
        case measure => simp [intOf] <;> omega
      · have hm := HST.out
        rw [if_neg hf] at hm
        have hf' : freeN ((mixL l ks k).getD k default).code = false := by simpa using hf
        rw [hf']
        rw [← hm] at hr3
        clear hm hset
        go_wp2_with fail
        go_roundw
        case rel => exact ⟨k + 1, by omega, by go_num, hr3, hB3w, hfree3⟩
        case measure => simp [intOf] <;> omega
    · have hsame := (mixL_same l ks k).check
      have hml := mixL_length l ks k
      rw [← HL.out] at hml
      generalize mixL l ks k = m at *
      by_cases hkn : k < n
      · have hz1 : (k : Int) < (n : Int) := by omega
        have hz2 : ¬ (k : Int) < (n' : Int) := by omega
        go_wp2_with fail
        refine (all_insts l hok A n c wr ((hr.below hB).more hB.size) (by omega)).mono ?_
        rintro e w2 ⟨v2, rfl, own2, hB2⟩
        rw [← HL.out] at own2
        obtain ⟨A2, c2, rfl, hr2⟩ := own_reads own2
        have hB2w := hB.trans (hB2.mono hB.size)
        have hrk2 := (hrk.below hB2).more hB2.size
        clear own2 hB2 hB hrk
        go_wp2_with fail
        refine (check_any l hok A2 n c2 w2 hr2 (by omega)).mono ?_
        rintro e w3 ⟨rfl, hB3⟩
        have hB3w := hB2w.trans (hB3.mono hB2w.size)
        have hrk3 := (hrk2.below hB3).more hB3.size
        clear hB3 hB2w hr2 hrk2
        go_wp2_with fail
        refine (all_insts m hso A1 n c1 w3 hrk3 (by omega)).mono ?_
        rintro e w4 ⟨v4, rfl, own4, hB4⟩
        rw [hml] at own4
        obtain ⟨A4, c4, rfl, hr4⟩ := own_reads own4
        have hB4w := hB3w.trans (hB4.mono hB3w.size)
        clear own4 hB4 hB3w hrk3
        go_wp2_with fail
        refine (check_any m hso A4 n c4 w4 hr4 (by omega)).mono ?_
        rintro e w5 ⟨rfl, hB5⟩
        have hB5w := hB4w.trans (hB5.mono hB4w.size)
        clear hB5 hB4w hr4
        rw [hsame]
        have s1 : ((((checkN l).1 : Nat) : Int) == (((checkN l).1 : Nat) : Int)) = true := by simp
        have s2 : ((((checkN l).2 : Nat) : Int) == (((checkN l).2 : Nat) : Int)) = true := by simp
        clear hsame
        generalize checkN l = p at *
        go_wp2_with fail
        refine (awake04_any _).mono ?_
        rintro e w6 ⟨rfl, hB6⟩
        go_wp2_with fail
        go_ret
        exact ⟨rfl, hB5w.trans (hB6.mono hB5w.size)⟩
      · have hz1 : ¬ (k : Int) < (n : Int) := by omega
        go_wp2_with fail
        refine (all_insts l hok A n c wr ((hr.below hB).more hB.size) (by omega)).mono ?_
        rintro e w2 ⟨v2, rfl, own2, hB2⟩
        rw [← HL.out] at own2
        obtain ⟨A2, c2, rfl, hr2⟩ := own_reads own2
        have hB2w := hB.trans (hB2.mono hB.size)
        have hrk2 := (hrk.below hB2).more hB2.size
        clear own2 hB2 hB hrk
        go_wp2_with fail
        refine (check_any l hok A2 n c2 w2 hr2 (by omega)).mono ?_
        rintro e w3 ⟨rfl, hB3⟩
        have hB3w := hB2w.trans (hB3.mono hB2w.size)
        have hrk3 := (hrk2.below hB3).more hB3.size
        clear hB3 hB2w hr2 hrk2
        go_wp2_with fail
        refine (all_insts m hso A1 n c1 w3 hrk3 (by omega)).mono ?_
        rintro e w4 ⟨v4, rfl, own4, hB4⟩
        rw [hml] at own4
        obtain ⟨A4, c4, rfl, hr4⟩ := own_reads own4
        have hB4w := hB3w.trans (hB4.mono hB3w.size)
        clear own4 hB4 hB3w hrk3
        go_wp2_with fail
        refine (check_any m hso A4 n c4 w4 hr4 (by omega)).mono ?_
        rintro e w5 ⟨rfl, hB5⟩
        have hB5w := hB4w.trans (hB5.mono hB4w.size)
        clear hB5 hB4w hr4
        rw [hsame]
        have s1 : ((((checkN l).1 : Nat) : Int) == (((checkN l).1 : Nat) : Int)) = true := by simp
        have s2 : ((((checkN l).2 : Nat) : Int) == (((checkN l).2 : Nat) : Int)) = true := by simp
        clear hsame
        generalize checkN l = p at *
        go_wp2_with fail
        refine (awake04_any _).mono ?_
        rintro e w6 ⟨rfl, hB6⟩
        go_wp2_with fail
        go_ret
        exact ⟨rfl, hB5w.trans (hB6.mono hB5w.size)⟩

set_option maxRecDepth 100000 in
theorem checkFree_walk (w : World) (l : List I) (hok : ∀ i ∈ l, i.Ok) (A : Option Addr) (n c : Nat) (hr : Reads w w.heap.size 4 A n (cellsI l)) (_hc : n ≤ c) (_hm : c ≤ maxLen)
    (ks : List Nat) (hks : ∀ b ∈ ks, b < 4294967296) (A' : Option Addr) (n' c' : Nat) (hr' : Reads w w.heap.size 1 A' n' (u32sV ks)) (_hc' : n' ≤ c') (_hm' : c' ≤ maxLen) :
    Calls Try.prog 6 #[.slice A n c, .slice A' n' c'] w fun e w' => e = .returned (.bool true) ∧ Below w.heap.size w w' := by
  by_cases hn : n ≤ 200
  · by_cases hn' : n' ≤ 200
    · exact checkFree_few w l hok A n c hr hn ks hks A' n' c' hr' hn'
    · have h1 : ¬ (200 : Int) < (n : Int) := by omega
      have h2 : (200 : Int) < (n' : Int) := by omega
      go_enter Try.func6, Try.ntmps6
      go_wp2_with fail
      go_ret
      exact ⟨rfl, Below.refl _ _⟩
  · have h1 : (200 : Int) < (n : Int) := by omega
    go_enter Try.func6, Try.ntmps6
    go_wp2_with fail
    go_ret
    exact ⟨rfl, Below.refl _ _⟩
end Go.Proofs.Ytgalkidhgjgbhaa
