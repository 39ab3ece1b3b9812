/-
  The walk of strainerlaw02.InstSources: true.
-/
import Derived.Test.YtlpakmlpnjfcoaaAwake02
namespace Go.Proofs.Ytlpakmlpnjfcoaa
open Go.RowKit

theorem place_eq : ∀ (l : List Nat) (a b : Nat), place l a = place l b → place l a < l.length → a = b
  | x :: l, a, b, h, hl => by
    unfold place at h hl
    by_cases ha : x = a
    · by_cases hb : x = b
      · omega
      · rw [if_pos ha, if_neg hb] at h; omega
    · by_cases hb : x = b
      · rw [if_neg ha, if_pos hb] at h; omega
      · rw [if_neg ha, if_neg hb] at h
        rw [if_neg ha] at hl
        exact place_eq l a b (by omega) (by simp at hl; omega)
theorem place_get : ∀ (l : List Nat) (a : Nat), place l a < l.length → l.getD (place l a) 0 = a
  | x :: l, a, hl => by
    unfold place at hl ⊢
    by_cases ha : x = a
    · rw [if_pos ha]; simpa using ha
    · rw [if_neg ha] at hl ⊢
      simpa using place_get l a (by simp at hl; omega)
theorem kindA_eq {a b : Nat} (h : kindA a = kindA b) (h0 : kindA a ≠ 0) : a = b := by
  unfold kindA at h h0
  by_cases ha : place aloneT a < 15
  · by_cases hb : place aloneT b < 15
    · rw [if_pos ha, if_pos hb] at h
      exact place_eq aloneT a b (by omega) ha
    · rw [if_pos ha, if_neg hb] at h; omega
  · rw [if_neg ha] at h0; omega
theorem kindB_eq {a b : Nat} (h : kindB a = kindB b) (h0 : kindB a ≠ 0) : a = b := by
  unfold kindB at h h0
  by_cases ha : place bothT a < 13
  · by_cases hb : place bothT b < 13
    · rw [if_pos ha, if_pos hb] at h
      exact place_eq bothT a b (by omega) ha
    · rw [if_pos ha, if_neg hb] at h; omega
  · rw [if_neg ha] at h0; omega
theorem kindB_ge {a : Nat} (h : kindB a ≠ 0) : 16 ≤ kindB a := by
  unfold kindB at h ⊢
  split <;> simp_all
theorem bothT_all : ∀ k, k < 13 → bothT.getD k 0 ≤ 164 ∧ bothT.getD k 0 / 8 % 2 = 0 := by decide
theorem kindB_bit {a : Nat} (h : kindB a ≠ 0) : a / 8 % 2 = 0 ∧ a ≤ 164 := by
  unfold kindB at h
  by_cases ha : place bothT a < 13
  · have h1 := place_get bothT a ha
    have h2 := (bothT_all (place bothT a) ha)
    rw [h1] at h2
    exact ⟨h2.2, h2.1⟩
  · rw [if_neg ha] at h; omega

theorem ofN_apart {a b : Nat} (h : ofN a = ofN b) (h0 : (ofN a).1 ≠ 0) : a = b := by
  have ha := kindA_le a
  have hb := kindA_le b
  unfold ofN at h h0
  by_cases a0 : kindA a = 0
  · rw [if_neg (by omega)] at h h0
    by_cases b0 : kindA b = 0
    · rw [if_neg (by omega : ¬ kindA b ≠ 0)] at h
      by_cases a8 : a / 8 % 2 = 1
      · rw [if_pos a8] at h h0
        simp only at h0
        by_cases b8 : b / 8 % 2 = 1
        · rw [if_pos b8] at h
          have := kindB_eq (Prod.mk.inj h).1 h0
          omega
        · rw [if_neg b8] at h
          have := (Prod.mk.inj h).2
          simp at this; omega
      · rw [if_neg a8] at h h0
        simp only at h0
        by_cases b8 : b / 8 % 2 = 1
        · rw [if_pos b8] at h
          have e1 := (Prod.mk.inj h).1
          have e2 := (Prod.mk.inj h).2
          simp at e2; omega
        · rw [if_neg b8] at h
          exact kindB_eq (Prod.mk.inj h).1 h0
    · rw [if_pos b0] at h
      have e1 : ∀ {x : Nat × Bool}, x = (kindA b, false) → x.1 ≤ 15 := fun e => by rw [e]; exact hb
      have e2 := e1 h
      exfalso
      by_cases a8 : a / 8 % 2 = 1
      · rw [if_pos a8] at e2 h0; have := kindB_ge h0; simp at e2; omega
      · rw [if_neg a8] at e2 h0; have := kindB_ge h0; simp at e2; omega
  · rw [if_pos a0] at h h0
    by_cases b0 : kindA b = 0
    · rw [if_neg (by omega : ¬ kindA b ≠ 0)] at h
      exfalso
      by_cases b8 : b / 8 % 2 = 1
      · rw [if_pos b8] at h
        have e := (Prod.mk.inj h).1
        have := kindB_ge (a := b - 8) (by omega)
        omega
      · rw [if_neg b8] at h
        have e := (Prod.mk.inj h).1
        have := kindB_ge (a := b) (by omega)
        omega
    · rw [if_pos b0] at h
      exact kindA_eq (Prod.mk.inj h).1 a0

theorem kindA_8 : ∀ c, c < 173 → kindB c ≠ 0 → kindA (c + 8) = 0 := by decide +kernel

theorem ofN_more {a : Nat} (h1 : 16 ≤ (ofN a).1) (h2 : (ofN a).2 = false) : ofN ((a + 8) % 65536) = ((ofN a).1, true) := by
  have ha := kindA_le a
  by_cases a0 : kindA a = 0
  · by_cases a8 : a / 8 % 2 = 1
    · have e : ofN a = (kindB (a - 8), kindB (a - 8) != 0) := by unfold ofN; rw [if_neg (by omega), if_pos a8]
      rw [e] at h1 h2
      simp at h1 h2; omega
    · have e : ofN a = (kindB a, false) := by unfold ofN; rw [if_neg (by omega), if_neg a8]
      rw [e] at h1 ⊢
      simp only at h1
      have hb := kindB_bit (a := a) (by omega)
      have hA := kindA_8 a (by omega) (by omega)
      rw [Nat.mod_eq_of_lt (by omega)]
      have e2 : ofN (a + 8) = (kindB (a + 8 - 8), kindB (a + 8 - 8) != 0) := by unfold ofN; rw [if_neg (by omega), if_pos (by omega)]
      rw [e2, Nat.add_sub_cancel]
      simp; omega
  · have e : ofN a = (kindA a, false) := by unfold ofN; rw [if_pos a0]
    rw [e] at h1; simp at h1; omega

/-- What is asked on the way, decided. -/
structure Asked (a b : Nat) : Prop where
  no : (ofN a).1 = 0 ∨ (ofN b).1 = 0 ∨ a = b ∨ (ofN a).1 ≠ (ofN b).1 ∨ (ofN a).2 ≠ (ofN b).2
  yes : (ofN a).1 = 0 ∨ (ofN a).2 = true ∨ (ofN a).1 < 16 ∨ ofN ((a + 8) % 65536) = ((ofN a).1, true)

theorem asked (a b : Nat) : Asked a b := by
  refine ⟨?_, ?_⟩
  · by_cases h1 : (ofN a).1 = 0
    · exact .inl h1
    · by_cases h2 : (ofN a).1 = (ofN b).1
      · by_cases h3 : (ofN a).2 = (ofN b).2
        · exact .inr (.inr (.inl (ofN_apart (Prod.ext h2 h3) h1)))
        · exact .inr (.inr (.inr (.inr h3)))
      · exact .inr (.inr (.inr (.inl h2)))
  · by_cases h1 : (ofN a).1 < 16
    · exact .inr (.inr (.inl h1))
    · by_cases h2 : (ofN a).2 = true
      · exact .inr (.inl h2)
      · exact .inr (.inr (.inr (ofN_more (by omega) (by simpa using h2))))

/-- What a code's call gives, whatever the world. -/
def Gives (c : Int) (p : Nat × Bool) : Prop := ∀ w, Calls Try.prog 22 #[.int .u16 c] w fun e w' => e = .returned (.tuple #[.int .i64 (p.1 : Nat), .bool p.2, .bool (((p.1 : Nat) : Int) != 0)]) ∧ Below w.heap.size w w'

set_option maxRecDepth 100000 in
theorem sources_n1 (a b : Nat) (_ha : a < 65536) (_hb : b < 65536) (p q r : Nat × Bool) (gp : Hid (Gives a p)) (gq : Hid (Gives b q)) (gr : Hid (Gives (((a + 8) % 65536 : Nat) : Int) r)) (w : World)
    (hok : ((p.1 : Int) != 0) = false) :
    Calls Try.prog 5 #[.int .u16 a, .int .u16 b] w fun e w' => e = .returned (.bool true) ∧ Below w.heap.size w w' := by
  go_enter Try.func5, Try.ntmps5
  go_wp2_with fail
  refine (gp.out _).mono ?_
  rintro e w1 ⟨rfl, hB1⟩
  go_wp2_with fail
  refine (gq.out _).mono ?_
  rintro e w2 ⟨rfl, hB2⟩
  go_wp2_with fail
  refine (gr.out _).mono ?_
  rintro e w3 ⟨rfl, hB3⟩
  go_wp2_with fail
  refine (awake02_any _).mono ?_
  rintro e w4 ⟨rfl, hB4⟩
  go_wp2_with fail
  go_ret
  have h2 := hB1.trans (hB2.mono hB1.size)
  have h3 := h2.trans (hB3.mono h2.size)
  exact ⟨rfl, h3.trans (hB4.mono h3.size)⟩

set_option maxRecDepth 100000 in
theorem sources_n2y2 (a b : Nat) (_ha : a < 65536) (_hb : b < 65536) (p q r : Nat × Bool) (gp : Hid (Gives a p)) (gq : Hid (Gives b q)) (gr : Hid (Gives (((a + 8) % 65536 : Nat) : Int) r)) (w : World)
    (hok : ((p.1 : Int) != 0) = true) (his : ((q.1 : Int) != 0) = false) (hy : p.2 = true) :
    Calls Try.prog 5 #[.int .u16 a, .int .u16 b] w fun e w' => e = .returned (.bool true) ∧ Below w.heap.size w w' := by
  obtain ⟨p1, p2⟩ := p
  simp only at hy
  subst hy
  go_enter Try.func5, Try.ntmps5
  go_wp2_with fail
  refine (gp.out _).mono ?_
  rintro e w1 ⟨rfl, hB1⟩
  go_wp2_with fail
  refine (gq.out _).mono ?_
  rintro e w2 ⟨rfl, hB2⟩
  go_wp2_with fail
  refine (gr.out _).mono ?_
  rintro e w3 ⟨rfl, hB3⟩
  go_wp2_with fail
  refine (awake02_any _).mono ?_
  rintro e w4 ⟨rfl, hB4⟩
  go_wp2_with fail
  go_ret
  have h2 := hB1.trans (hB2.mono hB1.size)
  have h3 := h2.trans (hB3.mono h2.size)
  exact ⟨rfl, h3.trans (hB4.mono h3.size)⟩

set_option maxRecDepth 100000 in
theorem sources_n2y3 (a b : Nat) (_ha : a < 65536) (_hb : b < 65536) (p q r : Nat × Bool) (gp : Hid (Gives a p)) (gq : Hid (Gives b q)) (gr : Hid (Gives (((a + 8) % 65536 : Nat) : Int) r)) (w : World)
    (hok : ((p.1 : Int) != 0) = true) (his : ((q.1 : Int) != 0) = false) (hy : p.2 = false) (hlt : (p.1 : Int) < 16) :
    Calls Try.prog 5 #[.int .u16 a, .int .u16 b] w fun e w' => e = .returned (.bool true) ∧ Below w.heap.size w w' := by
  obtain ⟨p1, p2⟩ := p
  simp only at hy
  subst hy
  go_enter Try.func5, Try.ntmps5
  go_wp2_with fail
  refine (gp.out _).mono ?_
  rintro e w1 ⟨rfl, hB1⟩
  go_wp2_with fail
  refine (gq.out _).mono ?_
  rintro e w2 ⟨rfl, hB2⟩
  go_wp2_with fail
  refine (gr.out _).mono ?_
  rintro e w3 ⟨rfl, hB3⟩
  go_wp2_with fail
  refine (awake02_any _).mono ?_
  rintro e w4 ⟨rfl, hB4⟩
  go_wp2_with fail
  go_ret
  have h2 := hB1.trans (hB2.mono hB1.size)
  have h3 := h2.trans (hB3.mono h2.size)
  exact ⟨rfl, h3.trans (hB4.mono h3.size)⟩

set_option maxRecDepth 100000 in
theorem sources_n2y4 (a b : Nat) (_ha : a < 65536) (_hb : b < 65536) (p q r : Nat × Bool) (gp : Hid (Gives a p)) (gq : Hid (Gives b q)) (gr : Hid (Gives (((a + 8) % 65536 : Nat) : Int) r)) (w : World)
    (hok : ((p.1 : Int) != 0) = true) (his : ((q.1 : Int) != 0) = false) (hy : p.2 = false) (hlt : ¬ (p.1 : Int) < 16) (hr1 : (r.1 : Int) = (p.1 : Int)) (hr2 : r.2 = true) :
    Calls Try.prog 5 #[.int .u16 a, .int .u16 b] w fun e w' => e = .returned (.bool true) ∧ Below w.heap.size w w' := by
  obtain ⟨p1, p2⟩ := p
  simp only at hy
  subst hy
  obtain ⟨r1, r2⟩ := r
  simp only at hr1 hr2
  subst hr2
  have hr : ((r1 : Int) == (p1 : Int)) = true := by simp; omega
  obtain rfl : r1 = p1 := by omega
  clear hr hr1
  go_enter Try.func5, Try.ntmps5
  go_wp2_with fail
  refine (gp.out _).mono ?_
  rintro e w1 ⟨rfl, hB1⟩
  go_wp2_with fail
  refine (gq.out _).mono ?_
  rintro e w2 ⟨rfl, hB2⟩
  go_wp2_with fail
  refine (gr.out _).mono ?_
  rintro e w3 ⟨rfl, hB3⟩
  go_wp2_with fail
  refine (awake02_any _).mono ?_
  rintro e w4 ⟨rfl, hB4⟩
  go_wp2_with fail
  go_ret
  have h2 := hB1.trans (hB2.mono hB1.size)
  have h3 := h2.trans (hB3.mono h2.size)
  exact ⟨rfl, h3.trans (hB4.mono h3.size)⟩

set_option maxRecDepth 100000 in
theorem sources_n3y2 (a b : Nat) (_ha : a < 65536) (_hb : b < 65536) (p q r : Nat × Bool) (gp : Hid (Gives a p)) (gq : Hid (Gives b q)) (gr : Hid (Gives (((a + 8) % 65536 : Nat) : Int) r)) (w : World)
    (hok : ((p.1 : Int) != 0) = true) (his : ((q.1 : Int) != 0) = true) (hne : ((a : Int) != (b : Int)) = false) (hy : p.2 = true) :
    Calls Try.prog 5 #[.int .u16 a, .int .u16 b] w fun e w' => e = .returned (.bool true) ∧ Below w.heap.size w w' := by
  obtain ⟨p1, p2⟩ := p
  simp only at hy
  subst hy
  go_enter Try.func5, Try.ntmps5
  go_wp2_with fail
  refine (gp.out _).mono ?_
  rintro e w1 ⟨rfl, hB1⟩
  go_wp2_with fail
  refine (gq.out _).mono ?_
  rintro e w2 ⟨rfl, hB2⟩
  go_wp2_with fail
  refine (gr.out _).mono ?_
  rintro e w3 ⟨rfl, hB3⟩
  go_wp2_with fail
  refine (awake02_any _).mono ?_
  rintro e w4 ⟨rfl, hB4⟩
  go_wp2_with fail
  go_ret
  have h2 := hB1.trans (hB2.mono hB1.size)
  have h3 := h2.trans (hB3.mono h2.size)
  exact ⟨rfl, h3.trans (hB4.mono h3.size)⟩

set_option maxRecDepth 100000 in
theorem sources_n3y3 (a b : Nat) (_ha : a < 65536) (_hb : b < 65536) (p q r : Nat × Bool) (gp : Hid (Gives a p)) (gq : Hid (Gives b q)) (gr : Hid (Gives (((a + 8) % 65536 : Nat) : Int) r)) (w : World)
    (hok : ((p.1 : Int) != 0) = true) (his : ((q.1 : Int) != 0) = true) (hne : ((a : Int) != (b : Int)) = false) (hy : p.2 = false) (hlt : (p.1 : Int) < 16) :
    Calls Try.prog 5 #[.int .u16 a, .int .u16 b] w fun e w' => e = .returned (.bool true) ∧ Below w.heap.size w w' := by
  obtain ⟨p1, p2⟩ := p
  simp only at hy
  subst hy
  go_enter Try.func5, Try.ntmps5
  go_wp2_with fail
  refine (gp.out _).mono ?_
  rintro e w1 ⟨rfl, hB1⟩
  go_wp2_with fail
  refine (gq.out _).mono ?_
  rintro e w2 ⟨rfl, hB2⟩
  go_wp2_with fail
  refine (gr.out _).mono ?_
  rintro e w3 ⟨rfl, hB3⟩
  go_wp2_with fail
  refine (awake02_any _).mono ?_
  rintro e w4 ⟨rfl, hB4⟩
  go_wp2_with fail
  go_ret
  have h2 := hB1.trans (hB2.mono hB1.size)
  have h3 := h2.trans (hB3.mono h2.size)
  exact ⟨rfl, h3.trans (hB4.mono h3.size)⟩

set_option maxRecDepth 100000 in
theorem sources_n3y4 (a b : Nat) (_ha : a < 65536) (_hb : b < 65536) (p q r : Nat × Bool) (gp : Hid (Gives a p)) (gq : Hid (Gives b q)) (gr : Hid (Gives (((a + 8) % 65536 : Nat) : Int) r)) (w : World)
    (hok : ((p.1 : Int) != 0) = true) (his : ((q.1 : Int) != 0) = true) (hne : ((a : Int) != (b : Int)) = false) (hy : p.2 = false) (hlt : ¬ (p.1 : Int) < 16) (hr1 : (r.1 : Int) = (p.1 : Int)) (hr2 : r.2 = true) :
    Calls Try.prog 5 #[.int .u16 a, .int .u16 b] w fun e w' => e = .returned (.bool true) ∧ Below w.heap.size w w' := by
  obtain ⟨p1, p2⟩ := p
  simp only at hy
  subst hy
  obtain ⟨r1, r2⟩ := r
  simp only at hr1 hr2
  subst hr2
  have hr : ((r1 : Int) == (p1 : Int)) = true := by simp; omega
  obtain rfl : r1 = p1 := by omega
  clear hr hr1
  go_enter Try.func5, Try.ntmps5
  go_wp2_with fail
  refine (gp.out _).mono ?_
  rintro e w1 ⟨rfl, hB1⟩
  go_wp2_with fail
  refine (gq.out _).mono ?_
  rintro e w2 ⟨rfl, hB2⟩
  go_wp2_with fail
  refine (gr.out _).mono ?_
  rintro e w3 ⟨rfl, hB3⟩
  go_wp2_with fail
  refine (awake02_any _).mono ?_
  rintro e w4 ⟨rfl, hB4⟩
  go_wp2_with fail
  go_ret
  have h2 := hB1.trans (hB2.mono hB1.size)
  have h3 := h2.trans (hB3.mono h2.size)
  exact ⟨rfl, h3.trans (hB4.mono h3.size)⟩

set_option maxRecDepth 100000 in
theorem sources_n4y2 (a b : Nat) (_ha : a < 65536) (_hb : b < 65536) (p q r : Nat × Bool) (gp : Hid (Gives a p)) (gq : Hid (Gives b q)) (gr : Hid (Gives (((a + 8) % 65536 : Nat) : Int) r)) (w : World)
    (hok : ((p.1 : Int) != 0) = true) (his : ((q.1 : Int) != 0) = true) (hne : ((a : Int) != (b : Int)) = true) (hk : ((p.1 : Int) == (q.1 : Int)) = false) (hy : p.2 = true) :
    Calls Try.prog 5 #[.int .u16 a, .int .u16 b] w fun e w' => e = .returned (.bool true) ∧ Below w.heap.size w w' := by
  obtain ⟨p1, p2⟩ := p
  simp only at hy
  subst hy
  go_enter Try.func5, Try.ntmps5
  go_wp2_with fail
  refine (gp.out _).mono ?_
  rintro e w1 ⟨rfl, hB1⟩
  go_wp2_with fail
  refine (gq.out _).mono ?_
  rintro e w2 ⟨rfl, hB2⟩
  go_wp2_with fail
  refine (gr.out _).mono ?_
  rintro e w3 ⟨rfl, hB3⟩
  go_wp2_with fail
  refine (awake02_any _).mono ?_
  rintro e w4 ⟨rfl, hB4⟩
  go_wp2_with fail
  go_ret
  have h2 := hB1.trans (hB2.mono hB1.size)
  have h3 := h2.trans (hB3.mono h2.size)
  exact ⟨rfl, h3.trans (hB4.mono h3.size)⟩

set_option maxRecDepth 100000 in
theorem sources_n4y3 (a b : Nat) (_ha : a < 65536) (_hb : b < 65536) (p q r : Nat × Bool) (gp : Hid (Gives a p)) (gq : Hid (Gives b q)) (gr : Hid (Gives (((a + 8) % 65536 : Nat) : Int) r)) (w : World)
    (hok : ((p.1 : Int) != 0) = true) (his : ((q.1 : Int) != 0) = true) (hne : ((a : Int) != (b : Int)) = true) (hk : ((p.1 : Int) == (q.1 : Int)) = false) (hy : p.2 = false) (hlt : (p.1 : Int) < 16) :
    Calls Try.prog 5 #[.int .u16 a, .int .u16 b] w fun e w' => e = .returned (.bool true) ∧ Below w.heap.size w w' := by
  obtain ⟨p1, p2⟩ := p
  simp only at hy
  subst hy
  go_enter Try.func5, Try.ntmps5
  go_wp2_with fail
  refine (gp.out _).mono ?_
  rintro e w1 ⟨rfl, hB1⟩
  go_wp2_with fail
  refine (gq.out _).mono ?_
  rintro e w2 ⟨rfl, hB2⟩
  go_wp2_with fail
  refine (gr.out _).mono ?_
  rintro e w3 ⟨rfl, hB3⟩
  go_wp2_with fail
  refine (awake02_any _).mono ?_
  rintro e w4 ⟨rfl, hB4⟩
  go_wp2_with fail
  go_ret
  have h2 := hB1.trans (hB2.mono hB1.size)
  have h3 := h2.trans (hB3.mono h2.size)
  exact ⟨rfl, h3.trans (hB4.mono h3.size)⟩

set_option maxRecDepth 100000 in
theorem sources_n4y4 (a b : Nat) (_ha : a < 65536) (_hb : b < 65536) (p q r : Nat × Bool) (gp : Hid (Gives a p)) (gq : Hid (Gives b q)) (gr : Hid (Gives (((a + 8) % 65536 : Nat) : Int) r)) (w : World)
    (hok : ((p.1 : Int) != 0) = true) (his : ((q.1 : Int) != 0) = true) (hne : ((a : Int) != (b : Int)) = true) (hk : ((p.1 : Int) == (q.1 : Int)) = false) (hy : p.2 = false) (hlt : ¬ (p.1 : Int) < 16) (hr1 : (r.1 : Int) = (p.1 : Int)) (hr2 : r.2 = true) :
    Calls Try.prog 5 #[.int .u16 a, .int .u16 b] w fun e w' => e = .returned (.bool true) ∧ Below w.heap.size w w' := by
  obtain ⟨p1, p2⟩ := p
  simp only at hy
  subst hy
  obtain ⟨r1, r2⟩ := r
  simp only at hr1 hr2
  subst hr2
  have hr : ((r1 : Int) == (p1 : Int)) = true := by simp; omega
  obtain rfl : r1 = p1 := by omega
  clear hr hr1
  go_enter Try.func5, Try.ntmps5
  go_wp2_with fail
  refine (gp.out _).mono ?_
  rintro e w1 ⟨rfl, hB1⟩
  go_wp2_with fail
  refine (gq.out _).mono ?_
  rintro e w2 ⟨rfl, hB2⟩
  go_wp2_with fail
  refine (gr.out _).mono ?_
  rintro e w3 ⟨rfl, hB3⟩
  go_wp2_with fail
  refine (awake02_any _).mono ?_
  rintro e w4 ⟨rfl, hB4⟩
  go_wp2_with fail
  go_ret
  have h2 := hB1.trans (hB2.mono hB1.size)
  have h3 := h2.trans (hB3.mono h2.size)
  exact ⟨rfl, h3.trans (hB4.mono h3.size)⟩

set_option maxRecDepth 100000 in
theorem sources_n5y2 (a b : Nat) (_ha : a < 65536) (_hb : b < 65536) (p q r : Nat × Bool) (gp : Hid (Gives a p)) (gq : Hid (Gives b q)) (gr : Hid (Gives (((a + 8) % 65536 : Nat) : Int) r)) (w : World)
    (hok : ((p.1 : Int) != 0) = true) (his : ((q.1 : Int) != 0) = true) (hne : ((a : Int) != (b : Int)) = true) (hk : ((p.1 : Int) == (q.1 : Int)) = true) (hx : (p.2 == q.2) = false) (hy : p.2 = true) :
    Calls Try.prog 5 #[.int .u16 a, .int .u16 b] w fun e w' => e = .returned (.bool true) ∧ Below w.heap.size w w' := by
  obtain ⟨p1, p2⟩ := p
  simp only at hy
  subst hy
  obtain ⟨q1, q2⟩ := q
  simp only at hx
  cases q2 <;> simp at hx
  go_enter Try.func5, Try.ntmps5
  go_wp2_with fail
  refine (gp.out _).mono ?_
  rintro e w1 ⟨rfl, hB1⟩
  go_wp2_with fail
  refine (gq.out _).mono ?_
  rintro e w2 ⟨rfl, hB2⟩
  go_wp2_with fail
  refine (gr.out _).mono ?_
  rintro e w3 ⟨rfl, hB3⟩
  go_wp2_with fail
  refine (awake02_any _).mono ?_
  rintro e w4 ⟨rfl, hB4⟩
  go_wp2_with fail
  go_ret
  have h2 := hB1.trans (hB2.mono hB1.size)
  have h3 := h2.trans (hB3.mono h2.size)
  exact ⟨rfl, h3.trans (hB4.mono h3.size)⟩

set_option maxRecDepth 100000 in
theorem sources_n5y3 (a b : Nat) (_ha : a < 65536) (_hb : b < 65536) (p q r : Nat × Bool) (gp : Hid (Gives a p)) (gq : Hid (Gives b q)) (gr : Hid (Gives (((a + 8) % 65536 : Nat) : Int) r)) (w : World)
    (hok : ((p.1 : Int) != 0) = true) (his : ((q.1 : Int) != 0) = true) (hne : ((a : Int) != (b : Int)) = true) (hk : ((p.1 : Int) == (q.1 : Int)) = true) (hx : (p.2 == q.2) = false) (hy : p.2 = false) (hlt : (p.1 : Int) < 16) :
    Calls Try.prog 5 #[.int .u16 a, .int .u16 b] w fun e w' => e = .returned (.bool true) ∧ Below w.heap.size w w' := by
  obtain ⟨p1, p2⟩ := p
  simp only at hy
  subst hy
  obtain ⟨q1, q2⟩ := q
  simp only at hx
  cases q2 <;> simp at hx
  go_enter Try.func5, Try.ntmps5
  go_wp2_with fail
  refine (gp.out _).mono ?_
  rintro e w1 ⟨rfl, hB1⟩
  go_wp2_with fail
  refine (gq.out _).mono ?_
  rintro e w2 ⟨rfl, hB2⟩
  go_wp2_with fail
  refine (gr.out _).mono ?_
  rintro e w3 ⟨rfl, hB3⟩
  go_wp2_with fail
  refine (awake02_any _).mono ?_
  rintro e w4 ⟨rfl, hB4⟩
  go_wp2_with fail
  go_ret
  have h2 := hB1.trans (hB2.mono hB1.size)
  have h3 := h2.trans (hB3.mono h2.size)
  exact ⟨rfl, h3.trans (hB4.mono h3.size)⟩

set_option maxRecDepth 100000 in
theorem sources_n5y4 (a b : Nat) (_ha : a < 65536) (_hb : b < 65536) (p q r : Nat × Bool) (gp : Hid (Gives a p)) (gq : Hid (Gives b q)) (gr : Hid (Gives (((a + 8) % 65536 : Nat) : Int) r)) (w : World)
    (hok : ((p.1 : Int) != 0) = true) (his : ((q.1 : Int) != 0) = true) (hne : ((a : Int) != (b : Int)) = true) (hk : ((p.1 : Int) == (q.1 : Int)) = true) (hx : (p.2 == q.2) = false) (hy : p.2 = false) (hlt : ¬ (p.1 : Int) < 16) (hr1 : (r.1 : Int) = (p.1 : Int)) (hr2 : r.2 = true) :
    Calls Try.prog 5 #[.int .u16 a, .int .u16 b] w fun e w' => e = .returned (.bool true) ∧ Below w.heap.size w w' := by
  obtain ⟨p1, p2⟩ := p
  simp only at hy
  subst hy
  obtain ⟨r1, r2⟩ := r
  simp only at hr1 hr2
  subst hr2
  have hr : ((r1 : Int) == (p1 : Int)) = true := by simp; omega
  obtain rfl : r1 = p1 := by omega
  clear hr hr1
  obtain ⟨q1, q2⟩ := q
  simp only at hx
  cases q2 <;> simp at hx
  go_enter Try.func5, Try.ntmps5
  go_wp2_with fail
  refine (gp.out _).mono ?_
  rintro e w1 ⟨rfl, hB1⟩
  go_wp2_with fail
  refine (gq.out _).mono ?_
  rintro e w2 ⟨rfl, hB2⟩
  go_wp2_with fail
  refine (gr.out _).mono ?_
  rintro e w3 ⟨rfl, hB3⟩
  go_wp2_with fail
  refine (awake02_any _).mono ?_
  rintro e w4 ⟨rfl, hB4⟩
  go_wp2_with fail
  go_ret
  have h2 := hB1.trans (hB2.mono hB1.size)
  have h3 := h2.trans (hB3.mono h2.size)
  exact ⟨rfl, h3.trans (hB4.mono h3.size)⟩

theorem instSources_walk (w : World) (a : Nat) (ha : a < 65536) (b : Nat) (hb : b < 65536) : Calls Try.prog 5 #[.int .u16 a, .int .u16 b] w fun e w' => e = .returned (.bool true) ∧ Below w.heap.size w w' := by
  obtain ⟨hno, hyes⟩ := asked a b
  have gp : Hid (Gives a (ofN a)) := fun w => of_gives a ha w
  have gq : Hid (Gives b (ofN b)) := fun w => of_gives b hb w
  have gr : Hid (Gives (((a + 8) % 65536 : Nat) : Int) (ofN ((a + 8) % 65536))) := fun w => of_gives _ (by omega) w
  generalize ofN a = p, ofN b = q, ofN ((a + 8) % 65536) = r at *
  have bt : ∀ {x y : Int}, x ≠ y → (x != y) = true := fun h => by simpa using h
  have bf : ∀ {x y : Int}, x = y → (x != y) = false := fun h => by simpa using h
  have et : ∀ {x y : Int}, x = y → (x == y) = true := fun h => by simpa using h
  have ef : ∀ {x y : Int}, x ≠ y → (x == y) = false := fun h => by simpa using h
  by_cases c1 : p.1 = 0
  · exact sources_n1 a b ha hb p q r gp gq gr w (bf (by omega))
  · have k1 := bt (x := (p.1 : Int)) (y := 0) (by omega)
    have hy : p.2 = true ∨ (p.2 = false ∧ (p.1 : Int) < 16) ∨ (p.2 = false ∧ ¬ (p.1 : Int) < 16 ∧ (r.1 : Int) = (p.1 : Int) ∧ r.2 = true) := by
      cases h : p.2 with
      | true => exact .inl rfl
      | false =>
        rcases hyes with h0 | h0 | h0 | h0
        · omega
        · rw [h] at h0; cases h0
        · exact .inr (.inl ⟨rfl, by omega⟩)
        · by_cases h16 : (p.1 : Int) < 16
          · exact .inr (.inl ⟨rfl, h16⟩)
          · exact .inr (.inr ⟨rfl, h16, by rw [h0], by rw [h0]⟩)
    by_cases c2 : q.1 = 0
    · have k2 := bf (x := (q.1 : Int)) (y := 0) (by omega)
      rcases hy with h | ⟨h, h'⟩ | ⟨h, h', h1, h2⟩
      · exact sources_n2y2 a b ha hb p q r gp gq gr w k1 k2 h
      · exact sources_n2y3 a b ha hb p q r gp gq gr w k1 k2 h h'
      · exact sources_n2y4 a b ha hb p q r gp gq gr w k1 k2 h h' h1 h2
    · have k2 := bt (x := (q.1 : Int)) (y := 0) (by omega)
      by_cases c3 : a = b
      · have k3 := bf (x := (a : Int)) (y := (b : Int)) (by omega)
        rcases hy with h | ⟨h, h'⟩ | ⟨h, h', h1, h2⟩
        · exact sources_n3y2 a b ha hb p q r gp gq gr w k1 k2 k3 h
        · exact sources_n3y3 a b ha hb p q r gp gq gr w k1 k2 k3 h h'
        · exact sources_n3y4 a b ha hb p q r gp gq gr w k1 k2 k3 h h' h1 h2
      · have k3 := bt (x := (a : Int)) (y := (b : Int)) (by omega)
        by_cases c4 : p.1 = q.1
        · have k4 := et (x := (p.1 : Int)) (y := (q.1 : Int)) (by omega)
          have k5 : (p.2 == q.2) = false := by
            rcases hno with h | h | h | h | h
            · omega
            · omega
            · omega
            · omega
            · simpa using h
          rcases hy with h | ⟨h, h'⟩ | ⟨h, h', h1, h2⟩
          · exact sources_n5y2 a b ha hb p q r gp gq gr w k1 k2 k3 k4 k5 h
          · exact sources_n5y3 a b ha hb p q r gp gq gr w k1 k2 k3 k4 k5 h h'
          · exact sources_n5y4 a b ha hb p q r gp gq gr w k1 k2 k3 k4 k5 h h' h1 h2
        · have k4 := ef (x := (p.1 : Int)) (y := (q.1 : Int)) (by omega)
          rcases hy with h | ⟨h, h'⟩ | ⟨h, h', h1, h2⟩
          · exact sources_n4y2 a b ha hb p q r gp gq gr w k1 k2 k3 k4 h
          · exact sources_n4y3 a b ha hb p q r gp gq gr w k1 k2 k3 k4 h h'
          · exact sources_n4y4 a b ha hb p q r gp gq gr w k1 k2 k3 k4 h h' h1 h2
end Go.Proofs.Ytlpakmlpnjfcoaa
