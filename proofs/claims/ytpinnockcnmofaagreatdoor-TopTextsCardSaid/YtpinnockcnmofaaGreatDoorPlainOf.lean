/-
  What a code means, as a plain function; that the two tables, with the bit of the source taken out, tell the same.
-/
import Derived.Test.YtpinnockcnmofaaGreatDoorBase
import Derived.Laws.BitsAllLaws
namespace Go.Proofs.YtpinnockcnmofaaGreatDoor
open Go.RowKit

def aloneL : List (Int × Value) := [(32, .int .i64 1), (0, .int .i64 2), (96, .int .i64 3), (128, .int .i64 4), (1, .int .i64 5), (97, .int .i64 6), (129, .int .i64 7), (2, .int .i64 8), (3, .int .i64 9), (7, .int .i64 10), (135, .int .i64 11), (132, .int .i64 12), (5, .int .i64 13), (6, .int .i64 14), (22, .int .i64 15)]
def bothL : List (Int × Value) := [(4, .int .i64 16), (20, .int .i64 17), (36, .int .i64 18), (52, .int .i64 19), (68, .int .i64 20), (84, .int .i64 21), (100, .int .i64 22), (116, .int .i64 23), (164, .int .i64 24), (21, .int .i64 25), (37, .int .i64 26), (53, .int .i64 27), (69, .int .i64 28)]

def aloneT : List Nat := [32, 0, 96, 128, 1, 97, 129, 2, 3, 7, 135, 132, 5, 6, 22]
def bothT : List Nat := [4, 20, 36, 52, 68, 84, 100, 116, 164, 21, 37, 53, 69]

/-- The place of a number in a list, from 0 on; the list's length without one. -/
def place : List Nat → Nat → Nat
  | [], _ => 0
  | x :: l, c => if x = c then 0 else place l c + 1

def kindA (c : Nat) : Nat := if place aloneT c < 15 then place aloneT c + 1 else 0
def kindB (c : Nat) : Nat := if place bothT c < 13 then place bothT c + 16 else 0

/-- A code's kind, and whether its other side is X; 0: it is none. -/
def ofN (c : Nat) : Nat × Bool := if kindA c ≠ 0 then (kindA c, false) else if c / 8 % 2 = 1 then (kindB (c - 8), kindB (c - 8) != 0) else (kindB c, false)

def lookA (c : Nat) : Option Value := if kindA c = 0 then none else some (.int .i64 (kindA c))
def lookB (c : Nat) : Option Value := if kindB c = 0 then none else some (.int .i64 (kindB c))

def tbl : Nat → List Nat → List (Int × Value)
  | _, [] => []
  | s, x :: l => ((x : Int), .int .i64 s) :: tbl (s + 1) l

theorem look_tbl (c : Nat) : ∀ (l : List Nat) (s : Nat), IntMaps.look (tbl s l) c = if place l c < l.length then some (.int .i64 ((place l c + s : Nat) : Int)) else none := by
  intro l
  induction l with
  | nil => intro s; rfl
  | cons x l ih =>
    intro s
    have ih := ih (s + 1)
    unfold IntMaps.look at ih ⊢
    by_cases h : x = c
    · subst h; simp [tbl, place]
    · have hb : ((x : Int) == (c : Int)) = false := by simp; omega
      simp only [tbl, List.find?_cons, hb]
      rw [ih]
      simp only [place, if_neg h, List.length_cons]
      by_cases h2 : place l c < l.length
      · rw [if_pos h2, if_pos (by omega)]
        rw [show place l c + 1 + s = place l c + (s + 1) by omega]
      · rw [if_neg h2, if_neg (by omega)]

theorem aloneL_eq : aloneL = tbl 1 aloneT := rfl
theorem bothL_eq : bothL = tbl 16 bothT := rfl

theorem lookA_eq (c : Nat) : IntMaps.look aloneL c = lookA c := by
  rw [aloneL_eq, look_tbl]
  unfold lookA kindA
  show (if place aloneT c < 15 then _ else _) = _
  by_cases h : place aloneT c < 15
  · rw [if_pos h, if_pos h, if_neg (by omega)]
  · rw [if_neg h, if_neg h]; rfl
theorem lookB_eq (c : Nat) : IntMaps.look bothL c = lookB c := by
  rw [bothL_eq, look_tbl]
  unfold lookB kindB
  show (if place bothT c < 13 then _ else _) = _
  by_cases h : place bothT c < 13
  · rw [if_pos h, if_pos h, if_neg (by omega)]
  · rw [if_neg h, if_neg h]; rfl

theorem nat_and_16 (x y : Nat) : x &&& y = (x / 16 &&& y / 16) * 16 + (x % 16 &&& y % 16) := by
  have h1 : (x &&& y) / 16 = x / 16 &&& y / 16 := by
    have := Nat.shiftRight_and_distrib (a := x) (b := y) (i := 4)
    simpa [Nat.shiftRight_eq_div_pow] using this
  have h2 : (x &&& y) % 16 = x % 16 &&& y % 16 := Nat.and_mod_two_pow (n := 4)
  rw [← h1, ← h2]
  omega

theorem low7 (r : Nat) (h : r < 16) : r &&& 7 = if r / 8 % 2 = 1 then r - 8 else r := by
  revert r; decide
theorem low8 (r : Nat) (h : r < 16) : r &&& 8 = if r / 8 % 2 = 1 then 8 else 0 := by
  revert r; decide

theorem andNot8 (c : Nat) (h : c < 65536) : bits .andNot .u16 (c : Int) 8 = ((if c / 8 % 2 = 1 then c - 8 else c : Nat) : Int) := by
  have e : bits .andNot .u16 (c : Int) ((8 : Nat) : Int) = ((c &&& 65527 : Nat) : Int) := u16_andNot_nat c 8 h (by omega)
  refine e.trans (congrArg _ ?_)
  rw [nat_and_16]
  have h1 : c / 16 &&& 65527 / 16 = c / 16 := Nat.and_two_pow_sub_one_of_lt_two_pow (n := 12) (by omega)
  have h2 : c % 16 &&& 65527 % 16 = _ := low7 (c % 16) (by omega)
  rw [h1, h2]
  have h3 : c % 16 / 8 % 2 = c / 8 % 2 := by omega
  rw [h3]
  split <;> omega
theorem and8 (c : Nat) (h : c < 65536) : (bits .and .u16 (c : Int) 8 != 0) = decide (c / 8 % 2 = 1) := by
  have e : bits .and .u16 (c : Int) ((8 : Nat) : Int) = ((c &&& 8 : Nat) : Int) := u16_and_nat c 8 h (by omega)
  have e' : bits .and .u16 (c : Int) 8 = ((c &&& 8 : Nat) : Int) := e
  rw [e', nat_and_16]
  have h1 : c / 16 &&& 8 / 16 = 0 := Nat.and_zero _
  have h2 : c % 16 &&& 8 % 16 = _ := low8 (c % 16) (by omega)
  rw [h1, h2]
  have h3 : c % 16 / 8 % 2 = c / 8 % 2 := by omega
  rw [h3]
  by_cases hh : c / 8 % 2 = 1 <;> simp [hh]

theorem place_le : ∀ (l : List Nat) (c : Nat), place l c ≤ l.length
  | [], _ => Nat.le_refl _
  | x :: l, c => by
    unfold place
    split
    · simp
    · have := place_le l c; simp; omega
theorem kindA_le (c : Nat) : kindA c ≤ 15 := by unfold kindA; split <;> omega
theorem kindB_le (c : Nat) : kindB c ≤ 28 := by unfold kindB; split <;> omega
theorem ofN_le (c : Nat) : (ofN c).1 ≤ 28 := by
  unfold ofN
  have := kindA_le c; have := kindB_le c; have := kindB_le (c - 8)
  split
  · simp; omega
  · split <;> simp <;> omega
end Go.Proofs.YtpinnockcnmofaaGreatDoor
