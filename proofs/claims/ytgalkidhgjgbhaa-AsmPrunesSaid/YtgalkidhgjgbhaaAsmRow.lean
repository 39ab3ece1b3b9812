/-
  Steps as they lie in memory: eleven cells each.
-/
import Derived.Test.YtgalkidhgjgbhaaAsmData
import Derived.Deep.MidRow
namespace Go.Proofs.Ytgalkidhgjgbhaa
open Go.RowKit
set_option linter.unusedVariables false

theorem flat_set {α : Type} (f : α → List Value) (s : Nat) (hf : ∀ x, (f x).length = s) (d : α) (l : List α) (k j : Nat) (v : Value) (y : α) (hk : k < l.length) (hj : j < s) (hy : f y = (f (l.getD k d)).set j v) :
    (l.set k y).flatMap f = (l.flatMap f).set (k * s + j) v := by
  induction l generalizing k with
  | nil => simp at hk
  | cons i l ih =>
    cases k with
    | zero =>
      rw [List.set_cons_zero, List.flatMap_cons, List.flatMap_cons, hy]
      rw [List.set_append, if_pos (by rw [hf]; omega)]
      simp
    | succ k =>
      rw [List.set_cons_succ, List.flatMap_cons, List.flatMap_cons, ih k (by simpa using hk) (by simpa using hy)]
      rw [List.set_append, if_neg (by rw [hf, Nat.succ_mul]; omega), show (k + 1) * s + j - (f i).length = k * s + j by rw [hf, Nat.succ_mul]; omega]

structure St where
  it : It
  yes : Int
  no : Int
  far : Bool
  at_ : Nat
  dead : Bool
  deriving Inhabited
def St.vals (s : St) : List Value := [.int .i64 s.it.mark, .int .u16 s.it.code, .int .u32 s.it.k, .int .i64 s.it.tr, .int .i64 s.it.fa, .int .i64 (s.it.kd : Nat), .int .i64 s.yes, .int .i64 s.no, .bool s.far, .int .i64 (s.at_ : Nat), .bool s.dead]
theorem St.vals_length (s : St) : s.vals.length = 11 := rfl
theorem St.vals_one (s : St) : ∀ v ∈ s.vals, v.oneCell' = true := by
  intro v hv
  simp only [St.vals, List.mem_cons, List.not_mem_nil, or_false] at hv
  rcases hv with rfl | rfl | rfl | rfl | rfl | rfl | rfl | rfl | rfl | rfl | rfl <;> rfl
def cellsS (S : List St) : List Value := S.flatMap St.vals
theorem cellsS_length (S : List St) : (cellsS S).length = S.length * 11 := flat_length _ 11 St.vals_length S
theorem cellsS_append (a b : List St) : cellsS (a ++ b) = cellsS a ++ cellsS b := by unfold cellsS; rw [List.flatMap_append]
theorem cellsS_get (S : List St) (k j : Nat) (hk : k < S.length) (hj : j < 11) : (cellsS S)[k * 11 + j]? = (St.vals (S.getD k default))[j]? := flat_get _ 11 St.vals_length default S k j hk hj

/-- Steps by what each holds. -/
def stL (L : List It) (Y O : Nat → Int) (F : Nat → Bool) (P : Nat → Nat) (D : Nat → Bool) : List St := (List.range L.length).map fun n => ⟨L.getD n default, Y n, O n, F n, P n, D n⟩
section
variable (L : List It) (Y O : Nat → Int) (F : Nat → Bool) (P : Nat → Nat) (D : Nat → Bool)
theorem stL_length : (stL L Y O F P D).length = L.length := by simp [stL]
theorem stL_getD {n : Nat} (h : n < L.length) : (stL L Y O F P D).getD n default = ⟨L.getD n default, Y n, O n, F n, P n, D n⟩ := by simp [stL, h]
def upd {α : Type} (f : Nat → α) (n : Nat) (v : α) : Nat → α := fun m => if m = n then v else f m
theorem upd_same {α : Type} (f : Nat → α) (n : Nat) (v : α) : upd f n v n = v := by simp [upd]
theorem upd_other {α : Type} (f : Nat → α) (n m : Nat) (v : α) (h : m ≠ n) : upd f n v m = f m := by simp [upd, h]
theorem stL_set {n : Nat} (h : n < L.length) (Y' O' : Nat → Int) (F' : Nat → Bool) (P' : Nat → Nat) (D' : Nat → Bool) (hy : ∀ m, m ≠ n → Y' m = Y m) (ho : ∀ m, m ≠ n → O' m = O m) (hf : ∀ m, m ≠ n → F' m = F m) (hp : ∀ m, m ≠ n → P' m = P m) (hd : ∀ m, m ≠ n → D' m = D m) :
    stL L Y' O' F' P' D' = (stL L Y O F P D).set n ⟨L.getD n default, Y' n, O' n, F' n, P' n, D' n⟩ := by
  apply List.ext_getElem (by simp [stL])
  intro m h1 h2
  rw [List.getElem_set]
  by_cases e : n = m
  · subst e; simp [stL]
  · rw [if_neg e]
    simp [stL, hy m (fun h => e h.symm), ho m (fun h => e h.symm), hf m (fun h => e h.symm), hp m (fun h => e h.symm), hd m (fun h => e h.symm)]
variable {L Y O F P D} {n : Nat} (h : n < L.length)
include h
theorem setY (v : Int) : cellsS (stL L (upd Y n v) O F P D) = (cellsS (stL L Y O F P D)).set (n * 11 + 6) (.int .i64 v) := by
  rw [stL_set L Y O F P D h (upd Y n v) O F P D (fun m e => upd_other _ _ _ _ e) (fun _ _ => rfl) (fun _ _ => rfl) (fun _ _ => rfl) (fun _ _ => rfl), upd_same]
  exact flat_set _ 11 St.vals_length default _ n 6 _ _ (by rw [stL_length]; exact h) (by omega) (by rw [stL_getD L Y O F P D h]; rfl)
theorem setO (v : Int) : cellsS (stL L Y (upd O n v) F P D) = (cellsS (stL L Y O F P D)).set (n * 11 + 7) (.int .i64 v) := by
  rw [stL_set L Y O F P D h Y (upd O n v) F P D (fun _ _ => rfl) (fun m e => upd_other _ _ _ _ e) (fun _ _ => rfl) (fun _ _ => rfl) (fun _ _ => rfl), upd_same]
  exact flat_set _ 11 St.vals_length default _ n 7 _ _ (by rw [stL_length]; exact h) (by omega) (by rw [stL_getD L Y O F P D h]; rfl)
theorem setF (v : Bool) : cellsS (stL L Y O (upd F n v) P D) = (cellsS (stL L Y O F P D)).set (n * 11 + 8) (.bool v) := by
  rw [stL_set L Y O F P D h Y O (upd F n v) P D (fun _ _ => rfl) (fun _ _ => rfl) (fun m e => upd_other _ _ _ _ e) (fun _ _ => rfl) (fun _ _ => rfl), upd_same]
  exact flat_set _ 11 St.vals_length default _ n 8 _ _ (by rw [stL_length]; exact h) (by omega) (by rw [stL_getD L Y O F P D h]; rfl)
theorem setP (v : Nat) : cellsS (stL L Y O F (upd P n v) D) = (cellsS (stL L Y O F P D)).set (n * 11 + 9) (.int .i64 v) := by
  rw [stL_set L Y O F P D h Y O F (upd P n v) D (fun _ _ => rfl) (fun _ _ => rfl) (fun _ _ => rfl) (fun m e => upd_other _ _ _ _ e) (fun _ _ => rfl), upd_same]
  exact flat_set _ 11 St.vals_length default _ n 9 _ _ (by rw [stL_length]; exact h) (by omega) (by rw [stL_getD L Y O F P D h]; rfl)
theorem setD (v : Bool) : cellsS (stL L Y O F P (upd D n v)) = (cellsS (stL L Y O F P D)).set (n * 11 + 10) (.bool v) := by
  rw [stL_set L Y O F P D h Y O F P (upd D n v) (fun _ _ => rfl) (fun _ _ => rfl) (fun _ _ => rfl) (fun _ _ => rfl) (fun m e => upd_other _ _ _ _ e), upd_same]
  exact flat_set _ 11 St.vals_length default _ n 10 _ _ (by rw [stL_length]; exact h) (by omega) (by rw [stL_getD L Y O F P D h]; rfl)
theorem stL_cell {W : World} {g cap : Nat} {t : TypeId} (hr : RowK W g t cap (cellsS (stL L Y O F P D))) (j : Nat) (hj : j < 11) (v : Value) (hv : (St.vals ⟨L.getD n default, Y n, O n, F n, P n, D n⟩)[j]? = some v) : W.cell? ⟨g, n * 11 + j, none⟩ = some v :=
  hr.cell ((cellsS_get _ n j (by rw [stL_length]; exact h) hj).trans (by rw [stL_getD L Y O F P D h]; exact hv))
/-- A step's eleven cells. -/
theorem stL_range {W : World} {g cap : Nat} {t : TypeId} (hr : RowK W g t cap (cellsS (stL L Y O F P D))) : W.rangeAt g (n * 11) (St.vals ⟨L.getD n default, Y n, O n, F n, P n, D n⟩) := fun j v hv =>
  stL_cell h hr j (by have := (List.getElem?_eq_some_iff.1 hv).1; rw [St.vals_length] at this; exact this) v hv
end
theorem stL_congr {L : List It} {Y O Y' O' : Nat → Int} {F F' : Nat → Bool} {P P' : Nat → Nat} {D D' : Nat → Bool} (h : ∀ n, n < L.length → Y n = Y' n ∧ O n = O' n ∧ F n = F' n ∧ P n = P' n ∧ D n = D' n) : stL L Y O F P D = stL L Y' O' F' P' D' := by
  unfold stL
  apply List.map_congr_left
  intro n hn
  obtain ⟨a, b, c, d, e⟩ := h n (List.mem_range.1 hn)
  rw [a, b, c, d, e]
end Go.Proofs.Ytgalkidhgjgbhaa
