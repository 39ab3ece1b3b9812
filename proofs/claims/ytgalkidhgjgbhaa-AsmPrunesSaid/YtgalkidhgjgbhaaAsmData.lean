/-
  Items and steps as they lie in memory.
-/
import Derived.Test.YtgalkidhgjgbhaaAsmSteps
import Derived.Test.YtgalkidhgjgbhaaRow16
namespace Go.Proofs.Ytgalkidhgjgbhaa
open Go.RowKit
set_option linter.unusedVariables false

theorem flat_length {α : Type} (f : α → List Value) (s : Nat) (hf : ∀ x, (f x).length = s) (l : List α) : (l.flatMap f).length = l.length * s := by
  induction l with
  | nil => simp
  | cons i l ih => rw [List.flatMap_cons, List.length_append, ih, List.length_cons, hf, Nat.succ_mul]; omega
theorem flat_get {α : Type} (f : α → List Value) (s : Nat) (hf : ∀ x, (f x).length = s) (d : α) (l : List α) (k j : Nat) (hk : k < l.length) (hj : j < s) : (l.flatMap f)[k * s + j]? = (f (l.getD k d))[j]? := by
  induction l generalizing k with
  | nil => simp at hk
  | cons i l ih =>
    rw [List.flatMap_cons]
    cases k with
    | zero =>
      rw [List.getElem?_append_left (by rw [hf]; omega)]
      simp
    | succ k =>
      rw [List.getElem?_append_right (by rw [hf, Nat.succ_mul]; omega)]
      rw [show (k + 1) * s + j - (f i).length = k * s + j by rw [hf, Nat.succ_mul]; omega, ih k (by simpa using hk)]
      simp

def It.Ok (x : It) : Prop := (-9223372036854775808 ≤ x.mark ∧ x.mark ≤ 9223372036854775807) ∧ x.code < 65536 ∧ x.k < 4294967296 ∧ (-9223372036854775808 ≤ x.tr ∧ x.tr ≤ 9223372036854775807) ∧ (-9223372036854775808 ≤ x.fa ∧ x.fa ≤ 9223372036854775807)
def It.vals (x : It) : List Value := [.int .i64 x.mark, .int .u16 x.code, .int .u32 x.k, .int .i64 x.tr, .int .i64 x.fa]
theorem It.vals_length (x : It) : x.vals.length = 5 := rfl
def cellsT (l : List It) : List Value := l.flatMap It.vals
theorem cellsT_length (l : List It) : (cellsT l).length = l.length * 5 := flat_length _ 5 It.vals_length l
theorem cellsT_append (a b : List It) : cellsT (a ++ b) = cellsT a ++ cellsT b := by unfold cellsT; rw [List.flatMap_append]
theorem cellsT_one (l : List It) : ∀ v ∈ cellsT l, v.oneCell' = true := fun v hv => by
  obtain ⟨i, _, h⟩ := List.mem_flatMap.1 hv
  simp only [It.vals, List.mem_cons, List.not_mem_nil, or_false] at h
  rcases h with rfl | rfl | rfl | rfl | rfl <;> rfl
theorem getD_okT {l : List It} (h : ∀ x ∈ l, x.Ok) {k : Nat} (hk : k < l.length) : (l.getD k default).Ok := by
  have : l.getD k default = l[k] := by simp [hk]
  rw [this]; exact h _ (List.getElem_mem hk)

/-- An item's five cells. -/
theorem Reads.at5 {w : World} {B n : Nat} {A : Option Addr} {l : List It} (h : Reads w B 5 A n (cellsT l)) {k : Nat} (hk : k < n) :
    ∃ b off, A = some ⟨b, off, none⟩ ∧ b < B ∧ ∀ k, k < n → (w.cell? ⟨b, off + k * 5, none⟩ = some (.int .i64 (l.getD k default).mark) ∧ w.cell? ⟨b, off + k * 5 + 1, none⟩ = some (.int .u16 (l.getD k default).code) ∧
      w.cell? ⟨b, off + k * 5 + 2, none⟩ = some (.int .u32 (l.getD k default).k) ∧ w.cell? ⟨b, off + k * 5 + 3, none⟩ = some (.int .i64 (l.getD k default).tr) ∧ w.cell? ⟨b, off + k * 5 + 4, none⟩ = some (.int .i64 (l.getD k default).fa)) := by
  obtain ⟨ad, rfl, hb, hc⟩ := h.2 (by omega)
  have hn : n = l.length := by have := h.1; rw [cellsT_length] at this; omega
  have hg := fun k (hk : k < n) j (hj : j < 5) => flat_get It.vals 5 It.vals_length default l k j (by omega) hj
  obtain ⟨b, off, spot⟩ := ad
  have h0 := hc (0 * 5 + 0) _ ((hg 0 (by omega) 0 (by omega)).trans rfl)
  have hsp : spot = none := by simpa [Addr.add] using World.cell?_spot h0
  subst hsp
  refine ⟨b, off, rfl, hb, fun k hk => ?_⟩
  have key : ∀ j u, j < 5 → (It.vals (l.getD k default))[j]? = some u → w.cell? ⟨b, off + k * 5 + j, none⟩ = some u := by
    intro j u hj hu
    have := hc (k * 5 + j) u ((hg k hk j hj).trans hu)
    rw [← this]
    unfold Addr.add
    by_cases h0 : k * 5 + j = 0
    · rw [if_pos h0, show off + k * 5 + j = off by omega]
    · rw [if_neg h0]; simp [Nat.add_assoc]
  exact ⟨key 0 _ (by omega) rfl, key 1 _ (by omega) rfl, key 2 _ (by omega) rfl, key 3 _ (by omega) rfl, key 4 _ (by omega) rfl⟩
end Go.Proofs.Ytgalkidhgjgbhaa
