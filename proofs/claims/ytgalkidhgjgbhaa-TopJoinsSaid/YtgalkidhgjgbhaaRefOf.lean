/-
  The walk of strainerref02.Of: whatever the code, the same as the plain function.
-/
import Derived.Test.YtgalkidhgjgbhaaPlainOf
namespace Go.Proofs.Ytgalkidhgjgbhaa
open Go.RowKit

def litI (l : List Nat) : Array Value := (l.map fun n : Nat => Value.int .i64 (n : Int)).toArray

theorem litI_cell (w : World) (l : List Nat) (t k : Nat) (h : k < l.length) : (w.alloc (.cells (litI l) t)).cell? ⟨w.heap.size, k, none⟩ = some (.int .i64 ((l.getD k 0 : Nat) : Int)) := by
  rw [World.cell?_alloc_at _ _ _ _ rfl]
  simp [litI, h]

theorem place_at : ∀ (l : List Nat) (c k : Nat), (∀ j, j < k → l.getD j 0 ≠ c) → k < l.length → l.getD k 0 = c → place l c = k
  | x :: l, c, 0, _, _, h => by simp at h; simp [place, h]
  | x :: l, c, k + 1, h1, h2, h3 => by
    have h0 : x ≠ c := by simpa using h1 0 (by omega)
    unfold place
    rw [if_neg h0, place_at l c k (fun j hj => by simpa using h1 (j + 1) (by omega)) (by simpa using h2) (by simpa using h3)]
theorem place_no : ∀ (l : List Nat) (c : Nat), (∀ j, j < l.length → l.getD j 0 ≠ c) → place l c = l.length
  | [], _, _ => rfl
  | x :: l, c, h => by
    have h0 : x ≠ c := by simpa using h 0 (by simp)
    unfold place
    rw [if_neg h0, place_no l c (fun j hj => by simpa using h (j + 1) (by simp; omega)), List.length_cons]

theorem bothT_bd : ∀ k, k < 13 → bothT.getD k 0 ≤ 164 ∧ bothT.getD k 0 / 8 % 2 = 0 := by decide
theorem aloneT_bd : ∀ k, k < 15 → aloneT.getD k 0 ≤ 135 := by decide

theorem ofN_alone (c k : Nat) (h : k < 15) (h1 : ∀ j, j < k → aloneT.getD j 0 ≠ c) (h2 : aloneT.getD k 0 = c) : ofN c = (k + 1, false) := by
  have hp := place_at aloneT c k h1 h h2
  unfold ofN kindA
  rw [hp, if_pos h]
  simp
theorem kindA_no (c : Nat) (h : ∀ j, j < 15 → aloneT.getD j 0 ≠ c) : kindA c = 0 := by
  have hp := place_no aloneT c h
  unfold kindA
  rw [hp]; rfl
theorem ofN_both (c k : Nat) (h0 : ∀ j, j < 15 → aloneT.getD j 0 ≠ c) (h : k < 13) (h1 : ∀ j, j < k → bothT.getD j 0 ≠ c ∧ bothT.getD j 0 + 8 ≠ c) (h2 : bothT.getD k 0 = c) : ofN c = (k + 16, false) := by
  have hb := (bothT_bd k h).2
  have hp := place_at bothT c k (fun j hj => (h1 j hj).1) h h2
  unfold ofN
  rw [if_neg (by rw [kindA_no c h0]; simp), if_neg (by rw [← h2, hb]; omega)]
  unfold kindB
  rw [hp, if_pos h]
theorem ofN_bothX (c k : Nat) (h0 : ∀ j, j < 15 → aloneT.getD j 0 ≠ c) (h : k < 13) (h1 : ∀ j, j < k → bothT.getD j 0 ≠ c ∧ bothT.getD j 0 + 8 ≠ c) (h2 : bothT.getD k 0 + 8 = c) : ofN c = (k + 16, true) := by
  have hb := (bothT_bd k h).2
  have hp := place_at bothT (c - 8) k (fun j hj => by have := (h1 j hj).2; omega) h (by omega)
  unfold ofN
  rw [if_neg (by rw [kindA_no c h0]; simp), if_pos (by omega)]
  unfold kindB
  rw [hp, if_pos h]
  simp
theorem ofN_no (c : Nat) (h0 : ∀ j, j < 15 → aloneT.getD j 0 ≠ c) (h1 : ∀ j, j < 13 → bothT.getD j 0 ≠ c ∧ bothT.getD j 0 + 8 ≠ c) : ofN c = (0, false) := by
  have hp := place_no bothT c (fun j hj => (h1 j hj).1)
  unfold ofN
  rw [if_neg (by rw [kindA_no c h0]; simp)]
  by_cases h8 : c / 8 % 2 = 1
  · have hq := place_no bothT (c - 8) (fun j hj => by have := (h1 j hj).2; omega)
    rw [if_pos h8]
    unfold kindB
    rw [hq]; rfl
  · rw [if_neg h8]
    unfold kindB
    rw [hp]; rfl

/-- What is told of a code. -/
def TellsOf (c : Nat) (w : World) (e : Ending) (w' : World) : Prop := e = .returned (.tuple #[.int .i64 ((ofN c).1 : Nat), .bool (ofN c).2]) ∧ Below w.heap.size w w'

set_option maxRecDepth 100000 in
theorem refOf_any (c : Nat) (hc : c < 65536) (w : World) : Calls Try.prog 28 #[.int .u16 c] w (TellsOf c w) := by
  go_enter Try.func28, Try.ntmps28
  go_wp2_with fail
  change Code.wp _ _ _ _ (w.alloc (.cells (litI aloneT) 3))
  have hcell := litI_cell w aloneT 3
  have hB : Below w.heap.size w (w.alloc (.cells (litI aloneT) 3)) := (Below.refl _ _).alloc (Nat.le_refl _) _
  have hsz : w.heap.size < (w.alloc (.cells (litI aloneT) 3)).heap.size := by simp
  generalize w.alloc (.cells (litI aloneT) 3) = W1 at *
  go_loop [5] (fun i => ∃ k : Nat, k ≤ 15 ∧ i = .int .i64 k ∧ ∀ j, j < k → aloneT.getD j 0 ≠ c) (fun i => 15 - (intOf i).toNat)
  case atStart => exact ⟨0, by omega, rfl, fun j hj => by omega⟩
  case round =>
    obtain ⟨k, hk, rfl, hno⟩ := hrel
    by_cases hlt : k < 15
    · have hck := hcell k hlt
      have hbd := aloneT_bd k hlt
      by_cases he : aloneT.getD k 0 = c
      · have hfin := ofN_alone c k hlt hno he
        rw [he] at hck
        clear hno he hbd hcell
        go_wp2_with fail
        go_ret2
        unfold TellsOf
        rw [hfin]
        exact ⟨rfl, hB⟩
      · obtain ⟨x, hx⟩ : ∃ x, x = aloneT.getD k 0 := ⟨_, rfl⟩
        have hno' : ∀ j, j < k + 1 → aloneT.getD j 0 ≠ c := fun j hj => by
          by_cases e : j = k
          · subst e; exact he
          · exact hno j (by omega)
        rw [← hx] at hck he hbd
        have hne : ((c : Int) == (x : Int)) = false := by simp; omega
        clear hno hcell
        have Hno := Lib.hid hno'
        clear hno' hx
        go_wp2_with fail
        go_round
        case rel => exact ⟨k + 1, by omega, by go_num, Hno.out⟩
        case measure => simp [intOf]; omega
    · obtain rfl : k = 15 := by omega
      have Hno := Lib.hid hno
      clear hno hcell
      go_wp2_with fail
      change Code.wp _ _ _ _ (W1.alloc (.cells (litI bothT) 3))
      have hcell := litI_cell W1 bothT 3
      have hB2 : Below w.heap.size w (W1.alloc (.cells (litI bothT) 3)) := hB.alloc hB.size _
      generalize W1.alloc (.cells (litI bothT) 3) = W2 at *
      generalize W1.heap.size = b2 at *
      clear hB hsz hk hlt
      go_loop [7] (fun i => ∃ k : Nat, k ≤ 13 ∧ i = .int .i64 k ∧ ∀ j, j < k → bothT.getD j 0 ≠ c ∧ bothT.getD j 0 + 8 ≠ c) (fun i => 13 - (intOf i).toNat)
      case atStart => exact ⟨0, by omega, rfl, fun j hj => by omega⟩
      case round =>
        obtain ⟨k, hk, rfl, hno⟩ := hrel
        by_cases hlt : k < 13
        · have hck := hcell k hlt
          have hbd := (bothT_bd k hlt).1
          by_cases he : bothT.getD k 0 = c
          · have hfin := ofN_both c k Hno.out hlt hno he
            have HF := Lib.hid hfin
            clear hfin
            rw [he] at hck
            clear hno he hbd hcell Hno
            go_wp2_with fail
            go_ret2
            unfold TellsOf
            rw [HF.out]
            exact ⟨rfl, hB2⟩
          · by_cases he8 : bothT.getD k 0 + 8 = c
            · have hfin := ofN_bothX c k Hno.out hlt hno he8
              have HF := Lib.hid hfin
              clear hfin
              obtain ⟨x, hx⟩ : ∃ x, x = bothT.getD k 0 := ⟨_, rfl⟩
              rw [← hx] at hck he he8 hbd
              have hne : ((c : Int) == (x : Int)) = false := by simp; omega
              have heq : ((c : Int) == (x : Int) + 8) = true := by simp; omega
              clear hno he he8 hcell Hno hx
              go_wp2_with fail
              go_ret2
              unfold TellsOf
              rw [HF.out]
              exact ⟨rfl, hB2⟩
            · obtain ⟨x, hx⟩ : ∃ x, x = bothT.getD k 0 := ⟨_, rfl⟩
              have hno' : ∀ j, j < k + 1 → bothT.getD j 0 ≠ c ∧ bothT.getD j 0 + 8 ≠ c := fun j hj => by
                by_cases e : j = k
                · subst e; exact ⟨he, he8⟩
                · exact hno j (by omega)
              rw [← hx] at hck he he8 hbd
              have hne : ((c : Int) == (x : Int)) = false := by simp; omega
              have hne8 : ((c : Int) == (x : Int) + 8) = false := by simp; omega
              have Hno' := Lib.hid hno'
              clear hno hno' he he8 hcell Hno hx
              go_wp2_with fail
              go_round
              case rel => exact ⟨k + 1, by omega, by go_num, Hno'.out⟩
              case measure => simp [intOf]; omega
        · obtain rfl : k = 13 := by omega
          have hfin := ofN_no c Hno.out hno
          have HF := Lib.hid hfin
          clear hfin hno hcell Hno
          go_wp2_with fail
          go_ret2
          unfold TellsOf
          rw [HF.out]
          exact ⟨rfl, hB2⟩
end Go.Proofs.Ytgalkidhgjgbhaa
