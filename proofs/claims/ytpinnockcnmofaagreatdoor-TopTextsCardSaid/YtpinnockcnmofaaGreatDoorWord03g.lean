/-
  The walks of same, slices.Index, slices.Contains, word.there, word.Halves, word.Join.
-/
import Derived.Test.YtpinnockcnmofaaGreatDoorWord01p
import Derived.Laws.BitsAllLaws
namespace Go.Proofs.YtpinnockcnmofaaGreatDoor
open Go.RowKit
set_option linter.unusedVariables false

/-- same(a, b): true where they are alike. -/
def TellsBool (b : Bool) (w : World) (e : Ending) (w' : World) : Prop := e = .returned (.bool b) ∧ ∃ n, w' = w.drewN n
theorem tells_grows {b : Bool} {w : World} {e : Ending} {w' : World} (h : TellsBool b w e w') : e = .returned (.bool b) ∧ Grows w w' := by
  obtain ⟨he, n, rfl⟩ := h
  exact ⟨he, ⟨rfl, rfl, rfl, Nat.le_refl _, fun _ _ => rfl⟩⟩

def intsV (l : List Int) : List Value := l.map fun n : Int => Value.int .i64 n

/-- An int's cell. -/
theorem Reads.atI {w : World} {B n : Nat} {A : Option Addr} {l : List Int} (h : Reads w B 1 A n (intsV l)) {k : Nat} (hk : k < n) :
    ∃ b off, A = some ⟨b, off, none⟩ ∧ b < B ∧ ∀ j, j < n → w.cell? ⟨b, off + j, none⟩ = some (.int .i64 (l.getD j 0)) := by
  obtain ⟨ad, rfl, hb, hc⟩ := h.2 (by omega)
  have hn : n = l.length := by have := h.1; simp [intsV] at this; omega
  have hg : ∀ j, j < n → (intsV l)[j]? = some (.int .i64 (l.getD j 0)) := fun j hj => by
    simp [intsV, show j < l.length by omega]
  obtain ⟨b, off, spot⟩ := ad
  have h0 := hc 0 _ (hg 0 (by omega))
  have hsp : spot = none := by simpa [Addr.add] using World.cell?_spot h0
  subst hsp
  refine ⟨b, off, rfl, hb, fun j hj => ?_⟩
  rw [← hc j _ (hg j hj)]
  unfold Addr.add
  by_cases h0 : j = 0
  · subst h0; simp
  · rw [if_neg h0]

/-- What an index says. -/
def TellsIndex (l : List Int) (v : Int) (w : World) (e : Ending) (w' : World) : Prop := ∃ r : Int, e = .returned (.int .i64 r) ∧ -1 ≤ r ∧ (0 ≤ r ↔ v ∈ l) ∧ w = w'

set_option maxRecDepth 100000 in
theorem index_any (l : List Int) (v : Int) (A : Option Addr) (n c : Nat) (w : World) (hr : Reads w w.heap.size 1 A n (intsV l)) (hn : n ≤ 1000000) :
    Calls Tryz.prog 84 #[.slice A n c, .int .i64 v] w (TellsIndex l v w) := by
  have hl : n = l.length := by have := hr.1; simp [intsV] at this; omega
  have Hl := Lib.hid hl
  clear hl
  go_enter Tryz.func84, Tryz.ntmps84
  go_wp2_with fail
  go_loop [8] (fun i => ∃ k : Nat, k ≤ n ∧ i = .int .i64 k ∧ ∀ j, j < k → l.getD j 0 ≠ v) (fun i => n - (intOf i).toNat)
  case atStart => exact ⟨0, by omega, rfl, fun j hj => by omega⟩
  case round =>
    obtain ⟨k, hk, rfl, hno⟩ := hrel
    by_cases hlt : k < n
    · obtain ⟨b, off, rfl, hb, hc⟩ := hr.atI hlt
      have hck := hc k hlt
      have hkl : k < l.length := by have := Hl.out; omega
      have hmem : l.getD k 0 ∈ l := by
        have : l.getD k 0 = l[k] := by simp [hkl]
        rw [this]; exact List.getElem_mem hkl
      by_cases he : l.getD k 0 = v
      · rw [he] at hmem hck
        have hs : (v == v) = true := by simp
        clear hno he hc hr hkl
        go_wp2_with fail
        go_ret
        exact ⟨k, rfl, by omega, ⟨fun _ => hmem, fun _ => by omega⟩, rfl⟩
      · have hno' : ∀ j, j < k + 1 → l.getD j 0 ≠ v := fun j hj => by
          by_cases e : j = k
          · subst e; exact he
          · exact hno j (by omega)
        obtain ⟨x, hx⟩ : ∃ x, x = l.getD k 0 := ⟨_, rfl⟩
        rw [← hx] at hck he
        have hne : (v == x) = false := by simp; exact fun e => he e.symm
        have Hno := Lib.hid hno'
        clear hno hno' hx hc hmem he hkl hr
        go_wp2_with fail
        go_round
        case rel => exact ⟨k + 1, by omega, by go_num, Hno.out⟩
        case measure => simp [intOf] <;> omega
    · obtain rfl : k = n := by omega
      have hnot : v ∉ l := by
        intro hv
        obtain ⟨j, hj, e⟩ := List.getElem_of_mem hv
        have hjk : j < k := by have := Hl.out; omega
        exact hno j hjk (by simp [hj, e])
      have HN := Lib.hid hnot
      clear hno hnot hr
      go_wp2_with fail
      go_ret
      exact ⟨-1, rfl, by omega, ⟨fun h => by omega, fun h => absurd h HN.out⟩, rfl⟩

set_option maxRecDepth 100000 in
theorem contains_any (l : List Int) (v : Int) (A : Option Addr) (n c : Nat) (w : World) (hr : Reads w w.heap.size 1 A n (intsV l)) (hn : n ≤ 1000000) :
    Calls Tryz.prog 47 #[.slice A n c, .int .i64 v] w fun e w' => e = .returned (.bool (decide (v ∈ l))) ∧ w = w' := by
  by_cases hv : v ∈ l
  · rw [decide_eq_true hv]
    have HV := Lib.hid hv
    clear hv
    go_enter Tryz.func47, Tryz.ntmps47
    go_wp2_with fail
    refine (index_any l v A n c w hr hn).mono ?_
    rintro e w' ⟨r, rfl, h1, h2, rfl⟩
    have h0 : 0 ≤ r := h2.2 HV.out
    clear h2 h1 hr
    go_wp2_with fail
    go_ret
    exact ⟨rfl, rfl⟩
  · rw [decide_eq_false hv]
    have HV := Lib.hid hv
    clear hv
    go_enter Tryz.func47, Tryz.ntmps47
    go_wp2_with fail
    refine (index_any l v A n c w hr hn).mono ?_
    rintro e w' ⟨r, rfl, h1, h2, rfl⟩
    have h0 : ¬ 0 ≤ r := fun h => HV.out (h2.1 h)
    obtain rfl : r = -1 := by omega
    clear h2 h1 hr h0
    go_wp2_with fail
    go_ret
    exact ⟨rfl, rfl⟩

theorem wide_mem (width : Int) : (width ∈ [(1 : Int), 2, 4, 8]) ↔ Wide width := by simp [Wide]

/-- What word.there says. -/
def TellsThere (size at_ width : Int) (w : World) (e : Ending) (w' : World) : Prop := e = .returned (.int .i64 (wrongN size at_ width : Nat)) ∧ Below w.heap.size w w'

set_option maxRecDepth 100000 in
theorem there_any (A : Option Addr) (n c : Nat) (at_ width : Int) (w : World) (hn : (n : Int) ≤ 9223372036854775807) :
    Calls Tryz.prog 26 #[.slice A n c, .int .i64 at_, .int .i64 width] w (TellsThere n at_ width w) := by
  have hlit : Reads (w.alloc (.cells #[.int .i64 1, .int .i64 2, .int .i64 4, .int .i64 8] 3)) (w.alloc (.cells #[.int .i64 1, .int .i64 2, .int .i64 4, .int .i64 8] 3)).heap.size 1 (some ⟨w.heap.size, 0, none⟩) 4 (intsV [1, 2, 4, 8]) := (reads_lit w (intsV [1, 2, 4, 8]) 3 1 4 rfl).more (by simp)
  have hB : Below w.heap.size w (w.alloc (.cells #[.int .i64 1, .int .i64 2, .int .i64 4, .int .i64 8] 3)) := (Below.refl _ _).alloc (Nat.le_refl _) _
  by_cases hw : Wide width
  · have hd : decide (width ∈ [(1 : Int), 2, 4, 8]) = true := decide_eq_true ((wide_mem width).2 hw)
    have hfin : ∀ c : Prop, [Decidable c] → (if width ≠ 1 ∧ width ≠ 2 ∧ width ≠ 4 ∧ width ≠ 8 then 1 else if c then 2 else 0) = if c then 2 else 0 := fun c _ => if_neg (by rcases hw with h | h | h | h <;> omega)
    by_cases ha : at_ < 0
    · have hv : wrongN n at_ width = 2 := by unfold wrongN; rw [hfin, if_pos (.inl ha)]
      have HV := Lib.hid hv
      have HD := Lib.hid hd
      clear hfin hv hd
      have hw1 : 1 ≤ width ∧ width ≤ 8 := by rcases hw with h | h | h | h <;> omega
      clear hw
      obtain ⟨hw1, hw2⟩ := hw1
      go_enter Tryz.func26, Tryz.ntmps26
      go_wp2_with fail
      refine (contains_any [1, 2, 4, 8] _ _ _ _ _ hlit (by omega)).mono ?_
      rintro e w' ⟨rfl, rfl⟩
      rw [HD.out]
      go_wp2_with fail
      go_ret
      exact ⟨by rw [HV.out]; rfl, hB⟩
    · by_cases hb : (n : Int) - width < at_
      · have hv : wrongN n at_ width = 2 := by unfold wrongN; rw [hfin, if_pos (.inr hb)]
        have HV := Lib.hid hv
        have HD := Lib.hid hd
        clear hfin hv hd
        have hw1 : 1 ≤ width ∧ width ≤ 8 := by rcases hw with h | h | h | h <;> omega
        clear hw
        obtain ⟨hw1, hw2⟩ := hw1
        go_enter Tryz.func26, Tryz.ntmps26
        go_wp2_with fail
        refine (contains_any [1, 2, 4, 8] _ _ _ _ _ hlit (by omega)).mono ?_
        rintro e w' ⟨rfl, rfl⟩
        rw [HD.out]
        go_wp2_with fail
        go_ret
        exact ⟨by rw [HV.out]; rfl, hB⟩
      · have hv : wrongN n at_ width = 0 := by unfold wrongN; rw [hfin, if_neg (by omega)]
        have HV := Lib.hid hv
        have HD := Lib.hid hd
        clear hfin hv hd
        have hw1 : 1 ≤ width ∧ width ≤ 8 := by rcases hw with h | h | h | h <;> omega
        clear hw
        obtain ⟨hw1, hw2⟩ := hw1
        go_enter Tryz.func26, Tryz.ntmps26
        go_wp2_with fail
        refine (contains_any [1, 2, 4, 8] _ _ _ _ _ hlit (by omega)).mono ?_
        rintro e w' ⟨rfl, rfl⟩
        rw [HD.out]
        go_wp2_with fail
        go_ret
        exact ⟨by rw [HV.out]; rfl, hB⟩
  · have hd : decide (width ∈ [(1 : Int), 2, 4, 8]) = false := decide_eq_false (fun h => hw ((wide_mem width).1 h))
    have hv : wrongN n at_ width = 1 := by unfold wrongN; rw [if_pos (by unfold Wide at hw; omega)]
    have HV := Lib.hid hv
    have HD := Lib.hid hd
    clear hv hd hw
    go_enter Tryz.func26, Tryz.ntmps26
    go_wp2_with fail
    refine (contains_any [1, 2, 4, 8] _ _ _ _ _ hlit (by omega)).mono ?_
    rintro e w' ⟨rfl, rfl⟩
    rw [HD.out]
    go_wp2_with fail
    go_ret
    exact ⟨by rw [HV.out]; rfl, hB⟩
end Go.Proofs.YtpinnockcnmofaaGreatDoor
