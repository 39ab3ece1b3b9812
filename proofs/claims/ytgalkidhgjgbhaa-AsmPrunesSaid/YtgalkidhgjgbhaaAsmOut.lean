/-
  The program of laid steps: in plain words.
-/
import Derived.Test.YtgalkidhgjgbhaaAsmLay
namespace Go.Proofs.Ytgalkidhgjgbhaa
set_option linter.unusedVariables false

def itAt (l : List It) (n : Nat) : It := (ins l).getD n default
def outAt (l : List It) (F : Nat → Bool) (n : Nat) : List I :=
  if reachB l n = false then []
  else if F n = true then [⟨(itAt l n).code, 0, 1, (itAt l n).k⟩, ⟨5, 0, 0, plN l F (yesN l n).toNat - (plN l F n + 1) - 1⟩, ⟨5, 0, 0, plN l F (noN l n).toNat - (plN l F n + 2) - 1⟩]
  else if (itAt l n).kd = 13 then [⟨(itAt l n).code, 0, 0, plN l F (yesN l n).toNat - plN l F n - 1⟩]
  else if 25 ≤ (itAt l n).kd then [⟨(itAt l n).code, plN l F (yesN l n).toNat - plN l F n - 1, plN l F (noN l n).toNat - plN l F n - 1, (itAt l n).k⟩]
  else [⟨(itAt l n).code, 0, 0, (itAt l n).k⟩]
def asmUp (l : List It) (F : Nat → Bool) (k : Nat) : List I := (List.range k).flatMap (outAt l F)
def asmN (l : List It) (F : Nat → Bool) : List I := asmUp l F (ins l).length
theorem asmUp_succ (l : List It) (F : Nat → Bool) (k : Nat) : asmUp l F (k + 1) = asmUp l F k ++ outAt l F k := by unfold asmUp; rw [List.range_succ, List.flatMap_append]; simp
theorem outAt_length (l : List It) (F : Nat → Bool) (n : Nat) : (outAt l F n).length = szN l F n := by
  unfold outAt szN
  cases reachB l n with
  | false => simp
  | true =>
    cases F n with
    | true => simp
    | false =>
      simp only [Bool.true_eq_false, if_false, if_true, Bool.false_eq_true]
      split
      · rfl
      · split <;> rfl
theorem asmUp_length (l : List It) (F : Nat → Bool) : ∀ k, (asmUp l F k).length = plN l F k
  | 0 => rfl
  | k + 1 => by rw [asmUp_succ, List.length_append, asmUp_length l F k, outAt_length, plN_succ]
theorem outAt_none {l : List It} {F : Nat → Bool} {n : Nat} (h : reachB l n = false) : outAt l F n = [] := by unfold outAt; rw [if_pos h]
theorem outAt_far {l : List It} {F : Nat → Bool} {n t u : Nat} (h : reachB l n = true) (hf : F n = true) (ht : yesN l n = (t : Int)) (hu : noN l n = (u : Int)) : outAt l F n = [⟨(itAt l n).code, 0, 1, (itAt l n).k⟩, ⟨5, 0, 0, plN l F t - (plN l F n + 1) - 1⟩, ⟨5, 0, 0, plN l F u - (plN l F n + 2) - 1⟩] := by
  unfold outAt; rw [if_neg (by rw [h]; simp), if_pos hf, ht, hu]; rfl
theorem outAt_jump {l : List It} {F : Nat → Bool} {n t : Nat} (h : reachB l n = true) (hf : F n = false) (hk : (itAt l n).kd = 13) (ht : yesN l n = (t : Int)) : outAt l F n = [⟨(itAt l n).code, 0, 0, plN l F t - plN l F n - 1⟩] := by
  unfold outAt; rw [if_neg (by rw [h]; simp), if_neg (by rw [hf]; simp), if_pos hk, ht]; rfl
theorem outAt_near {l : List It} {F : Nat → Bool} {n t u : Nat} (h : reachB l n = true) (hf : F n = false) (hk : 25 ≤ (itAt l n).kd) (ht : yesN l n = (t : Int)) (hu : noN l n = (u : Int)) : outAt l F n = [⟨(itAt l n).code, plN l F t - plN l F n - 1, plN l F u - plN l F n - 1, (itAt l n).k⟩] := by
  unfold outAt; rw [if_neg (by rw [h]; simp), if_neg (by rw [hf]; simp), if_neg (by omega), if_pos hk, ht, hu]; rfl
theorem outAt_other {l : List It} {F : Nat → Bool} {n : Nat} (h : reachB l n = true) (hf : F n = false) (hk : (itAt l n).kd ≠ 13) (hk2 : ¬ 25 ≤ (itAt l n).kd) : outAt l F n = [⟨(itAt l n).code, 0, 0, (itAt l n).k⟩] := by
  unfold outAt; rw [if_neg (by rw [h]; simp), if_neg (by rw [hf]; simp), if_neg hk, if_neg hk2]
/-- Behind a reached one there is place. -/
theorem plN_ahead {l : List It} (F : Nat → Bool) {n t : Nat} (h : reachB l n = true) (ht : n < t) : plN l F n + szN l F n ≤ plN l F t ∧ 1 ≤ szN l F n := by
  have h1 := plN_mono l F (show n + 1 ≤ t by omega)
  rw [plN_succ] at h1
  refine ⟨h1, ?_⟩
  unfold szN
  rw [if_pos h]
  split <;> omega
theorem farN_ways {l : List It} (F : Nat → Bool) {n t u : Nat} (ht : yesN l n = (t : Int)) (hu : noN l n = (u : Int)) : farN l F n = max (plN l F t) (plN l F u) - plN l F n - 1 := by unfold farN; rw [ht, hu]; rfl
theorem Form.jumpWay {l : List It} (h : Form l) {n : Nat} (hn : n < (ins l).length) (hk : (itAt l n).kd = 13) : ∃ t : Nat, yesN l n = (t : Int) ∧ n < t ∧ t < (ins l).length := by
  rcases h.yes hn with e | ⟨t, e, h1, h2⟩
  · exfalso
    unfold yesN at e
    unfold itAt at hk
    rw [if_neg (by unfold isEnd; omega)] at e
    omega
  · exact ⟨t, e, h1, h2⟩
end Go.Proofs.Ytgalkidhgjgbhaa
