/-
  Places and far branches, pass by pass: in plain words.
-/
import Derived.Test.YtgalkidhgjgbhaaAsmSteps
namespace Go.Proofs.Ytgalkidhgjgbhaa
set_option linter.unusedVariables false

/-- A branch that some way leads to, as a Bool. -/
def brB (l : List It) (n : Nat) : Bool := decide (n < (ins l).length) && (reachB l n && decide (25 ≤ ((ins l).getD n default).kd))
theorem brB_iff {l : List It} (h : Form l) (n : Nat) : brB l n = true ↔ Br l n := by
  unfold brB Br
  simp only [Bool.and_eq_true, decide_eq_true_eq]
  constructor
  · rintro ⟨a, b, c⟩; exact ⟨a, (h.reachB_iff (by omega)).1 b, c⟩
  · rintro ⟨a, b, c⟩; exact ⟨a, (h.reachB_iff (by omega)).2 b, c⟩
/-- One pass. -/
def newF (l : List It) (F : Nat → Bool) (n : Nat) : Bool := F n || (brB l n && decide (255 < farN l F n))
def fUp (l : List It) (F : Nat → Bool) (k : Nat) : Nat → Bool := fun n => if n < k then newF l F n else F n
def moreB (l : List It) (F : Nat → Bool) (k : Nat) : Bool := (List.range k).any fun n => !F n && newF l F n
theorem moreB_succ (l : List It) (F : Nat → Bool) (k : Nat) : moreB l F (k + 1) = (moreB l F k || (!F k && newF l F k)) := by
  unfold moreB
  rw [List.range_succ, List.any_append]; simp
theorem fUp_all (l : List It) (F : Nat → Bool) (h : moreB l F (ins l).length = false) (n : Nat) (hn : n < (ins l).length) : newF l F n = F n := by
  unfold moreB at h
  have := List.any_eq_false.1 h n (List.mem_range.2 hn)
  cases e : F n with
  | true => unfold newF; rw [e]; rfl
  | false => rw [e] at this; simpa using this
/-- So many are not apart. -/
def nearN (N : Nat) (F : Nat → Bool) : Nat := (List.range N).countP fun n => !F n
theorem near_less {l : List It} {F : Nat → Bool} (h : moreB l F (ins l).length = true) : nearN (ins l).length (newF l F) < nearN (ins l).length F := by
  unfold moreB at h
  obtain ⟨n, hn, hb⟩ := List.any_eq_true.1 h
  have key : ∀ L : List Nat, n ∈ L → L.countP (fun n => !newF l F n) < L.countP (fun n => !F n) := by
    have mono : ∀ L : List Nat, L.countP (fun n => !newF l F n) ≤ L.countP (fun n => !F n) := fun L => List.countP_mono_left (fun x _ hx => by
      unfold newF at hx
      cases e : F x with
      | true => rw [e] at hx; cases hx
      | false => rfl)
    intro L
    induction L with
    | nil => intro h; cases h
    | cons x L ih =>
      intro hm
      rw [List.countP_cons, List.countP_cons]
      rcases List.mem_cons.1 hm with rfl | hm
      · simp only [Bool.and_eq_true, Bool.not_eq_true'] at hb
        have := mono L
        simp only [hb.1, hb.2]
        simp
        omega
      · have h1 := ih hm
        have h2 : (if (!newF l F x) = true then 1 else 0) ≤ (if (!F x) = true then 1 else 0) := by
          unfold newF
          cases F x <;> cases brB l x && decide (255 < farN l F x) <;> simp
        omega
  exact key _ hn
/-- What holds of who is apart, pass by pass. -/
structure Lays (l : List It) (F : Nat → Bool) : Prop where
  br : ∀ n, F n = true → Br l n
  least : ∀ G : Nat → Bool, Closed l G → ∀ n, F n = true → G n = true
theorem lays_none (l : List It) : Lays l (fun _ => false) := ⟨(fun n h => by cases h), (fun G hG n h => by cases h)⟩
theorem Lays.next {l : List It} (hF : Form l) {F : Nat → Bool} (h : Lays l F) : Lays l (newF l F) := by
  refine ⟨fun n hn => ?_, fun G hG n hn => ?_⟩
  · unfold newF at hn
    simp only [Bool.or_eq_true, Bool.and_eq_true] at hn
    rcases hn with hn | hn
    · exact h.br n hn
    · exact (brB_iff hF n).1 hn.1
  · unfold newF at hn
    simp only [Bool.or_eq_true, Bool.and_eq_true, decide_eq_true_eq] at hn
    rcases hn with hn | hn
    · exact h.least G hG n hn
    · exact least_step hF hG (fun m hm => h.least G hG m hm) ((brB_iff hF n).1 hn.1) hn.2
theorem Lays.laid {l : List It} (hF : Form l) {F : Nat → Bool} (h : Lays l F) (hm : moreB l F (ins l).length = false) : Laid l F := by
  refine ⟨h.br, fun n hn hf => ?_, h.least⟩
  have := fUp_all l F hm n hn.1
  unfold newF at this
  rw [hf, (brB_iff hF n).2 hn] at this
  simp at this
  omega
theorem fUp_succ (l : List It) (F : Nat → Bool) (k : Nat) : fUp l F (k + 1) = fun n => if n = k then newF l F k else fUp l F k n := by
  funext n
  by_cases e : n = k
  · subst e; simp [fUp]
  · rw [if_neg e]
    show (if n < k + 1 then _ else _) = (if n < k then _ else _)
    by_cases h : n < k
    · rw [if_pos (by omega), if_pos h]
    · rw [if_neg (by omega), if_neg h]
/-- A branch's two ways. -/
theorem Form.ways {l : List It} (h : Form l) {n : Nat} (hn : n < (ins l).length) (hk : 25 ≤ ((ins l).getD n default).kd) : ∃ t u : Nat, yesN l n = (t : Int) ∧ noN l n = (u : Int) ∧ n < t ∧ t < (ins l).length ∧ n < u ∧ u < (ins l).length := by
  have hy := h.yes hn
  have ho := h.no hn
  rcases hy with e | ⟨t, e, h1, h2⟩
  · exfalso
    unfold yesN at e
    rw [if_neg (by unfold isEnd; omega)] at e
    omega
  · rcases ho with e2 | ⟨u, e2, h3, h4⟩
    · exfalso
      unfold noN at e2
      rw [if_pos hk] at e2
      omega
    · exact ⟨t, u, e, e2, h1, h2, h3, h4⟩
theorem plN_le (l : List It) (F : Nat → Bool) (n : Nat) : plN l F n ≤ 3 * n := posN_le _ (szN_le l F) n
theorem plN_mono (l : List It) (F : Nat → Bool) {a b : Nat} (h : a ≤ b) : plN l F a ≤ plN l F b := posN_mono' _ h
theorem plN_succ (l : List It) (F : Nat → Bool) (n : Nat) : plN l F (n + 1) = plN l F n + szN l F n := rfl
end Go.Proofs.Ytgalkidhgjgbhaa
