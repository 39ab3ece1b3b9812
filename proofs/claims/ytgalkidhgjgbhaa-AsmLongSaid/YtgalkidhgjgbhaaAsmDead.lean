/-
  Items behind the end that nothing names do not stand in the program: in plain words.
-/
import Derived.Test.YtgalkidhgjgbhaaAsmOut
import Derived.Test.YtgalkidhgjgbhaaChkCheck
namespace Go.Proofs.Ytgalkidhgjgbhaa
set_option linter.unusedVariables false

theorem getD_leftT (a b : List It) {i : Nat} (h : i < a.length) : (a ++ b).getD i default = a.getD i default := by
  rw [List.getD_eq_getElem?_getD, List.getElem?_append_left h, List.getD_eq_getElem?_getD]
theorem getD_rightT (a b : List It) {i : Nat} (h : a.length ≤ i) : (a ++ b).getD i default = b.getD (i - a.length) default := by
  rw [List.getD_eq_getElem?_getD, List.getElem?_append_right h, List.getD_eq_getElem?_getD]
theorem getD_memT {a : List It} {i : Nat} (h : i < a.length) : a.getD i default ∈ a := by
  rw [List.getD_eq_getElem?_getD, List.getElem?_eq_getElem h]
  exact List.getElem_mem h
/-- Instructions that nothing names and that name nothing, the last of which returns. -/
structure Dead (d : List It) : Prop where
  all : ∀ x ∈ d, x.mark = 0 ∧ x.kd ≠ 0 ∧ x.tr = 0 ∧ x.fa = 0
  pos : 0 < d.length
  last : isEnd (d.getD (d.length - 1) default).kd

theorem cnt_left (l d : List It) {p : Nat} (h : p ≤ l.length) : cnt (l ++ d) p = cnt l p := by
  unfold cnt
  rw [List.take_append_of_le_length h]
section
variable {l d : List It} (hF : Form l) (hd : Dead d)
include hd
theorem Dead.ins : ins (l ++ d) = ins l ++ d := by
  rw [ins_append]
  congr 1
  unfold Go.Proofs.Ytgalkidhgjgbhaa.ins
  exact List.filter_eq_self.2 fun x hx => by simpa using (hd.all x hx).1
theorem Dead.uniq {m : Int} {j : Nat} (h : Uniq l m j) : Uniq (l ++ d) m j := by
  obtain ⟨h1, h2, h3⟩ := h
  refine ⟨h1, by rw [List.length_append]; omega, fun p hp => ?_⟩
  by_cases hpl : p < l.length
  · rw [getD_leftT _ _ hpl]; exact h3 p hpl
  · rw [getD_rightT _ _ (by omega)]
    rw [List.length_append] at hp
    have := (hd.all _ (getD_memT (a := d) (i := p - l.length) (by omega))).1
    rw [this]
    exact ⟨fun e => absurd e.symm h1, fun e => by omega⟩
include hF
theorem Dead.form : Form (l ++ d) := by
  have hpos := hd.pos
  refine ⟨fun i hi => ?_, ?_, ?_, ?_⟩
  · rw [List.length_append] at hi
    unfold OkAt
    by_cases hil : i < l.length
    · rw [getD_leftT _ _ hil]
      have h1 := hF.1 i hil
      unfold OkAt at h1
      split at h1
      · rename_i hm
        rw [if_pos hm]
        exact ⟨h1.1, hd.uniq h1.2.1, h1.2.2⟩
      · rename_i hm
        rw [if_neg hm]
        refine ⟨h1.1, fun ht => ?_, fun ht => ?_⟩
        · obtain ⟨a, j, b, c⟩ := h1.2.1 ht
          exact ⟨a, j, b, hd.uniq c⟩
        · obtain ⟨a, j, b, c⟩ := h1.2.2 ht
          exact ⟨a, j, b, hd.uniq c⟩
    · rw [getD_rightT _ _ (by omega)]
      obtain ⟨a, b, c, e⟩ := hd.all _ (getD_memT (a := d) (i := i - l.length) (by omega))
      rw [if_neg (by rw [a]; simp)]
      exact ⟨b, fun h => absurd c h, fun h => absurd e h⟩
  · intro h
    have := congrArg List.length h
    rw [List.length_append, List.length_nil] at this; omega
  · rw [List.length_append, getD_rightT _ _ (by omega), show l.length + d.length - 1 - l.length = d.length - 1 by omega]
    exact (hd.all _ (getD_memT (by omega))).1
  · rw [List.length_append, getD_rightT _ _ (by omega), show l.length + d.length - 1 - l.length = d.length - 1 by omega]
    exact hd.last
omit hF in
theorem Dead.itAt {n : Nat} (hn : n < (Go.Proofs.Ytgalkidhgjgbhaa.ins l).length) : Go.Proofs.Ytgalkidhgjgbhaa.itAt (l ++ d) n = Go.Proofs.Ytgalkidhgjgbhaa.itAt l n := by
  unfold Go.Proofs.Ytgalkidhgjgbhaa.itAt
  rw [hd.ins, getD_leftT _ _ hn]
theorem Dead.to {n : Nat} (hn : n < (Go.Proofs.Ytgalkidhgjgbhaa.ins l).length) (m : Int) (hm : m = (Go.Proofs.Ytgalkidhgjgbhaa.itAt l n).tr ∨ m = (Go.Proofs.Ytgalkidhgjgbhaa.itAt l n).fa) : toN (l ++ d) n m = toN l n m := by
  unfold toN
  by_cases e : m = 0
  · rw [if_pos e, if_pos e]
  · rw [if_neg e, if_neg e]
    obtain ⟨p, h1, h2, h3, h4, h5⟩ := hF.okIns hn
    unfold OkAt at h5
    rw [if_neg (by omega), h4] at h5
    have hu : ∃ j, Uniq l m j := by
      rcases hm with rfl | rfl
      · obtain ⟨_, j, _, hu⟩ := h5.2.1 e; exact ⟨j, hu⟩
      · obtain ⟨_, j, _, hu⟩ := h5.2.2 e; exact ⟨j, hu⟩
    obtain ⟨j, hu⟩ := hu
    rw [tgtN_uniq hu, tgtN_uniq (hd.uniq hu), cnt_left _ _ (Nat.le_of_lt hu.2.1)]
theorem Dead.yes {n : Nat} (hn : n < (Go.Proofs.Ytgalkidhgjgbhaa.ins l).length) : yesN (l ++ d) n = yesN l n := by
  have h1 := hd.itAt hn
  have h2 := hd.to hF hn (Go.Proofs.Ytgalkidhgjgbhaa.itAt l n).tr (.inl rfl)
  unfold Go.Proofs.Ytgalkidhgjgbhaa.itAt at h1 h2
  unfold yesN
  rw [h1, h2]
theorem Dead.no {n : Nat} (hn : n < (Go.Proofs.Ytgalkidhgjgbhaa.ins l).length) : noN (l ++ d) n = noN l n := by
  have h1 := hd.itAt hn
  have h2 := hd.to hF hn (Go.Proofs.Ytgalkidhgjgbhaa.itAt l n).fa (.inr rfl)
  unfold Go.Proofs.Ytgalkidhgjgbhaa.itAt at h1 h2
  unfold noN
  rw [h1, h2]
omit hF in
theorem Dead.len : (Go.Proofs.Ytgalkidhgjgbhaa.ins (l ++ d)).length = (Go.Proofs.Ytgalkidhgjgbhaa.ins l).length + d.length := by rw [hd.ins, List.length_append]
theorem Dead.reach1 {m : Nat} (h : Reach (l ++ d) m) : m < (Go.Proofs.Ytgalkidhgjgbhaa.ins l).length ∧ Reach l m := by
  induction h with
  | zero => exact ⟨hF.lastIns.1, .zero⟩
  | @yes n m _ _ hy ih =>
    rw [hd.yes hF ih.1] at hy
    refine ⟨?_, .yes ih.2 ih.1 hy⟩
    rcases hF.yes ih.1 with e | ⟨t, e, _, h2⟩
    · rw [hy] at e; omega
    · rw [hy] at e; omega
  | @no n m _ _ hy ih =>
    rw [hd.no hF ih.1] at hy
    refine ⟨?_, .no ih.2 ih.1 hy⟩
    rcases hF.no ih.1 with e | ⟨t, e, _, h2⟩
    · rw [hy] at e; omega
    · rw [hy] at e; omega
theorem Dead.reach2 {m : Nat} (h : Reach l m) : Reach (l ++ d) m := by
  have hl := hd.len (l := l)
  induction h with
  | zero => exact .zero
  | @yes n m _ hn hy ih => exact .yes ih (by omega) (by rw [hd.yes hF hn]; exact hy)
  | @no n m _ hn hy ih => exact .no ih (by omega) (by rw [hd.no hF hn]; exact hy)
theorem Dead.reachB1 {n : Nat} (hn : n < (Go.Proofs.Ytgalkidhgjgbhaa.ins l).length) : reachB (l ++ d) n = reachB l n := by
  have hl := hd.len (l := l)
  rw [Bool.eq_iff_iff, (hd.form hF).reachB_iff (by omega), hF.reachB_iff (by omega)]
  exact ⟨fun h => (hd.reach1 hF h).2, hd.reach2 hF⟩
theorem Dead.reachB2 {n : Nat} (hn : (Go.Proofs.Ytgalkidhgjgbhaa.ins l).length ≤ n) (hn2 : n < (Go.Proofs.Ytgalkidhgjgbhaa.ins (l ++ d)).length) : reachB (l ++ d) n = false := by
  cases h : reachB (l ++ d) n with
  | false => rfl
  | true =>
    have := (hd.reach1 hF (((hd.form hF).reachB_iff (by omega)).1 h)).1
    omega
theorem Dead.pl (F : Nat → Bool) {n : Nat} (hn : n ≤ (Go.Proofs.Ytgalkidhgjgbhaa.ins l).length) : plN (l ++ d) F n = plN l F n := by
  unfold plN
  refine posN_congr _ _ n fun m hm => ?_
  unfold szN
  rw [hd.reachB1 hF (by omega)]
theorem Dead.plEnd (F : Nat → Bool) : plN (l ++ d) F (Go.Proofs.Ytgalkidhgjgbhaa.ins (l ++ d)).length = plN l F (Go.Proofs.Ytgalkidhgjgbhaa.ins l).length := by
  rw [← hd.pl hF F (Nat.le_refl _)]
  have hl := hd.len (l := l)
  have key : ∀ k, (Go.Proofs.Ytgalkidhgjgbhaa.ins l).length + k ≤ (Go.Proofs.Ytgalkidhgjgbhaa.ins (l ++ d)).length → plN (l ++ d) F ((Go.Proofs.Ytgalkidhgjgbhaa.ins l).length + k) = plN (l ++ d) F (Go.Proofs.Ytgalkidhgjgbhaa.ins l).length := by
    intro k
    induction k with
    | zero => intro _; rfl
    | succ k ih =>
      intro hk
      have h1 := ih (by omega)
      rw [show (Go.Proofs.Ytgalkidhgjgbhaa.ins l).length + (k + 1) = (Go.Proofs.Ytgalkidhgjgbhaa.ins l).length + k + 1 by omega, plN_succ, h1]
      unfold szN
      rw [hd.reachB2 hF (by omega) (by omega)]
      simp
  have := key d.length (by omega)
  rw [← hl] at this
  exact this
theorem Dead.br {n : Nat} : Br (l ++ d) n ↔ Br l n := by
  have hl := hd.len (l := l)
  unfold Br
  constructor
  · rintro ⟨a, b, c⟩
    obtain ⟨h1, h2⟩ := hd.reach1 hF b
    have := hd.itAt h1
    unfold Go.Proofs.Ytgalkidhgjgbhaa.itAt at this
    rw [this] at c
    exact ⟨h1, h2, c⟩
  · rintro ⟨a, b, c⟩
    have := hd.itAt a
    unfold Go.Proofs.Ytgalkidhgjgbhaa.itAt at this
    rw [← this] at c
    exact ⟨by omega, hd.reach2 hF b, c⟩
theorem Dead.far (F : Nat → Bool) {n : Nat} (h : Br l n) : farN (l ++ d) F n = farN l F n := by
  obtain ⟨t, u, ey, eo, h1, h2, h3, h4⟩ := hF.ways h.1 h.2.2
  rw [farN_ways F ey eo, farN_ways F (by rw [hd.yes hF h.1]; exact ey) (by rw [hd.no hF h.1]; exact eo), hd.pl hF F (by omega), hd.pl hF F (by omega), hd.pl hF F (by omega)]
theorem Dead.closed {G : Nat → Bool} : Closed (l ++ d) G ↔ Closed l G := by
  constructor
  · intro h n hb hg
    rw [← hd.far hF G hb]
    exact h n ((hd.br hF).2 hb) hg
  · intro h n hb hg
    rw [hd.far hF G ((hd.br hF).1 hb)]
    exact h n ((hd.br hF).1 hb) hg
theorem Dead.laid {F G : Nat → Bool} (h1 : Laid l F) (h2 : Laid (l ++ d) G) : G = F := by
  funext n
  rw [Bool.eq_iff_iff]
  exact ⟨h2.least F ((hd.closed hF).2 h1.closed) n, h1.least G ((hd.closed hF).1 h2.closed) n⟩
theorem Dead.out (F : Nat → Bool) (hb : ∀ n, F n = true → Br l n) {n : Nat} (hn : n < (Go.Proofs.Ytgalkidhgjgbhaa.ins l).length) : outAt (l ++ d) F n = outAt l F n := by
  have e1 := hd.itAt hn
  cases hr : reachB l n with
  | false => rw [outAt_none hr, outAt_none (by rw [hd.reachB1 hF hn]; exact hr)]
  | true =>
    have hr' : reachB (l ++ d) n = true := by rw [hd.reachB1 hF hn]; exact hr
    by_cases hk : 25 ≤ (Go.Proofs.Ytgalkidhgjgbhaa.itAt l n).kd
    · obtain ⟨t, u, ey, eo, h1, h2, h3, h4⟩ := hF.ways hn hk
      have ey' : yesN (l ++ d) n = (t : Int) := by rw [hd.yes hF hn]; exact ey
      have eo' : noN (l ++ d) n = (u : Int) := by rw [hd.no hF hn]; exact eo
      cases hf : F n with
      | true => rw [outAt_far hr hf ey eo, outAt_far hr' hf ey' eo', e1, hd.pl hF F (by omega), hd.pl hF F (by omega), hd.pl hF F (by omega)]
      | false => rw [outAt_near hr hf hk ey eo, outAt_near hr' hf (by rw [e1]; exact hk) ey' eo', e1, hd.pl hF F (by omega), hd.pl hF F (by omega), hd.pl hF F (by omega)]
    · have hf : F n = false := by
        cases h : F n with
        | false => rfl
        | true => exact absurd (hb n h).2.2 hk
      by_cases h13 : (Go.Proofs.Ytgalkidhgjgbhaa.itAt l n).kd = 13
      · obtain ⟨t, ey, h1, h2⟩ := hF.jumpWay hn h13
        rw [outAt_jump hr hf h13 ey, outAt_jump hr' hf (by rw [e1]; exact h13) (by rw [hd.yes hF hn]; exact ey), e1, hd.pl hF F (by omega), hd.pl hF F (by omega)]
      · rw [outAt_other hr hf h13 hk, outAt_other hr' hf (by rw [e1]; exact h13) (by rw [e1]; exact hk), e1]
theorem Dead.asm {F : Nat → Bool} (h1 : Laid l F) : asmN (l ++ d) F = asmN l F := by
  have hl := hd.len (l := l)
  have key : ∀ k, k ≤ (Go.Proofs.Ytgalkidhgjgbhaa.ins l).length → asmUp (l ++ d) F k = asmUp l F k := by
    intro k
    induction k with
    | zero => intro _; rfl
    | succ k ih => intro hk; rw [asmUp_succ, asmUp_succ, ih (by omega), hd.out hF F h1.br (by omega)]
  have key2 : ∀ k, (Go.Proofs.Ytgalkidhgjgbhaa.ins l).length + k ≤ (Go.Proofs.Ytgalkidhgjgbhaa.ins (l ++ d)).length → asmUp (l ++ d) F ((Go.Proofs.Ytgalkidhgjgbhaa.ins l).length + k) = asmUp l F (Go.Proofs.Ytgalkidhgjgbhaa.ins l).length := by
    intro k
    induction k with
    | zero => intro _; exact key _ (Nat.le_refl _)
    | succ k ih =>
      intro hk
      rw [show (Go.Proofs.Ytgalkidhgjgbhaa.ins l).length + (k + 1) = (Go.Proofs.Ytgalkidhgjgbhaa.ins l).length + k + 1 by omega, asmUp_succ, ih (by omega), outAt_none (hd.reachB2 hF (by omega) (by omega)), List.append_nil]
  have := key2 d.length (by omega)
  rw [← hl] at this
  exact this
end
end Go.Proofs.Ytgalkidhgjgbhaa
