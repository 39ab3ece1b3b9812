/-
  What a run of simple items tells, the assembled program tells: in plain words.
-/
import Derived.Test.YtgalkidhgjgbhaaAsmSimple
namespace Go.Proofs.Ytgalkidhgjgbhaa
set_option linter.unusedVariables false

/-- A run of a program from a place on, with so much in the first register, tells so much. -/
inductive Goes (p : List I) (W : Nat → Nat) : Nat → Nat → Nat → Prop
  | load {a at_ v : Nat} : at_ < p.length → kd (p.getD at_ default) = 1 → (p.getD at_ default).k ≤ 60 → Goes p W (W (p.getD at_ default).k) (at_ + 1) v → Goes p W a at_ v
  | imm {a at_ v : Nat} : at_ < p.length → kd (p.getD at_ default) = 2 → Goes p W (p.getD at_ default).k (at_ + 1) v → Goes p W a at_ v
  | neg {a at_ v : Nat} : at_ < p.length → kd (p.getD at_ default) = 12 → Goes p W ((4294967296 - a) % 4294967296) (at_ + 1) v → Goes p W a at_ v
  | jump {a at_ v : Nat} : at_ < p.length → kd (p.getD at_ default) = 13 → Goes p W a (at_ + 1 + (p.getD at_ default).k) v → Goes p W a at_ v
  | ret {a at_ : Nat} : at_ < p.length → kd (p.getD at_ default) = 14 → Goes p W a at_ (p.getD at_ default).k
  | yes {a at_ v : Nat} : at_ < p.length → kd (p.getD at_ default) = 25 → kx (p.getD at_ default) = false → a = (p.getD at_ default).k → Goes p W a (at_ + 1 + (p.getD at_ default).jt) v → Goes p W a at_ v
  | no {a at_ v : Nat} : at_ < p.length → kd (p.getD at_ default) = 25 → kx (p.getD at_ default) = false → a ≠ (p.getD at_ default).k → Goes p W a (at_ + 1 + (p.getD at_ default).jf) v → Goes p W a at_ v
def It.kx (x : It) : Bool := (ofN x.code).2
/-- A run of items. -/
inductive GoesT (l : List It) (W : Nat → Nat) : Nat → Nat → Nat → Prop
  | load {a n v : Nat} : n < (ins l).length → (itAt l n).kd = 1 → (itAt l n).k ≤ 60 → yesN l n = ((n + 1 : Nat) : Int) → GoesT l W (W (itAt l n).k) (n + 1) v → GoesT l W a n v
  | imm {a n v : Nat} : n < (ins l).length → (itAt l n).kd = 2 → yesN l n = ((n + 1 : Nat) : Int) → GoesT l W (itAt l n).k (n + 1) v → GoesT l W a n v
  | neg {a n v : Nat} : n < (ins l).length → (itAt l n).kd = 12 → yesN l n = ((n + 1 : Nat) : Int) → GoesT l W ((4294967296 - a) % 4294967296) (n + 1) v → GoesT l W a n v
  | ret {a n : Nat} : n < (ins l).length → (itAt l n).kd = 14 → GoesT l W a n (itAt l n).k
  | yes {a n t v : Nat} : n < (ins l).length → (itAt l n).kd = 25 → (itAt l n).kx = false → a = (itAt l n).k → yesN l n = (t : Int) → GoesT l W a t v → GoesT l W a n v
  | no {a n t v : Nat} : n < (ins l).length → (itAt l n).kd = 25 → (itAt l n).kx = false → a ≠ (itAt l n).k → noN l n = (t : Int) → GoesT l W a t v → GoesT l W a n v

theorem goes_asm {l : List It} {F : Nat → Bool} (hF : Form l) (hL : Laid l F) {W : Nat → Nat} {a n v : Nat} (h : GoesT l W a n v) : reachB l n = true → Goes (asmN l F) W a (plN l F n) v := by
  have at0 : ∀ {n : Nat}, n < (ins l).length → reachB l n = true → plN l F n < (asmN l F).length ∧ (asmN l F).getD (plN l F n) default = (outAt l F n).getD 0 default := fun {n} hn hr => by
    have h1 := plN_ahead F hr hn
    have h2 := asmN_at l F hn (j := 0) (by omega)
    exact ⟨by rw [asmN_length]; omega, by simpa using h2⟩
  have plain : ∀ {n : Nat}, n < (ins l).length → reachB l n = true → (itAt l n).kd ≠ 13 → ¬ 25 ≤ (itAt l n).kd → (outAt l F n).getD 0 default = ⟨(itAt l n).code, 0, 0, (itAt l n).k⟩ ∧ plN l F (n + 1) = plN l F n + 1 := fun {n} hn hr h13 h25 => by
    have hfk : F n = false := by
      cases h : F n with
      | false => rfl
      | true => exact absurd (hL.br n h).2.2 h25
    rw [outAt_other hr hfk h13 h25, plN_succ]
    refine ⟨rfl, ?_⟩
    unfold szN
    rw [hr, hfk]; rfl
  have next : ∀ {n : Nat}, n < (ins l).length → reachB l n = true → ∀ {t : Nat}, (yesN l n = (t : Int) ∨ noN l n = (t : Int)) → reachB l t = true := fun {n} hn hr {t} ht => (hF.room (F := F) hn hr ht).1.2.2
  induction h with
  | @load a n v hn hk h60 hy _ ih =>
    intro hr
    obtain ⟨p1, p2⟩ := at0 hn hr
    obtain ⟨q1, q2⟩ := plain hn hr (by omega) (by omega)
    have e := p2.trans q1
    refine .load p1 (by rw [e]; exact hk) (by rw [e]; exact h60) ?_
    rw [e, ← q2]
    exact ih (next hn hr (.inl hy))
  | @imm a n v hn hk hy _ ih =>
    intro hr
    obtain ⟨p1, p2⟩ := at0 hn hr
    obtain ⟨q1, q2⟩ := plain hn hr (by omega) (by omega)
    have e := p2.trans q1
    refine .imm p1 (by rw [e]; exact hk) ?_
    rw [e, ← q2]
    exact ih (next hn hr (.inl hy))
  | @neg a n v hn hk hy _ ih =>
    intro hr
    obtain ⟨p1, p2⟩ := at0 hn hr
    obtain ⟨q1, q2⟩ := plain hn hr (by omega) (by omega)
    have e := p2.trans q1
    refine .neg p1 (by rw [e]; exact hk) ?_
    rw [← q2]
    exact ih (next hn hr (.inl hy))
  | @ret a n hn hk =>
    intro hr
    obtain ⟨p1, p2⟩ := at0 hn hr
    obtain ⟨q1, q2⟩ := plain hn hr (by omega) (by omega)
    have e := p2.trans q1
    have := Goes.ret (W := W) (a := a) p1 (by rw [e]; exact hk)
    rw [e] at this
    exact this
  | @yes a n t v hn hk hx ha hy _ ih =>
    intro hr
    obtain ⟨p1, p2⟩ := at0 hn hr
    obtain ⟨t0, u0, ey, eo, _⟩ := hF.ways hn (by unfold itAt at hk; omega)
    obtain rfl : t0 = t := by rw [hy] at ey; omega
    obtain ⟨⟨_, _, hrt⟩, r1, r2, r3⟩ := hF.room (F := F) hn hr (.inl hy)
    have ih := ih hrt
    cases hf : F n with
    | false =>
      rw [outAt_near hr hf (by omega) ey eo] at p2
      refine .yes p1 (by rw [p2]; exact hk) (by rw [p2]; exact hx) (by rw [p2]; exact ha) ?_
      rw [p2]
      simp only [List.getD_cons_zero]
      rw [show plN l F n + 1 + (plN l F t0 - plN l F n - 1) = plN l F t0 by omega]
      exact ih
    | true =>
      have hz : szN l F n = 3 := by unfold szN; rw [hr, hf]; rfl
      have p3 := asmN_at l F hn (j := 1) (by omega)
      rw [outAt_far hr hf ey eo] at p2 p3
      refine .yes p1 (by rw [p2]; exact hk) (by rw [p2]; exact hx) (by rw [p2]; exact ha) ?_
      rw [p2]
      simp only [List.getD_cons_zero, List.getD_cons_succ, Nat.add_zero] at p3 ⊢
      refine .jump (by rw [asmN_length]; omega) (by rw [p3]; exact kd_jump _ _ _) ?_
      rw [p3]
      simp only
      rw [show plN l F n + 1 + 1 + (plN l F t0 - (plN l F n + 1) - 1) = plN l F t0 by omega]
      exact ih
  | @no a n t v hn hk hx ha hy _ ih =>
    intro hr
    obtain ⟨p1, p2⟩ := at0 hn hr
    obtain ⟨t0, u0, ey, eo, _⟩ := hF.ways hn (by unfold itAt at hk; omega)
    obtain rfl : u0 = t := by rw [hy] at eo; omega
    obtain ⟨⟨_, _, hrt⟩, r1, r2, r3⟩ := hF.room (F := F) hn hr (.inr hy)
    have ih := ih hrt
    cases hf : F n with
    | false =>
      rw [outAt_near hr hf (by omega) ey eo] at p2
      refine .no p1 (by rw [p2]; exact hk) (by rw [p2]; exact hx) (by rw [p2]; exact ha) ?_
      rw [p2]
      simp only [List.getD_cons_zero]
      rw [show plN l F n + 1 + (plN l F u0 - plN l F n - 1) = plN l F u0 by omega]
      exact ih
    | true =>
      have hz : szN l F n = 3 := by unfold szN; rw [hr, hf]; rfl
      have p3 := asmN_at l F hn (j := 2) (by omega)
      rw [outAt_far hr hf ey eo] at p2 p3
      refine .no p1 (by rw [p2]; exact hk) (by rw [p2]; exact hx) (by rw [p2]; exact ha) ?_
      rw [p2]
      simp only [List.getD_cons_zero, List.getD_cons_succ] at p3 ⊢
      refine .jump (by rw [asmN_length]; omega) (by rw [p3]; exact kd_jump _ _ _) ?_
      rw [p3]
      simp only
      rw [show plN l F n + 1 + 1 + 1 + (plN l F u0 - (plN l F n + 2) - 1) = plN l F u0 by omega]
      exact ih
end Go.Proofs.Ytgalkidhgjgbhaa
