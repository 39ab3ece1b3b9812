/-
  What a program's check does not hang on: in plain words.
-/
import Derived.Test.YtgalkidhgjgbhaaChkCheck
namespace Go.Proofs.Ytgalkidhgjgbhaa
open Go.RowKit
set_option linter.unusedVariables false

def freeD (d : Nat) (x : Bool) : Bool := decide (d = 2 ∨ d = 5 ∨ d = 14 ∨ d = 15) || x || decide (16 ≤ d ∧ d ≠ 19 ∧ d ≠ 22 ∧ d ≠ 23)
def freeN (c : Nat) : Bool := freeD (ofN c).1 (ofN c).2
structure FreeSame (i i' : I) : Prop where
  code : i'.code = i.code
  jt : i'.jt = i.jt
  jf : i'.jf = i.jf
  k : i'.k = i.k ∨ freeN i.code = true
theorem ofN_x (c : Nat) (h : (ofN c).2 = true) : 16 ≤ (ofN c).1 := by
  unfold ofN at h ⊢
  split
  · rename_i h1; rw [if_pos h1] at h; cases h
  · rename_i h1
    rw [if_neg h1] at h
    split
    · rename_i h2
      rw [if_pos h2] at h
      simp only [bne_iff_ne, ne_eq] at h
      show 16 ≤ kindB (c - 8)
      unfold kindB at h ⊢
      split
      · omega
      · rename_i h3; rw [if_neg h3] at h; omega
    · rename_i h2; rw [if_neg h2] at h; cases h
theorem FreeSame.kdEq {i i' : I} (h : FreeSame i i') : kd i' = kd i := by unfold kd; rw [h.code]
theorem FreeSame.kxEq {i i' : I} (h : FreeSame i i') : kx i' = kx i := by unfold kx; rw [h.code]
/-- Where k counts it is the same. -/
theorem FreeSame.bound {i i' : I} (h : FreeSame i i') (hd : kd i = 1 ∨ kd i = 3 ∨ kd i = 6 ∨ kd i = 8 ∨ kd i = 9 ∨ kd i = 13 ∨ (kx i = false ∧ (kd i = 19 ∨ kd i = 22 ∨ kd i = 23))) : i'.k = i.k := by
  rcases h.k with h1 | h1
  · exact h1
  · exfalso
    have hx := ofN_x i.code
    unfold freeN freeD at h1
    unfold kd kx at hd
    generalize (ofN i.code).1 = d at *
    generalize (ofN i.code).2 = x at *
    cases x
    · simp at h1; omega
    · have := hx rfl
      simp at hd; omega
theorem FreeSame.alone {i i' : I} (h : FreeSame i i') (rest : Nat) : aloneN i' rest = aloneN i rest := by
  unfold aloneN
  rw [h.kdEq, h.kxEq, h.jt, h.jf]
  have hb := h.bound
  unfold aloneV
  generalize kd i = d at *
  generalize kx i = x at *
  by_cases hd : d = 1 ∨ d = 3 ∨ d = 6 ∨ d = 8 ∨ d = 9 ∨ d = 13 ∨ (x = false ∧ (d = 19 ∨ d = 22 ∨ d = 23))
  · rw [hb hd]
  · have h1 : d ≠ 1 := by omega
    have h2 : ¬ (d = 3 ∨ d = 6 ∨ d = 8 ∨ d = 9) := by omega
    have h3 : d ≠ 13 := by omega
    rw [if_neg h1, if_neg h1, if_neg h2, if_neg h2, if_neg h3, if_neg h3]
    have h4 : ∀ k : Nat, ¬ (x = false ∧ k = 0) ∨ d ≠ 19 := fun k => by
      by_cases hx : x = false
      · right; intro e; exact hd (by simp [hx, e])
      · left; exact fun h => hx h.1
    have h5 : ∀ k : Nat, ¬ (x = false ∧ 31 < k) ∨ ¬ (d = 22 ∨ d = 23) := fun k => by
      by_cases hx : x = false
      · right; intro e; exact hd (by rcases e with e | e <;> simp [hx, e])
      · left; exact fun h => hx h.1
    by_cases e19 : d = 19
    · rw [if_pos e19, if_pos e19, if_neg ((h4 _).resolve_right (by omega)), if_neg ((h4 _).resolve_right (by omega))]
    · rw [if_neg e19, if_neg e19]
      by_cases e22 : d = 22 ∨ d = 23
      · rw [if_pos e22, if_pos e22, if_neg ((h5 _).resolve_right (fun h => h e22)), if_neg ((h5 _).resolve_right (fun h => h e22))]
      · rw [if_neg e22, if_neg e22]
structure SameL (l m : List I) : Prop where
  len : m.length = l.length
  at_ : ∀ n, FreeSame (l.getD n default) (m.getD n default)
section
variable {l m : List I} (h : SameL l m)
include h
theorem SameL.bad (n : Nat) : badAt m n = badAt l n := by unfold badAt; rw [h.len, (h.at_ n).alone]
theorem SameL.formed : formedN m = formedN l := by
  have e : badAt m = badAt l := funext h.bad
  unfold formedN
  rw [h.len, e, (h.at_ _).kdEq]
theorem SameL.next (n : Nat) : nextN m n = nextN l n := by
  unfold nextN
  rw [(h.at_ n).kdEq, (h.at_ n).jt, (h.at_ n).jf]
  by_cases e : kd (l.getD n default) = 13
  · rw [(h.at_ n).bound (by omega)]
  · simp only [if_neg e]
theorem SameL.now (n a : Nat) : nowN (m.getD n default) a = nowN (l.getD n default) a := by
  unfold nowN
  rw [(h.at_ n).kdEq]
  by_cases e : isSt (kd (l.getD n default))
  · have e' := e
    unfold isSt at e'
    rw [(h.at_ n).bound (by omega)]
  · rw [if_neg e, if_neg e]
theorem SameL.upto (k : Nat) : uptoN m k = uptoN l k := by
  have e : stepN m = stepN l := by
    funext a n
    unfold stepN
    rw [h.next, h.now]
  unfold uptoN
  rw [h.len, e]
theorem SameL.stored : storedN m = storedN l := by unfold storedN; rw [h.formed, h.len, h.upto]
theorem SameL.init (n : Nat) : initE m n = initE l n := by
  unfold initE
  rw [(h.at_ n).kdEq, h.stored]
  by_cases e : isLd (kd (l.getD n default))
  · have e' := e
    unfold isLd at e'
    rw [(h.at_ n).bound (by omega)]
  · rw [if_neg (fun x => e x.1), if_neg (fun x => e x.1)]
theorem SameL.check : checkN m = checkN l := by
  have e : initE m = initE l := funext h.init
  unfold checkN
  rw [h.formed, h.len, e]
end

/-- The list with the k of its free instructions taken out of another list. -/
def mixOne (ks : List Nat) (m : List I) (i : Nat) : List I := if freeN (m.getD i default).code = true then m.set i { m.getD i default with k := ks.getD i 0 } else m
def mixL (l : List I) (ks : List Nat) (k : Nat) : List I := (List.range k).foldl (mixOne ks) l
theorem mixL_succ (l : List I) (ks : List Nat) (k : Nat) : mixL l ks (k + 1) = mixOne ks (mixL l ks k) k := by unfold mixL; rw [List.range_succ, List.foldl_append]; rfl
theorem mixOne_length (ks : List Nat) (m : List I) (i : Nat) : (mixOne ks m i).length = m.length := by unfold mixOne; split <;> simp
theorem mixL_length (l : List I) (ks : List Nat) : ∀ k, (mixL l ks k).length = l.length
  | 0 => rfl
  | k + 1 => by rw [mixL_succ, mixOne_length, mixL_length l ks k]
theorem mixL_same (l : List I) (ks : List Nat) : ∀ k, SameL l (mixL l ks k)
  | 0 => ⟨rfl, fun n => ⟨rfl, rfl, rfl, .inl rfl⟩⟩
  | k + 1 => by
    have ih := mixL_same l ks k
    rw [mixL_succ]
    refine ⟨by rw [mixOne_length, ih.len], fun n => ?_⟩
    have hn := ih.at_ n
    unfold mixOne
    split
    · rename_i hf
      by_cases e : k = n
      · subst e
        by_cases hk : k < (mixL l ks k).length
        · rw [getD_set_self _ _ _ _ hk]
          exact ⟨hn.code, hn.jt, hn.jf, .inr (by rw [← hn.code]; exact hf)⟩
        · rw [List.set_eq_of_length_le (by omega)]; exact hn
      · rw [getD_set_other _ _ _ _ _ e]; exact hn
    · exact hn
theorem mixL_ok (l : List I) (ks : List Nat) (hl : ∀ i ∈ l, i.Ok) (hk : ∀ b ∈ ks, b < 4294967296) : ∀ k, ∀ i ∈ mixL l ks k, i.Ok
  | 0 => hl
  | k + 1 => by
    have ih := mixL_ok l ks hl hk k
    rw [mixL_succ]
    unfold mixOne
    split
    · intro i hi
      rcases List.mem_or_eq_of_mem_set hi with h | h
      · exact ih i h
      · by_cases hkk : k < (mixL l ks k).length
        · have := getD_ok ih hkk
          obtain ⟨a, b, c, d⟩ := this
          subst h
          refine ⟨a, b, c, ?_⟩
          show ks.getD k 0 < 4294967296
          by_cases h2 : k < ks.length
          · have : ks.getD k 0 = ks[k] := by simp [h2]
            rw [this]; exact hk _ (List.getElem_mem h2)
          · simp [h2]
        · rw [List.set_eq_of_length_le (by omega)] at hi; exact ih i hi
    · exact ih
theorem cellsI_set (l : List I) (k : Nat) (v : Nat) : (cellsI l).set (k * 4 + 3) (.int .u32 (v : Nat)) = cellsI (l.set k { l.getD k default with k := v }) := by
  induction l generalizing k with
  | nil => simp [cellsI]
  | cons i l ih =>
    unfold cellsI at ih ⊢
    cases k with
    | zero => simp [I.vals]
    | succ k =>
      rw [List.set_cons_succ, List.flatMap_cons, List.flatMap_cons, List.set_append_right _ _ (by simp [I.vals]; omega)]
      rw [show (k + 1) * 4 + 3 - (I.vals i).length = k * 4 + 3 by simp [I.vals]; omega, ih]
      rfl
theorem Reads.set_ {w : World} {B size n b off : Nat} {xs : List Value} (h : Reads w B size (some ⟨b, off, none⟩) n xs) {j : Nat} (hj : j < xs.length) (u : Value) : Reads (w.setCell ⟨b, off + j, none⟩ u) B size (some ⟨b, off, none⟩) n (xs.set j u) := by
  refine ⟨by rw [List.length_set]; exact h.1, fun hn => ?_⟩
  obtain ⟨ad, e, hb, hc⟩ := h.2 hn
  cases e
  have hadd : ∀ i, (⟨b, off, none⟩ : Addr).add i = ⟨b, off + i, none⟩ := fun i => by unfold Addr.add; split <;> simp_all
  refine ⟨_, rfl, hb, fun i v hv => ?_⟩
  rw [hadd]
  by_cases hij : j = i
  · subst hij
    have : v = u := by simpa [hj] using hv.symm
    subst this
    have h1 := hc j (xs[j]) (by simp [hj])
    rw [hadd] at h1
    exact World.cell?_setCell_same' _ _ _ (by rw [h1]; rfl)
  · rw [World.cell?_setCell_other _ _ _ _ (fun h => by injection h; omega)]
    rw [List.getElem?_set_ne hij] at hv
    have := hc i v hv
    rwa [hadd] at this
end Go.Proofs.Ytgalkidhgjgbhaa
