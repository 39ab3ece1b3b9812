/-
  flow.Longest in plain words: ahead of which a jump stands, and so many that are jumped over.
-/
import Derived.Test.YtgalkidhgjgbhaaWalkLongest
import Derived.Test.YtgalkidhgjgbhaaPlainTop
namespace Go.Proofs.Ytgalkidhgjgbhaa
set_option linter.unusedVariables false

theorem mostN_keep (l : List I) (j : Nat) (hj : j ≤ l.length) (m : Nat) (hm : l.length ≤ m + j) : ∀ d, j + d ≤ l.length → (mostN l (j + d)).getD m 0 = (mostN l j).getD m 0
  | 0, _ => rfl
  | d + 1, h => by
    show (mostS l (mostN l (j + d)) (l.length - 1 - (j + d))).getD m 0 = _
    unfold mostS
    rw [set_getD_ne (by omega), mostN_keep l j hj m hm d (by omega)]
/-- The longest way from a place on. -/
def longAt (l : List I) (m : Nat) : Nat := (mostN l l.length).getD m 0
theorem longAt_of (l : List I) (j m : Nat) (hj : j ≤ l.length) (hm : l.length ≤ m + j) : (mostN l j).getD m 0 = longAt l m := by
  have := mostN_keep l j hj m hm (l.length - j) (by omega)
  rw [show j + (l.length - j) = l.length by omega] at this
  exact this.symm
theorem topN_congr {p q : List Nat} : ∀ (ts us : List Nat) (a : Nat), ts.map (fun t => p.getD t 0) = us.map (fun t => q.getD t 0) → topN p a ts = topN q a us
  | [], [], a, _ => rfl
  | [], u :: us, a, h => by simp at h
  | t :: ts, [], a, h => by simp at h
  | t :: ts, u :: us, a, h => by
    rw [List.map_cons, List.map_cons, List.cons.injEq] at h
    show topN p (maxN a (p.getD t 0)) ts = topN q (maxN a (q.getD u 0)) us
    rw [h.1]
    exact topN_congr ts us _ h.2
theorem mostN_zero (l : List I) : ∀ (j m : Nat), m + j < l.length → (mostN l j).getD m 0 = 0
  | 0, m, h => by
    unfold mostN
    rw [List.getD_eq_getElem?_getD, List.getElem?_replicate]
    split <;> rfl
  | j + 1, m, h => by
    show (mostS l (mostN l j) (l.length - 1 - j)).getD m 0 = _
    unfold mostS
    rw [set_getD_ne (by omega), mostN_zero l j m (by omega)]
theorem longAt_eq {l : List I} (hP : FormedP l) {m : Nat} (hm : m < l.length) : longAt l m = topN (mostN l l.length) 0 (nextN l m) + 1 := by
  have h1 : longAt l m = (mostN l (l.length - 1 - m + 1)).getD m 0 := (longAt_of l _ m (by omega) (by omega)).symm
  rw [h1]
  show (mostS l (mostN l (l.length - 1 - m)) (l.length - 1 - (l.length - 1 - m))).getD m 0 = _
  rw [show l.length - 1 - (l.length - 1 - m) = m by omega]
  unfold mostS
  rw [set_getD_eq (by rw [mostN_length]; exact hm), mostN_zero l _ m (by omega)]
  congr 1
  refine topN_congr _ _ _ (List.map_congr_left fun t ht => ?_)
  have := hP.next hm t ht
  exact longAt_of l _ t (by omega) (by omega)
theorem longAt_join {n : Nat} {x : List I} (hP : FormedP x) (hlen : n + 1 + x.length ≤ 4096) : ∀ (d k : Nat), k < x.length → x.length ≤ k + d → longAt (joinN n x) (n + 1 + k) = longAt x k
  | 0, k, h, h2 => by omega
  | d + 1, k, h, h2 => by
    have hP' := join_formed hP hlen
    rw [longAt_eq hP' (by rw [joinN_length]; omega), longAt_eq hP h, join_next]
    congr 1
    refine topN_congr _ _ _ ?_
    rw [List.map_map]
    refine List.map_congr_left fun t ht => ?_
    have := hP.next h t ht
    exact longAt_join hP hlen d t this.2 (by omega)
theorem join_long {n : Nat} {x : List I} (hc : (checkN x).2 = 0) (hlen : n + 1 + x.length ≤ 4096) : longN (joinN n x) = longN x + 1 := by
  have hP := formed_of (checkN_ok hc).1
  have hP' := join_formed hP hlen
  unfold longN
  rw [if_pos (by rw [join_check hc hlen]), if_pos hc]
  show longAt (joinN n x) 0 = longAt x 0 + 1
  rw [longAt_eq hP' (by rw [joinN_length]; omega), join_next_0]
  congr 1
  show maxN 0 ((mostN (joinN n x) (joinN n x).length).getD (n + 1) 0) = _
  have h := longAt_join hP hlen x.length 0 hP.pos (by omega)
  rw [Nat.add_zero] at h
  rw [show (mostN (joinN n x) (joinN n x).length).getD (n + 1) 0 = longAt (joinN n x) (n + 1) from rfl, h]
  unfold maxN
  split <;> omega
end Go.Proofs.Ytgalkidhgjgbhaa
