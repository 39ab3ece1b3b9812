/-
  Programs as text, in plain words: the words of an instruction's line, and which form reads them.
-/
import Derived.Test.YtpinnockcnmofaaGreatDoorData
import Derived.Lib.ItoaNum
import Derived.Lib.ParseIntB
import Derived.Lib.JoinLaws
import Derived.Lib.IndexMore
import Derived.Lib.IndexAny
import Derived.Lib.Join
import Derived.Lib.Strings
import Derived.Lib.FieldsP
import Derived.Lib.Fields
import Derived.Shelf.Strings.FieldsFuncAny
import Derived.Shelf.Strings.FieldsAny
/-! Programs as text, in plain words: the words of an instruction's line, and which form reads them. -/
namespace Go.Proofs.YtpinnockcnmofaaGreatDoor
set_option linter.unusedVariables false

abbrev Bs := List UInt8

/-- How a kind's line looks. -/
structure Fm where
  word : Bs
  other : Bs
  code : Nat
  x : Bool
  jumps : Bool
  deriving DecidableEq, Inhabited

def opSq : Bs := [91, 93]
def opM : Bs := [109, 91, 93]
def opN : Bs := [35]
def opX : Bs := [120]
def opK : Bs := [107]
def fmsA : List Fm := [⟨[108, 100], opSq, 0x20, false, false⟩, ⟨[108, 100], opN, 0x00, false, false⟩, ⟨[108, 100], opM, 0x60, false, false⟩, ⟨[108, 100], [108, 101, 110], 0x80, false, false⟩,
  ⟨[108, 100, 120], opN, 0x01, false, false⟩, ⟨[108, 100, 120], opM, 0x61, false, false⟩, ⟨[108, 100, 120], [108, 101, 110], 0x81, false, false⟩,
  ⟨[115, 116], opM, 0x02, false, false⟩, ⟨[115, 116, 120], opM, 0x03, false, false⟩, ⟨[116, 97, 120], [], 0x07, false, false⟩, ⟨[116, 120, 97], [], 0x87, false, false⟩,
  ⟨[110, 101, 103], [], 0x84, false, false⟩, ⟨[106, 97], opK, 0x05, false, false⟩, ⟨[114, 101, 116], opN, 0x06, false, false⟩, ⟨[114, 101, 116], [97], 0x16, false, false⟩]
def wordsB : List Bs := [[97, 100, 100], [115, 117, 98], [109, 117, 108], [100, 105, 118], [111, 114], [97, 110, 100], [108, 115, 104], [114, 115, 104]]
def wordsJ : List Bs := [[106, 101, 113], [106, 103, 116], [106, 103, 101], [106, 115, 101, 116]]
def twoB (i : Nat) : List Fm := [⟨wordsB.getD i [], opN, 4 + 16 * i, false, false⟩, ⟨wordsB.getD i [], opX, 4 + 16 * i + 8, true, false⟩]
def twoJ (i : Nat) : List Fm := [⟨wordsJ.getD i [], opN, 0x15 + 16 * i, false, true⟩, ⟨wordsJ.getD i [], opX, 0x15 + 16 * i + 8, true, true⟩]
def fmsX : List Fm := [⟨[120, 111, 114], opN, 0xa4, false, false⟩, ⟨[120, 111, 114], opX, 0xac, true, false⟩]
def fms : List Fm := fmsA ++ (List.range 8).flatMap twoB ++ fmsX ++ (List.range 4).flatMap twoJ
theorem fms_length : fms.length = 41 := by decide

def Fm.numbered (f : Fm) : Bool := Lib.containsAny f.other [91, 35, 107]
def wrO (o k : Bs) : Bs := if o = opSq then 91 :: (k ++ [93]) else if o = opM then 109 :: 91 :: (k ++ [93]) else if o = opN then 35 :: k else if o = opK then k else o
def Fm.written (f : Fm) (k : Bs) : Bs := wrO f.other k
theorem wrO_sq (k : Bs) : wrO opSq k = 91 :: (k ++ [93]) := rfl
theorem wrO_m (k : Bs) : wrO opM k = 109 :: 91 :: (k ++ [93]) := rfl
theorem wrO_n (k : Bs) : wrO opN k = 35 :: k := rfl
theorem wrO_k (k : Bs) : wrO opK k = k := rfl
theorem wrO_x (k : Bs) : wrO opX k = opX := rfl
theorem wrO_a (k : Bs) : wrO [97] k = [97] := rfl
theorem wrO_l (k : Bs) : wrO [108, 101, 110] k = [108, 101, 110] := rfl
def Fm.fits (f : Fm) (i : I) : Bool := decide (f.code = i.code) && (f.numbered || decide (i.k = 0)) && (f.jumps || (decide (i.jt = 0) && decide (i.jf = 0)))
def decN (n : Nat) : Bs := Lib.decDigits n
def Fm.words (f : Fm) (i : I) : List Bs := [f.word] ++ (if f.other = [] then [] else [f.written (decN i.k)]) ++ (if f.jumps = true then [decN i.jt, decN i.jf] else [])
def rawB : Bs := [46, 99, 111, 100, 101]
def rawWords (i : I) : List Bs := [rawB, decN i.code, decN i.jt, decN i.jf, decN i.k]
def lineWords (i : I) : List Bs := match fms.find? (·.fits i) with | some f => f.words i | none => rawWords i
def lineN (i : I) : Bs := Lib.join (lineWords i) [32]
def textN (l : List I) : Bs := l.flatMap fun i => lineN i ++ [10]

/-! Tryz# Digits -/
def isDg (b : UInt8) : Prop := 48 ≤ b.toNat ∧ b.toNat ≤ 57
theorem dg_toNat {n : Nat} (h : n < 10) : (UInt8.ofNat (48 + n)).toNat = 48 + n := by
  rw [UInt8.toNat_ofNat']
  omega
theorem dec_digits (n : Nat) : ∀ b ∈ decN n, isDg b := by
  unfold decN
  induction n using Nat.strongRecOn with
  | _ n ih =>
    intro b hb
    rw [Lib.decDigits] at hb
    split at hb
    · rename_i h
      rw [List.mem_singleton.1 hb]
      unfold isDg
      rw [dg_toNat h]
      omega
    · rename_i h
      rcases List.mem_append.1 hb with h1 | h1
      · exact ih (n / 10) (by omega) b h1
      · rw [List.mem_singleton.1 h1]
        unfold isDg
        rw [dg_toNat (Nat.mod_lt _ (by decide))]
        omega
theorem dec_ne (n : Nat) : decN n ≠ [] := fun h => by
  have := congrArg List.length h
  unfold decN at this
  rw [Lib.decDigits_length] at this
  have := Lib.nDigits_pos n
  simp at *
  omega
theorem dec_zero : decN 0 = [48] := by unfold decN; rw [Lib.decDigits]; rfl
theorem dec_head (n : Nat) (h : n ≠ 0) : (decN n).head? ≠ some 48 := by
  unfold decN
  induction n using Nat.strongRecOn with
  | _ n ih =>
    rw [Lib.decDigits]
    split
    · rename_i h1
      intro e
      have e2 : UInt8.ofNat (48 + n) = 48 := by simpa using e
      have := congrArg UInt8.toNat e2
      rw [dg_toNat h1] at this
      have h3 : (48 : UInt8).toNat = 48 := rfl
      omega
    · rename_i h1
      have hne : Lib.decDigits (n / 10) ≠ [] := dec_ne (n / 10)
      obtain ⟨b, r, hbr⟩ := List.exists_cons_of_ne_nil hne
      have := ih (n / 10) (by omega) (by omega)
      rw [hbr] at this ⊢
      simpa using this
theorem parse_snoc (M : Nat) : ∀ (l : Bs) (acc n : Nat) (c : UInt8), Lib.parseUintM M acc l = .ok n → isDg c → n < 1844674407370955162 → n * 10 + (c.toNat - 48) ≤ M →
    Lib.parseUintM M acc (l ++ [c]) = .ok (n * 10 + (c.toNat - 48))
  | [], acc, n, c, h, hc, hn, hM => by
    simp only [Lib.parseUintM] at h
    injection h with h
    subst h
    simp only [List.nil_append, Lib.parseUintM]
    rw [if_pos (show 48 ≤ c.toNat ∧ c.toNat ≤ 57 from hc), if_neg (by omega), if_neg (by omega)]
  | d :: l, acc, n, c, h, hc, hn, hM => by
    simp only [List.cons_append, Lib.parseUintM] at h ⊢
    split
    · rename_i h1
      rw [if_pos h1] at h
      split
      · rename_i h2; rw [if_pos h2] at h; cases h
      · rename_i h2
        rw [if_neg h2] at h
        split
        · rename_i h3; rw [if_pos h3] at h; cases h
        · rename_i h3
          rw [if_neg h3] at h
          exact parse_snoc M l _ n c h hc hn hM
    · rename_i h1; rw [if_neg h1] at h; cases h
theorem parse_dec (n : Nat) (h : n < 4294967296) : Lib.parseUintB 64 (decN n) = .ok n := by
  unfold Lib.parseUintB
  rw [if_neg (dec_ne n)]
  unfold decN
  induction n using Nat.strongRecOn with
  | _ n ih =>
    rw [Lib.decDigits]
    split
    · rename_i h1
      simp only [Lib.parseUintM]
      rw [dg_toNat h1, if_pos (by omega), if_neg (by omega), if_neg (by omega)]
      congr 1
      omega
    · rename_i h1
      have hd : isDg (UInt8.ofNat (48 + n % 10)) := by
        unfold isDg
        rw [dg_toNat (Nat.mod_lt _ (by decide))]
        omega
      rw [parse_snoc _ _ 0 (n / 10) _ (ih (n / 10) (by omega) (by omega)) hd (by omega) (by rw [dg_toNat (Nat.mod_lt _ (by decide))]; omega)]
      rw [dg_toNat (Nat.mod_lt _ (by decide))]
      congr 1
      omega
theorem dec_len (n : Nat) (h : n < 4294967296) : (decN n).length ≤ 10 := by
  unfold decN
  rw [Lib.decDigits_length]
  rcases Nat.lt_or_ge (Lib.nDigits n) 11 with h1 | h1
  · omega
  · exfalso
    have key : ∀ k u, Lib.nDigits u = k + 1 → 1 ≤ k → 10 ^ k ≤ u := fun k => by
      induction k with
      | zero => intro u _ h; omega
      | succ k ih =>
        intro u hu _
        by_cases hu10 : u < 10
        · rw [Lib.nDigits_small hu10] at hu; omega
        · rw [Lib.nDigits_big hu10] at hu
          cases k with
          | zero => simp; omega
          | succ k =>
            have := ih (u / 10) (by omega) (by omega)
            rw [Nat.pow_succ]
            omega
    obtain ⟨k, hk⟩ : ∃ k, Lib.nDigits n = k + 1 := ⟨Lib.nDigits n - 1, by omega⟩
    have := key k n hk (by omega)
    have h2 : 10 ^ 10 ≤ 10 ^ k := Nat.pow_le_pow_right (by decide) (by omega)
    omega

/-! Tryz# A form's other word -/
def innerN (f : Fm) (s : Bs) : Bs × Bool :=
  if f.numbered = false then ([], decide (s = f.other)) else
  (Lib.trimSuffix (Lib.trimPrefix s (Lib.cut (f.written [0]) [0]).1) (Lib.cut (f.written [0]) [0]).2.1,
    Lib.hasPrefix s (Lib.cut (f.written [0]) [0]).1 && Lib.hasSuffix (Lib.trimPrefix s (Lib.cut (f.written [0]) [0]).1) (Lib.cut (f.written [0]) [0]).2.1 &&
    (match Lib.trimSuffix (Lib.trimPrefix s (Lib.cut (f.written [0]) [0]).1) (Lib.cut (f.written [0]) [0]).2.1 with | [] => false | b :: _ => decide (48 ≤ b.toNat) && decide (b.toNat ≤ 57)))

theorem fms_inj : ∀ f ∈ fms, ∀ g ∈ fms, f.word = g.word → f.other = g.other → f = g := by decide
theorem fms_code : ∀ f ∈ fms, ∀ g ∈ fms, f.code = g.code → f = g := by decide
theorem fms_raw : ∀ f ∈ fms, f.word ≠ rawB := by decide
theorem fms_other : ∀ f ∈ fms, f.other = opSq ∨ f.other = opM ∨ f.other = opN ∨ f.other = opK ∨ f.other = opX ∨ f.other = [97] ∨ f.other = [108, 101, 110] ∨ f.other = [] := by decide
theorem fms_jump : ∀ f ∈ fms, f.jumps = true → f.other = opN ∨ f.other = opX := by decide
theorem hasSuffix_append (a b : Bs) : Lib.hasSuffix (a ++ b) b = true := by
  unfold Lib.hasSuffix
  exact List.isSuffixOf_iff_suffix.2 ⟨a, rfl⟩
theorem suffix_last (k : Bs) (c : UInt8) (hk : k ≠ []) (h : Lib.hasSuffix k [c] = true) : k.getLast? = some c := by
  unfold Lib.hasSuffix at h
  obtain ⟨t, ht⟩ := List.isSuffixOf_iff_suffix.1 h
  rw [← ht]
  simp
theorem inner_same (f : Fm) (hf : f ∈ fms) (hn : f.numbered = true) (k : Bs) (hk : k ≠ []) (hd : ∀ b ∈ k, isDg b) : innerN f (f.written k) = (k, true) := by
  obtain ⟨b, r, rfl⟩ := List.exists_cons_of_ne_nil hk
  have hb := hd b (by simp)
  have hcase : f.other = opSq ∨ f.other = opM ∨ f.other = opN ∨ f.other = opK := by
    rcases fms_other f hf with h | h | h | h | h | h | h | h
    · exact .inl h
    · exact .inr (.inl h)
    · exact .inr (.inr (.inl h))
    · exact .inr (.inr (.inr h))
    all_goals (unfold Fm.numbered at hn; rw [h] at hn; exact absurd hn (by decide))
  unfold innerN
  rw [if_neg (by rw [hn]; simp)]
  have hb2 : (decide (48 ≤ b.toNat) && decide (b.toNat ≤ 57)) = true := by simp [hb.1, hb.2]
  unfold Fm.written
  rcases hcase with h | h | h | h <;> rw [h]
  · rw [wrO_sq, wrO_sq, show Lib.cut (91 :: ([0] ++ [93])) [0] = ([91], [93], true) by decide]
    have e2 : Lib.hasPrefix (91 :: ((b :: r) ++ [93])) [91] = true := rfl
    have e3 : Lib.trimPrefix (91 :: ((b :: r) ++ [93])) [91] = ((b :: r) ++ [93]) := rfl
    have e5 : Lib.hasSuffix ((b :: r) ++ [93]) [93] = true := by exact hasSuffix_append _ _
    have e4 : Lib.trimSuffix ((b :: r) ++ [93]) [93] = b :: r := by
      unfold Lib.trimSuffix
      rw [e5]
      simp
    simp only [e2, e3, e4, e5, hb2, Bool.and_self]
  · rw [wrO_m, wrO_m, show Lib.cut (109 :: 91 :: ([0] ++ [93])) [0] = ([109, 91], [93], true) by decide]
    have e2 : Lib.hasPrefix (109 :: 91 :: ((b :: r) ++ [93])) [109, 91] = true := rfl
    have e3 : Lib.trimPrefix (109 :: 91 :: ((b :: r) ++ [93])) [109, 91] = ((b :: r) ++ [93]) := rfl
    have e5 : Lib.hasSuffix ((b :: r) ++ [93]) [93] = true := by exact hasSuffix_append _ _
    have e4 : Lib.trimSuffix ((b :: r) ++ [93]) [93] = b :: r := by
      unfold Lib.trimSuffix
      rw [e5]
      simp
    simp only [e2, e3, e4, e5, hb2, Bool.and_self]
  · rw [wrO_n, wrO_n, show Lib.cut (35 :: [0]) [0] = ([35], [], true) by decide]
    have e2 : Lib.hasPrefix (35 :: (b :: r)) [35] = true := rfl
    have e3 : Lib.trimPrefix (35 :: (b :: r)) [35] = (b :: r) := rfl
    have e5 : Lib.hasSuffix (b :: r) [] = true := by have := hasSuffix_append (b :: r) []; rwa [List.append_nil] at this
    have e4 : Lib.trimSuffix (b :: r) [] = b :: r := by
      unfold Lib.trimSuffix
      rw [e5]
      simp
    simp only [e2, e3, e4, e5, hb2, Bool.and_self]
  · rw [wrO_k, wrO_k, show Lib.cut [0] [0] = ([], [], true) by decide]
    have e2 : Lib.hasPrefix (b :: r) [] = true := rfl
    have e3 : Lib.trimPrefix (b :: r) [] = (b :: r) := rfl
    have e5 : Lib.hasSuffix (b :: r) [] = true := by have := hasSuffix_append (b :: r) []; rwa [List.append_nil] at this
    have e4 : Lib.trimSuffix (b :: r) [] = b :: r := by
      unfold Lib.trimSuffix
      rw [e5]
      simp
    simp only [e2, e3, e4, e5, hb2, Bool.and_self]

def tagO (o : Bs) : Nat := if o = opSq then 91 else if o = opM then 109 else if o = opN then 35 else if o = opK then 0 else if o = opX then 120 else if o = [97] then 97 else 108
def tagB (b : UInt8) : Nat := if 48 ≤ b.toNat ∧ b.toNat ≤ 57 then 0 else b.toNat
theorem tag_inj : ∀ f ∈ fms, ∀ g ∈ fms, f.other ≠ [] → g.other ≠ [] → tagO f.other = tagO g.other → f.other = g.other := by decide
theorem tag_wr (g : Fm) (hg : g ∈ fms) (ho : g.other ≠ []) (k : Bs) (hk : k ≠ []) (hd : ∀ b ∈ k, isDg b) : ∃ b r, g.written k = b :: r ∧ tagO g.other = tagB b := by
  unfold Fm.written
  rcases fms_other g hg with h | h | h | h | h | h | h | h
  · rw [h, wrO_sq]; exact ⟨91, _, rfl, by decide⟩
  · rw [h, wrO_m]; exact ⟨109, _, rfl, by decide⟩
  · rw [h, wrO_n]; exact ⟨35, _, rfl, by decide⟩
  · rw [h, wrO_k]
    obtain ⟨b, r, rfl⟩ := List.exists_cons_of_ne_nil hk
    exact ⟨b, r, rfl, by unfold tagB; rw [if_pos (show 48 ≤ b.toNat ∧ b.toNat ≤ 57 from hd b (by simp))]; rfl⟩
  · rw [h, wrO_x]; exact ⟨120, [], rfl, by decide⟩
  · rw [h, wrO_a]; exact ⟨97, [], rfl, by decide⟩
  · rw [h, wrO_l]; exact ⟨108, [101, 110], rfl, by decide⟩
  · exact absurd h ho
theorem prefix_head {c : UInt8} {p s : Bs} (h : Lib.hasPrefix s (c :: p) = true) : ∃ r, s = c :: r := by
  unfold Lib.hasPrefix at h
  obtain ⟨t, ht⟩ := List.isPrefixOf_iff_prefix.1 h
  exact ⟨p ++ t, by rw [← ht]; rfl⟩
theorem tag_inner (f : Fm) (hf : f ∈ fms) (ho : f.other ≠ []) (s : Bs) (h : (innerN f s).2 = true) : ∃ b r, s = b :: r ∧ tagO f.other = tagB b := by
  unfold innerN at h
  by_cases hn : f.numbered = false
  · rw [if_pos hn] at h
    have hs : s = f.other := by simpa using h
    subst hs
    rcases fms_other f hf with h | h | h | h | h | h | h | h
    · rw [h]; exact ⟨91, _, rfl, by decide⟩
    · rw [h]; exact ⟨109, _, rfl, by decide⟩
    · rw [h]; exact ⟨35, _, rfl, by decide⟩
    · unfold Fm.numbered at hn; rw [h] at hn; exact absurd hn (by decide)
    · rw [h]; exact ⟨120, [], rfl, by decide⟩
    · rw [h]; exact ⟨97, [], rfl, by decide⟩
    · rw [h]; exact ⟨108, [101, 110], rfl, by decide⟩
    · exact absurd h ho
  · rw [if_neg hn] at h
    unfold Fm.written at h
    simp only [Bool.and_eq_true] at h
    rcases fms_other f hf with h1 | h1 | h1 | h1 | h1 | h1 | h1 | h1
    · rw [h1, wrO_sq, show Lib.cut (91 :: ([0] ++ [93])) [0] = ([91], [93], true) by decide] at h
      obtain ⟨r, rfl⟩ := prefix_head h.1.1
      rw [h1]
      exact ⟨91, r, rfl, by decide⟩
    · rw [h1, wrO_m, show Lib.cut (109 :: 91 :: ([0] ++ [93])) [0] = ([109, 91], [93], true) by decide] at h
      obtain ⟨r, rfl⟩ := prefix_head h.1.1
      rw [h1]
      exact ⟨109, r, rfl, by decide⟩
    · rw [h1, wrO_n, show Lib.cut (35 :: [0]) [0] = ([35], [], true) by decide] at h
      obtain ⟨r, rfl⟩ := prefix_head h.1.1
      rw [h1]
      exact ⟨35, r, rfl, by decide⟩
    · rw [h1, wrO_k, show Lib.cut [0] [0] = ([], [], true) by decide] at h
      obtain ⟨-, h2⟩ := h
      have e1 : Lib.trimPrefix s [] = s := by unfold Lib.trimPrefix; simp
      have e2 : Lib.trimSuffix s [] = s := by unfold Lib.trimSuffix; simp
      simp only [e1, e2] at h2
      cases s with
      | nil => cases h2
      | cons b r =>
        simp only [Bool.and_eq_true, decide_eq_true_eq] at h2
        rw [h1]
        exact ⟨b, r, rfl, by unfold tagB; rw [if_pos h2]; rfl⟩
    all_goals (unfold Fm.numbered at hn; rw [h1] at hn; exact absurd (by decide) hn)
theorem inner_other (f g : Fm) (hf : f ∈ fms) (hg : g ∈ fms) (hfo : f.other ≠ []) (hgo : g.other ≠ []) (hne : f.other ≠ g.other) (k : Bs) (hk : k ≠ []) (hd : ∀ b ∈ k, isDg b) : (innerN f (g.written k)).2 = false := by
  cases h : (innerN f (g.written k)).2 with
  | false => rfl
  | true =>
    obtain ⟨b, r, e1, t1⟩ := tag_inner f hf hfo _ h
    obtain ⟨b2, r2, e2, t2⟩ := tag_wr g hg hgo k hk hd
    rw [e1] at e2
    injection e2 with e3 e4
    subst e3
    exact absurd (tag_inj f hf g hg hfo hgo (t1.trans t2.symm)) hne
theorem inner_plain (f : Fm) (hn : f.numbered = false) (k : Bs) (ho : f.written k = f.other) : innerN f (f.written k) = ([], true) := by
  unfold innerN
  rw [if_pos hn, ho]
  simp
theorem written_plain (f : Fm) (hf : f ∈ fms) (hn : f.numbered = false) (k : Bs) : f.written k = f.other := by
  unfold Fm.written
  rcases fms_other f hf with h | h | h | h | h | h | h | h <;> rw [h]
  · unfold Fm.numbered at hn; rw [h] at hn; exact absurd hn (by decide)
  · unfold Fm.numbered at hn; rw [h] at hn; exact absurd hn (by decide)
  · unfold Fm.numbered at hn; rw [h] at hn; exact absurd hn (by decide)
  · unfold Fm.numbered at hn; rw [h] at hn; exact absurd hn (by decide)
  all_goals rfl

/-! Tryz# Words -/
theorem words_bytes : ∀ f ∈ fms, f.word ≠ [] ∧ (∀ b ∈ f.word, 46 ≤ b.toNat ∧ b.toNat ≤ 122 ∧ b ≠ 59) ∧ ∀ b ∈ f.other, 35 ≤ b.toNat ∧ b.toNat ≤ 122 ∧ b ≠ 59 := by decide
def Clean (w : Bs) : Prop := w ≠ [] ∧ w.length ≤ 16 ∧ ∀ b ∈ w, 35 ≤ b.toNat ∧ b.toNat ≤ 122 ∧ b ≠ 59
theorem dec_clean (n : Nat) (h : n < 4294967296) : Clean (decN n) := ⟨dec_ne n, by have := dec_len n h; omega, fun b hb => by
  have := dec_digits n b hb
  unfold isDg at this
  refine ⟨by omega, by omega, fun e => ?_⟩
  subst e
  have : (59 : UInt8).toNat = 59 := rfl
  omega⟩
theorem word_lens : ∀ f ∈ fms, f.word.length ≤ 4 ∧ f.other.length ≤ 3 := by decide
theorem lineWords_form {i : I} {g : Fm} (h : fms.find? (·.fits i) = some g) : g ∈ fms ∧ g.fits i = true ∧ lineWords i = g.words i := by
  refine ⟨List.mem_of_find?_eq_some h, ?_, ?_⟩
  · have := List.find?_some h
    exact this
  · unfold lineWords; rw [h]
theorem lineWords_clean (i : I) (hi : i.Ok) : ∀ w ∈ lineWords i, Clean w := by
  obtain ⟨h1, h2, h3, h4⟩ := hi
  unfold lineWords
  split
  · rename_i f hf
    obtain ⟨hm, -, -⟩ := lineWords_form hf
    intro w hw
    unfold Fm.words at hw
    rcases List.mem_append.1 hw with hw | hw
    · rcases List.mem_append.1 hw with hw | hw
      · rw [List.mem_singleton.1 hw]
        have := words_bytes f hm
        exact ⟨this.1, by have := (word_lens f hm).1; omega, fun b hb => by have := this.2.1 b hb; exact ⟨by omega, this.2.1, this.2.2⟩⟩
      · split at hw
        · cases hw
        · rename_i ho
          rw [List.mem_singleton.1 hw]
          obtain ⟨b, r, e, -⟩ := tag_wr f hm ho (decN i.k) (dec_ne _) (dec_digits _)
          have hl := dec_len i.k h4
          have hdc := (dec_clean i.k h4).2.2
          have hw1 := (words_bytes f hm).2.2
          refine ⟨by rw [e]; simp, ?_, ?_⟩
          · unfold Fm.written
            rcases fms_other f hm with h | h | h | h | h | h | h | h <;> rw [h]
            · rw [wrO_sq]; simp; omega
            · rw [wrO_m]; simp; omega
            · rw [wrO_n]; simp; omega
            · rw [wrO_k]; omega
            · rw [wrO_x]; decide
            · rw [wrO_a]; decide
            · rw [wrO_l]; decide
            · exact absurd h ho
          · unfold Fm.written
            intro b hb
            rcases fms_other f hm with h | h | h | h | h | h | h | h <;> rw [h] at hb hw1
            · rw [wrO_sq] at hb
              simp only [List.mem_cons, List.mem_append, List.not_mem_nil, or_false] at hb
              rcases hb with rfl | hb | rfl
              · decide
              · exact hdc b hb
              · decide
            · rw [wrO_m] at hb
              simp only [List.mem_cons, List.mem_append, List.not_mem_nil, or_false] at hb
              rcases hb with rfl | rfl | hb | rfl
              · decide
              · decide
              · exact hdc b hb
              · decide
            · rw [wrO_n] at hb
              simp only [List.mem_cons] at hb
              rcases hb with rfl | hb
              · decide
              · exact hdc b hb
            · rw [wrO_k] at hb
              exact hdc b hb
            · rw [wrO_x] at hb; exact hw1 b hb
            · rw [wrO_a] at hb; exact hw1 b hb
            · rw [wrO_l] at hb; exact hw1 b hb
            · cases hb
    · split at hw
      · simp only [List.mem_cons, List.not_mem_nil, or_false] at hw
        rcases hw with rfl | rfl
        · exact dec_clean _ (by omega)
        · exact dec_clean _ (by omega)
      · cases hw
  · intro w hw
    unfold rawWords at hw
    simp only [List.mem_cons, List.not_mem_nil, or_false] at hw
    rcases hw with rfl | rfl | rfl | rfl | rfl
    · exact ⟨by decide, by decide, by decide⟩
    · exact dec_clean _ (by omega)
    · exact dec_clean _ (by omega)
    · exact dec_clean _ (by omega)
    · exact dec_clean _ (by omega)
theorem lineWords_len (i : I) : 1 ≤ (lineWords i).length ∧ (lineWords i).length ≤ 5 := by
  unfold lineWords
  split
  · unfold Fm.words
    simp only [List.length_append, List.length_cons, List.length_nil]
    split <;> split <;> simp
  · simp [rawWords]
theorem clean_join (ws : List Bs) (h : ∀ w ∈ ws, Clean w) : ∀ b ∈ Lib.join ws [32], b = 32 ∨ (35 ≤ b.toNat ∧ b.toNat ≤ 122 ∧ b ≠ 59) := by
  cases ws with
  | nil => intro b hb; cases hb
  | cons x r =>
    rw [Lib.join_cons]
    intro b hb
    rcases List.mem_append.1 hb with hb | hb
    · exact .inr ((h x (by simp)).2.2 b hb)
    · unfold Lib.joinTail at hb
      obtain ⟨y, hy, hby⟩ := List.mem_flatten.1 hb
      obtain ⟨z, hz, rfl⟩ := List.mem_map.1 hy
      rcases List.mem_append.1 hby with h1 | h1
      · exact .inl (List.mem_singleton.1 h1)
      · exact .inr ((h z (by simp [hz])).2.2 b h1)
set_option maxRecDepth 10000 in
theorem clean_sp {b : UInt8} (h : 35 ≤ b.toNat) : Lib.isSp b = false := by
  unfold Lib.isSp
  have key : ∀ n : Fin 256, 35 ≤ n.val → Lib.isSp (UInt8.ofNat n.val) = false := by decide
  have := key ⟨b.toNat, b.toNat_lt⟩ h
  simpa [Lib.isSp] using this
theorem fieldsGo_word : ∀ (w cur l : Bs), (∀ b ∈ w, 35 ≤ b.toNat) → Lib.fieldsGo cur (w ++ l) = Lib.fieldsGo (cur ++ w) l
  | [], cur, l, _ => by simp
  | b :: w, cur, l, h => by
    rw [List.cons_append, Lib.fieldsGo_more _ _ _ (clean_sp (h b (by simp))), fieldsGo_word w (cur ++ [b]) l (fun c hc => h c (by simp [hc]))]
    simp
theorem fields_tail : ∀ (r : List Bs) (cur : Bs), cur ≠ [] → (∀ w ∈ r, Clean w) → Lib.fieldsGo cur (Lib.joinTail [32] r) = cur :: r
  | [], cur, hc, _ => by
    unfold Lib.joinTail
    cases cur with
    | nil => exact absurd rfl hc
    | cons _ _ => rfl
  | x :: r, cur, hc, h => by
    have e : Lib.joinTail [32] (x :: r) = 32 :: (x ++ Lib.joinTail [32] r) := by simp [Lib.joinTail]
    rw [e, Lib.fieldsGo_end _ _ _ (by decide) hc, fieldsGo_word x [] _ (fun b hb => ((h x (by simp)).2.2 b hb).1), List.nil_append, fields_tail r x (h x (by simp)).1 (fun w hw => h w (by simp [hw]))]
theorem fields_join (ws : List Bs) (h : ∀ w ∈ ws, Clean w) : Lib.fields (Lib.join ws [32]) = ws := by
  cases ws with
  | nil => rfl
  | cons x r =>
    unfold Lib.fields
    rw [Lib.join_cons, fieldsGo_word x [] _ (fun b hb => ((h x (by simp)).2.2 b hb).1), List.nil_append, fields_tail r x (h x (by simp)).1 (fun w hw => h w (by simp [hw]))]
theorem join_len (ws : List Bs) (h : ∀ w ∈ ws, Clean w) : (Lib.join ws [32]).length ≤ 17 * ws.length := by
  cases ws with
  | nil => simp [Lib.join_nil]
  | cons x r =>
    rw [Lib.join_cons, List.length_append, Lib.joinTail_length]
    have key : ∀ r : List Bs, (∀ w ∈ r, Clean w) → Lib.lens r ≤ 16 * r.length := fun r => by
      induction r with
      | nil => intro _; simp [Lib.lens]
      | cons y r ih =>
        intro h
        have := ih (fun w hw => h w (by simp [hw]))
        have h2 := (h y (by simp)).2.1
        unfold Lib.lens at this ⊢
        simp only [List.map_cons, List.sum_cons, List.length_cons]
        omega
    have h1 := key r (fun w hw => h w (by simp [hw]))
    have h2 := (h x (by simp)).2.1
    simp only [List.length_cons, List.length_nil]
    omega
theorem line_len (i : I) (hi : i.Ok) : (lineN i).length ≤ 85 := by
  have := join_len _ (lineWords_clean i hi)
  have := (lineWords_len i).2
  unfold lineN
  omega
theorem line_bytes (i : I) (hi : i.Ok) : ∀ b ∈ lineN i, b = 32 ∨ (35 ≤ b.toNat ∧ b.toNat ≤ 122 ∧ b ≠ 59) := clean_join _ (lineWords_clean i hi)
theorem text_len (l : List I) (h : ∀ i ∈ l, i.Ok) : (textN l).length ≤ 86 * l.length := by
  unfold textN
  induction l with
  | nil => simp
  | cons i l ih =>
    have := ih (fun j hj => h j (by simp [hj]))
    have h2 := line_len i (h i (by simp))
    rw [List.flatMap_cons, List.length_append, List.length_append, List.length_cons, List.length_cons, List.length_nil]
    omega
end Go.Proofs.YtpinnockcnmofaaGreatDoor

/-! The words of a line, as strings.FieldsFunc parts them. -/
namespace Go.Proofs.YtpinnockcnmofaaGreatDoor
set_option linter.unusedVariables false

def blankP (n : Nat) : Bool := n == 32 || n == 9 || n == 13
theorem spansP_congr (p q : Nat → Bool) (s : ByteArray) (h : ∀ pos, pos < s.size → p (Utf8.decode s pos).1 = q (Utf8.decode s pos).1) : ∀ (f pos : Nat) (st : Option Nat) (acc : List (Nat × Nat)), Lib.spansFromP p s f pos st acc = Lib.spansFromP q s f pos st acc
  | 0, _, _, _ => rfl
  | f + 1, pos, st, acc => by
    unfold Lib.spansFromP
    split
    · rename_i hp
      rw [h pos hp]
      split <;> cases st <;> exact spansP_congr p q s h f _ _ _
    · rfl
theorem goFields_line (l : Bs) (hl : ∀ b ∈ l, b = 32 ∨ (35 ≤ b.toNat ∧ b.toNat ≤ 122 ∧ b ≠ 59)) : (Lib.goFieldsP blankP ⟨l.toArray⟩).map (·.data.toList) = Lib.fields l := by
  have hlt : ∀ b ∈ l, b.toNat < 128 := fun b hb => by
    rcases hl b hb with rfl | h
    · decide
    · omega
  have e : Lib.goFieldsP blankP ⟨l.toArray⟩ = Lib.goFieldsP Lib.isSpaceR ⟨l.toArray⟩ := by
    unfold Lib.goFieldsP Lib.spansOfP
    rw [spansP_congr blankP Lib.isSpaceR ⟨l.toArray⟩ (fun pos hp => ?_)]
    have hm : ((⟨l.toArray⟩ : ByteArray)[pos]'hp) ∈ l := by
      have : ((⟨l.toArray⟩ : ByteArray)[pos]'hp) = l[pos]'(by simpa [ByteArray.size] using hp) := rfl
      rw [this]
      exact List.getElem_mem _
    rw [decode_ascii _ pos hp (hlt _ hm)]
    generalize ((⟨l.toArray⟩ : ByteArray)[pos]'hp) = b at hm
    rcases hl b hm with rfl | ⟨h1, h2, h3⟩
    · decide
    · unfold blankP Lib.isSpaceR
      have k1 : (b.toNat == 32) = false := by simp; omega
      have k2 : (b.toNat == 9) = false := by simp; omega
      have k3 : (b.toNat == 13) = false := by simp; omega
      have k4 : decide (b.toNat ≤ 13) = false := by simp; omega
      have k5 : (b.toNat == 0x85) = false := by simp; omega
      have k6 : (b.toNat == 0xA0) = false := by simp; omega
      have k7 : (b.toNat == 0x1680) = false := by simp; omega
      have k8 : decide (0x2000 ≤ b.toNat) = false := by simp; omega
      have k9 : (b.toNat == 0x2028) = false := by simp; omega
      have k10 : (b.toNat == 0x2029) = false := by simp; omega
      have k11 : (b.toNat == 0x202F) = false := by simp; omega
      have k12 : (b.toNat == 0x205F) = false := by simp; omega
      have k13 : (b.toNat == 0x3000) = false := by simp; omega
      rw [k1, k2, k3, k4, k5, k6, k7, k8, k9, k10, k11, k12, k13]
      simp
  rw [e, Lib.goFieldsP_space, Lib.goFields_eq]
  exact Lib.fieldsD_ascii _ hlt
theorem bytes_of_lists {a : List ByteArray} {b : List Bs} (h : a.map (·.data.toList) = b) : a = b.map fun x => (⟨x.toArray⟩ : ByteArray) := by
  subst h
  rw [List.map_map]
  conv => lhs; rw [← List.map_id a]
  exact List.map_congr_left fun x _ => by cases x; rfl
theorem fields_lineN (i : I) (hi : i.Ok) : Lib.goFieldsP blankP ⟨(lineN i).toArray⟩ = (lineWords i).map fun x => (⟨x.toArray⟩ : ByteArray) := by
  apply bytes_of_lists
  rw [goFields_line _ (line_bytes i hi)]
  exact fields_join _ (lineWords_clean i hi)
theorem fields_none : Lib.goFieldsP blankP ⟨#[]⟩ = [] := by decide
theorem index_none (c : UInt8) : ∀ l : Bs, c ∉ l → Lib.indexByte l c = -1
  | [], _ => rfl
  | b :: l, h => by
    have h1 : ¬ b = c := fun e => h (by simp [e])
    have h2 := index_none c l (fun e => h (by simp [e]))
    unfold Lib.indexByte
    rw [if_neg (by simpa using h1), h2]
    rfl
theorem index_some (c : UInt8) : ∀ (l r : Bs), c ∉ l → Lib.indexByte (l ++ c :: r) c = l.length
  | [], r, _ => by simp [Lib.indexByte]
  | b :: l, r, h => by
    have h1 : ¬ b = c := fun e => h (by simp [e])
    have h2 := index_some c l r (fun e => h (by simp [e]))
    show (if (b == c) = true then (0 : Int) else if (Lib.indexByte (l ++ c :: r) c == -1) = true then -1 else Lib.indexByte (l ++ c :: r) c + 1) = _
    rw [if_neg (by simpa using h1), h2, if_neg (by simp)]
    simp
theorem cut_line (i : I) (hi : i.Ok) : (59 : UInt8) ∉ lineN i := fun h => by
  rcases line_bytes i hi _ h with h | h
  · exact absurd h (by decide)
  · exact h.2.2 rfl
theorem line_no10 (i : I) (hi : i.Ok) : (10 : UInt8) ∉ lineN i := fun h => by
  rcases line_bytes i hi _ h with h | h
  · exact absurd h (by decide)
  · exact absurd h.1 (by decide)
end Go.Proofs.YtpinnockcnmofaaGreatDoor
