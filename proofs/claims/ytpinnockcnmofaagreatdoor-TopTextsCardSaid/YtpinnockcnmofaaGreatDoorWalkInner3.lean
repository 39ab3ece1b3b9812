/-
  The walk of list.number at a number's own digits.
-/
import Derived.Test.YtpinnockcnmofaaGreatDoorWalkForms3
import Derived.Test.YtpinnockcnmofaaGreatDoorListPlain2
import Derived.BigQuiet
/-! The walk of list.number at a number's own digits. -/
namespace Go.Proofs.YtpinnockcnmofaaGreatDoor
open Go.RowKit
set_option linter.unusedVariables false

theorem dropWhile_all {α : Type} (p : α → Bool) : ∀ l : List α, (∀ x ∈ l, p x = true) → l.dropWhile p = []
  | [], _ => rfl
  | x :: l, h => by rw [List.dropWhile_cons, if_pos (h x (by simp))]; exact dropWhile_all p l (fun y hy => h y (by simp [hy]))
def digitsB : Bs := [48, 49, 50, 51, 52, 53, 54, 55, 56, 57]
theorem isDg_mem {b : UInt8} (h : isDg b) : digitsB.contains b = true := by
  obtain ⟨h1, h2⟩ := h
  have key : ∀ n : Fin 58, 48 ≤ n.val → digitsB.contains (UInt8.ofNat n.val) = true := by decide
  have := key ⟨b.toNat, by omega⟩ h1
  simpa using this
theorem trim_digits (l : Bs) (h : ∀ b ∈ l, isDg b) : Lib.trimS l digitsB = [] := by
  unfold Lib.trimS
  have e : Lib.trimRightS l digitsB = [] := by
    unfold Lib.trimRightS
    rw [dropWhile_all _ _ (fun b hb => isDg_mem (h b (by simpa using hb)))]
    rfl
  rw [e]
  rfl

theorem below_or {w w' : World} {e : TypeId} {s : ByteArray} (h : w' = w ∨ w' = Lib.bytesWorld w e s) : Below w.heap.size w w' := by
  rcases h with rfl | rfl
  · exact Below.refl _ _
  · exact Lib.bytesWorld_below _ _ _
set_option maxRecDepth 100000 in
set_option maxHeartbeats 4000000 in
theorem number_any (n bits : Nat) (hb : bits = 8 ∨ bits = 16 ∨ bits = 32) (hn : n < 2 ^ bits) (w : World) :
    Calls Tryz.prog 56 #[strV (decN n), .int .i64 bits] w fun e w' => e = .returned (.int .u32 n) ∧ Below w.heap.size w w' := by
  have h32 : n < 4294967296 := by
    rcases hb with rfl | rfl | rfl <;> omega
  have hlen := dec_len n h32
  have hdg := dec_digits n
  have hp := parse_dec n h32
  have htrim := trim_digits _ hdg
  have hhead := dec_head n
  have hz : n = 0 → decN n = [48] := fun h => by rw [h]; exact dec_zero
  obtain ⟨b, r, hbr⟩ := List.exists_cons_of_ne_nil (dec_ne n)
  rw [hbr] at hlen hdg hp htrim hhead hz ⊢
  have hT := fun W => sh_Trim_ascii ⟨(b :: r).toArray⟩ ⟨digitsB.toArray⟩ W (by show (b :: r).toArray.size ≤ _; rw [List.size_toArray]; omega) (by decide) (fun j x hx => by
    have hm : x ∈ digitsB := List.mem_of_getElem? hx
    have key : ∀ y ∈ digitsB, y.toNat < 128 := by decide
    exact key x hm)
  rw [show (⟨(b :: r).toArray⟩ : ByteArray).data.toList = b :: r from rfl, show (⟨digitsB.toArray⟩ : ByteArray).data.toList = digitsB from rfl, htrim] at hT
  have hP := fun W => sh_strconv_ParseUint_10_at64_ok ⟨(b :: r).toArray⟩ (by show (b :: r).toArray.size ≤ _; rw [List.size_toArray]; omega) n hp W
  have hwr : IntKind.u32.wrap (n : Int) = n := by rw [IntKind.wrap_u32]; omega
  have HT := Lib.hid hT
  have HP := Lib.hid hP
  have hl10 : ((b :: r).length : Int) ≤ 10 := by omega
  clear hT hP hp htrim hdg hbr hlen
  unfold strV
  by_cases h0 : n = 0
  · have hz1 := hz h0
    injection hz1 with hz2 hz3
    subst hz2
    subst hz3
    clear hz hhead
    go_enter Tryz.func56, Tryz.ntmps56
    go_wp2_with (go_at_call 88; refine ((HT.out) _).mono ?_; rintro e w5 ⟨rfl, hB5⟩)
    refine (need_true _).mono ?_
    rintro e w6 ⟨rfl, rfl⟩
    have HB5 := Lib.hid hB5
    clear hB5
    go_wp2_with fail
    refine ((HP.out) _).mono ?_
    rintro e w7 ⟨rfl, hB7⟩
    have HB7 := Lib.hid ((HB5.out).trans ((below_or hB7).mono (HB5.out).size))
    clear hB7 HP HT
    rcases hb with rfl | rfl | rfl
    all_goals
      go_wp2_with fail
      first
        | rw [show decide ((n : Int) < 256) = true from decide_eq_true (by omega)]
        | rw [show decide ((n : Int) < 65536) = true from decide_eq_true (by omega)]
        | rw [show decide ((n : Int) < 4294967296) = true from decide_eq_true (by omega)]
        | skip
      refine (need_true _).mono ?_
      rintro e w8 ⟨rfl, rfl⟩
      go_wp2_with fail
      go_ret
      first | exact ⟨rfl, HB7.out⟩ | exact ⟨by rw [h0]; rfl, HB7.out⟩
  · have hb48 : ¬ b = 48 := fun e => hhead h0 (by rw [e]; rfl)
    have hbn : ¬ (b.toNat : Int) = 48 := fun e => hb48 (by
      apply UInt8.toNat_inj.1
      have : (48 : UInt8).toNat = 48 := rfl
      omega)
    have he : ((b :: r) == [48]) = false := by
      cases h : ((b :: r) == [48]) with
      | false => rfl
      | true => exact absurd (by have := eq_of_beq h; injection this) hb48
    clear hz hhead
    go_enter Tryz.func56, Tryz.ntmps56
    go_wp2_with (go_at_call 88; refine ((HT.out) _).mono ?_; rintro e w5 ⟨rfl, hB5⟩)
    show Calls Tryz.prog 55 #[.bool ((b.toNat : Int) != 48)] w5 _
    rw [show ((b.toNat : Int) != 48) = true from bne_iff_ne.2 hbn]
    refine (need_true _).mono ?_
    rintro e w6 ⟨rfl, rfl⟩
    have HB5 := Lib.hid hB5
    clear hB5
    go_wp2_with fail
    refine ((HP.out) _).mono ?_
    rintro e w7 ⟨rfl, hB7⟩
    have HB7 := Lib.hid ((HB5.out).trans ((below_or hB7).mono (HB5.out).size))
    clear hB7 HP HT
    rcases hb with rfl | rfl | rfl
    all_goals
      go_wp2_with fail
      first
        | rw [show decide ((n : Int) < 256) = true from decide_eq_true (by omega)]
        | rw [show decide ((n : Int) < 65536) = true from decide_eq_true (by omega)]
        | rw [show decide ((n : Int) < 4294967296) = true from decide_eq_true (by omega)]
        | skip
      refine (need_true _).mono ?_
      rintro e w8 ⟨rfl, rfl⟩
      go_wp2_with fail
      go_ret
      first | exact ⟨rfl, HB7.out⟩ | exact ⟨by rw [h0]; rfl, HB7.out⟩
end Go.Proofs.YtpinnockcnmofaaGreatDoor

/-! strings.Cut at one byte. -/
namespace Go.Proofs.YtpinnockcnmofaaGreatDoor
open Go.RowKit
set_option linter.unusedVariables false

set_option maxRecDepth 100000 in
theorem cut_no (l : Bs) (c : UInt8) (h : c ∉ l) (w : World) :
    Calls Tryz.prog 52 #[strV l, strV [c]] w fun e w' => e = .returned (.tuple #[strV l, strV [], .bool false]) ∧ Below w.heap.size w w' := by
  have hi := sh_stringslite_Index_one ⟨l.toArray⟩ c
  rw [show (⟨l.toArray⟩ : ByteArray).data.toList = l from rfl, index_none c l h] at hi
  unfold strV
  have key : Calls Tryz.prog 87 #[.string ⟨l.toArray⟩, .string ⟨#[c]⟩] w fun e w' => e = .returned (.tuple #[.string ⟨l.toArray⟩, .string ⟨#[]⟩, .bool false]) ∧ Below w.heap.size w w' := by
    go_enter Tryz.func87, Tryz.ntmps87
    go_wp2_with fail
    refine (hi w).mono ?_
    rintro e w1 ⟨rfl, rfl⟩
    go_wp2_with fail
    try go_region
    all_goals
      go_ret3
      exact ⟨rfl, by first | exact Below.refl _ _ | exact (Below.refl _ _).drew⟩
  go_enter Tryz.func52, Tryz.ntmps52
  go_wp2_with fail
  refine key.mono ?_
  rintro e w1 ⟨rfl, hB⟩
  go_wp2_with fail
  try go_region
  all_goals
    go_ret3
    exact ⟨rfl, by first | exact hB | exact hB.drew⟩
set_option maxRecDepth 100000 in
theorem cut_yes (a r : Bs) (c : UInt8) (h : c ∉ a) (hl : a.length + r.length ≤ 1000000) (w : World) :
    Calls Tryz.prog 52 #[strV (a ++ c :: r), strV [c]] w fun e w' => e = .returned (.tuple #[strV a, strV r, .bool true]) ∧ Below w.heap.size w w' := by
  have hi := sh_stringslite_Index_one ⟨(a ++ c :: r).toArray⟩ c
  rw [show (⟨(a ++ c :: r).toArray⟩ : ByteArray).data.toList = a ++ c :: r from rfl, index_some c a r h] at hi
  unfold strV
  have e1 : (⟨(a ++ c :: r).toArray⟩ : ByteArray).extract 0 a.length = ⟨a.toArray⟩ := by
    apply ByteArray.ext; simp
  have e2 : (⟨(a ++ c :: r).toArray⟩ : ByteArray).extract (a.length + 1) (a.length + (r.length + 1)) = ⟨r.toArray⟩ := by
    apply ByteArray.ext; simp; rw [show List.length a + (List.length r + 1) - (List.length a + 1) = r.length by omega, List.take_length]
  have hs : (⟨(a ++ c :: r).toArray⟩ : ByteArray).size = a.length + (r.length + 1) := by show (a ++ c :: r).toArray.size = _; simp
  have key : Calls Tryz.prog 87 #[.string ⟨(a ++ c :: r).toArray⟩, .string ⟨#[c]⟩] w fun e w' => e = .returned (.tuple #[.string ⟨a.toArray⟩, .string ⟨r.toArray⟩, .bool true]) ∧ Below w.heap.size w w' := by
    have HE1 := Lib.hid e1
    have HE2 := Lib.hid e2
    have HH := Lib.hid h
    clear e1 e2 h
    generalize hS : (⟨(a ++ c :: r).toArray⟩ : ByteArray) = S at *
    have z1 : (a.length : Int) ≤ (S.size : Int) := by omega
    have z2 : (a.length : Int) + 1 ≤ (S.size : Int) := by omega
    go_enter Tryz.func87, Tryz.ntmps87
    go_wp2_with fail
    refine (hi w).mono ?_
    rintro e w1 ⟨rfl, rfl⟩
    go_wp2_with fail
    rw [hs] at z1 z2
    go_region
    all_goals
      go_wp2_with fail
      go_ret3
      refine ⟨?_, by first | exact (Below.refl _ _).drew | exact Below.refl _ _⟩
      show Ending.returned (.tuple #[.string (S.extract 0 a.length), .string (S.extract (a.length + 1) (a.length + (r.length + 1))), .bool true]) = _
      rw [HE1.out, HE2.out]
  go_enter Tryz.func52, Tryz.ntmps52
  go_wp2_with fail
  refine key.mono ?_
  rintro e w1 ⟨rfl, hB⟩
  go_wp2_with fail
  try go_region
  all_goals
    go_ret3
    exact ⟨rfl, by first | exact hB | exact hB.drew⟩
end Go.Proofs.YtpinnockcnmofaaGreatDoor

/-! The walk of a form's inner: the number's text in its other word. -/
namespace Go.Proofs.YtpinnockcnmofaaGreatDoor
open Go.RowKit
set_option linter.unusedVariables false

theorem fms_cut : ∀ f ∈ fms, f.numbered = true → f.written [0] = (Lib.cut (f.written [0]) [0]).1 ++ 0 :: (Lib.cut (f.written [0]) [0]).2.1 ∧ (0 : UInt8) ∉ (Lib.cut (f.written [0]) [0]).1 ∧ (Lib.cut (f.written [0]) [0]).1.length + (Lib.cut (f.written [0]) [0]).2.1.length ≤ 5 := by decide
def dgHead (k : Bs) : Bool := match k with | [] => false | b :: _ => decide (48 ≤ b.toNat) && decide (b.toNat ≤ 57)
theorem inner_eq (f : Fm) (s : Bs) (h : f.numbered = true) : innerN f s = (Lib.trimSuffix (Lib.trimPrefix s (Lib.cut (f.written [0]) [0]).1) (Lib.cut (f.written [0]) [0]).2.1,
    Lib.hasPrefix s (Lib.cut (f.written [0]) [0]).1 && Lib.hasSuffix (Lib.trimPrefix s (Lib.cut (f.written [0]) [0]).1) (Lib.cut (f.written [0]) [0]).2.1 && dgHead (Lib.trimSuffix (Lib.trimPrefix s (Lib.cut (f.written [0]) [0]).1) (Lib.cut (f.written [0]) [0]).2.1)) := by
  unfold innerN
  rw [if_neg (by rw [h]; simp)]
  generalize Lib.trimSuffix (Lib.trimPrefix s (Lib.cut (f.written [0]) [0]).1) (Lib.cut (f.written [0]) [0]).2.1 = k
  cases k <;> rfl
theorem trimPrefix_len (s p : Bs) : (Lib.trimPrefix s p).length ≤ s.length := by
  unfold Lib.trimPrefix
  split
  · simp
  · exact Nat.le_refl _

theorem beq_dec (a b : Bs) : (a == b) = decide (a = b) := by
  by_cases h : a = b
  · subst h; simp
  · rw [decide_eq_false h]
    cases h2 : (a == b) with
    | false => rfl
    | true => exact absurd (eq_of_beq h2) h
theorem below_drewNL {B : Nat} {a w : World} (h : Below B a w) (n : Nat) : Below B a (w.drewN n) := ⟨h.os, h.tape, h.output, h.size, h.block⟩
set_option maxRecDepth 100000 in
set_option maxHeartbeats 4000000 in
theorem inner_any (f : Fm) (hf : f ∈ fms) (s : Bs) (hs : s.length ≤ 100000) (w : World) :
    Calls Tryz.prog 90 #[f.val, strV s] w fun e w' => e = .returned (.tuple #[strV (innerN f s).1, .bool (innerN f s).2]) ∧ Below w.heap.size w w' := by
  have hnum := fun W => numbered_any f hf W
  have hwri := fun W => written_any f hf [0] (by simp) W
  have hB1 : Below w.heap.size w (w.alloc (.cells #[.string ⟨f.word.toArray⟩, .string ⟨f.other.toArray⟩, .int .u16 f.code, .bool f.x, .bool f.jumps] 95)) := (Below.refl _ w).alloc (Nat.le_refl _) _
  have hb1 : (w.alloc (.cells #[.string ⟨f.word.toArray⟩, .string ⟨f.other.toArray⟩, .int .u16 f.code, .bool f.x, .bool f.jumps] 95)).heap[w.heap.size]? = some (.cells #[.string ⟨f.word.toArray⟩, .string ⟨f.other.toArray⟩, .int .u16 f.code, .bool f.x, .bool f.jumps] 95 (0, 0)) := heap_alloc_new w _
  have hs1 : (w.alloc (.cells #[.string ⟨f.word.toArray⟩, .string ⟨f.other.toArray⟩, .int .u16 f.code, .bool f.x, .bool f.jumps] 95)).heap.size = w.heap.size + 1 := World.size_alloc ..
  unfold Fm.val strV at hnum hwri ⊢
  cases hn : f.numbered with
  | false =>
    rw [hn] at hnum
    have hin : innerN f s = ([], decide (s = f.other)) := by unfold innerN; rw [if_pos hn]
    have HIN := Lib.hid hin
    clear hin hwri
    obtain ⟨wd, ot, fc, fx, fj⟩ := f
    simp only at hnum hb1 hs1 hB1 ⊢
    have HN := Lib.hid hnum
    have HB1 := Lib.hid hB1
    have HBB := Lib.hid hb1
    clear hn hf hnum hB1 hb1
    go_enter Tryz.func90, Tryz.ntmps90
    go_wp2_with fail
    generalize (w.alloc (.cells #[.string ⟨wd.toArray⟩, .string ⟨ot.toArray⟩, .int .u16 fc, .bool fx, .bool fj] 95)) = W1 at *
    refine ((HN.out) _).mono ?_
    rintro e w2 ⟨rfl, hB2⟩
    have f1 : w2.cell? ⟨w.heap.size, 1, none⟩ = some (.string ⟨ot.toArray⟩) := by
      have := (hB2.block w.heap.size (by omega)).trans HBB.out
      simp [World.cell?, this]
    have HB2 := Lib.hid ((HB1.out).trans (hB2.mono (by omega)))
    clear hB2
    go_wp2_with fail
    go_quiet (fail)
    go_wp2_with fail
    go_ret2
    rw [HIN.out]
    refine ⟨?_, below_drewNL HB2.out _⟩
    rw [← beq_dec]
    rfl
  | true =>
    rw [hn] at hnum
    obtain ⟨h1, h2, h3⟩ := fms_cut f hf hn
    have hin := inner_eq f s hn
    generalize (Lib.cut (f.written [0]) [0]).1 = pf at *
    generalize (Lib.cut (f.written [0]) [0]).2.1 = sf at *
    have htl := trimPrefix_len s pf
    have hcut := fun W => cut_yes pf sf 0 h2 (by omega) W
    unfold strV at hcut
    rw [← h1] at hcut
    generalize f.written [0] = wr at *
    have hcp := sh_strings_CutPrefix ⟨s.toArray⟩ ⟨pf.toArray⟩
    rw [show (⟨s.toArray⟩ : ByteArray).data.toList = s from rfl, show (⟨pf.toArray⟩ : ByteArray).data.toList = pf from rfl] at hcp
    generalize Lib.trimPrefix s pf = rest at *
    generalize Lib.hasPrefix s pf = is at *
    have hcs := fun W => sh_strings_CutSuffix ⟨rest.toArray⟩ ⟨sf.toArray⟩ W (by show rest.toArray.size ≤ _; rw [List.size_toArray]; omega)
    rw [show (⟨rest.toArray⟩ : ByteArray).data.toList = rest from rfl, show (⟨sf.toArray⟩ : ByteArray).data.toList = sf from rfl] at hcs
    generalize Lib.trimSuffix rest sf = k at *
    generalize Lib.hasSuffix rest sf = too at *
    have HIN := Lib.hid hin
    obtain ⟨wd, ot, fc, fx, fj⟩ := f
    simp only at hnum hwri hb1 hs1 hB1 ⊢
    have HN := Lib.hid hnum
    have HW := Lib.hid hwri
    have HB1 := Lib.hid hB1
    have HBB := Lib.hid hb1
    have HC := Lib.hid hcut
    have HP := Lib.hid hcp
    have HS := Lib.hid hcs
    clear hn hf hnum hB1 hb1 hwri hcut hcp hcs hin h1 h2 h3
    go_enter Tryz.func90, Tryz.ntmps90
    go_wp2_with fail
    generalize (w.alloc (.cells #[.string ⟨wd.toArray⟩, .string ⟨ot.toArray⟩, .int .u16 fc, .bool fx, .bool fj] 95)) = W1 at *
    refine ((HN.out) _).mono ?_
    rintro e w2 ⟨rfl, hB2⟩
    obtain ⟨f0, f1, f2, f3, f4⟩ : w2.cell? ⟨w.heap.size, 0, none⟩ = some (.string ⟨wd.toArray⟩) ∧ w2.cell? ⟨w.heap.size, 1, none⟩ = some (.string ⟨ot.toArray⟩) ∧ w2.cell? ⟨w.heap.size, 2, none⟩ = some (.int .u16 fc) ∧ w2.cell? ⟨w.heap.size, 3, none⟩ = some (.bool fx) ∧ w2.cell? ⟨w.heap.size, 4, none⟩ = some (.bool fj) := by
      have := (hB2.block w.heap.size (by omega)).trans HBB.out
      simp [World.cell?, this]
    have HB2 := Lib.hid ((HB1.out).trans (hB2.mono (by omega)))
    clear hB2
    go_wp2_with fail
    refine ((HW.out) _).mono ?_
    rintro e w3 ⟨rfl, hB3⟩
    have HB3 := Lib.hid ((HB2.out).trans (hB3.mono (HB2.out).size))
    clear hB3 f0 f1 f2 f3 f4
    go_wp2_with fail
    refine ((HC.out) _).mono ?_
    rintro e w4 ⟨rfl, hB4⟩
    have HB4 := Lib.hid ((HB3.out).trans (hB4.mono (HB3.out).size))
    clear hB4
    go_wp2_with fail
    refine ((HP.out) _).mono ?_
    rintro e w5 ⟨rfl, rfl⟩
    go_wp2_with fail
    refine ((HS.out) _).mono ?_
    rintro e w6 ⟨rfl, rfl⟩
    have fin : ∀ v : Bool, v = (is && too && dgHead k) → ∀ W', Below w.heap.size w W' → Ending.returned (.tuple #[.string ⟨k.toArray⟩, .bool v]) = Ending.returned (.tuple #[.string ⟨(innerN ⟨wd, ot, fc, fx, fj⟩ s).1.toArray⟩, .bool (innerN ⟨wd, ot, fc, fx, fj⟩ s).2]) ∧ Below w.heap.size w W' := fun v hv W' hW => ⟨by rw [HIN.out, hv], hW⟩
    have FIN := Lib.hid fin
    clear fin
    go_upto_region 6 with fail
    cases is with
    | false =>
      go_quiet (fail)
      go_wp2_with fail
      go_ret2
      exact (FIN.out) false rfl _ (below_drewNL HB4.out _)
    | true =>
      cases too with
      | false =>
        go_quiet (fail)
        go_wp2_with fail
        go_ret2
        exact (FIN.out) false rfl _ (below_drewNL HB4.out _)
      | true =>
        cases k with
        | nil =>
          go_quiet (fail)
          go_wp2_with fail
          go_ret2
          exact (FIN.out) false rfl _ (below_drewNL HB4.out _)
        | cons b r =>
          have hidx : ∀ h, ((⟨(b :: r).toArray⟩ : ByteArray)[0]'h) = b := fun _ => rfl
          by_cases h48 : 48 ≤ b.toNat
          · have h48' : (48 : Int) ≤ (b.toNat : Int) := by omega
            by_cases h57 : b.toNat ≤ 57
            · have h57' : (b.toNat : Int) ≤ 57 := by omega
              go_quiet (fail)
              go_wp2_with fail
              go_ret2
              exact (FIN.out) true (by simp [dgHead, h48, h57]) _ (below_drewNL HB4.out _)
            · have h57' : ¬ (b.toNat : Int) ≤ 57 := by omega
              go_quiet (fail)
              go_wp2_with fail
              go_ret2
              exact (FIN.out) false (by simp [dgHead, h48, h57]) _ (below_drewNL HB4.out _)
          · have h48' : ¬ (48 : Int) ≤ (b.toNat : Int) := by omega
            go_quiet (fail)
            go_wp2_with fail
            go_ret2
            exact (FIN.out) false (by simp [dgHead, h48]) _ (below_drewNL HB4.out _)
end Go.Proofs.YtpinnockcnmofaaGreatDoor
