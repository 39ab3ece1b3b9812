/-
  The walks of a machine's deeds that return, reckon and branch.
-/
import Derived.Test.YtpinnockcnmofaaGreatDoorWalkVm1
import Derived.Laws.BitsAllLaws
/-! The walks of a machine's deeds that return, reckon and branch. -/
namespace Go.Proofs.YtpinnockcnmofaaGreatDoor
open Go.RowKit
set_option linter.unusedVariables false

/-- What a run panics with when it ends. -/
def overV (v : Nat) : Ending := .panicked [{ v := .iface 123 (.agg #[.int .u32 (v : Nat)]), recovered := false }]

set_option maxRecDepth 100000 in
set_option maxHeartbeats 1000000 in
theorem other_any (i : I) (f d : Nat) (g : Nat) (b : Value) (s : Vs) (hs : s.Ok) (st : Nat) (ld : Value) (w : World) (hr : RowK w g 121 23 (runC b s st ld)) :
    Calls Tryz.prog 83 #[.pointer (some ⟨g, 0, none⟩), opA i f d (kx i)] w fun e w' => e = .returned (.int .u32 (othN i s : Nat)) ∧ Below w.heap.size w w' := by
  have c3 := hr.cell (k := 3) rfl
  have hgl := hr.lt
  have ho : othN i s = if kx i = true then s.x else i.k := rfl
  generalize kx i = x at *
  obtain ⟨xc, xt, xf, xk⟩ := i
  simp only at ho
  unfold opA
  simp only
  clear hr
  cases x with
  | true =>
    rw [if_pos rfl] at ho
    have HO := Lib.hid ho
    clear ho
    go_enter Tryz.func83, Tryz.ntmps83
    go_wp2_with fail
    go_ret
    refine ⟨?_, (Below.refl _ w).alloc (Nat.le_refl _) _⟩
    rw [HO.out]; rfl
  | false =>
    rw [if_neg (by simp)] at ho
    have HO := Lib.hid ho
    clear ho
    go_enter Tryz.func83, Tryz.ntmps83
    go_wp2_with fail
    go_ret
    refine ⟨?_, (Below.refl _ w).alloc (Nat.le_refl _) _⟩
    rw [HO.out]; rfl

set_option maxRecDepth 100000 in
set_option maxHeartbeats 1000000 in
theorem retK_any (i : I) (f d : Nat) (x : Bool) (g : Nat) (w : World) :
    Calls Tryz.prog 81 #[.pointer (some ⟨g, 0, none⟩), opA i f d x] w fun e w' => e = overV i.k ∧ Below w.heap.size w w' := by
  obtain ⟨xc, xt, xf, xk⟩ := i
  unfold opA
  simp only
  go_enter Tryz.func81, Tryz.ntmps81
  go_wp2_with fail
  exact ⟨rfl, rfl, (Below.refl _ w).alloc (Nat.le_refl _) _⟩
set_option maxRecDepth 100000 in
set_option maxHeartbeats 1000000 in
theorem retA_any (i : I) (f d : Nat) (x : Bool) (g : Nat) (b : Value) (s : Vs) (st : Nat) (ld : Value) (w : World) (hr : RowK w g 121 23 (runC b s st ld)) :
    Calls Tryz.prog 82 #[.pointer (some ⟨g, 0, none⟩), opA i f d x] w fun e w' => e = overV s.a ∧ Below w.heap.size w w' := by
  have c2 := hr.cell (k := 2) rfl
  have hgl := hr.lt
  clear hr
  obtain ⟨xc, xt, xf, xk⟩ := i
  unfold opA
  simp only
  go_enter Tryz.func82, Tryz.ntmps82
  go_wp2_with fail
  exact ⟨rfl, rfl, (Below.refl _ w).alloc (Nat.le_refl _) _⟩

set_option maxRecDepth 100000 in
set_option maxHeartbeats 2000000 in
theorem branch_any (i : I) (hi : i.Ok) (f : Nat) (hk : 25 ≤ kd i) (g : Nat) (b : Value) (s : Vs) (hs : s.Ok) (hat : s.at_ ≤ 1000000) (st : Nat) (ld : Value) (w : World) (hr : RowK w g 121 23 (runC b s st ld)) :
    Calls Tryz.prog 43 #[.pointer (some ⟨g, 0, none⟩), opA i f (kd i) (kx i)] w fun e w' => e = .returned (.tuple #[]) ∧ RowK w' g 121 23 (runC b { s with at_ := s.at_ + if isN (kd i) s.a (othN i s) = true then i.jt else i.jf } st ld) ∧ ButG g w w' := by
  have hk4 : kd i = 25 ∨ kd i = 26 ∨ kd i = 27 ∨ kd i = 28 := by have := kd_le i; omega
  have hoth := fun W h => other_any i f (kd i) g b s hs st ld W h
  have hon : othN i s < 4294967296 := by unfold othN; split; exact hs.x; exact hi.2.2.2
  have ha := hs.a
  have hgl := hr.lt
  obtain ⟨o1, o2, o3, o4⟩ := hi
  have hand := u32_and_nat s.a (othN i s) ha hon
  generalize othN i s = n at *
  generalize kx i = x at *
  generalize hd : kd i = d at *
  clear hd
  obtain ⟨xc, xt, xf, xk⟩ := i
  simp only at o1 o2 o3 o4
  unfold opA at hoth ⊢
  simp only at hoth ⊢
  have HOTH := Lib.hid hoth
  have HR := Lib.hid hr
  have HAND := Lib.hid hand
  clear hoth hr hand hk
  rcases hk4 with rfl | rfl | rfl | rfl
  · by_cases hc : s.a = n
    · have q : ((s.a : Int) == (n : Int)) = true := by simp [hc]
      have hsel : isN 25 s.a n = true := by unfold isN; simp; omega
      have HSEL := Lib.hid hsel
      clear hsel hc
      go_enter Tryz.func43, Tryz.ntmps43
      go_wp2_with fail
      refine (HOTH.out _ (HR.out.alloc _)).mono ?_
      rintro e w1 ⟨rfl, hB1⟩
      have hri := (RowK.new w 117 #[.int .u16 xc, .int .u8 xt, .int .u8 xf, .int .u32 xk, .func (.func f) #[] #[], .int .i64 (25 : Nat), .bool x] [.int .u16 xc, .int .u8 xt, .int .u8 xf, .int .u32 xk, .func (.func f) #[] #[], .int .i64 (25 : Nat), .bool x] rfl).below hB1 (by simp)
      have hr1 := (HR.out.alloc (.cells #[.int .u16 xc, .int .u8 xt, .int .u8 xf, .int .u32 xk, .func (.func f) #[] #[], .int .i64 (25 : Nat), .bool x] 117)).below hB1 (by simp; omega)
      have bg1 := ((ButG.refl g w).alloc (.cells #[.int .u16 xc, .int .u8 xt, .int .u8 xf, .int .u32 xk, .func (.func f) #[] #[], .int .i64 (25 : Nat), .bool x] 117)).trans (.of_below hB1)
      have g1 := hri.cell (k := 1) rfl
      have g2 := hri.cell (k := 2) rfl
      have g5 := hri.cell (k := 5) rfl
      have c1 := hr1.cell (k := 1) rfl
      have c2 := hr1.cell (k := 2) rfl
      have f1 := hr1.frozen 1
      have hgl1 := hr1.lt
      have HR1 := Lib.hid hr1
      have BG1 := Lib.hid bg1
      clear hri hr1 bg1 hB1 HOTH HR
      go_wp2_with fail
      go_region
      all_goals
        first | go_end0 | (go_wp2_with fail; refine bodyPost_ret (results_none rfl _ _ _) rfl ?_)
        refine ⟨rfl, ?_, ?_⟩
        · first | rw [HSEL.out] | skip
          show RowK _ g _ 23 (runC b { s with at_ := s.at_ + xt } st ld)
          exact HR1.out.set_ 1 (.int .i64 (s.at_ + xt : Nat))
        · first
            | exact BG1.out.setCell rfl _
            | exact (BG1.out.drew).setCell rfl _
            | exact (BG1.out.setCell rfl _).drew
            | exact (BG1.out.drewN _).setCell rfl _
    · have q : ((s.a : Int) == (n : Int)) = false := by simp; omega
      have hsel : isN 25 s.a n = false := by unfold isN; simp; omega
      have HSEL := Lib.hid hsel
      clear hsel hc
      go_enter Tryz.func43, Tryz.ntmps43
      go_wp2_with fail
      refine (HOTH.out _ (HR.out.alloc _)).mono ?_
      rintro e w1 ⟨rfl, hB1⟩
      have hri := (RowK.new w 117 #[.int .u16 xc, .int .u8 xt, .int .u8 xf, .int .u32 xk, .func (.func f) #[] #[], .int .i64 (25 : Nat), .bool x] [.int .u16 xc, .int .u8 xt, .int .u8 xf, .int .u32 xk, .func (.func f) #[] #[], .int .i64 (25 : Nat), .bool x] rfl).below hB1 (by simp)
      have hr1 := (HR.out.alloc (.cells #[.int .u16 xc, .int .u8 xt, .int .u8 xf, .int .u32 xk, .func (.func f) #[] #[], .int .i64 (25 : Nat), .bool x] 117)).below hB1 (by simp; omega)
      have bg1 := ((ButG.refl g w).alloc (.cells #[.int .u16 xc, .int .u8 xt, .int .u8 xf, .int .u32 xk, .func (.func f) #[] #[], .int .i64 (25 : Nat), .bool x] 117)).trans (.of_below hB1)
      have g1 := hri.cell (k := 1) rfl
      have g2 := hri.cell (k := 2) rfl
      have g5 := hri.cell (k := 5) rfl
      have c1 := hr1.cell (k := 1) rfl
      have c2 := hr1.cell (k := 2) rfl
      have f1 := hr1.frozen 1
      have hgl1 := hr1.lt
      have HR1 := Lib.hid hr1
      have BG1 := Lib.hid bg1
      clear hri hr1 bg1 hB1 HOTH HR
      go_wp2_with fail
      go_region
      all_goals
        first | go_end0 | (go_wp2_with fail; refine bodyPost_ret (results_none rfl _ _ _) rfl ?_)
        refine ⟨rfl, ?_, ?_⟩
        · first | rw [HSEL.out] | skip
          show RowK _ g _ 23 (runC b { s with at_ := s.at_ + xf } st ld)
          exact HR1.out.set_ 1 (.int .i64 (s.at_ + xf : Nat))
        · first
            | exact BG1.out.setCell rfl _
            | exact (BG1.out.drew).setCell rfl _
            | exact (BG1.out.setCell rfl _).drew
            | exact (BG1.out.drewN _).setCell rfl _
  · by_cases hc : n < s.a
    · have q : (n : Int) < (s.a : Int) := by omega
      have hsel : isN 26 s.a n = true := by unfold isN; simp; omega
      have HSEL := Lib.hid hsel
      clear hsel hc
      go_enter Tryz.func43, Tryz.ntmps43
      go_wp2_with fail
      refine (HOTH.out _ (HR.out.alloc _)).mono ?_
      rintro e w1 ⟨rfl, hB1⟩
      have hri := (RowK.new w 117 #[.int .u16 xc, .int .u8 xt, .int .u8 xf, .int .u32 xk, .func (.func f) #[] #[], .int .i64 (26 : Nat), .bool x] [.int .u16 xc, .int .u8 xt, .int .u8 xf, .int .u32 xk, .func (.func f) #[] #[], .int .i64 (26 : Nat), .bool x] rfl).below hB1 (by simp)
      have hr1 := (HR.out.alloc (.cells #[.int .u16 xc, .int .u8 xt, .int .u8 xf, .int .u32 xk, .func (.func f) #[] #[], .int .i64 (26 : Nat), .bool x] 117)).below hB1 (by simp; omega)
      have bg1 := ((ButG.refl g w).alloc (.cells #[.int .u16 xc, .int .u8 xt, .int .u8 xf, .int .u32 xk, .func (.func f) #[] #[], .int .i64 (26 : Nat), .bool x] 117)).trans (.of_below hB1)
      have g1 := hri.cell (k := 1) rfl
      have g2 := hri.cell (k := 2) rfl
      have g5 := hri.cell (k := 5) rfl
      have c1 := hr1.cell (k := 1) rfl
      have c2 := hr1.cell (k := 2) rfl
      have f1 := hr1.frozen 1
      have hgl1 := hr1.lt
      have HR1 := Lib.hid hr1
      have BG1 := Lib.hid bg1
      clear hri hr1 bg1 hB1 HOTH HR
      go_wp2_with fail
      go_region
      all_goals
        first | go_end0 | (go_wp2_with fail; refine bodyPost_ret (results_none rfl _ _ _) rfl ?_)
        refine ⟨rfl, ?_, ?_⟩
        · first | rw [HSEL.out] | skip
          show RowK _ g _ 23 (runC b { s with at_ := s.at_ + xt } st ld)
          exact HR1.out.set_ 1 (.int .i64 (s.at_ + xt : Nat))
        · first
            | exact BG1.out.setCell rfl _
            | exact (BG1.out.drew).setCell rfl _
            | exact (BG1.out.setCell rfl _).drew
            | exact (BG1.out.drewN _).setCell rfl _
    · have q : ¬ (n : Int) < (s.a : Int) := by omega
      have hsel : isN 26 s.a n = false := by unfold isN; simp; omega
      have HSEL := Lib.hid hsel
      clear hsel hc
      go_enter Tryz.func43, Tryz.ntmps43
      go_wp2_with fail
      refine (HOTH.out _ (HR.out.alloc _)).mono ?_
      rintro e w1 ⟨rfl, hB1⟩
      have hri := (RowK.new w 117 #[.int .u16 xc, .int .u8 xt, .int .u8 xf, .int .u32 xk, .func (.func f) #[] #[], .int .i64 (26 : Nat), .bool x] [.int .u16 xc, .int .u8 xt, .int .u8 xf, .int .u32 xk, .func (.func f) #[] #[], .int .i64 (26 : Nat), .bool x] rfl).below hB1 (by simp)
      have hr1 := (HR.out.alloc (.cells #[.int .u16 xc, .int .u8 xt, .int .u8 xf, .int .u32 xk, .func (.func f) #[] #[], .int .i64 (26 : Nat), .bool x] 117)).below hB1 (by simp; omega)
      have bg1 := ((ButG.refl g w).alloc (.cells #[.int .u16 xc, .int .u8 xt, .int .u8 xf, .int .u32 xk, .func (.func f) #[] #[], .int .i64 (26 : Nat), .bool x] 117)).trans (.of_below hB1)
      have g1 := hri.cell (k := 1) rfl
      have g2 := hri.cell (k := 2) rfl
      have g5 := hri.cell (k := 5) rfl
      have c1 := hr1.cell (k := 1) rfl
      have c2 := hr1.cell (k := 2) rfl
      have f1 := hr1.frozen 1
      have hgl1 := hr1.lt
      have HR1 := Lib.hid hr1
      have BG1 := Lib.hid bg1
      clear hri hr1 bg1 hB1 HOTH HR
      go_wp2_with fail
      go_region
      all_goals
        first | go_end0 | (go_wp2_with fail; refine bodyPost_ret (results_none rfl _ _ _) rfl ?_)
        refine ⟨rfl, ?_, ?_⟩
        · first | rw [HSEL.out] | skip
          show RowK _ g _ 23 (runC b { s with at_ := s.at_ + xf } st ld)
          exact HR1.out.set_ 1 (.int .i64 (s.at_ + xf : Nat))
        · first
            | exact BG1.out.setCell rfl _
            | exact (BG1.out.drew).setCell rfl _
            | exact (BG1.out.setCell rfl _).drew
            | exact (BG1.out.drewN _).setCell rfl _
  · by_cases hc : n ≤ s.a
    · have q : (n : Int) ≤ (s.a : Int) := by omega
      have hsel : isN 27 s.a n = true := by unfold isN; simp; omega
      have HSEL := Lib.hid hsel
      clear hsel hc
      go_enter Tryz.func43, Tryz.ntmps43
      go_wp2_with fail
      refine (HOTH.out _ (HR.out.alloc _)).mono ?_
      rintro e w1 ⟨rfl, hB1⟩
      have hri := (RowK.new w 117 #[.int .u16 xc, .int .u8 xt, .int .u8 xf, .int .u32 xk, .func (.func f) #[] #[], .int .i64 (27 : Nat), .bool x] [.int .u16 xc, .int .u8 xt, .int .u8 xf, .int .u32 xk, .func (.func f) #[] #[], .int .i64 (27 : Nat), .bool x] rfl).below hB1 (by simp)
      have hr1 := (HR.out.alloc (.cells #[.int .u16 xc, .int .u8 xt, .int .u8 xf, .int .u32 xk, .func (.func f) #[] #[], .int .i64 (27 : Nat), .bool x] 117)).below hB1 (by simp; omega)
      have bg1 := ((ButG.refl g w).alloc (.cells #[.int .u16 xc, .int .u8 xt, .int .u8 xf, .int .u32 xk, .func (.func f) #[] #[], .int .i64 (27 : Nat), .bool x] 117)).trans (.of_below hB1)
      have g1 := hri.cell (k := 1) rfl
      have g2 := hri.cell (k := 2) rfl
      have g5 := hri.cell (k := 5) rfl
      have c1 := hr1.cell (k := 1) rfl
      have c2 := hr1.cell (k := 2) rfl
      have f1 := hr1.frozen 1
      have hgl1 := hr1.lt
      have HR1 := Lib.hid hr1
      have BG1 := Lib.hid bg1
      clear hri hr1 bg1 hB1 HOTH HR
      go_wp2_with fail
      go_region
      all_goals
        first | go_end0 | (go_wp2_with fail; refine bodyPost_ret (results_none rfl _ _ _) rfl ?_)
        refine ⟨rfl, ?_, ?_⟩
        · first | rw [HSEL.out] | skip
          show RowK _ g _ 23 (runC b { s with at_ := s.at_ + xt } st ld)
          exact HR1.out.set_ 1 (.int .i64 (s.at_ + xt : Nat))
        · first
            | exact BG1.out.setCell rfl _
            | exact (BG1.out.drew).setCell rfl _
            | exact (BG1.out.setCell rfl _).drew
            | exact (BG1.out.drewN _).setCell rfl _
    · have q : ¬ (n : Int) ≤ (s.a : Int) := by omega
      have hsel : isN 27 s.a n = false := by unfold isN; simp; omega
      have HSEL := Lib.hid hsel
      clear hsel hc
      go_enter Tryz.func43, Tryz.ntmps43
      go_wp2_with fail
      refine (HOTH.out _ (HR.out.alloc _)).mono ?_
      rintro e w1 ⟨rfl, hB1⟩
      have hri := (RowK.new w 117 #[.int .u16 xc, .int .u8 xt, .int .u8 xf, .int .u32 xk, .func (.func f) #[] #[], .int .i64 (27 : Nat), .bool x] [.int .u16 xc, .int .u8 xt, .int .u8 xf, .int .u32 xk, .func (.func f) #[] #[], .int .i64 (27 : Nat), .bool x] rfl).below hB1 (by simp)
      have hr1 := (HR.out.alloc (.cells #[.int .u16 xc, .int .u8 xt, .int .u8 xf, .int .u32 xk, .func (.func f) #[] #[], .int .i64 (27 : Nat), .bool x] 117)).below hB1 (by simp; omega)
      have bg1 := ((ButG.refl g w).alloc (.cells #[.int .u16 xc, .int .u8 xt, .int .u8 xf, .int .u32 xk, .func (.func f) #[] #[], .int .i64 (27 : Nat), .bool x] 117)).trans (.of_below hB1)
      have g1 := hri.cell (k := 1) rfl
      have g2 := hri.cell (k := 2) rfl
      have g5 := hri.cell (k := 5) rfl
      have c1 := hr1.cell (k := 1) rfl
      have c2 := hr1.cell (k := 2) rfl
      have f1 := hr1.frozen 1
      have hgl1 := hr1.lt
      have HR1 := Lib.hid hr1
      have BG1 := Lib.hid bg1
      clear hri hr1 bg1 hB1 HOTH HR
      go_wp2_with fail
      go_region
      all_goals
        first | go_end0 | (go_wp2_with fail; refine bodyPost_ret (results_none rfl _ _ _) rfl ?_)
        refine ⟨rfl, ?_, ?_⟩
        · first | rw [HSEL.out] | skip
          show RowK _ g _ 23 (runC b { s with at_ := s.at_ + xf } st ld)
          exact HR1.out.set_ 1 (.int .i64 (s.at_ + xf : Nat))
        · first
            | exact BG1.out.setCell rfl _
            | exact (BG1.out.drew).setCell rfl _
            | exact (BG1.out.setCell rfl _).drew
            | exact (BG1.out.drewN _).setCell rfl _
  · by_cases hc : s.a &&& n ≠ 0
    · have q : (bits .and .u32 (s.a : Int) (n : Int) != 0) = true := by rw [HAND.out]; simp; omega
      have hsel : isN 28 s.a n = true := by unfold isN; simp; omega
      have HSEL := Lib.hid hsel
      clear hsel hc
      go_enter Tryz.func43, Tryz.ntmps43
      go_wp2_with fail
      refine (HOTH.out _ (HR.out.alloc _)).mono ?_
      rintro e w1 ⟨rfl, hB1⟩
      have hri := (RowK.new w 117 #[.int .u16 xc, .int .u8 xt, .int .u8 xf, .int .u32 xk, .func (.func f) #[] #[], .int .i64 (28 : Nat), .bool x] [.int .u16 xc, .int .u8 xt, .int .u8 xf, .int .u32 xk, .func (.func f) #[] #[], .int .i64 (28 : Nat), .bool x] rfl).below hB1 (by simp)
      have hr1 := (HR.out.alloc (.cells #[.int .u16 xc, .int .u8 xt, .int .u8 xf, .int .u32 xk, .func (.func f) #[] #[], .int .i64 (28 : Nat), .bool x] 117)).below hB1 (by simp; omega)
      have bg1 := ((ButG.refl g w).alloc (.cells #[.int .u16 xc, .int .u8 xt, .int .u8 xf, .int .u32 xk, .func (.func f) #[] #[], .int .i64 (28 : Nat), .bool x] 117)).trans (.of_below hB1)
      have g1 := hri.cell (k := 1) rfl
      have g2 := hri.cell (k := 2) rfl
      have g5 := hri.cell (k := 5) rfl
      have c1 := hr1.cell (k := 1) rfl
      have c2 := hr1.cell (k := 2) rfl
      have f1 := hr1.frozen 1
      have hgl1 := hr1.lt
      have HR1 := Lib.hid hr1
      have BG1 := Lib.hid bg1
      clear hri hr1 bg1 hB1 HOTH HR
      go_wp2_with fail
      go_region
      all_goals
        first | go_end0 | (go_wp2_with fail; refine bodyPost_ret (results_none rfl _ _ _) rfl ?_)
        refine ⟨rfl, ?_, ?_⟩
        · first | rw [HSEL.out] | skip
          show RowK _ g _ 23 (runC b { s with at_ := s.at_ + xt } st ld)
          exact HR1.out.set_ 1 (.int .i64 (s.at_ + xt : Nat))
        · first
            | exact BG1.out.setCell rfl _
            | exact (BG1.out.drew).setCell rfl _
            | exact (BG1.out.setCell rfl _).drew
            | exact (BG1.out.drewN _).setCell rfl _
    · have q : (bits .and .u32 (s.a : Int) (n : Int) != 0) = false := by rw [HAND.out]; simp; omega
      have hsel : isN 28 s.a n = false := by unfold isN; simp; omega
      have HSEL := Lib.hid hsel
      clear hsel hc
      go_enter Tryz.func43, Tryz.ntmps43
      go_wp2_with fail
      refine (HOTH.out _ (HR.out.alloc _)).mono ?_
      rintro e w1 ⟨rfl, hB1⟩
      have hri := (RowK.new w 117 #[.int .u16 xc, .int .u8 xt, .int .u8 xf, .int .u32 xk, .func (.func f) #[] #[], .int .i64 (28 : Nat), .bool x] [.int .u16 xc, .int .u8 xt, .int .u8 xf, .int .u32 xk, .func (.func f) #[] #[], .int .i64 (28 : Nat), .bool x] rfl).below hB1 (by simp)
      have hr1 := (HR.out.alloc (.cells #[.int .u16 xc, .int .u8 xt, .int .u8 xf, .int .u32 xk, .func (.func f) #[] #[], .int .i64 (28 : Nat), .bool x] 117)).below hB1 (by simp; omega)
      have bg1 := ((ButG.refl g w).alloc (.cells #[.int .u16 xc, .int .u8 xt, .int .u8 xf, .int .u32 xk, .func (.func f) #[] #[], .int .i64 (28 : Nat), .bool x] 117)).trans (.of_below hB1)
      have g1 := hri.cell (k := 1) rfl
      have g2 := hri.cell (k := 2) rfl
      have g5 := hri.cell (k := 5) rfl
      have c1 := hr1.cell (k := 1) rfl
      have c2 := hr1.cell (k := 2) rfl
      have f1 := hr1.frozen 1
      have hgl1 := hr1.lt
      have HR1 := Lib.hid hr1
      have BG1 := Lib.hid bg1
      clear hri hr1 bg1 hB1 HOTH HR
      go_wp2_with fail
      go_region
      all_goals
        first | go_end0 | (go_wp2_with fail; refine bodyPost_ret (results_none rfl _ _ _) rfl ?_)
        refine ⟨rfl, ?_, ?_⟩
        · first | rw [HSEL.out] | skip
          show RowK _ g _ 23 (runC b { s with at_ := s.at_ + xf } st ld)
          exact HR1.out.set_ 1 (.int .i64 (s.at_ + xf : Nat))
        · first
            | exact BG1.out.setCell rfl _
            | exact (BG1.out.drew).setCell rfl _
            | exact (BG1.out.setCell rfl _).drew
            | exact (BG1.out.drewN _).setCell rfl _
end Go.Proofs.YtpinnockcnmofaaGreatDoor

/-! The walk of a machine's deed that reckons. -/
namespace Go.Proofs.YtpinnockcnmofaaGreatDoor
open Go.RowKit
set_option linter.unusedVariables false

set_option maxRecDepth 100000 in
set_option maxHeartbeats 2000000 in
theorem reckon_any (i : I) (s : Vs) (hi : i.Ok) (f : Nat) (hk : 16 ≤ kd i) (hk2 : kd i ≤ 24) (hz : ¬ (kd i = 19 ∧ othN i s = 0)) (g : Nat) (b : Value) (st : Nat) (ld : Value) (w : World) (hs : s.Ok) (hr : RowK w g 121 23 (runC b s st ld)) :
    Calls Tryz.prog 44 #[.pointer (some ⟨g, 0, none⟩), opA i f (kd i) (kx i)] w fun e w' => e = .returned (.tuple #[]) ∧ RowK w' g 121 23 (runC b { s with a := reckN (kd i) s.a (othN i s) } st ld) ∧ ButG g w w' := by
  have hk9 : kd i = 16 ∨ kd i = 17 ∨ kd i = 18 ∨ kd i = 19 ∨ kd i = 20 ∨ kd i = 21 ∨ kd i = 22 ∨ kd i = 23 ∨ kd i = 24 := by omega
  have hoth := fun W h => other_any i f (kd i) g b s hs st ld W h
  have hon : othN i s < 4294967296 := by unfold othN; split; exact hs.x; exact hi.2.2.2
  have ha := hs.a
  have hgl := hr.lt
  have hand := u32_and_nat s.a (othN i s) ha hon
  have hor := u32_or_nat s.a (othN i s) ha hon
  have hxor := u32_xor_nat s.a (othN i s) ha hon
  generalize othN i s = n at *
  generalize kx i = x at *
  generalize hd : kd i = d at *
  clear hd hi
  obtain ⟨xc, xt, xf, xk⟩ := i
  unfold opA at hoth ⊢
  simp only at hoth ⊢
  have HOTH := Lib.hid hoth
  have HR := Lib.hid hr
  have HAND := Lib.hid hand
  have HOR := Lib.hid hor
  have HXOR := Lib.hid hxor
  clear hoth hr hand hor hxor hk hk2
  rcases hk9 with rfl | rfl | rfl | rfl | rfl | rfl | rfl | rfl | rfl
  · have hw : IntKind.u32.wrap ((s.a : Int) + (n : Int)) = ((reckN 16 s.a n : Nat) : Int) := by unfold reckN; simp [IntKind.wrap, IntKind.bits, IntKind.signed]
    have HZ := Lib.hid hz
    clear hz
    go_enter Tryz.func44, Tryz.ntmps44
    go_wp2_with fail
    refine (HOTH.out _ (HR.out.alloc _)).mono ?_
    rintro e w1 ⟨rfl, hB1⟩
    have hri := (RowK.new w 117 #[.int .u16 xc, .int .u8 xt, .int .u8 xf, .int .u32 xk, .func (.func f) #[] #[], .int .i64 (16 : Nat), .bool x] [.int .u16 xc, .int .u8 xt, .int .u8 xf, .int .u32 xk, .func (.func f) #[] #[], .int .i64 (16 : Nat), .bool x] rfl).below hB1 (by simp)
    have hr1 := (HR.out.alloc (.cells #[.int .u16 xc, .int .u8 xt, .int .u8 xf, .int .u32 xk, .func (.func f) #[] #[], .int .i64 (16 : Nat), .bool x] 117)).below hB1 (by simp; omega)
    have bg1 := ((ButG.refl g w).alloc (.cells #[.int .u16 xc, .int .u8 xt, .int .u8 xf, .int .u32 xk, .func (.func f) #[] #[], .int .i64 (16 : Nat), .bool x] 117)).trans (.of_below hB1)
    have g5 := hri.cell (k := 5) rfl
    have c2 := hr1.cell (k := 2) rfl
    have f2 := hr1.frozen 2
    have hgl1 := hr1.lt
    have HR1 := Lib.hid hr1
    have BG1 := Lib.hid bg1
    clear hri hr1 bg1 hB1 HOTH HR
    go_wp2_with fail
    go_end0
    refine ⟨rfl, ?_, BG1.out.setCell rfl _⟩
    exact HR1.out.set_ 2 (.int .u32 (reckN 16 s.a n : Nat))
  · have hw : IntKind.u32.wrap ((s.a : Int) - (n : Int)) = ((reckN 17 s.a n : Nat) : Int) := by unfold reckN; simp [IntKind.wrap, IntKind.bits, IntKind.signed]; omega
    have HZ := Lib.hid hz
    clear hz
    go_enter Tryz.func44, Tryz.ntmps44
    go_wp2_with fail
    refine (HOTH.out _ (HR.out.alloc _)).mono ?_
    rintro e w1 ⟨rfl, hB1⟩
    have hri := (RowK.new w 117 #[.int .u16 xc, .int .u8 xt, .int .u8 xf, .int .u32 xk, .func (.func f) #[] #[], .int .i64 (17 : Nat), .bool x] [.int .u16 xc, .int .u8 xt, .int .u8 xf, .int .u32 xk, .func (.func f) #[] #[], .int .i64 (17 : Nat), .bool x] rfl).below hB1 (by simp)
    have hr1 := (HR.out.alloc (.cells #[.int .u16 xc, .int .u8 xt, .int .u8 xf, .int .u32 xk, .func (.func f) #[] #[], .int .i64 (17 : Nat), .bool x] 117)).below hB1 (by simp; omega)
    have bg1 := ((ButG.refl g w).alloc (.cells #[.int .u16 xc, .int .u8 xt, .int .u8 xf, .int .u32 xk, .func (.func f) #[] #[], .int .i64 (17 : Nat), .bool x] 117)).trans (.of_below hB1)
    have g5 := hri.cell (k := 5) rfl
    have c2 := hr1.cell (k := 2) rfl
    have f2 := hr1.frozen 2
    have hgl1 := hr1.lt
    have HR1 := Lib.hid hr1
    have BG1 := Lib.hid bg1
    clear hri hr1 bg1 hB1 HOTH HR
    go_wp2_with fail
    go_end0
    refine ⟨rfl, ?_, BG1.out.setCell rfl _⟩
    exact HR1.out.set_ 2 (.int .u32 (reckN 17 s.a n : Nat))
  · have hw : IntKind.u32.wrap ((s.a : Int) * (n : Int)) = ((reckN 18 s.a n : Nat) : Int) := by unfold reckN; simp [IntKind.wrap, IntKind.bits, IntKind.signed]
    have HZ := Lib.hid hz
    clear hz
    go_enter Tryz.func44, Tryz.ntmps44
    go_wp2_with fail
    refine (HOTH.out _ (HR.out.alloc _)).mono ?_
    rintro e w1 ⟨rfl, hB1⟩
    have hri := (RowK.new w 117 #[.int .u16 xc, .int .u8 xt, .int .u8 xf, .int .u32 xk, .func (.func f) #[] #[], .int .i64 (18 : Nat), .bool x] [.int .u16 xc, .int .u8 xt, .int .u8 xf, .int .u32 xk, .func (.func f) #[] #[], .int .i64 (18 : Nat), .bool x] rfl).below hB1 (by simp)
    have hr1 := (HR.out.alloc (.cells #[.int .u16 xc, .int .u8 xt, .int .u8 xf, .int .u32 xk, .func (.func f) #[] #[], .int .i64 (18 : Nat), .bool x] 117)).below hB1 (by simp; omega)
    have bg1 := ((ButG.refl g w).alloc (.cells #[.int .u16 xc, .int .u8 xt, .int .u8 xf, .int .u32 xk, .func (.func f) #[] #[], .int .i64 (18 : Nat), .bool x] 117)).trans (.of_below hB1)
    have g5 := hri.cell (k := 5) rfl
    have c2 := hr1.cell (k := 2) rfl
    have f2 := hr1.frozen 2
    have hgl1 := hr1.lt
    have HR1 := Lib.hid hr1
    have BG1 := Lib.hid bg1
    clear hri hr1 bg1 hB1 HOTH HR
    go_wp2_with fail
    go_end0
    refine ⟨rfl, ?_, BG1.out.setCell rfl _⟩
    exact HR1.out.set_ 2 (.int .u32 (reckN 18 s.a n : Nat))
  · have hn0 : ¬ n = 0 := fun h => hz ⟨rfl, h⟩
    have hn1 : ((n : Int) == 0) = false := by simp; omega
    have hn2 : ¬ (n : Int) = 0 := by omega
    have hw : (s.a : Int) / (n : Int) % 4294967296 = ((reckN 19 s.a n : Nat) : Int) := by
      have h1 : s.a / n ≤ s.a := Nat.div_le_self _ _
      have h2 : ((s.a / n : Nat) : Int) = (s.a : Int) / (n : Int) := Int.natCast_ediv _ _
      have h3 : (0 : Int) ≤ (s.a : Int) / (n : Int) := Int.ediv_nonneg (by omega) (by omega)
      unfold reckN
      simp; omega
    have HZ := Lib.hid hz
    clear hz
    go_enter Tryz.func44, Tryz.ntmps44
    go_wp2_with fail
    refine (HOTH.out _ (HR.out.alloc _)).mono ?_
    rintro e w1 ⟨rfl, hB1⟩
    have hri := (RowK.new w 117 #[.int .u16 xc, .int .u8 xt, .int .u8 xf, .int .u32 xk, .func (.func f) #[] #[], .int .i64 (19 : Nat), .bool x] [.int .u16 xc, .int .u8 xt, .int .u8 xf, .int .u32 xk, .func (.func f) #[] #[], .int .i64 (19 : Nat), .bool x] rfl).below hB1 (by simp)
    have hr1 := (HR.out.alloc (.cells #[.int .u16 xc, .int .u8 xt, .int .u8 xf, .int .u32 xk, .func (.func f) #[] #[], .int .i64 (19 : Nat), .bool x] 117)).below hB1 (by simp; omega)
    have bg1 := ((ButG.refl g w).alloc (.cells #[.int .u16 xc, .int .u8 xt, .int .u8 xf, .int .u32 xk, .func (.func f) #[] #[], .int .i64 (19 : Nat), .bool x] 117)).trans (.of_below hB1)
    have g5 := hri.cell (k := 5) rfl
    have c2 := hr1.cell (k := 2) rfl
    have f2 := hr1.frozen 2
    have hgl1 := hr1.lt
    have HR1 := Lib.hid hr1
    have BG1 := Lib.hid bg1
    clear hri hr1 bg1 hB1 HOTH HR
    go_wp2_with fail
    go_end0
    refine ⟨rfl, ?_, BG1.out.setCell rfl _⟩
    exact HR1.out.set_ 2 (.int .u32 (reckN 19 s.a n : Nat))
  · have hw := HOR.out
    have HZ := Lib.hid hz
    clear hz
    go_enter Tryz.func44, Tryz.ntmps44
    go_wp2_with fail
    refine (HOTH.out _ (HR.out.alloc _)).mono ?_
    rintro e w1 ⟨rfl, hB1⟩
    have hri := (RowK.new w 117 #[.int .u16 xc, .int .u8 xt, .int .u8 xf, .int .u32 xk, .func (.func f) #[] #[], .int .i64 (20 : Nat), .bool x] [.int .u16 xc, .int .u8 xt, .int .u8 xf, .int .u32 xk, .func (.func f) #[] #[], .int .i64 (20 : Nat), .bool x] rfl).below hB1 (by simp)
    have hr1 := (HR.out.alloc (.cells #[.int .u16 xc, .int .u8 xt, .int .u8 xf, .int .u32 xk, .func (.func f) #[] #[], .int .i64 (20 : Nat), .bool x] 117)).below hB1 (by simp; omega)
    have bg1 := ((ButG.refl g w).alloc (.cells #[.int .u16 xc, .int .u8 xt, .int .u8 xf, .int .u32 xk, .func (.func f) #[] #[], .int .i64 (20 : Nat), .bool x] 117)).trans (.of_below hB1)
    have g5 := hri.cell (k := 5) rfl
    have c2 := hr1.cell (k := 2) rfl
    have f2 := hr1.frozen 2
    have hgl1 := hr1.lt
    have HR1 := Lib.hid hr1
    have BG1 := Lib.hid bg1
    clear hri hr1 bg1 hB1 HOTH HR
    go_wp2_with fail
    go_end0
    refine ⟨rfl, ?_, BG1.out.setCell rfl _⟩
    exact HR1.out.set_ 2 (.int .u32 (reckN 20 s.a n : Nat))
  · have hw := HAND.out
    have HZ := Lib.hid hz
    clear hz
    go_enter Tryz.func44, Tryz.ntmps44
    go_wp2_with fail
    refine (HOTH.out _ (HR.out.alloc _)).mono ?_
    rintro e w1 ⟨rfl, hB1⟩
    have hri := (RowK.new w 117 #[.int .u16 xc, .int .u8 xt, .int .u8 xf, .int .u32 xk, .func (.func f) #[] #[], .int .i64 (21 : Nat), .bool x] [.int .u16 xc, .int .u8 xt, .int .u8 xf, .int .u32 xk, .func (.func f) #[] #[], .int .i64 (21 : Nat), .bool x] rfl).below hB1 (by simp)
    have hr1 := (HR.out.alloc (.cells #[.int .u16 xc, .int .u8 xt, .int .u8 xf, .int .u32 xk, .func (.func f) #[] #[], .int .i64 (21 : Nat), .bool x] 117)).below hB1 (by simp; omega)
    have bg1 := ((ButG.refl g w).alloc (.cells #[.int .u16 xc, .int .u8 xt, .int .u8 xf, .int .u32 xk, .func (.func f) #[] #[], .int .i64 (21 : Nat), .bool x] 117)).trans (.of_below hB1)
    have g5 := hri.cell (k := 5) rfl
    have c2 := hr1.cell (k := 2) rfl
    have f2 := hr1.frozen 2
    have hgl1 := hr1.lt
    have HR1 := Lib.hid hr1
    have BG1 := Lib.hid bg1
    clear hri hr1 bg1 hB1 HOTH HR
    go_wp2_with fail
    go_end0
    refine ⟨rfl, ?_, BG1.out.setCell rfl _⟩
    exact HR1.out.set_ 2 (.int .u32 (reckN 21 s.a n : Nat))
  · have hc0 : (0 : Int) ≤ (n : Int) % 32 := by omega
    have hc1 : (n : Int) % 32 < 32 := by omega
    have HZ := Lib.hid hz
    clear hz
    go_enter Tryz.func44, Tryz.ntmps44
    go_wp2_with fail
    refine (HOTH.out _ (HR.out.alloc _)).mono ?_
    rintro e w1 ⟨rfl, hB1⟩
    have hri := (RowK.new w 117 #[.int .u16 xc, .int .u8 xt, .int .u8 xf, .int .u32 xk, .func (.func f) #[] #[], .int .i64 (22 : Nat), .bool x] [.int .u16 xc, .int .u8 xt, .int .u8 xf, .int .u32 xk, .func (.func f) #[] #[], .int .i64 (22 : Nat), .bool x] rfl).below hB1 (by simp)
    have hr1 := (HR.out.alloc (.cells #[.int .u16 xc, .int .u8 xt, .int .u8 xf, .int .u32 xk, .func (.func f) #[] #[], .int .i64 (22 : Nat), .bool x] 117)).below hB1 (by simp; omega)
    have bg1 := ((ButG.refl g w).alloc (.cells #[.int .u16 xc, .int .u8 xt, .int .u8 xf, .int .u32 xk, .func (.func f) #[] #[], .int .i64 (22 : Nat), .bool x] 117)).trans (.of_below hB1)
    have g5 := hri.cell (k := 5) rfl
    have c2 := hr1.cell (k := 2) rfl
    have f2 := hr1.frozen 2
    have hgl1 := hr1.lt
    have HR1 := Lib.hid hr1
    have BG1 := Lib.hid bg1
    clear hri hr1 bg1 hB1 HOTH HR
    go_wp2_with fail
    go_end0
    refine ⟨rfl, ?_, BG1.out.setCell rfl _⟩
    exact HR1.out.set_ 2 (.int .u32 (reckN 22 s.a n : Nat))
  · have hc0 : (0 : Int) ≤ (n : Int) % 32 := by omega
    have hc1 : (n : Int) % 32 < 32 := by omega
    have HZ := Lib.hid hz
    clear hz
    go_enter Tryz.func44, Tryz.ntmps44
    go_wp2_with fail
    refine (HOTH.out _ (HR.out.alloc _)).mono ?_
    rintro e w1 ⟨rfl, hB1⟩
    have hri := (RowK.new w 117 #[.int .u16 xc, .int .u8 xt, .int .u8 xf, .int .u32 xk, .func (.func f) #[] #[], .int .i64 (23 : Nat), .bool x] [.int .u16 xc, .int .u8 xt, .int .u8 xf, .int .u32 xk, .func (.func f) #[] #[], .int .i64 (23 : Nat), .bool x] rfl).below hB1 (by simp)
    have hr1 := (HR.out.alloc (.cells #[.int .u16 xc, .int .u8 xt, .int .u8 xf, .int .u32 xk, .func (.func f) #[] #[], .int .i64 (23 : Nat), .bool x] 117)).below hB1 (by simp; omega)
    have bg1 := ((ButG.refl g w).alloc (.cells #[.int .u16 xc, .int .u8 xt, .int .u8 xf, .int .u32 xk, .func (.func f) #[] #[], .int .i64 (23 : Nat), .bool x] 117)).trans (.of_below hB1)
    have g5 := hri.cell (k := 5) rfl
    have c2 := hr1.cell (k := 2) rfl
    have f2 := hr1.frozen 2
    have hgl1 := hr1.lt
    have HR1 := Lib.hid hr1
    have BG1 := Lib.hid bg1
    clear hri hr1 bg1 hB1 HOTH HR
    go_wp2_with fail
    go_end0
    refine ⟨rfl, ?_, BG1.out.setCell rfl _⟩
    exact HR1.out.set_ 2 (.int .u32 (reckN 23 s.a n : Nat))
  · have hw := HXOR.out
    have HZ := Lib.hid hz
    clear hz
    go_enter Tryz.func44, Tryz.ntmps44
    go_wp2_with fail
    refine (HOTH.out _ (HR.out.alloc _)).mono ?_
    rintro e w1 ⟨rfl, hB1⟩
    have hri := (RowK.new w 117 #[.int .u16 xc, .int .u8 xt, .int .u8 xf, .int .u32 xk, .func (.func f) #[] #[], .int .i64 (24 : Nat), .bool x] [.int .u16 xc, .int .u8 xt, .int .u8 xf, .int .u32 xk, .func (.func f) #[] #[], .int .i64 (24 : Nat), .bool x] rfl).below hB1 (by simp)
    have hr1 := (HR.out.alloc (.cells #[.int .u16 xc, .int .u8 xt, .int .u8 xf, .int .u32 xk, .func (.func f) #[] #[], .int .i64 (24 : Nat), .bool x] 117)).below hB1 (by simp; omega)
    have bg1 := ((ButG.refl g w).alloc (.cells #[.int .u16 xc, .int .u8 xt, .int .u8 xf, .int .u32 xk, .func (.func f) #[] #[], .int .i64 (24 : Nat), .bool x] 117)).trans (.of_below hB1)
    have g5 := hri.cell (k := 5) rfl
    have c2 := hr1.cell (k := 2) rfl
    have f2 := hr1.frozen 2
    have hgl1 := hr1.lt
    have HR1 := Lib.hid hr1
    have BG1 := Lib.hid bg1
    clear hri hr1 bg1 hB1 HOTH HR
    go_wp2_with fail
    go_end0
    refine ⟨rfl, ?_, BG1.out.setCell rfl _⟩
    exact HR1.out.set_ 2 (.int .u32 (reckN 24 s.a n : Nat))
end Go.Proofs.YtpinnockcnmofaaGreatDoor
