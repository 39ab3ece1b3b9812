/-
  The walks of a machine's deeds that load, store, move and jump.
-/
import Derived.Test.YtpinnockcnmofaaGreatDoorPlainTop
import Derived.Test.YtpinnockcnmofaaGreatDoorRow16
import Derived.Test.YtpinnockcnmofaaGreatDoorWalkOf
import Derived.BigRegion
namespace Go.Proofs.YtpinnockcnmofaaGreatDoor
open Go.RowKit
set_option linter.unusedVariables false

/-- All old blocks but one are as they were. -/
structure ButG (g : Nat) (w w' : World) : Prop where
  os : w'.os = w.os
  tape : w'.tape = w.tape
  output : w'.output = w.output
  size : w.heap.size ≤ w'.heap.size
  block : ∀ k, k < w.heap.size → k ≠ g → w'.heap[k]? = w.heap[k]?
theorem ButG.refl (g : Nat) (w : World) : ButG g w w := ⟨rfl, rfl, rfl, Nat.le_refl _, fun _ _ _ => rfl⟩
theorem ButG.trans {g : Nat} {a b c : World} (h : ButG g a b) (k : ButG g b c) : ButG g a c := ⟨k.os.trans h.os, k.tape.trans h.tape, k.output.trans h.output, Nat.le_trans h.size k.size, fun j hj hg => (k.block j (Nat.lt_of_lt_of_le hj h.size) hg).trans (h.block j hj hg)⟩
theorem ButG.of_below {g : Nat} {w w' : World} (h : Below w.heap.size w w') : ButG g w w' := ⟨h.os, h.tape, h.output, h.size, fun k hk _ => h.block k hk⟩
theorem ButG.alloc {g : Nat} {a w : World} (h : ButG g a w) (o : Obj) : ButG g a (w.alloc o) := h.trans (.of_below ((Below.refl _ w).alloc (Nat.le_refl _) o))
theorem ButG.drewN {g : Nat} {a w : World} (h : ButG g a w) (q : Nat) : ButG g a (w.drewN q) := ⟨h.os, h.tape, h.output, h.size, h.block⟩
theorem ButG.drew {g : Nat} {a w : World} (h : ButG g a w) : ButG g a w.drew := ⟨h.os, h.tape, h.output, h.size, h.block⟩
theorem ButG.setCell {g : Nat} {a w : World} (h : ButG g a w) {p : Addr} (hp : p.block = g) (v : Value) : ButG g a (w.setCell p v) :=
  ⟨h.os, h.tape, h.output, by simpa [World.setCell] using h.size, fun k hk hg => (Below.heap_setCell _ _ _ _ (by omega)).trans (h.block k hk hg)⟩
theorem ButG.below {g B : Nat} {w w' : World} (h : ButG g w w') (hg : B ≤ g) (hB : B ≤ w.heap.size) : Below B w w' := ⟨h.os, h.tape, h.output, h.size, fun k hk => h.block k (Nat.lt_of_lt_of_le hk hB) (by omega)⟩

def u32c (n : Nat) : Value := .int .u32 (n : Nat)
/-- A run's cells. -/
def runC (b : Value) (s : Vs) (steps : Nat) (ld : Value) : List Value := [b, .int .i64 (s.at_ : Nat), .int .u32 (s.a : Nat), .int .u32 (s.x : Nat)] ++ s.cells.map u32c ++ [.int .u32 0, .int .i64 (steps : Nat), ld]
/-- An instruction, looked up. -/
def opA (i : I) (f d : Nat) (x : Bool) : Value := .agg #[.int .u16 i.code, .int .u8 i.jt, .int .u8 i.jf, .int .u32 i.k, .func (.func f) #[] #[], .int .i64 d, .bool x]
theorem runC_length {b : Value} {s : Vs} {st : Nat} {ld : Value} (h : s.cells.length = 16) : (runC b s st ld).length = 23 := by simp [runC, h]
theorem runC_cell {b : Value} {s : Vs} {st : Nat} {ld : Value} (h : s.cells.length = 16) {k : Nat} (hk : k < 16) : (runC b s st ld)[4 + k]? = some (.int .u32 (s.cells.getD k 0 : Nat)) := by
  unfold runC
  rw [List.append_assoc, List.getElem?_append_right (by simp), List.getElem?_append_left (by simp [h, hk])]
  simp [h, hk, u32c]
theorem runC_set {b : Value} {s : Vs} {st : Nat} {ld : Value} (h : s.cells.length = 16) {k : Nat} (hk : k < 16) (n : Nat) : (runC b s st ld).set (4 + k) (.int .u32 (n : Nat)) = runC b { s with cells := s.cells.set k n } st ld := by
  unfold runC
  simp only
  rw [List.append_assoc, List.set_append_right _ _ (by simp), List.set_append_left _ _ (by simp [h, hk]), List.append_assoc, List.map_set]
  simp [u32c]
theorem runC_steps {b : Value} {s : Vs} {st : Nat} {ld : Value} (h : s.cells.length = 16) : (runC b s st ld)[21]? = some (.int .i64 (st : Nat)) := by
  unfold runC
  rw [List.getElem?_append_right (by simp [h])]
  simp [h]
theorem runC_setSteps {b : Value} {s : Vs} {st : Nat} {ld : Value} (h : s.cells.length = 16) (n : Nat) : (runC b s st ld).set 21 (.int .i64 (n : Nat)) = runC b s n ld := by
  unfold runC
  rw [List.set_append_right _ _ (by simp [h])]
  simp [h]
theorem runC_loads {b : Value} {s : Vs} {st : Nat} {ld : Value} (h : s.cells.length = 16) : (runC b s st ld)[22]? = some ld := by
  unfold runC
  rw [List.getElem?_append_right (by simp [h])]
  simp [h]
theorem runC_setLoads {b : Value} {s : Vs} {st : Nat} {ld : Value} (h : s.cells.length = 16) (v : Value) : (runC b s st ld).set 22 v = runC b s st v := by
  unfold runC
  rw [List.set_append_right _ _ (by simp [h])]
  simp [h]
theorem runC_value {b : Value} {s : Vs} {st : Nat} {ld : Value} (h : s.cells.length = 16) : (runC b s st ld)[20]? = some (.int .u32 0) := by
  unfold runC
  rw [List.getElem?_append_right (by simp [h])]
  simp [h]

set_option maxRecDepth 100000 in
set_option maxHeartbeats 1000000 in
theorem imm_any (i : I) (f d : Nat) (x : Bool) (g : Nat) (b : Value) (s : Vs) (hs : s.Ok) (st : Nat) (ld : Value) (w : World) (hr : RowK w g 121 23 (runC b s st ld)) :
    Calls Tryz.prog 69 #[.pointer (some ⟨g, 0, none⟩), opA i f d x] w fun e w' => e = .returned (.tuple #[]) ∧ RowK w' g 121 23 (runC b { s with a := i.k } st ld) ∧ ButG g w w' := by
  obtain ⟨xc, xt, xf, xk⟩ := i
  have hgl := hr.lt
  have f2 := hr.frozen 2
  have c2 := hr.cell (k := 2) rfl
  have HR := Lib.hid hr
  clear hr
  unfold opA
  simp only
  go_enter Tryz.func69, Tryz.ntmps69
  go_wp2_with fail
  all_goals
    go_end0
    refine ⟨rfl, ?_, ?_⟩
    · first
        | exact (HR.out.set_ 2 (.int .u32 xk)).alloc _
        | exact ((HR.out.alloc _).set_ 2 (.int .u32 xk))
        | exact ((show RowK (World.drewN _ _) _ _ _ _ from HR.out.alloc _).set_ 2 (.int .u32 xk))
    · first
        | exact ((ButG.refl g w).setCell rfl _).alloc _
        | exact ((ButG.refl g w).alloc _).setCell rfl _
        | exact (((ButG.refl g w).alloc _).drewN _).setCell rfl _
        | exact (((ButG.refl g w).alloc _).drew).setCell rfl _
        | exact (((ButG.refl g w).setCell rfl _).drew).alloc _
        | exact (((ButG.refl g w).setCell rfl _).alloc _).drew
        | exact (((ButG.refl g w).alloc _).setCell rfl _).drew
        | exact (((ButG.refl g w).setCell rfl _).drewN _).alloc _
        | exact (((ButG.refl g w).setCell rfl _).alloc _).drewN _
        | exact (((ButG.refl g w).alloc _).setCell rfl _).drewN _

set_option maxRecDepth 100000 in
set_option maxHeartbeats 1000000 in
theorem len_any (i : I) (f d : Nat) (x : Bool) (g : Nat) (b : Value) (s : Vs) (hs : s.Ok) (st : Nat) (ld : Value) (w : World) (hr : RowK w g 121 23 (runC b s st ld)) :
    Calls Tryz.prog 71 #[.pointer (some ⟨g, 0, none⟩), opA i f d x] w fun e w' => e = .returned (.tuple #[]) ∧ RowK w' g 121 23 (runC b { s with a := 64 } st ld) ∧ ButG g w w' := by
  obtain ⟨xc, xt, xf, xk⟩ := i
  have hgl := hr.lt
  have f2 := hr.frozen 2
  have c2 := hr.cell (k := 2) rfl
  have HR := Lib.hid hr
  clear hr
  unfold opA
  simp only
  go_enter Tryz.func71, Tryz.ntmps71
  go_wp2_with fail
  all_goals
    go_end0
    refine ⟨rfl, ?_, ?_⟩
    · first
        | exact (HR.out.set_ 2 (.int .u32 64)).alloc _
        | exact ((HR.out.alloc _).set_ 2 (.int .u32 64))
        | exact ((show RowK (World.drewN _ _) _ _ _ _ from HR.out.alloc _).set_ 2 (.int .u32 64))
    · first
        | exact ((ButG.refl g w).setCell rfl _).alloc _
        | exact ((ButG.refl g w).alloc _).setCell rfl _
        | exact (((ButG.refl g w).alloc _).drewN _).setCell rfl _
        | exact (((ButG.refl g w).alloc _).drew).setCell rfl _
        | exact (((ButG.refl g w).setCell rfl _).drew).alloc _
        | exact (((ButG.refl g w).setCell rfl _).alloc _).drew
        | exact (((ButG.refl g w).alloc _).setCell rfl _).drew
        | exact (((ButG.refl g w).setCell rfl _).drewN _).alloc _
        | exact (((ButG.refl g w).setCell rfl _).alloc _).drewN _
        | exact (((ButG.refl g w).alloc _).setCell rfl _).drewN _

set_option maxRecDepth 100000 in
set_option maxHeartbeats 1000000 in
theorem immX_any (i : I) (f d : Nat) (x : Bool) (g : Nat) (b : Value) (s : Vs) (hs : s.Ok) (st : Nat) (ld : Value) (w : World) (hr : RowK w g 121 23 (runC b s st ld)) :
    Calls Tryz.prog 72 #[.pointer (some ⟨g, 0, none⟩), opA i f d x] w fun e w' => e = .returned (.tuple #[]) ∧ RowK w' g 121 23 (runC b { s with x := i.k } st ld) ∧ ButG g w w' := by
  obtain ⟨xc, xt, xf, xk⟩ := i
  have hgl := hr.lt
  have f3 := hr.frozen 3
  have c3 := hr.cell (k := 3) rfl
  have HR := Lib.hid hr
  clear hr
  unfold opA
  simp only
  go_enter Tryz.func72, Tryz.ntmps72
  go_wp2_with fail
  all_goals
    go_end0
    refine ⟨rfl, ?_, ?_⟩
    · first
        | exact (HR.out.set_ 3 (.int .u32 xk)).alloc _
        | exact ((HR.out.alloc _).set_ 3 (.int .u32 xk))
        | exact ((show RowK (World.drewN _ _) _ _ _ _ from HR.out.alloc _).set_ 3 (.int .u32 xk))
    · first
        | exact ((ButG.refl g w).setCell rfl _).alloc _
        | exact ((ButG.refl g w).alloc _).setCell rfl _
        | exact (((ButG.refl g w).alloc _).drewN _).setCell rfl _
        | exact (((ButG.refl g w).alloc _).drew).setCell rfl _
        | exact (((ButG.refl g w).setCell rfl _).drew).alloc _
        | exact (((ButG.refl g w).setCell rfl _).alloc _).drew
        | exact (((ButG.refl g w).alloc _).setCell rfl _).drew
        | exact (((ButG.refl g w).setCell rfl _).drewN _).alloc _
        | exact (((ButG.refl g w).setCell rfl _).alloc _).drewN _
        | exact (((ButG.refl g w).alloc _).setCell rfl _).drewN _

set_option maxRecDepth 100000 in
set_option maxHeartbeats 1000000 in
theorem lenX_any (i : I) (f d : Nat) (x : Bool) (g : Nat) (b : Value) (s : Vs) (hs : s.Ok) (st : Nat) (ld : Value) (w : World) (hr : RowK w g 121 23 (runC b s st ld)) :
    Calls Tryz.prog 74 #[.pointer (some ⟨g, 0, none⟩), opA i f d x] w fun e w' => e = .returned (.tuple #[]) ∧ RowK w' g 121 23 (runC b { s with x := 64 } st ld) ∧ ButG g w w' := by
  obtain ⟨xc, xt, xf, xk⟩ := i
  have hgl := hr.lt
  have f3 := hr.frozen 3
  have c3 := hr.cell (k := 3) rfl
  have HR := Lib.hid hr
  clear hr
  unfold opA
  simp only
  go_enter Tryz.func74, Tryz.ntmps74
  go_wp2_with fail
  all_goals
    go_end0
    refine ⟨rfl, ?_, ?_⟩
    · first
        | exact (HR.out.set_ 3 (.int .u32 64)).alloc _
        | exact ((HR.out.alloc _).set_ 3 (.int .u32 64))
        | exact ((show RowK (World.drewN _ _) _ _ _ _ from HR.out.alloc _).set_ 3 (.int .u32 64))
    · first
        | exact ((ButG.refl g w).setCell rfl _).alloc _
        | exact ((ButG.refl g w).alloc _).setCell rfl _
        | exact (((ButG.refl g w).alloc _).drewN _).setCell rfl _
        | exact (((ButG.refl g w).alloc _).drew).setCell rfl _
        | exact (((ButG.refl g w).setCell rfl _).drew).alloc _
        | exact (((ButG.refl g w).setCell rfl _).alloc _).drew
        | exact (((ButG.refl g w).alloc _).setCell rfl _).drew
        | exact (((ButG.refl g w).setCell rfl _).drewN _).alloc _
        | exact (((ButG.refl g w).setCell rfl _).alloc _).drewN _
        | exact (((ButG.refl g w).alloc _).setCell rfl _).drewN _

set_option maxRecDepth 100000 in
set_option maxHeartbeats 1000000 in
theorem toX_any (i : I) (f d : Nat) (x : Bool) (g : Nat) (b : Value) (s : Vs) (hs : s.Ok) (st : Nat) (ld : Value) (w : World) (hr : RowK w g 121 23 (runC b s st ld)) :
    Calls Tryz.prog 77 #[.pointer (some ⟨g, 0, none⟩), opA i f d x] w fun e w' => e = .returned (.tuple #[]) ∧ RowK w' g 121 23 (runC b { s with x := s.a } st ld) ∧ ButG g w w' := by
  obtain ⟨xc, xt, xf, xk⟩ := i
  have hgl := hr.lt
  have f3 := hr.frozen 3
  have c3 := hr.cell (k := 3) rfl
  have c2 := hr.cell (k := 2) rfl
  have HR := Lib.hid hr
  clear hr
  unfold opA
  simp only
  go_enter Tryz.func77, Tryz.ntmps77
  go_wp2_with fail
  all_goals
    go_end0
    refine ⟨rfl, ?_, ?_⟩
    · first
        | exact (HR.out.set_ 3 (.int .u32 (s.a : Nat))).alloc _
        | exact ((HR.out.alloc _).set_ 3 (.int .u32 (s.a : Nat)))
        | exact ((show RowK (World.drewN _ _) _ _ _ _ from HR.out.alloc _).set_ 3 (.int .u32 (s.a : Nat)))
    · first
        | exact ((ButG.refl g w).setCell rfl _).alloc _
        | exact ((ButG.refl g w).alloc _).setCell rfl _
        | exact (((ButG.refl g w).alloc _).drewN _).setCell rfl _
        | exact (((ButG.refl g w).alloc _).drew).setCell rfl _
        | exact (((ButG.refl g w).setCell rfl _).drew).alloc _
        | exact (((ButG.refl g w).setCell rfl _).alloc _).drew
        | exact (((ButG.refl g w).alloc _).setCell rfl _).drew
        | exact (((ButG.refl g w).setCell rfl _).drewN _).alloc _
        | exact (((ButG.refl g w).setCell rfl _).alloc _).drewN _
        | exact (((ButG.refl g w).alloc _).setCell rfl _).drewN _

set_option maxRecDepth 100000 in
set_option maxHeartbeats 1000000 in
theorem toA_any (i : I) (f d : Nat) (x : Bool) (g : Nat) (b : Value) (s : Vs) (hs : s.Ok) (st : Nat) (ld : Value) (w : World) (hr : RowK w g 121 23 (runC b s st ld)) :
    Calls Tryz.prog 78 #[.pointer (some ⟨g, 0, none⟩), opA i f d x] w fun e w' => e = .returned (.tuple #[]) ∧ RowK w' g 121 23 (runC b { s with a := s.x } st ld) ∧ ButG g w w' := by
  obtain ⟨xc, xt, xf, xk⟩ := i
  have hgl := hr.lt
  have f2 := hr.frozen 2
  have c3 := hr.cell (k := 3) rfl
  have c2 := hr.cell (k := 2) rfl
  have HR := Lib.hid hr
  clear hr
  unfold opA
  simp only
  go_enter Tryz.func78, Tryz.ntmps78
  go_wp2_with fail
  all_goals
    go_end0
    refine ⟨rfl, ?_, ?_⟩
    · first
        | exact (HR.out.set_ 2 (.int .u32 (s.x : Nat))).alloc _
        | exact ((HR.out.alloc _).set_ 2 (.int .u32 (s.x : Nat)))
        | exact ((show RowK (World.drewN _ _) _ _ _ _ from HR.out.alloc _).set_ 2 (.int .u32 (s.x : Nat)))
    · first
        | exact ((ButG.refl g w).setCell rfl _).alloc _
        | exact ((ButG.refl g w).alloc _).setCell rfl _
        | exact (((ButG.refl g w).alloc _).drewN _).setCell rfl _
        | exact (((ButG.refl g w).alloc _).drew).setCell rfl _
        | exact (((ButG.refl g w).setCell rfl _).drew).alloc _
        | exact (((ButG.refl g w).setCell rfl _).alloc _).drew
        | exact (((ButG.refl g w).alloc _).setCell rfl _).drew
        | exact (((ButG.refl g w).setCell rfl _).drewN _).alloc _
        | exact (((ButG.refl g w).setCell rfl _).alloc _).drewN _
        | exact (((ButG.refl g w).alloc _).setCell rfl _).drewN _

set_option maxRecDepth 100000 in
set_option maxHeartbeats 1000000 in
theorem neg_any (i : I) (f d : Nat) (x : Bool) (g : Nat) (b : Value) (s : Vs) (hs : s.Ok) (st : Nat) (ld : Value) (w : World) (hr : RowK w g 121 23 (runC b s st ld)) :
    Calls Tryz.prog 79 #[.pointer (some ⟨g, 0, none⟩), opA i f d x] w fun e w' => e = .returned (.tuple #[]) ∧ RowK w' g 121 23 (runC b { s with a := (4294967296 - s.a) % 4294967296 } st ld) ∧ ButG g w w' := by
  obtain ⟨xc, xt, xf, xk⟩ := i
  have hgl := hr.lt
  have f2 := hr.frozen 2
  have c2 := hr.cell (k := 2) rfl
  have ha := hs.a
  have hw : IntKind.u32.wrap (-(s.a : Int)) = (((4294967296 - s.a) % 4294967296 : Nat) : Int) := by simp [IntKind.wrap, IntKind.bits, IntKind.signed]; omega
  have HR := Lib.hid hr
  clear hr
  unfold opA
  simp only
  go_enter Tryz.func79, Tryz.ntmps79
  go_wp2_with fail
  all_goals
    go_end0
    refine ⟨rfl, ?_, ?_⟩
    · first
        | exact (HR.out.set_ 2 (.int .u32 ((4294967296 - s.a) % 4294967296 : Nat))).alloc _
        | exact ((HR.out.alloc _).set_ 2 (.int .u32 ((4294967296 - s.a) % 4294967296 : Nat)))
        | exact ((show RowK (World.drewN _ _) _ _ _ _ from HR.out.alloc _).set_ 2 (.int .u32 ((4294967296 - s.a) % 4294967296 : Nat)))
    · first
        | exact ((ButG.refl g w).setCell rfl _).alloc _
        | exact ((ButG.refl g w).alloc _).setCell rfl _
        | exact (((ButG.refl g w).alloc _).drewN _).setCell rfl _
        | exact (((ButG.refl g w).alloc _).drew).setCell rfl _
        | exact (((ButG.refl g w).setCell rfl _).drew).alloc _
        | exact (((ButG.refl g w).setCell rfl _).alloc _).drew
        | exact (((ButG.refl g w).alloc _).setCell rfl _).drew
        | exact (((ButG.refl g w).setCell rfl _).drewN _).alloc _
        | exact (((ButG.refl g w).setCell rfl _).alloc _).drewN _
        | exact (((ButG.refl g w).alloc _).setCell rfl _).drewN _

set_option maxRecDepth 100000 in
set_option maxHeartbeats 1000000 in
theorem jump_any (i : I) (f d : Nat) (x : Bool) (g : Nat) (b : Value) (s : Vs) (hs : s.Ok) (st : Nat) (ld : Value) (w : World) (hr : RowK w g 121 23 (runC b s st ld)) (ha : s.at_ ≤ 1000000) (hk : i.k < 4294967296) :
    Calls Tryz.prog 80 #[.pointer (some ⟨g, 0, none⟩), opA i f d x] w fun e w' => e = .returned (.tuple #[]) ∧ RowK w' g 121 23 (runC b { s with at_ := s.at_ + i.k } st ld) ∧ ButG g w w' := by
  obtain ⟨xc, xt, xf, xk⟩ := i
  have hgl := hr.lt
  have f1 := hr.frozen 1
  have c1 := hr.cell (k := 1) rfl
  simp only at hk
  have HR := Lib.hid hr
  clear hr
  unfold opA
  simp only
  go_enter Tryz.func80, Tryz.ntmps80
  go_wp2_with fail
  go_region
  all_goals
    go_end0
    refine ⟨rfl, ?_, ?_⟩
    · first
        | exact (HR.out.set_ 1 (.int .i64 (s.at_ + xk : Nat))).alloc _
        | exact ((HR.out.alloc _).set_ 1 (.int .i64 (s.at_ + xk : Nat)))
        | exact ((show RowK (World.drewN _ _) _ _ _ _ from HR.out.alloc _).set_ 1 (.int .i64 (s.at_ + xk : Nat)))
    · first
        | exact ((ButG.refl g w).setCell rfl _).alloc _
        | exact ((ButG.refl g w).alloc _).setCell rfl _
        | exact (((ButG.refl g w).alloc _).drewN _).setCell rfl _
        | exact (((ButG.refl g w).alloc _).drew).setCell rfl _
        | exact (((ButG.refl g w).setCell rfl _).drew).alloc _
        | exact (((ButG.refl g w).setCell rfl _).alloc _).drew
        | exact (((ButG.refl g w).alloc _).setCell rfl _).drew
        | exact (((ButG.refl g w).setCell rfl _).drewN _).alloc _
        | exact (((ButG.refl g w).setCell rfl _).alloc _).drewN _
        | exact (((ButG.refl g w).alloc _).setCell rfl _).drewN _

set_option maxRecDepth 100000 in
set_option maxHeartbeats 1000000 in
theorem cell_any (i : I) (f d : Nat) (x : Bool) (g : Nat) (b : Value) (s : Vs) (hs : s.Ok) (st : Nat) (ld : Value) (w : World) (hr : RowK w g 121 23 (runC b s st ld)) (hk : i.k ≤ 15) :
    Calls Tryz.prog 70 #[.pointer (some ⟨g, 0, none⟩), opA i f d x] w fun e w' => e = .returned (.tuple #[]) ∧ RowK w' g 121 23 (runC b { s with a := s.cells.getD i.k 0 } st ld) ∧ ButG g w w' := by
  obtain ⟨xc, xt, xf, xk⟩ := i
  have hgl := hr.lt
  simp only at hk
  have hlt : xk < 16 := by omega
  have z0 : (0 : Int) ≤ (xk : Int) := by omega
  have z1 : (xk : Int) < 16 := by omega
  have z2 : (0 : Int) ≤ (xk : Int) ∧ (xk : Int) < 16 := ⟨z0, z1⟩
  have f2 := hr.frozen 2
  have c2 := hr.cell (k := 2) rfl
  have ck := hr.cell (runC_cell hs.len hlt)
  have fk := hr.frozen (4 + xk)
  have HR := Lib.hid hr
  clear hr
  unfold opA
  simp only
  go_enter Tryz.func70, Tryz.ntmps70
  go_wp2_with fail
  go_region
  all_goals
    go_end0
    refine ⟨rfl, ?_, ?_⟩
    · first
        | exact (HR.out.set_ 2 (.int .u32 (s.cells.getD xk 0 : Nat))).alloc _
        | exact ((HR.out.alloc _).set_ 2 (.int .u32 (s.cells.getD xk 0 : Nat)))
        | exact ((show RowK (World.drewN _ _) _ _ _ _ from HR.out.alloc _).set_ 2 (.int .u32 (s.cells.getD xk 0 : Nat)))
    · first
        | exact ((ButG.refl g w).setCell rfl _).alloc _
        | exact ((ButG.refl g w).alloc _).setCell rfl _
        | exact (((ButG.refl g w).alloc _).drewN _).setCell rfl _
        | exact (((ButG.refl g w).alloc _).drew).setCell rfl _
        | exact (((ButG.refl g w).setCell rfl _).drew).alloc _
        | exact (((ButG.refl g w).setCell rfl _).alloc _).drew
        | exact (((ButG.refl g w).alloc _).setCell rfl _).drew
        | exact (((ButG.refl g w).setCell rfl _).drewN _).alloc _
        | exact (((ButG.refl g w).setCell rfl _).alloc _).drewN _
        | exact (((ButG.refl g w).alloc _).setCell rfl _).drewN _

set_option maxRecDepth 100000 in
set_option maxHeartbeats 1000000 in
theorem cellX_any (i : I) (f d : Nat) (x : Bool) (g : Nat) (b : Value) (s : Vs) (hs : s.Ok) (st : Nat) (ld : Value) (w : World) (hr : RowK w g 121 23 (runC b s st ld)) (hk : i.k ≤ 15) :
    Calls Tryz.prog 73 #[.pointer (some ⟨g, 0, none⟩), opA i f d x] w fun e w' => e = .returned (.tuple #[]) ∧ RowK w' g 121 23 (runC b { s with x := s.cells.getD i.k 0 } st ld) ∧ ButG g w w' := by
  obtain ⟨xc, xt, xf, xk⟩ := i
  have hgl := hr.lt
  simp only at hk
  have hlt : xk < 16 := by omega
  have z0 : (0 : Int) ≤ (xk : Int) := by omega
  have z1 : (xk : Int) < 16 := by omega
  have z2 : (0 : Int) ≤ (xk : Int) ∧ (xk : Int) < 16 := ⟨z0, z1⟩
  have f3 := hr.frozen 3
  have c3 := hr.cell (k := 3) rfl
  have ck := hr.cell (runC_cell hs.len hlt)
  have fk := hr.frozen (4 + xk)
  have HR := Lib.hid hr
  clear hr
  unfold opA
  simp only
  go_enter Tryz.func73, Tryz.ntmps73
  go_wp2_with fail
  go_region
  all_goals
    go_end0
    refine ⟨rfl, ?_, ?_⟩
    · first
        | exact (HR.out.set_ 3 (.int .u32 (s.cells.getD xk 0 : Nat))).alloc _
        | exact ((HR.out.alloc _).set_ 3 (.int .u32 (s.cells.getD xk 0 : Nat)))
        | exact ((show RowK (World.drewN _ _) _ _ _ _ from HR.out.alloc _).set_ 3 (.int .u32 (s.cells.getD xk 0 : Nat)))
    · first
        | exact ((ButG.refl g w).setCell rfl _).alloc _
        | exact ((ButG.refl g w).alloc _).setCell rfl _
        | exact (((ButG.refl g w).alloc _).drewN _).setCell rfl _
        | exact (((ButG.refl g w).alloc _).drew).setCell rfl _
        | exact (((ButG.refl g w).setCell rfl _).drew).alloc _
        | exact (((ButG.refl g w).setCell rfl _).alloc _).drew
        | exact (((ButG.refl g w).alloc _).setCell rfl _).drew
        | exact (((ButG.refl g w).setCell rfl _).drewN _).alloc _
        | exact (((ButG.refl g w).setCell rfl _).alloc _).drewN _
        | exact (((ButG.refl g w).alloc _).setCell rfl _).drewN _

set_option maxRecDepth 100000 in
set_option maxHeartbeats 1000000 in
theorem store_any (i : I) (f d : Nat) (x : Bool) (g : Nat) (b : Value) (s : Vs) (hs : s.Ok) (st : Nat) (ld : Value) (w : World) (hr : RowK w g 121 23 (runC b s st ld)) (hk : i.k ≤ 15) :
    Calls Tryz.prog 75 #[.pointer (some ⟨g, 0, none⟩), opA i f d x] w fun e w' => e = .returned (.tuple #[]) ∧ RowK w' g 121 23 (runC b { s with cells := s.cells.set i.k s.a } st ld) ∧ ButG g w w' := by
  obtain ⟨xc, xt, xf, xk⟩ := i
  have hgl := hr.lt
  simp only at hk
  have hlt : xk < 16 := by omega
  have z0 : (0 : Int) ≤ (xk : Int) := by omega
  have z1 : (xk : Int) < 16 := by omega
  have z2 : (0 : Int) ≤ (xk : Int) ∧ (xk : Int) < 16 := ⟨z0, z1⟩
  have c2 := hr.cell (k := 2) rfl
  have ck := hr.cell (runC_cell hs.len hlt)
  have fk := hr.frozen (4 + xk)
  have HR := Lib.hid hr
  clear hr
  unfold opA
  simp only
  go_enter Tryz.func75, Tryz.ntmps75
  go_wp2_with fail
  go_region
  all_goals
    go_end0
    refine ⟨rfl, ?_, ?_⟩
    · rw [← runC_set hs.len hlt]
      first
        | exact (HR.out.set_ (4 + xk) (.int .u32 (s.a : Nat))).alloc _
        | exact ((HR.out.alloc _).set_ (4 + xk) (.int .u32 (s.a : Nat)))
        | exact ((show RowK (World.drewN _ _) _ _ _ _ from HR.out.alloc _).set_ (4 + xk) (.int .u32 (s.a : Nat)))
    · first
        | exact ((ButG.refl g w).setCell rfl _).alloc _
        | exact ((ButG.refl g w).alloc _).setCell rfl _
        | exact (((ButG.refl g w).alloc _).drewN _).setCell rfl _
        | exact (((ButG.refl g w).alloc _).drew).setCell rfl _
        | exact (((ButG.refl g w).setCell rfl _).drew).alloc _
        | exact (((ButG.refl g w).setCell rfl _).alloc _).drew
        | exact (((ButG.refl g w).alloc _).setCell rfl _).drew
        | exact (((ButG.refl g w).setCell rfl _).drewN _).alloc _
        | exact (((ButG.refl g w).setCell rfl _).alloc _).drewN _
        | exact (((ButG.refl g w).alloc _).setCell rfl _).drewN _

set_option maxRecDepth 100000 in
set_option maxHeartbeats 1000000 in
theorem storeX_any (i : I) (f d : Nat) (x : Bool) (g : Nat) (b : Value) (s : Vs) (hs : s.Ok) (st : Nat) (ld : Value) (w : World) (hr : RowK w g 121 23 (runC b s st ld)) (hk : i.k ≤ 15) :
    Calls Tryz.prog 76 #[.pointer (some ⟨g, 0, none⟩), opA i f d x] w fun e w' => e = .returned (.tuple #[]) ∧ RowK w' g 121 23 (runC b { s with cells := s.cells.set i.k s.x } st ld) ∧ ButG g w w' := by
  obtain ⟨xc, xt, xf, xk⟩ := i
  have hgl := hr.lt
  simp only at hk
  have hlt : xk < 16 := by omega
  have z0 : (0 : Int) ≤ (xk : Int) := by omega
  have z1 : (xk : Int) < 16 := by omega
  have z2 : (0 : Int) ≤ (xk : Int) ∧ (xk : Int) < 16 := ⟨z0, z1⟩
  have c3 := hr.cell (k := 3) rfl
  have ck := hr.cell (runC_cell hs.len hlt)
  have fk := hr.frozen (4 + xk)
  have HR := Lib.hid hr
  clear hr
  unfold opA
  simp only
  go_enter Tryz.func76, Tryz.ntmps76
  go_wp2_with fail
  go_region
  all_goals
    go_end0
    refine ⟨rfl, ?_, ?_⟩
    · rw [← runC_set hs.len hlt]
      first
        | exact (HR.out.set_ (4 + xk) (.int .u32 (s.x : Nat))).alloc _
        | exact ((HR.out.alloc _).set_ (4 + xk) (.int .u32 (s.x : Nat)))
        | exact ((show RowK (World.drewN _ _) _ _ _ _ from HR.out.alloc _).set_ (4 + xk) (.int .u32 (s.x : Nat)))
    · first
        | exact ((ButG.refl g w).setCell rfl _).alloc _
        | exact ((ButG.refl g w).alloc _).setCell rfl _
        | exact (((ButG.refl g w).alloc _).drewN _).setCell rfl _
        | exact (((ButG.refl g w).alloc _).drew).setCell rfl _
        | exact (((ButG.refl g w).setCell rfl _).drew).alloc _
        | exact (((ButG.refl g w).setCell rfl _).alloc _).drew
        | exact (((ButG.refl g w).alloc _).setCell rfl _).drew
        | exact (((ButG.refl g w).setCell rfl _).drewN _).alloc _
        | exact (((ButG.refl g w).setCell rfl _).alloc _).drewN _
        | exact (((ButG.refl g w).alloc _).setCell rfl _).drewN _

end Go.Proofs.YtpinnockcnmofaaGreatDoor
