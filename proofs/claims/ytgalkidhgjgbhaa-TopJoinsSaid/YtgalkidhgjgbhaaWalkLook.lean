/-
  The walk of what flow.Reach looks with: a channel with room, in one goroutine.
-/
import Derived.Test.YtgalkidhgjgbhaaLoneAll
import Derived.Test.YtgalkidhgjgbhaaWalkReach
namespace Go.Proofs.Ytgalkidhgjgbhaa
open Go.RowKit Go.Conc
set_option linter.unusedVariables false

set_option maxRecDepth 100000 in
theorem look_new (k n : Nat) (o : List Bool) (g5 g6 go gc s r : Nat) (buf : Array Value) (w : World) (hk : k < n) (ho : o.length = n) (hn : n ≤ 100000)
    (h5 : w.cell? ⟨g5, 0, none⟩ = some (.slice (some ⟨go, 0, none⟩) n n)) (h6 : w.cell? ⟨g6, 0, none⟩ = some (.chan (some gc))) (hr : RowK w go 4 n (boolsV o)) (hc : w.heap[gc]? = some (.chan n buf false s r false)) (hroom : buf.size < n) (hf : o.getD k false = false) (h6o : g6 ≠ go) (hco : gc ≠ go) :
    Calls Try.prog 62 #[.int .i64 k, .pointer (some ⟨g5, 0, none⟩), .pointer (some ⟨g6, 0, none⟩)] w fun e w' => e = .returned (.tuple #[]) ∧ w' = (w.setCell ⟨go, k, none⟩ (.bool true)).setChan gc n (buf.push (.int .i64 k)) false (s + 1) r false := by
  have c0 := hr.cell (boolsV_get o k (by omega))
  have f0 := hr.frozen k
  have z0 : (0 : Int) ≤ (k : Int) := by omega
  have z1 : (k : Int) < (n : Int) := by omega
  rw [hf] at c0
  have hgo := hr.lt
  have hcs : (w.setCell ⟨go, k, none⟩ (.bool true)).heap[gc]? = some (.chan n buf false s r false) := (Below.heap_setCell _ _ _ _ hco).trans hc
  have h6s : (w.setCell ⟨go, k, none⟩ (.bool true)).cell? ⟨g6, 0, none⟩ = some (.chan (some gc)) := by
    rw [World.cell?_setCell_other _ _ _ _ (fun e => h6o (by rw [Addr.mk.injEq] at e; exact e.1.symm))]; exact h6
  refine calls_of_loneTo fun cs => ?_
  have e : Frame.enter Try.prog 62 #[.int .i64 k, .pointer (some ⟨g5, 0, none⟩), .pointer (some ⟨g6, 0, none⟩)] .normal = (base 62).at ⟨#[.int .i64 k, .pointer (some ⟨g5, 0, none⟩), .pointer (some ⟨g6, 0, none⟩), undef, undef, undef, undef, undef, undef, undef, undef, undef, undef, undef], []⟩ [.code (Try.f62.body.getD .skip)] := by
    simp [Frame.enter, Frame.at, Try.func62, base, Try.f62]
  rw [e]
  clear e
  refine LoneTo.goes (n := 60) ?_
  simp only [Try.f62, Option.getD_some]
  s_c stepG_seq
  s_reg
  s_op
  s_op
  s_op
  s_op
  s_op
  s_c stepG_region_end
  s_cond true
  s_c stepG_seq
  s_reg
  s_op
  s_op
  s_op
  s_op
  s_c stepG_region_end
  s_reg
  s_op
  s_op
  s_stop
  refine LoneTo.step (step_lone_send_room (c := gc) (cap := n) (buf := buf) (s := s) (r := r) (tm := false) (stepG_comm (cases := #[scase gc (.int .i64 k) (.tuple #[])]) (blocking := true) (shape := .send) (w' := w.setCell ⟨go, k, none⟩ (.bool true)) rfl rfl (by decide) (by simp [execOp, scase, Act.eval])) hcs hroom) ?_
  rw [Frame.finish_at]
  walk_nrm
  refine LoneTo.goes (n := 10) ?_
  s_c stepG_region_end
  s_c stepG_end
  s_stop
  exact LoneTo.done ⟨.returned (.tuple #[]), _, rfl, ⟨rfl, rfl⟩, rfl, rfl, rfl, rfl, _, Try.func62, by simp [results, Try.f62, Frame.at]⟩

set_option maxRecDepth 100000 in
theorem look_old (k n : Nat) (o : List Bool) (g5 g6 go : Nat) (w : World) (hk : k < n) (ho : o.length = n) (hn : n ≤ 100000)
    (h5 : w.cell? ⟨g5, 0, none⟩ = some (.slice (some ⟨go, 0, none⟩) n n)) (hr : RowK w go 4 n (boolsV o)) (hf : o.getD k false = true) :
    Calls Try.prog 62 #[.int .i64 k, .pointer (some ⟨g5, 0, none⟩), .pointer (some ⟨g6, 0, none⟩)] w fun e w' => e = .returned (.tuple #[]) ∧ w' = w := by
  have c0 := hr.cell (boolsV_get o k (by omega))
  have z0 : (0 : Int) ≤ (k : Int) := by omega
  have z1 : (k : Int) < (n : Int) := by omega
  rw [hf] at c0
  clear hr hf ho
  go_enter Try.func62, Try.ntmps62
  go_wp2_with fail
  go_end0
  exact ⟨rfl, rfl⟩
end Go.Proofs.Ytgalkidhgjgbhaa
