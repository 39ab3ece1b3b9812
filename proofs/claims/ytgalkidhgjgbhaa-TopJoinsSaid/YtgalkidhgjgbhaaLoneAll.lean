/-
  From the walk of a piece of code to the machine of one goroutine.
-/
import Derived.Test.YtgalkidhgjgbhaaData
import Derived.Conc.LoneCalls
import Derived.Conc.LoneSelectN
/-! From the walk of a piece of code to the machine of one goroutine. -/
namespace Go.Proofs.Ytgalkidhgjgbhaa
open Go.RowKit Go.Conc
set_option linter.unusedVariables false

/-- A piece that ends as usual, then what follows. -/
theorem lone_wp {P : Program} {Q : Goroutine → World → Prop} {c : Code} {b : Frame} {a : Act} {w : World} {k : List Item} {cs : List Frame} (R : Act → World → Prop)
    (h : c.wp P (fun e a' w' => e = .normal ∧ R a' w') a w) (hn : ∀ a' w', R a' w' → LoneTo P Q (G (b.at a' k) cs) w') : LoneTo P Q (G (b.at a (.code c :: k)) cs) w := by
  obtain ⟨e, a', w', ⟨rfl, hR⟩, harr⟩ := h b k cs
  obtain ⟨g2, w2, hs, hq⟩ := hn a' w' hR
  exact ⟨g2, w2, Steps.trans harr hs, hq⟩
end Go.Proofs.Ytgalkidhgjgbhaa

/-! The walk for frames of the ordinary kind alone: with it, communication in one goroutine is a step. -/
namespace Go.Proofs.Ytgalkidhgjgbhaa
open Go.RowKit Go.Conc
set_option linter.unusedVariables false

/-- As Code.wp, but for ordinary frames alone. -/
def wpN (P : Program) (c : Code) (Q : Exit → Act → World → Prop) (a : Act) (w : World) : Prop :=
  ∀ (b : Frame) (k : List Item) (cs : List Frame), b.kind = .normal → ∃ e a' w', Q e a' w' ∧ Arrives P (lone (b.at a (.code c :: k)) cs w) b k cs e a' w'

section
variable {P : Program} {Q : Exit → Act → World → Prop} {a : Act} {w : World}
theorem wpN_of_wp {c : Code} (h : c.wp P Q a w) : wpN P c Q a w := fun b k cs _ => h b k cs
theorem wpN_mono {c : Code} {Q' : Exit → Act → World → Prop} (h : wpN P c Q a w) (hq : ∀ e a w, Q e a w → Q' e a w) : wpN P c Q' a w :=
  fun b k cs hb => let ⟨e, a', w', q, r⟩ := h b k cs hb; ⟨e, a', w', hq _ _ _ q, r⟩
theorem wpN_seq {x y : Code} (h : wpN P x (Exit.then (wpN P y Q) Q) a w) : wpN P (Code.seq x y) Q a w := by
  intro b k cs hb
  obtain ⟨e, a₁, w₁, hq, harr⟩ := h b (.code y :: k) cs hb
  cases e with
  | normal =>
    obtain ⟨e₂, a₂, w₂, hq₂, harr₂⟩ := hq b k cs hb
    exact ⟨e₂, a₂, w₂, hq₂, .of_steps (.head step_seq harr) harr₂⟩
  | exit id => exact ⟨_, a₁, w₁, hq, .of_steps (.one step_seq) (.pass (x := .code y) rfl (fun _ _ => .inl (by simp)) harr)⟩
  | goto l => exact ⟨_, a₁, w₁, hq, .of_steps (.one step_seq) (.pass (x := .code y) rfl (fun _ _ => .inl (by simp)) harr)⟩
  | ret => exact ⟨_, a₁, w₁, hq, .of_steps (.one step_seq) (.pass (x := .code y) rfl (fun _ _ => .inl (by simp)) harr)⟩
  | panic ch => exact ⟨_, a₁, w₁, hq, .of_steps (.one step_seq) (.pass (x := .code y) rfl (fun _ _ => .inl (by simp)) harr)⟩
  | outgrown => exact ⟨_, a₁, w₁, hq, .of_steps (.one step_seq) (.pass (x := .code y) rfl (fun _ _ => .inl (by simp)) harr)⟩
theorem wpN_cond {c : Operand} {x y : Code} {t : Bool} (hc : a.eval c = .bool t) (h : wpN P (if t then x else y) Q a w) : wpN P (Code.cond c x y) Q a w :=
  fun b k cs hb => let ⟨e, a', w', q, r⟩ := h b k cs hb; ⟨e, a', w', q, .of_steps (.one (step_cond hc)) r⟩
theorem wpN_block {id : Nat} {c : Code} (h : wpN P c (Exit.inBlock id Q) a w) : wpN P (Code.block id c) Q a w := by
  intro b k cs hb
  obtain ⟨e, a₁, w₁, hq, harr⟩ := h b (.inBlock id :: k) cs hb
  cases e with
  | normal => exact ⟨.normal, a₁, w₁, hq, .head step_block (Steps.trans harr (.one step_inBlock))⟩
  | exit id' =>
    by_cases hid : id' = id
    · simp only [Exit.inBlock, hid, if_true] at hq
      exact ⟨.normal, a₁, w₁, hq, .head step_block (harr k (by simp [exitTo, hid]))⟩
    · simp only [Exit.inBlock, hid, if_false] at hq
      refine ⟨.exit id', a₁, w₁, hq, fun k' hk => .head step_block (harr k' ?_)⟩
      have : (id == id') = false := by simp; exact fun h => hid h.symm
      simp [exitTo, this, hk]
  | goto l => exact ⟨_, a₁, w₁, hq, fun k' hk => .head step_block (harr k' (by simp [gotoIn, hk]))⟩
  | ret => exact ⟨_, a₁, w₁, hq, .of_steps (.one step_block) harr⟩
  | panic ch => exact ⟨_, a₁, w₁, hq, .of_steps (.one step_block) harr⟩
  | outgrown => exact ⟨_, a₁, w₁, hq, .of_steps (b := b) (k := k) (cs := cs) (e := .outgrown) (.one step_block) harr⟩
/-- A loop: an invariant that bears a number, which every round lowers. -/
theorem wpN_loop {c : Code} (I : Nat → Act → World → Prop) (n₀ : Nat) (h₀ : I n₀ a w)
    (round : ∀ n a w, I n a w → wpN P c (Exit.then (fun a' w' => ∃ n', n' < n ∧ I n' a' w') Q) a w) : wpN P (Code.loop c) Q a w := by
  intro b k cs hb
  have key : ∀ n a w, I n a w → ∃ e a' w', Q e a' w' ∧ Arrives P (lone (b.at a (.code c :: .inLoop c :: k)) cs w) b k cs e a' w' := by
    intro n
    induction n using Nat.strongRecOn with
    | _ n ih =>
      intro a w hI
      obtain ⟨e, a₁, w₁, hq, harr⟩ := round n a w hI b (.inLoop c :: k) cs hb
      cases e with
      | normal =>
        obtain ⟨n', hlt, hI₁⟩ := hq
        obtain ⟨e₂, a₂, w₂, hq₂, harr₂⟩ := ih n' hlt a₁ w₁ hI₁
        exact ⟨e₂, a₂, w₂, hq₂, .of_steps (Steps.trans harr (.one step_inLoop)) harr₂⟩
      | exit id => exact ⟨_, a₁, w₁, hq, .pass (x := .inLoop c) rfl (fun _ _ => .inl (by simp)) harr⟩
      | goto l => exact ⟨_, a₁, w₁, hq, .pass (x := .inLoop c) rfl (fun _ _ => .inl (by simp)) harr⟩
      | ret => exact ⟨_, a₁, w₁, hq, .pass (x := .inLoop c) rfl (fun _ _ => .inl (by simp)) harr⟩
      | panic ch => exact ⟨_, a₁, w₁, hq, .pass (x := .inLoop c) rfl (fun _ _ => .inl (by simp)) harr⟩
      | outgrown => exact ⟨_, a₁, w₁, hq, .pass (x := .inLoop c) rfl (fun _ _ => .inl (by simp)) harr⟩
  obtain ⟨e, a', w', hq, harr⟩ := key _ a w h₀
  exact ⟨e, a', w', hq, .of_steps (.one step_loop) harr⟩
/-- A piece that small steps take to its end. -/
theorem wpN_lone {c : Code} (h : ∀ (b : Frame) (k : List Item) (cs : List Frame), b.kind = .normal → LoneTo P (fun g' w' => ∃ a', g' = G (b.at a' k) cs ∧ Q .normal a' w') (G (b.at a (.code c :: k)) cs) w) : wpN P c Q a w := by
  intro b k cs hb
  obtain ⟨g', w', hs, a', rfl, hq⟩ := h b k cs hb
  exact ⟨.normal, a', w', hq, hs⟩
theorem calls_of_wpN {f : FuncId} {fn : Func} {c : Code} {args : Array Value} {R : Ending → World → Prop}
    (hf : P.funcs[f]? = some fn) (hb : fn.body = some c)
    (h : wpN P c (bodyPost P fn R) { tmps := args ++ Array.replicate (fn.ntmps - args.size) undef, defers := [] } w) : Calls P f args w R := by
  intro cs
  let b : Frame := { (default : Frame) with fn := f, kind := .normal }
  have henter : Frame.enter P f args .normal = b.at { tmps := args ++ Array.replicate (fn.ntmps - args.size) undef, defers := [] } [.code c] := by
    simp [Frame.enter, Frame.at, hf, hb, b]
  obtain ⟨e, a', w', hq, harr⟩ := h b [] cs rfl
  rw [← henter] at harr
  cases e with
  | normal =>
    obtain ⟨hd, v, hr, hR⟩ := hq
    exact ⟨.returned v, w', _, hR, Steps.trans harr (.one step_end), rfl, rfl, hd, rfl, fn, hf, hr⟩
  | ret =>
    obtain ⟨hd, v, hr, hR⟩ := hq
    obtain ⟨todo, hs⟩ := harr
    exact ⟨.returned v, w', _, hR, hs, rfl, rfl, hd, rfl, fn, hf, hr⟩
  | panic chain =>
    obtain ⟨hd, hR⟩ := hq
    obtain ⟨todo, hs⟩ := harr
    exact ⟨.panicked chain, w', _, hR, hs, rfl, rfl, hd, fn, hf⟩
  | exit id => exact hq.elim
  | goto l => exact hq.elim
  | outgrown => exact ⟨.outgrown, w', b, hq, harr.resolve_left (by simp [b]), rfl, trivial⟩
end
end Go.Proofs.Ytgalkidhgjgbhaa

/-! flow.Reach's select: the default, and a receive. -/
namespace Go.Proofs.Ytgalkidhgjgbhaa
open Go.RowKit Go.Conc
set_option linter.unusedVariables false

theorem step_lone_select_recv {P : Program} {fr : Frame} {cs : List Frame} {w w₁ : World} {es : Array Event} {gc cap s r : Nat} {z : Value} {buf : Array Value} (h : stepG P true (G fr cs) w = .comm (G fr cs) #[rcase gc z] false .select w₁ es) (hc : w₁.heap[gc]? = some (.chan cap buf false s r false)) (hs : 0 < buf.size) :
    step P (solo (G fr cs) w) = .next (solo (G (fr.finish (.tuple #[goInt 0, .bool true, buf.getD 0 undef])) cs) (w₁.setChan gc cap (buf.extract 1 buf.size) false s (r + 1) false)) := by
  have hres : ∀ v : Value, commResult #[rcase gc z] .select ((0 : Nat) : Int) v true = .tuple #[goInt 0, .bool true, v] := fun v => by simp [commResult, rcase]
  have h2 := step_lone_sel_recv_buf (k := 0) (c := gc) (z := z) h rfl (fun m c' hm hc' => by
    rcases m with _ | m
    · exact absurd rfl hm
    · simp at hc') hc hs
  rw [hres] at h2
  exact h2
set_option maxRecDepth 100000 in
theorem sel_default (ops : Array Oper) (x : Nat → Value) (gc n s r : Nat) (w : World) (b : Frame) (k : List Item) (cs : List Frame) (hb : b.kind = .normal) (rest : List Nat) (h0 : ops[0]? = some { dst := some 28, op := Op.select #[{ chan := Operand.tmp 27, send := none, elem := 3 }] false, type := 0, pos := "flow.go:42", after := #[], guard := none })
    (hc : w.heap[gc]? = some (.chan n #[] false s r false)) :
    step Try.prog (solo (G (b.at ⟨#[x 0, x 1, x 2, x 3, x 4, x 5, x 6, x 7, x 8, x 9, x 10, x 11, x 12, x 13, x 14, x 15, x 16, x 17, x 18, x 19, x 20, x 21, x 22, x 23, x 24, x 25, x 26, .chan (some gc), x 28, x 29, x 30, x 31, x 32, x 33, x 34, x 35, x 36, x 37, x 38, x 39, x 40, x 41, x 42, x 43, x 44], []⟩ (.inRegion ops (0 :: rest) :: k)) cs) w) = .next (solo (G ((b.at ⟨#[x 0, x 1, x 2, x 3, x 4, x 5, x 6, x 7, x 8, x 9, x 10, x 11, x 12, x 13, x 14, x 15, x 16, x 17, x 18, x 19, x 20, x 21, x 22, x 23, x 24, x 25, x 26, .chan (some gc), x 28, x 29, x 30, x 31, x 32, x 33, x 34, x 35, x 36, x 37, x 38, x 39, x 40, x 41, x 42, x 43, x 44], []⟩ (.inRegion ops (0 :: rest) :: k)).finish (.tuple #[goInt (-1), .bool false, .int .i64 0])) cs) w) := by
  refine step_lone_select_default (c := gc) (z := .int .i64 0) (cap := n) (s := s) (r := r) (tm := false) (stepG_comm (cases := #[rcase gc (.int .i64 0)]) (blocking := false) (shape := .select) (w' := w) h0 rfl (by rw [hb]; decide) (by simp [go_sem, execOp, rcase, Act.eval])) hc
set_option maxRecDepth 100000 in
theorem sel_recv (ops : Array Oper) (x : Nat → Value) (gc n s r : Nat) (buf : Array Value) (hs : 0 < buf.size) (v : Value) (hv : buf.getD 0 undef = v) (w : World) (b : Frame) (k : List Item) (cs : List Frame) (hb : b.kind = .normal) (rest : List Nat) (h0 : ops[0]? = some { dst := some 28, op := Op.select #[{ chan := Operand.tmp 27, send := none, elem := 3 }] false, type := 0, pos := "flow.go:42", after := #[], guard := none })
    (hc : w.heap[gc]? = some (.chan n buf false s r false)) :
    step Try.prog (solo (G (b.at ⟨#[x 0, x 1, x 2, x 3, x 4, x 5, x 6, x 7, x 8, x 9, x 10, x 11, x 12, x 13, x 14, x 15, x 16, x 17, x 18, x 19, x 20, x 21, x 22, x 23, x 24, x 25, x 26, .chan (some gc), x 28, x 29, x 30, x 31, x 32, x 33, x 34, x 35, x 36, x 37, x 38, x 39, x 40, x 41, x 42, x 43, x 44], []⟩ (.inRegion ops (0 :: rest) :: k)) cs) w) = .next (solo (G ((b.at ⟨#[x 0, x 1, x 2, x 3, x 4, x 5, x 6, x 7, x 8, x 9, x 10, x 11, x 12, x 13, x 14, x 15, x 16, x 17, x 18, x 19, x 20, x 21, x 22, x 23, x 24, x 25, x 26, .chan (some gc), x 28, x 29, x 30, x 31, x 32, x 33, x 34, x 35, x 36, x 37, x 38, x 39, x 40, x 41, x 42, x 43, x 44], []⟩ (.inRegion ops (0 :: rest) :: k)).finish (.tuple #[goInt 0, .bool true, v])) cs) (w.setChan gc n (buf.extract 1 buf.size) false s (r + 1) false)) := by
  subst hv
  refine step_lone_select_recv (z := .int .i64 0) (cap := n) (s := s) (r := r) (stepG_comm (cases := #[rcase gc (.int .i64 0)]) (blocking := false) (shape := .select) (w' := w) h0 rfl (by rw [hb]; decide) (by simp [go_sem, execOp, rcase, Act.eval])) hc hs
end Go.Proofs.Ytgalkidhgjgbhaa

/-! flow.Reach's region with the select. -/
namespace Go.Proofs.Ytgalkidhgjgbhaa
open Go.RowKit Go.Conc
set_option linter.unusedVariables false

set_option maxRecDepth 100000 in
theorem reg9_default (x : Nat → Value) (gc n s r : Nat) (w : World) (Q : Exit → Act → World → Prop) (hc : w.heap[gc]? = some (.chan n #[] false s r false)) (hQ : Q .normal ⟨#[x 0, x 1, x 2, x 3, x 4, x 5, x 6, x 7, x 8, x 9, x 10, x 11, x 12, x 13, x 14, x 15, x 16, x 17, x 18, x 19, x 20, x 21, x 22, x 23, x 24, x 25, x 26, .chan (some gc), .tuple #[goInt (-1), .bool false, .int .i64 0], .int .i64 (-1), .bool false, x 31, x 32, x 33, x 34, x 35, x 36, x 37, x 38, x 39, x 40, x 41, x 42, x 43, x 44], []⟩ w) :
    wpN Try.prog (Code.region 9 #[{ dst := some 28, op := Op.select #[{ chan := Operand.tmp 27, send := none, elem := 3 }] false, type := 0, pos := "flow.go:42", after := #[], guard := none }, { dst := some 29, op := Op.extract (Operand.tmp 28) 0, type := 3, pos := "flow.go:42", after := #[{ on := 0, ground := Ground.data }], guard := none }, { dst := some 30, op := Op.binOp BinOp.eql 3 (Operand.tmp 29) (Operand.const (Value.int IntKind.i64 0)) 3, type := 4, pos := "flow.go:42", after := #[{ on := 1, ground := Ground.data }], guard := none }] false) Q ⟨#[x 0, x 1, x 2, x 3, x 4, x 5, x 6, x 7, x 8, x 9, x 10, x 11, x 12, x 13, x 14, x 15, x 16, x 17, x 18, x 19, x 20, x 21, x 22, x 23, x 24, x 25, x 26, .chan (some gc), x 28, x 29, x 30, x 31, x 32, x 33, x 34, x 35, x 36, x 37, x 38, x 39, x 40, x 41, x 42, x 43, x 44], []⟩ w := by
  refine wpN_lone fun b k cs hb => ?_
  refine LoneTo.goes (n := 1) ?_
  s_reg
  s_stop
  refine LoneTo.step (sel_default _ x gc n s r w b k cs hb _ rfl hc) ?_
  rw [Frame.finish_at]
  walk_nrm
  refine LoneTo.goes (n := 5) ?_
  (s_in; refine goes_oper_k rfl rfl (by rw [hb]; decide) (fun K hK => ?_); go_simp; refine hK _ _ ⟨trivial, ?_⟩; clear hK K)
  (s_in; refine goes_oper_k rfl rfl (by rw [hb]; decide) (fun K hK => ?_); go_simp; refine hK _ _ ⟨trivial, ?_⟩; clear hK K)
  s_c stepG_region_end
  s_stop
  exact LoneTo.done ⟨_, rfl, hQ⟩

set_option maxRecDepth 100000 in
theorem reg9_recv (x : Nat → Value) (gc n s r : Nat) (buf : Array Value) (hs : 0 < buf.size) (v : Value) (hv : buf.getD 0 undef = v) (w : World) (Q : Exit → Act → World → Prop) (hc : w.heap[gc]? = some (.chan n buf false s r false)) (hQ : Q .normal ⟨#[x 0, x 1, x 2, x 3, x 4, x 5, x 6, x 7, x 8, x 9, x 10, x 11, x 12, x 13, x 14, x 15, x 16, x 17, x 18, x 19, x 20, x 21, x 22, x 23, x 24, x 25, x 26, .chan (some gc), .tuple #[goInt 0, .bool true, v], .int .i64 0, .bool true, x 31, x 32, x 33, x 34, x 35, x 36, x 37, x 38, x 39, x 40, x 41, x 42, x 43, x 44], []⟩ (w.setChan gc n (buf.extract 1 buf.size) false s (r + 1) false)) :
    wpN Try.prog (Code.region 9 #[{ dst := some 28, op := Op.select #[{ chan := Operand.tmp 27, send := none, elem := 3 }] false, type := 0, pos := "flow.go:42", after := #[], guard := none }, { dst := some 29, op := Op.extract (Operand.tmp 28) 0, type := 3, pos := "flow.go:42", after := #[{ on := 0, ground := Ground.data }], guard := none }, { dst := some 30, op := Op.binOp BinOp.eql 3 (Operand.tmp 29) (Operand.const (Value.int IntKind.i64 0)) 3, type := 4, pos := "flow.go:42", after := #[{ on := 1, ground := Ground.data }], guard := none }] false) Q ⟨#[x 0, x 1, x 2, x 3, x 4, x 5, x 6, x 7, x 8, x 9, x 10, x 11, x 12, x 13, x 14, x 15, x 16, x 17, x 18, x 19, x 20, x 21, x 22, x 23, x 24, x 25, x 26, .chan (some gc), x 28, x 29, x 30, x 31, x 32, x 33, x 34, x 35, x 36, x 37, x 38, x 39, x 40, x 41, x 42, x 43, x 44], []⟩ w := by
  refine wpN_lone fun b k cs hb => ?_
  refine LoneTo.goes (n := 1) ?_
  s_reg
  s_stop
  refine LoneTo.step (sel_recv _ x gc n s r buf hs v hv w b k cs hb _ rfl hc) ?_
  rw [Frame.finish_at]
  walk_nrm
  refine LoneTo.goes (n := 5) ?_
  (s_in; refine goes_oper_k rfl rfl (by rw [hb]; decide) (fun K hK => ?_); go_simp; refine hK _ _ ⟨trivial, ?_⟩; clear hK K)
  (s_in; refine goes_oper_k rfl rfl (by rw [hb]; decide) (fun K hK => ?_); go_simp; refine hK _ _ ⟨trivial, ?_⟩; clear hK K)
  s_c stepG_region_end
  s_stop
  exact LoneTo.done ⟨_, rfl, hQ⟩
end Go.Proofs.Ytgalkidhgjgbhaa

/-! The frames of flow.Reach's loop; its region 9 at explicit slots. -/
namespace Go.Proofs.Ytgalkidhgjgbhaa
open Go.RowKit Go.Conc
set_option linter.unusedVariables false

theorem slotsR (v0 v1 v2 v3 v4 v5 v6 v7 v8 v9 v10 v11 v12 v13 v14 v15 v16 v17 v18 v19 v20 v21 v22 v23 v24 v25 v26 v27 v28 v29 v30 v31 v32 v33 v34 v35 v36 v37 v38 v39 v40 v41 v42 v43 v44 : Value) : ∃ x : Nat → Value, (⟨#[v0, v1, v2, v3, v4, v5, v6, v7, v8, v9, v10, v11, v12, v13, v14, v15, v16, v17, v18, v19, v20, v21, v22, v23, v24, v25, v26, v27, v28, v29, v30, v31, v32, v33, v34, v35, v36, v37, v38, v39, v40, v41, v42, v43, v44], []⟩ : Act) = ⟨#[v0, x 1, x 2, x 3, x 4, v5, v6, v7, x 8, x 9, x 10, x 11, x 12, x 13, x 14, x 15, x 16, x 17, x 18, x 19, x 20, x 21, x 22, x 23, x 24, x 25, x 26, x 27, x 28, x 29, x 30, x 31, x 32, x 33, x 34, x 35, x 36, x 37, x 38, x 39, x 40, x 41, x 42, x 43, x 44], []⟩ := ⟨fun i => [v0, v1, v2, v3, v4, v5, v6, v7, v8, v9, v10, v11, v12, v13, v14, v15, v16, v17, v18, v19, v20, v21, v22, v23, v24, v25, v26, v27, v28, v29, v30, v31, v32, v33, v34, v35, v36, v37, v38, v39, v40, v41, v42, v43, v44].getD i undef, rfl⟩
theorem reg9_none (v0 v1 v2 v3 v4 v5 v6 v7 v8 v9 v10 v11 v12 v13 v14 v15 v16 v17 v18 v19 v20 v21 v22 v23 v24 v25 v26 v27 v28 v29 v30 v31 v32 v33 v34 v35 v36 v37 v38 v39 v40 v41 v42 v43 v44 : Value) (gc n s r : Nat) (w : World) (Q : Exit → Act → World → Prop) (hc : w.heap[gc]? = some (.chan n #[] false s r false)) (hQ : Q .normal ⟨#[v0, v1, v2, v3, v4, v5, v6, v7, v8, v9, v10, v11, v12, v13, v14, v15, v16, v17, v18, v19, v20, v21, v22, v23, v24, v25, v26, .chan (some gc), .tuple #[goInt (-1), .bool false, .int .i64 0], .int .i64 (-1), .bool false, v31, v32, v33, v34, v35, v36, v37, v38, v39, v40, v41, v42, v43, v44], []⟩ w) :
    wpN Try.prog (Code.region 9 #[{ dst := some 28, op := Op.select #[{ chan := Operand.tmp 27, send := none, elem := 3 }] false, type := 0, pos := "flow.go:42", after := #[], guard := none }, { dst := some 29, op := Op.extract (Operand.tmp 28) 0, type := 3, pos := "flow.go:42", after := #[{ on := 0, ground := Ground.data }], guard := none }, { dst := some 30, op := Op.binOp BinOp.eql 3 (Operand.tmp 29) (Operand.const (Value.int IntKind.i64 0)) 3, type := 4, pos := "flow.go:42", after := #[{ on := 1, ground := Ground.data }], guard := none }] false) Q ⟨#[v0, v1, v2, v3, v4, v5, v6, v7, v8, v9, v10, v11, v12, v13, v14, v15, v16, v17, v18, v19, v20, v21, v22, v23, v24, v25, v26, .chan (some gc), v28, v29, v30, v31, v32, v33, v34, v35, v36, v37, v38, v39, v40, v41, v42, v43, v44], []⟩ w :=
  reg9_default (fun i => [v0, v1, v2, v3, v4, v5, v6, v7, v8, v9, v10, v11, v12, v13, v14, v15, v16, v17, v18, v19, v20, v21, v22, v23, v24, v25, v26, v27, v28, v29, v30, v31, v32, v33, v34, v35, v36, v37, v38, v39, v40, v41, v42, v43, v44].getD i undef) gc n s r w Q hc hQ
theorem reg9_some (v0 v1 v2 v3 v4 v5 v6 v7 v8 v9 v10 v11 v12 v13 v14 v15 v16 v17 v18 v19 v20 v21 v22 v23 v24 v25 v26 v27 v28 v29 v30 v31 v32 v33 v34 v35 v36 v37 v38 v39 v40 v41 v42 v43 v44 : Value) (gc n s r : Nat) (buf : Array Value) (hs : 0 < buf.size) (v : Value) (hv : buf.getD 0 undef = v) (w : World) (Q : Exit → Act → World → Prop) (hc : w.heap[gc]? = some (.chan n buf false s r false)) (hQ : Q .normal ⟨#[v0, v1, v2, v3, v4, v5, v6, v7, v8, v9, v10, v11, v12, v13, v14, v15, v16, v17, v18, v19, v20, v21, v22, v23, v24, v25, v26, .chan (some gc), .tuple #[goInt 0, .bool true, v], .int .i64 0, .bool true, v31, v32, v33, v34, v35, v36, v37, v38, v39, v40, v41, v42, v43, v44], []⟩ (w.setChan gc n (buf.extract 1 buf.size) false s (r + 1) false)) :
    wpN Try.prog (Code.region 9 #[{ dst := some 28, op := Op.select #[{ chan := Operand.tmp 27, send := none, elem := 3 }] false, type := 0, pos := "flow.go:42", after := #[], guard := none }, { dst := some 29, op := Op.extract (Operand.tmp 28) 0, type := 3, pos := "flow.go:42", after := #[{ on := 0, ground := Ground.data }], guard := none }, { dst := some 30, op := Op.binOp BinOp.eql 3 (Operand.tmp 29) (Operand.const (Value.int IntKind.i64 0)) 3, type := 4, pos := "flow.go:42", after := #[{ on := 1, ground := Ground.data }], guard := none }] false) Q ⟨#[v0, v1, v2, v3, v4, v5, v6, v7, v8, v9, v10, v11, v12, v13, v14, v15, v16, v17, v18, v19, v20, v21, v22, v23, v24, v25, v26, .chan (some gc), v28, v29, v30, v31, v32, v33, v34, v35, v36, v37, v38, v39, v40, v41, v42, v43, v44], []⟩ w :=
  reg9_recv (fun i => [v0, v1, v2, v3, v4, v5, v6, v7, v8, v9, v10, v11, v12, v13, v14, v15, v16, v17, v18, v19, v20, v21, v22, v23, v24, v25, v26, v27, v28, v29, v30, v31, v32, v33, v34, v35, v36, v37, v38, v39, v40, v41, v42, v43, v44].getD i undef) gc n s r buf hs v hv w Q hc hQ
end Go.Proofs.Ytgalkidhgjgbhaa
