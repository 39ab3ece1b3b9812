/-
  A region that draws its order and whose operations read, and whose calls answer one value and make new memory at most: one walk, in the order of the text.
-/
import Derived.Test.YtpinnockcnmofaaGreatDoorData
namespace Go.Proofs.YtpinnockcnmofaaGreatDoor
open Go.RowKit

/-- A world with more blocks behind it. -/
structure GrownOf (w : World) where
  world : World
  grows : Grows w world
instance (w : World) : Nonempty (GrownOf w) := ⟨⟨w, Grows.refl w⟩⟩
instance (w : World) : Inhabited (GrownOf w) := ⟨⟨w, Grows.refl w⟩⟩
def grownAs (w : World) (x : GrownOf w) : World := x.world
theorem grows_as {w : World} (x : GrownOf w) : Grows w (grownAs w x) := x.grows
theorem as_cell {w : World} {p : Addr} {v : Value} (hc : w.cell? p = some v) (x : GrownOf w) : (grownAs w x).cell? p = some v := (x.grows.cell (block_lt_of_cell hc)).trans hc
theorem as_block {w : World} {g : Nat} {o : Obj} (hc : w.heap[g]? = some o) (x : GrownOf w) : (grownAs w x).heap[g]? = some o := (x.grows.block g (by
  rcases Nat.lt_or_ge g w.heap.size with h | h
  · exact h
  · rw [Array.getElem?_eq_none h] at hc; cases hc)).trans hc
theorem as_reads {w : World} {size n : Nat} {A : Option Addr} {xs : List Value} (hr : Reads w w.heap.size size A n xs) (x : GrownOf w) : Reads (grownAs w x) (grownAs w x).heap.size size A n xs := (hr.below x.grows).more x.grows.size
theorem as_blk {w : World} {g : Nat} {t : TypeId} {cs : Array Value} (h : Blk w g t cs) (x : GrownOf w) : Blk (grownAs w x) g t cs := h.below x.grows h.lt

/-- The law: what stands behind the region is asked in every such world. -/
theorem wp_region_grow {P : Program} {id : Nat} {Q : Exit → Act → World → Prop} {a : Act} {w : World} {l : List Oper} (hm : P.follows .mixedOrders = true) (hB : Region.lexB .any l.toArray = true)
    (h : wpQuiet P l.toArray (fun w' => ∃ x, w' = grownAs w x) (fun a' => ∀ w', Grows w w' → Q .normal a' w') l a) : (Code.region id l.toArray true).wp P Q a w := by
  have e : (fun a' => ∀ w', Grows w w' → Q .normal a' w') = (fun a' => ∀ w', (∃ x, w' = grownAs w x) → Q .normal a' w') := by
    funext a'
    apply propext
    exact ⟨fun h w' ⟨x, hx⟩ => h w' (by rw [hx]; exact x.grows), fun h w' hw => h w' ⟨⟨w', hw⟩, rfl⟩⟩
  rw [e] at h
  exact wp_region_quiet (C := fun w' => ∃ x, w' = grownAs w x) hm hB ⟨⟨w.drew, (Below.refl _ w).drew⟩, rfl⟩ (by simpa using h)

/-- A callee's contract. -/
theorem calls_grow {P : Program} {f : FuncId} {args : Array Value} {w : World} {x : GrownOf w} {v : Value}
    (h : Calls P f args (grownAs w x) fun e w' => e = .returned v ∧ Below (grownAs w x).heap.size (grownAs w x) w') : Calls P f args (grownAs w x) fun e w'' => e = .returned v ∧ ∃ y, w'' = grownAs w y :=
  h.mono fun _ w' ⟨he, hm⟩ => ⟨he, ⟨w', (Grows.trans x.grows hm)⟩, rfl⟩
theorem calls_grow_same {P : Program} {f : FuncId} {args : Array Value} {w : World} {x : GrownOf w} {v : Value}
    (h : Calls P f args (grownAs w x) fun e w' => e = .returned v ∧ grownAs w x = w') : Calls P f args (grownAs w x) fun e w'' => e = .returned v ∧ ∃ y, w'' = grownAs w y :=
  h.mono fun _ _ ⟨he, hm⟩ => ⟨he, x, hm.symm⟩
/-- A load of a whole row. -/
theorem quiet_load_row {P : Program} {C : World → Prop} {o : Oper} {a : Act} {K : Act → Prop} (ty : TypeId) (x : Operand) (ho : o.op = .load ty x) (g : Nat) (hx : a.eval x = .pointer (some ⟨g, 0, none⟩)) (t : TypeId) (cs : Array Value) (fr : Nat × Nat) (d : TypeDesc)
    (hg : ∀ w, C w → w.heap[g]? = some (.cells cs t fr)) (hu : P.underlying ty = some d) (hd : (match d with | .struct _ | .array _ _ => true | _ => false) = true) (hi : (P.info? ty).map (·.size) = some cs.size)
    (h : K (a.put o.dst (.agg cs))) : o.quiet P a C K :=
  ⟨.agg cs, fun w hw => by
    unfold Oper.quietAt execOp
    simp only [ho, hx, Instr.loadAt, Instr.sureAddr, Sem.run_bind, Sem.run_pure, Result.andThen_ok, run_loadVar_row w g t ty cs fr d (hg w hw) hu hd hi]
    exact ⟨rfl, rfl⟩, h⟩
theorem as_row {w : World} {g : Nat} {o : Obj} (hc : w.heap[g]? = some o) : ∀ w', (∃ x, w' = grownAs w x) → w'.heap[g]? = some o := fun _ ⟨x, e⟩ => by rw [e]; exact as_block hc x
end Go.Proofs.YtpinnockcnmofaaGreatDoor
