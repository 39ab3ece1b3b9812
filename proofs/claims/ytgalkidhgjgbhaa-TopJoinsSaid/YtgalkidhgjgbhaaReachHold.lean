/-
  What flow.Reach's blocks hold between its steps; looking at one, and taking one off the queue.
-/
import Derived.Test.YtgalkidhgjgbhaaWalkLook
import Derived.Test.YtgalkidhgjgbhaaWalkFNext
import Derived.Test.YtgalkidhgjgbhaaPlainTop
namespace Go.Proofs.Ytgalkidhgjgbhaa
open Go.RowKit Go.Conc
set_option linter.unusedVariables false

theorem heap_setChan_other (w : World) (c cap : Nat) (buf : Array Value) (cl : Bool) (s r : Nat) (tm : Bool) (k : Nat) (h : k ≠ c) : (w.setChan c cap buf cl s r tm).heap[k]? = w.heap[k]? := by
  simp only [World.setChan, Array.getElem?_setIfInBounds]
  rw [if_neg (fun e => h e.symm)]
theorem heap_setChan_self (w : World) (c cap : Nat) (buf : Array Value) (cl : Bool) (s r : Nat) (tm : Bool) (h : c < w.heap.size) : (w.setChan c cap buf cl s r tm).heap[c]? = some (.chan cap buf cl s r tm) := by
  simp [World.setChan, h]
theorem below_setChan {B : Nat} {a w : World} (h : Below B a w) (c cap : Nat) (buf : Array Value) (cl : Bool) (s r : Nat) (tm : Bool) (hc : B ≤ c) : Below B a (w.setChan c cap buf cl s r tm) :=
  h.trans ⟨rfl, rfl, rfl, by rw [size_setChan]; exact Nat.le_refl _, fun k hk => heap_setChan_other _ _ _ _ _ _ _ _ _ (by omega)⟩
theorem Reads.of_block {w w' : World} {B size n : Nat} {A : Option Addr} {xs : List Value} (h : Reads w B size A n xs) (he : ∀ ad, A = some ad → w'.heap[ad.block]? = w.heap[ad.block]?) : Reads w' B size A n xs :=
  ⟨h.1, fun hn => by
    obtain ⟨ad, h1, h2, h3⟩ := h.2 hn
    refine ⟨ad, h1, h2, fun j u hj => ?_⟩
    rw [← h3 j u hj]
    refine World.cell?_of_block ?_
    have : (ad.add j).block = ad.block := by unfold Addr.add; split <;> rfl
    rw [this]
    exact he ad h1⟩

/-- Where the blocks lie. -/
structure QAt (go gc g5 g6 B : Nat) : Prop where
  hgo : B ≤ go
  hgc : B ≤ gc
  o_c : gc ≠ go
  o_5 : g5 ≠ go
  o_6 : g6 ≠ go
  c_5 : g5 ≠ gc
  c_6 : g6 ≠ gc
structure QIs (go gc g5 g6 n : Nat) (w0 : World) (s : List Bool × List Nat) (w : World) : Prop where
  o : RowK w go 4 n (boolsV s.1)
  c : ∃ sn rn, w.heap[gc]? = some (.chan n (natsV s.2).toArray false sn rn false)
  p5 : RowK w g5 87 1 [.slice (some ⟨go, 0, none⟩) n n]
  p6 : RowK w g6 127 1 [.chan (some gc)]
  b : Below w0.heap.size w0 w
/-- Of what lay there nothing else has turned. -/
structure Beside (go gc : Nat) (w w' : World) : Prop where
  size : w'.heap.size = w.heap.size
  block : ∀ k, k ≠ go → k ≠ gc → w'.heap[k]? = w.heap[k]?
section
variable {go gc g5 g6 n : Nat} {w0 w w' : World} {s : List Bool × List Nat}
theorem QIs.gc_lt (h : QIs go gc g5 g6 n w0 s w) : gc < w.heap.size := by
  obtain ⟨sn, rn, h1⟩ := h.c
  exact (Array.getElem?_eq_some_iff.1 h1).1
theorem QIs.below (h : QIs go gc g5 g6 n w0 s w) (hb : Below w.heap.size w w') : QIs go gc g5 g6 n w0 s w' := by
  obtain ⟨sn, rn, h1⟩ := h.c
  exact ⟨h.o.below hb h.o.lt, ⟨sn, rn, (hb.block gc h.gc_lt).trans h1⟩, h.p5.below hb h.p5.lt, h.p6.below hb h.p6.lt, h.b.trans (hb.mono h.b.size)⟩
theorem QIs.drew (h : QIs go gc g5 g6 n w0 s w) : QIs go gc g5 g6 n w0 s w.drew := h.below ((Below.refl _ w).drew)
theorem natsV_snoc (l : List Nat) (k : Nat) : (natsV l).toArray.push (.int .i64 k) = (natsV (l ++ [k])).toArray := by simp [natsV]
theorem QIs.look (h : QIs go gc g5 g6 n w0 s w) (hq : QAt go gc g5 g6 w0.heap.size) {k : Nat} (hf : s.1.getD k false = false) {sn rn : Nat} :
    QIs go gc g5 g6 n w0 (lookN s k) ((w.setCell ⟨go, k, none⟩ (.bool true)).setChan gc n ((natsV s.2).toArray.push (.int .i64 k)) false sn rn false) := by
  have hgc := h.gc_lt
  have hgc' : gc < (w.setCell ⟨go, k, none⟩ (.bool true)).heap.size := by simpa using hgc
  have e : lookN s k = (s.1.set k true, s.2 ++ [k]) := by unfold lookN; rw [if_neg (by rw [hf]; decide)]
  rw [e]
  refine ⟨?_, ⟨sn, rn, ?_⟩, ?_, ?_, ?_⟩
  · have := h.o.set_ k (.bool true)
    rw [boolsV_set] at this
    exact this.of_heap (heap_setChan_other _ _ _ _ _ _ _ _ _ (fun e => hq.o_c e.symm))
  · rw [heap_setChan_self _ _ _ _ _ _ _ _ hgc', natsV_snoc]
  · exact (h.p5.far (p := ⟨go, k, none⟩) hq.o_5 (.bool true)).of_heap (heap_setChan_other _ _ _ _ _ _ _ _ _ hq.c_5)
  · exact (h.p6.far (p := ⟨go, k, none⟩) hq.o_6 (.bool true)).of_heap (heap_setChan_other _ _ _ _ _ _ _ _ _ hq.c_6)
  · exact below_setChan (h.b.setCell (p := ⟨go, k, none⟩) hq.hgo (.bool true)) _ _ _ _ _ _ _ hq.hgc
theorem QIs.pop {o : List Bool} {k : Nat} {q : List Nat} (h : QIs go gc g5 g6 n w0 (o, k :: q) w) (hq : QAt go gc g5 g6 w0.heap.size) {sn rn : Nat} :
    QIs go gc g5 g6 n w0 (o, q) (w.setChan gc n ((natsV (k :: q)).toArray.extract 1 (natsV (k :: q)).toArray.size) false sn rn false) := by
  have hgc := h.gc_lt
  refine ⟨h.o.of_heap (heap_setChan_other _ _ _ _ _ _ _ _ _ (fun e => hq.o_c e.symm)), ⟨sn, rn, ?_⟩, h.p5.of_heap (heap_setChan_other _ _ _ _ _ _ _ _ _ hq.c_5), h.p6.of_heap (heap_setChan_other _ _ _ _ _ _ _ _ _ hq.c_6), below_setChan h.b _ _ _ _ _ _ _ hq.hgc⟩
  rw [heap_setChan_self _ _ _ _ _ _ _ _ hgc]
  have e : (natsV (k :: q)).toArray.extract 1 (natsV (k :: q)).toArray.size = (natsV q).toArray := by simp [natsV, List.take_of_length_le]
  rw [e]
theorem look_q (h : QIs go gc g5 g6 n w0 s w) (hq : QAt go gc g5 g6 w0.heap.size) {k : Nat} (hk : k < n) (hl : s.1.length = n) (hn : n ≤ 100000) (hroom : s.2.length + falsesN s.1 ≤ n) :
    Calls Try.prog 62 #[.int .i64 k, .pointer (some ⟨g5, 0, none⟩), .pointer (some ⟨g6, 0, none⟩)] w fun e w' => e = .returned (.tuple #[]) ∧ QIs go gc g5 g6 n w0 (lookN s k) w' ∧ Beside go gc w w' := by
  by_cases hf : s.1.getD k false = true
  · refine (look_old k n s.1 g5 g6 go w hk hl hn (h.p5.cell (k := 0) rfl) h.o hf).mono ?_
    rintro e w' ⟨he, rfl⟩
    have e2 : lookN s k = s := by unfold lookN; rw [if_pos hf]
    rw [e2]
    exact ⟨he, h, rfl, fun _ _ _ => rfl⟩
  · have hf' : s.1.getD k false = false := by simpa using hf
    have h1 := falsesN_set s.1 k (by omega) hf'
    obtain ⟨sn, rn, hc⟩ := h.c
    refine (look_new k n s.1 g5 g6 go gc sn rn (natsV s.2).toArray w hk hl hn (h.p5.cell (k := 0) rfl) (h.p6.cell (k := 0) rfl) h.o hc (by simp [natsV]; omega) hf' hq.o_6 hq.o_c).mono ?_
    rintro e w' ⟨he, rfl⟩
    refine ⟨he, h.look hq hf', ⟨?_, fun j h1 h2 => ?_⟩⟩
    · rw [size_setChan]; simp
    · rw [heap_setChan_other _ _ _ _ _ _ _ _ _ h2, Below.heap_setCell _ _ _ _ h1]
end
end Go.Proofs.Ytgalkidhgjgbhaa
