/-
  Bytes and instructions as plain data, and how they lie in memory.
-/
import Derived.Test.YtpinnockcnmofaaGreatDoorBase
import Derived.Laws.BytesArg
namespace Go.Proofs.YtpinnockcnmofaaGreatDoor
open Go.RowKit

structure I where
  code : Nat
  jt : Nat
  jf : Nat
  k : Nat
  deriving DecidableEq, Inhabited

def I.Ok (i : I) : Prop := i.code < 65536 ∧ i.jt < 256 ∧ i.jf < 256 ∧ i.k < 4294967296
def I.vals (i : I) : List Value := [.int .u16 i.code, .int .u8 i.jt, .int .u8 i.jf, .int .u32 i.k]
def cellsI (l : List I) : List Value := l.flatMap I.vals
def bytesV (l : List Nat) : List Value := l.map fun n : Nat => Value.int .u8 (n : Int)

theorem cellsI_length (l : List I) : (cellsI l).length = l.length * 4 := by
  induction l with
  | nil => rfl
  | cons i l ih => unfold cellsI at ih ⊢; rw [List.flatMap_cons, List.length_append, ih, List.length_cons]; simp [I.vals]; omega
theorem cellsI_append (a b : List I) : cellsI (a ++ b) = cellsI a ++ cellsI b := by unfold cellsI; rw [List.flatMap_append]
theorem bytesV_append (a b : List Nat) : bytesV (a ++ b) = bytesV a ++ bytesV b := by unfold bytesV; rw [List.map_append]
theorem bytesV_length (l : List Nat) : (bytesV l).length = l.length := by simp [bytesV]
theorem cellsI_get (l : List I) (k j : Nat) (hk : k < l.length) (hj : j < 4) : (cellsI l)[k * 4 + j]? = (I.vals (l.getD k default))[j]? := by
  induction l generalizing k with
  | nil => simp at hk
  | cons i l ih =>
    unfold cellsI at ih ⊢
    rw [List.flatMap_cons]
    cases k with
    | zero =>
      rw [List.getElem?_append_left (by simp [I.vals]; omega)]
      simp
    | succ k =>
      rw [List.getElem?_append_right (by simp [I.vals]; omega)]
      have := ih k (by simpa using hk)
      rw [show (k + 1) * 4 + j - (I.vals i).length = k * 4 + j by simp [I.vals]; omega, this]
      simp

/-- An element's four cells. -/
theorem Reads.at4 {w : World} {B n : Nat} {A : Option Addr} {l : List I} (h : Reads w B 4 A n (cellsI l)) {k : Nat} (hk : k < n) :
    ∃ b off, A = some ⟨b, off, none⟩ ∧ b < B ∧ w.cell? ⟨b, off + k * 4, none⟩ = some (.int .u16 (l.getD k default).code) ∧ w.cell? ⟨b, off + k * 4 + 1, none⟩ = some (.int .u8 (l.getD k default).jt) ∧
      w.cell? ⟨b, off + k * 4 + 2, none⟩ = some (.int .u8 (l.getD k default).jf) ∧ w.cell? ⟨b, off + k * 4 + 3, none⟩ = some (.int .u32 (l.getD k default).k) := by
  obtain ⟨ad, rfl, hb, hc⟩ := h.2 (by omega)
  have hn : n = l.length := by have := h.1; rw [cellsI_length] at this; omega
  have hg := fun j (hj : j < 4) => cellsI_get l k j (by omega) hj
  obtain ⟨b, off, spot⟩ := ad
  have h0 := hc (0 * 4 + 0) _ ((cellsI_get l 0 0 (by omega) (by omega)).trans rfl)
  have hsp : spot = none := by simpa [Addr.add] using World.cell?_spot h0
  subst hsp
  have key : ∀ j u, j < 4 → (I.vals (l.getD k default))[j]? = some u → w.cell? ⟨b, off + k * 4 + j, none⟩ = some u := by
    intro j u hj hu
    have := hc (k * 4 + j) u ((hg j hj).trans hu)
    rw [← this]
    unfold Addr.add
    by_cases h0 : k * 4 + j = 0
    · rw [if_pos h0, show off + k * 4 + j = off by omega]
    · rw [if_neg h0]; simp [Nat.add_assoc]
  exact ⟨b, off, rfl, hb, key 0 _ (by omega) rfl, key 1 _ (by omega) rfl, key 2 _ (by omega) rfl, key 3 _ (by omega) rfl⟩

/-- A byte's cell. -/
theorem Reads.at1 {w : World} {B n : Nat} {A : Option Addr} {l : List Nat} (h : Reads w B 1 A n (bytesV l)) {k : Nat} (hk : k < n) :
    ∃ b off, A = some ⟨b, off, none⟩ ∧ b < B ∧ ∀ j, j < n → w.cell? ⟨b, off + j, none⟩ = some (.int .u8 ((l.getD j 0 : Nat) : Int)) := by
  obtain ⟨ad, rfl, hb, hc⟩ := h.2 (by omega)
  have hn : n = l.length := by have := h.1; rw [bytesV_length] at this; omega
  have hg : ∀ j, j < n → (bytesV l)[j]? = some (.int .u8 ((l.getD j 0 : Nat) : Int)) := fun j hj => by
    simp [bytesV, show j < l.length by omega]
  obtain ⟨b, off, spot⟩ := ad
  have h0 := hc 0 _ (hg 0 (by omega))
  have hsp : spot = none := by simpa [Addr.add] using World.cell?_spot h0
  subst hsp
  refine ⟨b, off, rfl, hb, fun j hj => ?_⟩
  rw [← hc j _ (hg j hj)]
  unfold Addr.add
  by_cases h0 : j = 0
  · subst h0; simp
  · rw [if_neg h0]

def writeI (i : I) : List Nat := [i.code % 256, i.code / 256, i.jt, i.jf, i.k % 256, i.k / 256 % 256, i.k / 65536 % 256, i.k / 16777216]
def writeN (l : List I) : List Nat := l.flatMap writeI
theorem writeN_append (a b : List I) : writeN (a ++ b) = writeN a ++ writeN b := by unfold writeN; rw [List.flatMap_append]
theorem writeN_length (l : List I) : (writeN l).length = 8 * l.length := by
  induction l with
  | nil => rfl
  | cons i l ih => unfold writeN at ih ⊢; rw [List.flatMap_cons, List.length_append, ih, List.length_cons]; simp [writeI]; omega
theorem take_snocI (l : List I) (k : Nat) (hk : k < l.length) : l.take (k + 1) = l.take k ++ [l.getD k default] := by
  rw [List.take_succ_eq_append_getElem hk]; simp [hk]
theorem writeN_take (l : List I) (k : Nat) (hk : k < l.length) : writeN (l.take (k + 1)) = writeN (l.take k) ++ writeI (l.getD k default) := by
  rw [take_snocI l k hk, writeN_append]
  simp [writeN]
theorem getD_ok {l : List I} (h : ∀ i ∈ l, i.Ok) {k : Nat} (hk : k < l.length) : (l.getD k default).Ok := by
  have : l.getD k default = l[k] := by simp [hk]
  rw [this]; exact h _ (List.getElem_mem hk)

theorem cells_new (W : World) (l : List Value) (e : TypeId) (b : Nat) (hb : b = W.heap.size) (j : Nat) (u : Value) (hu : l[j]? = some u) : (W.alloc (.cells l.toArray e)).cell? ((⟨b, 0, none⟩ : Addr).add j) = some u := by
  subst hb
  have : (⟨W.heap.size, 0, none⟩ : Addr).add j = ⟨W.heap.size, j, none⟩ := by unfold Addr.add; split <;> simp_all
  rw [this, World.cell?_alloc_at _ _ _ _ rfl]
  simpa using hu

/-- append of what a literal has just laid, onto a row of the call's own. -/
theorem wpList_append_lit {P : Program} {ops : Array Oper} {rest : List Oper} {o : Oper} {a : Act} {Q : Exit → Act → World → Prop} (hgd : o.guard = none) (s x : Operand) (t : TypeId)
    (ho : o.op = .call { callee := .builtin .append, args := #[s, x], argTypes := #[t, t] })
    (base : Nat) (e : TypeId) (i : TypeInfo) (z : Value) (size bytes : Nat) (ht : P.underlying t = some (.slice e)) (hi : P.info? e = some i) (hz : i.zero = some z)
    (hsize : i.size = size) (hby : i.bytes = bytes) (hzs : z.cells.size = size) (hsz : 0 < size)
    (w : World) (v : Value) (n : Nat) (xs : List Value) (hs : a.eval s = v) (hown : w.ownsRow base e size v n xs)
    (b m c : Nat) (hb : b = w.heap.size) (news : List Value) (hx : a.eval x = .slice (some ⟨b, 0, none⟩) m c) (hl : news.length = m * size) (h1 : ∀ u ∈ news, u.oneCell' = true)
    (h63 : n + m ≤ maxLen) (hbytes : (n + m) * bytes ≤ 140737488355328) (hbase : base ≤ w.heap.size)
    (h : ∀ v' w', w'.ownsRow base e size v' (n + m) (xs ++ news) → Below base w w' → w.heap.size < w'.heap.size → wpList P ops Q rest (a.put o.dst v') w') :
    wpList P ops Q (o :: rest) a (w.alloc (.cells news.toArray e)) := by
  refine wpList_append_own _ hgd s x t ho base e i z size bytes ht hi hz hsize hby hzs hsz v n xs hs (hown.alloc _) ⟨b, 0, none⟩ m c news hx hl (cells_new w news e b hb) h1 h63 hbytes (by simp; omega) ?_
  intro v' w' h2 h3 _
  refine h v' w' h2 ?_ (by have := h3.size; simp at this; omega)
  refine Below.grown ((Below.refl base w).alloc hbase _) h3 (by simp; omega) (fun k hk => ?_)
  exact (hown.lt k hk).1

theorem below_held {B : Nat} {w wr w1 : World} {o : Obj} {v : Value} {e : TypeId} {size n : Nat} {xs : List Value} (hB : Below B w wr) (hs : B ≤ wr.heap.size) (hg : (wr.alloc o).drew.grownBy w1 v.ownBlock) (hown : wr.ownsRow B e size v n xs) : Below B w w1 :=
  (hB.trans (((Below.refl B wr).alloc hs o).drew)).grown hg (by simp; omega) (fun k hk => (hown.lt k hk).1)

theorem own_reads {w : World} {base : Nat} {e : TypeId} {size : Nat} {v : Value} {n : Nat} {xs : List Value} (h : w.ownsRow base e size v n xs) : ∃ A c, v = .slice A n c ∧ Reads w w.heap.size size A n xs := by
  obtain ⟨hl, hc⟩ := h
  rcases hc with ⟨rfl, rfl⟩ | ⟨g, cap, cur, rfl, h1, h2, h3, h4, h5, h6⟩
  · have : xs = [] := List.eq_nil_of_length_eq_zero (by simpa using hl)
    subst this
    exact ⟨none, 0, rfl, Reads.none_⟩
  · exact ⟨_, cap, rfl, Reads.of_own ⟨hl, .inr ⟨g, cap, cur, rfl, h1, h2, h3, h4, h5, h6⟩⟩⟩

theorem reads_lit (W : World) (l : List Value) (e : TypeId) (size n : Nat) (hl : l.length = n * size) : Reads (W.alloc (.cells l.toArray e)) (W.heap.size + 1) size (some ⟨W.heap.size, 0, none⟩) n l :=
  ⟨hl, fun _ => ⟨_, rfl, by simp, fun j u hu => cells_new W l e _ rfl j u hu⟩⟩

/-- A string out of numbers. -/
def strB (l : List Nat) : ByteArray := strOfNums (l.map Int.ofNat)
theorem strB_toList (l : List Nat) (h : ∀ n ∈ l, n < 256) : (strB l).data.toList.map (·.toNat) = l := by
  unfold strB
  rw [strOfNums_data, List.map_map, List.map_map]
  conv => rhs; rw [← List.map_id l]
  apply List.map_congr_left
  intro n hn
  have := h n hn
  simp; omega

theorem run_conv {P : Program} {w : World} {B n c : Nat} {A : Option Addr} {l : List Nat} (h : Reads w B 1 A n (bytesV l)) (src e dst : TypeId) (hs : P.underlying src = some (.slice e)) (he : P.underlying e = some (.int .u8)) (hd : P.underlying dst = some .string) :
    (convert src dst (.slice A n c)).run P w = .ok (.string (strB l)) w := by
  have hn : n = l.length := by have := h.1; rw [bytesV_length] at this; omega
  rcases A with _ | ad
  · have h0 : n = 0 := by
      rcases Nat.eq_zero_or_pos n with h0 | h0
      · exact h0
      · obtain ⟨ad, e, _⟩ := h.2 h0; cases e
    have : l = [] := List.eq_nil_of_length_eq_zero (by omega)
    subst this
    exact run_convert_bytes_nil w src e hs he n c dst hd
  · rcases Nat.eq_zero_or_pos n with h0 | h0
    · have : l = [] := List.eq_nil_of_length_eq_zero (by omega)
      subst this
      subst h0
      rw [run_convert_bytes_string w src dst e _ 0 c hs he hd, run_bytesToString w _ 0 c [] (by simp [loadCells, loadCellsFrom])]
      rfl
    · obtain ⟨b, off, hA, _, hc⟩ := h.at1 h0
      injection hA with hA
      subst hA
      exact run_convert_bytes_arg w src e hs he b off n c (l.map Int.ofNat) (by simp [hn]) (fun i hi => by
        rw [hc i hi]
        simp [show i < l.length by omega]) dst hd
end Go.Proofs.YtpinnockcnmofaaGreatDoor
