/-
  The forms in memory, one by one.
-/
import Derived.Test.YtpinnockcnmofaaGreatDoorWalkForms3
import Derived.Test.YtpinnockcnmofaaGreatDoorKinds3
namespace Go.Proofs.YtpinnockcnmofaaGreatDoor
open Go.RowKit
set_option linter.unusedVariables false

theorem flat_getD {α : Type} (f : α → List Value) (s : Nat) (hf : ∀ x, (f x).length = s) (d : α) (l : List α) (k j : Nat) (hk : k < l.length) (hj : j < s) : (l.flatMap f)[k * s + j]? = (f (l.getD k d))[j]? := by
  induction l generalizing k with
  | nil => simp at hk
  | cons i l ih =>
    rw [List.flatMap_cons]
    cases k with
    | zero =>
      rw [List.getElem?_append_left (by rw [hf]; omega)]
      simp
    | succ k =>
      rw [List.getElem?_append_right (by rw [hf, Nat.succ_mul]; omega)]
      rw [show (k + 1) * s + j - (f i).length = k * s + j by rw [hf, Nat.succ_mul]; omega, ih k (by simpa using hk)]
      simp
/-- A form's five cells. -/
theorem Reads.atF {w : World} {B n : Nat} {A : Option Addr} {l : List Fm} (h : Reads w B 5 A n (cellsF l)) (hn : 0 < n) :
    ∃ b off, A = some ⟨b, off, none⟩ ∧ b < B ∧ ∀ k, k < n → (w.cell? ⟨b, off + k * 5, none⟩ = some (strV (l.getD k default).word) ∧ w.cell? ⟨b, off + k * 5 + 1, none⟩ = some (strV (l.getD k default).other) ∧
      w.cell? ⟨b, off + k * 5 + 2, none⟩ = some (.int .u16 (l.getD k default).code) ∧ w.cell? ⟨b, off + k * 5 + 3, none⟩ = some (.bool (l.getD k default).x) ∧ w.cell? ⟨b, off + k * 5 + 4, none⟩ = some (.bool (l.getD k default).jumps)) := by
  obtain ⟨ad, rfl, hb, hc⟩ := h.2 (by omega)
  have hn : n = l.length := by have := h.1; rw [cellsF_length] at this; omega
  have hg := fun k (hk : k < n) j (hj : j < 5) => flat_getD Fm.vals 5 (fun _ => rfl) default l k j (by omega) hj
  obtain ⟨b, off, spot⟩ := ad
  have h0 := hc (0 * 5 + 0) _ ((hg 0 (by omega) 0 (by omega)).trans rfl)
  have hsp : spot = none := by simpa [Addr.add] using World.cell?_spot h0
  subst hsp
  refine ⟨b, off, rfl, hb, fun k hk => ?_⟩
  have key : ∀ j u, j < 5 → (Fm.vals (l.getD k default))[j]? = some u → w.cell? ⟨b, off + k * 5 + j, none⟩ = some u := by
    intro j u hj hu
    have := hc (k * 5 + j) u ((hg k hk j hj).trans hu)
    rw [← this]
    unfold Addr.add
    by_cases h0 : k * 5 + j = 0
    · rw [if_pos h0, show off + k * 5 + j = off by omega]
    · rw [if_neg h0]; simp [Nat.add_assoc]
  exact ⟨key 0 _ (by omega) rfl, key 1 _ (by omega) rfl, key 2 _ (by omega) rfl, key 3 _ (by omega) rfl, key 4 _ (by omega) rfl⟩
theorem fms_code_lt : ∀ f ∈ fms, f.code < 65536 := by decide
theorem getD_mem_fms {k : Nat} (h : k < 41) : fms.getD k default ∈ fms := by
  have h41 : k < fms.length := by rw [fms_length]; exact h
  rw [List.getD_eq_getElem?_getD, List.getElem?_eq_getElem h41]
  exact List.getElem_mem _
theorem info_string : (Tryz.prog.info? 9).map (fun i => (i.zero, i.size, i.bytes)) = some (some (.string ⟨#[]⟩), 1, 16) := by kernel_rfl
theorem find_first {α : Type} (p : α → Bool) (d : α) : ∀ (l : List α) (k : Nat), k < l.length → (∀ m, m < k → p (l.getD m d) = false) → p (l.getD k d) = true → l.find? p = some (l.getD k d)
  | [], k, h, _, _ => by simp at h
  | x :: l, 0, _, _, h => by
    have h' : p x = true := h
    simp [h']
  | x :: l, k + 1, hk, hno, h => by
    have h0 : p x = false := hno 0 (by omega)
    rw [List.find?_cons, h0]
    exact find_first p d l k (by simpa using hk) (fun m hm => hno (m + 1) (by omega)) h
theorem lineWords_at {i : I} {k : Nat} {f : Fm} (hk : k < 41) (hf : fms.getD k default = f) (hno : ∀ m, m < k → (fms.getD m default).fits i = false) (h : f.fits i = true) : lineWords i = f.words i := by
  have := find_first (fun g => Fm.fits g i) default fms k (by rw [fms_length]; exact hk) hno (by rw [hf]; exact h)
  rw [hf] at this
  exact (lineWords_form this).2.2
theorem lineWords_raw {i : I} (hno : ∀ m, m < 41 → (fms.getD m default).fits i = false) : lineWords i = rawWords i := by
  have : fms.find? (·.fits i) = none := by
    rw [List.find?_eq_none]
    intro x hx
    obtain ⟨m, hm, rfl⟩ := List.getElem_of_mem hx
    have h41 : m < 41 := by rw [fms_length] at hm; exact hm
    have := hno m h41
    rw [List.getD_eq_getElem?_getD, List.getElem?_eq_getElem hm] at this
    simpa using this
  unfold lineWords
  rw [this]
/-- strings.Join of words that a call has laid. -/
theorem join_own (ws : List Bs) (hc : ∀ x ∈ ws, Clean x) (h0 : ws ≠ []) (hl : ws.length ≤ 100) (B : Nat) (v : Value) (n : Nat) (W : World) (hown : W.ownsRow B 9 1 v n (ws.map strV)) :
    Calls Tryz.prog 37 #[v, .string ⟨#[32]⟩] W fun e w' => e = .returned (strV (Lib.join ws [32])) ∧ Below W.heap.size W w' := by
  have hn : n = ws.length := by have := hown.1; simpa using this.symm
  subst hn
  rcases hown.2 with ⟨_, h⟩ | ⟨g, cap, cur, rfl, hg, hh, h1, h2, h3, h4⟩
  · exact absurd (List.length_eq_zero_iff.1 h) h0
  · have hmap : (ws.map fun x => (⟨x.toArray⟩ : ByteArray)).map (·.data.toList) = ws := by
      rw [List.map_map]
      conv => rhs; rw [← List.map_id ws]
      exact List.map_congr_left fun x _ => rfl
    have hj := join_len ws hc
    have h := sh_strings_Join g 0 cap (ws.map fun x => (⟨x.toArray⟩ : ByteArray)) ⟨#[32]⟩ W (fun j x hx => by
      rw [Lib.cell_of_heap hh]
      rw [List.getElem?_map] at hx
      obtain ⟨y, hy, rfl⟩ := Option.map_eq_some_iff.1 hx
      have hjl : j < ws.length := (List.getElem?_eq_some_iff.1 hy).1
      have e1 : (cur.toList.take (ws.length * 1))[j]? = some (strV y) := by
        rw [h4, List.getElem?_map, hy]; rfl
      rw [List.getElem?_take, if_pos (by omega)] at e1
      rw [Nat.zero_add]
      simpa [strV] using e1) (Array.getElem?_eq_some_iff.1 hh).1 (by rw [List.length_map]; omega) (by rw [List.length_map]; exact h1) (by
        rw [hmap, show (⟨#[32]⟩ : ByteArray).data.toList = [32] from rfl]
        omega)
    rw [List.length_map, hmap, show (⟨#[32]⟩ : ByteArray).data.toList = [32] from rfl] at h
    exact h
/-- A slice literal, out of slots, as a row of the call's own. -/
theorem Any.sx_builtOwn {P : Program} {ops : Array Oper} {Q : Exit → Act → World → Prop} {S : Tmp → Kd} {a0 : Act} {w0 : World} {o : Oper} (d : Tmp) (t e : TypeId) (len size : Nat) (parts : Array (Nat × Operand)) (vals : Array (Nat × Value)) (cells : List Value) (hw : Any.Runs ops S o) (ho : o.op = .buildSlice t len parts) (hd : o.dst = some d)
    (hp : ∀ (a : Act) (w : World), Any.Ctx ops S a0 w0 o a w → (parts.map fun (i, x) => (i, a.eval x)) = vals) (hb : ∀ w, (Instr.buildSlice t len vals).run P w = .ok (.slice (some ⟨w.heap.size, 0, none⟩) len len) (w.alloc (.cells cells.toArray e))) (hl : cells.length = len * size) (hm : len ≤ maxLen)
    (hS : S d = .own e size len cells) : Any.St P ops Q S a0 w0 o :=
  Any.st_run hw fun a w hc => by
    unfold Oper.wp execOp
    simp only [ho, hp a w hc, Sem.run_bind, hb w, Result.andThen_ok]
    refine ⟨_, rfl, fun d' hd' => ?_, (Grows.refl w).alloc _⟩
    rw [hd] at hd'
    cases hd'
    rw [hS]
    exact ⟨hl, .inr ⟨w.heap.size, len, cells.toArray, rfl, Nat.zero_le _, heap_alloc_new w _, Nat.le_refl _, hm, by simpa using hl, by show List.take (len * size) cells = cells; rw [← hl, List.take_length]⟩⟩
theorem cells5 {W : World} {g : Nat} {a b c d e : Value} {t : TypeId} {fr : Nat × Nat} (h : W.heap[g]? = some (.cells #[a, b, c, d, e] t fr)) :
    W.cell? ⟨g, 0, none⟩ = some a ∧ W.cell? ⟨g, 1, none⟩ = some b ∧ W.cell? ⟨g, 2, none⟩ = some c ∧ W.cell? ⟨g, 3, none⟩ = some d ∧ W.cell? ⟨g, 4, none⟩ = some e := by simp [World.cell?, h]
theorem cells4 {W : World} {g : Nat} {a b c d : Value} {t : TypeId} {fr : Nat × Nat} (h : W.heap[g]? = some (.cells #[a, b, c, d] t fr)) :
    W.cell? ⟨g, 0, none⟩ = some a ∧ W.cell? ⟨g, 1, none⟩ = some b ∧ W.cell? ⟨g, 2, none⟩ = some c ∧ W.cell? ⟨g, 3, none⟩ = some d := by simp [World.cell?, h]
end Go.Proofs.YtpinnockcnmofaaGreatDoor
