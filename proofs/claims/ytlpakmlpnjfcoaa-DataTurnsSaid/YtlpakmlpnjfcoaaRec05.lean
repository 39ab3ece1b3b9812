/-
  A record's bytes, in plain words.
-/
import Derived.Test.YtlpakmlpnjfcoaaRefRec
import Derived.Test.YtlpakmlpnjfcoaaOpenRec
namespace Go.Proofs.Ytlpakmlpnjfcoaa
set_option linter.unusedVariables false

def argsB (l : List Nat) (big : Bool) : List Nat := l.flatMap fun n => partN n 8 big
/-- The bytes of a record with so many arguments. -/
def recPre (x : RecV) (big : Bool) (i : Nat) : List Nat := partN x.number 4 big ++ (partN x.arch 4 big ++ (partN x.pointer 8 big ++ argsB (x.args.take i) big))
def recB (x : RecV) (big : Bool) : List Nat := recPre x big 6
theorem argsB_length (l : List Nat) (big : Bool) : (argsB l big).length = 8 * l.length := by
  induction l with
  | nil => rfl
  | cons n l ih => unfold argsB at ih ⊢; rw [List.flatMap_cons, List.length_append, ih, partN_length, List.length_cons]; omega
theorem argsB_snoc (l : List Nat) (n : Nat) (big : Bool) : argsB (l ++ [n]) big = argsB l big ++ partN n 8 big := by simp [argsB]
theorem recPre_length (x : RecV) (hx : x.args.length = 6) (big : Bool) (i : Nat) (hi : i ≤ 6) : (recPre x big i).length = 16 + 8 * i := by
  unfold recPre
  rw [List.length_append, List.length_append, List.length_append, partN_length, partN_length, partN_length, argsB_length, List.length_take, hx]
  omega
theorem take_snocN (l : List Nat) (k : Nat) (hk : k < l.length) : l.take (k + 1) = l.take k ++ [l.getD k 0] := by
  rw [List.take_succ_eq_append_getElem hk]; simp [hk]
theorem recPre_succ (x : RecV) (hx : x.args.length = 6) (big : Bool) (i : Nat) (hi : i < 6) : recPre x big (i + 1) = recPre x big i ++ partN (x.args.getD i 0) 8 big := by
  unfold recPre
  rw [take_snocN _ _ (by omega), argsB_snoc]
  simp only [List.append_assoc]
theorem recB_length (x : RecV) (hx : x.args.length = 6) (big : Bool) : (recB x big).length = 64 := recPre_length x hx big 6 (Nat.le_refl _)

/-- Bytes, and noughts behind them up to 64. -/
def recAt (p : List Nat) : List Nat := p ++ List.replicate (64 - p.length) 0
theorem recAt_length (p : List Nat) (h : p.length ≤ 64) : (recAt p).length = 64 := by unfold recAt; rw [List.length_append, List.length_replicate]; omega
theorem recAt_full (p : List Nat) (h : p.length = 64) : recAt p = p := by unfold recAt; rw [h]; simp
theorem recAt_put (p : List Nat) (n width : Nat) (big : Bool) (h : p.length + width ≤ 64) : putL (recAt p) p.length width big n width = recAt (p ++ partN n width big) := by
  rw [putL_parts _ _ _ _ _ (by rw [recAt_length p (by omega)]; exact h)]
  unfold recAt
  rw [List.take_append_of_le_length (Nat.le_refl _), List.take_length, List.drop_append, List.drop_eq_nil_of_le (by omega), List.nil_append, List.drop_replicate, List.length_append, partN_length]
  rw [show 64 - p.length - (p.length + width - p.length) = 64 - (p.length + width) by omega]
theorem recAt_lt (p : List Nat) (h : ∀ b ∈ p, b < 256) : ∀ b ∈ recAt p, b < 256 := by
  intro b hb
  rcases List.mem_append.1 hb with h1 | h1
  · exact h b h1
  · have := List.eq_of_mem_replicate h1; omega
theorem bytesN_lt (n width : Nat) : ∀ b ∈ bytesN n width, b < 256 := by
  intro b hb
  obtain ⟨k, _, rfl⟩ := List.mem_map.1 hb
  omega
theorem partN_lt (n width : Nat) (big : Bool) : ∀ b ∈ partN n width big, b < 256 := by
  intro b hb
  unfold partN at hb
  split at hb
  · exact bytesN_lt n width b (List.mem_reverse.1 hb)
  · exact bytesN_lt n width b hb
theorem argsB_lt (l : List Nat) (big : Bool) : ∀ b ∈ argsB l big, b < 256 := by
  intro b hb
  obtain ⟨n, _, h⟩ := List.mem_flatMap.1 hb
  exact partN_lt n 8 big b h
theorem recPre_lt (x : RecV) (big : Bool) (i : Nat) : ∀ b ∈ recPre x big i, b < 256 := by
  intro b hb
  unfold recPre at hb
  simp only [List.mem_append] at hb
  rcases hb with h | h | h | h
  · exact partN_lt _ _ _ b h
  · exact partN_lt _ _ _ b h
  · exact partN_lt _ _ _ b h
  · exact argsB_lt _ _ b h
theorem partN_inj {n m width : Nat} {big : Bool} (h : partN n width big = partN m width big) (hn : n < 256 ^ width) (hm : m < 256 ^ width) : n = m := by
  have h2 : (bytesN n width).reverse = (bytesN m width).reverse := by
    cases big
    · have : bytesN n width = bytesN m width := h
      rw [this]
    · exact h
  have h3 := congrArg valBE h2
  rwa [bytesN_val, bytesN_val, Nat.mod_eq_of_lt hn, Nat.mod_eq_of_lt hm] at h3
theorem argsB_inj {big : Bool} : ∀ {l m : List Nat}, l.length = m.length → argsB l big = argsB m big → (∀ n ∈ l, n < 18446744073709551616) → (∀ n ∈ m, n < 18446744073709551616) → l = m
  | [], [], _, _, _, _ => rfl
  | a :: l, b :: m, hl, h, h1, h2 => by
    unfold argsB at h
    rw [List.flatMap_cons, List.flatMap_cons] at h
    obtain ⟨e1, e2⟩ := List.append_inj h (by rw [partN_length, partN_length])
    have : 256 ^ 8 = 18446744073709551616 := by decide
    have ha : a = b := partN_inj e1 (by rw [this]; exact h1 a (by simp)) (by rw [this]; exact h2 b (by simp))
    have hb : l = m := argsB_inj (by simpa using hl) e2 (fun n hn => h1 n (by simp [hn])) (fun n hn => h2 n (by simp [hn]))
    rw [ha, hb]
theorem recB_inj {x y : RecV} (hx : x.Ok) (hy : y.Ok) {big : Bool} (h : recB x big = recB y big) : x = y := by
  unfold recB recPre at h
  obtain ⟨e1, h⟩ := List.append_inj h (by rw [partN_length, partN_length])
  obtain ⟨e2, h⟩ := List.append_inj h (by rw [partN_length, partN_length])
  obtain ⟨e3, h⟩ := List.append_inj h (by rw [partN_length, partN_length])
  have l1 := hx.args
  have l2 := hy.args
  rw [List.take_of_length_le (by omega), List.take_of_length_le (by omega)] at h
  have p4 : 256 ^ 4 = 4294967296 := by decide
  have p8 : 256 ^ 8 = 18446744073709551616 := by decide
  have f1 := partN_inj e1 (by rw [p4]; exact hx.number) (by rw [p4]; exact hy.number)
  have f2 := partN_inj e2 (by rw [p4]; exact hx.arch) (by rw [p4]; exact hy.arch)
  have f3 := partN_inj e3 (by rw [p8]; exact hx.pointer) (by rw [p8]; exact hy.pointer)
  have f4 := argsB_inj (by omega) h hx.arg hy.arg
  cases x; cases y; simp_all
theorem recB_lt (x : RecV) (big : Bool) : ∀ b ∈ recB x big, b < 256 := recPre_lt x big 6
end Go.Proofs.Ytlpakmlpnjfcoaa
