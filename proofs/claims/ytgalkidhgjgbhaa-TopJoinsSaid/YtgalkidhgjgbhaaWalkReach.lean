/-
  The walk of the reference's Reached.
-/
import Derived.Test.YtgalkidhgjgbhaaWalkNext
import Derived.Deep.OwnRows
namespace Go.Proofs.Ytgalkidhgjgbhaa
open Go.RowKit
set_option linter.unusedVariables false

theorem info_bool : (Try.prog.info? 4).map (fun i => (i.zero, i.size, i.bytes)) = some (some (.bool false), 1, 1) := by kernel_rfl
def boolsV (l : List Bool) : List Value := l.map Value.bool
theorem boolsV_length (l : List Bool) : (boolsV l).length = l.length := by simp [boolsV]
theorem boolsV_set (l : List Bool) (k : Nat) (b : Bool) : (boolsV l).set k (.bool b) = boolsV (l.set k b) := by unfold boolsV; rw [List.map_set]
theorem boolsV_get (l : List Bool) (k : Nat) (hk : k < l.length) : (boolsV l)[k]? = some (.bool (l.getD k false)) := by simp [boolsV, hk]
theorem madeCells_one (z : Value) (n : Nat) : madeCells #[z] n = Array.replicate n z := by
  unfold madeCells
  apply Array.ext
  · simp
  · intro i h1 h2
    simp [Nat.mod_one]
theorem made_take (z : Value) (n : Nat) : (madeCells #[z] n).toList.take n = List.replicate n z := by rw [madeCells_one]; simp
theorem Reads.set_ne {w : World} {B size n : Nat} {A : Option Addr} {xs : List Value} (h : Reads w B size A n xs) {p : Addr} (hne : ∀ ad, A = some ad → ad.block ≠ p.block) (u : Value) : Reads (w.setCell p u) B size A n xs :=
  ⟨h.1, fun hn => by
    obtain ⟨ad, e, hb, hc⟩ := h.2 hn
    refine ⟨ad, e, hb, fun j v hv => ?_⟩
    rw [World.cell?_setCell_other _ _ _ _ (fun e2 => hne ad e (by rw [← block_of_add ad j, ← e2]))]
    exact hc j v hv⟩
/-- An int's cell. -/
theorem cellNat {w : World} {B n : Nat} {A : Option Addr} {l : List Nat} (h : Reads w B 1 A n (natsV l)) {k : Nat} (hk : k < n) : ∃ b off, A = some ⟨b, off, none⟩ ∧ b < B ∧ w.cell? ⟨b, off + k, none⟩ = some (.int .i64 (l.getD k 0 : Nat)) := by
  obtain ⟨ad, rfl, hb, hc⟩ := h.2 (by omega)
  have hn : n = l.length := by have := h.1; simp [natsV] at this; omega
  have hg : ∀ j, j < n → (natsV l)[j]? = some (.int .i64 (l.getD j 0 : Nat)) := fun j hj => by simp [natsV, show j < l.length by omega]
  obtain ⟨b, off, spot⟩ := ad
  have h0 := hc 0 _ (hg 0 (by omega))
  have hsp : spot = none := by simpa [Addr.add] using World.cell?_spot h0
  subst hsp
  refine ⟨b, off, rfl, hb, ?_⟩
  rw [← hc k _ (hg k hk)]
  unfold Addr.add
  by_cases h0 : k = 0
  · subst h0; simp
  · rw [if_neg h0]

def TellsBools (l : List Bool) (w : World) (e : Ending) (w' : World) : Prop := ∃ A c, e = .returned (.slice A l.length c) ∧ Reads w' w'.heap.size 1 A l.length (boolsV l) ∧ Below w.heap.size w w' ∧ ∀ ad, A = some ad → w.heap.size ≤ ad.block
def setsN (o : List Bool) (ts : List Nat) : List Bool := ts.foldl (fun o to => o.set to true) o
theorem setsN_snoc (o : List Bool) (ts : List Nat) (t : Nat) : setsN o (ts ++ [t]) = (setsN o ts).set t true := by unfold setsN; rw [List.foldl_append]; rfl
theorem setsN_length (o : List Bool) (ts : List Nat) : (setsN o ts).length = o.length := foldl_set_length ts o
theorem take_snocM (l : List Nat) (k : Nat) (hk : k < l.length) : l.take (k + 1) = l.take k ++ [l.getD k 0] := by
  rw [List.take_succ_eq_append_getElem hk]; simp [hk]

theorem nextN_len (l : List I) (n : Nat) : (nextN l n).length ≤ 2 := by
  unfold nextN
  split
  · simp
  · split
    · simp
    · split <;> simp
theorem getD_mem' {l : List Nat} {i : Nat} (hi : i < l.length) : l.getD i 0 ∈ l := by
  have : l.getD i 0 = l[i] := by simp [hi]
  rw [this]; exact List.getElem_mem hi

set_option maxRecDepth 100000 in
set_option maxHeartbeats 8000000 in
theorem refReached_any (l : List I) (hok : ∀ i ∈ l, i.Ok) (hP : FormedP l) (A : Option Addr) (n c : Nat) (w : World) (hr : Reads w w.heap.size 4 A n (cellsI l)) (cell : Nat) (hcell : cell < 16) :
    Calls Try.prog 49 #[.slice A n c, .int .i64 cell] w (TellsBools (ruptoN l cell l.length) w) := by
  have hl : n = l.length := by have := hr.1; rw [cellsI_length] at this; omega
  have hn0 : 0 < n := by have := hP.pos; omega
  have hn1 : n ≤ 4096 := by have := hP.le; omega
  obtain ⟨i0, hi0, hz0, hz1, hz2⟩ := info_parts info_bool
  have HL := Lib.hid hl
  have HP := Lib.hid hP
  clear hl hP
  go_enter Try.func49, Try.ntmps49
  have hb0 : RowK (w.alloc (.cells (madeCells #[.bool false] n) 4)) w.heap.size 4 n (boolsV (List.replicate n false)) := by
    have := RowK.new w 4 (madeCells #[.bool false] n) (boolsV (List.replicate n false)) (by rw [boolsV_length, List.length_replicate, made_take]; simp [boolsV])
    rwa [size_madeCells] at this
  have hB0 : Below w.heap.size w (w.alloc (.cells (madeCells #[.bool false] n) 4)) := (Below.refl _ w).alloc (Nat.le_refl _) _
  go_wp2_with (refine wpList_make_row _ rfl (.tmp 12) (.tmp 12) 87 rfl 4 i0 (.bool false) Try.underlying87 hi0 hz0 hz1 rfl .i64 .i64 n rfl rfl (by rw [hz2]; omega) (by omega) ?_; generalize (w.alloc (.cells (madeCells #[.bool false] n) 4)) = w0 at *; have hc0 := hb0.cell (boolsV_get _ 0 (by rw [List.length_replicate]; exact hn0)); have hf0 := hb0.frozen 0)
  have hs0 : RowK (w0.setCell ⟨w.heap.size, 0, none⟩ (.bool true)) w.heap.size 4 n (boolsV (ruptoN l cell 0)) := by
    have := hb0.set_ 0 (.bool true)
    rw [boolsV_set] at this
    have e : ruptoN l cell 0 = (List.replicate n false).set 0 true := by unfold ruptoN rstartN; rw [HL.out]; rfl
    rw [e]; exact this
  have hBs := hB0.setCell (p := ⟨w.heap.size, 0, none⟩) (Nat.le_refl _) (.bool true)
  clear hb0 hB0 hc0 hf0
  generalize (w0.setCell ⟨w.heap.size, 0, none⟩ (.bool true)) = w1 at *
  go_loopw [6] (fun i wr => ∃ k : Nat, k ≤ n ∧ i = .int .i64 k ∧ RowK wr w.heap.size 4 n (boolsV (ruptoN l cell k)) ∧ Below w.heap.size w wr) (fun i _ => n - (intOf i).toNat)
  case atStart => exact ⟨0, by omega, rfl, hs0, hBs⟩
  case round =>
    obtain ⟨k, hk, rfl, hb, hB⟩ := hrel
    by_cases hlt : k < n
    · have hrw := (hr.below hB).more hB.size
      obtain ⟨b, off, rfl, hbb, h0', h1', h2', h3'⟩ := hrw.at4 hlt
      have hok' := getD_ok hok (k := k) (by have := HL.out; omega)
      have hkl : k < l.length := by have := HL.out; omega
      have hof : ∀ W, Calls Try.prog 28 #[.int .u16 (l.getD k default).code] W fun e w' => e = .returned (.tuple #[.int .i64 (kd (l.getD k default) : Nat), .bool (kx (l.getD k default))]) ∧ Below W.heap.size W w' := fun W => refOf_any _ hok'.1 W
      have hstep := ruptoN_succ l cell k
      unfold rstepN at hstep
      have hul := ruptoN_length l cell k
      have hco := hb.cell (boolsV_get _ k (by rw [hul]; exact hkl))
      have hnx := (HP.out).next hkl
      have hnl := nextN_len l k
      have hcalls := fun W h => refNext_any l hok (some ⟨b, off, none⟩) n c W h (by omega) k hlt
      rw [← HL.out] at hul hnx
      generalize hon : (ruptoN l cell k).getD k false = ok at *
      generalize nextN l k = nx at *
      generalize ruptoN l cell k = o0 at *
      have hdl := kd_le (l.getD k default)
      generalize kd (l.getD k default) = d at *
      generalize kx (l.getD k default) = x at *
      generalize l.getD k default = i at *
      obtain ⟨xc, xt, xf, xk⟩ := i
      obtain ⟨p1, p2, p3, p4⟩ := hok'
      simp only at h0' h1' h2' h3' p1 p2 p3 p4 hof hstep
      have HOF := Lib.hid hof
      have HST := Lib.hid hstep
      have HU := Lib.hid hul
      have HNX := Lib.hid hnx
      have HC := Lib.hid hcalls
      have HR := Lib.hid hr
      have z0 : (0 : Int) ≤ (k : Int) := by omega
      have z1 : (k : Int) < (n : Int) := by omega
      clear hof hstep hul hnx hcalls hs0 hBs h1' h2' hon hkl hrw hr
      go_wp2_with fail
      refine (HOF.out _).mono ?_
      rintro e w2 ⟨rfl, hB2⟩
      have hb2 := hb.below hB2 hb.lt
      have hB2w := hB.trans (hB2.mono hB.size)
      have g3 := cell_of_below' hB2 h3' (.inl trivial)
      have gc := cell_of_below' hB2 hco (.inl trivial)
      clear hb hB hB2 h0' h3' hco HOF
      by_cases hskip : ok = false ∨ (isSt d ∧ xk = cell)
      · have hs := HST.out
        rw [if_pos hskip] at hs
        have HS := Lib.hid hs
        clear hs HST
        have hcases : ok = false ∨ ok = true ∧ isSt d ∧ xk = cell := by
          cases ok
          · exact .inl rfl
          · rcases hskip with h | h
            · cases h
            · exact .inr ⟨rfl, h⟩
        clear hskip
        rcases hcases with rfl | ⟨rfl, hst, rfl⟩
        · go_wp2_with fail
          go_roundw
          case rel => exact ⟨k + 1, by omega, by go_num, by rw [HS.out]; exact hb2, hB2w⟩
          case measure => simp [intOf] <;> omega
        · have hself : ((xk : Int) == (xk : Int)) = true := by simp
          rcases hst with rfl | rfl
          all_goals
            go_wp2_with fail
            go_roundw
            case rel => exact ⟨k + 1, by omega, by go_num, by rw [HS.out]; exact hb2, hB2w⟩
            case measure => simp [intOf] <;> omega
      · have hs := HST.out
        rw [if_neg hskip] at hs
        have hs' : ruptoN l cell (k + 1) = setsN o0 nx := hs
        have HS := Lib.hid hs'
        have hok1 : ok = true := by cases ok <;> simp_all
        subst hok1
        have hcases : (((d : Int) == 8) = false ∧ ((d : Int) == 9) = false) ∨ (((d : Int) == 8) = true ∧ ((xk : Int) == (cell : Int)) = false) ∨ (((d : Int) == 8) = false ∧ ((d : Int) == 9) = true ∧ ((xk : Int) == (cell : Int)) = false) := by
          unfold isSt at hskip
          simp only [beq_eq_false_iff_ne, beq_iff_eq, ne_eq]
          omega
        clear hs hs' HST hskip
        rcases hcases with ⟨n8, n9⟩ | ⟨n8, nc⟩ | ⟨n8, n9, nc⟩
        all_goals
          go_wp2_with fail
          refine (HC.out _ ((HR.out.below hB2w).more hB2w.size)).mono ?_
          rintro e w3 ⟨At, ct, rfl, hrt, hB3, hfresh⟩
          have hb3 := hb2.below hB3 hb2.lt
          have hB3w := hB2w.trans (hB3.mono hB2w.size)
          have hglt := hb2.lt
          clear g3 gc hb2 hB3
          go_wp2_with fail
          go_loopw [10] (fun i wr => ∃ j : Nat, j ≤ nx.length ∧ i = .int .i64 j ∧ RowK wr w.heap.size 4 n (boolsV (setsN o0 (nx.take j))) ∧ Reads wr w3.heap.size 1 At nx.length (natsV nx) ∧ Below w.heap.size w wr) (fun i _ => nx.length - (intOf i).toNat)
          case atStart => exact ⟨0, by omega, rfl, hb3, hrt, hB3w⟩
          case round =>
            obtain ⟨j, hj, rfl, hbj, hrj, hBj⟩ := hrel
            by_cases hlt2 : j < nx.length
            · obtain ⟨b2, off2, rfl, hbb2, hcj⟩ := cellNat hrj hlt2
              have hin := HNX.out (nx.getD j 0) (getD_mem' hlt2)
              have htk := take_snocM nx j hlt2
              have hlen0 : (setsN o0 (nx.take j)).length = n := by rw [setsN_length]; exact HU.out
              generalize hto : nx.getD j 0 = to at *
              have hco := hbj.cell (boolsV_get _ to (by rw [hlen0]; exact hin.2))
              have hfr := hbj.frozen to
              have hset := hbj.set_ to (.bool true)
              rw [boolsV_set, ← setsN_snoc, ← htk] at hset
              have hrj2 := hrj.set_ne (p := ⟨w.heap.size, to, none⟩) (fun ad e => by have := hfresh ad e; simp; omega) (.bool true)
              have hBj2 := hBj.setCell (p := ⟨w.heap.size, to, none⟩) (Nat.le_refl _) (.bool true)
              have y0 : (0 : Int) ≤ (to : Int) := by omega
              have y1 : (to : Int) < (n : Int) := by omega
              have y2 : (0 : Int) ≤ (j : Int) := by omega
              clear hin htk hlen0 hto hbj hrj hBj hb3 hrt hB3w
              go_wp2_with fail
              go_roundw
              case rel => exact ⟨j + 1, by omega, by go_num, hset, hrj2, hBj2⟩
              case measure => simp [intOf] <;> omega
            · obtain rfl : j = nx.length := by omega
              rw [List.take_length] at hbj
              clear hrj hb3 hrt hB3w
              go_wp2_with fail
              go_roundw
              case rel => exact ⟨k + 1, by omega, by go_num, by rw [HS.out]; exact hbj, hBj⟩
              case measure => simp [intOf] <;> omega
    · obtain rfl : k = n := by omega
      have hrd := hb.reads
      have hul := ruptoN_length l cell k
      rw [boolsV_length, hul, ← HL.out] at hrd
      have HU := Lib.hid hul
      clear hs0 hBs hb hul
      go_wp2_with fail
      go_ret
      refine ⟨some ⟨w.heap.size, 0, none⟩, k, ?_, ?_, hB, fun ad e => by cases e; exact Nat.le_refl _⟩
      · rw [ruptoN_length, ← HL.out]
        rfl
      · rw [ruptoN_length, ← HL.out]
        exact hrd
end Go.Proofs.Ytgalkidhgjgbhaa
