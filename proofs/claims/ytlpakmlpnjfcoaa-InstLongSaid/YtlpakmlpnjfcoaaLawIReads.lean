/-
  The walk of InstReads.
-/
import Derived.Test.YtlpakmlpnjfcoaaRefRead
import Derived.Test.YtlpakmlpnjfcoaaWalkTold
import Derived.Test.YtlpakmlpnjfcoaaAwake02
namespace Go.Proofs.Ytlpakmlpnjfcoaa
open Go.RowKit
set_option linter.unusedVariables false

theorem own_empty1 (w : World) (e : TypeId) : (w.alloc (.cells #[] e)).ownsRow w.heap.size e 1 (.slice (some ⟨w.heap.size, 0, none⟩) 0 0) 0 [] :=
  ⟨by simp, .inr ⟨w.heap.size, 0, #[], rfl, Nat.le_refl _, heap_alloc_new w _, Nat.le_refl _, by simp [maxLen], rfl, by simp⟩⟩
theorem bytesV_one1 (l : List Nat) : ∀ v ∈ bytesV l, v.oneCell' = true := fun v hv => by obtain ⟨n, _, rfl⟩ := List.mem_map.1 hv; rfl
theorem below_drewN (w : World) (q : Nat) : Below w.heap.size w (w.drewN q) := ⟨rfl, rfl, rfl, Nat.le_refl _, fun _ _ => rfl⟩
theorem told_any (l : List I) (A A' : Option Addr) (n c c' : Nat) (w : World) (hr : Reads w w.heap.size 4 A n (cellsI l)) (hr' : Reads w w.heap.size 4 A' n (cellsI l)) (hn : n ≤ 1000000) :
    Calls Try.prog 47 #[.slice A n c, .slice A' n c'] w fun e w' => e = .returned (.bool true) ∧ Below w.heap.size w w' :=
  (told_yes l A A' n c c' w hr hr' hn).mono fun e w' ⟨he, q, hq⟩ => ⟨he, by rw [hq]; exact below_drewN w q⟩

set_option maxRecDepth 100000 in
set_option maxHeartbeats 2000000 in
theorem instReads_few (w : World) (l : List Nat) (hok : ∀ b ∈ l, b < 256) (A : Option Addr) (n c : Nat) (hr : Reads w w.heap.size 1 A n (bytesV l)) (hn : n ≤ 3000) :
    Calls Try.prog 18 #[.slice A n c] w fun e w' => e = .returned (.bool true) ∧ Below w.heap.size w w' := by
  obtain ⟨i0, hi0, hz0, hz1, hz2⟩ := info_parts info_u8
  have hle1 : ¬ (3000 : Int) < (n : Int) := by omega
  have hlen : (readL l).length ≤ 4096 := by
    have hl : n = l.length := by have := hr.1; rw [bytesV_length] at this; omega
    unfold readL readN
    split
    · rw [readUp_length]; omega
    · simp
  generalize hE : readE l.length = E
  go_enter Try.func18, Try.ntmps18
  go_wp2_with (at_builtin; refine wpList_append_any _ rfl (.tmp 11) (.tmp 12) 31 rfl w.heap.size 5 i0 _ 1 1 Try.underlying31 hi0 hz0 hz1 hz2 rfl (by omega) _ 0 [] rfl (own_empty1 w 5) w.heap.size A n c (bytesV l) rfl (hr.alloc (Nat.le_refl _) _) (bytesV_one1 l) (by simp only [maxLen]; omega) (by omega) (by simp) ?_; intro v1 w1 own1 hg1 hat1)
  have hB1 : Below w.heap.size w w1 := ((Below.refl _ w).alloc (Nat.le_refl _) _).grown hg1 (by simp) (fun k e => by cases e; exact Nat.le_refl _)
  rw [List.nil_append, Nat.zero_add] at own1
  obtain ⟨A1, c1, rfl, hc1, hm1, hr1⟩ := own_reads_cap own1
  clear hg1 hat1 own1
  refine (iread_any l hok A1 n c1 w1 hr1 (by omega) hc1 hm1).mono ?_
  rintro e w2 ⟨v2, rfl, own2, hB2⟩
  obtain ⟨A2, c2, rfl, hr2⟩ := own_reads own2
  have hB2w := hB1.trans (hB2.mono hB1.size)
  rw [hE]
  clear own2 hB2 hr1 hB1
  go_wp2_with fail
  refine (rread_any l hok A n c w2 ((hr.below hB2w).more hB2w.size) (by omega)).mono ?_
  rintro e w3 ⟨v3, rfl, own3, hB3⟩
  obtain ⟨A3, c3, rfl, hr3⟩ := own_reads own3
  have hB3w := hB2w.trans (hB3.mono hB2w.size)
  have hr23 := (hr2.below hB3).more hB3.size
  rw [hE]
  clear own3 hB3 hr2 hB2w
  go_wp2_with fail
  refine (told_any (readL l) A2 A3 _ c2 c3 w3 hr23 hr3 (by omega)).mono ?_
  rintro e w4 ⟨rfl, hB4⟩
  have hB4w := hB3w.trans (hB4.mono hB3w.size)
  clear hB4 hB3w
  go_wp2_with fail
  refine (awake02_any _).mono ?_
  rintro e w5 ⟨rfl, hB5⟩
  go_wp2_with fail
  go_ret
  exact ⟨rfl, hB4w.trans (hB5.mono hB4w.size)⟩
set_option maxRecDepth 100000 in
theorem instReads_walk (w : World) (l : List Nat) (hok : ∀ b ∈ l, b < 256) (A : Option Addr) (n c : Nat) (hr : Reads w w.heap.size 1 A n (bytesV l)) (_hc : n ≤ c) (_hm : c ≤ maxLen) :
    Calls Try.prog 18 #[.slice A n c] w fun e w' => e = .returned (.bool true) ∧ Below w.heap.size w w' := by
  by_cases hn : n ≤ 3000
  · exact instReads_few w l hok A n c hr hn
  · have h1 : (3000 : Int) < (n : Int) := by omega
    go_enter Try.func18, Try.ntmps18
    go_wp2_with fail
    go_ret
    exact ⟨rfl, Below.refl _ _⟩
end Go.Proofs.Ytlpakmlpnjfcoaa
