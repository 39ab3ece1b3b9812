/-
  How many instructions some way leads to, place by place.
-/
import Derived.Test.YtgalkidhgjgbhaaAsmBehind
import Derived.Test.YtgalkidhgjgbhaaAsmFew
namespace Go.Proofs.Ytgalkidhgjgbhaa
set_option linter.unusedVariables false

/-- The count when the first i items have been gone through. -/
def manyN (l : List It) (i : Nat) : Nat := plN l (fun _ => false) (cnt l i)
theorem manyN_zero (l : List It) : manyN l 0 = 0 := rfl
theorem manyN_mark {l : List It} {i : Nat} (hi : i < l.length) (hm : (l.getD i default).mark ≠ 0) : manyN l (i + 1) = manyN l i := by
  unfold manyN
  rw [cnt_succ l i hi, if_neg hm]
theorem manyN_ins {l : List It} {i : Nat} (hi : i < l.length) (hm : (l.getD i default).mark = 0) : manyN l (i + 1) = manyN l i + if reachB l (cnt l i) = true then 1 else 0 := by
  unfold manyN
  rw [cnt_succ l i hi, if_pos hm, plN_succ]
  unfold szN
  simp
theorem manyN_all (l : List It) : manyN l l.length = plN l (fun _ => false) (ins l).length := by
  unfold manyN
  rw [cnt_all]
theorem manyN_le (l : List It) {i : Nat} (hi : i ≤ l.length) : manyN l i ≤ i := by
  have h := posN_one _ (szN_few l) 0 (cnt l i)
  have h2 := cnt_le l i hi
  rw [Nat.zero_add] at h
  have h3 : posN (szN l fun _ => false) 0 = 0 := rfl
  unfold manyN plN
  omega
end Go.Proofs.Ytgalkidhgjgbhaa
