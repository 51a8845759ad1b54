import Derived.Test.YtnfaeafplaeehaaLaw03
set_option linter.unusedVariables false
set_option linter.unusedSimpArgs false
namespace Go.Proofs.Ytnfaeafplaeehaa
open Go.RowKit Go.ChangeShapes Go.WideShapes

theorem distCmp_better (s1 m1 s2 m2 : Int) (h : betterB s1 m1 s2 m2 = true) : distCmp s1 m1 s2 m2 = 1 ∧ distCmp s2 m2 s1 m1 = -1 ∧ betterB s2 m2 s1 m1 = false ∧ ¬ (s1 = s2 ∧ m1 = m2) := by
  simp only [betterB, decide_eq_true_eq, decide_eq_false_iff_not] at *
  unfold distCmp orI cmpI
  refine ⟨?_, ?_, by omega, by omega⟩ <;> (repeat' split) <;> omega
theorem distCmp_same (s m : Int) : distCmp s m s m = 0 ∧ betterB s m s m = false := by
  simp [betterB, distCmp, orI, cmpI]
theorem better_tri (s1 m1 s2 m2 : Int) (h : betterB s1 m1 s2 m2 = false) (h' : betterB s2 m2 s1 m1 = false) : s1 = s2 ∧ m1 = m2 := by
  simp only [betterB, decide_eq_false_iff_not] at *
  omega
theorem distCmp_nonneg (s1 m1 s2 m2 : Int) : 0 ≤ distCmp s1 m1 s2 m2 ↔ (s2 < s1 ∨ s1 = s2 ∧ m1 ≤ m2) := by
  unfold distCmp orI cmpI
  (repeat' split) <;> omega
theorem distCmp_trans (s1 m1 s2 m2 s3 m3 : Int) (h : 0 ≤ distCmp s1 m1 s2 m2) (h' : 0 ≤ distCmp s2 m2 s3 m3) : 0 ≤ distCmp s1 m1 s3 m3 := by
  rw [distCmp_nonneg] at *
  omega

end Go.Proofs.Ytnfaeafplaeehaa
