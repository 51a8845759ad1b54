/- own texts of this claim, one behind the other: see the remarks within -/
import Derived.Test.YtnfaeafplaeehaaGreatDist
import Derived.Test.YtnfaeafplaeehaaGreatMrgE
section
set_option linter.unusedVariables false
set_option linter.unusedSimpArgs false
namespace Go.Proofs.YtnfaeafplaeehaaGreat
open Go.RowKit Go.ChangeShapes Go.WideShapes

def betterB (s1 m1 s2 m2 : Int) : Bool := decide (s2 < s1 ∨ s1 = s2 ∧ m1 < m2)
def lawBeyondM (m c : Int) : Int := beyondM m c

theorem law03_Better (s1 m1 s2 m2 : Int) (w : World) : Calls Tryz.prog 39 #[.agg #[.int .u32 s1, .int .u16 m1], .agg #[.int .u32 s2, .int .u16 m2]] w
    fun e w' => e = .returned (.bool (betterB s1 m1 s2 m2)) ∧ Below w.heap.size w w' := by
  by_cases h1 : s2 < s1
  · have HB := Lib.hid (show betterB s1 m1 s2 m2 = true by simp [betterB, h1])
    go_enter Tryz.func39, Tryz.ntmps39
    go_wp2
    go_ret
    exact ⟨by rw [HB.out]; simp, ((Below.refl _ _).alloc (Nat.le_refl _) _).alloc (by simp) _⟩
  · by_cases h2 : s1 = s2
    · subst h2
      have HB := Lib.hid (show betterB s1 m1 s1 m2 = decide (m1 < m2) by simp [betterB])
      go_enter Tryz.func39, Tryz.ntmps39
      go_wp2
      all_goals
        go_ret
        exact ⟨by rw [HB.out]; simp, ((Below.refl _ _).alloc (Nat.le_refl _) _).alloc (by simp) _⟩
    · have HB := Lib.hid (show betterB s1 m1 s2 m2 = false by simp [betterB]; omega)
      have h3 : (s1 == s2) = false := by simpa using h2
      clear h2
      go_enter Tryz.func39, Tryz.ntmps39
      go_wp2
      go_ret
      exact ⟨by rw [HB.out]; simp, ((Below.refl _ _).alloc (Nat.le_refl _) _).alloc (by simp) _⟩

end Go.Proofs.YtnfaeafplaeehaaGreat
end
section
set_option linter.unusedVariables false
set_option linter.unusedSimpArgs false
namespace Go.Proofs.YtnfaeafplaeehaaGreat
open Go.RowKit Go.ChangeShapes Go.WideShapes

theorem distCmp_better (s1 m1 s2 m2 : Int) (h : betterB s1 m1 s2 m2 = true) : distCmp s1 m1 s2 m2 = 1 ∧ distCmp s2 m2 s1 m1 = -1 ∧ betterB s2 m2 s1 m1 = false ∧ ¬ (s1 = s2 ∧ m1 = m2) := by
  simp only [betterB, decide_eq_true_eq, decide_eq_false_iff_not] at *
  unfold distCmp orI cmpI
  refine ⟨?_, ?_, by omega, by omega⟩ <;> (repeat' split) <;> omega
theorem distCmp_same (s m : Int) : distCmp s m s m = 0 ∧ betterB s m s m = false := by
  simp [betterB, distCmp, orI, cmpI]
theorem better_tri (s1 m1 s2 m2 : Int) (h : betterB s1 m1 s2 m2 = false) (h' : betterB s2 m2 s1 m1 = false) : s1 = s2 ∧ m1 = m2 := by
  simp only [betterB, decide_eq_false_iff_not] at *
  omega
theorem distCmp_nonneg (s1 m1 s2 m2 : Int) : 0 ≤ distCmp s1 m1 s2 m2 ↔ (s2 < s1 ∨ s1 = s2 ∧ m1 ≤ m2) := by
  unfold distCmp orI cmpI
  (repeat' split) <;> omega
theorem distCmp_trans (s1 m1 s2 m2 s3 m3 : Int) (h : 0 ≤ distCmp s1 m1 s2 m2) (h' : 0 ≤ distCmp s2 m2 s3 m3) : 0 ≤ distCmp s1 m1 s3 m3 := by
  rw [distCmp_nonneg] at *
  omega

end Go.Proofs.YtnfaeafplaeehaaGreat
end
