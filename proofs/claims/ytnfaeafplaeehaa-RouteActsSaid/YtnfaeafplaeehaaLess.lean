import Derived.Test.YtnfaeafplaeehaaLaw02
set_option linter.unusedVariables false
set_option linter.unusedSimpArgs false
namespace Go.Proofs.Ytnfaeafplaeehaa
open Go.RowKit
def lessB (a l c m : Int) : Bool := decide (a < c ∨ a = c ∧ l < m)
theorem law02_Less (a l c m : Int) (w : World) : Calls Try.prog 51 #[.agg #[.int .u32 a, .int .i64 l], .agg #[.int .u32 c, .int .i64 m]] w fun e w' => e = .returned (.bool (lessB a l c m)) ∧ Below w.heap.size w w' := by
  have hb0 := ((Below.refl w.heap.size w).alloc (Nat.le_refl _) (.cells #[.int .u32 a, .int .i64 l] 25)).alloc (by simp) (.cells #[.int .u32 c, .int .i64 m] 25)
  by_cases h : a < c
  · have HL := Lib.hid (show lessB a l c m = true by simp [lessB, h])
    go_enter Try.func51, Try.ntmps51
    go_wp2
    go_ret
    exact ⟨by rw [HL.out]; rfl, hb0⟩
  · have h' : decide (a < c) = false := decide_eq_false h
    by_cases h2 : a = c
    · have h2' : (a == c) = true := by simpa using h2
      have HL := Lib.hid (show lessB a l c m = decide (l < m) by simp [lessB, h2])
      clear h2 h
      go_enter Try.func51, Try.ntmps51
      go_wp2
      go_ret
      exact ⟨by rw [HL.out]; rfl, hb0⟩
    · have h2' : (a == c) = false := by simpa using h2
      have HL := Lib.hid (show lessB a l c m = false by simp [lessB, h, h2])
      clear h2 h
      go_enter Try.func51, Try.ntmps51
      go_wp2
      go_ret
      exact ⟨by rw [HL.out]; rfl, hb0⟩
end Go.Proofs.Ytnfaeafplaeehaa
