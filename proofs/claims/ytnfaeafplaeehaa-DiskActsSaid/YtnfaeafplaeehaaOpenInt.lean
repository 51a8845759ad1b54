import Derived.Test.YtnfaeafplaeehaaOpenGen
set_option maxRecDepth 100000
set_option linter.unusedVariables false
set_option linter.unusedSimpArgs false
namespace Go.Proofs.Ytnfaeafplaeehaa
open Go.RowKit Go.ChangeShapes Go.WideShapes

theorem Opens.int {W : World} {b0 : Nat} {v : Value} (hv : Value.okWide Try.prog W .any b0 3 v) (h : Opens Try.prog W 3 v) : ∃ x, v = .int .i64 x ∧ -9223372036854775808 ≤ x ∧ x ≤ 9223372036854775807 := by
  obtain ⟨x, rfl⟩ := okWide_int Try.underlying3 hv
  obtain ⟨n, h⟩ := h
  obtain ⟨y, hy, wy⟩ := Op.int Try.underlying3 h
  simp [Value.cells] at hy
  subst hy
  exact ⟨x, rfl, bounds_i64 wy⟩
theorem Opens.u32 {W : World} {b0 : Nat} {v : Value} (hv : Value.okWide Try.prog W .any b0 23 v) (h : Opens Try.prog W 23 v) : ∃ x, v = .int .u32 x ∧ 0 ≤ x ∧ x ≤ 4294967295 := by
  obtain ⟨x, rfl⟩ := okWide_int Try.underlying23 hv
  obtain ⟨n, h⟩ := h
  obtain ⟨y, hy, wy⟩ := Op.int Try.underlying23 h
  simp [Value.cells] at hy
  subst hy
  exact ⟨x, rfl, bounds_u32 wy⟩
end Go.Proofs.Ytnfaeafplaeehaa
