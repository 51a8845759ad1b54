import Derived.Test.YtnfaeafplaeehaaOpenGen
set_option maxRecDepth 100000
set_option linter.unusedVariables false
set_option linter.unusedSimpArgs false
namespace Go.Proofs.Ytnfaeafplaeehaa
open Go.RowKit Go.ChangeShapes Go.WideShapes

theorem Op.prefix_ {W : World} {n : Nat} {cs : List Value} (h : Op Try.prog W n 25 cs) : ∃ a l, cs = [.int .u32 a, .int .i64 l] ∧ (0 ≤ a ∧ a ≤ 4294967295) ∧ -9223372036854775808 ≤ l ∧ l ≤ 9223372036854775807 := by
  obtain ⟨hl, m, hf⟩ := Op.struct Try.underlying25 h
  rw [show Try.prog.cellsOf 25 = 2 by kernel_rfl] at hl
  match cs, hl with
  | [a, b], _ =>
    have h0 : Op Try.prog W m 23 (([a, b].drop 0).take (Try.prog.cellsOf 23)) := hf 0 _ rfl
    have h1 : Op Try.prog W m 3 (([a, b].drop 1).take (Try.prog.cellsOf 3)) := hf 1 _ rfl
    rw [show Try.prog.cellsOf 23 = 1 by kernel_rfl] at h0
    rw [show Try.prog.cellsOf 3 = 1 by kernel_rfl] at h1
    obtain ⟨x, hx, wx⟩ := Op.int Try.underlying23 h0
    obtain ⟨y, hy, wy⟩ := Op.int Try.underlying3 h1
    simp at hx hy
    subst hx; subst hy
    exact ⟨x, y, rfl, bounds_u32 wx, bounds_i64 wy⟩
end Go.Proofs.Ytnfaeafplaeehaa
