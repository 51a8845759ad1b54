import Derived.Test.YtnfaeafplaeehaaOpenGen
set_option maxRecDepth 100000
set_option linter.unusedVariables false
set_option linter.unusedSimpArgs false
namespace Go.Proofs.Ytnfaeafplaeehaa
open Go.RowKit Go.ChangeShapes Go.WideShapes

theorem Op.dist {W : World} {n : Nat} {cs : List Value} (h : Op Try.prog W n 30 cs) : ∃ s m, cs = [.int .u32 s, .int .u16 m] ∧ (0 ≤ s ∧ s ≤ 4294967295) ∧ 0 ≤ m ∧ m ≤ 65535 := by
  obtain ⟨hl, m, hf⟩ := Op.struct Try.underlying30 h
  rw [show Try.prog.cellsOf 30 = 2 by kernel_rfl] at hl
  match cs, hl with
  | [a, b], _ =>
    have h0 : Op Try.prog W m 23 (([a, b].drop 0).take (Try.prog.cellsOf 23)) := hf 0 _ rfl
    have h1 : Op Try.prog W m 28 (([a, b].drop 1).take (Try.prog.cellsOf 28)) := hf 1 _ rfl
    rw [show Try.prog.cellsOf 23 = 1 by kernel_rfl] at h0
    rw [show Try.prog.cellsOf 28 = 1 by kernel_rfl] at h1
    obtain ⟨x, hx, wx⟩ := Op.int Try.underlying23 h0
    obtain ⟨y, hy, wy⟩ := Op.int Try.underlying28 h1
    simp at hx hy
    subst hx; subst hy
    exact ⟨x, y, rfl, bounds_u32 wx, bounds_u16 wy⟩
theorem Opens.dist {W : World} {b0 : Nat} {v : Value} (hv : Value.okWide Try.prog W .any b0 30 v) (h : Opens Try.prog W 30 v) :
    ∃ s m, v = .agg #[.int .u32 s, .int .u16 m] ∧ (0 ≤ s ∧ s ≤ 4294967295) ∧ 0 ≤ m ∧ m ≤ 65535 := by
  obtain ⟨cs, rfl, _⟩ := okWide_struct Try.underlying30 hv
  obtain ⟨n, h⟩ := h
  obtain ⟨s, m, hcs, hs, hm⟩ := Op.dist h
  refine ⟨s, m, ?_, hs, hm⟩
  congr 1
  exact Array.ext' (by simpa [Value.cells] using hcs)
end Go.Proofs.Ytnfaeafplaeehaa
