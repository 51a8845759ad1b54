import Derived.Test.YtnfaeafplaeehaaOpenPfx
import Derived.Test.YtnfaeafplaeehaaKeys
set_option maxRecDepth 100000
set_option linter.unusedVariables false
set_option linter.unusedSimpArgs false
namespace Go.Proofs.Ytnfaeafplaeehaa
open Go.RowKit Go.ChangeShapes Go.WideShapes

theorem Op.key {W : World} {n : Nat} {cs : List Value} (h : Op Try.prog W n 27 cs) : ∃ a l i, cs = [.int .u32 a, .int .i64 l, .int .u32 i] ∧ (0 ≤ a ∧ a ≤ 4294967295) ∧ (-9223372036854775808 ≤ l ∧ l ≤ 9223372036854775807) ∧ 0 ≤ i ∧ i ≤ 4294967295 := by
  obtain ⟨hl, m, hf⟩ := Op.struct Try.underlying27 h
  rw [show Try.prog.cellsOf 27 = 3 by kernel_rfl] at hl
  match cs, hl with
  | [a, b, c], _ =>
    have h0 : Op Try.prog W m 25 (([a, b, c].drop 0).take (Try.prog.cellsOf 25)) := hf 0 _ rfl
    have h1 : Op Try.prog W m 23 (([a, b, c].drop 2).take (Try.prog.cellsOf 23)) := hf 1 _ rfl
    rw [show Try.prog.cellsOf 25 = 2 by kernel_rfl] at h0
    rw [show Try.prog.cellsOf 23 = 1 by kernel_rfl] at h1
    obtain ⟨x, l, hx, wx, wl⟩ := Op.prefix_ h0
    obtain ⟨y, hy, wy⟩ := Op.int Try.underlying23 h1
    simp at hx hy
    obtain ⟨rfl, rfl⟩ := hx
    subst hy
    exact ⟨x, l, y, rfl, wx, wl, bounds_u32 wy⟩
theorem Opens.key {W : World} {b0 : Nat} {v : Value} (hv : Value.okWide Try.prog W .any b0 27 v) (h : Opens Try.prog W 27 v) :
    ∃ k : Key, v = k.val := by
  obtain ⟨cs, rfl, _⟩ := okWide_struct Try.underlying27 hv
  obtain ⟨n, h⟩ := h
  obtain ⟨a, l, i, hcs, -⟩ := Op.key h
  refine ⟨⟨a, l, i⟩, ?_⟩
  unfold Key.val
  congr 1
  exact Array.ext' (by simpa [Value.cells] using hcs)
end Go.Proofs.Ytnfaeafplaeehaa
