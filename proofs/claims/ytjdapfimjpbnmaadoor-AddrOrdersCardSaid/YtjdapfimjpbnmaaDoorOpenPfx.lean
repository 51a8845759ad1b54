import Derived.Test.YtjdapfimjpbnmaaDoorOpenGen
set_option maxRecDepth 100000
set_option linter.unusedVariables false
set_option linter.unusedSimpArgs false
namespace Go.Proofs.YtjdapfimjpbnmaaDoor
open Go.RowKit Go.ChangeShapes Go.WideShapes

theorem Op.prefix_ {W : World} {n : Nat} {cs : List Value} (h : Op Tryd.prog W n 24 cs) : ∃ a l, cs = [.int .u32 a, .int .i64 l] ∧ (0 ≤ a ∧ a ≤ 4294967295) ∧ -9223372036854775808 ≤ l ∧ l ≤ 9223372036854775807 := by
  obtain ⟨hl, m, hf⟩ := Op.struct Tryd.underlying24 h
  rw [show Tryd.prog.cellsOf 24 = 2 by kernel_rfl] at hl
  match cs, hl with
  | [a, b], _ =>
    have h0 : Op Tryd.prog W m 22 (([a, b].drop 0).take (Tryd.prog.cellsOf 22)) := hf 0 _ rfl
    have h1 : Op Tryd.prog W m 3 (([a, b].drop 1).take (Tryd.prog.cellsOf 3)) := hf 1 _ rfl
    rw [show Tryd.prog.cellsOf 22 = 1 by kernel_rfl] at h0
    rw [show Tryd.prog.cellsOf 3 = 1 by kernel_rfl] at h1
    obtain ⟨x, hx, wx⟩ := Op.int Tryd.underlying22 h0
    obtain ⟨y, hy, wy⟩ := Op.int Tryd.underlying3 h1
    simp at hx hy
    subst hx; subst hy
    exact ⟨x, y, rfl, bounds_u32 wx, bounds_i64 wy⟩
end Go.Proofs.YtjdapfimjpbnmaaDoor
