import Derived.Test.YtnfaeafplaeehaaOpenGen
set_option maxRecDepth 100000
set_option linter.unusedVariables false
set_option linter.unusedSimpArgs false
namespace Go.Proofs.Ytnfaeafplaeehaa
open Go.RowKit Go.ChangeShapes Go.WideShapes

theorem Opens.ints {W : World} {b0 : Nat} {v : Value} (hv : Value.okWide Try.prog W .any b0 91 v) (h : Opens Try.prog W 91 v) : ∃ l A c, v = .slice A (List.length l) c ∧ Row W 1 A l.length (l.map (Value.int .i64)) := by
  obtain ⟨A, n, c, rfl⟩ := okWide_slice Try.underlying91 hv
  obtain ⟨l, rfl, -, hr, -⟩ := Opens.row1 (B := 8) (Value.int .i64) (fun _ => True) Try.underlying91 (by kernel_rfl) (by omega) (by kernel_rfl) (fun m cs' hx => by
    obtain ⟨x, hx, _⟩ := Op.int Try.underlying3 hx
    exact ⟨x, hx, trivial⟩) h
  exact ⟨l, A, c, rfl, hr⟩
end Go.Proofs.Ytnfaeafplaeehaa
