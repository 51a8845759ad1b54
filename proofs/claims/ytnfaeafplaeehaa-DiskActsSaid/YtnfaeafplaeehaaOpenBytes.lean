import Derived.Test.YtnfaeafplaeehaaOpenGen
import Derived.Test.YtnfaeafplaeehaaOpenInt
set_option maxRecDepth 100000
set_option linter.unusedVariables false
set_option linter.unusedSimpArgs false
namespace Go.Proofs.Ytnfaeafplaeehaa
open Go.RowKit Go.ChangeShapes Go.WideShapes
theorem Opens.u8 {W : World} {b0 : Nat} {v : Value} (hv : Value.okWide Try.prog W .any b0 5 v) (h : Opens Try.prog W 5 v) : ∃ x, v = .int .u8 x ∧ 0 ≤ x ∧ x ≤ 255 := by
  obtain ⟨m, hf⟩ := h
  obtain ⟨x, hx, hw⟩ := Op.int Try.underlying5 hf
  obtain ⟨y, rfl⟩ := okWide_int Try.underlying5 hv
  simp [Value.cells] at hx
  subst hx
  exact ⟨y, rfl, bounds_u8 hw⟩
theorem Opens.u8s {W : World} {b0 : Nat} {v : Value} (hv : Value.okWide Try.prog W .any b0 51 v) (h : Opens Try.prog W 51 v) : ∃ l A c, v = .slice A (List.length l) c ∧ Row W 1 A l.length (l.map (Value.int .u8)) ∧ ∀ x ∈ l, 0 ≤ x ∧ x ≤ 255 := by
  obtain ⟨A, n, c, rfl⟩ := okWide_slice Try.underlying51 hv
  obtain ⟨l, rfl, ho, hr, -⟩ := Opens.row1 (B := 1) (Value.int .u8) (fun x => 0 ≤ x ∧ x ≤ 255) Try.underlying51 (by kernel_rfl) (by omega) (by kernel_rfl) (fun m cs' hx => by
    obtain ⟨x, hx, hw⟩ := Op.int Try.underlying5 hx
    exact ⟨x, hx, bounds_u8 hw⟩) h
  exact ⟨l, A, c, rfl, hr, ho⟩
end Go.Proofs.Ytnfaeafplaeehaa
