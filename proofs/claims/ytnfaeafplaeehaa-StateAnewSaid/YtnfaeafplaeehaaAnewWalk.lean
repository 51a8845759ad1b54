import Derived.Test.YtnfaeafplaeehaaAnew
import Derived.Test.YtnfaeafplaeehaaOpenRecs
import Derived.Test.YtnfaeafplaeehaaOpenInt
set_option maxRecDepth 100000
set_option linter.unusedVariables false
set_option linter.unusedSimpArgs false
namespace Go.Proofs.Ytnfaeafplaeehaa
open Go.RowKit Go.ChangeShapes Go.WideShapes
theorem StateAnew_walk (W : World) {b0 : Nat} {v0 v1 v2 : Value} (hv0 : Value.okWide Try.prog W .any b0 23 v0) (h0 : Opens Try.prog W 23 v0)
    (hv1 : Value.okWide Try.prog W .any b0 22 v1) (h1 : Opens Try.prog W 22 v1) (hv2 : Value.okWide Try.prog W .any b0 3 v2) (h2 : Opens Try.prog W 3 v2) :
    Calls Try.prog 10 #[v0, v1, v2] W fun e W' => e = .returned (.bool true) ∧ Below W.heap.size W W' := by
  obtain ⟨id, rfl, -⟩ := Opens.u32 hv0 h0
  obtain ⟨l, A, c, rfl, hr, ho⟩ := Opens.recs hv1 h1
  obtain ⟨x, rfl, -⟩ := Opens.int hv2 h2
  exact StateAnew_all id x l A c W hr ho
end Go.Proofs.Ytnfaeafplaeehaa
