import Derived.Test.YtnfaeafplaeehaaGrowsW
import Derived.Test.YtnfaeafplaeehaaOpenRecs
import Derived.Test.YtnfaeafplaeehaaOpenKey
set_option maxRecDepth 100000
set_option linter.unusedVariables false
set_option linter.unusedSimpArgs false
namespace Go.Proofs.Ytnfaeafplaeehaa
open Go.RowKit Go.ChangeShapes Go.WideShapes
theorem StateGrows_walk (W : World) {b0 : Nat} {v0 v1 v2 : Value} (hv0 : Value.okWide Try.prog W .any b0 22 v0) (h0 : Opens Try.prog W 22 v0)
    (hv1 : Value.okWide Try.prog W .any b0 27 v1) (h1 : Opens Try.prog W 27 v1)
    (hv2 : Value.okWide Try.prog W .any b0 30 v2) (h2 : Opens Try.prog W 30 v2) :
    Calls Try.prog 4 #[v0, v1, v2] W fun e W' => e = .returned (.bool true) ∧ Below W.heap.size W W' := by
  obtain ⟨l, A, c, rfl, hr, ho⟩ := Opens.recs hv0 h0
  obtain ⟨k, rfl⟩ := Opens.key hv1 h1
  obtain ⟨s, m, rfl, -⟩ := Opens.dist hv2 h2
  exact StateGrows_all l A c k (s, m) W hr ho
end Go.Proofs.Ytnfaeafplaeehaa
