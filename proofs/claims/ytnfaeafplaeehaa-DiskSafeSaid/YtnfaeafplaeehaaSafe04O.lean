import Derived.Test.YtnfaeafplaeehaaSafe04
import Derived.Test.YtnfaeafplaeehaaDiskO
set_option maxRecDepth 100000
set_option linter.unusedVariables false
set_option linter.unusedSimpArgs false
namespace Go.Proofs.Ytnfaeafplaeehaa
open Go.RowKit Go.ChangeShapes Go.WideShapes
theorem DiskSafe_walk (W : World) {b0 : Nat} {v0 v1 v2 : Value} (hv0 : Value.okWide Try.prog W .any b0 51 v0) (h0 : Opens Try.prog W 51 v0) (hv1 : Value.okWide Try.prog W .any b0 51 v1) (h1 : Opens Try.prog W 51 v1) (hv2 : Value.okWide Try.prog W .any b0 52 v2) (h2 : Opens Try.prog W 52 v2) :
    Calls Try.prog 5 #[v0, v1, v2] W fun e W' => e = .returned (.bool true) ∧ Below W.heap.size W W' := by
  obtain ⟨l0, A0, c0, rfl, hr0, -⟩ := Opens.u8s hv0 h0
  obtain ⟨l1, A1, c1, rfl, hr1, -⟩ := Opens.u8s hv1 h1
  obtain ⟨l2, A2, c2, rfl, hr2, -⟩ := Opens.picks hv2 h2
  exact law04_Safe l0 l1 A0 A1 A2 c0 c1 c2 l2 W hr0 hr1 hr2 hr2.2.1
end Go.Proofs.Ytnfaeafplaeehaa
