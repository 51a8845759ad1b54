import Derived.Test.YtgmdjhokcipajaaTlvP5
import Derived.Test.YtgmdjhokcipajaaTlvO
import Derived.Test.YtgmdjhokcipajaaOpenInt
set_option linter.unusedVariables false
namespace Go.Proofs.Ytgmdjhokcipajaa
open Go.RowKit Go.ChangeShapes Go.WideShapes
theorem TlvTells_walk (W : World) {b0 b1 : Nat} {v0 v1 : Value} (a0 : Value.okWide Try.prog W .any b0 60 v0) (h0 : Opens Try.prog W 60 v0) (a1 : Value.okWide Try.prog W .any b1 3 v1) (h1 : Opens Try.prog W 3 v1) :
    Calls Try.prog 10 #[v0, v1] W fun e W' => e = .returned (.bool true) ∧ Below W.heap.size W W' := by
  obtain ⟨L, A, c, rfl, hc, hC, ho⟩ := YtgmdjhokcipajaaQ.PTlv.open_upds a0 h0
  obtain ⟨x, rfl, -⟩ := Opens.int a1 h1
  exact YtgmdjhokcipajaaQ.PTlv.wayfarerlaw08_TlvTells.calls 40000 A c L x true W hC hc (YtgmdjhokcipajaaQ.PTlv.tells_true L ho x)
end Go.Proofs.Ytgmdjhokcipajaa
