import Derived.Test.YtgmdjhokcipajaaTlx7
import Derived.Test.YtgmdjhokcipajaaOpenBytes
import Derived.Test.YtgmdjhokcipajaaOpenKd
set_option maxRecDepth 100000
set_option linter.unusedVariables false
namespace Go.Proofs.Ytgmdjhokcipajaa
open Go.RowKit Go.ChangeShapes Go.WideShapes
theorem TlvReads_walk (W : World) {b0 : Nat} {v0 : Value} (a0 : Value.okWide Try.prog W .any b0 22 v0) (h0 : Opens Try.prog W 22 v0) :
    Calls Try.prog 11 #[v0] W fun e W' => e = .returned (.bool true) ∧ Below W.heap.size W W' := by
  have l2 := fun A n c (e : v0 = .slice A n c) => opens_le Try.underlying22 (e ▸ h0)
  obtain ⟨P, A1, c1, rfl, r1, hP⟩ := Opens.u8s a0 h0
  exact YtgmdjhokcipajaaQ.PTlx.wayfarerlaw08_TlvReads.calls 20000 A1 c1 P true W (C_of_bytes r1) (l2 _ _ _ rfl) (YtgmdjhokcipajaaQ.PTlx.reads_true 20000 (Nat.le_refl _) P hP)
end Go.Proofs.Ytgmdjhokcipajaa
