import Derived.Test.YtjdapfimjpbnmaaScrP8
import Derived.Test.YtjdapfimjpbnmaaOpenInt
set_option maxRecDepth 100000
set_option linter.unusedVariables false
namespace Go.Proofs.Ytjdapfimjpbnmaa
open Go.RowKit Go.ChangeShapes Go.WideShapes
theorem ScriptMany_walk (W : World) {b0 : Nat} {v0 : Value} (a0 : Value.okWide Try.prog W .any b0 3 v0) (h0 : Opens Try.prog W 3 v0) :
    Calls Try.prog 5 #[v0] W fun e W' => e = .returned (.bool true) ∧ Below W.heap.size W W' := by
  obtain ⟨n, rfl, -⟩ := Opens.int a0 h0
  exact YtjdapfimjpbnmaaQ.PScr.wayfarerlaw14_ScriptMany.calls 200000 n true W (YtjdapfimjpbnmaaQ.PScr.many_true 200000 (Nat.le_refl _) n)
end Go.Proofs.Ytjdapfimjpbnmaa
