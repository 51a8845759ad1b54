import Derived.Test.YtjdapfimjpbnmaaScrK
import Derived.Test.YtjdapfimjpbnmaaScrP5
import Derived.Test.YtjdapfimjpbnmaaOpenKd
set_option maxRecDepth 100000
set_option linter.unusedVariables false
namespace Go.Proofs.Ytjdapfimjpbnmaa
open Go.RowKit Go.ChangeShapes Go.WideShapes
theorem ScriptPicks_walk (W : World) {b0 : Nat} {v0 : Value} (a0 : Value.okWide Try.prog W .any b0 9 v0) (h0 : Opens Try.prog W 9 v0) :
    Calls Try.prog 6 #[v0] W fun e W' => e = .returned (.bool true) ∧ Below W.heap.size W W' := by
  obtain ⟨s, rfl⟩ := okWide_string Try.underlying9 a0
  rw [← YtjdapfimjpbnmaaQ.PScr.str_bytesOf s]
  exact law14_Picks _ (YtjdapfimjpbnmaaQ.PScr.bytesOf_byte s) W
end Go.Proofs.Ytjdapfimjpbnmaa
