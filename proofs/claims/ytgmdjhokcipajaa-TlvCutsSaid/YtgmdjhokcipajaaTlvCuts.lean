import Derived.Test.YtgmdjhokcipajaaTlvP7
import Derived.Test.YtgmdjhokcipajaaTlvO
import Derived.Test.YtgmdjhokcipajaaOpenBytes
set_option linter.unusedVariables false
namespace Go.Proofs.Ytgmdjhokcipajaa
open Go.RowKit Go.ChangeShapes Go.WideShapes
theorem C_of_bytes {W : World} {A : Option Addr} {L : List Int} (h : Row W 1 A L.length (L.map (Value.int .u8))) : YtgmdjhokcipajaaW.PrintWords.Kd.C (YtgmdjhokcipajaaW.PrintWords.Kd.int .u8) W A L.length L := by
  refine YtgmdjhokcipajaaQ.PTlv.C_of_row (fun x => [Value.int .u8 x]) 1 (fun _ => rfl) rfl (fun x => rfl) ?_
  rw [show L.flatMap (fun x => [Value.int .u8 x]) = L.map (Value.int .u8) from by clear h; induction L <;> simp_all]
  exact h
theorem TlvCuts_walk (W : World) {b0 b1 b2 : Nat} {v0 v1 v2 : Value} (a0 : Value.okWide Try.prog W .any b0 60 v0) (h0 : Opens Try.prog W 60 v0) (a1 : Value.okWide Try.prog W .any b1 3 v1) (h1 : Opens Try.prog W 3 v1)
    (a2 : Value.okWide Try.prog W .any b2 22 v2) (h2 : Opens Try.prog W 22 v2) :
    Calls Try.prog 12 #[v0, v1, v2] W fun e W' => e = .returned (.bool true) ∧ Below W.heap.size W W' := by
  obtain ⟨L, A, c, rfl, hc, hC, ho⟩ := YtgmdjhokcipajaaQ.PTlv.open_upds a0 h0
  have l2 := fun A n c (e : v2 = .slice A n c) => YtgmdjhokcipajaaQ.PTlv.opens_le Try.underlying22 (e ▸ h2)
  obtain ⟨P, A1, c1, rfl, r1, hP⟩ := Opens.u8s a2 h2
  obtain ⟨x, rfl, -⟩ := Opens.int a1 h1
  exact YtgmdjhokcipajaaQ.PTlv.wayfarerlaw08_TlvCuts.calls 5000 A c L x A1 c1 P true W hC hc (C_of_bytes r1) (l2 _ _ _ rfl) (YtgmdjhokcipajaaQ.PTlv.cuts_true L ho x P hP)
end Go.Proofs.Ytgmdjhokcipajaa
