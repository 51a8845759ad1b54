import Derived.Test.YtgmdjhokcipajaaTlvP6
import Derived.Test.YtgmdjhokcipajaaTlvO
import Derived.Test.YtgmdjhokcipajaaOpenBytes
set_option linter.unusedVariables false
namespace Go.Proofs.Ytgmdjhokcipajaa
open Go.RowKit Go.ChangeShapes Go.WideShapes
theorem C_of_bytes {W : World} {A : Option Addr} {L : List Int} (h : Row W 1 A L.length (L.map (Value.int .u8))) : YtgmdjhokcipajaaW.PrintWords.Kd.C (YtgmdjhokcipajaaW.PrintWords.Kd.int .u8) W A L.length L := by
  refine YtgmdjhokcipajaaQ.PTlv.C_of_row (fun x => [Value.int .u8 x]) 1 (fun _ => rfl) rfl (fun x => rfl) ?_
  rw [show L.flatMap (fun x => [Value.int .u8 x]) = L.map (Value.int .u8) from by clear h; induction L <;> simp_all]
  exact h
theorem TlvPads_walk (W : World) {b0 b1 b2 b3 : Nat} {v0 v1 v2 v3 : Value} (a0 : Value.okWide Try.prog W .any b0 60 v0) (h0 : Opens Try.prog W 60 v0) (a1 : Value.okWide Try.prog W .any b1 22 v1) (h1 : Opens Try.prog W 22 v1)
    (a2 : Value.okWide Try.prog W .any b2 5 v2) (h2 : Opens Try.prog W 5 v2) (a3 : Value.okWide Try.prog W .any b3 22 v3) (h3 : Opens Try.prog W 22 v3) :
    Calls Try.prog 13 #[v0, v1, v2, v3] W fun e W' => e = .returned (.bool true) ∧ Below W.heap.size W W' := by
  obtain ⟨L, A, c, rfl, hc, hC, ho⟩ := YtgmdjhokcipajaaQ.PTlv.open_upds a0 h0
  have l1 := fun A n c (e : v1 = .slice A n c) => YtgmdjhokcipajaaQ.PTlv.opens_le Try.underlying22 (e ▸ h1)
  have l3 := fun A n c (e : v3 = .slice A n c) => YtgmdjhokcipajaaQ.PTlv.opens_le Try.underlying22 (e ▸ h3)
  obtain ⟨P, A1, c1, rfl, r1, -⟩ := Opens.u8s a1 h1
  obtain ⟨x, A3, c3, rfl, r3, hx⟩ := Opens.u8s a3 h3
  obtain ⟨kd, rfl, k0, k1⟩ := Opens.u8 a2 h2
  exact YtgmdjhokcipajaaQ.PTlv.wayfarerlaw08_TlvPads.calls 5000 A c L A1 c1 P kd A3 c3 x true W hC hc (C_of_bytes r1) (l1 _ _ _ rfl) (C_of_bytes r3) (l3 _ _ _ rfl) (YtgmdjhokcipajaaQ.PTlv.pads_true L ho P kd ⟨k0, k1⟩ x hx)
end Go.Proofs.Ytgmdjhokcipajaa
