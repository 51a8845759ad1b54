import Derived.Test.YtnfaeafplaeehaaEarlyW
import Derived.Test.YtnfaeafplaeehaaOpenPfx
import Derived.Test.YtnfaeafplaeehaaOpenInt
set_option maxRecDepth 100000
set_option linter.unusedVariables false
set_option linter.unusedSimpArgs false
namespace Go.Proofs.Ytnfaeafplaeehaa
open Go.RowKit Go.ChangeShapes Go.WideShapes
def Pfx.ok (p : Pfx) : Prop := (0 ≤ p.a ∧ p.a ≤ 4294967295) ∧ -9223372036854775808 ≤ p.l ∧ p.l ≤ 9223372036854775807
theorem Opens.pfxs {W : World} {b0 : Nat} {v : Value} (hv : Value.okWide Try.prog W .any b0 63 v) (h : Opens Try.prog W 63 v) : ∃ l A c, v = .slice A (List.length l) c ∧ Row W 2 A l.length (l.flatMap Pfx.cells) ∧ ∀ p ∈ l, Pfx.ok p := by
  obtain ⟨A, n, c, rfl⟩ := okWide_slice Try.underlying63 hv
  obtain ⟨l, rfl, ho, hr, -⟩ := Opens.rowm (B := 16) (M := 2) Pfx.cells Pfx.ok (fun _ => rfl) (by omega) Try.underlying63 (by kernel_rfl) (by omega) (by kernel_rfl) (fun m cs' hx => by
    obtain ⟨a, l, e, h1, h2⟩ := Op.prefix_ hx
    exact ⟨⟨a, l⟩, e, h1, h2⟩) h
  exact ⟨l, A, c, rfl, hr, ho⟩
theorem RouteEarly_walk (W : World) {b0 : Nat} {v0 v1 : Value} (hv0 : Value.okWide Try.prog W .any b0 63 v0) (h0 : Opens Try.prog W 63 v0) (hv1 : Value.okWide Try.prog W .any b0 3 v1) (h1 : Opens Try.prog W 3 v1) :
    Calls Try.prog 6 #[v0, v1] W fun e W' => e = .returned (.bool true) ∧ Below W.heap.size W W' := by
  obtain ⟨l, A, c, rfl, hr, -⟩ := Opens.pfxs hv0 h0
  obtain ⟨x, rfl, hx⟩ := Opens.int hv1 h1
  exact law09_Early l A c x W hr hx
end Go.Proofs.Ytnfaeafplaeehaa
