import Derived.Test.YtnfaeafplaeehaaDiskX
import Derived.Test.YtnfaeafplaeehaaOpenPfx
import Derived.Test.YtnfaeafplaeehaaOpenInt
import Derived.Test.YtnfaeafplaeehaaOpenBytes
set_option maxRecDepth 100000
set_option linter.unusedVariables false
set_option linter.unusedSimpArgs false
namespace Go.Proofs.Ytnfaeafplaeehaa
open Go.RowKit Go.ChangeShapes Go.WideShapes
def Pk.ok (p : Pk) : Prop := (-9223372036854775808 ≤ p.how ∧ p.how ≤ 9223372036854775807) ∧ (-9223372036854775808 ≤ p.at_ ∧ p.at_ ≤ 9223372036854775807) ∧ 0 ≤ p.turn ∧ p.turn ≤ 4294967295
theorem Op.pick {W : World} {n : Nat} {cs : List Value} (h : Op Try.prog W n 81 cs) : ∃ p : Pk, cs = p.cells ∧ p.ok := by
  obtain ⟨hl, m, hf⟩ := Op.struct Try.underlying81 h
  rw [show Try.prog.cellsOf 81 = 3 by kernel_rfl] at hl
  match cs, hl with
  | [c0, c1, c2], _ =>
    have h0 : Op Try.prog W m 3 (([c0, c1, c2].drop 0).take (Try.prog.cellsOf 3)) := hf 0 _ rfl
    rw [show Try.prog.cellsOf 3 = 1 by kernel_rfl] at h0
    have h1 : Op Try.prog W m 3 (([c0, c1, c2].drop 1).take (Try.prog.cellsOf 3)) := hf 1 _ rfl
    rw [show Try.prog.cellsOf 3 = 1 by kernel_rfl] at h1
    have h2 : Op Try.prog W m 23 (([c0, c1, c2].drop 2).take (Try.prog.cellsOf 23)) := hf 2 _ rfl
    rw [show Try.prog.cellsOf 23 = 1 by kernel_rfl] at h2
    obtain ⟨x0, e0, w0⟩ := Op.int Try.underlying3 h0
    obtain ⟨x1, e1, w1⟩ := Op.int Try.underlying3 h1
    obtain ⟨x2, e2, w2⟩ := Op.int Try.underlying23 h2
    simp at e0 e1 e2
    subst e0; subst e1; subst e2
    exact ⟨⟨x0, x1, x2⟩, rfl, bounds_i64 w0, bounds_i64 w1, bounds_u32 w2⟩
theorem Opens.picks {W : World} {b0 : Nat} {v : Value} (hv : Value.okWide Try.prog W .any b0 52 v) (h : Opens Try.prog W 52 v) : ∃ l A c, v = .slice A (List.length l) c ∧ Row W 3 A l.length (l.flatMap Pk.cells) ∧ ∀ p ∈ l, Pk.ok p := by
  obtain ⟨A, n, c, rfl⟩ := okWide_slice Try.underlying52 hv
  obtain ⟨l, rfl, ho, hr, -⟩ := Opens.rowm (B := 24) (M := 3) Pk.cells Pk.ok (fun _ => rfl) (by omega) Try.underlying52 (by kernel_rfl) (by omega) (by kernel_rfl) (fun m cs' hx => Op.pick hx) h
  exact ⟨l, A, c, rfl, hr, ho⟩
end Go.Proofs.Ytnfaeafplaeehaa
