import Derived.Test.YtnfaeafplaeehaaOpenPfx
import Derived.Test.YtnfaeafplaeehaaOpenDist
import Derived.Test.YtnfaeafplaeehaaRecType
set_option maxRecDepth 100000
set_option linter.unusedVariables false
set_option linter.unusedSimpArgs false
namespace Go.Proofs.Ytnfaeafplaeehaa
open Go.RowKit Go.ChangeShapes Go.WideShapes

theorem Op.rec_ {W : World} {n : Nat} {cs : List Value} (h : Op Try.prog W n 39 cs) : ∃ r : Rec, cs = r.cells ∧ r.ok := by
  obtain ⟨hl, m, hf⟩ := Op.struct Try.underlying39 h
  rw [show Try.prog.cellsOf 39 = 9 by kernel_rfl] at hl
  match cs, hl with
  | [c0, c1, c2, c3, c4, c5, c6, c7, c8], _ =>
    have h0 : Op Try.prog W m 37 (([c0, c1, c2, c3, c4, c5, c6, c7, c8].drop 0).take (Try.prog.cellsOf 37)) := hf 0 _ rfl
    rw [show Try.prog.cellsOf 37 = 1 by kernel_rfl] at h0
    have h1 : Op Try.prog W m 23 (([c0, c1, c2, c3, c4, c5, c6, c7, c8].drop 1).take (Try.prog.cellsOf 23)) := hf 1 _ rfl
    rw [show Try.prog.cellsOf 23 = 1 by kernel_rfl] at h1
    have h2 : Op Try.prog W m 23 (([c0, c1, c2, c3, c4, c5, c6, c7, c8].drop 2).take (Try.prog.cellsOf 23)) := hf 2 _ rfl
    rw [show Try.prog.cellsOf 23 = 1 by kernel_rfl] at h2
    have h3 : Op Try.prog W m 23 (([c0, c1, c2, c3, c4, c5, c6, c7, c8].drop 3).take (Try.prog.cellsOf 23)) := hf 3 _ rfl
    rw [show Try.prog.cellsOf 23 = 1 by kernel_rfl] at h3
    have h4 : Op Try.prog W m 25 (([c0, c1, c2, c3, c4, c5, c6, c7, c8].drop 4).take (Try.prog.cellsOf 25)) := hf 4 _ rfl
    rw [show Try.prog.cellsOf 25 = 2 by kernel_rfl] at h4
    have h5 : Op Try.prog W m 4 (([c0, c1, c2, c3, c4, c5, c6, c7, c8].drop 6).take (Try.prog.cellsOf 4)) := hf 5 _ rfl
    rw [show Try.prog.cellsOf 4 = 1 by kernel_rfl] at h5
    have h6 : Op Try.prog W m 30 (([c0, c1, c2, c3, c4, c5, c6, c7, c8].drop 7).take (Try.prog.cellsOf 30)) := hf 6 _ rfl
    rw [show Try.prog.cellsOf 30 = 2 by kernel_rfl] at h6
    obtain ⟨x0, e0, w0⟩ := Op.int Try.underlying37 h0
    obtain ⟨x1, e1, w1⟩ := Op.int Try.underlying23 h1
    obtain ⟨x2, e2, w2⟩ := Op.int Try.underlying23 h2
    obtain ⟨x3, e3, w3⟩ := Op.int Try.underlying23 h3
    obtain ⟨x4, x5, e4, w4, w5⟩ := Op.prefix_ h4
    obtain ⟨x6, e5⟩ := Op.bool Try.underlying4 h5
    obtain ⟨x7, x8, e6, w7, w8⟩ := Op.dist h6
    simp at e0 e1 e2 e3 e4 e5 e6
    obtain ⟨rfl, rfl⟩ := e4
    obtain ⟨rfl, rfl⟩ := e6
    subst e0; subst e1; subst e2; subst e3; subst e5
    exact ⟨⟨x0, x1, x2, x3, x4, x5, x6, x7, x8⟩, rfl, bounds_i64 w0, bounds_u32 w1, bounds_u32 w2, bounds_u32 w3, w4, w5, w7, w8⟩
theorem Opens.recs {W : World} {b0 : Nat} {v : Value} (hv : Value.okWide Try.prog W .any b0 22 v) (h : Opens Try.prog W 22 v) : ∃ l A c, v = .slice A (List.length l) c ∧ Row W 9 A l.length (recs l) ∧ RecsOk l := by
  obtain ⟨A, n, c, rfl⟩ := okWide_slice Try.underlying22 hv
  obtain ⟨l, rfl, ho, hr, -⟩ := Opens.rowm (B := 56) (M := 9) Rec.cells Rec.ok (fun _ => rfl) (by omega) Try.underlying22 (by kernel_rfl) (by omega) (by kernel_rfl) (fun m cs' hx => Op.rec_ hx) h
  exact ⟨l, A, c, rfl, hr, ho⟩
end Go.Proofs.Ytnfaeafplaeehaa
