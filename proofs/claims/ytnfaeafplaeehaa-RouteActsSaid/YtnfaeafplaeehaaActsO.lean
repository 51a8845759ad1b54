import Derived.Test.YtnfaeafplaeehaaActsW
import Derived.Test.YtnfaeafplaeehaaOpenPfx
import Derived.Test.YtnfaeafplaeehaaOpenDist
import Derived.Test.YtnfaeafplaeehaaOpenInt
import Derived.Test.YtnfaeafplaeehaaOpenInts
set_option maxRecDepth 100000
set_option linter.unusedVariables false
set_option linter.unusedSimpArgs false
namespace Go.Proofs.Ytnfaeafplaeehaa
open Go.RowKit Go.ChangeShapes Go.WideShapes
theorem Op.route {W : World} {n : Nat} {cs : List Value} (h : Op Try.prog W n 68 cs) : ∃ r : Rt, cs = [.int .i64 r.n, .int .u32 r.id, .int .u32 r.s, .int .u16 r.m, .int .i64 r.x] ∧ 0 ≤ r.m ∧ r.m ≤ 65535 := by
  obtain ⟨hl, m, hf⟩ := Op.struct Try.underlying68 h
  rw [show Try.prog.cellsOf 68 = 5 by kernel_rfl] at hl
  match cs, hl with
  | [c0, c1, c2, c3, c4], _ =>
    have h0 : Op Try.prog W m 3 (([c0, c1, c2, c3, c4].drop 0).take (Try.prog.cellsOf 3)) := hf 0 _ rfl
    rw [show Try.prog.cellsOf 3 = 1 by kernel_rfl] at h0
    have h1 : Op Try.prog W m 23 (([c0, c1, c2, c3, c4].drop 1).take (Try.prog.cellsOf 23)) := hf 1 _ rfl
    rw [show Try.prog.cellsOf 23 = 1 by kernel_rfl] at h1
    have h2 : Op Try.prog W m 30 (([c0, c1, c2, c3, c4].drop 2).take (Try.prog.cellsOf 30)) := hf 2 _ rfl
    rw [show Try.prog.cellsOf 30 = 2 by kernel_rfl] at h2
    have h3 : Op Try.prog W m 2 (([c0, c1, c2, c3, c4].drop 4).take (Try.prog.cellsOf 2)) := hf 3 _ rfl
    rw [show Try.prog.cellsOf 2 = 1 by kernel_rfl] at h3
    obtain ⟨x0, e0, w0⟩ := Op.int Try.underlying3 h0
    obtain ⟨x1, e1, w1⟩ := Op.int Try.underlying23 h1
    obtain ⟨x2, x3, e2, w2, w3⟩ := Op.dist h2
    obtain ⟨x4, e4, w4⟩ := Op.int Try.underlying2 h3
    simp at e0 e1 e2 e4
    obtain ⟨rfl, rfl⟩ := e2
    subst e0; subst e1; subst e4
    exact ⟨⟨x0, x1, x2, x3, x4⟩, rfl, w3⟩
theorem Op.act {W : World} {n : Nat} {cs : List Value} (h : Op Try.prog W n 96 cs) : ∃ t : Act9, cs = t.cells ∧ t.ok := by
  obtain ⟨hl, m, hf⟩ := Op.struct Try.underlying96 h
  rw [show Try.prog.cellsOf 96 = 9 by kernel_rfl] at hl
  match cs, hl with
  | [c0, c1, c2, c3, c4, c5, c6, c7, c8], _ =>
    have h0 : Op Try.prog W m 3 (([c0, c1, c2, c3, c4, c5, c6, c7, c8].drop 0).take (Try.prog.cellsOf 3)) := hf 0 _ rfl
    rw [show Try.prog.cellsOf 3 = 1 by kernel_rfl] at h0
    have h1 : Op Try.prog W m 25 (([c0, c1, c2, c3, c4, c5, c6, c7, c8].drop 1).take (Try.prog.cellsOf 25)) := hf 1 _ rfl
    rw [show Try.prog.cellsOf 25 = 2 by kernel_rfl] at h1
    have h2 : Op Try.prog W m 68 (([c0, c1, c2, c3, c4, c5, c6, c7, c8].drop 3).take (Try.prog.cellsOf 68)) := hf 2 _ rfl
    rw [show Try.prog.cellsOf 68 = 5 by kernel_rfl] at h2
    have h3 : Op Try.prog W m 2 (([c0, c1, c2, c3, c4, c5, c6, c7, c8].drop 8).take (Try.prog.cellsOf 2)) := hf 3 _ rfl
    rw [show Try.prog.cellsOf 2 = 1 by kernel_rfl] at h3
    obtain ⟨x0, e0, w0⟩ := Op.int Try.underlying3 h0
    obtain ⟨x1, x2, e1, w1, w2⟩ := Op.prefix_ h1
    obtain ⟨r, e2, w3⟩ := Op.route h2
    obtain ⟨x4, e4, w4⟩ := Op.int Try.underlying2 h3
    simp at e0 e1 e2 e4
    obtain ⟨rfl, rfl⟩ := e1
    obtain ⟨rfl, rfl, rfl, rfl, rfl⟩ := e2
    subst e0; subst e4
    exact ⟨⟨x0, x1, x2, r, x4⟩, rfl, w3⟩
theorem Opens.acts {W : World} {b0 : Nat} {v : Value} (hv : Value.okWide Try.prog W .any b0 90 v) (h : Opens Try.prog W 90 v) : ∃ l A c, v = .slice A (List.length l) c ∧ Row W 9 A l.length (l.flatMap Act9.cells) ∧ ∀ t ∈ l, Act9.ok t := by
  obtain ⟨A, n, c, rfl⟩ := okWide_slice Try.underlying90 hv
  obtain ⟨l, rfl, ho, hr, -⟩ := Opens.rowm (B := 64) (M := 9) Act9.cells Act9.ok (fun _ => rfl) (by omega) Try.underlying90 (by kernel_rfl) (by omega) (by kernel_rfl) (fun m cs' hx => Op.act hx) h
  exact ⟨l, A, c, rfl, hr, ho⟩
theorem RouteActs_walk (W : World) {b0 : Nat} {v0 v1 v2 : Value} (hv0 : Value.okWide Try.prog W .any b0 90 v0) (h0 : Opens Try.prog W 90 v0) (hv1 : Value.okWide Try.prog W .any b0 91 v1) (h1 : Opens Try.prog W 91 v1)
    (hv2 : Value.okWide Try.prog W .any b0 23 v2) (h2 : Opens Try.prog W 23 v2) :
    Calls Try.prog 9 #[v0, v1, v2] W fun e W' => e = .returned (.bool true) ∧ Below W.heap.size W W' := by
  obtain ⟨acts, A, c, rfl, hr, ho⟩ := Opens.acts hv0 h0
  obtain ⟨l, A1, c1, rfl, hl⟩ := Opens.ints hv1 h1
  obtain ⟨x, rfl, -⟩ := Opens.u32 hv2 h2
  exact law09_Acts acts A c l A1 c1 x W hr hl ho
end Go.Proofs.Ytnfaeafplaeehaa
