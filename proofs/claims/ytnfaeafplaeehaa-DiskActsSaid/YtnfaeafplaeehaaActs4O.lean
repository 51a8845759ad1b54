import Derived.Test.YtnfaeafplaeehaaActs4W
import Derived.Test.YtnfaeafplaeehaaDiskO
set_option maxRecDepth 100000
set_option linter.unusedVariables false
set_option linter.unusedSimpArgs false
namespace Go.Proofs.Ytnfaeafplaeehaa
open Go.RowKit Go.ChangeShapes Go.WideShapes
theorem Op.pks {W : World} {n : Nat} {cs : List Value} (h : Op Try.prog W n 52 cs) : ∃ (l : List Pk) (A : Option Addr) (c : Nat), cs = [.slice A l.length c] ∧ Row W 3 A l.length (l.flatMap Pk.cells) ∧ ∀ p ∈ l, Pk.ok p := by
  have hs : ∃ A k c, cs = [.slice A k c] := by
    cases n with
    | zero => exact h.elim
    | succ n =>
      unfold Op at h
      rw [Try.underlying52] at h
      rcases h with h | ⟨a, len, cap, h, -⟩
      · exact ⟨_, _, _, h⟩
      · exact ⟨_, _, _, h⟩
  obtain ⟨A, k, c, rfl⟩ := hs
  obtain ⟨l, rfl, ho, hr, -⟩ := Opens.rowm (B := 24) (M := 3) Pk.cells Pk.ok (fun _ => rfl) (by omega) Try.underlying52 (by kernel_rfl) (by omega) (by kernel_rfl) (fun m cs' hx => Op.pick hx) ⟨n, h⟩
  exact ⟨l, A, c, rfl, hr, ho⟩
theorem Op.act4 {W : World} {n : Nat} {cs : List Value} (h : Op Try.prog W n 79 cs) : ∃ t : Act4, cs = t.cells ∧ t.ok W := by
  obtain ⟨hl, m, hf⟩ := Op.struct Try.underlying79 h
  rw [show Try.prog.cellsOf 79 = 5 by kernel_rfl] at hl
  match cs, hl with
  | [c0, c1, c2, c3, c4], _ =>
    have h0 : Op Try.prog W m 3 (([c0, c1, c2, c3, c4].drop 0).take (Try.prog.cellsOf 3)) := hf 0 _ rfl
    rw [show Try.prog.cellsOf 3 = 1 by kernel_rfl] at h0
    have h1 : Op Try.prog W m 3 (([c0, c1, c2, c3, c4].drop 1).take (Try.prog.cellsOf 3)) := hf 1 _ rfl
    rw [show Try.prog.cellsOf 3 = 1 by kernel_rfl] at h1
    have h2 : Op Try.prog W m 5 (([c0, c1, c2, c3, c4].drop 2).take (Try.prog.cellsOf 5)) := hf 2 _ rfl
    rw [show Try.prog.cellsOf 5 = 1 by kernel_rfl] at h2
    have h3 : Op Try.prog W m 4 (([c0, c1, c2, c3, c4].drop 3).take (Try.prog.cellsOf 4)) := hf 3 _ rfl
    rw [show Try.prog.cellsOf 4 = 1 by kernel_rfl] at h3
    have h4 : Op Try.prog W m 52 (([c0, c1, c2, c3, c4].drop 4).take (Try.prog.cellsOf 52)) := hf 4 _ rfl
    rw [show Try.prog.cellsOf 52 = 1 by kernel_rfl] at h4
    obtain ⟨x0, e0, w0⟩ := Op.int Try.underlying3 h0
    obtain ⟨x1, e1, w1⟩ := Op.int Try.underlying3 h1
    obtain ⟨x2, e2, w2⟩ := Op.int Try.underlying5 h2
    obtain ⟨x3, e3⟩ := Op.bool Try.underlying4 h3
    obtain ⟨l, A, c, e4, hr, ho⟩ := Op.pks h4
    simp at e0 e1 e2 e3 e4
    subst e0; subst e1; subst e2; subst e3; subst e4
    exact ⟨⟨x0, x1, x2, x3, l, A, c⟩, rfl, bounds_i64 w1, bounds_u8 w2, hr, fun p hp => (ho p hp).2.2⟩
theorem Opens.acts4 {W : World} {b0 : Nat} {v : Value} (hv : Value.okWide Try.prog W .any b0 75 v) (h : Opens Try.prog W 75 v) : ∃ l A c, v = .slice A (List.length l) c ∧ Row W 5 A l.length (l.flatMap Act4.cells) ∧ ∀ t ∈ l, Act4.ok W t := by
  obtain ⟨A, n, c, rfl⟩ := okWide_slice Try.underlying75 hv
  obtain ⟨l, rfl, ho, hr, -⟩ := Opens.rowm (B := 48) (M := 5) Act4.cells (Act4.ok W) (fun _ => rfl) (by omega) Try.underlying75 (by kernel_rfl) (by omega) (by kernel_rfl) (fun m cs' hx => Op.act4 hx) h
  exact ⟨l, A, c, rfl, hr, ho⟩
theorem DiskActs_walk (W : World) {b0 : Nat} {v0 v1 : Value} (hv0 : Value.okWide Try.prog W .any b0 3 v0) (h0 : Opens Try.prog W 3 v0) (hv1 : Value.okWide Try.prog W .any b0 75 v1) (h1 : Opens Try.prog W 75 v1) :
    Calls Try.prog 7 #[v0, v1] W fun e W' => e = .returned (.bool true) ∧ Below W.heap.size W W' := by
  obtain ⟨x, rfl, -⟩ := Opens.int hv0 h0
  obtain ⟨acts, A, c, rfl, hr, ho⟩ := Opens.acts4 hv1 h1
  exact law04_Acts x acts A c W hr ho
end Go.Proofs.Ytnfaeafplaeehaa
