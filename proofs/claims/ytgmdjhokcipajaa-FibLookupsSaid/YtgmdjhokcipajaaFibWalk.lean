import Derived.Test.YtgmdjhokcipajaaLawFib
set_option linter.unusedVariables false
set_option linter.unusedSimpArgs false
namespace Go.Proofs.Ytgmdjhokcipajaa
open Go.RowKit Go.ChangeShapes Go.WideShapes

theorem Op.prefix_ {W : World} {n : Nat} {cs : List Value} (h : Op Try.prog W n 29 cs) : ∃ a l, cs = [.int .u32 a, .int .i64 l] ∧ (0 ≤ a ∧ a ≤ 4294967295) ∧ -9223372036854775808 ≤ l ∧ l ≤ 9223372036854775807 := by
  obtain ⟨hl, m, hf⟩ := Op.struct Try.underlying29 h
  rw [show Try.prog.cellsOf 29 = 2 by kernel_rfl] at hl
  match cs, hl with
  | [a, b], _ =>
    have h0 : Op Try.prog W m 24 (([a, b].drop 0).take (Try.prog.cellsOf 24)) := hf 0 _ rfl
    have h1 : Op Try.prog W m 3 (([a, b].drop 1).take (Try.prog.cellsOf 3)) := hf 1 _ rfl
    rw [show Try.prog.cellsOf 24 = 1 by kernel_rfl] at h0
    rw [show Try.prog.cellsOf 3 = 1 by kernel_rfl] at h1
    obtain ⟨x, hx, wx⟩ := Op.int Try.underlying24 h0
    obtain ⟨y, hy, wy⟩ := Op.int Try.underlying3 h1
    simp at hx hy
    subst hx; subst hy
    exact ⟨x, y, rfl, bounds_u32 wx, bounds_i64 wy⟩
theorem Op.ent {W : World} {n : Nat} {cs : List Value} (h : Op Try.prog W n 32 cs) : ∃ e : Ent, cs = e.cells ∧ e.ok := by
  obtain ⟨hl, m, hf⟩ := Op.struct Try.underlying32 h
  rw [show Try.prog.cellsOf 32 = 4 by kernel_rfl] at hl
  match cs, hl with
  | [a, b, c, d], _ =>
    have h0 : Op Try.prog W m 29 (([a, b, c, d].drop 0).take (Try.prog.cellsOf 29)) := hf 0 _ rfl
    have h1 : Op Try.prog W m 30 (([a, b, c, d].drop 2).take (Try.prog.cellsOf 30)) := hf 1 _ rfl
    have h2 : Op Try.prog W m 3 (([a, b, c, d].drop 3).take (Try.prog.cellsOf 3)) := hf 2 _ rfl
    rw [show Try.prog.cellsOf 29 = 2 by kernel_rfl] at h0
    rw [show Try.prog.cellsOf 30 = 1 by kernel_rfl] at h1
    rw [show Try.prog.cellsOf 3 = 1 by kernel_rfl] at h2
    obtain ⟨x, y, hxy, hx, -⟩ := Op.prefix_ h0
    obtain ⟨z, hz, -⟩ := Op.int Try.underlying30 h1
    obtain ⟨u, hu, -⟩ := Op.int Try.underlying3 h2
    simp at hxy hz hu
    obtain ⟨rfl, rfl⟩ := hxy
    subst hz; subst hu
    exact ⟨⟨x, y, z, u⟩, rfl, hx⟩
/-- A slice whose elements have 'm' cells each, read as a row: 'p' tells what an element is, 'g' its cells. -/
theorem Opens.rowm {P : Program} {W : World} {t e : TypeId} {A : Option Addr} {n c : Nat} {B M : Nat} {α : Type} (g : α → List Value) (p : α → Prop) (hg : ∀ x, (g x).length = M) (hM : 1 ≤ M) (hu : P.underlying t = some (.slice e)) (hB : P.bytesOf e = B) (hB1 : 1 ≤ B) (hC : P.cellsOf e = M)
    (hp : ∀ m cs', Op P W m e cs' → ∃ x, cs' = g x ∧ p x) (h : Opens P W t (.slice A n c)) :
    ∃ l : List α, l.length = n ∧ (∀ x ∈ l, p x) ∧ Row W M A n (l.flatMap g) ∧ n * B ≤ 140737488351232 := by
  obtain ⟨hn, hel⟩ := Opens.slice hu hB h
  have hn' : n ≤ 140737488351232 := Nat.le_trans (by exact Nat.le_mul_of_pos_right n hB1) hn
  rcases Nat.eq_zero_or_pos n with rfl | h0
  · exact ⟨[], rfl, fun x hx => by simp at hx, ⟨by simp, by decide, fun h => absurd h (by simp)⟩, hn⟩
  · obtain ⟨a, rfl, hcs⟩ := hel h0
    have key : ∀ i, i < n → ∃ x : α, (∀ j, j < M → W.cell? (a.add (i * M + j)) = (g x)[j]?) ∧ p x := by
      intro i hi
      obtain ⟨m, cs', h1, h2⟩ := hcs i hi
      rw [hC] at h1
      obtain ⟨x, rfl, hx⟩ := hp m cs' h2
      obtain ⟨_, hcl, hat⟩ := World.cells?_some h1
      refine ⟨x, fun j hj => ?_, hx⟩
      rw [← hat j hj, Deep.add_add]
    obtain ⟨l, hl, hq⟩ := exists_list key
    subst hl
    have hcell : ∀ j, j < l.length * M → W.cell? (a.add j) = (l.flatMap g)[j]? := by
      intro j hj
      have hM0 : 0 < M := hM
      have hi : j / M < l.length := Nat.div_lt_of_lt_mul (by rw [Nat.mul_comm]; exact hj)
      have hr : j % M < M := Nat.mod_lt _ hM0
      have e : j = j / M * M + j % M := by rw [Nat.mul_comm]; exact (Nat.div_add_mod j M).symm
      have h1 := (hq (j / M) hi).1 (j % M) hr
      rw [← flat_get g M hg l (j / M) (j % M) hi hr, ← e] at h1
      exact h1
    refine ⟨l, rfl, fun x hx => ?_, ⟨flat_len g M hg l, hn', fun _ => ?_⟩, hn⟩
    · obtain ⟨i, hi, rfl⟩ := List.mem_iff_getElem.mp hx
      exact (hq i hi).2
    · have hlt0 : 0 < (l.flatMap g).length := by rw [flat_len g M hg l]; exact Nat.mul_pos h0 hM
      have c0 := hcell 0 (Nat.mul_pos h0 hM)
      rw [List.getElem?_eq_getElem hlt0] at c0
      have hs : a.spot = none := by
        cases hs : a.spot with
        | none => rfl
        | some s => simp [World.cell?, Addr.add, hs] at c0; split at c0 <;> simp at c0
      obtain ⟨b, off, sp⟩ := a
      simp only at hs
      subst hs
      refine ⟨b, off, rfl, World.block_lt_of_cell? W _ c0, fun j u hj => ?_⟩
      have hjl : j < l.length * M := by
        rcases Nat.lt_or_ge j (l.length * M) with h | h
        · exact h
        · rw [List.getElem?_eq_none (by rw [flat_len g M hg l]; exact h)] at hj; cases hj
      rw [← hj, ← hcell j hjl]
      congr 1
      unfold Addr.add
      split <;> simp_all
theorem Opens.ents {W : World} {b0 : Nat} {v : Value} (hv : Value.okWide Try.prog W .any b0 27 v) (h : Opens Try.prog W 27 v) : ∃ l A c, v = .slice A (List.length l) c ∧ Row W 4 A l.length (ents l) ∧ EntsOk l := by
  obtain ⟨A, n, c, rfl⟩ := okWide_slice Try.underlying27 hv
  obtain ⟨l, rfl, ho, hr, -⟩ := Opens.rowm (B := 32) (M := 4) Ent.cells Ent.ok (fun _ => rfl) (by omega) Try.underlying27 (by kernel_rfl) (by omega) (by kernel_rfl) (fun m cs' hx => Op.ent hx) h
  exact ⟨l, A, c, rfl, hr, ho⟩
theorem Opens.u32 {W : World} {b0 : Nat} {v : Value} (hv : Value.okWide Try.prog W .any b0 24 v) (h : Opens Try.prog W 24 v) : ∃ x, v = .int .u32 x ∧ 0 ≤ x ∧ x ≤ 4294967295 := by
  obtain ⟨x, rfl⟩ := okWide_int Try.underlying24 hv
  obtain ⟨n, h⟩ := h
  obtain ⟨y, hy, wy⟩ := Op.int Try.underlying24 h
  simp [Value.cells] at hy
  subst hy
  exact ⟨x, rfl, bounds_u32 wy⟩
theorem FibLookups_walk (W : World) {b0 : Nat} {v0 v1 : Value} (hv0 : Value.okWide Try.prog W .any b0 27 v0) (h0 : Opens Try.prog W 27 v0)
    (hv1 : Value.okWide Try.prog W .any b0 24 v1) (h1 : Opens Try.prog W 24 v1) :
    Calls Try.prog 4 #[v0, v1] W fun e W' => e = .returned (.bool true) ∧ Below W.heap.size W W' := by
  obtain ⟨l, A, c, rfl, hr, ho⟩ := Opens.ents hv0 h0
  obtain ⟨x, rfl, hx⟩ := Opens.u32 hv1 h1
  exact FibLookups_all l A c x W hr ho hx
end Go.Proofs.Ytgmdjhokcipajaa
