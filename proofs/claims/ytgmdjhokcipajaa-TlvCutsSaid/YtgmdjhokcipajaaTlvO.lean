import Derived.Test.YtgmdjhokcipajaaOpenGen
import Derived.Test.YtgmdjhokcipajaaOpenPfx
import Derived.Test.YtgmdjhokcipajaaOpenDist
import Derived.Test.YtgmdjhokcipajaaTlvP1
set_option maxRecDepth 100000
set_option linter.unusedVariables false
set_option linter.unusedSimpArgs false
namespace Go.Proofs.YtgmdjhokcipajaaQ.PTlv
open Go.RowKit Go.ChangeShapes Go.WideShapes Go.Proofs.YtgmdjhokcipajaaW.PrintWords
open Go.Proofs.Ytgmdjhokcipajaa (Opens Row)
/-! The law's arguments. -/
theorem opens_le {P : Program} {W : World} {t e : TypeId} {A : Option Addr} {n c : Nat} (hu : P.underlying t = some (.slice e)) (h : Opens P W t (.slice A n c)) : n ≤ c := by
  obtain ⟨m, h⟩ := h
  cases m with
  | zero => exact h.elim
  | succ m =>
    unfold Ytgmdjhokcipajaa.Op at h
    rw [hu] at h
    rcases h with h | ⟨a, len, cap, h, hl, -⟩
    · simp [Value.cells] at h
      omega
    · simp [Value.cells] at h
      omega
theorem C_of_row {α : Type} {d : Kd α} {W : World} {A : Option Addr} {L : List α} (g : α → List Value) (M : Nat) (hM : ∀ x, (g x).length = M) (hsz : d.sz = M) (hK : ∀ x, d.K W x (g x)) (h : Row W M A L.length (L.flatMap g)) : d.C W A L.length L := by
  obtain ⟨-, h2, h3⟩ := h
  refine ⟨rfl, by omega, fun hn => ?_⟩
  obtain ⟨b, off, e, -, hc⟩ := h3 hn
  refine ⟨_, e, fun j p hj => ⟨g p, by rw [hM, hsz], hK p, fun i u hu => ?_⟩⟩
  have hjl : j < L.length := (List.getElem?_eq_some_iff.1 hj).1
  have hil : i < M := by
    have := (List.getElem?_eq_some_iff.1 hu).1
    rw [hM] at this
    exact this
  have hp : L[j] = p := by rw [List.getElem?_eq_getElem hjl] at hj; exact Option.some.inj hj
  have hf := Ytgmdjhokcipajaa.flat_get g M hM L j i hjl hil
  rw [hp, hu] at hf
  have := hc _ _ hf
  rw [hsz]
  have e2 : (⟨b, off, none⟩ : Addr).add (j * M + i) = ⟨b, off + (j * M + i), none⟩ := by
    unfold Addr.add
    split
    · rename_i h0; rw [h0]; rfl
    · rfl
  rw [e2]
  exact this
def updCells (u : U) : List Value := [.int .u32 u.f0.f0, .int .i64 u.f0.f1, .int .u32 u.f1, .int .u32 u.f2.f0, .int .u16 u.f2.f1]
theorem Op_upd {W : World} {n : Nat} {cs : List Value} (h : Ytgmdjhokcipajaa.Op Try.prog W n 62 cs) : ∃ u : U, cs = updCells u ∧ okU u := by
  obtain ⟨hl, m, hf⟩ := Ytgmdjhokcipajaa.Op.struct Try.underlying62 h
  rw [show Try.prog.cellsOf 62 = 5 by kernel_rfl] at hl
  match cs, hl with
  | [c0, c1, c2, c3, c4], _ =>
    have h0 : Ytgmdjhokcipajaa.Op Try.prog W m 29 (([c0, c1, c2, c3, c4].drop 0).take (Try.prog.cellsOf 29)) := hf 0 _ rfl
    rw [show Try.prog.cellsOf 29 = 2 by kernel_rfl] at h0
    have h1 : Ytgmdjhokcipajaa.Op Try.prog W m 24 (([c0, c1, c2, c3, c4].drop 2).take (Try.prog.cellsOf 24)) := hf 1 _ rfl
    rw [show Try.prog.cellsOf 24 = 1 by kernel_rfl] at h1
    have h2 : Ytgmdjhokcipajaa.Op Try.prog W m 39 (([c0, c1, c2, c3, c4].drop 3).take (Try.prog.cellsOf 39)) := hf 2 _ rfl
    rw [show Try.prog.cellsOf 39 = 2 by kernel_rfl] at h2
    obtain ⟨x0, x1, e0, w0, w1⟩ := Ytgmdjhokcipajaa.Op.prefix_ h0
    obtain ⟨x2, e1, w2⟩ := Ytgmdjhokcipajaa.Op.int Try.underlying24 h1
    obtain ⟨x3, x4, e2, w3, w4⟩ := Ytgmdjhokcipajaa.Op.dist h2
    simp at e0 e1 e2
    obtain ⟨rfl, rfl⟩ := e0
    obtain ⟨rfl, rfl⟩ := e2
    subst e1
    exact ⟨⟨⟨x0, x1⟩, x2, ⟨x3, x4⟩⟩, rfl, w0, bounds_u32 w2, w3, w4⟩
theorem open_upds {W : World} {b0 : Nat} {v : Value} (hv : Value.okWide Try.prog W .any b0 60 v) (h : Opens Try.prog W 60 v) :
    ∃ (L : List U) (A : Option Addr) (c : Nat), v = .slice A L.length c ∧ L.length ≤ c ∧ Kd.C k62 W A L.length L ∧ ∀ u ∈ L, okU u := by
  obtain ⟨A, n, c, rfl⟩ := okWide_slice Try.underlying60 hv
  have hle := opens_le Try.underlying60 h
  obtain ⟨L, rfl, ho, hr, -⟩ := Ytgmdjhokcipajaa.Opens.rowm (B := 32) (M := 5) updCells okU (fun _ => rfl) (by omega) Try.underlying60 (by kernel_rfl) (by omega) (by kernel_rfl) (fun m cs' hx => Op_upd hx) h
  exact ⟨L, A, c, rfl, hle, C_of_row updCells 5 (fun _ => rfl) rfl (fun u => k62_mk W u) hr, ho⟩
end Go.Proofs.YtgmdjhokcipajaaQ.PTlv
