import Derived.Test.YtjdapfimjpbnmaaOpenGen
import Derived.Test.YtjdapfimjpbnmaaWMore
set_option maxRecDepth 100000
set_option linter.unusedVariables false
set_option linter.unusedSimpArgs false
namespace Go.Proofs.Ytjdapfimjpbnmaa
open Go.RowKit Go.ChangeShapes Go.WideShapes
open Go.Proofs.YtjdapfimjpbnmaaW.PrintWords (Kd)
/-! Arguments as the printed walks ask for them. -/
theorem Op.string {P : Program} {W : World} {n : Nat} {t : TypeId} {cs : List Value} (hu : P.underlying t = some .string) (h : Op P W n t cs) : ∃ s : ByteArray, cs = [.string s] ∧ s.size ≤ 140737488351232 := by
  cases n with
  | zero => exact h.elim
  | succ n => unfold Op at h; rw [hu] at h; exact h
theorem opens_le {P : Program} {W : World} {t e : TypeId} {A : Option Addr} {n c : Nat} (hu : P.underlying t = some (.slice e)) (h : Opens P W t (.slice A n c)) : n ≤ c := by
  obtain ⟨m, h⟩ := h
  cases m with
  | zero => exact h.elim
  | succ m =>
    unfold Op at h
    rw [hu] at h
    rcases h with h | ⟨a, len, cap, h, hl, -⟩
    · simp [Value.cells] at h
      omega
    · simp [Value.cells] at h
      omega
theorem C_of_row {α : Type} {d : Kd α} {W : World} {A : Option Addr} {L : List α} (g : α → List Value) (M : Nat) (hM : ∀ x, (g x).length = M) (hsz : d.sz = M) (hK : ∀ x, d.K W x (g x)) (h : Row W M A L.length (L.flatMap g)) : d.C W A L.length L := by
  obtain ⟨-, h2, h3⟩ := h
  refine ⟨rfl, by omega, fun hn => ?_⟩
  obtain ⟨b, off, e, -, hc⟩ := h3 hn
  refine ⟨_, e, fun j p hj => ⟨g p, by rw [hM, hsz], hK p, fun i u hu => ?_⟩⟩
  have hjl : j < L.length := (List.getElem?_eq_some_iff.1 hj).1
  have hil : i < M := by
    have := (List.getElem?_eq_some_iff.1 hu).1
    rw [hM] at this
    exact this
  have hp : L[j] = p := by rw [List.getElem?_eq_getElem hjl] at hj; exact Option.some.inj hj
  have hf := Ytjdapfimjpbnmaa.flat_get g M hM L j i hjl hil
  rw [hp, hu] at hf
  have := hc _ _ hf
  rw [hsz]
  have e2 : (⟨b, off, none⟩ : Addr).add (j * M + i) = ⟨b, off + (j * M + i), none⟩ := by
    unfold Addr.add
    split
    · rename_i h0; rw [h0]; rfl
    · rfl
  rw [e2]
  exact this
theorem C_of_bytes {W : World} {A : Option Addr} {L : List Int} (h : Row W 1 A L.length (L.map (Value.int .u8))) : Kd.C (Kd.int .u8) W A L.length L := by
  refine C_of_row (fun x => [Value.int .u8 x]) 1 (fun _ => rfl) rfl (fun x => rfl) ?_
  rw [show L.flatMap (fun x => [Value.int .u8 x]) = L.map (Value.int .u8) from by clear h; induction L <;> simp_all]
  exact h
end Go.Proofs.Ytjdapfimjpbnmaa
