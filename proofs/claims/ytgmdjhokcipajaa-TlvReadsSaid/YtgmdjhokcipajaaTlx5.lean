import Derived.Test.YtgmdjhokcipajaaTlx4
set_option linter.unusedVariables false
set_option linter.unusedSimpArgs false
namespace Go.Proofs.YtgmdjhokcipajaaQ.PTlx
open Go.RowKit Go.Proofs.YtgmdjhokcipajaaW.PrintWords Go.Proofs.YtgmdjhokcipajaaW.PrintMore
open Go.Proofs.Ytgmdjhokcipajaa (four valB padB updB szB rightB Byte byteB four_len szB_bd oneM)
theorem same_l0 (L : List U) : ∀ (d i k : Nat), L.length - i = d → i ≤ L.length → d < k → L.length ≤ 100000000 → wayfarerlaw08_Same.l0 k L L (L.length : Int) (i : Int) = some true := by
  intro d
  induction d with
  | zero =>
    intro i k hd hi hk hl
    obtain ⟨k, rfl⟩ : ∃ m, k = m + 1 := ⟨k - 1, by omega⟩
    unfold wayfarerlaw08_Same.l0
    rw [if_neg (by omega)]
  | succ d ih =>
    intro i k hd hi hk hl
    obtain ⟨k, rfl⟩ : ∃ m, k = m + 1 := ⟨k - 1, by omega⟩
    have e : wrap64 ((i : Int) + 1) = ((i + 1 : Nat) : Int) := by rw [w64 _ (by omega) (by omega)]; omega
    unfold wayfarerlaw08_Same.l0
    rw [if_pos (by omega), if_pos (by omega), if_pos (by omega), if_pos (by omega), if_neg (by simp), e]
    exact ih (i + 1) k (by omega) (by omega) (by omega) hl
theorem same_nice (L : List U) (k : Nat) (hk : L.length < k) (hl : L.length ≤ 100000000) : wayfarerlaw08_Same.f k L L = some true := by
  unfold wayfarerlaw08_Same.f
  rw [if_pos rfl]
  exact same_l0 L L.length 0 k (by omega) (by omega) hk hl
theorem rdPage (X : List (List Int)) (i : Nat) (h : i < X.length) : rd_L9 X (i : Int) = X[i] := by
  simp [rd_L9, h]
theorem flat_succ (Ws : List (List U)) (i : Nat) (h : i < Ws.length) : (Ws.take i).flatten ++ Ws[i] = (Ws.take (i + 1)).flatten := by
  rw [List.take_succ_eq_append_getElem h, List.flatten_append]
  simp
theorem flat_len : ∀ (Ws : List (List U)) (i : Nat), ((Ws.take i).flatten).length ≤ (Ws.flatten).length
  | [], i => by simp
  | W :: r, 0 => by simp
  | W :: r, i + 1 => by
    have := flat_len r i
    simp only [List.take_succ_cons, List.flatten_cons, List.length_append]
    omega
end Go.Proofs.YtgmdjhokcipajaaQ.PTlx
