import Derived.Test.YtgmdjhokcipajaaPTlx2
import Derived.Test.YtgmdjhokcipajaaPTlx3
import Derived.Test.YtgmdjhokcipajaaPTlx7
set_option linter.unusedVariables false
set_option linter.unusedSimpArgs false
namespace Go.Proofs.YtgmdjhokcipajaaQ.PTlx
open Go.RowKit Go.Proofs.YtgmdjhokcipajaaW.PrintWords Go.Proofs.YtgmdjhokcipajaaW.PrintMore
open Go.Proofs.Ytgmdjhokcipajaa (four valB padB updB szB rightB Byte byteB four_len szB_bd)
/-! What is told as parts, in plain lists. -/
abbrev U := S62
def okU (u : U) : Prop := (0 ≤ u.f0.f0 ∧ u.f0.f0 ≤ 4294967295) ∧ (0 ≤ u.f1 ∧ u.f1 ≤ 4294967295) ∧ (0 ≤ u.f2.f0 ∧ u.f2.f0 ≤ 4294967295) ∧ (0 ≤ u.f2.f1 ∧ u.f2.f1 ≤ 65535)
def rightU (u : U) : Bool := updB u.f0.f0 u.f0.f1 u.f1 u.f2.f0 u.f2.f1
def bodyM (u : U) : List Int := [u.f0.f1] ++ four u.f2.f0 ++ [u.f2.f1 / 256, u.f2.f1 % 256] ++ (four u.f0.f0).take (szB u.f0.f1).toNat
def partM (u : U) (id : Int) : List Int := (if u.f1 = id then [] else 2 :: 4 :: four u.f1) ++ (3 :: (7 + szB u.f0.f1) :: bodyM u)
theorem w64 (x : Int) (h0 : -9223372036854775808 ≤ x) (h1 : x ≤ 9223372036854775807) : wrap64 x = x := by unfold wrap64; omega
theorem shr8 (n : Int) (j : Nat) (i : Int) (h : i = (8 * j : Nat)) (hj : j ≤ 3) : shr .u32 n i = n / 256 ^ j := by
  subst h
  unfold shr
  rw [Int.toNat_natCast]
  rcases (show j = 0 ∨ j = 1 ∨ j = 2 ∨ j = 3 by omega) with rfl | rfl | rfl | rfl <;> rfl
def beN (n : Int) : Nat → List Int
  | 0 => []
  | s + 1 => n / 256 ^ s % 256 :: beN n s
theorem put_l0 (n : Int) : ∀ (s k : Nat) (x : List Int), s ≤ 4 → s < k → x.length + s ≤ 140737488350000 → tlv_put.l0 k x n ((s : Int) - 1) = some (x ++ beN n s)
  | 0, k, x, _, hk, _ => by
    obtain ⟨k, rfl⟩ : ∃ m, k = m + 1 := ⟨k - 1, by omega⟩
    simp [tlv_put.l0, beN]
  | s + 1, k, x, hs, hk, hx => by
    obtain ⟨k, rfl⟩ : ∃ m, k = m + 1 := ⟨k - 1, by omega⟩
    simp only [tlv_put.l0]
    have e1 : wrap64 (8 * (((s + 1 : Nat) : Int) - 1)) = (8 * s : Nat) := by rw [w64 _ (by omega) (by omega)]; omega
    have e2 : wrap64 ((((s + 1 : Nat) : Int) - 1) - 1) = (s : Int) - 1 := by rw [w64 _ (by omega) (by omega)]; omega
    have e3 : (((s + 1 : Nat) : Int) - 1) ≥ 0 := by omega
    rw [if_pos e3, e1, e2, if_pos (by omega), if_pos (by omega), shr8 n s _ rfl (by omega)]
    rw [put_l0 n s k _ (by omega) (by omega) (by simp; omega)]
    simp [beN]
theorem put_nice (n : Int) (s k : Nat) (x : List Int) (hs : s ≤ 4) (hk : s < k) (hx : x.length + s ≤ 140737488350000) : tlv_put.f k x n (s : Int) = some (x ++ beN n s) := by
  unfold tlv_put.f
  rw [w64 _ (by omega) (by omega)]
  exact put_l0 n s k x hs hk hx
theorem be4 (n : Int) : beN n 4 = four n := by simp [beN, four]
theorem be2 (n : Int) (h : 0 ≤ n ∧ n ≤ 65535) : beN n 2 = [n / 256, n % 256] := by
  simp only [beN]
  congr 1
  · have : (256 : Int) ^ 1 = 256 := rfl
    rw [this]; omega
  congr 1
  simp
theorem sz_nice (l : Int) (h0 : 0 ≤ l) (h1 : l ≤ 32) : tlv_size.f l = some (szB l) := by
  unfold tlv_size.f szB
  rw [w64 (l + 7) (by omega) (by omega), Int.tdiv_eq_ediv_of_nonneg (by omega), w64 _ (by omega) (by omega)]
theorem right_bd (u : U) (h : rightU u = true) : (0 ≤ u.f0.f1 ∧ u.f0.f1 ≤ 32) ∧ rightB u.f0.f0 u.f0.f1 = true ∧ u.f2.f0 ≤ 1073741824 ∧ (u.f2.f1 = 65535 → u.f1 = 0 ∧ u.f2.f0 = 0) ∧ (u.f2.f1 ≠ 65535 → u.f1 ≠ 0) := by
  unfold rightU updB at h
  simp only [Bool.and_eq_true, decide_eq_true_eq] at h
  obtain ⟨⟨h1, h2⟩, h3⟩ := h
  have h1' := h1
  unfold rightB at h1'
  simp only [decide_eq_true_eq] at h1'
  refine ⟨⟨h1'.1, h1'.2.1⟩, h1, h2, fun e => ?_, fun e => ?_⟩
  · rw [if_pos e] at h3; simpa using h3
  · rw [if_neg e] at h3; simpa using h3
theorem part_j0 (u : U) (ho : okU u) (hr : rightU u = true) (k : Nat) (hk : 6 ≤ k) (x : List Int) (hx : x.length ≤ 140737488340000) :
    tlv_part.j0 k x u.f0.f0 u.f0.f1 u.f1 u.f2.f0 u.f2.f1 = some (x ++ (3 :: (7 + szB u.f0.f1) :: bodyM u)) := by
  obtain ⟨k, rfl⟩ : ∃ m, k = m + 1 := ⟨k - 1, by omega⟩
  obtain ⟨⟨l0, l1⟩, -, hs, -, -⟩ := right_bd u hr
  obtain ⟨ha, hi, hq, hm⟩ := ho
  have hz := szB_bd u.f0.f1 l0 l1
  simp only [tlv_part.j0]
  rw [sz_nice _ l0 l1]
  simp only [Option.bind_some]
  rw [w64 _ (by omega) (by omega)]
  have e4 := put_nice u.f2.f0 4 k (x ++ [3, (7 + szB u.f0.f1) % 256, u.f0.f1 % 256]) (by omega) (by omega) (by simp; omega)
  have e2 := put_nice (u.f2.f1 % 4294967296) 2 k ((x ++ [3, (7 + szB u.f0.f1) % 256, u.f0.f1 % 256]) ++ beN u.f2.f0 4) (by omega) (by omega) (by simp [be4, four]; omega)
  have ea := put_nice u.f0.f0 4 k [] (by omega) (by omega) (by simp)
  rw [if_pos (by simp; omega)]
  change (tlv_put.f k (x ++ [3, (7 + szB u.f0.f1) % 256, u.f0.f1 % 256]) u.f2.f0 (4 : Nat)).bind _ = _
  rw [e4, Option.bind_some]
  change (tlv_put.f k _ (u.f2.f1 % 4294967296) (2 : Nat)).bind _ = _
  rw [e2, Option.bind_some]
  change (tlv_put.f k [] u.f0.f0 (4 : Nat)).bind _ = _
  rw [ea, Option.bind_some, if_pos (by omega), be4, be4, List.nil_append, four_len, if_pos (by omega), be2 _ (by omega)]
  have hml : (u.f2.f1 % 4294967296) = u.f2.f1 := by omega
  rw [hml, if_pos (by simp [four]; omega)]
  congr 1
  simp only [bodyM, List.append_assoc, List.cons_append, List.nil_append]
  have h1 : (7 + szB u.f0.f1) % 256 = 7 + szB u.f0.f1 := by omega
  have h2 : u.f0.f1 % 256 = u.f0.f1 := by omega
  rw [h1, h2]
theorem part_nice (u : U) (ho : okU u) (hr : rightU u = true) (id : Int) (k : Nat) (hk : 6 ≤ k) : tlv_part.f k [] u.f0.f0 u.f0.f1 u.f1 u.f2.f0 u.f2.f1 id = some (partM u id) := by
  unfold tlv_part.f partM
  by_cases h : u.f1 = id
  · rw [if_pos h, if_pos h, part_j0 u ho hr k hk [] (by simp)]
  · rw [if_neg h, if_neg h]
    simp only [Option.bind_some]
    rw [if_pos (by simp)]
    have e := put_nice u.f1 4 k [2, 4] (by omega) (by omega) (by simp)
    change (tlv_put.f k [2, 4] u.f1 (4 : Nat)).bind _ = _
    rw [e, Option.bind_some, be4, part_j0 u ho hr k hk _ (by simp [four])]
    simp
theorem lawRight_nice (u : U) (ho : okU u) (k : Nat) (hk : 1 ≤ k) : wayfarerlaw08_Right.f k u.f0.f0 u.f0.f1 u.f1 u.f2.f0 u.f2.f1 = some (rightU u) := by
  obtain ⟨k, rfl⟩ : ∃ m, k = m + 1 := ⟨k - 1, by omega⟩
  unfold wayfarerlaw08_Right.f wayfarerlaw02_Right.f rightU updB
  rw [if_pos ho.1]
  simp only [Option.bind_some, wayfarerlaw08_Right.j0]
  cases rightB u.f0.f0 u.f0.f1 with
  | false => simp
  | true =>
    by_cases h2 : u.f2.f0 ≤ 1073741824
    · have h2' : ¬ (u.f2.f0 > 1073741824) := by omega
      by_cases h3 : u.f2.f1 = 65535
      · by_cases h4 : u.f1 = 0 <;> by_cases h5 : u.f2.f0 = 0 <;> simp [h2, h2', h3, h4, h5]
      · by_cases h4 : u.f1 = 0 <;> simp [h2, h2', h3, h4]
    · have h2' : u.f2.f0 > 1073741824 := by omega
      simp [h2, h2']
end Go.Proofs.YtgmdjhokcipajaaQ.PTlx
