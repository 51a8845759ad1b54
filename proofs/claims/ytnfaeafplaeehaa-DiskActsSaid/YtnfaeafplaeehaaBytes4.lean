import Derived.Test.YtnfaeafplaeehaaBase
set_option linter.unusedVariables false
set_option linter.unusedSimpArgs false
namespace Go.Proofs.Ytnfaeafplaeehaa
open Go.RowKit
/-! A number's four bytes. -/
def four (n : Int) : List Int := [n / 16777216 % 256, n / 65536 % 256, n / 256 % 256, n % 256]
def cat4 (a b c d : Int) : Int := ((a * 256 + b) * 256 + c) * 256 + d
theorem cat4_four (n : Int) (h : 0 ≤ n ∧ n ≤ 4294967295) : cat4 (n / 16777216 % 256) (n / 65536 % 256) (n / 256 % 256) (n % 256) = n := by unfold cat4; omega
theorem four_cat4 (a b c d : Int) (ha : 0 ≤ a ∧ a ≤ 255) (hb : 0 ≤ b ∧ b ≤ 255) (hc : 0 ≤ c ∧ c ≤ 255) (hd : 0 ≤ d ∧ d ≤ 255) : four (cat4 a b c d) = [a, b, c, d] := by
  unfold four cat4
  congr 1
  · omega
  congr 1
  · omega
  congr 1
  · omega
  congr 1
  omega
theorem cat4_bd (a b c d : Int) (ha : 0 ≤ a ∧ a ≤ 255) (hb : 0 ≤ b ∧ b ≤ 255) (hc : 0 ≤ c ∧ c ≤ 255) (hd : 0 ≤ d ∧ d ≤ 255) : 0 ≤ cat4 a b c d ∧ cat4 a b c d ≤ 4294967295 := by unfold cat4; omega
theorem four_byte (n : Int) : Byte (four n) := by
  intro x hx
  simp only [four, List.mem_cons, List.not_mem_nil, or_false] at hx
  omega
theorem four_len (n : Int) : (four n).length = 4 := rfl
/-- A byte or'd below a number whose low byte is nought. -/
theorem or_add_nat (n c : Nat) (hc : c < 256) : n * 256 ||| c = n * 256 + c := by
  have := Nat.two_pow_add_eq_or_of_lt (i := 8) (b := c) hc n
  rw [show (2 : Nat) ^ 8 * n = n * 256 by omega] at this
  exact this.symm
theorem or_byte32 (n c : Int) (hn : 0 ≤ n) (hb : n * 256 + 255 ≤ 4294967295) (hc : 0 ≤ c ∧ c ≤ 255) : Go.bits .or .u32 (n * 256) c = n * 256 + c := by
  obtain ⟨n, rfl⟩ := Int.eq_ofNat_of_zero_le hn
  obtain ⟨c, rfl⟩ := Int.eq_ofNat_of_zero_le hc.1
  rw [show ((n : Int) * 256) = ((n * 256 : Nat) : Int) by simp, u32_or_nat _ _ (by omega) (by omega), or_add_nat n c (by omega)]
  simp
theorem or_byte16 (n c : Int) (hn : 0 ≤ n) (hb : n * 256 + 255 ≤ 65535) (hc : 0 ≤ c ∧ c ≤ 255) : Go.bits .or .u16 (n * 256) c = n * 256 + c := by
  obtain ⟨n, rfl⟩ := Int.eq_ofNat_of_zero_le hn
  obtain ⟨c, rfl⟩ := Int.eq_ofNat_of_zero_le hc.1
  rw [show ((n : Int) * 256) = ((n * 256 : Nat) : Int) by simp, u16_or_nat _ _ (by omega) (by omega), or_add_nat n c (by omega)]
  simp
end Go.Proofs.Ytnfaeafplaeehaa
