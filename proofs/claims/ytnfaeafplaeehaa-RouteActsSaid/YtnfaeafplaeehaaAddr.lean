import Derived.Test.YtnfaeafplaeehaaBase
import Derived.Test.YtnfaeafplaeehaaRegion
set_option linter.unusedVariables false
set_option linter.unusedSimpArgs false
namespace Go.Proofs.Ytnfaeafplaeehaa
open Go.RowKit

def maskI (n : Int) : Int := 4294967296 - 2 ^ (32 - n).toNat
/-- Is a prefix one? -/
def rightB (a l : Int) : Bool := decide (0 ≤ l ∧ l ≤ 32 ∧ a % 2 ^ (32 - l).toNat = 0)
/-- Has a prefix that is one an address? -/
def inB (a l x : Int) : Bool := decide (x - x % 2 ^ (32 - l).toNat = a)
def hasB (a l x : Int) : Bool := rightB a l && inB a l x

theorem shl_mask (k : Nat) (h : k ≤ 31) : (4294967295 : Int) * 2 ^ k % 4294967296 = 4294967296 - 2 ^ k := by
  have : ∀ k : Fin 32, (4294967295 : Int) * 2 ^ k.val % 4294967296 = 4294967296 - 2 ^ k.val := by decide
  exact this ⟨k, by omega⟩
theorem pow_bd (k : Nat) (h : k ≤ 32) : (1 : Int) ≤ 2 ^ k ∧ (2 : Int) ^ k ≤ 4294967296 := by
  have : ∀ k : Fin 33, (1 : Int) ≤ 2 ^ k.val ∧ (2 : Int) ^ k.val ≤ 4294967296 := by decide
  exact this ⟨k, by omega⟩
theorem natpow_bd (k : Nat) (h : k ≤ 32) : 1 ≤ 2 ^ k ∧ 2 ^ k ≤ 4294967296 := by
  have : ∀ k : Fin 33, 1 ≤ 2 ^ k.val ∧ 2 ^ k.val ≤ 4294967296 := by decide
  exact this ⟨k, by omega⟩
theorem maskI_nat (l : Int) (h0 : 0 ≤ l) (h1 : l ≤ 32) : maskI l = ((4294967296 - 2 ^ (32 - l).toNat : Nat) : Int) := by
  have := natpow_bd (32 - l).toNat (by omega)
  unfold maskI
  rw [Int.natCast_sub this.2]
  simp
theorem andNot_mask (a l : Int) (ha : 0 ≤ a ∧ a ≤ 4294967295) (h0 : 0 ≤ l) (h1 : l ≤ 32) : (Go.bits .andNot .u32 a (maskI l) == 0) = decide (a % 2 ^ (32 - l).toNat = 0) := by
  have hk := natpow_bd (32 - l).toNat (by omega)
  obtain ⟨n, rfl⟩ := Int.eq_ofNat_of_zero_le ha.1
  rw [maskI_nat l h0 h1, u32_andNot_nat _ _ (by omega) (by omega)]
  generalize (32 - l).toNat = k at *
  rw [show 4294967295 - (4294967296 - 2 ^ k) = 2 ^ k - 1 by omega, Nat.and_two_pow_sub_one_eq_mod]
  rw [show ((n : Int) % 2 ^ k) = ((n % 2 ^ k : Nat) : Int) by simp]
  rw [Bool.eq_iff_iff]
  simp
theorem and_high (x k : Nat) (hk : k ≤ 32) (hx : x < 4294967296) : x &&& (4294967296 - 2 ^ k) = x - x % 2 ^ k := by
  have e : 4294967296 - 2 ^ k = (2 ^ (32 - k) - 1) <<< k := by
    rw [Nat.shiftLeft_eq, Nat.sub_mul, ← Nat.pow_add, show 32 - k + k = 32 by omega, Nat.one_mul]
  have e2 : x - x % 2 ^ k = (x / 2 ^ k) <<< k := by
    rw [Nat.shiftLeft_eq]
    have := Nat.div_add_mod x (2 ^ k)
    rw [Nat.mul_comm] at this
    omega
  rw [e, e2]
  refine Nat.eq_of_testBit_eq fun i => ?_
  rw [Nat.testBit_and, Nat.testBit_shiftLeft, Nat.testBit_shiftLeft, Nat.testBit_two_pow_sub_one, Nat.testBit_div_two_pow]
  by_cases hi : k ≤ i
  · simp only [hi, decide_true, Bool.true_and, ge_iff_le]
    rw [show i - k + k = i by omega]
    by_cases h2 : i - k < 32 - k
    · simp [h2]
    · have : x.testBit i = false := Nat.testBit_lt_two_pow (Nat.lt_of_lt_of_le hx (by
        calc 4294967296 = 2 ^ 32 := by decide
          _ ≤ 2 ^ i := Nat.pow_le_pow_right (by decide) (by omega)))
      simp [this]
  · simp [hi]
theorem and_mask (x l : Int) (hx : 0 ≤ x ∧ x ≤ 4294967295) (h0 : 0 ≤ l) (h1 : l ≤ 32) : Go.bits .and .u32 x (maskI l) = x - x % 2 ^ (32 - l).toNat := by
  have hk := natpow_bd (32 - l).toNat (by omega)
  obtain ⟨n, rfl⟩ := Int.eq_ofNat_of_zero_le hx.1
  rw [maskI_nat l h0 h1, u32_and_nat _ _ (by omega) (by omega), and_high n _ (by omega) (by omega)]
  have := Nat.mod_le n (2 ^ (32 - l).toNat)
  rw [Int.natCast_sub this]
  simp

theorem addr_mask (n : Int) (w : World) (h0 : 0 ≤ n) (h1 : n ≤ 32) : Calls Try.prog 127 #[.int .i64 n] w fun e w' => e = .returned (.int .u32 (maskI n)) ∧ w' = w := by
  by_cases hn : n = 0
  · subst hn
    have HM := Lib.hid (show maskI 0 = 0 by decide)
    go_enter Try.func127, Try.ntmps127
    go_wp2
    go_ret
    exact ⟨by rw [HM.out]; rfl, rfl⟩
  · have hn' : (n == 0) = false := by simpa using hn
    go_enter Try.func127, Try.ntmps127
    go_wp2
    go_ret
    exact ⟨congrArg (fun x => Ending.returned (.int .u32 x)) (shl_mask (32 - n).toNat (by omega)), rfl⟩

theorem addr_Right (a l : Int) (w : World) (ha : 0 ≤ a ∧ a ≤ 4294967295) : Calls Try.prog 110 #[.agg #[.int .u32 a, .int .i64 l]] w
    fun e w' => e = .returned (.bool (rightB a l)) ∧ Below w.heap.size w w' := by
  by_cases h0 : 0 ≤ l
  · by_cases h1 : l ≤ 32
    · have hb := Lib.hid (show rightB a l = (Go.bits .andNot .u32 a (maskI l) == 0) by rw [andNot_mask a l ha h0 h1]; simp [rightB, h0, h1])
      go_enter Try.func110, Try.ntmps110
      go_wp2_with fail
      go_quiet ((go_at_call 127; exact Calls.quiet_of_same (addr_mask _ _ h0 h1)))
      go_wp2
      go_ret
      exact ⟨by rw [hb.out]; rfl, below_drewN ((Below.refl _ _).alloc (Nat.le_refl _) _) _⟩
    · have hb := Lib.hid (show rightB a l = false by simp [rightB, h1])
      have h1' : decide (l ≤ 32) = false := by simpa using h1
      go_enter Try.func110, Try.ntmps110
      go_wp2_with fail
      go_quiet (fail)
      go_wp2
      go_ret
      exact ⟨by rw [hb.out]; rfl, below_drewN ((Below.refl _ _).alloc (Nat.le_refl _) _) _⟩
  · have hb := Lib.hid (show rightB a l = false by simp [rightB, h0])
    have h0' : decide (0 ≤ l) = false := by simpa using h0
    go_enter Try.func110, Try.ntmps110
    go_wp2_with fail
    go_quiet (fail)
    go_wp2
    go_ret
    exact ⟨by rw [hb.out]; rfl, below_drewN ((Below.refl _ _).alloc (Nat.le_refl _) _) _⟩
end Go.Proofs.Ytnfaeafplaeehaa
