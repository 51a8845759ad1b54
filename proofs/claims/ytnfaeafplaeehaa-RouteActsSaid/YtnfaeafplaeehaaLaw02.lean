import Derived.Test.YtnfaeafplaeehaaAddr
set_option linter.unusedVariables false
set_option linter.unusedSimpArgs false
namespace Go.Proofs.Ytnfaeafplaeehaa
open Go.RowKit

def bitB (a : Int) (i : Nat) : Bool := a.toNat.testBit (31 - i)
theorem bit_and (a : Int) (i : Nat) (ha : 0 ≤ a ∧ a ≤ 4294967295) (hi : i ≤ 31) : (Go.bits .and .u32 (a / 2 ^ (31 - i)) 1 == 1) = bitB a i := by
  obtain ⟨n, rfl⟩ := Int.eq_ofNat_of_zero_le ha.1
  have h1 : ((n : Int) / 2 ^ (31 - i)) = ((n / 2 ^ (31 - i) : Nat) : Int) := by simp
  have h2 : n / 2 ^ (31 - i) ≤ n := Nat.div_le_self _ _
  rw [h1, show (1 : Int) = ((1 : Nat) : Int) from rfl, u32_and_nat _ _ (by omega) (by omega), Nat.and_one_is_mod, bitB, Int.toNat_natCast, Nat.testBit_eq_decide_div_mod_eq, Bool.eq_iff_iff]
  simp
  omega
theorem half_lt (r j : Nat) (h : r < 2 ^ (j + 1)) (hb : r.testBit j = false) : r < 2 ^ j := by
  rw [Nat.testBit_eq_decide_div_mod_eq] at hb
  have h1 : ¬ r / 2 ^ j % 2 = 1 := by simpa using hb
  have h2 : r / 2 ^ j < 2 := by
    rw [Nat.div_lt_iff_lt_mul (Nat.two_pow_pos j)]
    rw [Nat.pow_succ] at h
    omega
  have h3 : r / 2 ^ j = 0 := by generalize r / 2 ^ j = q at h1 h2; omega
  exact (Nat.div_eq_zero_iff_lt (Nat.two_pow_pos j)).1 h3
theorem half_eq (x a j : Nat) (h : x / 2 ^ (j + 1) = a / 2 ^ (j + 1)) (hb : x.testBit j = a.testBit j) : x / 2 ^ j = a / 2 ^ j := by
  rw [Nat.testBit_eq_decide_div_mod_eq, Nat.testBit_eq_decide_div_mod_eq, decide_eq_decide] at hb
  rw [Nat.pow_succ, ← Nat.div_div_eq_div_mul, ← Nat.div_div_eq_div_mul] at h
  omega
theorem half_ne (x a j n : Nat) (h : x / 2 ^ n = a / 2 ^ n) (hn : n ≤ j) : x.testBit j = a.testBit j := by
  obtain ⟨k, rfl⟩ := Nat.exists_eq_add_of_le hn
  have e : ∀ y : Nat, y.testBit (n + k) = (y / 2 ^ n).testBit k := fun y => by rw [Nat.testBit_div_two_pow, Nat.add_comm]
  rw [e, e, h]

/-- The low bits from 'i' on are noughts. -/
def lowB (a l : Int) (i : Nat) : Prop := a.toNat % 2 ^ (32 - l.toNat) < 2 ^ (32 - i)
theorem rightB_nat (a l : Int) (ha : 0 ≤ a ∧ a ≤ 4294967295) (h0 : 0 ≤ l) (h1 : l ≤ 32) : rightB a l = decide (a.toNat % 2 ^ (32 - l.toNat) = 0) := by
  obtain ⟨n, rfl⟩ := Int.eq_ofNat_of_zero_le ha.1
  obtain ⟨m, rfl⟩ := Int.eq_ofNat_of_zero_le h0
  have e : (32 - (m : Int)).toNat = 32 - m := by omega
  have e2 : ((n : Int) % 2 ^ (32 - m)) = ((n % 2 ^ (32 - m) : Nat) : Int) := by simp
  unfold rightB
  rw [e, e2, Int.toNat_natCast, Int.toNat_natCast, Bool.eq_iff_iff]
  simp
  omega
theorem low_start (a l : Int) : lowB a l l.toNat := Nat.mod_lt _ (Nat.two_pow_pos _)
theorem low_bit (a l : Int) (i : Nat) (hi : i ≤ 31) (hl : l.toNat ≤ i) : (a.toNat % 2 ^ (32 - l.toNat)).testBit (31 - i) = bitB a i := by
  rw [Nat.testBit_mod_two_pow, bitB]
  simp
  intro; omega
theorem low_step (a l : Int) (i : Nat) (hi : i ≤ 31) (hl : l.toNat ≤ i) (h : lowB a l i) (hb : bitB a i = false) : lowB a l (i + 1) := by
  have := half_lt _ (31 - i) (by have : 31 - i + 1 = 32 - i := by omega
                                 rw [this]; exact h) ((low_bit a l i hi hl).trans hb)
  unfold lowB
  rw [show 32 - (i + 1) = 31 - i by omega]
  exact this
theorem low_no (a l : Int) (ha : 0 ≤ a ∧ a ≤ 4294967295) (h0 : 0 ≤ l) (h1 : l ≤ 32) (i : Nat) (hi : i ≤ 31) (hl : l.toNat ≤ i) (hb : bitB a i = true) : rightB a l = false := by
  rw [rightB_nat a l ha h0 h1, decide_eq_false_iff_not]
  intro h
  have := low_bit a l i hi hl
  rw [h, hb] at this
  simp at this
theorem low_end (a l : Int) (ha : 0 ≤ a ∧ a ≤ 4294967295) (h0 : 0 ≤ l) (h1 : l ≤ 32) (h : lowB a l 32) : rightB a l = true := by
  rw [rightB_nat a l ha h0 h1, decide_eq_true_eq]
  unfold lowB at h
  simpa using h

theorem law02_bit (a i : Int) (w : World) (h0 : 0 ≤ i) (h1 : i ≤ 31) (ha : 0 ≤ a ∧ a ≤ 4294967295) : Calls Try.prog 106 #[.int .u32 a, .int .i64 i] w
    fun e w' => e = .returned (.bool (bitB a i.toNat)) ∧ w' = w := by
  have hb := bit_and a i.toNat ha (by omega)
  have h2 : 0 ≤ 31 - i := by omega
  have h3 : 31 - i ≤ 31 := by omega
  have e1 : (31 - i).toNat = 31 - i.toNat := by omega
  have HB := Lib.hid hb
  have E1 := Lib.hid e1
  clear hb e1
  go_enter Try.func106, Try.ntmps106
  go_wp2
  go_ret
  exact ⟨by rw [← HB.out, ← E1.out]; rfl, rfl⟩

theorem law02_Right (a l : Int) (w : World) (ha : 0 ≤ a ∧ a ≤ 4294967295) : Calls Try.prog 81 #[.agg #[.int .u32 a, .int .i64 l]] w
    fun e w' => e = .returned (.bool (rightB a l)) ∧ Below w.heap.size w w' := by
  by_cases h0 : 0 ≤ l
  · by_cases h1 : l ≤ 32
    · have h0' : ¬ l < 0 := by omega
      have h1' : ¬ 32 < l := by omega
      go_enter Try.func81, Try.ntmps81
      go_wp2
      go_loop [3] (fun i => ∃ k : Nat, l.toNat ≤ k ∧ k ≤ 32 ∧ i = .int .i64 k ∧ Hid (lowB a l k)) (fun i => 32 - (intOf i).toNat)
      case atStart => exact ⟨l.toNat, Nat.le_refl _, by omega, by congr 1; omega, low_start a l⟩
      case round =>
        obtain ⟨k, hk, hk2, rfl, hlow⟩ := hrel
        by_cases hlt : k < 32
        · have hk3 : (k : Int) ≤ 31 := by omega
          have hk4 : (0 : Int) ≤ k := by omega
          go_wp2_with fail
          refine (law02_bit _ _ _ hk4 hk3 ha).mono ?_
          rintro e w' ⟨rfl, rfl⟩
          rw [Int.toNat_natCast]
          cases hb : bitB a k with
          | true =>
            have HR := Lib.hid (low_no a l ha h0 h1 k (by omega) hk hb)
            clear hb
            go_wp2
            go_ret
            exact ⟨by rw [HR.out]; rfl, (Below.refl _ _).alloc (Nat.le_refl _) _⟩
          | false =>
            have HR := Lib.hid (low_step a l k (by omega) hk hlow.out hb)
            clear hb
            go_wp2
            go_round
            case rel => exact ⟨k + 1, by omega, by omega, by go_num, HR.out⟩
            case measure => simp [intOf]; omega
        · obtain rfl : k = 32 := by omega
          have HR := Lib.hid (low_end a l ha h0 h1 hlow.out)
          go_wp2
          go_ret
          exact ⟨by rw [HR.out]; rfl, (Below.refl _ _).alloc (Nat.le_refl _) _⟩
    · have HR := Lib.hid (show rightB a l = false by simp [rightB, h1])
      have h0' : ¬ l < 0 := by omega
      have h1' : 32 < l := by omega
      go_enter Try.func81, Try.ntmps81
      go_wp2
      go_ret
      exact ⟨by rw [HR.out]; rfl, (Below.refl _ _).alloc (Nat.le_refl _) _⟩
  · have HR := Lib.hid (show rightB a l = false by simp [rightB, h0])
    have h0' : l < 0 := by omega
    go_enter Try.func81, Try.ntmps81
    go_wp2
    go_ret
    exact ⟨by rw [HR.out]; rfl, (Below.refl _ _).alloc (Nat.le_refl _) _⟩

/-- The first 'i' bits are the same. -/
def sameB (a x : Int) (i : Nat) : Prop := x.toNat / 2 ^ (32 - i) = a.toNat / 2 ^ (32 - i)
theorem same_start (a x : Int) (ha : 0 ≤ a ∧ a ≤ 4294967295) (hx : 0 ≤ x ∧ x ≤ 4294967295) : sameB a x 0 := by
  unfold sameB
  rw [Nat.div_eq_of_lt (by omega), Nat.div_eq_of_lt (by omega)]
theorem same_step (a x : Int) (i : Nat) (hi : i ≤ 31) (h : sameB a x i) (hb : bitB x i = bitB a i) : sameB a x (i + 1) := by
  unfold sameB at *
  rw [show 32 - (i + 1) = 31 - i by omega]
  exact half_eq _ _ _ (by rw [show 31 - i + 1 = 32 - i by omega]; exact h) hb
theorem in_iff (a l x : Int) (ha : 0 ≤ a ∧ a ≤ 4294967295) (hx : 0 ≤ x ∧ x ≤ 4294967295) (h0 : 0 ≤ l) (h1 : l ≤ 32) (hr : rightB a l = true) : inB a l x = true ↔ sameB a x l.toNat := by
  rw [rightB_nat a l ha h0 h1, decide_eq_true_eq] at hr
  obtain ⟨n, rfl⟩ := Int.eq_ofNat_of_zero_le ha.1
  obtain ⟨y, rfl⟩ := Int.eq_ofNat_of_zero_le hx.1
  obtain ⟨m, rfl⟩ := Int.eq_ofNat_of_zero_le h0
  have e : (32 - (m : Int)).toNat = 32 - m := by omega
  simp only [inB, sameB, decide_eq_true_eq, e, Int.toNat_natCast] at *
  have e2 : ((y : Int) % 2 ^ (32 - m)) = ((y % 2 ^ (32 - m) : Nat) : Int) := by simp
  rw [e2]
  have d1 := Nat.div_add_mod n (2 ^ (32 - m))
  have d2 := Nat.div_add_mod y (2 ^ (32 - m))
  have hp := Nat.two_pow_pos (32 - m)
  rw [hr] at d1
  generalize 2 ^ (32 - m) = p at *
  constructor
  · intro h
    have : p * (y / p) = p * (n / p) := by omega
    exact Nat.eq_of_mul_eq_mul_left hp this
  · intro h
    rw [h] at d2
    omega
theorem has_end (a l x : Int) (ha : 0 ≤ a ∧ a ≤ 4294967295) (hx : 0 ≤ x ∧ x ≤ 4294967295) (h0 : 0 ≤ l) (h1 : l ≤ 32) (hr : rightB a l = true) (h : sameB a x l.toNat) : hasB a l x = true := by
  rw [hasB, hr, (in_iff a l x ha hx h0 h1 hr).2 h]; rfl
theorem has_no (a l x : Int) (ha : 0 ≤ a ∧ a ≤ 4294967295) (hx : 0 ≤ x ∧ x ≤ 4294967295) (h0 : 0 ≤ l) (h1 : l ≤ 32) (hr : rightB a l = true) (i : Nat) (hi : i < l.toNat) (h : bitB x i ≠ bitB a i) : hasB a l x = false := by
  cases hh : hasB a l x with
  | false => rfl
  | true =>
    rw [hasB, hr, Bool.true_and, in_iff a l x ha hx h0 h1 hr] at hh
    exact absurd (half_ne _ _ (31 - i) (32 - l.toNat) hh (by omega)) h
end Go.Proofs.Ytnfaeafplaeehaa
