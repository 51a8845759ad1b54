import Derived.Test.YtgmdjhokcipajaaBase
import Derived.Test.YtgmdjhokcipajaaRegion
set_option linter.unusedVariables false
set_option linter.unusedSimpArgs false
namespace Go.Proofs.Ytgmdjhokcipajaa
open Go.RowKit

def maskI (n : Int) : Int := 4294967296 - 2 ^ (32 - n).toNat
/-- Is a prefix one? -/
def rightB (a l : Int) : Bool := decide (0 ≤ l ∧ l ≤ 32 ∧ a % 2 ^ (32 - l).toNat = 0)
/-- Has a prefix that is one an address? -/
def inB (a l x : Int) : Bool := decide (x - x % 2 ^ (32 - l).toNat = a)
def hasB (a l x : Int) : Bool := rightB a l && inB a l x

theorem shl_mask (k : Nat) (h : k ≤ 31) : (4294967295 : Int) * 2 ^ k % 4294967296 = 4294967296 - 2 ^ k := by
  have : ∀ k : Fin 32, (4294967295 : Int) * 2 ^ k.val % 4294967296 = 4294967296 - 2 ^ k.val := by decide
  exact this ⟨k, by omega⟩
theorem pow_bd (k : Nat) (h : k ≤ 32) : (1 : Int) ≤ 2 ^ k ∧ (2 : Int) ^ k ≤ 4294967296 := by
  have : ∀ k : Fin 33, (1 : Int) ≤ 2 ^ k.val ∧ (2 : Int) ^ k.val ≤ 4294967296 := by decide
  exact this ⟨k, by omega⟩
theorem natpow_bd (k : Nat) (h : k ≤ 32) : 1 ≤ 2 ^ k ∧ 2 ^ k ≤ 4294967296 := by
  have : ∀ k : Fin 33, 1 ≤ 2 ^ k.val ∧ 2 ^ k.val ≤ 4294967296 := by decide
  exact this ⟨k, by omega⟩
theorem maskI_nat (l : Int) (h0 : 0 ≤ l) (h1 : l ≤ 32) : maskI l = ((4294967296 - 2 ^ (32 - l).toNat : Nat) : Int) := by
  have := natpow_bd (32 - l).toNat (by omega)
  unfold maskI
  rw [Int.natCast_sub this.2]
  simp
theorem andNot_mask (a l : Int) (ha : 0 ≤ a ∧ a ≤ 4294967295) (h0 : 0 ≤ l) (h1 : l ≤ 32) : (Go.bits .andNot .u32 a (maskI l) == 0) = decide (a % 2 ^ (32 - l).toNat = 0) := by
  have hk := natpow_bd (32 - l).toNat (by omega)
  obtain ⟨n, rfl⟩ := Int.eq_ofNat_of_zero_le ha.1
  rw [maskI_nat l h0 h1, u32_andNot_nat _ _ (by omega) (by omega)]
  generalize (32 - l).toNat = k at *
  rw [show 4294967295 - (4294967296 - 2 ^ k) = 2 ^ k - 1 by omega, Nat.and_two_pow_sub_one_eq_mod]
  rw [show ((n : Int) % 2 ^ k) = ((n % 2 ^ k : Nat) : Int) by simp]
  rw [Bool.eq_iff_iff]
  simp
theorem and_high (x k : Nat) (hk : k ≤ 32) (hx : x < 4294967296) : x &&& (4294967296 - 2 ^ k) = x - x % 2 ^ k := by
  have e : 4294967296 - 2 ^ k = (2 ^ (32 - k) - 1) <<< k := by
    rw [Nat.shiftLeft_eq, Nat.sub_mul, ← Nat.pow_add, show 32 - k + k = 32 by omega, Nat.one_mul]
  have e2 : x - x % 2 ^ k = (x / 2 ^ k) <<< k := by
    rw [Nat.shiftLeft_eq]
    have := Nat.div_add_mod x (2 ^ k)
    rw [Nat.mul_comm] at this
    omega
  rw [e, e2]
  refine Nat.eq_of_testBit_eq fun i => ?_
  rw [Nat.testBit_and, Nat.testBit_shiftLeft, Nat.testBit_shiftLeft, Nat.testBit_two_pow_sub_one, Nat.testBit_div_two_pow]
  by_cases hi : k ≤ i
  · simp only [hi, decide_true, Bool.true_and, ge_iff_le]
    rw [show i - k + k = i by omega]
    by_cases h2 : i - k < 32 - k
    · simp [h2]
    · have : x.testBit i = false := Nat.testBit_lt_two_pow (Nat.lt_of_lt_of_le hx (by
        calc 4294967296 = 2 ^ 32 := by decide
          _ ≤ 2 ^ i := Nat.pow_le_pow_right (by decide) (by omega)))
      simp [this]
  · simp [hi]
theorem and_mask (x l : Int) (hx : 0 ≤ x ∧ x ≤ 4294967295) (h0 : 0 ≤ l) (h1 : l ≤ 32) : Go.bits .and .u32 x (maskI l) = x - x % 2 ^ (32 - l).toNat := by
  have hk := natpow_bd (32 - l).toNat (by omega)
  obtain ⟨n, rfl⟩ := Int.eq_ofNat_of_zero_le hx.1
  rw [maskI_nat l h0 h1, u32_and_nat _ _ (by omega) (by omega), and_high n _ (by omega) (by omega)]
  have := Nat.mod_le n (2 ^ (32 - l).toNat)
  rw [Int.natCast_sub this]
  simp

theorem addr_mask (n : Int) (w : World) (h0 : 0 ≤ n) (h1 : n ≤ 32) : Calls Try.prog 58 #[.int .i64 n] w fun e w' => e = .returned (.int .u32 (maskI n)) ∧ w' = w := by
  by_cases hn : n = 0
  · subst hn
    have HM := Lib.hid (show maskI 0 = 0 by decide)
    go_enter Try.func58, Try.ntmps58
    go_wp2
    go_ret
    exact ⟨by rw [HM.out]; rfl, rfl⟩
  · have hn' : (n == 0) = false := by simpa using hn
    go_enter Try.func58, Try.ntmps58
    go_wp2
    go_ret
    exact ⟨congrArg (fun x => Ending.returned (.int .u32 x)) (shl_mask (32 - n).toNat (by omega)), rfl⟩

theorem addr_Right (a l : Int) (w : World) (ha : 0 ≤ a ∧ a ≤ 4294967295) : Calls Try.prog 50 #[.agg #[.int .u32 a, .int .i64 l]] w
    fun e w' => e = .returned (.bool (rightB a l)) ∧ Below w.heap.size w w' := by
  by_cases h0 : 0 ≤ l
  · by_cases h1 : l ≤ 32
    · have hb := Lib.hid (show rightB a l = (Go.bits .andNot .u32 a (maskI l) == 0) by rw [andNot_mask a l ha h0 h1]; simp [rightB, h0, h1])
      go_enter Try.func50, Try.ntmps50
      go_wp2_with fail
      go_quiet ((go_at_call 58; exact Calls.quiet_of_same (addr_mask _ _ h0 h1)))
      go_wp2
      go_ret
      exact ⟨by rw [hb.out]; rfl, below_drewN ((Below.refl _ _).alloc (Nat.le_refl _) _) _⟩
    · have hb := Lib.hid (show rightB a l = false by simp [rightB, h1])
      have h1' : decide (l ≤ 32) = false := by simpa using h1
      go_enter Try.func50, Try.ntmps50
      go_wp2_with fail
      go_quiet (fail)
      go_wp2
      go_ret
      exact ⟨by rw [hb.out]; rfl, below_drewN ((Below.refl _ _).alloc (Nat.le_refl _) _) _⟩
  · have hb := Lib.hid (show rightB a l = false by simp [rightB, h0])
    have h0' : decide (0 ≤ l) = false := by simpa using h0
    go_enter Try.func50, Try.ntmps50
    go_wp2_with fail
    go_quiet (fail)
    go_wp2
    go_ret
    exact ⟨by rw [hb.out]; rfl, below_drewN ((Below.refl _ _).alloc (Nat.le_refl _) _) _⟩

theorem addr_Has (a l x : Int) (w : World) (ha : 0 ≤ a ∧ a ≤ 4294967295) (hx : 0 ≤ x ∧ x ≤ 4294967295) : Calls Try.prog 43 #[.agg #[.int .u32 a, .int .i64 l], .int .u32 x] w
    fun e w' => e = .returned (.bool (hasB a l x)) ∧ Below w.heap.size w w' := by
  obtain ⟨a0, a1⟩ := ha
  cases hr : rightB a l with
  | true =>
    have hr' := hr
    simp only [rightB, decide_eq_true_eq] at hr'
    obtain ⟨h0, h1, -⟩ := hr'
    have HM := Lib.hid (show hasB a l x = (Go.bits .and .u32 x (maskI l) == a) by rw [hasB, hr, and_mask x l hx h0 h1, inB, Bool.true_and, Bool.eq_iff_iff]; simp)
    have HR := Lib.hid hr
    clear hr
    go_enter Try.func43, Try.ntmps43
    go_wp2_with fail
    have hA0 : (w.alloc (.cells #[.int .u32 a, .int .i64 l] 29)).cell? ⟨w.heap.size, 0, none⟩ = some (.int .u32 a) := by go_simp
    have hA1 : (w.alloc (.cells #[.int .u32 a, .int .i64 l] 29)).cell? ⟨w.heap.size, 1, none⟩ = some (.int .i64 l) := by go_simp
    have hS : w.heap.size < (w.alloc (.cells #[.int .u32 a, .int .i64 l] 29)).heap.size := by simp
    have hb : Below w.heap.size w (w.alloc (.cells #[.int .u32 a, .int .i64 l] 29)) := (Below.refl _ _).alloc (Nat.le_refl _) _
    generalize (w.alloc (.cells #[.int .u32 a, .int .i64 l] 29)) = W at *
    generalize hg : w.heap.size = g at *
    replace hg := Lib.hid hg
    go_region_held3 (fun w' => w'.cell? ⟨g, 0, none⟩ = some (.int .u32 a) ∧ w'.cell? ⟨g, 1, none⟩ = some (.int .i64 l))
      (first
        | go_keep
        | (go_split_ands
           refine ⟨?_, ?_⟩
           all_goals (rw [hc1 _ _ (by show _ < W.heap.size; omega)]; assumption)))
      ((first
        | (go_at_call 50; refine (addr_Right _ _ _ ?_).mono ?_; exact ⟨a0, a1⟩; rintro e w1 ⟨rfl, hb1⟩; rw [HR.out]; have hc1 := (bcell hb1).1)
        | (go_at_call 58; refine (addr_mask _ _ ?_ ?_).mono ?_; exact h0; exact h1; rintro e w2 ⟨rfl, rfl⟩)))
    go_wp2
    go_ret
    exact ⟨by rw [HM.out]; rfl, below_step (B := w.heap.size) (by rw [hg.out]; exact hb.drew) (by rw [hg.out]; show _ ≤ W.heap.size; omega) hb1⟩
  | false =>
    have HM := Lib.hid (show hasB a l x = false by rw [hasB, hr]; rfl)
    have HR := Lib.hid hr
    clear hr
    go_enter Try.func43, Try.ntmps43
    go_wp2_with fail
    have hA0 : (w.alloc (.cells #[.int .u32 a, .int .i64 l] 29)).cell? ⟨w.heap.size, 0, none⟩ = some (.int .u32 a) := by go_simp
    have hA1 : (w.alloc (.cells #[.int .u32 a, .int .i64 l] 29)).cell? ⟨w.heap.size, 1, none⟩ = some (.int .i64 l) := by go_simp
    have hS : w.heap.size < (w.alloc (.cells #[.int .u32 a, .int .i64 l] 29)).heap.size := by simp
    have hb : Below w.heap.size w (w.alloc (.cells #[.int .u32 a, .int .i64 l] 29)) := (Below.refl _ _).alloc (Nat.le_refl _) _
    generalize (w.alloc (.cells #[.int .u32 a, .int .i64 l] 29)) = W at *
    generalize hg : w.heap.size = g at *
    replace hg := Lib.hid hg
    refine draw_start [] (by kernel_rfl) ?_
    refine draw_chunk (n := 17) (by kernel_rfl) (fun _ _ _ _ _ h => h) [0] [] _ #[true, false, false, false, false, false, false, false, false, false, false, false, false] (by kernel_rfl) 12 _ ?_ _ rfl ?_ ?_
    rotate_left
    · intro w' hw'
      have hc' : ∀ b o, b < W.heap.size → w'.cell? ⟨b, o, none⟩ = W.cell? ⟨b, o, none⟩ := (bcell hw').1
      refine ci_step (i := 0) (v := ?_) rfl (by kernel_rfl) ?_ ?_
      rotate_left
      · first | (go_simp; done) | (go_simp; with_reducible rfl)
      skip
      try simp only [Act.put, List.setIfInBounds_toArray, List.set_cons_zero, List.set_cons_succ]
      refine ci_end ?_
      rfl
    refine draw_eff (i := 1) rfl (by kernel_rfl) (listed' := #[true, true, false, false, false, false, false, false, false, false, false, false, false]) rfl (fun K hK => ?_)
    replace hK := Lib.hid hK
    go_wp2_with fail
    refine (addr_Right _ _ _ ⟨a0, a1⟩).mono ?_
    rintro e w1 ⟨rfl, hb1⟩
    rw [HR.out]
    go_wp2_with fail
    refine hK.out _ _ ⟨fun _ => hb1, ?_⟩
    clear hK
    refine draw_chunk (n := 17) (by kernel_rfl) (fun _ _ _ _ _ h => h) [2, 3, 4, 5, 6, 7, 8, 9, 10, 11, 12] [] _ #[true, true, true, true, true, true, true, true, true, true, true, true, true] (by kernel_rfl) 0 _ ?_ _ rfl ?_ ?_
    rotate_left
    · intro w' hw'
      have hc' : ∀ b o, b < w1.heap.size → w'.cell? ⟨b, o, none⟩ = w1.cell? ⟨b, o, none⟩ := (bcell hw').1
      refine ci_step (i := 2) (v := ?_) rfl (by kernel_rfl) ?_ ?_
      rotate_left
      · first | (go_simp; done) | (go_simp; with_reducible rfl)
      skip
      try simp only [Act.put, List.setIfInBounds_toArray, List.set_cons_zero, List.set_cons_succ]
      refine ci_off (i := 3) rfl (by kernel_rfl) ?_
      try simp only [Act.put, List.setIfInBounds_toArray, List.set_cons_zero, List.set_cons_succ]
      refine ci_off (i := 4) rfl (by kernel_rfl) ?_
      try simp only [Act.put, List.setIfInBounds_toArray, List.set_cons_zero, List.set_cons_succ]
      refine ci_off (i := 5) rfl (by kernel_rfl) ?_
      try simp only [Act.put, List.setIfInBounds_toArray, List.set_cons_zero, List.set_cons_succ]
      refine ci_off (i := 6) rfl (by kernel_rfl) ?_
      try simp only [Act.put, List.setIfInBounds_toArray, List.set_cons_zero, List.set_cons_succ]
      refine ci_off (i := 7) rfl (by kernel_rfl) ?_
      try simp only [Act.put, List.setIfInBounds_toArray, List.set_cons_zero, List.set_cons_succ]
      refine ci_off (i := 8) rfl (by kernel_rfl) ?_
      try simp only [Act.put, List.setIfInBounds_toArray, List.set_cons_zero, List.set_cons_succ]
      refine ci_off (i := 9) rfl (by kernel_rfl) ?_
      try simp only [Act.put, List.setIfInBounds_toArray, List.set_cons_zero, List.set_cons_succ]
      refine ci_off (i := 10) rfl (by kernel_rfl) ?_
      try simp only [Act.put, List.setIfInBounds_toArray, List.set_cons_zero, List.set_cons_succ]
      refine ci_step (i := 11) (v := ?_) rfl (by kernel_rfl) ?_ ?_
      rotate_left
      · first | (go_simp; done) | (go_simp; with_reducible rfl)
      skip
      try simp only [Act.put, List.setIfInBounds_toArray, List.set_cons_zero, List.set_cons_succ]
      refine ci_step (i := 12) (v := ?_) rfl (by kernel_rfl) ?_ ?_
      rotate_left
      · first | (go_simp; done) | (go_simp; with_reducible rfl)
      skip
      try simp only [Act.put, List.setIfInBounds_toArray, List.set_cons_zero, List.set_cons_succ]
      refine ci_end ?_
      rfl
    refine draw_done (by kernel_rfl) ?_ _
    go_wp2
    go_ret
    exact ⟨by rw [HM.out]; rfl, below_step (B := w.heap.size) (by rw [hg.out]; exact hb.drew) (by rw [hg.out]; show _ ≤ W.heap.size; omega) hb1⟩
end Go.Proofs.Ytgmdjhokcipajaa
