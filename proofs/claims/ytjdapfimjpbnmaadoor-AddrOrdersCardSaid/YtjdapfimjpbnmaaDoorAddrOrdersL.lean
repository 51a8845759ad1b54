import Derived.Test.YtjdapfimjpbnmaaDoorAddrHead
import Derived.Test.YtjdapfimjpbnmaaDoorAddrC
import Derived.Test.YtjdapfimjpbnmaaDoorLaw02
import Derived.Test.YtjdapfimjpbnmaaDoorEqP
set_option linter.unusedVariables false
set_option linter.unusedSimpArgs false
namespace Go.Proofs.YtjdapfimjpbnmaaDoor
open Go.RowKit
attribute [-go_sem] Go.run_equalIn_agg
def lessB (a l c m : Int) : Bool := decide (a < c ∨ a = c ∧ l < m)
theorem law02_Less (a l c m : Int) (w : World) : Calls Tryd.prog 16 #[.agg #[.int .u32 a, .int .i64 l], .agg #[.int .u32 c, .int .i64 m]] w fun e w' => e = .returned (.bool (lessB a l c m)) ∧ Below w.heap.size w w' := by
  have hb0 := ((Below.refl w.heap.size w).alloc (Nat.le_refl _) (.cells #[.int .u32 a, .int .i64 l] 24)).alloc (by simp) (.cells #[.int .u32 c, .int .i64 m] 24)
  by_cases h : a < c
  · have HL := Lib.hid (show lessB a l c m = true by simp [lessB, h])
    go_enter Tryd.func16, Tryd.ntmps16
    go_wp2
    go_ret
    exact ⟨by rw [HL.out]; rfl, hb0⟩
  · have h' : decide (a < c) = false := decide_eq_false h
    by_cases h2 : a = c
    · have h2' : (a == c) = true := by simpa using h2
      have HL := Lib.hid (show lessB a l c m = decide (l < m) by simp [lessB, h2])
      clear h2 h
      go_enter Tryd.func16, Tryd.ntmps16
      go_wp2
      go_ret
      exact ⟨by rw [HL.out]; rfl, hb0⟩
    · have h2' : (a == c) = false := by simpa using h2
      have HL := Lib.hid (show lessB a l c m = false by simp [lessB, h, h2])
      clear h2 h
      go_enter Tryd.func16, Tryd.ntmps16
      go_wp2
      go_ret
      exact ⟨by rw [HL.out]; rfl, hb0⟩
theorem pcmp_facts (a l c m : Int) : decide (pcmp a l c m < 0) = lessB a l c m ∧ decide (0 < pcmp a l c m) = lessB c m a l ∧ (pcmp a l c m == 0) = pfxEqB a l c m ∧ decide (pcmp a l c m < -1) = false ∧ decide (1 < pcmp a l c m) = false := by
  have h : pcmp a l c m = if a < c ∨ a = c ∧ l < m then -1 else if c < a ∨ c = a ∧ m < l then 1 else 0 := by
    unfold pcmp orI cmpI
    by_cases h1 : a < c
    · simp [h1]
    · by_cases h2 : c < a
      · have : ¬ a = c := by omega
        have : ¬ c = a := by omega
        simp [h1, h2, *]
      · obtain rfl : a = c := by omega
        simp
  have hE : pfxEqB a l c m = ((a == c) && (l == m)) := by unfold pfxEqB; rw [Bool.eq_iff_iff]; simp
  unfold lessB
  rw [h, hE]
  by_cases h1 : a < c ∨ a = c ∧ l < m
  · have h2 : ¬ (c < a ∨ c = a ∧ m < l) := by omega
    have h3 : ((a == c) && (l == m)) = false := by
      simp only [Bool.and_eq_false_iff, beq_eq_false_iff_ne]
      omega
    rw [if_pos h1, decide_eq_true h1, decide_eq_false h2, h3]
    decide
  · by_cases h2 : c < a ∨ c = a ∧ m < l
    · have h3 : ((a == c) && (l == m)) = false := by
        simp only [Bool.and_eq_false_iff, beq_eq_false_iff_ne]
        omega
      rw [if_neg h1, if_pos h2, decide_eq_false h1, decide_eq_true h2, h3]
      decide
    · have h3 : ((a == c) && (l == m)) = true := by
        simp only [Bool.and_eq_true, beq_iff_eq]
        omega
      rw [if_neg h1, if_neg h2, decide_eq_false h1, decide_eq_false h2, h3]
      decide
theorem pow_tab (m : Int) (m0 : 0 ≤ m) (m1 : m ≤ 32) : (4294967295 : Int) / 2 ^ m.toNat = 2 ^ (32 - m).toNat - 1 := by
  have h : ∀ k : Fin 33, (4294967295 : Int) / 2 ^ k.val = 2 ^ (32 - k.val) - 1 := by decide
  have := h ⟨m.toNat, by omega⟩
  rw [this]
  congr 2
  simp only
  omega
theorem or_last (c m : Int) (hc : 0 ≤ c ∧ c ≤ 4294967295) (m0 : 0 ≤ m) (m1 : m ≤ 32) (h : c % 2 ^ (32 - m).toNat = 0) : bits .or .u32 c (4294967295 / 2 ^ m.toNat) = c + (2 ^ (32 - m).toNat - 1) := by
  rw [pow_tab m m0 m1]
  have hp := natpow_bd (32 - m).toNat (by omega)
  generalize (32 - m).toNat = k at *
  obtain ⟨n, rfl⟩ := Int.eq_ofNat_of_zero_le hc.1
  have e : ((2 : Int) ^ k - 1) = ((2 ^ k - 1 : Nat) : Int) := by rw [Int.natCast_sub hp.1]; simp
  rw [e, u32_or_nat n (2 ^ k - 1) (by omega) (by omega)]
  have hn : n % 2 ^ k = 0 := by
    have h2 : ((n % 2 ^ k : Nat) : Int) = 0 := by simpa using h
    omega
  have h3 : n = (n / 2 ^ k) <<< k := by
    rw [Nat.shiftLeft_eq]
    have := Nat.div_add_mod n (2 ^ k)
    rw [Nat.mul_comm] at this
    omega
  have h4 : n ||| (2 ^ k - 1) = n + (2 ^ k - 1) := by
    rw [h3, Nat.shiftLeft_add_eq_or_of_lt (by omega)]
  rw [h4]
  simp
theorem last_in (a l c m : Int) (ha : 0 ≤ a ∧ a ≤ 4294967295) (hc : 0 ≤ c ∧ c ≤ 4294967295) (hr : rightB a l = true) (hq : rightB c m = true) (hl : l ≤ m) (hh : hasB a l c = true) :
    hasB a l (bits .or .u32 c (4294967295 / 2 ^ m.toNat)) = true ∧ decide (pcmp a l c m ≤ 0) = true ∧ (0 ≤ bits .or .u32 c (4294967295 / 2 ^ m.toNat) ∧ bits .or .u32 c (4294967295 / 2 ^ m.toNat) ≤ 4294967295) := by
  obtain ⟨l0, l1⟩ := rightB_bd hr
  obtain ⟨m0, m1⟩ := rightB_bd hq
  have hcm : c % 2 ^ (32 - m).toNat = 0 := by
    simp only [rightB, decide_eq_true_eq] at hq
    exact hq.2.2
  rw [or_last c m hc m0 m1 hcm]
  have hin : c - c % 2 ^ (32 - l).toNat = a := by
    simp only [hasB, inB, Bool.and_eq_true, decide_eq_true_eq] at hh
    exact hh.2
  have hk : (32 - l).toNat = (32 - m).toNat + (m - l).toNat := by omega
  have h32 : (4294967296 : Int) = 2 ^ (32 - m).toNat * 2 ^ m.toNat := by
    rw [← Int.pow_add, show (32 - m).toNat + m.toNat = 32 by omega]
    rfl
  have hp := (pow_bd (32 - m).toNat (by omega)).1
  have hd := (pow_bd (m - l).toNat (by omega)).1
  rw [hk, Int.pow_add] at hin
  have hres : c + (2 ^ (32 - m).toNat - 1) - (c + (2 ^ (32 - m).toNat - 1)) % 2 ^ (32 - l).toNat = a ∧ a ≤ c ∧ c + (2 ^ (32 - m).toNat - 1) ≤ 4294967295 := by
    rw [hk, Int.pow_add]
    generalize (2 : Int) ^ (32 - m).toNat = p at *
    generalize (2 : Int) ^ (m - l).toNat = d at *
    generalize (2 : Int) ^ m.toNat = z at *
    obtain ⟨q, rfl⟩ : ∃ q, c = p * q := ⟨c / p, by have := Int.mul_ediv_add_emod c p; omega⟩
    rw [Int.mul_emod_mul_of_pos _ _ (by omega)] at hin
    have hq1 := Int.emod_nonneg q (show d ≠ 0 by omega)
    have hq2 := Int.emod_lt_of_pos q (show 0 < d by omega)
    have hq3 := Int.mul_ediv_add_emod q d
    have b1 : p * (q % d) ≤ p * (d - 1) := Int.mul_le_mul_of_nonneg_left (by omega) (by omega)
    have b0 : 0 ≤ p * (q % d) := Int.mul_nonneg (by omega) hq1
    have b2 : p * (d - 1) = p * d - p := by rw [Int.mul_sub, Int.mul_one]
    have e : p * q + (p - 1) = (p * (q % d) + (p - 1)) + p * d * (q / d) := by
      have : p * q = p * d * (q / d) + p * (q % d) := by rw [Int.mul_assoc, ← Int.mul_add, hq3]
      omega
    have em : (p * q + (p - 1)) % (p * d) = p * (q % d) + (p - 1) := by
      rw [e, Int.add_mul_emod_self_left, Int.emod_eq_of_lt (by omega) (by omega)]
    refine ⟨by omega, by omega, ?_⟩
    have hz : q < z := by
      rcases Int.lt_or_le q z with h | h
      · exact h
      · have := Int.mul_le_mul_of_nonneg_left h (show 0 ≤ p by omega)
        omega
    have b3 : p * q ≤ p * (z - 1) := Int.mul_le_mul_of_nonneg_left (by omega) (by omega)
    rw [Int.mul_sub, Int.mul_one] at b3
    omega
  obtain ⟨r1, r2, r3⟩ := hres
  refine ⟨?_, ?_, by omega, r3⟩
  · simp only [hasB, inB, Bool.and_eq_true, decide_eq_true_eq]
    exact ⟨hr, r1⟩
  · rw [decide_eq_true_eq]
    unfold pcmp orI cmpI
    by_cases h1 : a < c
    · simp [h1]
    · have : ¬ c < a := by omega
      by_cases h2 : l < m
      · simp [h1, this, h2]
      · have : ¬ m < l := by omega
        simp [h1, *]
set_option maxHeartbeats 1000000 in
theorem AddrOrders_all (a l c m : Int) (w : World) (ht : Tabs w) (ha : 0 ≤ a ∧ a ≤ 4294967295) (hc : 0 ≤ c ∧ c ≤ 4294967295) :
    Calls Tryd.prog 6 #[.agg #[.int .u32 a, .int .i64 l], .agg #[.int .u32 c, .int .i64 m]] w fun e w' => e = .returned (.bool true) ∧ Below w.heap.size w w' := by
  have kP := (Blk.new w 24 #[.int .u32 a, .int .i64 l]).alloc (.cells #[.int .u32 c, .int .i64 m] 24)
  have kQ := Blk.new (w.alloc (.cells #[.int .u32 a, .int .i64 l] 24)) 24 #[.int .u32 c, .int .i64 m]
  have hb0 := ((Below.refl w.heap.size w).alloc (Nat.le_refl _) (.cells #[.int .u32 a, .int .i64 l] 24)).alloc (by simp) (.cells #[.int .u32 c, .int .i64 m] 24)
  simp only [World.size_alloc] at kQ
  obtain ⟨f1, f2, f3, f4, f5⟩ := pcmp_facts a l c m
  have g4 := of_decide_eq_false f4
  have g5 := of_decide_eq_false f5
  go_enter Tryd.func6, Tryd.ntmps6
  go_wp2_with fail
  have p0 := kP.cell 0
  have p1 := kP.cell 0
  have q0 := kP.cell 0
  have q1 := kP.cell 0
  refine (law02_head _ (ht.below hb0)).mono ?_
  rintro e w2 ⟨rfl, hb3⟩
  replace kP := kP.below' hb3
  replace kQ := kQ.below' hb3
  replace hb0 := Go.Proofs.YtjdapfimjpbnmaaDoor.below_step hb0 hb0.size hb3
  clear hb3 p0 p1 q0 q1
  have p0 := kP.cell 0
  have p1 := kP.cell 1
  simp only [List.getElem?_toArray, List.getElem?_cons_zero, List.getElem?_cons_succ] at p0 p1
  have q0 := kQ.cell 0
  have q1 := kQ.cell 1
  simp only [List.getElem?_toArray, List.getElem?_cons_zero, List.getElem?_cons_succ] at q0 q1
  go_wp2_with fail
  refine (addr_Compare a l c m _).mono ?_
  rintro e w3 ⟨rfl, hb3⟩
  replace kP := kP.below' hb3
  replace kQ := kQ.below' hb3
  replace hb0 := Go.Proofs.YtjdapfimjpbnmaaDoor.below_step hb0 hb0.size hb3
  clear hb3 p0 p1 q0 q1
  have p0 := kP.cell 0
  have p1 := kP.cell 1
  simp only [List.getElem?_toArray, List.getElem?_cons_zero, List.getElem?_cons_succ] at p0 p1
  have q0 := kQ.cell 0
  have q1 := kQ.cell 1
  simp only [List.getElem?_toArray, List.getElem?_cons_zero, List.getElem?_cons_succ] at q0 q1
  go_wp2_with fail
  refine (law02_Less a l c m _).mono ?_
  rintro e w4 ⟨rfl, hb3⟩
  replace kP := kP.below' hb3
  replace kQ := kQ.below' hb3
  replace hb0 := Go.Proofs.YtjdapfimjpbnmaaDoor.below_step hb0 hb0.size hb3
  clear hb3 p0 p1 q0 q1
  have p0 := kP.cell 0
  have p1 := kP.cell 1
  simp only [List.getElem?_toArray, List.getElem?_cons_zero, List.getElem?_cons_succ] at p0 p1
  have q0 := kQ.cell 0
  have q1 := kQ.cell 1
  simp only [List.getElem?_toArray, List.getElem?_cons_zero, List.getElem?_cons_succ] at q0 q1
  go_wp2_with fail
  refine (law02_Less c m a l _).mono ?_
  rintro e w5 ⟨rfl, hb3⟩
  replace kP := kP.below' hb3
  replace kQ := kQ.below' hb3
  replace hb0 := Go.Proofs.YtjdapfimjpbnmaaDoor.below_step hb0 hb0.size hb3
  clear hb3 p0 p1 q0 q1
  have p0 := kP.cell 0
  have p1 := kP.cell 1
  simp only [List.getElem?_toArray, List.getElem?_cons_zero, List.getElem?_cons_succ] at p0 p1
  have q0 := kQ.cell 0
  have q1 := kQ.cell 1
  simp only [List.getElem?_toArray, List.getElem?_cons_zero, List.getElem?_cons_succ] at q0 q1
  go_wp2_with fail
  clear f1 f2 f3 f4 f5 g4 g5
  cases hr : rightB a l with
  | false =>
    go_wp2_with fail
    refine (law02_Right a l _ ha).mono ?_
    rintro e w6 ⟨rfl, hb3⟩
    rw [hr]
    replace hb0 := Go.Proofs.YtjdapfimjpbnmaaDoor.below_step hb0 hb0.size hb3
    clear hr
    go_wp2
    go_ret
    exact ⟨rfl, hb0⟩
  | true =>
    go_wp2_with fail
    refine (law02_Right a l _ ha).mono ?_
    rintro e w6 ⟨rfl, hb3⟩
    replace kP := kP.below' hb3
    replace kQ := kQ.below' hb3
    replace hb0 := Go.Proofs.YtjdapfimjpbnmaaDoor.below_step hb0 hb0.size hb3
    clear hb3 p0 p1 q0 q1
    have p0 := kP.cell 0
    have p1 := kP.cell 1
    simp only [List.getElem?_toArray, List.getElem?_cons_zero, List.getElem?_cons_succ] at p0 p1
    have q0 := kQ.cell 0
    have q1 := kQ.cell 1
    simp only [List.getElem?_toArray, List.getElem?_cons_zero, List.getElem?_cons_succ] at q0 q1
    rw [hr]
    cases hq : rightB c m with
    | false =>
      go_wp2_with fail
      refine (law02_Right c m _ hc).mono ?_
      rintro e w7 ⟨rfl, hb3⟩
      rw [hq]
      replace hb0 := Go.Proofs.YtjdapfimjpbnmaaDoor.below_step hb0 hb0.size hb3
      clear hr hq
      go_wp2
      go_ret
      exact ⟨rfl, hb0⟩
    | true =>
      go_wp2_with fail
      refine (law02_Right c m _ hc).mono ?_
      rintro e w7 ⟨rfl, hb3⟩
      replace kP := kP.below' hb3
      replace kQ := kQ.below' hb3
      replace hb0 := Go.Proofs.YtjdapfimjpbnmaaDoor.below_step hb0 hb0.size hb3
      clear hb3 p0 p1 q0 q1
      have p0 := kP.cell 0
      have p1 := kP.cell 1
      simp only [List.getElem?_toArray, List.getElem?_cons_zero, List.getElem?_cons_succ] at p0 p1
      have q0 := kQ.cell 0
      have q1 := kQ.cell 1
      simp only [List.getElem?_toArray, List.getElem?_cons_zero, List.getElem?_cons_succ] at q0 q1
      rw [hq]
      by_cases hl : l ≤ m
      · have hl' : decide (l > m) = false := by simpa using hl
        go_wp2_with fail
        cases hh : hasB a l c with
        | false =>
          refine (addr_Has a l c _ ha hc).mono ?_
          rintro e w8 ⟨rfl, hb3⟩
          rw [hh]
          replace hb0 := Go.Proofs.YtjdapfimjpbnmaaDoor.below_step hb0 hb0.size hb3
          clear hr hq hh
          go_wp2
          go_ret
          exact ⟨rfl, hb0⟩
        | true =>
          refine (addr_Has a l c _ ha hc).mono ?_
          rintro e w8 ⟨rfl, hb3⟩
          replace kP := kP.below' hb3
          replace kQ := kQ.below' hb3
          replace hb0 := Go.Proofs.YtjdapfimjpbnmaaDoor.below_step hb0 hb0.size hb3
          clear hb3 p0 p1 q0 q1
          have p0 := kP.cell 0
          have p1 := kP.cell 1
          simp only [List.getElem?_toArray, List.getElem?_cons_zero, List.getElem?_cons_succ] at p0 p1
          have q0 := kQ.cell 0
          have q1 := kQ.cell 1
          simp only [List.getElem?_toArray, List.getElem?_cons_zero, List.getElem?_cons_succ] at q0 q1
          rw [hh]
          obtain ⟨z1, z2, z3⟩ := last_in a l c m ha hc hr hq hl hh
          obtain ⟨m0, m1⟩ := rightB_bd hq
          clear hr hq hh hl hl'
          generalize hX : bits .or .u32 c (4294967295 / 2 ^ m.toNat) = X at z1 z2 z3
          have HX := Lib.hid hX
          clear hX
          go_wp2_with fail
          rw [HX.out]
          refine (addr_Has a l X _ ha z3).mono ?_
          rintro e w9 ⟨rfl, hb3⟩
          replace kP := kP.below' hb3
          replace kQ := kQ.below' hb3
          replace hb0 := Go.Proofs.YtjdapfimjpbnmaaDoor.below_step hb0 hb0.size hb3
          clear hb3 p0 p1 q0 q1
          have p0 := kP.cell 0
          have p1 := kP.cell 1
          simp only [List.getElem?_toArray, List.getElem?_cons_zero, List.getElem?_cons_succ] at p0 p1
          have q0 := kQ.cell 0
          have q1 := kQ.cell 1
          simp only [List.getElem?_toArray, List.getElem?_cons_zero, List.getElem?_cons_succ] at q0 q1
          rw [z1]
          go_wp2_with fail
          refine (addr_Compare a l c m _).mono ?_
          rintro e w10 ⟨rfl, hb3⟩
          replace hb0 := Go.Proofs.YtjdapfimjpbnmaaDoor.below_step hb0 hb0.size hb3
          go_wp2
          go_ret
          exact ⟨rfl, hb0⟩
      · have hl' : decide (l > m) = true := by simpa using hl
        clear hr hq hl
        go_wp2
        go_ret
        exact ⟨rfl, hb0⟩
end Go.Proofs.YtjdapfimjpbnmaaDoor
