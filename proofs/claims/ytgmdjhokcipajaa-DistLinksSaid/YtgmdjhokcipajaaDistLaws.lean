import Derived.Test.YtgmdjhokcipajaaLaw03
set_option linter.unusedVariables false
set_option linter.unusedSimpArgs false
namespace Go.Proofs.Ytgmdjhokcipajaa
open Go.RowKit Go.ChangeShapes Go.WideShapes

theorem law03_Beyond (s m c : Int) (w : World) (hm : 0 ≤ m ∧ m ≤ 65535) : Calls Try.prog 24 #[.agg #[.int .u32 s, .int .u16 m], .int .i64 c] w
    fun e w' => e = .returned (.agg #[.int .u32 s, .int .u16 (beyondM m c)]) ∧ Below w.heap.size w w' := by
  obtain ⟨hm0, hm1⟩ := hm
  by_cases c1 : c < 1
  · have HB := Lib.hid (beyondM_eq m c 1 (by unfold clampC; rw [if_pos c1]))
    by_cases h : 65535 < m + 1
    · go_enter Try.func24, Try.ntmps24
      go_wp2
      exact bodyPost_ret (v := .agg #[.int .u32 s, .int .u16 65535]) (by simp [results, Try.results24, go_sem]) rfl
        ⟨by rw [HB.out, if_pos (by omega)], ((Below.refl _ _).alloc (Nat.le_refl _) _).alloc (by simp) _⟩
    · go_enter Try.func24, Try.ntmps24
      go_wp2
      exact bodyPost_ret (v := .agg #[.int .u32 s, .int .u16 (m + 1)]) (by simp [results, Try.results24, go_sem]) rfl
        ⟨by rw [HB.out, show (if 65535 ≤ m + 1 then 65535 else m + 1) = m + 1 by split <;> omega], ((Below.refl _ _).alloc (Nat.le_refl _) _).alloc (by simp) _⟩
  · by_cases c2 : 1000 < c
    · have HB := Lib.hid (beyondM_eq m c 1000 (by unfold clampC; rw [if_neg c1, if_pos c2]))
      by_cases h : 65535 < m + 1000
      · go_enter Try.func24, Try.ntmps24
        go_wp2
        exact bodyPost_ret (v := .agg #[.int .u32 s, .int .u16 65535]) (by simp [results, Try.results24, go_sem]) rfl
          ⟨by rw [HB.out, if_pos (by omega)], ((Below.refl _ _).alloc (Nat.le_refl _) _).alloc (by simp) _⟩
      · go_enter Try.func24, Try.ntmps24
        go_wp2
        exact bodyPost_ret (v := .agg #[.int .u32 s, .int .u16 (m + 1000)]) (by simp [results, Try.results24, go_sem]) rfl
          ⟨by rw [HB.out, show (if 65535 ≤ m + 1000 then 65535 else m + 1000) = m + 1000 by split <;> omega], ((Below.refl _ _).alloc (Nat.le_refl _) _).alloc (by simp) _⟩
    · have HB := Lib.hid (beyondM_eq m c c (by unfold clampC; rw [if_neg c1, if_neg c2]))
      have c3 : 1 ≤ c := by omega
      by_cases h : 65535 < m + c
      · go_enter Try.func24, Try.ntmps24
        go_wp2
        exact bodyPost_ret (v := .agg #[.int .u32 s, .int .u16 65535]) (by simp [results, Try.results24, go_sem]) rfl
          ⟨by rw [HB.out, if_pos (by omega)], ((Below.refl _ _).alloc (Nat.le_refl _) _).alloc (by simp) _⟩
      · go_enter Try.func24, Try.ntmps24
        go_wp2
        exact bodyPost_ret (v := .agg #[.int .u32 s, .int .u16 (m + c)]) (by simp [results, Try.results24, go_sem]) rfl
          ⟨by rw [HB.out, show (if 65535 ≤ m + c then 65535 else m + c) = m + c by split <;> omega], ((Below.refl _ _).alloc (Nat.le_refl _) _).alloc (by simp) _⟩

theorem distCmp_better (s1 m1 s2 m2 : Int) (h : betterB s1 m1 s2 m2 = true) : distCmp s1 m1 s2 m2 = 1 ∧ distCmp s2 m2 s1 m1 = -1 ∧ betterB s2 m2 s1 m1 = false ∧ ¬ (s1 = s2 ∧ m1 = m2) := by
  simp only [betterB, decide_eq_true_eq, decide_eq_false_iff_not] at *
  unfold distCmp orI cmpI
  refine ⟨?_, ?_, by omega, by omega⟩ <;> (repeat' split) <;> omega
theorem distCmp_same (s m : Int) : distCmp s m s m = 0 ∧ betterB s m s m = false := by
  simp [betterB, distCmp, orI, cmpI]
theorem better_tri (s1 m1 s2 m2 : Int) (h : betterB s1 m1 s2 m2 = false) (h' : betterB s2 m2 s1 m1 = false) : s1 = s2 ∧ m1 = m2 := by
  simp only [betterB, decide_eq_false_iff_not] at *
  omega
theorem distCmp_nonneg (s1 m1 s2 m2 : Int) : 0 ≤ distCmp s1 m1 s2 m2 ↔ (s2 < s1 ∨ s1 = s2 ∧ m1 ≤ m2) := by
  unfold distCmp orI cmpI
  (repeat' split) <;> omega
theorem distCmp_trans (s1 m1 s2 m2 s3 m3 : Int) (h : 0 ≤ distCmp s1 m1 s2 m2) (h' : 0 ≤ distCmp s2 m2 s3 m3) : 0 ≤ distCmp s1 m1 s3 m3 := by
  rw [distCmp_nonneg] at *
  omega


def eqD (s1 m1 s2 m2 : Int) : Bool := s1 == s2 && m1 == m2
theorem DistOrders_gt (s1 m1 s2 m2 s3 m3 : Int) (w : World) (e1 : betterB s1 m1 s2 m2 = true) :
    Calls Try.prog 5 #[.agg #[.int .u32 s1, .int .u16 m1], .agg #[.int .u32 s2, .int .u16 m2], .agg #[.int .u32 s3, .int .u16 m3]] w
      fun e w' => e = .returned (.bool true) ∧ Below w.heap.size w w' := by
  obtain ⟨e3, e4, e2, hne⟩ := distCmp_better _ _ _ _ e1
  have h0 : 0 ≤ distCmp s1 m1 s2 m2 := by omega
  obtain ⟨K5, e5⟩ : ∃ K, distCmp s2 m2 s3 m3 = K := ⟨_, rfl⟩
  have E5 := Lib.hid e5
  clear e5
  by_cases hs : s1 = s2
  · have hx : (m1 == m2) = false := by simpa using fun h => hne ⟨hs, h⟩
    have hx' : (s1 == s2) = true := by simpa using hs
    clear hne hs
    have E1 := Lib.hid e1
    have E2 := Lib.hid e2
    have E3 := Lib.hid e3
    have E4 := Lib.hid e4
    clear e1 e2 e3 e4
    by_cases h5 : K5 < 0
    · go_enter Try.func5, Try.ntmps5
      go_wp2_with fail
      refine (law03_head _).mono ?_
      rintro e w1 ⟨rfl, hb1⟩
      obtain ⟨hc1, hf1⟩ := bcell hb1
      have hz1c : w.heap.size + 1 + 1 < w1.heap.size := by have := hb1.size; (try simp at this); omega
      have hz1b : w.heap.size + 1 < w1.heap.size := by omega
      have hz1a : w.heap.size < w1.heap.size := by omega
      have hb := below_step ((((Below.refl w.heap.size w).alloc (Nat.le_refl _) (.cells #[.int .u32 s1, .int .u16 m1] 39)).alloc (by simp) (.cells #[.int .u32 s2, .int .u16 m2] 39)).alloc (by simp; omega) (.cells #[.int .u32 s3, .int .u16 m3] 39)) (by simp; omega) hb1
      go_wp2_with fail
      refine (law03_Better _ _ _ _ _).mono ?_
      rintro e w2 ⟨rfl, hb2⟩
      obtain ⟨hc2, hf2⟩ := bcell hb2
      have hz2c : w.heap.size + 1 + 1 < w2.heap.size := by have := hb2.size; (try simp at this); omega
      have hz2b : w.heap.size + 1 < w2.heap.size := by omega
      have hz2a : w.heap.size < w2.heap.size := by omega
      rw [E1.out]
      go_wp2_with fail
      refine (law03_Better _ _ _ _ _).mono ?_
      rintro e w3 ⟨rfl, hb3⟩
      obtain ⟨hc3, hf3⟩ := bcell hb3
      have hz3c : w.heap.size + 1 + 1 < w3.heap.size := by have := hb3.size; (try simp at this); omega
      have hz3b : w.heap.size + 1 < w3.heap.size := by omega
      have hz3a : w.heap.size < w3.heap.size := by omega
      rw [E2.out]
      go_wp2_with fail
      refine (dist_Compare _ _ _ _ _).mono ?_
      rintro e w4 ⟨rfl, hb4⟩
      obtain ⟨hc4, hf4⟩ := bcell hb4
      have hz4c : w.heap.size + 1 + 1 < w4.heap.size := by have := hb4.size; (try simp at this); omega
      have hz4b : w.heap.size + 1 < w4.heap.size := by omega
      have hz4a : w.heap.size < w4.heap.size := by omega
      rw [E3.out]
      go_wp2_with fail
      refine (dist_Compare _ _ _ _ _).mono ?_
      rintro e w5 ⟨rfl, hb5⟩
      obtain ⟨hc5, hf5⟩ := bcell hb5
      have hz5c : w.heap.size + 1 + 1 < w5.heap.size := by have := hb5.size; (try simp at this); omega
      have hz5b : w.heap.size + 1 < w5.heap.size := by omega
      have hz5a : w.heap.size < w5.heap.size := by omega
      rw [E4.out]
      go_wp2_with fail
      refine (dist_Compare _ _ _ _ _).mono ?_
      rintro e w6 ⟨rfl, hb6⟩
      obtain ⟨hc6, hf6⟩ := bcell hb6
      have hz6c : w.heap.size + 1 + 1 < w6.heap.size := by have := hb6.size; (try simp at this); omega
      have hz6b : w.heap.size + 1 < w6.heap.size := by omega
      have hz6a : w.heap.size < w6.heap.size := by omega
      rw [E3.out]
      go_wp2_with fail
      refine (dist_Compare _ _ _ _ _).mono ?_
      rintro e w7 ⟨rfl, hb7⟩
      obtain ⟨hc7, hf7⟩ := bcell hb7
      have hz7c : w.heap.size + 1 + 1 < w7.heap.size := by have := hb7.size; (try simp at this); omega
      have hz7b : w.heap.size + 1 < w7.heap.size := by omega
      have hz7a : w.heap.size < w7.heap.size := by omega
      rw [E5.out]
      go_wp2
      go_ret
      exact ⟨rfl, below_step (below_step (below_step (below_step (below_step (below_step hb (by omega) hb2) (by omega) hb3) (by omega) hb4) (by omega) hb5) (by omega) hb6) (by omega) hb7⟩
    · have h5' : 0 ≤ K5 := by omega
      have h6 := distCmp_trans s1 m1 s2 m2 s3 m3 h0 (by rw [E5.out]; exact h5')
      obtain ⟨K6, e6⟩ : ∃ K, distCmp s1 m1 s3 m3 = K := ⟨_, rfl⟩
      rw [e6] at h6
      have E6 := Lib.hid e6
      clear e6 h5
      go_enter Try.func5, Try.ntmps5
      go_wp2_with fail
      refine (law03_head _).mono ?_
      rintro e w1 ⟨rfl, hb1⟩
      obtain ⟨hc1, hf1⟩ := bcell hb1
      have hz1c : w.heap.size + 1 + 1 < w1.heap.size := by have := hb1.size; (try simp at this); omega
      have hz1b : w.heap.size + 1 < w1.heap.size := by omega
      have hz1a : w.heap.size < w1.heap.size := by omega
      have hb := below_step ((((Below.refl w.heap.size w).alloc (Nat.le_refl _) (.cells #[.int .u32 s1, .int .u16 m1] 39)).alloc (by simp) (.cells #[.int .u32 s2, .int .u16 m2] 39)).alloc (by simp; omega) (.cells #[.int .u32 s3, .int .u16 m3] 39)) (by simp; omega) hb1
      go_wp2_with fail
      refine (law03_Better _ _ _ _ _).mono ?_
      rintro e w2 ⟨rfl, hb2⟩
      obtain ⟨hc2, hf2⟩ := bcell hb2
      have hz2c : w.heap.size + 1 + 1 < w2.heap.size := by have := hb2.size; (try simp at this); omega
      have hz2b : w.heap.size + 1 < w2.heap.size := by omega
      have hz2a : w.heap.size < w2.heap.size := by omega
      rw [E1.out]
      go_wp2_with fail
      refine (law03_Better _ _ _ _ _).mono ?_
      rintro e w3 ⟨rfl, hb3⟩
      obtain ⟨hc3, hf3⟩ := bcell hb3
      have hz3c : w.heap.size + 1 + 1 < w3.heap.size := by have := hb3.size; (try simp at this); omega
      have hz3b : w.heap.size + 1 < w3.heap.size := by omega
      have hz3a : w.heap.size < w3.heap.size := by omega
      rw [E2.out]
      go_wp2_with fail
      refine (dist_Compare _ _ _ _ _).mono ?_
      rintro e w4 ⟨rfl, hb4⟩
      obtain ⟨hc4, hf4⟩ := bcell hb4
      have hz4c : w.heap.size + 1 + 1 < w4.heap.size := by have := hb4.size; (try simp at this); omega
      have hz4b : w.heap.size + 1 < w4.heap.size := by omega
      have hz4a : w.heap.size < w4.heap.size := by omega
      rw [E3.out]
      go_wp2_with fail
      refine (dist_Compare _ _ _ _ _).mono ?_
      rintro e w5 ⟨rfl, hb5⟩
      obtain ⟨hc5, hf5⟩ := bcell hb5
      have hz5c : w.heap.size + 1 + 1 < w5.heap.size := by have := hb5.size; (try simp at this); omega
      have hz5b : w.heap.size + 1 < w5.heap.size := by omega
      have hz5a : w.heap.size < w5.heap.size := by omega
      rw [E4.out]
      go_wp2_with fail
      refine (dist_Compare _ _ _ _ _).mono ?_
      rintro e w6 ⟨rfl, hb6⟩
      obtain ⟨hc6, hf6⟩ := bcell hb6
      have hz6c : w.heap.size + 1 + 1 < w6.heap.size := by have := hb6.size; (try simp at this); omega
      have hz6b : w.heap.size + 1 < w6.heap.size := by omega
      have hz6a : w.heap.size < w6.heap.size := by omega
      rw [E3.out]
      go_wp2_with fail
      refine (dist_Compare _ _ _ _ _).mono ?_
      rintro e w7 ⟨rfl, hb7⟩
      obtain ⟨hc7, hf7⟩ := bcell hb7
      have hz7c : w.heap.size + 1 + 1 < w7.heap.size := by have := hb7.size; (try simp at this); omega
      have hz7b : w.heap.size + 1 < w7.heap.size := by omega
      have hz7a : w.heap.size < w7.heap.size := by omega
      rw [E5.out]
      go_wp2_with fail
      refine (dist_Compare _ _ _ _ _).mono ?_
      rintro e w8 ⟨rfl, hb8⟩
      obtain ⟨hc8, hf8⟩ := bcell hb8
      have hz8c : w.heap.size + 1 + 1 < w8.heap.size := by have := hb8.size; (try simp at this); omega
      have hz8b : w.heap.size + 1 < w8.heap.size := by omega
      have hz8a : w.heap.size < w8.heap.size := by omega
      rw [E6.out]
      go_wp2
      go_ret
      exact ⟨by simp [h6], below_step (below_step (below_step (below_step (below_step (below_step (below_step hb (by omega) hb2) (by omega) hb3) (by omega) hb4) (by omega) hb5) (by omega) hb6) (by omega) hb7) (by omega) hb8⟩
  · have hx : (s1 == s2) = false := by simpa using hs
    clear hne hs
    have E1 := Lib.hid e1
    have E2 := Lib.hid e2
    have E3 := Lib.hid e3
    have E4 := Lib.hid e4
    clear e1 e2 e3 e4
    by_cases h5 : K5 < 0
    · go_enter Try.func5, Try.ntmps5
      go_wp2_with fail
      refine (law03_head _).mono ?_
      rintro e w1 ⟨rfl, hb1⟩
      obtain ⟨hc1, hf1⟩ := bcell hb1
      have hz1c : w.heap.size + 1 + 1 < w1.heap.size := by have := hb1.size; (try simp at this); omega
      have hz1b : w.heap.size + 1 < w1.heap.size := by omega
      have hz1a : w.heap.size < w1.heap.size := by omega
      have hb := below_step ((((Below.refl w.heap.size w).alloc (Nat.le_refl _) (.cells #[.int .u32 s1, .int .u16 m1] 39)).alloc (by simp) (.cells #[.int .u32 s2, .int .u16 m2] 39)).alloc (by simp; omega) (.cells #[.int .u32 s3, .int .u16 m3] 39)) (by simp; omega) hb1
      go_wp2_with fail
      refine (law03_Better _ _ _ _ _).mono ?_
      rintro e w2 ⟨rfl, hb2⟩
      obtain ⟨hc2, hf2⟩ := bcell hb2
      have hz2c : w.heap.size + 1 + 1 < w2.heap.size := by have := hb2.size; (try simp at this); omega
      have hz2b : w.heap.size + 1 < w2.heap.size := by omega
      have hz2a : w.heap.size < w2.heap.size := by omega
      rw [E1.out]
      go_wp2_with fail
      refine (law03_Better _ _ _ _ _).mono ?_
      rintro e w3 ⟨rfl, hb3⟩
      obtain ⟨hc3, hf3⟩ := bcell hb3
      have hz3c : w.heap.size + 1 + 1 < w3.heap.size := by have := hb3.size; (try simp at this); omega
      have hz3b : w.heap.size + 1 < w3.heap.size := by omega
      have hz3a : w.heap.size < w3.heap.size := by omega
      rw [E2.out]
      go_wp2_with fail
      refine (dist_Compare _ _ _ _ _).mono ?_
      rintro e w4 ⟨rfl, hb4⟩
      obtain ⟨hc4, hf4⟩ := bcell hb4
      have hz4c : w.heap.size + 1 + 1 < w4.heap.size := by have := hb4.size; (try simp at this); omega
      have hz4b : w.heap.size + 1 < w4.heap.size := by omega
      have hz4a : w.heap.size < w4.heap.size := by omega
      rw [E3.out]
      go_wp2_with fail
      refine (dist_Compare _ _ _ _ _).mono ?_
      rintro e w5 ⟨rfl, hb5⟩
      obtain ⟨hc5, hf5⟩ := bcell hb5
      have hz5c : w.heap.size + 1 + 1 < w5.heap.size := by have := hb5.size; (try simp at this); omega
      have hz5b : w.heap.size + 1 < w5.heap.size := by omega
      have hz5a : w.heap.size < w5.heap.size := by omega
      rw [E4.out]
      go_wp2_with fail
      refine (dist_Compare _ _ _ _ _).mono ?_
      rintro e w6 ⟨rfl, hb6⟩
      obtain ⟨hc6, hf6⟩ := bcell hb6
      have hz6c : w.heap.size + 1 + 1 < w6.heap.size := by have := hb6.size; (try simp at this); omega
      have hz6b : w.heap.size + 1 < w6.heap.size := by omega
      have hz6a : w.heap.size < w6.heap.size := by omega
      rw [E3.out]
      go_wp2_with fail
      refine (dist_Compare _ _ _ _ _).mono ?_
      rintro e w7 ⟨rfl, hb7⟩
      obtain ⟨hc7, hf7⟩ := bcell hb7
      have hz7c : w.heap.size + 1 + 1 < w7.heap.size := by have := hb7.size; (try simp at this); omega
      have hz7b : w.heap.size + 1 < w7.heap.size := by omega
      have hz7a : w.heap.size < w7.heap.size := by omega
      rw [E5.out]
      go_wp2
      go_ret
      exact ⟨rfl, below_step (below_step (below_step (below_step (below_step (below_step hb (by omega) hb2) (by omega) hb3) (by omega) hb4) (by omega) hb5) (by omega) hb6) (by omega) hb7⟩
    · have h5' : 0 ≤ K5 := by omega
      have h6 := distCmp_trans s1 m1 s2 m2 s3 m3 h0 (by rw [E5.out]; exact h5')
      obtain ⟨K6, e6⟩ : ∃ K, distCmp s1 m1 s3 m3 = K := ⟨_, rfl⟩
      rw [e6] at h6
      have E6 := Lib.hid e6
      clear e6 h5
      go_enter Try.func5, Try.ntmps5
      go_wp2_with fail
      refine (law03_head _).mono ?_
      rintro e w1 ⟨rfl, hb1⟩
      obtain ⟨hc1, hf1⟩ := bcell hb1
      have hz1c : w.heap.size + 1 + 1 < w1.heap.size := by have := hb1.size; (try simp at this); omega
      have hz1b : w.heap.size + 1 < w1.heap.size := by omega
      have hz1a : w.heap.size < w1.heap.size := by omega
      have hb := below_step ((((Below.refl w.heap.size w).alloc (Nat.le_refl _) (.cells #[.int .u32 s1, .int .u16 m1] 39)).alloc (by simp) (.cells #[.int .u32 s2, .int .u16 m2] 39)).alloc (by simp; omega) (.cells #[.int .u32 s3, .int .u16 m3] 39)) (by simp; omega) hb1
      go_wp2_with fail
      refine (law03_Better _ _ _ _ _).mono ?_
      rintro e w2 ⟨rfl, hb2⟩
      obtain ⟨hc2, hf2⟩ := bcell hb2
      have hz2c : w.heap.size + 1 + 1 < w2.heap.size := by have := hb2.size; (try simp at this); omega
      have hz2b : w.heap.size + 1 < w2.heap.size := by omega
      have hz2a : w.heap.size < w2.heap.size := by omega
      rw [E1.out]
      go_wp2_with fail
      refine (law03_Better _ _ _ _ _).mono ?_
      rintro e w3 ⟨rfl, hb3⟩
      obtain ⟨hc3, hf3⟩ := bcell hb3
      have hz3c : w.heap.size + 1 + 1 < w3.heap.size := by have := hb3.size; (try simp at this); omega
      have hz3b : w.heap.size + 1 < w3.heap.size := by omega
      have hz3a : w.heap.size < w3.heap.size := by omega
      rw [E2.out]
      go_wp2_with fail
      refine (dist_Compare _ _ _ _ _).mono ?_
      rintro e w4 ⟨rfl, hb4⟩
      obtain ⟨hc4, hf4⟩ := bcell hb4
      have hz4c : w.heap.size + 1 + 1 < w4.heap.size := by have := hb4.size; (try simp at this); omega
      have hz4b : w.heap.size + 1 < w4.heap.size := by omega
      have hz4a : w.heap.size < w4.heap.size := by omega
      rw [E3.out]
      go_wp2_with fail
      refine (dist_Compare _ _ _ _ _).mono ?_
      rintro e w5 ⟨rfl, hb5⟩
      obtain ⟨hc5, hf5⟩ := bcell hb5
      have hz5c : w.heap.size + 1 + 1 < w5.heap.size := by have := hb5.size; (try simp at this); omega
      have hz5b : w.heap.size + 1 < w5.heap.size := by omega
      have hz5a : w.heap.size < w5.heap.size := by omega
      rw [E4.out]
      go_wp2_with fail
      refine (dist_Compare _ _ _ _ _).mono ?_
      rintro e w6 ⟨rfl, hb6⟩
      obtain ⟨hc6, hf6⟩ := bcell hb6
      have hz6c : w.heap.size + 1 + 1 < w6.heap.size := by have := hb6.size; (try simp at this); omega
      have hz6b : w.heap.size + 1 < w6.heap.size := by omega
      have hz6a : w.heap.size < w6.heap.size := by omega
      rw [E3.out]
      go_wp2_with fail
      refine (dist_Compare _ _ _ _ _).mono ?_
      rintro e w7 ⟨rfl, hb7⟩
      obtain ⟨hc7, hf7⟩ := bcell hb7
      have hz7c : w.heap.size + 1 + 1 < w7.heap.size := by have := hb7.size; (try simp at this); omega
      have hz7b : w.heap.size + 1 < w7.heap.size := by omega
      have hz7a : w.heap.size < w7.heap.size := by omega
      rw [E5.out]
      go_wp2_with fail
      refine (dist_Compare _ _ _ _ _).mono ?_
      rintro e w8 ⟨rfl, hb8⟩
      obtain ⟨hc8, hf8⟩ := bcell hb8
      have hz8c : w.heap.size + 1 + 1 < w8.heap.size := by have := hb8.size; (try simp at this); omega
      have hz8b : w.heap.size + 1 < w8.heap.size := by omega
      have hz8a : w.heap.size < w8.heap.size := by omega
      rw [E6.out]
      go_wp2
      go_ret
      exact ⟨by simp [h6], below_step (below_step (below_step (below_step (below_step (below_step (below_step hb (by omega) hb2) (by omega) hb3) (by omega) hb4) (by omega) hb5) (by omega) hb6) (by omega) hb7) (by omega) hb8⟩
theorem DistOrders_eq (s1 m1 s3 m3 : Int) (w : World) :
    Calls Try.prog 5 #[.agg #[.int .u32 s1, .int .u16 m1], .agg #[.int .u32 s1, .int .u16 m1], .agg #[.int .u32 s3, .int .u16 m3]] w
      fun e w' => e = .returned (.bool true) ∧ Below w.heap.size w w' := by
  obtain ⟨s2, hs2⟩ : ∃ s2, s1 = s2 := ⟨_, rfl⟩
  obtain ⟨m2, hm2⟩ : ∃ m2, m1 = m2 := ⟨_, rfl⟩
  obtain ⟨e3, e1⟩ := distCmp_same s1 m1
  have e4 : distCmp s1 m1 s1 m1 = -0 := e3
  have e2 := e1
  have h0 : 0 ≤ distCmp s1 m1 s1 m1 := by omega
  obtain ⟨K5, e5⟩ : ∃ K, distCmp s1 m1 s3 m3 = K := ⟨_, rfl⟩
  have E5 := Lib.hid e5
  clear e5 hs2 hm2
  have h6 : ∀ h5' : 0 ≤ K5, True := fun _ => trivial
  clear h6
  by_cases h5 : K5 < 0
  · have E1 := Lib.hid e1
    have E2 := Lib.hid e2
    have E3 := Lib.hid e3
    have E4 := Lib.hid e4
    clear e1 e2 e3 e4
    go_enter Try.func5, Try.ntmps5
    go_wp2_with fail
    refine (law03_head _).mono ?_
    rintro e w1 ⟨rfl, hb1⟩
    obtain ⟨hc1, hf1⟩ := bcell hb1
    have hz1c : w.heap.size + 1 + 1 < w1.heap.size := by have := hb1.size; (try simp at this); omega
    have hz1b : w.heap.size + 1 < w1.heap.size := by omega
    have hz1a : w.heap.size < w1.heap.size := by omega
    have hb := below_step ((((Below.refl w.heap.size w).alloc (Nat.le_refl _) (.cells #[.int .u32 s1, .int .u16 m1] 39)).alloc (by simp) (.cells #[.int .u32 s1, .int .u16 m1] 39)).alloc (by simp; omega) (.cells #[.int .u32 s3, .int .u16 m3] 39)) (by simp; omega) hb1
    go_wp2_with fail
    refine (law03_Better _ _ _ _ _).mono ?_
    rintro e w2 ⟨rfl, hb2⟩
    obtain ⟨hc2, hf2⟩ := bcell hb2
    have hz2c : w.heap.size + 1 + 1 < w2.heap.size := by have := hb2.size; (try simp at this); omega
    have hz2b : w.heap.size + 1 < w2.heap.size := by omega
    have hz2a : w.heap.size < w2.heap.size := by omega
    rw [E1.out]
    go_wp2_with fail
    refine (law03_Better _ _ _ _ _).mono ?_
    rintro e w3 ⟨rfl, hb3⟩
    obtain ⟨hc3, hf3⟩ := bcell hb3
    have hz3c : w.heap.size + 1 + 1 < w3.heap.size := by have := hb3.size; (try simp at this); omega
    have hz3b : w.heap.size + 1 < w3.heap.size := by omega
    have hz3a : w.heap.size < w3.heap.size := by omega
    rw [E2.out]
    go_wp2_with fail
    refine (dist_Compare _ _ _ _ _).mono ?_
    rintro e w4 ⟨rfl, hb4⟩
    obtain ⟨hc4, hf4⟩ := bcell hb4
    have hz4c : w.heap.size + 1 + 1 < w4.heap.size := by have := hb4.size; (try simp at this); omega
    have hz4b : w.heap.size + 1 < w4.heap.size := by omega
    have hz4a : w.heap.size < w4.heap.size := by omega
    rw [E3.out]
    go_wp2_with fail
    refine (dist_Compare _ _ _ _ _).mono ?_
    rintro e w5 ⟨rfl, hb5⟩
    obtain ⟨hc5, hf5⟩ := bcell hb5
    have hz5c : w.heap.size + 1 + 1 < w5.heap.size := by have := hb5.size; (try simp at this); omega
    have hz5b : w.heap.size + 1 < w5.heap.size := by omega
    have hz5a : w.heap.size < w5.heap.size := by omega
    rw [E3.out]
    go_wp2_with fail
    refine (dist_Compare _ _ _ _ _).mono ?_
    rintro e w6 ⟨rfl, hb6⟩
    obtain ⟨hc6, hf6⟩ := bcell hb6
    have hz6c : w.heap.size + 1 + 1 < w6.heap.size := by have := hb6.size; (try simp at this); omega
    have hz6b : w.heap.size + 1 < w6.heap.size := by omega
    have hz6a : w.heap.size < w6.heap.size := by omega
    rw [E3.out]
    go_wp2_with fail
    refine (dist_Compare _ _ _ _ _).mono ?_
    rintro e w7 ⟨rfl, hb7⟩
    obtain ⟨hc7, hf7⟩ := bcell hb7
    have hz7c : w.heap.size + 1 + 1 < w7.heap.size := by have := hb7.size; (try simp at this); omega
    have hz7b : w.heap.size + 1 < w7.heap.size := by omega
    have hz7a : w.heap.size < w7.heap.size := by omega
    rw [E5.out]
    go_wp2
    go_ret
    exact ⟨rfl, below_step (below_step (below_step (below_step (below_step (below_step hb (by omega) hb2) (by omega) hb3) (by omega) hb4) (by omega) hb5) (by omega) hb6) (by omega) hb7⟩
  · have h5' : 0 ≤ K5 := by omega
    have E1 := Lib.hid e1
    have E2 := Lib.hid e2
    have E3 := Lib.hid e3
    have E4 := Lib.hid e4
    clear e1 e2 e3 e4
    go_enter Try.func5, Try.ntmps5
    go_wp2_with fail
    refine (law03_head _).mono ?_
    rintro e w1 ⟨rfl, hb1⟩
    obtain ⟨hc1, hf1⟩ := bcell hb1
    have hz1c : w.heap.size + 1 + 1 < w1.heap.size := by have := hb1.size; (try simp at this); omega
    have hz1b : w.heap.size + 1 < w1.heap.size := by omega
    have hz1a : w.heap.size < w1.heap.size := by omega
    have hb := below_step ((((Below.refl w.heap.size w).alloc (Nat.le_refl _) (.cells #[.int .u32 s1, .int .u16 m1] 39)).alloc (by simp) (.cells #[.int .u32 s1, .int .u16 m1] 39)).alloc (by simp; omega) (.cells #[.int .u32 s3, .int .u16 m3] 39)) (by simp; omega) hb1
    go_wp2_with fail
    refine (law03_Better _ _ _ _ _).mono ?_
    rintro e w2 ⟨rfl, hb2⟩
    obtain ⟨hc2, hf2⟩ := bcell hb2
    have hz2c : w.heap.size + 1 + 1 < w2.heap.size := by have := hb2.size; (try simp at this); omega
    have hz2b : w.heap.size + 1 < w2.heap.size := by omega
    have hz2a : w.heap.size < w2.heap.size := by omega
    rw [E1.out]
    go_wp2_with fail
    refine (law03_Better _ _ _ _ _).mono ?_
    rintro e w3 ⟨rfl, hb3⟩
    obtain ⟨hc3, hf3⟩ := bcell hb3
    have hz3c : w.heap.size + 1 + 1 < w3.heap.size := by have := hb3.size; (try simp at this); omega
    have hz3b : w.heap.size + 1 < w3.heap.size := by omega
    have hz3a : w.heap.size < w3.heap.size := by omega
    rw [E2.out]
    go_wp2_with fail
    refine (dist_Compare _ _ _ _ _).mono ?_
    rintro e w4 ⟨rfl, hb4⟩
    obtain ⟨hc4, hf4⟩ := bcell hb4
    have hz4c : w.heap.size + 1 + 1 < w4.heap.size := by have := hb4.size; (try simp at this); omega
    have hz4b : w.heap.size + 1 < w4.heap.size := by omega
    have hz4a : w.heap.size < w4.heap.size := by omega
    rw [E3.out]
    go_wp2_with fail
    refine (dist_Compare _ _ _ _ _).mono ?_
    rintro e w5 ⟨rfl, hb5⟩
    obtain ⟨hc5, hf5⟩ := bcell hb5
    have hz5c : w.heap.size + 1 + 1 < w5.heap.size := by have := hb5.size; (try simp at this); omega
    have hz5b : w.heap.size + 1 < w5.heap.size := by omega
    have hz5a : w.heap.size < w5.heap.size := by omega
    rw [E3.out]
    go_wp2_with fail
    refine (dist_Compare _ _ _ _ _).mono ?_
    rintro e w6 ⟨rfl, hb6⟩
    obtain ⟨hc6, hf6⟩ := bcell hb6
    have hz6c : w.heap.size + 1 + 1 < w6.heap.size := by have := hb6.size; (try simp at this); omega
    have hz6b : w.heap.size + 1 < w6.heap.size := by omega
    have hz6a : w.heap.size < w6.heap.size := by omega
    rw [E3.out]
    go_wp2_with fail
    refine (dist_Compare _ _ _ _ _).mono ?_
    rintro e w7 ⟨rfl, hb7⟩
    obtain ⟨hc7, hf7⟩ := bcell hb7
    have hz7c : w.heap.size + 1 + 1 < w7.heap.size := by have := hb7.size; (try simp at this); omega
    have hz7b : w.heap.size + 1 < w7.heap.size := by omega
    have hz7a : w.heap.size < w7.heap.size := by omega
    rw [E5.out]
    go_wp2_with fail
    refine (dist_Compare _ _ _ _ _).mono ?_
    rintro e w8 ⟨rfl, hb8⟩
    obtain ⟨hc8, hf8⟩ := bcell hb8
    have hz8c : w.heap.size + 1 + 1 < w8.heap.size := by have := hb8.size; (try simp at this); omega
    have hz8b : w.heap.size + 1 < w8.heap.size := by omega
    have hz8a : w.heap.size < w8.heap.size := by omega
    rw [E5.out]
    go_wp2
    go_ret
    exact ⟨by simp [h5'], below_step (below_step (below_step (below_step (below_step (below_step (below_step hb (by omega) hb2) (by omega) hb3) (by omega) hb4) (by omega) hb5) (by omega) hb6) (by omega) hb7) (by omega) hb8⟩
theorem DistOrders_lt (s1 m1 s2 m2 s3 m3 : Int) (w : World) (h : betterB s2 m2 s1 m1 = true) :
    Calls Try.prog 5 #[.agg #[.int .u32 s1, .int .u16 m1], .agg #[.int .u32 s2, .int .u16 m2], .agg #[.int .u32 s3, .int .u16 m3]] w
      fun e w' => e = .returned (.bool true) ∧ Below w.heap.size w w' := by
  obtain ⟨e4, e3, e1, hne⟩ := distCmp_better _ _ _ _ h
  have e2 := h
  by_cases hs : s1 = s2
  · have hx : (m1 == m2) = false := by simpa using fun h => hne ⟨hs.symm, h.symm⟩
    have hx' : (s1 == s2) = true := by simpa using hs
    clear hne hs h
    have E1 := Lib.hid e1
    have E2 := Lib.hid e2
    have E3 := Lib.hid e3
    have E4 := Lib.hid e4
    clear e1 e2 e3 e4
    go_enter Try.func5, Try.ntmps5
    go_wp2_with fail
    refine (law03_head _).mono ?_
    rintro e w1 ⟨rfl, hb1⟩
    obtain ⟨hc1, hf1⟩ := bcell hb1
    have hz1c : w.heap.size + 1 + 1 < w1.heap.size := by have := hb1.size; (try simp at this); omega
    have hz1b : w.heap.size + 1 < w1.heap.size := by omega
    have hz1a : w.heap.size < w1.heap.size := by omega
    have hb := below_step ((((Below.refl w.heap.size w).alloc (Nat.le_refl _) (.cells #[.int .u32 s1, .int .u16 m1] 39)).alloc (by simp) (.cells #[.int .u32 s2, .int .u16 m2] 39)).alloc (by simp; omega) (.cells #[.int .u32 s3, .int .u16 m3] 39)) (by simp; omega) hb1
    go_wp2_with fail
    refine (law03_Better _ _ _ _ _).mono ?_
    rintro e w2 ⟨rfl, hb2⟩
    obtain ⟨hc2, hf2⟩ := bcell hb2
    have hz2c : w.heap.size + 1 + 1 < w2.heap.size := by have := hb2.size; (try simp at this); omega
    have hz2b : w.heap.size + 1 < w2.heap.size := by omega
    have hz2a : w.heap.size < w2.heap.size := by omega
    rw [E1.out]
    go_wp2_with fail
    refine (law03_Better _ _ _ _ _).mono ?_
    rintro e w3 ⟨rfl, hb3⟩
    obtain ⟨hc3, hf3⟩ := bcell hb3
    have hz3c : w.heap.size + 1 + 1 < w3.heap.size := by have := hb3.size; (try simp at this); omega
    have hz3b : w.heap.size + 1 < w3.heap.size := by omega
    have hz3a : w.heap.size < w3.heap.size := by omega
    rw [E2.out]
    go_wp2_with fail
    refine (dist_Compare _ _ _ _ _).mono ?_
    rintro e w4 ⟨rfl, hb4⟩
    obtain ⟨hc4, hf4⟩ := bcell hb4
    have hz4c : w.heap.size + 1 + 1 < w4.heap.size := by have := hb4.size; (try simp at this); omega
    have hz4b : w.heap.size + 1 < w4.heap.size := by omega
    have hz4a : w.heap.size < w4.heap.size := by omega
    rw [E3.out]
    go_wp2_with fail
    refine (dist_Compare _ _ _ _ _).mono ?_
    rintro e w5 ⟨rfl, hb5⟩
    obtain ⟨hc5, hf5⟩ := bcell hb5
    have hz5c : w.heap.size + 1 + 1 < w5.heap.size := by have := hb5.size; (try simp at this); omega
    have hz5b : w.heap.size + 1 < w5.heap.size := by omega
    have hz5a : w.heap.size < w5.heap.size := by omega
    rw [E4.out]
    go_wp2_with fail
    refine (dist_Compare _ _ _ _ _).mono ?_
    rintro e w6 ⟨rfl, hb6⟩
    obtain ⟨hc6, hf6⟩ := bcell hb6
    have hz6c : w.heap.size + 1 + 1 < w6.heap.size := by have := hb6.size; (try simp at this); omega
    have hz6b : w.heap.size + 1 < w6.heap.size := by omega
    have hz6a : w.heap.size < w6.heap.size := by omega
    rw [E3.out]
    go_wp2
    go_ret
    exact ⟨rfl, below_step (below_step (below_step (below_step (below_step hb (by omega) hb2) (by omega) hb3) (by omega) hb4) (by omega) hb5) (by omega) hb6⟩
  · have hx : (s1 == s2) = false := by simpa using hs
    clear hne hs h
    have E1 := Lib.hid e1
    have E2 := Lib.hid e2
    have E3 := Lib.hid e3
    have E4 := Lib.hid e4
    clear e1 e2 e3 e4
    go_enter Try.func5, Try.ntmps5
    go_wp2_with fail
    refine (law03_head _).mono ?_
    rintro e w1 ⟨rfl, hb1⟩
    obtain ⟨hc1, hf1⟩ := bcell hb1
    have hz1c : w.heap.size + 1 + 1 < w1.heap.size := by have := hb1.size; (try simp at this); omega
    have hz1b : w.heap.size + 1 < w1.heap.size := by omega
    have hz1a : w.heap.size < w1.heap.size := by omega
    have hb := below_step ((((Below.refl w.heap.size w).alloc (Nat.le_refl _) (.cells #[.int .u32 s1, .int .u16 m1] 39)).alloc (by simp) (.cells #[.int .u32 s2, .int .u16 m2] 39)).alloc (by simp; omega) (.cells #[.int .u32 s3, .int .u16 m3] 39)) (by simp; omega) hb1
    go_wp2_with fail
    refine (law03_Better _ _ _ _ _).mono ?_
    rintro e w2 ⟨rfl, hb2⟩
    obtain ⟨hc2, hf2⟩ := bcell hb2
    have hz2c : w.heap.size + 1 + 1 < w2.heap.size := by have := hb2.size; (try simp at this); omega
    have hz2b : w.heap.size + 1 < w2.heap.size := by omega
    have hz2a : w.heap.size < w2.heap.size := by omega
    rw [E1.out]
    go_wp2_with fail
    refine (law03_Better _ _ _ _ _).mono ?_
    rintro e w3 ⟨rfl, hb3⟩
    obtain ⟨hc3, hf3⟩ := bcell hb3
    have hz3c : w.heap.size + 1 + 1 < w3.heap.size := by have := hb3.size; (try simp at this); omega
    have hz3b : w.heap.size + 1 < w3.heap.size := by omega
    have hz3a : w.heap.size < w3.heap.size := by omega
    rw [E2.out]
    go_wp2_with fail
    refine (dist_Compare _ _ _ _ _).mono ?_
    rintro e w4 ⟨rfl, hb4⟩
    obtain ⟨hc4, hf4⟩ := bcell hb4
    have hz4c : w.heap.size + 1 + 1 < w4.heap.size := by have := hb4.size; (try simp at this); omega
    have hz4b : w.heap.size + 1 < w4.heap.size := by omega
    have hz4a : w.heap.size < w4.heap.size := by omega
    rw [E3.out]
    go_wp2_with fail
    refine (dist_Compare _ _ _ _ _).mono ?_
    rintro e w5 ⟨rfl, hb5⟩
    obtain ⟨hc5, hf5⟩ := bcell hb5
    have hz5c : w.heap.size + 1 + 1 < w5.heap.size := by have := hb5.size; (try simp at this); omega
    have hz5b : w.heap.size + 1 < w5.heap.size := by omega
    have hz5a : w.heap.size < w5.heap.size := by omega
    rw [E4.out]
    go_wp2_with fail
    refine (dist_Compare _ _ _ _ _).mono ?_
    rintro e w6 ⟨rfl, hb6⟩
    obtain ⟨hc6, hf6⟩ := bcell hb6
    have hz6c : w.heap.size + 1 + 1 < w6.heap.size := by have := hb6.size; (try simp at this); omega
    have hz6b : w.heap.size + 1 < w6.heap.size := by omega
    have hz6a : w.heap.size < w6.heap.size := by omega
    rw [E3.out]
    go_wp2
    go_ret
    exact ⟨rfl, below_step (below_step (below_step (below_step (below_step hb (by omega) hb2) (by omega) hb3) (by omega) hb4) (by omega) hb5) (by omega) hb6⟩
theorem DistOrders_all (s1 m1 s2 m2 s3 m3 : Int) (w : World) :
    Calls Try.prog 5 #[.agg #[.int .u32 s1, .int .u16 m1], .agg #[.int .u32 s2, .int .u16 m2], .agg #[.int .u32 s3, .int .u16 m3]] w
      fun e w' => e = .returned (.bool true) ∧ Below w.heap.size w w' := by
  cases h : betterB s1 m1 s2 m2 with
  | true => exact DistOrders_gt _ _ _ _ _ _ w h
  | false =>
    cases h' : betterB s2 m2 s1 m1 with
    | true => exact DistOrders_lt _ _ _ _ _ _ w h'
    | false =>
      obtain ⟨rfl, rfl⟩ := better_tri _ _ _ _ h h'
      exact DistOrders_eq _ _ _ _ w
end Go.Proofs.Ytgmdjhokcipajaa
