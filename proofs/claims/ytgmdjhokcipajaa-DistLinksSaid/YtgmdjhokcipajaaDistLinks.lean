import Derived.Test.YtgmdjhokcipajaaDistLaws
set_option linter.unusedVariables false
set_option linter.unusedSimpArgs false
namespace Go.Proofs.Ytgmdjhokcipajaa
open Go.RowKit Go.ChangeShapes Go.WideShapes

theorem beyondM_bd (m c : Int) (h : 0 ≤ m ∧ m ≤ 65535) : m ≤ beyondM m c ∧ beyondM m c ≤ 65535 ∧ (m < 65535 → m < beyondM m c) ∧ (m = 65535 → beyondM m c = 65535) := by
  have := clampC_bd c
  unfold beyondM
  split <;> omega
theorem beyondM_mono (m m' c : Int) (h : m ≤ m') : beyondM m c ≤ beyondM m' c := by
  unfold beyondM
  split <;> split <;> omega
theorem DistLinks_lost (s1 s2 m2 c : Int) (w : World) (h2 : 0 ≤ m2 ∧ m2 ≤ 65535) (m1 : Int) (h1 : 0 ≤ m1 ∧ m1 ≤ 65535) (hm : m1 = 65535) :
    Calls Try.prog 6 #[.agg #[.int .u32 s1, .int .u16 m1], .agg #[.int .u32 s2, .int .u16 m2], .int .i64 c] w
      fun e w' => e = .returned (.bool true) ∧ Below w.heap.size w w' := by
  have H1 := Lib.hid (show (m1 == 65535) = true by simpa using hm)
  have H2 := Lib.hid ((beyondM_bd m1 c h1).2.2.2 hm)
  have HM := Lib.hid hm
  clear hm
  go_enter Try.func6, Try.ntmps6
  go_wp2_with fail
  refine (law03_head _).mono ?_
  rintro e w1 ⟨rfl, hb1⟩
  obtain ⟨hc1, hf1⟩ := bcell hb1
  have hz1b : w.heap.size + 1 < w1.heap.size := by have := hb1.size; (try simp at this); omega
  have hz1a : w.heap.size < w1.heap.size := by omega
  go_wp2_with fail
  refine (dist_Beyond _ _ _ _ h1).mono ?_
  rintro e w2 ⟨rfl, hb2⟩
  obtain ⟨hc2, hf2⟩ := bcell hb2
  have hz2b : w.heap.size + 1 < w2.heap.size := by have := hb2.size; (try simp at this); omega
  have hz2a : w.heap.size < w2.heap.size := by omega
  go_wp2_with fail
  refine (dist_Beyond _ _ _ _ h2).mono ?_
  rintro e w3 ⟨rfl, hb3⟩
  obtain ⟨hc3, hf3⟩ := bcell hb3
  have hz3b : w.heap.size + 1 < w3.heap.size := by have := hb3.size; (try simp at this); omega
  have hz3a : w.heap.size < w3.heap.size := by omega
  go_wp2_with fail
  have hA0 : (w3.alloc (.cells #[.int .u32 s2, .int .u16 (beyondM m2 c)] 39)).cell? ⟨w.heap.size, 0, none⟩ = some (.int .u32 s1) := by go_simp
  have hA1 : (w3.alloc (.cells #[.int .u32 s2, .int .u16 (beyondM m2 c)] 39)).cell? ⟨w.heap.size, 1, none⟩ = some (.int .u16 m1) := by go_simp
  have hB0 : (w3.alloc (.cells #[.int .u32 s2, .int .u16 (beyondM m2 c)] 39)).cell? ⟨w.heap.size + 1, 0, none⟩ = some (.int .u32 s2) := by go_simp
  have hB1 : (w3.alloc (.cells #[.int .u32 s2, .int .u16 (beyondM m2 c)] 39)).cell? ⟨w.heap.size + 1, 1, none⟩ = some (.int .u16 m2) := by go_simp
  have hlt : w2.heap.size < w3.heap.size := by have := hb3.size; simp at this; omega
  have hX0 : (w3.alloc (.cells #[.int .u32 s2, .int .u16 (beyondM m2 c)] 39)).cell? ⟨w2.heap.size, 0, none⟩ = some (.int .u32 s1) := by go_simp
  have hX1 : (w3.alloc (.cells #[.int .u32 s2, .int .u16 (beyondM m2 c)] 39)).cell? ⟨w2.heap.size, 1, none⟩ = some (.int .u16 (beyondM m1 c)) := by go_simp
  have hY0 : (w3.alloc (.cells #[.int .u32 s2, .int .u16 (beyondM m2 c)] 39)).cell? ⟨w3.heap.size, 0, none⟩ = some (.int .u32 s2) := by go_simp
  have hY1 : (w3.alloc (.cells #[.int .u32 s2, .int .u16 (beyondM m2 c)] 39)).cell? ⟨w3.heap.size, 1, none⟩ = some (.int .u16 (beyondM m2 c)) := by go_simp
  have hS : w3.heap.size < (w3.alloc (.cells #[.int .u32 s2, .int .u16 (beyondM m2 c)] 39)).heap.size := by simp
  have hb : Below w.heap.size w (w3.alloc (.cells #[.int .u32 s2, .int .u16 (beyondM m2 c)] 39)) := by
    refine (below_step ((below_step (below_step (((Below.refl _ _).alloc (Nat.le_refl _) _).alloc (by simp) _) (by simp; omega) hb1) (by omega) hb2).alloc (by omega) _) (by simp; omega) hb3).alloc (by omega) _
  generalize (w3.alloc (.cells #[.int .u32 s2, .int .u16 (beyondM m2 c)] 39)) = W at *
  clear hc1 hf1 hc2 hf2 hc3 hf3 hb1 hb2 hb3 hz1a hz1b
  generalize w3.heap.size = gy at *
  generalize w2.heap.size = gx at *
  obtain ⟨bm0, bm1⟩ := h1
  go_region_held3 (fun w' => w'.cell? ⟨w.heap.size, 0, none⟩ = some (.int .u32 s1) ∧ w'.cell? ⟨w.heap.size, 1, none⟩ = some (.int .u16 m1) ∧ w'.cell? ⟨gx, 0, none⟩ = some (.int .u32 s1) ∧ w'.cell? ⟨gx, 1, none⟩ = some (.int .u16 (beyondM m1 c)))
    (first
      | go_keep
      | (go_split_ands
         refine ⟨?_, ?_, ?_, ?_⟩
         all_goals first
           | (rw [hc5 _ _ (by show _ < w4.heap.size; omega)]; assumption)
           | (rw [hc4 _ _ (by show _ < W.heap.size; omega)]; assumption)))
    ((first | (go_at_call 24; refine (law03_Beyond _ _ _ _ ?_).mono ?_; exact ⟨bm0, bm1⟩; rintro e w4 ⟨rfl, hb4⟩; have hc4 := (bcell hb4).1; have hz4 : W.heap.size ≤ w4.heap.size := hb4.size) | (go_at_call 25; refine (dist_Lost _ _ _).mono ?_; rintro e w5 ⟨rfl, hb5⟩; have hc5 := (bcell hb5).1; have hz5 : w4.heap.size ≤ w5.heap.size := hb5.size)))
  have hz4a : w.heap.size + 1 < w4.heap.size := by omega
  have hz4b : gy < w4.heap.size := by omega
  have hz4c : gx < w4.heap.size := by omega
  have hz4d : w.heap.size < w4.heap.size := by omega
  have kA0 : w5.cell? ⟨w.heap.size, 0, none⟩ = some (.int .u32 s1) := by rw [hc5 _ _ hz4d, hc4 _ _ (by show _ < W.heap.size; omega)]; exact hA0
  have kA1 : w5.cell? ⟨w.heap.size, 1, none⟩ = some (.int .u16 m1) := by rw [hc5 _ _ hz4d, hc4 _ _ (by show _ < W.heap.size; omega)]; exact hA1
  have kB0 : w5.cell? ⟨w.heap.size + 1, 0, none⟩ = some (.int .u32 s2) := by rw [hc5 _ _ hz4a, hc4 _ _ (by show _ < W.heap.size; omega)]; exact hB0
  have kB1 : w5.cell? ⟨w.heap.size + 1, 1, none⟩ = some (.int .u16 m2) := by rw [hc5 _ _ hz4a, hc4 _ _ (by show _ < W.heap.size; omega)]; exact hB1
  have kX0 : w5.cell? ⟨gx, 0, none⟩ = some (.int .u32 s1) := by rw [hc5 _ _ hz4c, hc4 _ _ (by show _ < W.heap.size; omega)]; exact hX0
  have kX1 : w5.cell? ⟨gx, 1, none⟩ = some (.int .u16 (beyondM m1 c)) := by rw [hc5 _ _ hz4c, hc4 _ _ (by show _ < W.heap.size; omega)]; exact hX1
  have kY0 : w5.cell? ⟨gy, 0, none⟩ = some (.int .u32 s2) := by rw [hc5 _ _ hz4b, hc4 _ _ (by show _ < W.heap.size; omega)]; exact hY0
  have kY1 : w5.cell? ⟨gy, 1, none⟩ = some (.int .u16 (beyondM m2 c)) := by rw [hc5 _ _ hz4b, hc4 _ _ (by show _ < W.heap.size; omega)]; exact hY1
  have hs5 : w4.heap.size ≤ w5.heap.size := hb5.size
  have hw5 : Below w.heap.size w w5 := below_step (below_step hb.drew (by show _ ≤ W.heap.size; omega) hb4) (by omega) hb5
  clear hb hb4 hb5 hc4 hc5 hA0 hA1 hB0 hB1 hX0 hX1 hY0 hY1
  have hz5d : w.heap.size < w5.heap.size := by omega
  have hz5c : gx < w5.heap.size := by omega
  go_wp2_with fail
  refine (dist_Lost _ _ _).mono ?_
  rintro e w6 ⟨rfl, hb6⟩
  have hc6 := (bcell hb6).1
  have hs6 : w5.heap.size ≤ w6.heap.size := hb6.size
  have hz6a : w.heap.size + 1 < w6.heap.size := by omega
  have hz6b : gy < w6.heap.size := by omega
  have hz6c : gx < w6.heap.size := by omega
  have hz6d : w.heap.size < w6.heap.size := by omega
  rw [H1.out]
  have hq : (beyondM m1 c == m1) = true := by rw [H2.out, HM.out]; rfl
  go_wp2
  go_ret
  exact ⟨by simp, below_step hw5 (by omega) hb6⟩
theorem DistLinks_far (s1 s2 m2 c : Int) (w : World) (h2 : 0 ≤ m2 ∧ m2 ≤ 65535) (m1 : Int) (h1 : 0 ≤ m1 ∧ m1 ≤ 65535) (hm : m1 < 65535) :
    Calls Try.prog 6 #[.agg #[.int .u32 s1, .int .u16 m1], .agg #[.int .u32 s2, .int .u16 m2], .int .i64 c] w
      fun e w' => e = .returned (.bool true) ∧ Below w.heap.size w w' := by
  have H1 := Lib.hid (show (m1 == 65535) = false by simp; omega)
  have H2 := Lib.hid (distCmp_better s1 m1 s1 (beyondM m1 c) (by simp [betterB, (beyondM_bd m1 c h1).2.2.1 hm])).1
  clear hm
  obtain ⟨K, hK⟩ : ∃ K, distCmp s1 m1 s2 m2 = K := ⟨_, rfl⟩
  obtain ⟨L, hL⟩ : ∃ K, distCmp s1 (beyondM m1 c) s2 (beyondM m2 c) = K := ⟨_, rfl⟩
  have hKL : 0 ≤ K → 0 ≤ L := by
    rw [← hK, ← hL, distCmp_nonneg, distCmp_nonneg]
    have := beyondM_mono m1 m2 c
    omega
  have HK := Lib.hid hK
  have HL := Lib.hid hL
  clear hK hL
  by_cases hk : K < 0
  · clear hKL
    go_enter Try.func6, Try.ntmps6
    go_wp2_with fail
    refine (law03_head _).mono ?_
    rintro e w1 ⟨rfl, hb1⟩
    obtain ⟨hc1, hf1⟩ := bcell hb1
    have hz1b : w.heap.size + 1 < w1.heap.size := by have := hb1.size; (try simp at this); omega
    have hz1a : w.heap.size < w1.heap.size := by omega
    go_wp2_with fail
    refine (dist_Beyond _ _ _ _ h1).mono ?_
    rintro e w2 ⟨rfl, hb2⟩
    obtain ⟨hc2, hf2⟩ := bcell hb2
    have hz2b : w.heap.size + 1 < w2.heap.size := by have := hb2.size; (try simp at this); omega
    have hz2a : w.heap.size < w2.heap.size := by omega
    go_wp2_with fail
    refine (dist_Beyond _ _ _ _ h2).mono ?_
    rintro e w3 ⟨rfl, hb3⟩
    obtain ⟨hc3, hf3⟩ := bcell hb3
    have hz3b : w.heap.size + 1 < w3.heap.size := by have := hb3.size; (try simp at this); omega
    have hz3a : w.heap.size < w3.heap.size := by omega
    go_wp2_with fail
    have hA0 : (w3.alloc (.cells #[.int .u32 s2, .int .u16 (beyondM m2 c)] 39)).cell? ⟨w.heap.size, 0, none⟩ = some (.int .u32 s1) := by go_simp
    have hA1 : (w3.alloc (.cells #[.int .u32 s2, .int .u16 (beyondM m2 c)] 39)).cell? ⟨w.heap.size, 1, none⟩ = some (.int .u16 m1) := by go_simp
    have hB0 : (w3.alloc (.cells #[.int .u32 s2, .int .u16 (beyondM m2 c)] 39)).cell? ⟨w.heap.size + 1, 0, none⟩ = some (.int .u32 s2) := by go_simp
    have hB1 : (w3.alloc (.cells #[.int .u32 s2, .int .u16 (beyondM m2 c)] 39)).cell? ⟨w.heap.size + 1, 1, none⟩ = some (.int .u16 m2) := by go_simp
    have hlt : w2.heap.size < w3.heap.size := by have := hb3.size; simp at this; omega
    have hX0 : (w3.alloc (.cells #[.int .u32 s2, .int .u16 (beyondM m2 c)] 39)).cell? ⟨w2.heap.size, 0, none⟩ = some (.int .u32 s1) := by go_simp
    have hX1 : (w3.alloc (.cells #[.int .u32 s2, .int .u16 (beyondM m2 c)] 39)).cell? ⟨w2.heap.size, 1, none⟩ = some (.int .u16 (beyondM m1 c)) := by go_simp
    have hY0 : (w3.alloc (.cells #[.int .u32 s2, .int .u16 (beyondM m2 c)] 39)).cell? ⟨w3.heap.size, 0, none⟩ = some (.int .u32 s2) := by go_simp
    have hY1 : (w3.alloc (.cells #[.int .u32 s2, .int .u16 (beyondM m2 c)] 39)).cell? ⟨w3.heap.size, 1, none⟩ = some (.int .u16 (beyondM m2 c)) := by go_simp
    have hS : w3.heap.size < (w3.alloc (.cells #[.int .u32 s2, .int .u16 (beyondM m2 c)] 39)).heap.size := by simp
    have hb : Below w.heap.size w (w3.alloc (.cells #[.int .u32 s2, .int .u16 (beyondM m2 c)] 39)) := by
      refine (below_step ((below_step (below_step (((Below.refl _ _).alloc (Nat.le_refl _) _).alloc (by simp) _) (by simp; omega) hb1) (by omega) hb2).alloc (by omega) _) (by simp; omega) hb3).alloc (by omega) _
    generalize (w3.alloc (.cells #[.int .u32 s2, .int .u16 (beyondM m2 c)] 39)) = W at *
    clear hc1 hf1 hc2 hf2 hc3 hf3 hb1 hb2 hb3 hz1a hz1b
    generalize w3.heap.size = gy at *
    generalize w2.heap.size = gx at *
    obtain ⟨bm0, bm1⟩ := h1
    go_region_held3 (fun w' => w'.cell? ⟨w.heap.size, 0, none⟩ = some (.int .u32 s1) ∧ w'.cell? ⟨w.heap.size, 1, none⟩ = some (.int .u16 m1) ∧ w'.cell? ⟨gx, 0, none⟩ = some (.int .u32 s1) ∧ w'.cell? ⟨gx, 1, none⟩ = some (.int .u16 (beyondM m1 c)))
      (first
        | go_keep
        | (go_split_ands
           refine ⟨?_, ?_, ?_, ?_⟩
           all_goals first
             | (rw [hc5 _ _ (by show _ < w4.heap.size; omega)]; assumption)
             | (rw [hc4 _ _ (by show _ < W.heap.size; omega)]; assumption)))
      ((first | (go_at_call 24; refine (law03_Beyond _ _ _ _ ?_).mono ?_; exact ⟨bm0, bm1⟩; rintro e w4 ⟨rfl, hb4⟩; have hc4 := (bcell hb4).1; have hz4 : W.heap.size ≤ w4.heap.size := hb4.size) | (go_at_call 25; refine (dist_Lost _ _ _).mono ?_; rintro e w5 ⟨rfl, hb5⟩; have hc5 := (bcell hb5).1; have hz5 : w4.heap.size ≤ w5.heap.size := hb5.size)))
    have hz4a : w.heap.size + 1 < w4.heap.size := by omega
    have hz4b : gy < w4.heap.size := by omega
    have hz4c : gx < w4.heap.size := by omega
    have hz4d : w.heap.size < w4.heap.size := by omega
    have kA0 : w5.cell? ⟨w.heap.size, 0, none⟩ = some (.int .u32 s1) := by rw [hc5 _ _ hz4d, hc4 _ _ (by show _ < W.heap.size; omega)]; exact hA0
    have kA1 : w5.cell? ⟨w.heap.size, 1, none⟩ = some (.int .u16 m1) := by rw [hc5 _ _ hz4d, hc4 _ _ (by show _ < W.heap.size; omega)]; exact hA1
    have kB0 : w5.cell? ⟨w.heap.size + 1, 0, none⟩ = some (.int .u32 s2) := by rw [hc5 _ _ hz4a, hc4 _ _ (by show _ < W.heap.size; omega)]; exact hB0
    have kB1 : w5.cell? ⟨w.heap.size + 1, 1, none⟩ = some (.int .u16 m2) := by rw [hc5 _ _ hz4a, hc4 _ _ (by show _ < W.heap.size; omega)]; exact hB1
    have kX0 : w5.cell? ⟨gx, 0, none⟩ = some (.int .u32 s1) := by rw [hc5 _ _ hz4c, hc4 _ _ (by show _ < W.heap.size; omega)]; exact hX0
    have kX1 : w5.cell? ⟨gx, 1, none⟩ = some (.int .u16 (beyondM m1 c)) := by rw [hc5 _ _ hz4c, hc4 _ _ (by show _ < W.heap.size; omega)]; exact hX1
    have kY0 : w5.cell? ⟨gy, 0, none⟩ = some (.int .u32 s2) := by rw [hc5 _ _ hz4b, hc4 _ _ (by show _ < W.heap.size; omega)]; exact hY0
    have kY1 : w5.cell? ⟨gy, 1, none⟩ = some (.int .u16 (beyondM m2 c)) := by rw [hc5 _ _ hz4b, hc4 _ _ (by show _ < W.heap.size; omega)]; exact hY1
    have hs5 : w4.heap.size ≤ w5.heap.size := hb5.size
    have hw5 : Below w.heap.size w w5 := below_step (below_step hb.drew (by show _ ≤ W.heap.size; omega) hb4) (by omega) hb5
    clear hb hb4 hb5 hc4 hc5 hA0 hA1 hB0 hB1 hX0 hX1 hY0 hY1
    have hz5d : w.heap.size < w5.heap.size := by omega
    have hz5c : gx < w5.heap.size := by omega
    have hz5b : gy < w5.heap.size := by omega
    have hz5a : w.heap.size + 1 < w5.heap.size := by omega
    go_wp2_with fail
    refine (dist_Lost _ _ _).mono ?_
    rintro e w6 ⟨rfl, hb6⟩
    have hc6 := (bcell hb6).1
    have hs6 : w5.heap.size ≤ w6.heap.size := hb6.size
    have hz6a : w.heap.size + 1 < w6.heap.size := by omega
    have hz6b : gy < w6.heap.size := by omega
    have hz6c : gx < w6.heap.size := by omega
    have hz6d : w.heap.size < w6.heap.size := by omega
    rw [H1.out]
    go_wp2_with fail
    refine (dist_Compare _ _ _ _ _).mono ?_
    rintro e w7 ⟨rfl, hb7⟩
    have hc7 := (bcell hb7).1
    have hs7 : w6.heap.size ≤ w7.heap.size := hb7.size
    have hz7a : w.heap.size + 1 < w7.heap.size := by omega
    have hz7b : gy < w7.heap.size := by omega
    have hz7c : gx < w7.heap.size := by omega
    have hz7d : w.heap.size < w7.heap.size := by omega
    rw [H2.out]
    go_wp2_with fail
    refine (dist_Compare _ _ _ _ _).mono ?_
    rintro e w8 ⟨rfl, hb8⟩
    have hc8 := (bcell hb8).1
    have hs8 : w7.heap.size ≤ w8.heap.size := hb8.size
    have hz8a : w.heap.size + 1 < w8.heap.size := by omega
    have hz8b : gy < w8.heap.size := by omega
    have hz8c : gx < w8.heap.size := by omega
    have hz8d : w.heap.size < w8.heap.size := by omega
    rw [HK.out]
    go_wp2
    go_ret
    exact ⟨by simp, below_step (below_step (below_step hw5 (by omega) hb6) (by omega) hb7) (by omega) hb8⟩
  · have hl := hKL (by omega)
    clear hKL
    go_enter Try.func6, Try.ntmps6
    go_wp2_with fail
    refine (law03_head _).mono ?_
    rintro e w1 ⟨rfl, hb1⟩
    obtain ⟨hc1, hf1⟩ := bcell hb1
    have hz1b : w.heap.size + 1 < w1.heap.size := by have := hb1.size; (try simp at this); omega
    have hz1a : w.heap.size < w1.heap.size := by omega
    go_wp2_with fail
    refine (dist_Beyond _ _ _ _ h1).mono ?_
    rintro e w2 ⟨rfl, hb2⟩
    obtain ⟨hc2, hf2⟩ := bcell hb2
    have hz2b : w.heap.size + 1 < w2.heap.size := by have := hb2.size; (try simp at this); omega
    have hz2a : w.heap.size < w2.heap.size := by omega
    go_wp2_with fail
    refine (dist_Beyond _ _ _ _ h2).mono ?_
    rintro e w3 ⟨rfl, hb3⟩
    obtain ⟨hc3, hf3⟩ := bcell hb3
    have hz3b : w.heap.size + 1 < w3.heap.size := by have := hb3.size; (try simp at this); omega
    have hz3a : w.heap.size < w3.heap.size := by omega
    go_wp2_with fail
    have hA0 : (w3.alloc (.cells #[.int .u32 s2, .int .u16 (beyondM m2 c)] 39)).cell? ⟨w.heap.size, 0, none⟩ = some (.int .u32 s1) := by go_simp
    have hA1 : (w3.alloc (.cells #[.int .u32 s2, .int .u16 (beyondM m2 c)] 39)).cell? ⟨w.heap.size, 1, none⟩ = some (.int .u16 m1) := by go_simp
    have hB0 : (w3.alloc (.cells #[.int .u32 s2, .int .u16 (beyondM m2 c)] 39)).cell? ⟨w.heap.size + 1, 0, none⟩ = some (.int .u32 s2) := by go_simp
    have hB1 : (w3.alloc (.cells #[.int .u32 s2, .int .u16 (beyondM m2 c)] 39)).cell? ⟨w.heap.size + 1, 1, none⟩ = some (.int .u16 m2) := by go_simp
    have hlt : w2.heap.size < w3.heap.size := by have := hb3.size; simp at this; omega
    have hX0 : (w3.alloc (.cells #[.int .u32 s2, .int .u16 (beyondM m2 c)] 39)).cell? ⟨w2.heap.size, 0, none⟩ = some (.int .u32 s1) := by go_simp
    have hX1 : (w3.alloc (.cells #[.int .u32 s2, .int .u16 (beyondM m2 c)] 39)).cell? ⟨w2.heap.size, 1, none⟩ = some (.int .u16 (beyondM m1 c)) := by go_simp
    have hY0 : (w3.alloc (.cells #[.int .u32 s2, .int .u16 (beyondM m2 c)] 39)).cell? ⟨w3.heap.size, 0, none⟩ = some (.int .u32 s2) := by go_simp
    have hY1 : (w3.alloc (.cells #[.int .u32 s2, .int .u16 (beyondM m2 c)] 39)).cell? ⟨w3.heap.size, 1, none⟩ = some (.int .u16 (beyondM m2 c)) := by go_simp
    have hS : w3.heap.size < (w3.alloc (.cells #[.int .u32 s2, .int .u16 (beyondM m2 c)] 39)).heap.size := by simp
    have hb : Below w.heap.size w (w3.alloc (.cells #[.int .u32 s2, .int .u16 (beyondM m2 c)] 39)) := by
      refine (below_step ((below_step (below_step (((Below.refl _ _).alloc (Nat.le_refl _) _).alloc (by simp) _) (by simp; omega) hb1) (by omega) hb2).alloc (by omega) _) (by simp; omega) hb3).alloc (by omega) _
    generalize (w3.alloc (.cells #[.int .u32 s2, .int .u16 (beyondM m2 c)] 39)) = W at *
    clear hc1 hf1 hc2 hf2 hc3 hf3 hb1 hb2 hb3 hz1a hz1b
    generalize w3.heap.size = gy at *
    generalize w2.heap.size = gx at *
    obtain ⟨bm0, bm1⟩ := h1
    go_region_held3 (fun w' => w'.cell? ⟨w.heap.size, 0, none⟩ = some (.int .u32 s1) ∧ w'.cell? ⟨w.heap.size, 1, none⟩ = some (.int .u16 m1) ∧ w'.cell? ⟨gx, 0, none⟩ = some (.int .u32 s1) ∧ w'.cell? ⟨gx, 1, none⟩ = some (.int .u16 (beyondM m1 c)))
      (first
        | go_keep
        | (go_split_ands
           refine ⟨?_, ?_, ?_, ?_⟩
           all_goals first
             | (rw [hc5 _ _ (by show _ < w4.heap.size; omega)]; assumption)
             | (rw [hc4 _ _ (by show _ < W.heap.size; omega)]; assumption)))
      ((first | (go_at_call 24; refine (law03_Beyond _ _ _ _ ?_).mono ?_; exact ⟨bm0, bm1⟩; rintro e w4 ⟨rfl, hb4⟩; have hc4 := (bcell hb4).1; have hz4 : W.heap.size ≤ w4.heap.size := hb4.size) | (go_at_call 25; refine (dist_Lost _ _ _).mono ?_; rintro e w5 ⟨rfl, hb5⟩; have hc5 := (bcell hb5).1; have hz5 : w4.heap.size ≤ w5.heap.size := hb5.size)))
    have hz4a : w.heap.size + 1 < w4.heap.size := by omega
    have hz4b : gy < w4.heap.size := by omega
    have hz4c : gx < w4.heap.size := by omega
    have hz4d : w.heap.size < w4.heap.size := by omega
    have kA0 : w5.cell? ⟨w.heap.size, 0, none⟩ = some (.int .u32 s1) := by rw [hc5 _ _ hz4d, hc4 _ _ (by show _ < W.heap.size; omega)]; exact hA0
    have kA1 : w5.cell? ⟨w.heap.size, 1, none⟩ = some (.int .u16 m1) := by rw [hc5 _ _ hz4d, hc4 _ _ (by show _ < W.heap.size; omega)]; exact hA1
    have kB0 : w5.cell? ⟨w.heap.size + 1, 0, none⟩ = some (.int .u32 s2) := by rw [hc5 _ _ hz4a, hc4 _ _ (by show _ < W.heap.size; omega)]; exact hB0
    have kB1 : w5.cell? ⟨w.heap.size + 1, 1, none⟩ = some (.int .u16 m2) := by rw [hc5 _ _ hz4a, hc4 _ _ (by show _ < W.heap.size; omega)]; exact hB1
    have kX0 : w5.cell? ⟨gx, 0, none⟩ = some (.int .u32 s1) := by rw [hc5 _ _ hz4c, hc4 _ _ (by show _ < W.heap.size; omega)]; exact hX0
    have kX1 : w5.cell? ⟨gx, 1, none⟩ = some (.int .u16 (beyondM m1 c)) := by rw [hc5 _ _ hz4c, hc4 _ _ (by show _ < W.heap.size; omega)]; exact hX1
    have kY0 : w5.cell? ⟨gy, 0, none⟩ = some (.int .u32 s2) := by rw [hc5 _ _ hz4b, hc4 _ _ (by show _ < W.heap.size; omega)]; exact hY0
    have kY1 : w5.cell? ⟨gy, 1, none⟩ = some (.int .u16 (beyondM m2 c)) := by rw [hc5 _ _ hz4b, hc4 _ _ (by show _ < W.heap.size; omega)]; exact hY1
    have hs5 : w4.heap.size ≤ w5.heap.size := hb5.size
    have hw5 : Below w.heap.size w w5 := below_step (below_step hb.drew (by show _ ≤ W.heap.size; omega) hb4) (by omega) hb5
    clear hb hb4 hb5 hc4 hc5 hA0 hA1 hB0 hB1 hX0 hX1 hY0 hY1
    have hz5d : w.heap.size < w5.heap.size := by omega
    have hz5c : gx < w5.heap.size := by omega
    have hz5b : gy < w5.heap.size := by omega
    have hz5a : w.heap.size + 1 < w5.heap.size := by omega
    go_wp2_with fail
    refine (dist_Lost _ _ _).mono ?_
    rintro e w6 ⟨rfl, hb6⟩
    have hc6 := (bcell hb6).1
    have hs6 : w5.heap.size ≤ w6.heap.size := hb6.size
    have hz6a : w.heap.size + 1 < w6.heap.size := by omega
    have hz6b : gy < w6.heap.size := by omega
    have hz6c : gx < w6.heap.size := by omega
    have hz6d : w.heap.size < w6.heap.size := by omega
    rw [H1.out]
    go_wp2_with fail
    refine (dist_Compare _ _ _ _ _).mono ?_
    rintro e w7 ⟨rfl, hb7⟩
    have hc7 := (bcell hb7).1
    have hs7 : w6.heap.size ≤ w7.heap.size := hb7.size
    have hz7a : w.heap.size + 1 < w7.heap.size := by omega
    have hz7b : gy < w7.heap.size := by omega
    have hz7c : gx < w7.heap.size := by omega
    have hz7d : w.heap.size < w7.heap.size := by omega
    rw [H2.out]
    go_wp2_with fail
    refine (dist_Compare _ _ _ _ _).mono ?_
    rintro e w8 ⟨rfl, hb8⟩
    have hc8 := (bcell hb8).1
    have hs8 : w7.heap.size ≤ w8.heap.size := hb8.size
    have hz8a : w.heap.size + 1 < w8.heap.size := by omega
    have hz8b : gy < w8.heap.size := by omega
    have hz8c : gx < w8.heap.size := by omega
    have hz8d : w.heap.size < w8.heap.size := by omega
    rw [HK.out]
    go_wp2_with fail
    refine (dist_Compare _ _ _ _ _).mono ?_
    rintro e w9 ⟨rfl, hb9⟩
    have hc9 := (bcell hb9).1
    have hs9 : w8.heap.size ≤ w9.heap.size := hb9.size
    have hz9a : w.heap.size + 1 < w9.heap.size := by omega
    have hz9b : gy < w9.heap.size := by omega
    have hz9c : gx < w9.heap.size := by omega
    have hz9d : w.heap.size < w9.heap.size := by omega
    rw [HL.out]
    go_wp2
    go_ret
    exact ⟨by simp [hl], below_step (below_step (below_step (below_step hw5 (by omega) hb6) (by omega) hb7) (by omega) hb8) (by omega) hb9⟩
end Go.Proofs.Ytgmdjhokcipajaa
