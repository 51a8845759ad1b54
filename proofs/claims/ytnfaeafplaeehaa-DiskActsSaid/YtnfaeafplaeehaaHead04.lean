import Derived.Test.YtnfaeafplaeehaaLaw04
set_option linter.unusedVariables false
set_option linter.unusedSimpArgs false
namespace Go.Proofs.Ytnfaeafplaeehaa
open Go.RowKit
/-! The document's example. -/
theorem fullS_len (c : Int) : (fullS c).length = 48 := by simp [fullS]
theorem full_row {w : World} {b : Nat} {c : Int} (h : Blk w b 5 (u8s (fullS c)).toArray) : Row w 1 (some ⟨b, 0, none⟩) (fullS c).length (u8s (fullS c)) := Row.ofBlock (by simp [u8s]) (by rw [fullS_len]; omega) h (fun j u hj => by simpa using hj)
/-- A sector of one byte is written. -/
theorem write_full (i : Int) (c : Int) (d g bs : Nat) (sec : List Sec) (lat : List (Int × Sec)) (fl : Int) (w : World) (b : Nat) (h : DiskAt w d g bs sec lat fl) (hf : fl ≤ 9223372036854775807) (hi : 0 ≤ i ∧ i < sec.length) (hb : Blk w b 5 (u8s (fullS c)).toArray) :
    Calls Try.prog 25 #[.pointer (some ⟨d, 0, none⟩), .int .i64 i, .slice (some ⟨b, 0, none⟩) 48 48] w fun e w' => e = .returned (.int .i64 (if (failsF fl).1 = true then 4 else 0)) ∧ DiskAt w' d g bs sec (if (failsF fl).1 = true then lat else updM lat i (fullS c)) (failsF fl).2 ∧ Kept [d, g] w w' := by
  have := disk_Write_ok i (fullS c) (some ⟨b, 0, none⟩) 48 d g bs sec lat fl w h hf (full_row hb) (fullS_len c) (by omega) hi (fun b' off e => by cases e; exact ⟨hb.nT h.d (by decide), blk_mapD hb h.m⟩)
  rw [fullS_len] at this
  exact this
theorem kept_below3 {d g bs : Nat} {w0 a b : World} (hb : Below w0.heap.size w0 a) (h : w0.heap.size ≤ d ∧ w0.heap.size ≤ g ∧ w0.heap.size ≤ bs) (hk : Kept [d, g, bs] a b) : Below w0.heap.size w0 b := hk.below hb hb.size (by simp; omega)
theorem DiskAt.lts {W : World} {d g bs : Nat} {sec : List Sec} {lat : List (Int × Sec)} {fl : Int} (h : DiskAt W d g bs sec lat fl) : d < W.heap.size ∧ g < W.heap.size ∧ bs < W.heap.size := ⟨h.d.lt, h.m.lt, h.s.lt⟩
theorem crash1_nil (lat : List (Int × Sec)) (sec : List Sec) (n : Nat) (i : Int) : crash1 lat [] sec n i = sec := by simp [crash1]
theorem crashN_nil (sec : List Sec) (lat : List (Int × Sec)) (ks : List Int) : ∀ k, crashN sec lat [] ks k = sec
  | 0 => rfl
  | k + 1 => by rw [crashN_succ, crash1_nil, crashN_nil sec lat ks k]
theorem crashS_nil (sec : List Sec) (lat : List (Int × Sec)) : crashS sec lat [] = sec := crashN_nil _ _ _ _
theorem atD_nil (sec : List Sec) (i : Nat) : atD sec [] i = sec.getD i [] := rfl
theorem syncS_get (sec : List Sec) (lat : List (Int × Sec)) (i : Nat) (h : i < sec.length) : (syncS sec lat).getD i [] = atD sec lat i := by
  simp [syncS, List.getD_eq_getElem?_getD, List.getElem?_map, h]
set_option maxRecDepth 100000 in
set_option maxHeartbeats 4000000 in
theorem law04_head (w : World) : Calls Try.prog 23 #[] w fun e w' => e = .returned (.bool true) ∧ Below w.heap.size w w' := by
  go_enter Try.func23, Try.ntmps23
  go_wp2_with fail
  refine (disk_New 2 w).mono ?_
  rintro e w1 ⟨d, g, bs, rfl, hD, hn, hb1⟩
  rw [show (max 1 (min (2 : Int) 512)).toNat = 2 from rfl] at hD
  go_wp2_with fail
  refine (disk_Size d g bs _ _ _ w1 hD).mono ?_
  rintro e w1' ⟨rfl, rfl⟩
  go_wp2_with fail
  refine (law04_full 7 w1').mono ?_
  rintro e w2 ⟨b, rfl, hbl, hB, hb2⟩
  have hD2 := hD.below hb2
  have hbw := hb1.trans (hb2.mono hb1.size)
  clear hD hb1 hb2
  go_wp2_with fail
  refine (write_full 1 7 d g bs _ _ _ w2 b hD2 (by omega) (by simp) hB).mono ?_
  rintro e w3 ⟨rfl, hD3, hk3⟩
  have hb3 := kept_below3 hbw hn (hk3.more (by simp))
  clear hD2 hk3 hbw hB hbl
  simp only [failsF, show ((-1 : Int) < 0) from by decide, if_true, if_false, Bool.false_eq_true, ↓reduceIte] at hD3 ⊢
  go_wp2_with fail
  refine (disk_Crash d g bs _ _ _ [] none 0 w3 hD3 ⟨rfl, by simp, fun h => absurd h (by simp)⟩ (by simp [updM]) (by simp) (fun h => absurd h (by simp))).mono ?_
  rintro e w4 ⟨rfl, hD4, hk4⟩
  have hb4 := kept_below3 hb3 hn hk4
  clear hD3 hk4 hb3
  go_wp2_with fail
  refine (disk_Read_ok 1 d g bs _ _ _ w4 hD4 (by simp [crashS, crashN_len])).mono ?_
  rintro e w5 ⟨va, rfl, hO, hOl, hb5⟩
  have hD5 := hD4.below hb5
  have hbw := hb4.trans (hb5.mono hb4.size)
  have hlt4 := hD4.lts
  clear hD4 hb4 hb5
  rw [crashS_nil] at hD5 hO hOl
  rw [atD_nil, show (List.replicate 2 zsec).getD 1 [] = fullS 0 from zsec_eq] at hO hOl
  obtain ⟨Aa, ca, rfl, hRa, hAa⟩ := own_row hO (by rw [hOl]; omega) (by simp [u8s])
  have hAn : ∀ b off, Aa = some ⟨b, off, none⟩ → b ∉ [d, g, bs] := fun b off e => by have := hAa b off e; simp; omega
  clear hAa
  rw [hOl] at hRa ⊢
  clear hO
  go_wp2_with fail
  refine (law04_full 8 w5).mono ?_
  rintro e w6 ⟨b, rfl, hbl, hB, hb6⟩
  have hD6 := hD5.below hb6
  have hRa6 := hRa.below hb6
  have hbw6 := hbw.trans (hb6.mono hbw.size)
  clear hD5 hRa hbw hb6
  go_wp2_with fail
  refine (write_full 1 8 d g bs _ _ _ w6 b hD6 (by omega) (by simp) hB).mono ?_
  rintro e w7 ⟨rfl, hD7, hk7⟩
  have hRa7 := (hk7.more (T := [d, g, bs]) (by simp)).row hRa6 hAn
  have hbw7 := kept_below3 hbw6 hn (hk7.more (by simp))
  clear hD6 hRa6 hbw6 hB hk7 hbl
  simp only [failsF, show ((-1 : Int) < 0) from by decide, if_true, if_false, Bool.false_eq_true, ↓reduceIte] at hD7 ⊢
  go_wp2_with fail
  refine (disk_Sync d g bs _ _ _ w7 hD7 (by omega)).mono ?_
  rintro e w8 ⟨rfl, hD8, hk8⟩
  have hRa8 := hk8.row hRa7 hAn
  have hbw8 := kept_below3 hbw7 hn hk8
  clear hD7 hRa7 hbw7 hk8
  simp only [failsF, show ((-1 : Int) < 0) from by decide, if_true, if_false, Bool.false_eq_true, ↓reduceIte] at hD8 ⊢
  go_wp2_with fail
  refine (disk_Crash d g bs _ _ _ [] none 0 w8 hD8 ⟨rfl, by simp, fun h => absurd h (by simp)⟩ (by simp) (by simp) (fun h => absurd h (by simp))).mono ?_
  rintro e w9 ⟨rfl, hD9, hk9⟩
  have hRa9 := hk9.row hRa8 hAn
  have hbw9 := kept_below3 hbw8 hn hk9
  rw [crashS_nil] at hD9
  clear hD8 hRa8 hbw8 hk9
  go_wp2_with fail
  refine (disk_Read_ok 1 d g bs _ _ _ w9 hD9 (by simp [syncS_len])).mono ?_
  rintro e w10 ⟨vb, rfl, hO, hOl2, hb10⟩
  have hRa10 := hRa9.below hb10
  have hbw10 := hbw9.trans (hb10.mono hbw9.size)
  rw [atD_nil, syncS_get _ _ _ (by simp), show atD (List.replicate 2 zsec) (updM [] 1 (fullS 8)) 1 = fullS 8 from rfl] at hO hOl2
  obtain ⟨Ab, cb, rfl, hRb, -⟩ := own_row hO (by rw [hOl2]; omega) (by simp [u8s])
  rw [hOl2] at hRb ⊢
  clear hO hD9 hRa9 hbw9 hb10
  go_wp2_with fail
  refine draw_start [] Later (by kernel_rfl) ?_
  refine draw_chunk (n := 55) (by kernel_rfl) (fun _ _ _ _ _ h => h) [0, 1, 2, 3, 4] [] _ #[true, true, true, true, true, false, false, false, false, false, false, false, false, false, false, false, false] (by kernel_rfl) 12 _ ?_ _ rfl ?_ ?_
  rotate_left
  · intro w' hw'
    have hc' : ∀ b o, b < w10.heap.size → w'.cell? ⟨b, o, none⟩ = w10.cell? ⟨b, o, none⟩ := (bcell hw').1
    have hcv := conv_row (c := ca) (hRa10.below (undrew hw')) (by omega)
    refine ci_step (i := 0) (v := ?_) rfl (by kernel_rfl) ?_ ?_
    rotate_left
    · first | (go_simp; done) | (go_simp; with_reducible rfl)
    skip
    try simp only [Act.put, List.setIfInBounds_toArray, List.set_cons_zero, List.set_cons_succ]
    refine ci_step (i := 1) (v := ?_) rfl (by kernel_rfl) ?_ ?_
    rotate_left
    · first | (go_simp; done) | (go_simp; with_reducible rfl)
    skip
    try simp only [Act.put, List.setIfInBounds_toArray, List.set_cons_zero, List.set_cons_succ]
    refine ci_step (i := 2) (v := ?_) rfl (by kernel_rfl) ?_ ?_
    rotate_left
    · first | (go_simp; done) | (go_simp; with_reducible rfl)
    skip
    try simp only [Act.put, List.setIfInBounds_toArray, List.set_cons_zero, List.set_cons_succ]
    refine ci_step (i := 3) (v := ?_) rfl (by kernel_rfl) ?_ ?_
    rotate_left
    · first | (go_simp; done) | (go_simp; with_reducible rfl)
    skip
    try simp only [Act.put, List.setIfInBounds_toArray, List.set_cons_zero, List.set_cons_succ]
    refine ci_step (i := 4) (v := ?_) rfl (by kernel_rfl) ?_ ?_
    rotate_left
    · first | (go_simp; done) | (go_simp; with_reducible rfl)
    skip
    try simp only [Act.put, List.setIfInBounds_toArray, List.set_cons_zero, List.set_cons_succ]
    refine ci_end ?_
    rfl
  refine draw_eff (i := 5) rfl (by kernel_rfl) (listed' := #[true, true, true, true, true, true, false, false, false, false, false, false, false, false, false, false, false]) rfl (fun K hK => ?_)
  replace hK := Lib.hid hK
  go_wp2_with fail
  refine (law04_full 0 _).mono ?_
  rintro e w11 ⟨b2, rfl, -, hB2, hb11⟩
  have hRb11 := hRb.drew.below hb11
  have hbw11 := (Below.drew hbw10).trans (hb11.mono hbw10.size)
  have hR2 := full_row hB2
  rw [fullS_len] at hR2
  go_wp2_with fail
  refine hK.out _ _ ⟨fun _ => hb11, ?_⟩
  clear hK hRb hbw10 hb11 hRa10
  refine draw_chunk (n := 55) (by kernel_rfl) (fun _ _ _ _ _ h => h) [6, 7, 8, 9, 10, 11] [] _ #[true, true, true, true, true, true, true, true, true, true, true, true, false, false, false, false, false] (by kernel_rfl) 5 _ ?_ _ rfl ?_ ?_
  rotate_left
  · intro w' hw'
    have hc' : ∀ b o, b < w11.heap.size → w'.cell? ⟨b, o, none⟩ = w11.cell? ⟨b, o, none⟩ := (bcell hw').1
    have hcv := conv_row (c := cb) (hRb11.below hw') (by omega); have hcv2 := conv_row (c := 48) (hR2.below hw') (by omega)
    refine ci_step (i := 6) (v := ?_) rfl (by kernel_rfl) ?_ ?_
    rotate_left
    · first | (go_simp; done) | (go_simp; with_reducible rfl)
    skip
    try simp only [Act.put, List.setIfInBounds_toArray, List.set_cons_zero, List.set_cons_succ]
    refine ci_step (i := 7) (v := ?_) rfl (by kernel_rfl) ?_ ?_
    rotate_left
    · first | (go_simp; done) | (go_simp; with_reducible rfl)
    skip
    try simp only [Act.put, List.setIfInBounds_toArray, List.set_cons_zero, List.set_cons_succ]
    refine ci_step (i := 8) (v := ?_) rfl (by kernel_rfl) ?_ ?_
    rotate_left
    · first | (go_simp; done) | (go_simp; with_reducible rfl)
    skip
    try simp only [Act.put, List.setIfInBounds_toArray, List.set_cons_zero, List.set_cons_succ]
    refine ci_step (i := 9) (v := ?_) rfl (by kernel_rfl) ?_ ?_
    rotate_left
    · first | (go_simp; done) | (go_simp; with_reducible rfl)
    skip
    try simp only [Act.put, List.setIfInBounds_toArray, List.set_cons_zero, List.set_cons_succ]
    refine ci_step (i := 10) (v := ?_) rfl (by kernel_rfl) ?_ ?_
    rotate_left
    · first | (go_simp; done) | (go_simp; with_reducible rfl)
    skip
    try simp only [Act.put, List.setIfInBounds_toArray, List.set_cons_zero, List.set_cons_succ]
    refine ci_step (i := 11) (v := ?_) rfl (by kernel_rfl) ?_ ?_
    rotate_left
    · first | (go_simp; done) | (go_simp; with_reducible rfl)
    skip
    try simp only [Act.put, List.setIfInBounds_toArray, List.set_cons_zero, List.set_cons_succ]
    refine ci_end ?_
    rfl
  refine draw_eff (i := 12) rfl (by kernel_rfl) (listed' := #[true, true, true, true, true, true, true, true, true, true, true, true, true, false, false, false, false]) rfl (fun K hK => ?_)
  replace hK := Lib.hid hK
  go_wp2_with fail
  refine (law04_full 8 _).mono ?_
  rintro e w12 ⟨b3, rfl, -, hB3, hb12⟩
  have hbw12 := hbw11.trans (hb12.mono hbw11.size)
  have hR3 := full_row hB3
  rw [fullS_len] at hR3
  go_wp2_with fail
  refine hK.out _ _ ⟨fun _ => hb12, ?_⟩
  clear hK hRb11 hbw11 hb12 hR2
  refine draw_chunk (n := 55) (by kernel_rfl) (fun _ _ _ _ _ h => h) [13, 14, 15, 16] [] _ #[true, true, true, true, true, true, true, true, true, true, true, true, true, true, true, true, true] (by kernel_rfl) 0 _ ?_ _ rfl ?_ ?_
  rotate_left
  · intro w' hw'
    have hc' : ∀ b o, b < w12.heap.size → w'.cell? ⟨b, o, none⟩ = w12.cell? ⟨b, o, none⟩ := (bcell hw').1
    have hcv := conv_row (c := 48) (hR3.below hw') (by omega)
    refine ci_step (i := 13) (v := ?_) rfl (by kernel_rfl) ?_ ?_
    rotate_left
    · first | (go_simp; done) | (go_simp; with_reducible rfl)
    skip
    try simp only [Act.put, List.setIfInBounds_toArray, List.set_cons_zero, List.set_cons_succ]
    refine ci_step (i := 14) (v := ?_) rfl (by kernel_rfl) ?_ ?_
    rotate_left
    · first | (go_simp; done) | (go_simp; with_reducible rfl)
    skip
    try simp only [Act.put, List.setIfInBounds_toArray, List.set_cons_zero, List.set_cons_succ]
    refine ci_step (i := 15) (v := ?_) rfl (by kernel_rfl) ?_ ?_
    rotate_left
    · first | (go_simp; done) | (go_simp; with_reducible rfl)
    skip
    try simp only [Act.put, List.setIfInBounds_toArray, List.set_cons_zero, List.set_cons_succ]
    refine ci_step (i := 16) (v := ?_) rfl (by kernel_rfl) ?_ ?_
    rotate_left
    · first | (go_simp; done) | (go_simp; with_reducible rfl)
    skip
    try simp only [Act.put, List.setIfInBounds_toArray, List.set_cons_zero, List.set_cons_succ]
    refine ci_end ?_
    rfl
  refine draw_done (by kernel_rfl) ?_ _
  go_wp2
  go_ret
  exact ⟨rfl, hbw12⟩
end Go.Proofs.Ytnfaeafplaeehaa
