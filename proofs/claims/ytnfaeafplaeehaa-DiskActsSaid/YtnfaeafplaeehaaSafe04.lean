import Derived.Test.YtnfaeafplaeehaaHead04
set_option linter.unusedVariables false
set_option linter.unusedSimpArgs false
namespace Go.Proofs.Ytnfaeafplaeehaa
open Go.RowKit
/-! What was synced no crash turns. -/
theorem crash1_keep {lat : List (Int × Sec)} {picks : List Pk} (sec : List Sec) (n : Nat) (i : Int) (j : Nat) (h : j ≠ i.toNat) : (crash1 lat picks sec n i)[j]? = sec[j]? := by
  unfold crash1
  split
  · rfl
  · split
    · rfl
    · simp only
      split <;> rw [List.getElem?_set_ne (Ne.symm h)]
theorem crashN_keep {lat : List (Int × Sec)} {picks : List Pk} (sec : List Sec) (ks : List Int) (j : Nat) (hk : ∀ i ∈ ks, j ≠ i.toNat) : ∀ k, k ≤ ks.length → (crashN sec lat picks ks k)[j]? = sec[j]?
  | 0, _ => rfl
  | k + 1, hl => by
    rw [crashN_succ, crash1_keep, crashN_keep sec ks j hk k (by omega)]
    rw [List.getD_eq_getElem?_getD, List.getElem?_eq_getElem (by omega)]
    exact hk _ (List.getElem_mem _)
theorem crashS_keep {lat : List (Int × Sec)} {picks : List Pk} (sec : List Sec) (j : Nat) (hk : ∀ e ∈ lat, j ≠ e.1.toNat) : (crashS sec lat picks)[j]? = sec[j]? := by
  refine crashN_keep sec _ j (fun i hi => ?_) lat.length ?_
  · obtain ⟨x, hx, rfl⟩ := List.mem_map.1 ((sortI_perm _).mem_iff.1 hi)
    exact hk x hx
  · rw [(sortI_perm _).length_eq, List.length_map]; exact Nat.le_refl _
theorem getM_updM {α β : Type} [DecidableEq α] (k : α) (v : β) (k' : α) : ∀ m : List (α × β), getM (updM m k v) k' = if k' = k then some v else getM m k'
  | [] => by
    by_cases h : k' = k <;> simp [updM, getM, h]
  | x :: m => by
    have ih := getM_updM k v k' m
    unfold updM
    by_cases h : k = x.1
    · rw [if_pos h]
      by_cases h2 : k' = k
      · simp [getM, h2]
      · rw [if_neg h2]
        simp only [getM, List.find?_cons]
        have h3 : ¬ k' = x.1 := fun e => h2 (e.trans h.symm)
        simp [h2, h3]
    · rw [if_neg h]
      simp only [getM, List.find?_cons] at ih ⊢
      by_cases h3 : k' = x.1
      · have h4 : ¬ k' = k := fun e => h (e.symm.trans h3)
        rw [if_neg h4]
        simp [h3]
      · simp only [h3, decide_false] at ih ⊢
        exact ih
def wrote (ws : List Int) (k : Nat) (lat : List (Int × Sec)) : Prop := ∀ j (h : j < k) (h2 : j < ws.length), getM lat (j : Int) = some (fullS ws[j])
theorem wrote_succ {ws : List Int} {k : Nat} {lat : List (Int × Sec)} (h : wrote ws k lat) (hk : k < ws.length) : wrote ws (k + 1) (updM lat (k : Int) (fullS ws[k])) := fun j hj h2 => by
  rw [getM_updM]
  split
  · rename_i e
    have : j = k := by omega
    subst this
    rfl
  · exact h j (by omega) h2
set_option maxRecDepth 100000 in
set_option maxHeartbeats 4000000 in
theorem law04_Safe (ws ls : List Int) (A0 A1 A2 : Option Addr) (c0 c1 c2 : Nat) (picks : List Pk) (w : World) (hr0 : Row w 1 A0 ws.length (u8s ws)) (hr1 : Row w 1 A1 ls.length (u8s ls)) (hr2 : Row w 3 A2 picks.length (picks.flatMap Pk.cells)) (hpl : picks.length ≤ 140737488351232) :
    Calls Try.prog 5 #[.slice A0 ws.length c0, .slice A1 ls.length c1, .slice A2 picks.length c2] w fun e w' => e = .returned (.bool true) ∧ Below w.heap.size w w' := by
  go_enter Try.func5, Try.ntmps5
  go_wp2_with fail
  refine (law04_head w).mono ?_
  rintro e w1 ⟨rfl, hb1⟩
  by_cases h20 : ws.length ≤ 20 ∧ ls.length ≤ 20
  · obtain ⟨hw, hl⟩ := h20
    have d1 : decide ((20 : Int) < (ws.length : Int)) = false := decide_eq_false (by omega)
    have d2 : decide ((20 : Int) < (ls.length : Int)) = false := decide_eq_false (by omega)
    have d1n : decide (20 < ws.length) = false := decide_eq_false (by omega)
    have d2n : decide (20 < ls.length) = false := decide_eq_false (by omega)
    go_wp2_with fail
    refine (disk_New 40 w1).mono ?_
    rintro e w2 ⟨d, g, bs, rfl, hD, hn, hb2⟩
    rw [show (max 1 (min (40 : Int) 512)).toNat = 40 from rfl] at hD
    have hbw := hb1.trans (hb2.mono hb1.size)
    have hn' : w.heap.size ≤ d ∧ w.heap.size ≤ g ∧ w.heap.size ≤ bs := by have := hb1.size; omega
    clear hb1 hb2 hn d1 d2 d1n d2n
    go_wp2_with fail
    go_loopw [29] (fun i wr => ∃ (k : Nat) (lat : List (Int × Sec)), k ≤ ws.length ∧ i = .int .i64 k ∧ DiskAt wr d g bs (List.replicate 40 zsec) lat (-1) ∧ Hid (wrote ws k lat) ∧ lat.length ≤ k ∧ Below w.heap.size w wr) (fun i _ => ws.length - (intOf i).toNat)
    case atStart => exact ⟨0, [], by omega, rfl, hD, Lib.hid (fun j h => by omega), by simp, hbw⟩
    case round =>
      clear hD hbw
      obtain ⟨k, lat, hk, rfl, hD, hwr, hll, hbw⟩ := hrel
      by_cases hkn : k < ws.length
      · obtain ⟨b, o, rfl, hbl, hc⟩ := (hr0.below hbw).2.2 (by omega)
        have hcl := hc k _ (u8s_get ws k hkn)
        go_wp2_with fail
        refine (law04_full ws[k] wr).mono ?_
        rintro e w3 ⟨b3, rfl, -, hB3, hb3⟩
        have hD3 := hD.below hb3
        have hbw3 := hbw.trans (hb3.mono hbw.size)
        clear hD hbw hb3 hc hcl
        go_wp2_with fail
        refine (write_full k ws[k] d g bs _ _ _ w3 b3 hD3 (by omega) ⟨by omega, by rw [List.length_replicate]; omega⟩ hB3).mono ?_
        rintro e w4 ⟨rfl, hD4, hk4⟩
        simp only [failsF, show ((-1 : Int) < 0) from by decide, if_true, if_false, Bool.false_eq_true, ↓reduceIte] at hD4 ⊢
        have hbw4 := kept_below3 hbw3 hn' (hk4.more (by simp))
        have hw4 := Lib.hid (wrote_succ hwr.out hkn)
        have hll4 := updM_len (k : Int) (fullS ws[k]) lat
        go_wp2_with fail
        case roundEnd => exact ⟨⟨k + 1, _, by omega, rfl, hD4, hw4, by omega, hbw4⟩, by simp [intOf]; omega⟩
      · obtain rfl : k = ws.length := by omega
        go_wp2_with fail
        refine (disk_Sync d g bs _ _ _ wr hD (by omega)).mono ?_
        rintro e w3 ⟨rfl, hD3, hk3⟩
        simp only [failsF, show ((-1 : Int) < 0) from by decide, if_true, if_false, Bool.false_eq_true, ↓reduceIte] at hD3 ⊢
        have hbw3 := kept_below3 hbw hn' hk3
        have HW := Lib.hid (show ∀ j (h : j < ws.length), (syncS (List.replicate 40 zsec) lat)[j]? = some (fullS ws[j]) from fun j h => by
          have := hwr.out j h h
          simp [syncS, show j < 40 by omega, atD, this])
        have HL := Lib.hid (show (syncS (List.replicate 40 zsec) lat).length = 40 by rw [syncS_len, List.length_replicate])
        generalize syncS (List.replicate 40 zsec) lat = S at *
        clear hD hwr hll hbw hk3
        go_wp2_with fail
        go_loopw [45] (fun i wr => ∃ (k : Nat) (lat : List (Int × Sec)), k ≤ ls.length ∧ i = .int .i64 k ∧ DiskAt wr d g bs S lat (-1) ∧ Hid (∀ e ∈ lat, 20 ≤ e.1) ∧ lat.length ≤ k ∧ Below w.heap.size w wr) (fun i _ => ls.length - (intOf i).toNat)
        case atStart => exact ⟨0, [], by omega, rfl, hD3, Lib.hid (by simp), by simp, hbw3⟩
        case round =>
          clear hD3 hbw3
          obtain ⟨k, lat, hk, rfl, hD, hwr, hll, hbw⟩ := hrel
          by_cases hkn : k < ls.length
          · obtain ⟨b, o, rfl, hbl, hc⟩ := (hr1.below hbw).2.2 (by omega)
            have hcl := hc k _ (u8s_get ls k hkn)
            go_wp2_with fail
            refine (law04_full ls[k] _).mono ?_
            rintro e w3 ⟨b3, rfl, -, hB3, hb3⟩
            have hD3 := hD.below hb3
            have hbw3 := hbw.trans (hb3.mono hbw.size)
            clear hD hbw hb3 hc hcl
            go_wp2_with fail
            refine (write_full (20 + k) ls[k] d g bs _ _ _ w3 b3 hD3 (by omega) ⟨by omega, by rw [HL.out]; omega⟩ hB3).mono ?_
            rintro e w4 ⟨rfl, hD4, hk4⟩
            simp only [failsF, show ((-1 : Int) < 0) from by decide, if_true, if_false, Bool.false_eq_true, ↓reduceIte] at hD4 ⊢
            have hbw4 := kept_below3 hbw3 hn' (hk4.more (by simp))
            have hw4 := Lib.hid (show ∀ e ∈ updM lat (20 + (k : Int)) (fullS ls[k]), 20 ≤ e.1 from fun e he => by
              rcases updM_keys _ _ _ e he with rfl | he
              · simp only; omega
              · exact hwr.out e he)
            have hll4 := updM_len (20 + (k : Int)) (fullS ls[k]) lat
            go_wp2_with fail
            case roundEnd => exact ⟨⟨k + 1, _, by omega, rfl, hD4, hw4, by omega, hbw4⟩, by simp [intOf]; omega⟩
          · obtain rfl : k = ls.length := by omega
            have hbs := hD.s.lt
            go_wp2_with fail
            refine (disk_Crash d g bs S lat (-1) picks A2 c2 _ hD (hr2.below hbw) (by omega) hpl (fun h b off e => by
              obtain ⟨b', o', e', hlt, -⟩ := hr2.2.2 h
              rw [e] at e'
              cases e'
              omega)).mono ?_
            rintro e w3 ⟨rfl, hD3, hk3⟩
            have hbw3 := kept_below3 hbw hn' hk3
            have HW2 := Lib.hid (show ∀ j (h : j < ws.length), (crashS S lat picks)[j]? = some (fullS ws[j]) from fun j h => by
              rw [crashS_keep S j fun e he => by have := hwr.out e he; omega]
              exact HW.out j h)
            have HL2 := Lib.hid (show (crashS S lat picks).length = 40 by unfold crashS; rw [crashN_len]; exact HL.out)
            generalize crashS S lat picks = T at *
            clear hD hwr hll hbw hk3 HW HL hbs
            go_wp2_with fail
            go_loopw [62] (fun i wr => ∃ k : Nat, k ≤ ws.length ∧ i = .int .i64 k ∧ DiskAt wr d g bs T [] (-1) ∧ Below w.heap.size w wr) (fun i _ => ws.length - (intOf i).toNat)
            case atStart => exact ⟨0, by omega, rfl, hD3, hbw3⟩
            case round =>
              clear hD3 hbw3
              obtain ⟨k, hk, rfl, hD, hbw⟩ := hrel
              by_cases hkn : k < ws.length
              · obtain ⟨b, o, rfl, hbl, hc⟩ := (hr0.below hbw).2.2 (by omega)
                have hcl := hc k _ (u8s_get ws k hkn)
                go_wp2_with fail
                refine (disk_Read_ok k d g bs _ _ _ _ hD (by rw [HL2.out]; omega)).mono ?_
                rintro e w5 ⟨va, rfl, hO, hOl, hb5⟩
                have hD5 := hD.below hb5
                have hbw5 := hbw.trans (hb5.mono hbw.size)
                rw [atD_nil, List.getD_eq_getElem?_getD, HW2.out k hkn, Option.getD_some] at hO hOl
                obtain ⟨Aa, ca, rfl, hRa, -⟩ := own_row hO (by rw [hOl]; omega) (by simp [u8s])
                rw [hOl] at hRa ⊢
                clear hO hD hbw hb5 hc hcl
                go_wp2_with fail
                refine draw_start [] Later (by kernel_rfl) ?_
                refine draw_chunk (n := 84) (by kernel_rfl) (fun _ _ _ _ _ h => h) [0, 1, 2, 3, 4, 5] [] _ #[true, true, true, true, true, true, false, false, false, false] (by kernel_rfl) 4 _ ?_ _ rfl ?_ ?_
                rotate_left
                · intro w' hw'
                  have hc' : ∀ b o, b < w5.heap.size → w'.cell? ⟨b, o, none⟩ = w5.cell? ⟨b, o, none⟩ := (bcell hw').1
                  have hcv := conv_row (c := ca) (hRa.below (undrew hw')) (by omega)
                  refine ci_step (i := 0) (v := ?_) rfl (by kernel_rfl) ?_ ?_
                  rotate_left
                  · first | (go_simp; done) | (go_simp; with_reducible rfl)
                  skip
                  try simp only [Act.put, List.setIfInBounds_toArray, List.set_cons_zero, List.set_cons_succ]
                  refine ci_step (i := 1) (v := ?_) rfl (by kernel_rfl) ?_ ?_
                  rotate_left
                  · first | (go_simp; done) | (go_simp; with_reducible rfl)
                  skip
                  try simp only [Act.put, List.setIfInBounds_toArray, List.set_cons_zero, List.set_cons_succ]
                  refine ci_step (i := 2) (v := ?_) rfl (by kernel_rfl) ?_ ?_
                  rotate_left
                  · first | (go_simp; done) | (go_simp; with_reducible rfl)
                  skip
                  try simp only [Act.put, List.setIfInBounds_toArray, List.set_cons_zero, List.set_cons_succ]
                  refine ci_step (i := 3) (v := ?_) rfl (by kernel_rfl) ?_ ?_
                  rotate_left
                  · first | (go_simp; done) | (go_simp; with_reducible rfl)
                  skip
                  try simp only [Act.put, List.setIfInBounds_toArray, List.set_cons_zero, List.set_cons_succ]
                  refine ci_step (i := 4) (v := ?_) rfl (by kernel_rfl) ?_ ?_
                  rotate_left
                  · first | (go_simp; done) | (go_simp; with_reducible rfl)
                  skip
                  try simp only [Act.put, List.setIfInBounds_toArray, List.set_cons_zero, List.set_cons_succ]
                  refine ci_step (i := 5) (v := ?_) rfl (by kernel_rfl) ?_ ?_
                  rotate_left
                  · first | (go_simp; done) | (go_simp; with_reducible rfl)
                  skip
                  try simp only [Act.put, List.setIfInBounds_toArray, List.set_cons_zero, List.set_cons_succ]
                  refine ci_end ?_
                  rfl
                refine draw_eff (i := 6) rfl (by kernel_rfl) (listed' := #[true, true, true, true, true, true, true, false, false, false]) rfl (fun K hK => ?_)
                replace hK := Lib.hid hK
                go_wp2_with fail
                refine (law04_full ws[k] _).mono ?_
                rintro e w6 ⟨b2, rfl, -, hB2, hb6⟩
                have hD6 := hD5.drewBelow hb6
                have hbw6 := (Below.drew hbw5).trans (hb6.mono hbw5.size)
                have hR2 := full_row hB2
                rw [fullS_len] at hR2
                go_wp2_with fail
                refine hK.out _ _ ⟨fun _ => hb6, ?_⟩
                clear hK hRa hbw5 hb6 hD5
                refine draw_chunk (n := 84) (by kernel_rfl) (fun _ _ _ _ _ h => h) [7, 8, 9] [] _ #[true, true, true, true, true, true, true, true, true, true] (by kernel_rfl) 0 _ ?_ _ rfl ?_ ?_
                rotate_left
                · intro w' hw'
                  have hc' : ∀ b o, b < w6.heap.size → w'.cell? ⟨b, o, none⟩ = w6.cell? ⟨b, o, none⟩ := (bcell hw').1
                  have hcv2 := conv_row (c := 48) (hR2.below hw') (by omega)
                  refine ci_step (i := 7) (v := ?_) rfl (by kernel_rfl) ?_ ?_
                  rotate_left
                  · first | (go_simp; done) | (go_simp; with_reducible rfl)
                  skip
                  try simp only [Act.put, List.setIfInBounds_toArray, List.set_cons_zero, List.set_cons_succ]
                  refine ci_step (i := 8) (v := ?_) rfl (by kernel_rfl) ?_ ?_
                  rotate_left
                  · first | (go_simp; done) | (go_simp; with_reducible rfl)
                  skip
                  try simp only [Act.put, List.setIfInBounds_toArray, List.set_cons_zero, List.set_cons_succ]
                  refine ci_step (i := 9) (v := ?_) rfl (by kernel_rfl) ?_ ?_
                  rotate_left
                  · first | (go_simp; done) | (go_simp; with_reducible rfl)
                  skip
                  try simp only [Act.put, List.setIfInBounds_toArray, List.set_cons_zero, List.set_cons_succ]
                  refine ci_end ?_
                  rfl
                refine draw_done (by kernel_rfl) ?_ _
                go_wp2
                case roundEnd => exact ⟨⟨k + 1, by omega, rfl, hD6, hbw6⟩, by simp [intOf]; omega⟩
              · go_wp2
                go_ret
                exact ⟨rfl, hbw⟩
  · have hb : Below w.heap.size w w1 := hb1
    by_cases hw : ws.length ≤ 20
    · have d1 : decide ((20 : Int) < (ws.length : Int)) = false := decide_eq_false (by omega)
      have d2 : decide ((20 : Int) < (ls.length : Int)) = true := decide_eq_true (by omega)
      have d1n : decide (20 < ws.length) = false := decide_eq_false (by omega)
      have d2n : decide (20 < ls.length) = true := decide_eq_true (by omega)
      go_wp2_with fail
      go_ret
      exact ⟨rfl, hb⟩
    · have d1 : decide ((20 : Int) < (ws.length : Int)) = true := decide_eq_true (by omega)
      have d1n : decide (20 < ws.length) = true := decide_eq_true (by omega)
      go_wp2_with fail
      go_ret
      exact ⟨rfl, hb⟩
end Go.Proofs.Ytnfaeafplaeehaa
