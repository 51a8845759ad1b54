import Derived.Test.YtnfaeafplaeehaaPick09
set_option linter.unusedVariables false
set_option linter.unusedSimpArgs false
namespace Go.Proofs.Ytnfaeafplaeehaa
open Go.RowKit
/-! The law's own nearest way, walked. -/
theorem beyondM_bd (m c : Int) (h : 0 ≤ m ∧ m ≤ 65535) : 0 ≤ beyondM m c ∧ beyondM m c ≤ 65535 := by
  have := clampC_bd c
  unfold beyondM
  split <;> omega
theorem costF_at (list : List Int) (k : Nat) : (list.length ≤ k → costF list k = 0) ∧ ∀ h : k < list.length, costF list k = list[k] := by
  unfold costF
  refine ⟨fun h => if_pos (.inr (by omega)), fun h => ?_⟩
  rw [if_neg (by omega)]
  simp [h]
set_option maxHeartbeats 4000000 in
theorem law09_Pick (m : List (RKey × Rt)) (a l : Int) (g : Nat) (w : World) (hM : MapAt w g RKey.val Rt.val m) (hmm : ∀ e ∈ m, 0 ≤ e.2.m ∧ e.2.m ≤ 65535) (list : List Int) (A : Option Addr) (c : Nat) (most : Int) (hr : Row w 1 A list.length (list.map (Value.int .i64))) :
    Calls Try.prog 46 #[.map (some g), .agg #[.int .u32 a, .int .i64 l], .slice A list.length c, .int .u32 most] w fun e w' => e = .returned (.int .i64 (bestN m a l list most 9).1) ∧ Below w.heap.size w w' := by
  have hb0 := (Below.refl w.heap.size w).alloc (Nat.le_refl _) (.cells #[.int .u32 a, .int .i64 l] 25)
  have kP := Blk.new w 25 #[.int .u32 a, .int .i64 l]
  have hmax := hr.2.1
  go_enter Try.func46, Try.ntmps46
  go_wp2
  go_loopw [9, 10, 11] (fun b mt i wr => ∃ k : Nat, k ≤ 9 ∧ i = .int .i64 k ∧ b = .int .i64 (bestN m a l list most k).1 ∧ mt = .int .i64 (bestN m a l list most k).2 ∧ Blk wr w.heap.size 25 #[.int .u32 a, .int .i64 l] ∧ Below w.heap.size w wr) (fun _ _ i _ => 9 - (intOf i).toNat)
  case atStart => exact ⟨0, Nat.zero_le _, rfl, rfl, rfl, kP, hb0⟩
  case round =>
    clear kP hb0
    obtain ⟨k, hk, rfl, rfl, rfl, kP, hb⟩ := hrel
    by_cases hlt : k < 9
    · have hM2 := hM.same (hb.block g hM.lt)
      have hlk := law_look m ⟨a, l, k⟩ g wr hM2
      have HN := Lib.hid (show bestN m a l list most (k + 1) = bestStep m a l list most (bestN m a l list most k) k from rfl)
      have hbdm := getR_mem m ⟨a, l, k⟩
      have hrow := hr.below hb
      have p0 := kP.cell 0
      have p1 := kP.cell 1
      simp only [List.getElem?_toArray, List.getElem?_cons_zero, List.getElem?_cons_succ] at p0 p1
      have l1 := kP.lt
      unfold bestStep at HN
      have hbb := (pick_best m a l list most k).1
      generalize bestN m a l list most k = S at *
      generalize getR m ⟨a, l, k⟩ = q at *
      obtain ⟨b1, b2⟩ := S
      obtain ⟨⟨rn, ri, rs, rm, rx⟩, ok⟩ := q
      simp only [Rt.val, RKey.val] at hlk HN hbb
      have hlt' : (k : Int) ≤ 8 := by omega
      have hF := costF_at list k
      cases ok with
      | false =>
        rw [if_pos (.inl rfl)] at HN
        go_wp2
        go_roundw
        case rel => exact ⟨k + 1, by omega, by go_num, by rw [HN.out], by rw [HN.out], kP.alloc _, hb.alloc hb.size _⟩
        case measure => simp [intOf]; omega
      | true =>
        have hm' := hmm _ (hbdm rfl)
        simp only at hm'
        clear hbdm
        by_cases hkl : (list.length : Int) ≤ (k : Int)
        · have hkl' : decide ((list.length : Int) ≤ (k : Int)) = true := decide_eq_true hkl
          have hkl2 : decide (list.length ≤ k) = true := decide_eq_true (by omega)
          rw [if_pos (.inr (.inl (by rw [hF.1 (by omega)]; exact Int.le_refl _)))] at HN
          go_wp2
          go_roundw
          case rel => exact ⟨k + 1, by omega, by go_num, by rw [HN.out], by rw [HN.out], kP.alloc _, hb.alloc hb.size _⟩
          case measure => simp [intOf]; omega
        · have hkl' : decide ((list.length : Int) ≤ (k : Int)) = false := decide_eq_false hkl
          have hkl2 : decide (list.length ≤ k) = false := decide_eq_false (by omega)
          have hkn : k < list.length := by omega
          obtain ⟨b, off, rfl, hbl, hc⟩ := hrow.at1 k hkn
          rw [List.getElem?_map, List.getElem?_eq_getElem hkn, Option.map_some, ← hF.2 hkn] at hc
          generalize costF list k = cv at *
          have hi1 : (k : Int) < (list.length : Int) := by omega
          clear hF hrow
          by_cases hc0 : cv ≤ 0
          · have hc0' : decide (cv ≤ 0) = true := decide_eq_true hc0
            rw [if_pos (.inr (.inl hc0))] at HN
            go_wp2
            go_roundw
            case rel => exact ⟨k + 1, by omega, by go_num, by rw [HN.out], by rw [HN.out], kP.alloc _, hb.alloc hb.size _⟩
            case measure => simp [intOf]; omega
          · have hc0' : decide (cv ≤ 0) = false := decide_eq_false hc0
            by_cases hid : most < ri
            · have hid' : decide (most < ri) = true := decide_eq_true hid
              rw [if_pos (.inr (.inr hid))] at HN
              go_wp2
              go_roundw
              case rel => exact ⟨k + 1, by omega, by go_num, by rw [HN.out], by rw [HN.out], kP.alloc _, hb.alloc hb.size _⟩
              case measure => simp [intOf]; omega
            · have hid' : decide (most < ri) = false := decide_eq_false hid
              rw [if_neg (fun h => h.elim (fun e => by cases e) (fun e => e.elim hc0 hid))] at HN
              have HC := Lib.hid hc0
              clear hc0 hid
              go_wp2_with fail
              have kQ := Blk.new wr 68 #[.int .i64 rn, .int .u32 ri, .int .u32 rs, .int .u16 rm, .int .i64 rx]
              have hbA := (Below.refl wr.heap.size wr).alloc (Nat.le_refl _) (.cells #[.int .i64 rn, .int .u32 ri, .int .u32 rs, .int .u16 rm, .int .i64 rx] 68)
              replace kP := kP.below' hbA
              replace hb := hb.trans (hbA.mono hb.size)
              have hc1 := (hbA.cell (p := ⟨b, off + k, none⟩) hbl).trans hc
              replace hbl := Nat.lt_of_lt_of_le hbl hbA.size
              clear hbA hc p0 p1 l1 hlk hkl hkl' hkl2 hc0' hid'
              generalize wr.alloc (.cells #[.int .i64 rn, .int .u32 ri, .int .u32 rs, .int .u16 rm, .int .i64 rx] 68) = W at *
              generalize wr.heap.size = q at *
              have q1 := kQ.lt
              have c2 := kQ.cell 2
              have c3 := kQ.cell 3
              simp only [List.getElem?_toArray, List.getElem?_cons_zero, List.getElem?_cons_succ] at c2 c3
              refine draw_start [8] Later (by kernel_rfl) ?_
              refine draw_chunk (n := 74) (by kernel_rfl) (fun _ _ _ _ _ h => h) [0, 1, 2, 3, 4, 5] [] _ #[true, true, true, true, true, true, false, false, false] (by kernel_rfl) 3 _ ?_ _ rfl ?_ ?_
              rotate_left
              · intro w' hw'
                have hc' : ∀ b o, b < W.heap.size → w'.cell? ⟨b, o, none⟩ = W.cell? ⟨b, o, none⟩ := (bcell hw').1
                have z2 := (hc' q 2 q1).trans c2; have z3 := (hc' q 3 q1).trans c3; have z4 := (hc' b _ hbl).trans hc1
                refine ci_step (i := 0) (v := ?_) rfl (by kernel_rfl) ?_ ?_
                rotate_left
                · first | (go_simp; done) | (go_simp; with_reducible rfl)
                skip
                try simp only [Act.put, List.setIfInBounds_toArray, List.set_cons_zero, List.set_cons_succ]
                refine ci_step (i := 1) (v := ?_) rfl (by kernel_rfl) ?_ ?_
                rotate_left
                · first | (go_simp; done) | (go_simp; with_reducible rfl)
                skip
                try simp only [Act.put, List.setIfInBounds_toArray, List.set_cons_zero, List.set_cons_succ]
                refine ci_step (i := 2) (v := ?_) rfl (by kernel_rfl) ?_ ?_
                rotate_left
                · first | (go_simp; done) | (go_simp; with_reducible rfl)
                skip
                try simp only [Act.put, List.setIfInBounds_toArray, List.set_cons_zero, List.set_cons_succ]
                refine ci_step (i := 3) (v := ?_) rfl (by kernel_rfl) ?_ ?_
                rotate_left
                · first | (go_simp; done) | (go_simp; with_reducible rfl)
                skip
                try simp only [Act.put, List.setIfInBounds_toArray, List.set_cons_zero, List.set_cons_succ]
                refine ci_step (i := 4) (v := ?_) rfl (by kernel_rfl) ?_ ?_
                rotate_left
                · first | (go_simp; done) | (go_simp; with_reducible rfl)
                skip
                try simp only [Act.put, List.setIfInBounds_toArray, List.set_cons_zero, List.set_cons_succ]
                refine ci_step (i := 5) (v := ?_) rfl (by kernel_rfl) ?_ ?_
                rotate_left
                · first | (go_simp; done) | (go_simp; with_reducible rfl)
                skip
                try simp only [Act.put, List.setIfInBounds_toArray, List.set_cons_zero, List.set_cons_succ]
                refine ci_end ?_
                rfl
              refine draw_two (i := 6) (j := 7) rfl rfl (by kernel_rfl) (li := #[true, true, true, true, true, true, true, false, false]) (lj := #[true, true, true, true, true, true, false, true, false]) rfl rfl (fun K hK => ?_) (fun K hK => ?_)
              all_goals replace hK := Lib.hid hK
              · skip
                go_wp2_with fail
                refine (law03_Beyond rs rm cv _ hm').mono ?_
                rintro e w4 ⟨rfl, hb4⟩
                go_wp2_with fail
                refine hK.out _ _ ⟨fun _ => hb4, ?_⟩
                clear hK
                replace kP := kP.drew.below' hb4
                replace hb := (Below.drew hb).trans (hb4.mono hb.size)
                clear hb4 kQ q1 c2 c3 hbl hc1
                have HDB := Lib.hid (beyondM_bd rm cv hm')
                generalize beyondM rm cv = d at *
                refine draw_eff (i := 7) rfl (by kernel_rfl) (listed' := #[true, true, true, true, true, true, true, true, false]) rfl (fun K hK => ?_)
                replace hK := Lib.hid hK
                go_wp2_with fail
                refine hK.out _ _ ⟨fun _ => (Below.refl _ _).alloc (Nat.le_refl _) _, ?_⟩
                clear hK
                refine draw_eff (i := 8) rfl (by kernel_rfl) (listed' := #[true, true, true, true, true, true, true, true, true]) rfl (fun K hK => ?_)
                replace hK := Lib.hid hK
                go_wp2_with fail
                refine hK.out _ _ ⟨fun h => absurd (by decide) h, ?_⟩
                clear hK
                refine draw_done (by kernel_rfl) ?_ _
                have kD := Blk.new w4 30 #[.int .u32 rs, .int .u16 d]
                have hbA := (Below.refl w4.heap.size w4).alloc (Nat.le_refl _) (.cells #[.int .u32 rs, .int .u16 d] 30)
                replace kP := kP.below' hbA
                replace hb := hb.trans (hbA.mono hb.size)
                clear hbA
                generalize w4.alloc (.cells #[.int .u32 rs, .int .u16 d] 30) = W4 at *
                generalize w4.heap.size = qd at *
                have d1 := kD.lt
                have d0 := kD.cell 1
                simp only [List.getElem?_toArray, List.getElem?_cons_zero, List.getElem?_cons_succ] at d0
                have HW := Lib.hid (show wrap64 d = d by have := HDB.out; unfold wrap64; omega)
                by_cases h5 : d < 65535
                · by_cases hb0 : b1 < 0
                  · rw [if_pos ⟨h5, .inl hb0⟩] at HN
                    have h5' : decide (d < 65535) = true := decide_eq_true h5
                    have hb0' : decide (b1 < 0) = true := decide_eq_true hb0
                    go_wp2
                    go_roundw
                    case rel => exact ⟨k + 1, by omega, by go_num, by rw [HN.out], by rw [HN.out, HW.out], kP, hb⟩
                    case measure => simp [intOf]; omega
                  · have h5' : decide (d < 65535) = true := decide_eq_true h5
                    have hb0' : decide (b1 < 0) = false := decide_eq_false hb0
                    by_cases hd2 : d < b2
                    · rw [if_pos ⟨h5, .inr hd2⟩] at HN
                      have hd2' : decide (wrap64 d < b2) = true := by rw [HW.out]; exact decide_eq_true hd2
                      go_wp2
                      go_roundw
                      case rel => exact ⟨k + 1, by omega, by go_num, by rw [HN.out], by rw [HN.out, HW.out], kP, hb⟩
                      case measure => simp [intOf]; omega
                    · rw [if_neg (by omega)] at HN
                      have hd2' : decide (wrap64 d < b2) = false := by rw [HW.out]; exact decide_eq_false hd2
                      go_wp2
                      go_roundw
                      case rel => exact ⟨k + 1, by omega, by go_num, by rw [HN.out], by rw [HN.out], kP, hb⟩
                      case measure => simp [intOf]; omega
                · rw [if_neg (by omega)] at HN
                  have h5' : decide (d < 65535) = false := decide_eq_false h5
                  go_wp2
                  go_roundw
                  case rel => exact ⟨k + 1, by omega, by go_num, by rw [HN.out], by rw [HN.out], kP, hb⟩
                  case measure => simp [intOf]; omega
              · skip
                go_wp2_with fail
                refine hK.out _ _ ⟨fun _ => (Below.refl _ _).alloc (Nat.le_refl _) _, ?_⟩
                clear hK
                refine draw_eff (i := 6) rfl (by kernel_rfl) (listed' := #[true, true, true, true, true, true, true, true, false]) rfl (fun K hK => ?_)
                replace hK := Lib.hid hK
                go_wp2_with fail
                refine (law03_Beyond rs rm cv _ hm').mono ?_
                rintro e w4 ⟨rfl, hb4⟩
                go_wp2_with fail
                refine hK.out _ _ ⟨fun _ => hb4, ?_⟩
                clear hK
                have kD0 := Blk.new W 30 #[.int .u32 0, .int .u16 0]
                have hbA := (Below.refl W.heap.size W).alloc (Nat.le_refl _) (.cells #[.int .u32 0, .int .u16 0] 30)
                have hws := hb.size
                replace kP := ((kP.below' hbA).drew).below' hb4
                replace hb := (Below.drew (hb.trans (hbA.mono hb.size))).trans (hb4.mono (by have := hbA.size; simp; omega))
                have kD1 := (kD0.drew).below' hb4
                have hne := kP.nE kD1 (by decide)
                clear hbA hb4 kD0 kQ q1 c2 c3 hbl hc1
                have HDB := Lib.hid (beyondM_bd rm cv hm')
                generalize beyondM rm cv = d at *
                have f1 := kD1.lt
                have f2 := kD1.cell 0
                have f3 := kD1.cell 1
                have f4 := kD1.frozen 0
                have f5 := kD1.frozen 1
                simp only [List.getElem?_toArray, List.getElem?_cons_zero, List.getElem?_cons_succ] at f2 f3
                refine draw_eff (i := 8) rfl (by kernel_rfl) (listed' := #[true, true, true, true, true, true, true, true, true]) rfl (fun K hK => ?_)
                replace hK := Lib.hid hK
                go_wp2_with fail
                refine hK.out _ _ ⟨fun h => absurd (by decide) h, ?_⟩
                clear hK
                refine draw_done (by kernel_rfl) ?_ _
                have kD : Blk ((w4.setCell ⟨W.heap.size, 0, none⟩ (.int .u32 rs)).setCell ⟨W.heap.size, 1, none⟩ (.int .u16 d)) W.heap.size 30 #[.int .u32 rs, .int .u16 d] := by
                  have := (kD1.set 0 (.int .u32 rs)).set 1 (.int .u16 d)
                  simpa using this
                replace kP := (kP.other (a := ⟨W.heap.size, 0, none⟩) hne (.int .u32 rs)).other (a := ⟨W.heap.size, 1, none⟩) hne (.int .u16 d)
                replace hb := (hb.setCell (p := ⟨W.heap.size, 0, none⟩) hws (.int .u32 rs)).setCell (p := ⟨W.heap.size, 1, none⟩) hws (.int .u16 d)
                clear kD1 f1 f2 f3 f4 f5
                generalize (w4.setCell ⟨W.heap.size, 0, none⟩ (.int .u32 rs)).setCell ⟨W.heap.size, 1, none⟩ (.int .u16 d) = W4 at *
                generalize W.heap.size = qd at *
                have d1 := kD.lt
                have d0 := kD.cell 1
                simp only [List.getElem?_toArray, List.getElem?_cons_zero, List.getElem?_cons_succ] at d0
                have HW := Lib.hid (show wrap64 d = d by have := HDB.out; unfold wrap64; omega)
                by_cases h5 : d < 65535
                · by_cases hb0 : b1 < 0
                  · rw [if_pos ⟨h5, .inl hb0⟩] at HN
                    have h5' : decide (d < 65535) = true := decide_eq_true h5
                    have hb0' : decide (b1 < 0) = true := decide_eq_true hb0
                    go_wp2
                    go_roundw
                    case rel => exact ⟨k + 1, by omega, by go_num, by rw [HN.out], by rw [HN.out, HW.out], kP, hb⟩
                    case measure => simp [intOf]; omega
                  · have h5' : decide (d < 65535) = true := decide_eq_true h5
                    have hb0' : decide (b1 < 0) = false := decide_eq_false hb0
                    by_cases hd2 : d < b2
                    · rw [if_pos ⟨h5, .inr hd2⟩] at HN
                      have hd2' : decide (wrap64 d < b2) = true := by rw [HW.out]; exact decide_eq_true hd2
                      go_wp2
                      go_roundw
                      case rel => exact ⟨k + 1, by omega, by go_num, by rw [HN.out], by rw [HN.out, HW.out], kP, hb⟩
                      case measure => simp [intOf]; omega
                    · rw [if_neg (by omega)] at HN
                      have hd2' : decide (wrap64 d < b2) = false := by rw [HW.out]; exact decide_eq_false hd2
                      go_wp2
                      go_roundw
                      case rel => exact ⟨k + 1, by omega, by go_num, by rw [HN.out], by rw [HN.out], kP, hb⟩
                      case measure => simp [intOf]; omega
                · rw [if_neg (by omega)] at HN
                  have h5' : decide (d < 65535) = false := decide_eq_false h5
                  go_wp2
                  go_roundw
                  case rel => exact ⟨k + 1, by omega, by go_num, by rw [HN.out], by rw [HN.out], kP, hb⟩
                  case measure => simp [intOf]; omega
    · obtain rfl : k = 9 := by omega
      go_wp2
      go_ret
      exact ⟨rfl, hb⟩
end Go.Proofs.Ytnfaeafplaeehaa
