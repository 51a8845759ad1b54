import Derived.Test.YtnfaeafplaeehaaGreatRecSector
set_option linter.unusedVariables false
set_option linter.unusedSimpArgs false
namespace Go.Proofs.YtnfaeafplaeehaaGreat
open Go.RowKit
attribute [-go_sem] Go.run_equalIn_agg

theorem rec_Sector_no (r : Rec) (w : World) (ho : r.ok) (h : recRightB r = false) : Calls Tryz.prog 45 #[r.val] w fun e w' => e = .returned (.slice none 0 0) ∧ Below w.heap.size w w' := by
  obtain ⟨kind, gen, lsn, rid, a, l, on, rs, rm⟩ := r
  have kR := Blk.new w 41 (Rec.arr ⟨kind, gen, lsn, rid, a, l, on, rs, rm⟩)
  have hb : Below w.heap.size w (w.alloc (.cells (Rec.arr ⟨kind, gen, lsn, rid, a, l, on, rs, rm⟩) 41)) := (Below.refl _ _).alloc (Nat.le_refl _) _
  simp only [Rec.arr, Rec.val] at kR hb ⊢
  go_enter Tryz.func45, Tryz.ntmps45
  go_wp2_with fail
  refine (rec_Right ⟨kind, gen, lsn, rid, a, l, on, rs, rm⟩ _ ho).mono ?_
  rintro e w1 ⟨rfl, hb1⟩
  rw [h]
  replace hb := below_step hb hb.size hb1
  replace kR := kR.below' hb1
  clear hb1
  go_wp2
  go_ret
  exact ⟨rfl, hb⟩
set_option maxHeartbeats 1000000 in
theorem rec_Sector_yes (r : Rec) (w : World) (ho : r.ok) (h : recRightB r = true) : Calls Tryz.prog 45 #[r.val] w
    fun e w' => Below w.heap.size w w' ∧ ∃ g, w.heap.size ≤ g ∧ e = .returned (.slice (some ⟨g, 0, none⟩) 48 48) ∧ Bts w' g 5 (sector r) := by
  have hbd := right_bd r h
  have hby := head44_byte r ho h
  have hmk := make48
  obtain ⟨kind, gen, lsn, rid, a, l, on, rs, rm⟩ := r
  have kR := Blk.new w 41 (Rec.arr ⟨kind, gen, lsn, rid, a, l, on, rs, rm⟩)
  have hb : Below w.heap.size w (w.alloc (.cells (Rec.arr ⟨kind, gen, lsn, rid, a, l, on, rs, rm⟩) 41)) := (Below.refl _ _).alloc (Nat.le_refl _) _
  simp only [Rec.arr, Rec.val] at kR hb ⊢
  go_enter Tryz.func45, Tryz.ntmps45
  go_wp2_with fail
  refine (rec_Right ⟨kind, gen, lsn, rid, a, l, on, rs, rm⟩ _ ho).mono ?_
  rintro e w1 ⟨rfl, hb1⟩
  rw [h]
  replace hb := below_step hb hb.size hb1
  replace kR := kR.below' hb1
  clear hb1
  obtain ⟨-, ⟨hg0, hg1⟩, ⟨hl0, hl1⟩, ⟨hi0, hi1⟩, ⟨ha0, ha1⟩, -, ⟨hs0, hs1⟩, hm0, hm1⟩ := ho
  obtain ⟨⟨hk0, hk1⟩, hp0, hp1⟩ := hbd
  simp only at hg0 hg1 hl0 hl1 hi0 hi1 ha0 ha1 hs0 hs1 hm0 hm1 hk0 hk1 hp0 hp1
  have hlr := kR.lt
  have hfin : Hid (sector ⟨kind, gen, lsn, rid, a, l, on, rs, rm⟩ = put4 (put4 (secN ⟨kind, gen, lsn, rid, a, l, on, rs, rm⟩ 4) 24 rs) 44 (crc (head44 ⟨kind, gen, lsn, rid, a, l, on, rs, rm⟩))) := by rw [secN_end]; rfl
  go_wp2_with fail
  have hB : Bts (w1.alloc (.cells (u8s (zerosN 48)).toArray 5)) w1.heap.size 5 (zerosN 48) := Blk.new _ _ _
  have hge : w.heap.size ≤ w1.heap.size := hb.size
  replace kR := kR.alloc (.cells (u8s (zerosN 48)).toArray 5)
  replace hb := hb.alloc hb.size (.cells (u8s (zerosN 48)).toArray 5)
  have hlg := Blk.lt hB
  generalize w1.alloc (.cells (u8s (zerosN 48)).toArray 5) = W at *
  generalize w1.heap.size = g at *
  clear hmk
  have r0 := kR.cell 0
  have r1 := kR.cell 1
  have r2 := kR.cell 2
  have r3 := kR.cell 3
  have r4 := kR.cell 4
  have r5 := kR.cell 5
  have r6 := kR.cell 6
  have r7 := kR.cell 7
  have r8 := kR.cell 8
  simp only [List.getElem?_toArray, List.getElem?_cons_zero, List.getElem?_cons_succ] at r0 r1 r2 r3 r4 r5 r6 r7 r8
  have z0 := Blk.frozen hB 0
  have z1 := Blk.frozen hB 1
  have z2 := Blk.frozen hB 2
  have z3 := Blk.frozen hB 3
  have z20 := Blk.frozen hB 20
  have c0 := Bts.cell hB 0 (by simp [zerosN])
  have c1 := Bts.cell hB 1 (by simp [zerosN])
  have c2 := Bts.cell hB 2 (by simp [zerosN])
  have c3 := Bts.cell hB 3 (by simp [zerosN])
  have c20 := Bts.cell hB 20 (by simp [zerosN])
  simp only [zerosN, List.getElem_replicate] at c0 c1 c2 c3 c20
  refine draw_start [] (Below g) (by kernel_rfl) ?_
  refine draw_chunk (n := 75) (by kernel_rfl) (fun _ _ _ _ _ h => h) [0, 1, 2, 3, 4, 5, 6, 7, 8, 9, 10, 11, 12, 13, 14, 15, 16, 17, 18, 19, 20] [] _ #[true, true, true, true, true, true, true, true, true, true, true, true, true, true, true, true, true, true, true, true, true, false, false, false, false, false, false, false] (by kernel_rfl) 7 _ ?_ _ rfl ?_ ?_
  rotate_left
  · intro w' hw'
    have hc' : ∀ b o, b < g → w'.cell? ⟨b, o, none⟩ = W.cell? ⟨b, o, none⟩ := fun b o h => hw'.cell (p := ⟨b, o, none⟩) h
    iterate 21
      refine ci_step (v := ?_) rfl (by kernel_rfl) ?_ ?_
      rotate_left
      · first | (go_simp; done) | (go_simp; with_reducible rfl)
      try simp only [Act.put, List.setIfInBounds_toArray, List.set_cons_zero, List.set_cons_succ]
    refine ci_end ?_
    rfl
  refine draw_eff (i := 21) rfl (by kernel_rfl) (listed' := #[true, true, true, true, true, true, true, true, true, true, true, true, true, true, true, true, true, true, true, true, true, true, false, false, false, false, false, false]) rfl (fun K hK => ?_)
  replace hK := Lib.hid hK
  go_wp2_with fail
  refine hK.out _ _ ⟨fun _ => ?_, ?_⟩
  · exact below_dd ((Below.refl g _).setCell (p := ⟨g, _, none⟩) (Nat.le_refl g) _)
  clear hK
  refine draw_chunk (n := 75) (by kernel_rfl) (fun _ _ _ _ _ h => h) [22] [] _ #[true, true, true, true, true, true, true, true, true, true, true, true, true, true, true, true, true, true, true, true, true, true, true, false, false, false, false, false] (by kernel_rfl) 5 _ ?_ _ rfl ?_ ?_
  rotate_left
  · intro w' hw'
    have hc' : ∀ b o, b < g → w'.cell? ⟨b, o, none⟩ = (_ : World).cell? ⟨b, o, none⟩ := fun b o h => hw'.cell (p := ⟨b, o, none⟩) h
    refine ci_step (i := 22) (v := ?_) rfl (by kernel_rfl) ?_ ?_
    rotate_left
    · first | (go_simp; done) | (go_simp; with_reducible rfl)
    skip
    try simp only [Act.put, List.setIfInBounds_toArray, List.set_cons_zero, List.set_cons_succ]
    refine ci_end ?_
    rfl
  refine draw_eff (i := 23) rfl (by kernel_rfl) (listed' := #[true, true, true, true, true, true, true, true, true, true, true, true, true, true, true, true, true, true, true, true, true, true, true, true, false, false, false, false]) rfl (fun K hK => ?_)
  replace hK := Lib.hid hK
  go_wp2_with fail
  refine hK.out _ _ ⟨fun _ => ?_, ?_⟩
  · exact below_dd ((Below.refl g _).setCell (p := ⟨g, _, none⟩) (Nat.le_refl g) _)
  clear hK
  refine draw_chunk (n := 75) (by kernel_rfl) (fun _ _ _ _ _ h => h) [24] [] _ #[true, true, true, true, true, true, true, true, true, true, true, true, true, true, true, true, true, true, true, true, true, true, true, true, true, false, false, false] (by kernel_rfl) 3 _ ?_ _ rfl ?_ ?_
  rotate_left
  · intro w' hw'
    have hc' : ∀ b o, b < g → w'.cell? ⟨b, o, none⟩ = (_ : World).cell? ⟨b, o, none⟩ := fun b o h => hw'.cell (p := ⟨b, o, none⟩) h
    refine ci_step (i := 24) (v := ?_) rfl (by kernel_rfl) ?_ ?_
    rotate_left
    · first | (go_simp; done) | (go_simp; with_reducible rfl)
    skip
    try simp only [Act.put, List.setIfInBounds_toArray, List.set_cons_zero, List.set_cons_succ]
    refine ci_end ?_
    rfl
  refine draw_eff (i := 25) rfl (by kernel_rfl) (listed' := #[true, true, true, true, true, true, true, true, true, true, true, true, true, true, true, true, true, true, true, true, true, true, true, true, true, true, false, false]) rfl (fun K hK => ?_)
  replace hK := Lib.hid hK
  go_wp2_with fail
  refine hK.out _ _ ⟨fun _ => ?_, ?_⟩
  · exact below_dd ((Below.refl g _).setCell (p := ⟨g, _, none⟩) (Nat.le_refl g) _)
  clear hK
  refine draw_chunk (n := 75) (by kernel_rfl) (fun _ _ _ _ _ h => h) [26] [] _ #[true, true, true, true, true, true, true, true, true, true, true, true, true, true, true, true, true, true, true, true, true, true, true, true, true, true, true, false] (by kernel_rfl) 1 _ ?_ _ rfl ?_ ?_
  rotate_left
  · intro w' hw'
    have hc' : ∀ b o, b < g → w'.cell? ⟨b, o, none⟩ = (_ : World).cell? ⟨b, o, none⟩ := fun b o h => hw'.cell (p := ⟨b, o, none⟩) h
    refine ci_step (i := 26) (v := ?_) rfl (by kernel_rfl) ?_ ?_
    rotate_left
    · first | (go_simp; done) | (go_simp; with_reducible rfl)
    skip
    try simp only [Act.put, List.setIfInBounds_toArray, List.set_cons_zero, List.set_cons_succ]
    refine ci_end ?_
    rfl
  refine draw_eff (i := 27) rfl (by kernel_rfl) (listed' := #[true, true, true, true, true, true, true, true, true, true, true, true, true, true, true, true, true, true, true, true, true, true, true, true, true, true, true, true]) rfl (fun K hK => ?_)
  replace hK := Lib.hid hK
  go_wp2_with fail
  refine hK.out _ _ ⟨fun _ => ?_, ?_⟩
  · exact below_dd ((Below.refl g _).setCell (p := ⟨g, _, none⟩) (Nat.le_refl g) _)
  clear hK
  refine draw_done (by kernel_rfl) ?_ _
  have hne : w.heap.size ≠ g := by omega
  have hB1 : Bts ((((W.setCell ⟨g, 0, none⟩ (.int .u8 kind)).setCell ⟨g, 2, none⟩ (.int .u8 (rm / 256))).setCell ⟨g, 3, none⟩ (.int .u8 (rm % 256))).setCell ⟨g, 20, none⟩ (.int .u8 l)) g 5 _ := (((hB.set 0 kind).set 2 (rm / 256)).set 3 (rm % 256)).set 20 l
  have kR1 : Blk ((((W.setCell ⟨g, 0, none⟩ (.int .u8 kind)).setCell ⟨g, 2, none⟩ (.int .u8 (rm / 256))).setCell ⟨g, 3, none⟩ (.int .u8 (rm % 256))).setCell ⟨g, 20, none⟩ (.int .u8 l)) w.heap.size 41 _ := (((kR.other (a := ⟨g, 0, none⟩) hne _).other (a := ⟨g, 2, none⟩) hne _).other (a := ⟨g, 3, none⟩) hne _).other (a := ⟨g, 20, none⟩) hne _
  have hb1 : Below w.heap.size w ((((W.setCell ⟨g, 0, none⟩ (.int .u8 kind)).setCell ⟨g, 2, none⟩ (.int .u8 (rm / 256))).setCell ⟨g, 3, none⟩ (.int .u8 (rm % 256))).setCell ⟨g, 20, none⟩ (.int .u8 l)) := (((hb.setCell (p := ⟨g, 0, none⟩) hge _).setCell (p := ⟨g, 2, none⟩) hge _).setCell (p := ⟨g, 3, none⟩) hge _).setCell (p := ⟨g, 20, none⟩) hge _
  clear hB kR hb z0 z1 z2 z3 z20 c0 c1 c2 c3 c20 r0 r1 r2 r3 r4 r5 r6 r7 r8
  generalize (((W.setCell ⟨g, 0, none⟩ (.int .u8 kind)).setCell ⟨g, 2, none⟩ (.int .u8 (rm / 256))).setCell ⟨g, 3, none⟩ (.int .u8 (rm % 256))).setCell ⟨g, 20, none⟩ (.int .u8 l) = V at hB1 kR1 hb1 ⊢
  have hlv := Blk.lt hB1
  have hlk := Blk.lt kR1
  cases on with
  | false =>
    have hsec : Hid (secN ⟨kind, gen, lsn, rid, a, l, false, rs, rm⟩ 0 = ((((zerosN 48).set 0 kind).set 2 (rm / 256)).set 3 (rm % 256)).set 20 l) := by
      unfold Hid
      simp [secN, zerosN, List.replicate, onI]
    rw [← hsec.out] at hB1
    have r0 := kR1.cell 0
    have r1 := kR1.cell 1
    have r2 := kR1.cell 2
    have r3 := kR1.cell 3
    have r4 := kR1.cell 4
    have r5 := kR1.cell 5
    have r6 := kR1.cell 6
    have r7 := kR1.cell 7
    have r8 := kR1.cell 8
    simp only [List.getElem?_toArray, List.getElem?_cons_zero, List.getElem?_cons_succ] at r0 r1 r2 r3 r4 r5 r6 r7 r8
    go_wp2_with fail
    have hVs : (V).heap.size = V.heap.size := by first | rfl | simp
    have kU := (Blk.new V 31 #[.int .u32 gen, .int .u32 lsn, .int .u32 rid, .int .u32 a]).drew
    rw [hVs] at kU
    have hb7 := Below.drew ((Below.refl (V).heap.size V).alloc (Nat.le_refl _) (.cells #[.int .u32 gen, .int .u32 lsn, .int .u32 rid, .int .u32 a] 31))
    replace hB1 : Bts _ g 5 _ := Blk.below' hB1 hb7
    replace kR1 := kR1.below' hb7
    replace hb1 := below_step hb1 hb1.size hb7
    clear hb7 r0 r1 r2 r3 r4 r5 r6 r7 r8
    generalize hW2 : (World.alloc V (.cells #[.int .u32 gen, .int .u32 lsn, .int .u32 rid, .int .u32 a] 31)).drew = V2 at kU hB1 kR1 hb1 ⊢
    clear hW2 hVs
    generalize V.heap.size = q at kU hlv hlk ⊢
    go_loopw [49] (fun i wr => ∃ k : Nat, k ≤ 4 ∧ i = .int .i64 k ∧ Bts wr g 5 (secN ⟨kind, gen, lsn, rid, a, l, false, rs, rm⟩ k) ∧ Blk wr q 31 #[.int .u32 gen, .int .u32 lsn, .int .u32 rid, .int .u32 a] ∧ Blk wr w.heap.size 41 (Rec.arr ⟨kind, gen, lsn, rid, a, l, false, rs, rm⟩) ∧ Below w.heap.size w wr) (fun i _ => 4 - (intOf i).toNat)
    case atStart => exact ⟨0, by omega, rfl, hB1, kU, kR1, hb1⟩
    case round =>
      clear hB1 kU kR1 hb1
      clear hsec h
      obtain ⟨k, hk, rfl, hB1, kU, kR1, hb1⟩ := hrel
      have hlu := kU.lt
      have u0 := kU.cell 0
      have u1 := kU.cell 1
      have u2 := kU.cell 2
      have u3 := kU.cell 3
      simp only [List.getElem?_toArray, List.getElem?_cons_zero, List.getElem?_cons_succ] at u0 u1 u2 u3
      rcases (show k = 0 ∨ k = 1 ∨ k = 2 ∨ k = 3 ∨ k = 4 by omega) with rfl | rfl | rfl | rfl | rfl
      · skip
        go_wp2_with fail
        refine (rec_put g 4 _ _ 5 _ _ _ (by omega) (by omega) (by omega) ⟨hg0, hg1⟩ hB1 (by rw [secN_len]; omega)).mono ?_
        rintro e w2 ⟨rfl, hB2, hk1⟩
        replace kU := hk1.blk kU (by simp; omega)
        replace kR1 := hk1.blk kR1 (by simp; omega)
        replace hb1 := hk1.below hb1 hb1.size (by simp; omega)
        go_wp2
        go_roundw
        case rel => exact ⟨1, by omega, by go_num, hB2, kU, kR1, hb1⟩
        case measure => simp [intOf]
      · skip
        go_wp2_with fail
        refine (rec_put g 8 _ _ 5 _ _ _ (by omega) (by omega) (by omega) ⟨hl0, hl1⟩ hB1 (by rw [secN_len]; omega)).mono ?_
        rintro e w2 ⟨rfl, hB2, hk1⟩
        replace kU := hk1.blk kU (by simp; omega)
        replace kR1 := hk1.blk kR1 (by simp; omega)
        replace hb1 := hk1.below hb1 hb1.size (by simp; omega)
        go_wp2
        go_roundw
        case rel => exact ⟨2, by omega, by go_num, hB2, kU, kR1, hb1⟩
        case measure => simp [intOf]
      · skip
        go_wp2_with fail
        refine (rec_put g 12 _ _ 5 _ _ _ (by omega) (by omega) (by omega) ⟨hi0, hi1⟩ hB1 (by rw [secN_len]; omega)).mono ?_
        rintro e w2 ⟨rfl, hB2, hk1⟩
        replace kU := hk1.blk kU (by simp; omega)
        replace kR1 := hk1.blk kR1 (by simp; omega)
        replace hb1 := hk1.below hb1 hb1.size (by simp; omega)
        go_wp2
        go_roundw
        case rel => exact ⟨3, by omega, by go_num, hB2, kU, kR1, hb1⟩
        case measure => simp [intOf]
      · skip
        go_wp2_with fail
        refine (rec_put g 16 _ _ 5 _ _ _ (by omega) (by omega) (by omega) ⟨ha0, ha1⟩ hB1 (by rw [secN_len]; omega)).mono ?_
        rintro e w2 ⟨rfl, hB2, hk1⟩
        replace kU := hk1.blk kU (by simp; omega)
        replace kR1 := hk1.blk kR1 (by simp; omega)
        replace hb1 := hk1.below hb1 hb1.size (by simp; omega)
        go_wp2
        go_roundw
        case rel => exact ⟨4, by omega, by go_num, hB2, kU, kR1, hb1⟩
        case measure => simp [intOf]
      · skip
        simp only [Rec.arr] at kR1
        have hlr2 := kR1.lt
        have r0 := kR1.cell 0
        have r1 := kR1.cell 1
        have r2 := kR1.cell 2
        have r3 := kR1.cell 3
        have r4 := kR1.cell 4
        have r5 := kR1.cell 5
        have r6 := kR1.cell 6
        have r7 := kR1.cell 7
        have r8 := kR1.cell 8
        simp only [List.getElem?_toArray, List.getElem?_cons_zero, List.getElem?_cons_succ] at r0 r1 r2 r3 r4 r5 r6 r7 r8
        go_wp2_with fail
        refine draw_start [5] Later (by kernel_rfl) ?_
        refine draw_chunk (n := 75) (by kernel_rfl) (fun _ _ _ _ _ h => h) [0, 1, 2, 3, 4] [] _ #[true, true, true, true, true, false] (by kernel_rfl) 1 _ ?_ _ rfl ?_ ?_
        rotate_left
        · intro w' hw'
          have hc' : ∀ b o, b < wr.heap.size → w'.cell? ⟨b, o, none⟩ = wr.cell? ⟨b, o, none⟩ := (bcell hw').1
          iterate 5
            refine ci_step (v := ?_) rfl (by kernel_rfl) ?_ ?_
            rotate_left
            · first | (go_simp; done) | (go_simp; with_reducible rfl)
            try simp only [Act.put, List.setIfInBounds_toArray, List.set_cons_zero, List.set_cons_succ]
          refine ci_end ?_
          rfl
        refine draw_eff (i := 5) rfl (by kernel_rfl) (listed' := #[true, true, true, true, true, true]) rfl (fun K hK => ?_)
        replace hK := Lib.hid hK
        go_wp2_with fail
        refine (rec_put g 24 _ _ 5 _ _ _ (by omega) (by omega) (by omega) ⟨hs0, hs1⟩ hB1.drew (by rw [secN_len]; omega)).mono ?_
        rintro e w2 ⟨rfl, hB2, hk1⟩
        go_wp2_with fail
        refine hK.out _ _ ⟨fun h => absurd (by decide) h, ?_⟩
        clear hK
        refine draw_done (by kernel_rfl) ?_ _
        replace hb1 := hk1.below (Below.drew hb1) hb1.size (by simp; omega)
        clear hB1 kU kR1 hk1
        go_wp2_with fail
        refine draw_start [5] Later (by kernel_rfl) ?_
        refine draw_chunk (n := 75) (by kernel_rfl) (fun _ _ _ _ _ h => h) [0, 1, 2, 3] [] _ #[true, true, true, true, false, false] (by kernel_rfl) 2 _ ?_ _ rfl ?_ ?_
        rotate_left
        · intro w' hw'
          have hc' : ∀ b o, b < w2.heap.size → w'.cell? ⟨b, o, none⟩ = w2.cell? ⟨b, o, none⟩ := (bcell hw').1
          iterate 4
            refine ci_step (v := ?_) rfl (by kernel_rfl) ?_ ?_
            rotate_left
            · first | (go_simp; done) | (go_simp; with_reducible rfl)
            try simp only [Act.put, List.setIfInBounds_toArray, List.set_cons_zero, List.set_cons_succ]
          refine ci_end ?_
          rfl
        refine draw_eff (i := 4) rfl (by kernel_rfl) (listed' := #[true, true, true, true, true, false]) rfl (fun K hK => ?_)
        replace hK := Lib.hid hK
        go_wp2_with fail
        have hS := sum_Of (head44 ⟨kind, gen, lsn, rid, a, l, false, rs, rm⟩) (some ⟨g, 0, none⟩) 48 w2.drew (by
          have := Bts.cut hB2.drew 0 44 (by simp [put4, secN_len]) (by simp [put4, secN_len])
          rw [secN_cut] at this
          exact this) hby
        rw [show (head44 ⟨kind, gen, lsn, rid, a, l, false, rs, rm⟩).length = 44 from rfl] at hS
        refine hS.mono ?_
        clear hS
        rintro e w3 ⟨rfl, rfl⟩
        go_wp2_with fail
        refine hK.out _ _ ⟨fun _ => Later.refl _, ?_⟩
        clear hK
        refine draw_eff (i := 5) rfl (by kernel_rfl) (listed' := #[true, true, true, true, true, true]) rfl (fun K hK => ?_)
        replace hK := Lib.hid hK
        go_wp2_with fail
        refine (rec_put g 44 _ _ 5 _ _ _ (by omega) (by omega) (by omega) (crc_lt _ hby) hB2.drew (by simp [put4, secN_len])).mono ?_
        rintro e w3 ⟨rfl, hB3, hk1⟩
        go_wp2_with fail
        refine hK.out _ _ ⟨fun h => absurd (by decide) h, ?_⟩
        clear hK
        refine draw_done (by kernel_rfl) ?_ _
        replace hb1 := hk1.below (Below.drew hb1) hb1.size (by simp; omega)
        go_wp2
        go_ret
        exact ⟨hb1, g, hge, rfl, by rw [hfin.out]; exact hB3⟩
  | true =>
    have z1 := Blk.frozen hB1 1
    have c1 := Bts.cell hB1 1 (by simp [zerosN])
    have hB4 : Bts (V.setCell ⟨g, 1, none⟩ (.int .u8 1)) g 5 _ := hB1.set 1 1
    have kR4 := kR1.other (a := ⟨g, 1, none⟩) hne (.int .u8 1)
    have hb4 := hb1.setCell (p := ⟨g, 1, none⟩) hge (.int .u8 1)
    have hsec : Hid (secN ⟨kind, gen, lsn, rid, a, l, true, rs, rm⟩ 0 = (((((zerosN 48).set 0 kind).set 2 (rm / 256)).set 3 (rm % 256)).set 20 l).set 1 1) := rfl
    have r0 := kR1.cell 0
    have r1 := kR1.cell 1
    have r2 := kR1.cell 2
    have r3 := kR1.cell 3
    have r4 := kR1.cell 4
    have r5 := kR1.cell 5
    have r6 := kR1.cell 6
    have r7 := kR1.cell 7
    have r8 := kR1.cell 8
    simp only [List.getElem?_toArray, List.getElem?_cons_zero, List.getElem?_cons_succ] at r0 r1 r2 r3 r4 r5 r6 r7 r8
    go_wp2_with fail
    clear z1 c1 hB1 kR1 hb1
    have hB1 := hB4
    have kR1 := kR4
    have hb1 := hb4
    clear hB4 kR4 hb4
    rw [← hsec.out] at hB1
    have hVs : ((V.setCell ⟨g, 1, none⟩ (.int .u8 1))).heap.size = V.heap.size := by first | rfl | simp
    have kU := (Blk.new (V.setCell ⟨g, 1, none⟩ (.int .u8 1)) 31 #[.int .u32 gen, .int .u32 lsn, .int .u32 rid, .int .u32 a]).drew
    rw [hVs] at kU
    have hb7 := Below.drew ((Below.refl ((V.setCell ⟨g, 1, none⟩ (.int .u8 1))).heap.size (V.setCell ⟨g, 1, none⟩ (.int .u8 1))).alloc (Nat.le_refl _) (.cells #[.int .u32 gen, .int .u32 lsn, .int .u32 rid, .int .u32 a] 31))
    replace hB1 : Bts _ g 5 _ := Blk.below' hB1 hb7
    replace kR1 := kR1.below' hb7
    replace hb1 := below_step hb1 hb1.size hb7
    clear hb7 r0 r1 r2 r3 r4 r5 r6 r7 r8
    generalize hW2 : (World.alloc (V.setCell ⟨g, 1, none⟩ (.int .u8 1)) (.cells #[.int .u32 gen, .int .u32 lsn, .int .u32 rid, .int .u32 a] 31)).drew = V2 at kU hB1 kR1 hb1 ⊢
    clear hW2 hVs
    generalize V.heap.size = q at kU hlv hlk ⊢
    go_loopw [49] (fun i wr => ∃ k : Nat, k ≤ 4 ∧ i = .int .i64 k ∧ Bts wr g 5 (secN ⟨kind, gen, lsn, rid, a, l, true, rs, rm⟩ k) ∧ Blk wr q 31 #[.int .u32 gen, .int .u32 lsn, .int .u32 rid, .int .u32 a] ∧ Blk wr w.heap.size 41 (Rec.arr ⟨kind, gen, lsn, rid, a, l, true, rs, rm⟩) ∧ Below w.heap.size w wr) (fun i _ => 4 - (intOf i).toNat)
    case atStart => exact ⟨0, by omega, rfl, hB1, kU, kR1, hb1⟩
    case round =>
      clear hB1 kU kR1 hb1
      clear hsec h
      obtain ⟨k, hk, rfl, hB1, kU, kR1, hb1⟩ := hrel
      have hlu := kU.lt
      have u0 := kU.cell 0
      have u1 := kU.cell 1
      have u2 := kU.cell 2
      have u3 := kU.cell 3
      simp only [List.getElem?_toArray, List.getElem?_cons_zero, List.getElem?_cons_succ] at u0 u1 u2 u3
      rcases (show k = 0 ∨ k = 1 ∨ k = 2 ∨ k = 3 ∨ k = 4 by omega) with rfl | rfl | rfl | rfl | rfl
      · skip
        go_wp2_with fail
        refine (rec_put g 4 _ _ 5 _ _ _ (by omega) (by omega) (by omega) ⟨hg0, hg1⟩ hB1 (by rw [secN_len]; omega)).mono ?_
        rintro e w2 ⟨rfl, hB2, hk1⟩
        replace kU := hk1.blk kU (by simp; omega)
        replace kR1 := hk1.blk kR1 (by simp; omega)
        replace hb1 := hk1.below hb1 hb1.size (by simp; omega)
        go_wp2
        go_roundw
        case rel => exact ⟨1, by omega, by go_num, hB2, kU, kR1, hb1⟩
        case measure => simp [intOf]
      · skip
        go_wp2_with fail
        refine (rec_put g 8 _ _ 5 _ _ _ (by omega) (by omega) (by omega) ⟨hl0, hl1⟩ hB1 (by rw [secN_len]; omega)).mono ?_
        rintro e w2 ⟨rfl, hB2, hk1⟩
        replace kU := hk1.blk kU (by simp; omega)
        replace kR1 := hk1.blk kR1 (by simp; omega)
        replace hb1 := hk1.below hb1 hb1.size (by simp; omega)
        go_wp2
        go_roundw
        case rel => exact ⟨2, by omega, by go_num, hB2, kU, kR1, hb1⟩
        case measure => simp [intOf]
      · skip
        go_wp2_with fail
        refine (rec_put g 12 _ _ 5 _ _ _ (by omega) (by omega) (by omega) ⟨hi0, hi1⟩ hB1 (by rw [secN_len]; omega)).mono ?_
        rintro e w2 ⟨rfl, hB2, hk1⟩
        replace kU := hk1.blk kU (by simp; omega)
        replace kR1 := hk1.blk kR1 (by simp; omega)
        replace hb1 := hk1.below hb1 hb1.size (by simp; omega)
        go_wp2
        go_roundw
        case rel => exact ⟨3, by omega, by go_num, hB2, kU, kR1, hb1⟩
        case measure => simp [intOf]
      · skip
        go_wp2_with fail
        refine (rec_put g 16 _ _ 5 _ _ _ (by omega) (by omega) (by omega) ⟨ha0, ha1⟩ hB1 (by rw [secN_len]; omega)).mono ?_
        rintro e w2 ⟨rfl, hB2, hk1⟩
        replace kU := hk1.blk kU (by simp; omega)
        replace kR1 := hk1.blk kR1 (by simp; omega)
        replace hb1 := hk1.below hb1 hb1.size (by simp; omega)
        go_wp2
        go_roundw
        case rel => exact ⟨4, by omega, by go_num, hB2, kU, kR1, hb1⟩
        case measure => simp [intOf]
      · skip
        simp only [Rec.arr] at kR1
        have hlr2 := kR1.lt
        have r0 := kR1.cell 0
        have r1 := kR1.cell 1
        have r2 := kR1.cell 2
        have r3 := kR1.cell 3
        have r4 := kR1.cell 4
        have r5 := kR1.cell 5
        have r6 := kR1.cell 6
        have r7 := kR1.cell 7
        have r8 := kR1.cell 8
        simp only [List.getElem?_toArray, List.getElem?_cons_zero, List.getElem?_cons_succ] at r0 r1 r2 r3 r4 r5 r6 r7 r8
        go_wp2_with fail
        refine draw_start [5] Later (by kernel_rfl) ?_
        refine draw_chunk (n := 75) (by kernel_rfl) (fun _ _ _ _ _ h => h) [0, 1, 2, 3, 4] [] _ #[true, true, true, true, true, false] (by kernel_rfl) 1 _ ?_ _ rfl ?_ ?_
        rotate_left
        · intro w' hw'
          have hc' : ∀ b o, b < wr.heap.size → w'.cell? ⟨b, o, none⟩ = wr.cell? ⟨b, o, none⟩ := (bcell hw').1
          iterate 5
            refine ci_step (v := ?_) rfl (by kernel_rfl) ?_ ?_
            rotate_left
            · first | (go_simp; done) | (go_simp; with_reducible rfl)
            try simp only [Act.put, List.setIfInBounds_toArray, List.set_cons_zero, List.set_cons_succ]
          refine ci_end ?_
          rfl
        refine draw_eff (i := 5) rfl (by kernel_rfl) (listed' := #[true, true, true, true, true, true]) rfl (fun K hK => ?_)
        replace hK := Lib.hid hK
        go_wp2_with fail
        refine (rec_put g 24 _ _ 5 _ _ _ (by omega) (by omega) (by omega) ⟨hs0, hs1⟩ hB1.drew (by rw [secN_len]; omega)).mono ?_
        rintro e w2 ⟨rfl, hB2, hk1⟩
        go_wp2_with fail
        refine hK.out _ _ ⟨fun h => absurd (by decide) h, ?_⟩
        clear hK
        refine draw_done (by kernel_rfl) ?_ _
        replace hb1 := hk1.below (Below.drew hb1) hb1.size (by simp; omega)
        clear hB1 kU kR1 hk1
        go_wp2_with fail
        refine draw_start [5] Later (by kernel_rfl) ?_
        refine draw_chunk (n := 75) (by kernel_rfl) (fun _ _ _ _ _ h => h) [0, 1, 2, 3] [] _ #[true, true, true, true, false, false] (by kernel_rfl) 2 _ ?_ _ rfl ?_ ?_
        rotate_left
        · intro w' hw'
          have hc' : ∀ b o, b < w2.heap.size → w'.cell? ⟨b, o, none⟩ = w2.cell? ⟨b, o, none⟩ := (bcell hw').1
          iterate 4
            refine ci_step (v := ?_) rfl (by kernel_rfl) ?_ ?_
            rotate_left
            · first | (go_simp; done) | (go_simp; with_reducible rfl)
            try simp only [Act.put, List.setIfInBounds_toArray, List.set_cons_zero, List.set_cons_succ]
          refine ci_end ?_
          rfl
        refine draw_eff (i := 4) rfl (by kernel_rfl) (listed' := #[true, true, true, true, true, false]) rfl (fun K hK => ?_)
        replace hK := Lib.hid hK
        go_wp2_with fail
        have hS := sum_Of (head44 ⟨kind, gen, lsn, rid, a, l, true, rs, rm⟩) (some ⟨g, 0, none⟩) 48 w2.drew (by
          have := Bts.cut hB2.drew 0 44 (by simp [put4, secN_len]) (by simp [put4, secN_len])
          rw [secN_cut] at this
          exact this) hby
        rw [show (head44 ⟨kind, gen, lsn, rid, a, l, true, rs, rm⟩).length = 44 from rfl] at hS
        refine hS.mono ?_
        clear hS
        rintro e w3 ⟨rfl, rfl⟩
        go_wp2_with fail
        refine hK.out _ _ ⟨fun _ => Later.refl _, ?_⟩
        clear hK
        refine draw_eff (i := 5) rfl (by kernel_rfl) (listed' := #[true, true, true, true, true, true]) rfl (fun K hK => ?_)
        replace hK := Lib.hid hK
        go_wp2_with fail
        refine (rec_put g 44 _ _ 5 _ _ _ (by omega) (by omega) (by omega) (crc_lt _ hby) hB2.drew (by simp [put4, secN_len])).mono ?_
        rintro e w3 ⟨rfl, hB3, hk1⟩
        go_wp2_with fail
        refine hK.out _ _ ⟨fun h => absurd (by decide) h, ?_⟩
        clear hK
        refine draw_done (by kernel_rfl) ?_ _
        replace hb1 := hk1.below (Below.drew hb1) hb1.size (by simp; omega)
        go_wp2
        go_ret
        exact ⟨hb1, g, hge, rfl, by rw [hfin.out]; exact hB3⟩
end Go.Proofs.YtnfaeafplaeehaaGreat
