import Derived.Test.YtnfaeafplaeehaaFew
import Derived.Test.YtnfaeafplaeehaaHead06
set_option linter.unusedVariables false
set_option linter.unusedSimpArgs false
namespace Go.Proofs.Ytnfaeafplaeehaa
open Go.RowKit

def St.run (σ : St) (l : List Rec) : St := l.foldl St.apply σ
theorem run_take (σ : St) (l : List Rec) (k : Nat) (h : k < l.length) : σ.run (l.take (k + 1)) = (σ.run (l.take k)).apply l[k] := by
  unfold St.run
  rw [List.take_succ_eq_append_getElem h, List.foldl_append]
  rfl
theorem feas_cov (fl : List (Key × Dst)) (k : Key) (d : Dst) (f : Dst) (h : getM fl k = some f) : feasB fl k d = (d.2 == 65535 || betterB d.1 d.2 f.1 f.2) ∧ coversB fl k d = (d.2 == 65535 || !betterB d.1 d.2 f.1 f.2) := by
  unfold feasB coversB
  rw [h]
  simp only [gtB_better, and_self]
theorem feas_cov0 (fl : List (Key × Dst)) (k : Key) (d : Dst) (h : getM fl k = none) : feasB fl k d = true ∧ coversB fl k d = (d.2 == 65535) := by
  unfold feasB coversB
  rw [h]
  simp

set_option maxHeartbeats 8000000 in
theorem StateAllows_all (l : List Rec) (A : Option Addr) (c : Nat) (k : Key) (d : Dst) (w : World) (hr : Row w 9 A l.length (recs l)) (ho : RecsOk l) :
    Calls Try.prog 3 #[.slice A l.length c, k.val, dstV d] w fun e w' => e = .returned (.bool true) ∧ Below w.heap.size w w' := by
  obtain ⟨a, ln, rid⟩ := k
  obtain ⟨ds, dm⟩ := d
  simp only [Key.val, dstV]
  have hn := hr.2.1
  cases hfew : fewB l with
  | false =>
    go_enter Try.func3, Try.ntmps3
    go_wp2_with fail
    have hbW : Below w.heap.size w ((w.alloc (.cells #[.int .u32 a, .int .i64 ln, .int .u32 rid] 27)).alloc (.cells #[.int .u32 ds, .int .u16 dm] 30)) := ((Below.refl _ _).alloc (Nat.le_refl _) _).alloc (by simp) _
    have kY := (Blk.new w 27 #[.int .u32 a, .int .i64 ln, .int .u32 rid]).alloc (.cells #[.int .u32 ds, .int .u16 dm] 30)
    have kD := Blk.new (w.alloc (.cells #[.int .u32 a, .int .i64 ln, .int .u32 rid] 27)) 30 #[.int .u32 ds, .int .u16 dm]
    simp only [World.size_alloc] at kD
    generalize (w.alloc (.cells #[.int .u32 a, .int .i64 ln, .int .u32 rid] 27)).alloc (.cells #[.int .u32 ds, .int .u16 dm] 30) = W at hbW kY kD ⊢
    refine (law06_head _).mono ?_
    rintro e w1 ⟨rfl, hb1⟩
    go_wp2_with fail
    have hb2 := below_step hbW hbW.size hb1
    refine (law06_few l A c w1 (hr.below hb2) ho).mono ?_
    rintro e w2 ⟨rfl, hb3⟩
    rw [hfew]
    replace hb2 := below_step hb2 hb2.size hb3
    replace kY := (kY.below' hb1).below' hb3
    replace kD := (kD.below' hb1).below' hb3
    clear hb1 hb3
    go_wp2
    go_ret
    exact ⟨rfl, hb2⟩
  | true =>
    go_enter Try.func3, Try.ntmps3
    go_wp2_with fail
    have hbW : Below w.heap.size w ((w.alloc (.cells #[.int .u32 a, .int .i64 ln, .int .u32 rid] 27)).alloc (.cells #[.int .u32 ds, .int .u16 dm] 30)) := ((Below.refl _ _).alloc (Nat.le_refl _) _).alloc (by simp) _
    have kY := (Blk.new w 27 #[.int .u32 a, .int .i64 ln, .int .u32 rid]).alloc (.cells #[.int .u32 ds, .int .u16 dm] 30)
    have kD := Blk.new (w.alloc (.cells #[.int .u32 a, .int .i64 ln, .int .u32 rid] 27)) 30 #[.int .u32 ds, .int .u16 dm]
    simp only [World.size_alloc] at kD
    generalize (w.alloc (.cells #[.int .u32 a, .int .i64 ln, .int .u32 rid] 27)).alloc (.cells #[.int .u32 ds, .int .u16 dm] 30) = W at hbW kY kD ⊢
    refine (law06_head _).mono ?_
    rintro e w1 ⟨rfl, hb1⟩
    go_wp2_with fail
    have hb2 := below_step hbW hbW.size hb1
    refine (law06_few l A c w1 (hr.below hb2) ho).mono ?_
    rintro e w2 ⟨rfl, hb3⟩
    rw [hfew]
    replace hb2 := below_step hb2 hb2.size hb3
    replace kY := (kY.below' hb1).below' hb3
    replace kD := (kD.below' hb1).below' hb3
    clear hb1 hb3
    go_wp2_with fail
    refine (state_New _ _).mono ?_
    rintro e w3 ⟨hb3, s, g1, g2, rfl, hS, ks, kg1, kg2⟩
    go_wp2_with fail
    refine (law06_New _ _).mono ?_
    rintro e w4 ⟨hb4, m, h1, h2, rfl, hM, km, kh1, kh2⟩
    have z1 := hS.1.lt
    have z2 := (hS.2.1).lt
    have z3 := (hS.2.2.1).lt
    have hsep : s < m ∧ s < h1 ∧ s < h2 ∧ g1 < m ∧ g1 < h1 ∧ g1 < h2 ∧ g2 < m ∧ g2 < h1 ∧ g2 < h2 := by omega
    replace hS := hS.below hb4
    have hw0 : Below w2.heap.size w2 w4 := below_step hb3 hb3.size hb4
    have hge : w2.heap.size ≤ m ∧ w2.heap.size ≤ h1 ∧ w2.heap.size ≤ h2 := by have := hb3.size; omega
    clear hb3 hb4 z1 z2 z3 km kh1 kh2
    go_wp2
    go_loopw [23] (fun i wr => ∃ k : Nat, k ≤ l.length ∧ i = .int .i64 k ∧ StAt 121 wr s g1 g2 (St.run ⟨1, 0, [], []⟩ (l.take k)) ∧ StAt 45 wr m h1 h2 (St.run ⟨1, 0, [], []⟩ (l.take k)) ∧ Below w2.heap.size w2 wr) (fun i _ => l.length - (intOf i).toNat)
    case atStart => exact ⟨0, Nat.zero_le _, rfl, hS, hM, hw0⟩
    case round =>
      clear hS hM hw0
      obtain ⟨k, hk, rfl, hS, hM, hw⟩ := hrel
      by_cases hlt : k < l.length
      · obtain ⟨b, off, rfl, hbl, hcell⟩ := (hr.below (below_step hb2 hb2.size hw)).2.2 (by omega)
        have e0 := hcell (k * 9 + 0) _ (recs_get l k 0 hlt (by omega))
        have e1 := hcell (k * 9 + 1) _ (recs_get l k 1 hlt (by omega))
        have e2 := hcell (k * 9 + 2) _ (recs_get l k 2 hlt (by omega))
        have e3 := hcell (k * 9 + 3) _ (recs_get l k 3 hlt (by omega))
        have e4 := hcell (k * 9 + 4) _ (recs_get l k 4 hlt (by omega))
        have e5 := hcell (k * 9 + 5) _ (recs_get l k 5 hlt (by omega))
        have e6 := hcell (k * 9 + 6) _ (recs_get l k 6 hlt (by omega))
        have e7 := hcell (k * 9 + 7) _ (recs_get l k 7 hlt (by omega))
        have e8 := hcell (k * 9 + 8) _ (recs_get l k 8 hlt (by omega))
        have HT := Lib.hid (run_take ⟨1, 0, [], []⟩ l k hlt)
        generalize l[k] = r at *
        obtain ⟨kind, gen, lsn, xid, xa, xl, on, rs, rm⟩ := r
        simp only [Rec.cells, List.getElem?_cons_zero, List.getElem?_cons_succ, ← Nat.add_assoc, Nat.add_zero] at e0 e1 e2 e3 e4 e5 e6 e7 e8
        clear hcell
        go_wp2_with fail
        have z1 := hS.1.lt
        have z2 := (hS.2.1).lt
        have z3 := (hS.2.2.1).lt
        have z4 := hM.1.lt
        have z5 := (hM.2.1).lt
        have z6 := (hM.2.2.1).lt
        have kR := Blk.new wr 39 #[.int .i64 kind, .int .u32 gen, .int .u32 lsn, .int .u32 xid, .int .u32 xa, .int .i64 xl, .bool on, .int .u32 rs, .int .u16 rm]
        replace hS := hS.below ((Below.refl _ wr).alloc (Nat.le_refl _) (.cells #[.int .i64 kind, .int .u32 gen, .int .u32 lsn, .int .u32 xid, .int .u32 xa, .int .i64 xl, .bool on, .int .u32 rs, .int .u16 rm] 39))
        replace hM := hM.below ((Below.refl _ wr).alloc (Nat.le_refl _) (.cells #[.int .i64 kind, .int .u32 gen, .int .u32 lsn, .int .u32 xid, .int .u32 xa, .int .i64 xl, .bool on, .int .u32 rs, .int .u16 rm] 39))
        refine (state_Apply _ ⟨kind, gen, lsn, xid, xa, xl, on, rs, rm⟩ s g1 g2 _ hS).mono ?_
        rintro e w5 ⟨rfl, hS, hk1⟩
        replace hM := hM.kept hk1 (by simp; omega) (by simp; omega) (by simp; omega)
        replace kR := hk1.blk kR (by simp; omega)
        have hw5 : Below w2.heap.size w2 w5 := hk1.below (hw.alloc hw.size _) (by have := hw.size; simp; omega) (by simp; omega)
        clear hk1 e0 e1 e2 e3 e4 e5 e6 e7 e8
        have kRl := kR.lt
        have r0 := kR.cell 0
        have r1 := kR.cell 1
        have r2 := kR.cell 2
        have r3 := kR.cell 3
        have r4 := kR.cell 4
        have r5 := kR.cell 5
        have r6 := kR.cell 6
        have r7 := kR.cell 7
        have r8 := kR.cell 8
        simp only [List.getElem?_toArray, List.getElem?_cons_zero, List.getElem?_cons_succ] at r0 r1 r2 r3 r4 r5 r6 r7 r8
        go_wp2_with fail
        refine (model_Apply _ ⟨kind, gen, lsn, xid, xa, xl, on, rs, rm⟩ m h1 h2 _ hM).mono ?_
        rintro e w6 ⟨rfl, hM, hk1⟩
        replace hS := hS.kept hk1 (by simp; omega) (by simp; omega) (by simp; omega)
        replace hw5 : Below w2.heap.size w2 w6 := hk1.below hw5 hw5.size (by simp; omega)
        rw [← HT.out] at hM hS
        clear HT hk1 kR hbl kRl r0 r1 r2 r3 r4 r5 r6 r7 r8
        go_wp2
        go_roundw
        case rel => exact ⟨k + 1, by omega, by go_num, hS, hM, hw5⟩
        case measure => simp [intOf]; omega
      · obtain rfl : k = l.length := by omega
        rw [List.take_length] at hS hM
        generalize St.run ⟨1, 0, [], []⟩ l = σ at hS hM
        have kYr := kY.below' hw
        have kDr := kD.below' hw
        have hbr : Below w.heap.size w wr := below_step hb2 hb2.size hw
        clear hw hbW kY kD hsep hge ks kg1 kg2 hb2
        have hBM := hM.1
        have hm := hM.2.2.1
        have b0 := hBM.cell 0
        have b1 := hBM.cell 1
        have b2 := hBM.cell 2
        have b3 := hBM.cell 3
        have bf0 := hBM.frozen 0
        have bf1 := hBM.frozen 1
        have bf2 := hBM.frozen 2
        have bf3 := hBM.frozen 3
        simp only [List.getElem?_toArray, List.getElem?_cons_zero, List.getElem?_cons_succ] at b0 b1 b2 b3
        have y0 := kYr.cell 0
        have y1 := kYr.cell 1
        have y2 := kYr.cell 2
        simp only [List.getElem?_toArray, List.getElem?_cons_zero, List.getElem?_cons_succ] at y0 y1 y2
        have d0 := kDr.cell 0
        have d1 := kDr.cell 1
        simp only [List.getElem?_toArray, List.getElem?_cons_zero, List.getElem?_cons_succ] at d0 d1
        have hl1 := hBM.lt
        have hl2 := kYr.lt
        have hl3 := kDr.lt
        clear hBM
        cases hg : getM σ.fl (⟨a, ln, rid⟩ : Key) with
        | none =>
          have FA := Lib.hid (feas_cov0 σ.fl ⟨a, ln, rid⟩ (ds, dm) hg).1
          have CO := Lib.hid (feas_cov0 σ.fl ⟨a, ln, rid⟩ (ds, dm) hg).2
          go_wp2_with fail
          refine draw_start [] (Below wr.heap.size) (by kernel_rfl) ?_
          refine draw_chunk (n := 78) (by kernel_rfl) (fun _ _ _ _ _ h => h) [0, 1, 2, 3, 4, 5, 6, 7, 8] [] _ #[true, true, true, true, true, true, true, true, true, false, false, false] (by kernel_rfl) 3 _ ?_ _ rfl ?_ ?_
          rotate_left
          · intro w' hw'
            have hc' : ∀ b o, b < wr.heap.size → w'.cell? ⟨b, o, none⟩ = wr.cell? ⟨b, o, none⟩ := fun b o h => hw'.cell (p := ⟨b, o, none⟩) h
            have hl := run_lookup_none key_keys Try.underlying43 (hm.same (hw'.block _ hm.lt)) ⟨a, ln, rid⟩ hg true _ dist_zero; simp only [Key.val, dstV] at hl
            refine ci_step (i := 0) (v := ?_) rfl (by kernel_rfl) ?_ ?_
            rotate_left
            · first | (go_simp; done) | (go_simp; with_reducible rfl)
            skip
            try simp only [Act.put, List.setIfInBounds_toArray, List.set_cons_zero, List.set_cons_succ]
            refine ci_step (i := 1) (v := ?_) rfl (by kernel_rfl) ?_ ?_
            rotate_left
            · first | (go_simp; done) | (go_simp; with_reducible rfl)
            skip
            try simp only [Act.put, List.setIfInBounds_toArray, List.set_cons_zero, List.set_cons_succ]
            refine ci_step (i := 2) (v := ?_) rfl (by kernel_rfl) ?_ ?_
            rotate_left
            · first | (go_simp; done) | (go_simp; with_reducible rfl)
            skip
            try simp only [Act.put, List.setIfInBounds_toArray, List.set_cons_zero, List.set_cons_succ]
            refine ci_step (i := 3) (v := ?_) rfl (by kernel_rfl) ?_ ?_
            rotate_left
            · first | (go_simp; done) | (go_simp; with_reducible rfl)
            skip
            try simp only [Act.put, List.setIfInBounds_toArray, List.set_cons_zero, List.set_cons_succ]
            refine ci_step (i := 4) (v := ?_) rfl (by kernel_rfl) ?_ ?_
            rotate_left
            · first | (go_simp; done) | (go_simp; with_reducible rfl)
            skip
            try simp only [Act.put, List.setIfInBounds_toArray, List.set_cons_zero, List.set_cons_succ]
            refine ci_step (i := 5) (v := ?_) rfl (by kernel_rfl) ?_ ?_
            rotate_left
            · first | (go_simp; done) | (go_simp; with_reducible rfl)
            skip
            try simp only [Act.put, List.setIfInBounds_toArray, List.set_cons_zero, List.set_cons_succ]
            refine ci_step (i := 6) (v := ?_) rfl (by kernel_rfl) ?_ ?_
            rotate_left
            · first | (go_simp; done) | (go_simp; with_reducible rfl)
            skip
            try simp only [Act.put, List.setIfInBounds_toArray, List.set_cons_zero, List.set_cons_succ]
            refine ci_step (i := 7) (v := ?_) rfl (by kernel_rfl) ?_ ?_
            rotate_left
            · first | (go_simp; done) | (go_simp; with_reducible rfl)
            skip
            try simp only [Act.put, List.setIfInBounds_toArray, List.set_cons_zero, List.set_cons_succ]
            refine ci_step (i := 8) (v := ?_) rfl (by kernel_rfl) ?_ ?_
            rotate_left
            · first | (go_simp; done) | (go_simp; with_reducible rfl)
            skip
            try simp only [Act.put, List.setIfInBounds_toArray, List.set_cons_zero, List.set_cons_succ]
            refine ci_end ?_
            rfl
          refine draw_eff (i := 9) rfl (by kernel_rfl) (listed' := #[true, true, true, true, true, true, true, true, true, true, false, false]) rfl (fun K hK => ?_)
          replace hK := Lib.hid hK
          go_wp2_with fail
          refine hK.out _ _ ⟨fun _ => below_dd ((Below.refl _ wr).alloc (Nat.le_refl _) _), ?_⟩
          clear hK
          refine draw_eff (i := 10) rfl (by kernel_rfl) (listed' := #[true, true, true, true, true, true, true, true, true, true, true, false]) rfl (fun K hK => ?_)
          replace hK := Lib.hid hK
          go_wp2_with fail
          refine hK.out _ _ ⟨fun _ => below_dd (below_two ((Below.refl _ wr).alloc (Nat.le_refl _) _) ((Below.refl _ wr).alloc (Nat.le_refl _) _) (by simp)), ?_⟩
          clear hK
          refine draw_chunk (n := 78) (by kernel_rfl) (fun _ _ _ _ _ h => h) [11] [] _ #[true, true, true, true, true, true, true, true, true, true, true, true] (by kernel_rfl) 0 _ ?_ _ rfl ?_ ?_
          rotate_left
          · intro w' hw'
            have hc' : ∀ b o, b < wr.heap.size → w'.cell? ⟨b, o, none⟩ = ((wr.alloc (.cells #[.int .u32 (0 : Int), .int .u16 (0 : Int)] 30)).drew).cell? ⟨b, o, none⟩ := fun b o h => hw'.cell (p := ⟨b, o, none⟩) h
            refine ci_step (i := 11) (v := ?_) rfl (by kernel_rfl) ?_ ?_
            rotate_left
            · first | (go_simp; done) | (go_simp; with_reducible rfl)
            skip
            try simp only [Act.put, List.setIfInBounds_toArray, List.set_cons_zero, List.set_cons_succ]
            refine ci_end ?_
            rfl
          refine draw_done (by kernel_rfl) ?_ _
          have kF := (Blk.new wr 30 #[.int .u32 (0 : Int), .int .u16 (0 : Int)]).drew
          replace kDr := (kDr.alloc (.cells #[.int .u32 (0 : Int), .int .u16 (0 : Int)] 30)).drew
          replace kYr := (kYr.alloc (.cells #[.int .u32 (0 : Int), .int .u16 (0 : Int)] 30)).drew
          have hSv : StAt 121 (wr.alloc (.cells #[.int .u32 (0 : Int), .int .u16 (0 : Int)] 30)).drew s g1 g2 σ := hS.below (Below.drew ((Below.refl _ wr).alloc (Nat.le_refl _) _))
          replace hbr : Below w.heap.size w (wr.alloc (.cells #[.int .u32 (0 : Int), .int .u16 (0 : Int)] 30)).drew := Below.drew (hbr.alloc hbr.size _)
          have hl4 := kF.lt
          clear hm hM hS
          cases hd : (dm == 65535) with
          | true =>
            go_wp2_with fail
            refine (state_Feasible σ ⟨a, ln, rid⟩ (ds, dm) s g1 g2 _ hSv).mono ?_
            rintro e w7 ⟨rfl, hb7⟩
            rw [FA.out]
            have hx := bcell hb7
            replace kF := kF.below' hb7
            replace kDr := kDr.below' hb7
            replace kYr := kYr.below' hb7
            replace hSv := hSv.below hb7
            replace hbr := below_step hbr hbr.size hb7
            clear hb7 hx
            have hl1 := kYr.lt
            have hl2 := kDr.lt
            have hl4 := kF.lt
            have f0 := kF.cell 0
            have f1 := kF.cell 1
            simp only [List.getElem?_toArray, List.getElem?_cons_zero, List.getElem?_cons_succ] at f0 f1
            have d0 := kDr.cell 0
            have d1 := kDr.cell 1
            simp only [List.getElem?_toArray, List.getElem?_cons_zero, List.getElem?_cons_succ] at d0 d1
            have y0 := kYr.cell 0
            have y1 := kYr.cell 1
            have y2 := kYr.cell 2
            simp only [List.getElem?_toArray, List.getElem?_cons_zero, List.getElem?_cons_succ] at y0 y1 y2
            go_wp2_with fail
            refine (state_Covers σ ⟨a, ln, rid⟩ (ds, dm) s g1 g2 _ hSv).mono ?_
            rintro e w7 ⟨rfl, hb7⟩
            rw [CO.out]
            have hx := bcell hb7
            replace kF := kF.below' hb7
            replace kDr := kDr.below' hb7
            replace kYr := kYr.below' hb7
            replace hSv := hSv.below hb7
            replace hbr := below_step hbr hbr.size hb7
            clear hb7 hx
            have hl1 := kYr.lt
            have hl2 := kDr.lt
            have hl4 := kF.lt
            have f0 := kF.cell 0
            have f1 := kF.cell 1
            simp only [List.getElem?_toArray, List.getElem?_cons_zero, List.getElem?_cons_succ] at f0 f1
            have d0 := kDr.cell 0
            have d1 := kDr.cell 1
            simp only [List.getElem?_toArray, List.getElem?_cons_zero, List.getElem?_cons_succ] at d0 d1
            have y0 := kYr.cell 0
            have y1 := kYr.cell 1
            have y2 := kYr.cell 2
            simp only [List.getElem?_toArray, List.getElem?_cons_zero, List.getElem?_cons_succ] at y0 y1 y2
            go_wp2
            go_ret
            exact ⟨by first | rfl | simp [*], hbr⟩
          | false =>
            go_wp2_with fail
            refine (state_Feasible σ ⟨a, ln, rid⟩ (ds, dm) s g1 g2 _ hSv).mono ?_
            rintro e w7 ⟨rfl, hb7⟩
            rw [FA.out]
            have hx := bcell hb7
            replace kF := kF.below' hb7
            replace kDr := kDr.below' hb7
            replace kYr := kYr.below' hb7
            replace hSv := hSv.below hb7
            replace hbr := below_step hbr hbr.size hb7
            clear hb7 hx
            have hl1 := kYr.lt
            have hl2 := kDr.lt
            have hl4 := kF.lt
            have f0 := kF.cell 0
            have f1 := kF.cell 1
            simp only [List.getElem?_toArray, List.getElem?_cons_zero, List.getElem?_cons_succ] at f0 f1
            have d0 := kDr.cell 0
            have d1 := kDr.cell 1
            simp only [List.getElem?_toArray, List.getElem?_cons_zero, List.getElem?_cons_succ] at d0 d1
            have y0 := kYr.cell 0
            have y1 := kYr.cell 1
            have y2 := kYr.cell 2
            simp only [List.getElem?_toArray, List.getElem?_cons_zero, List.getElem?_cons_succ] at y0 y1 y2
            go_wp2_with fail
            refine (state_Covers σ ⟨a, ln, rid⟩ (ds, dm) s g1 g2 _ hSv).mono ?_
            rintro e w7 ⟨rfl, hb7⟩
            rw [CO.out]
            have hx := bcell hb7
            replace kF := kF.below' hb7
            replace kDr := kDr.below' hb7
            replace kYr := kYr.below' hb7
            replace hSv := hSv.below hb7
            replace hbr := below_step hbr hbr.size hb7
            clear hb7 hx
            have hl1 := kYr.lt
            have hl2 := kDr.lt
            have hl4 := kF.lt
            have f0 := kF.cell 0
            have f1 := kF.cell 1
            simp only [List.getElem?_toArray, List.getElem?_cons_zero, List.getElem?_cons_succ] at f0 f1
            have d0 := kDr.cell 0
            have d1 := kDr.cell 1
            simp only [List.getElem?_toArray, List.getElem?_cons_zero, List.getElem?_cons_succ] at d0 d1
            have y0 := kYr.cell 0
            have y1 := kYr.cell 1
            have y2 := kYr.cell 2
            simp only [List.getElem?_toArray, List.getElem?_cons_zero, List.getElem?_cons_succ] at y0 y1 y2
            go_wp2
            go_ret
            exact ⟨by first | rfl | simp [*], hbr⟩
        | some f =>
          obtain ⟨fs, fm⟩ := f
          have FA := Lib.hid (feas_cov σ.fl ⟨a, ln, rid⟩ (ds, dm) _ hg).1
          have CO := Lib.hid (feas_cov σ.fl ⟨a, ln, rid⟩ (ds, dm) _ hg).2
          cases hbt : betterB ds dm fs fm with
          | true =>
            go_wp2_with fail
            refine draw_start [] (Below wr.heap.size) (by kernel_rfl) ?_
            refine draw_chunk (n := 78) (by kernel_rfl) (fun _ _ _ _ _ h => h) [0, 1, 2, 3, 4, 5, 6, 7, 8] [] _ #[true, true, true, true, true, true, true, true, true, false, false, false] (by kernel_rfl) 3 _ ?_ _ rfl ?_ ?_
            rotate_left
            · intro w' hw'
              have hc' : ∀ b o, b < wr.heap.size → w'.cell? ⟨b, o, none⟩ = wr.cell? ⟨b, o, none⟩ := fun b o h => hw'.cell (p := ⟨b, o, none⟩) h
              have hl := run_lookup_some key_keys Try.underlying43 (hm.same (hw'.block _ hm.lt)) ⟨a, ln, rid⟩ (fs, fm) hg true; simp only [Key.val, dstV] at hl
              refine ci_step (i := 0) (v := ?_) rfl (by kernel_rfl) ?_ ?_
              rotate_left
              · first | (go_simp; done) | (go_simp; with_reducible rfl)
              skip
              try simp only [Act.put, List.setIfInBounds_toArray, List.set_cons_zero, List.set_cons_succ]
              refine ci_step (i := 1) (v := ?_) rfl (by kernel_rfl) ?_ ?_
              rotate_left
              · first | (go_simp; done) | (go_simp; with_reducible rfl)
              skip
              try simp only [Act.put, List.setIfInBounds_toArray, List.set_cons_zero, List.set_cons_succ]
              refine ci_step (i := 2) (v := ?_) rfl (by kernel_rfl) ?_ ?_
              rotate_left
              · first | (go_simp; done) | (go_simp; with_reducible rfl)
              skip
              try simp only [Act.put, List.setIfInBounds_toArray, List.set_cons_zero, List.set_cons_succ]
              refine ci_step (i := 3) (v := ?_) rfl (by kernel_rfl) ?_ ?_
              rotate_left
              · first | (go_simp; done) | (go_simp; with_reducible rfl)
              skip
              try simp only [Act.put, List.setIfInBounds_toArray, List.set_cons_zero, List.set_cons_succ]
              refine ci_step (i := 4) (v := ?_) rfl (by kernel_rfl) ?_ ?_
              rotate_left
              · first | (go_simp; done) | (go_simp; with_reducible rfl)
              skip
              try simp only [Act.put, List.setIfInBounds_toArray, List.set_cons_zero, List.set_cons_succ]
              refine ci_step (i := 5) (v := ?_) rfl (by kernel_rfl) ?_ ?_
              rotate_left
              · first | (go_simp; done) | (go_simp; with_reducible rfl)
              skip
              try simp only [Act.put, List.setIfInBounds_toArray, List.set_cons_zero, List.set_cons_succ]
              refine ci_step (i := 6) (v := ?_) rfl (by kernel_rfl) ?_ ?_
              rotate_left
              · first | (go_simp; done) | (go_simp; with_reducible rfl)
              skip
              try simp only [Act.put, List.setIfInBounds_toArray, List.set_cons_zero, List.set_cons_succ]
              refine ci_step (i := 7) (v := ?_) rfl (by kernel_rfl) ?_ ?_
              rotate_left
              · first | (go_simp; done) | (go_simp; with_reducible rfl)
              skip
              try simp only [Act.put, List.setIfInBounds_toArray, List.set_cons_zero, List.set_cons_succ]
              refine ci_step (i := 8) (v := ?_) rfl (by kernel_rfl) ?_ ?_
              rotate_left
              · first | (go_simp; done) | (go_simp; with_reducible rfl)
              skip
              try simp only [Act.put, List.setIfInBounds_toArray, List.set_cons_zero, List.set_cons_succ]
              refine ci_end ?_
              rfl
            refine draw_eff (i := 9) rfl (by kernel_rfl) (listed' := #[true, true, true, true, true, true, true, true, true, true, false, false]) rfl (fun K hK => ?_)
            replace hK := Lib.hid hK
            go_wp2_with fail
            refine hK.out _ _ ⟨fun _ => below_dd ((Below.refl _ wr).alloc (Nat.le_refl _) _), ?_⟩
            clear hK
            refine draw_eff (i := 10) rfl (by kernel_rfl) (listed' := #[true, true, true, true, true, true, true, true, true, true, true, false]) rfl (fun K hK => ?_)
            replace hK := Lib.hid hK
            go_wp2_with fail
            refine hK.out _ _ ⟨fun _ => below_dd (below_two ((Below.refl _ wr).alloc (Nat.le_refl _) _) ((Below.refl _ wr).alloc (Nat.le_refl _) _) (by simp)), ?_⟩
            clear hK
            refine draw_chunk (n := 78) (by kernel_rfl) (fun _ _ _ _ _ h => h) [11] [] _ #[true, true, true, true, true, true, true, true, true, true, true, true] (by kernel_rfl) 0 _ ?_ _ rfl ?_ ?_
            rotate_left
            · intro w' hw'
              have hc' : ∀ b o, b < wr.heap.size → w'.cell? ⟨b, o, none⟩ = ((wr.alloc (.cells #[.int .u32 fs, .int .u16 fm] 30)).drew).cell? ⟨b, o, none⟩ := fun b o h => hw'.cell (p := ⟨b, o, none⟩) h
              refine ci_step (i := 11) (v := ?_) rfl (by kernel_rfl) ?_ ?_
              rotate_left
              · first | (go_simp; done) | (go_simp; with_reducible rfl)
              skip
              try simp only [Act.put, List.setIfInBounds_toArray, List.set_cons_zero, List.set_cons_succ]
              refine ci_end ?_
              rfl
            refine draw_done (by kernel_rfl) ?_ _
            have kF := (Blk.new wr 30 #[.int .u32 fs, .int .u16 fm]).drew
            replace kDr := (kDr.alloc (.cells #[.int .u32 fs, .int .u16 fm] 30)).drew
            replace kYr := (kYr.alloc (.cells #[.int .u32 fs, .int .u16 fm] 30)).drew
            have hSv : StAt 121 (wr.alloc (.cells #[.int .u32 fs, .int .u16 fm] 30)).drew s g1 g2 σ := hS.below (Below.drew ((Below.refl _ wr).alloc (Nat.le_refl _) _))
            replace hbr : Below w.heap.size w (wr.alloc (.cells #[.int .u32 fs, .int .u16 fm] 30)).drew := Below.drew (hbr.alloc hbr.size _)
            have hl4 := kF.lt
            clear hm hM hS
            cases hd : (dm == 65535) with
            | true =>
              go_wp2_with fail
              refine (state_Feasible σ ⟨a, ln, rid⟩ (ds, dm) s g1 g2 _ hSv).mono ?_
              rintro e w7 ⟨rfl, hb7⟩
              rw [FA.out]
              have hx := bcell hb7
              replace kF := kF.below' hb7
              replace kDr := kDr.below' hb7
              replace kYr := kYr.below' hb7
              replace hSv := hSv.below hb7
              replace hbr := below_step hbr hbr.size hb7
              clear hb7 hx
              have hl1 := kYr.lt
              have hl2 := kDr.lt
              have hl4 := kF.lt
              have f0 := kF.cell 0
              have f1 := kF.cell 1
              simp only [List.getElem?_toArray, List.getElem?_cons_zero, List.getElem?_cons_succ] at f0 f1
              have d0 := kDr.cell 0
              have d1 := kDr.cell 1
              simp only [List.getElem?_toArray, List.getElem?_cons_zero, List.getElem?_cons_succ] at d0 d1
              have y0 := kYr.cell 0
              have y1 := kYr.cell 1
              have y2 := kYr.cell 2
              simp only [List.getElem?_toArray, List.getElem?_cons_zero, List.getElem?_cons_succ] at y0 y1 y2
              go_wp2_with fail
              refine (state_Covers σ ⟨a, ln, rid⟩ (ds, dm) s g1 g2 _ hSv).mono ?_
              rintro e w7 ⟨rfl, hb7⟩
              rw [CO.out]
              have hx := bcell hb7
              replace kF := kF.below' hb7
              replace kDr := kDr.below' hb7
              replace kYr := kYr.below' hb7
              replace hSv := hSv.below hb7
              replace hbr := below_step hbr hbr.size hb7
              clear hb7 hx
              have hl1 := kYr.lt
              have hl2 := kDr.lt
              have hl4 := kF.lt
              have f0 := kF.cell 0
              have f1 := kF.cell 1
              simp only [List.getElem?_toArray, List.getElem?_cons_zero, List.getElem?_cons_succ] at f0 f1
              have d0 := kDr.cell 0
              have d1 := kDr.cell 1
              simp only [List.getElem?_toArray, List.getElem?_cons_zero, List.getElem?_cons_succ] at d0 d1
              have y0 := kYr.cell 0
              have y1 := kYr.cell 1
              have y2 := kYr.cell 2
              simp only [List.getElem?_toArray, List.getElem?_cons_zero, List.getElem?_cons_succ] at y0 y1 y2
              go_wp2
              go_ret
              exact ⟨by first | rfl | simp [*], hbr⟩
            | false =>
              go_wp2_with fail
              refine (state_Feasible σ ⟨a, ln, rid⟩ (ds, dm) s g1 g2 _ hSv).mono ?_
              rintro e w7 ⟨rfl, hb7⟩
              rw [FA.out]
              have hx := bcell hb7
              replace kF := kF.below' hb7
              replace kDr := kDr.below' hb7
              replace kYr := kYr.below' hb7
              replace hSv := hSv.below hb7
              replace hbr := below_step hbr hbr.size hb7
              clear hb7 hx
              have hl1 := kYr.lt
              have hl2 := kDr.lt
              have hl4 := kF.lt
              have f0 := kF.cell 0
              have f1 := kF.cell 1
              simp only [List.getElem?_toArray, List.getElem?_cons_zero, List.getElem?_cons_succ] at f0 f1
              have d0 := kDr.cell 0
              have d1 := kDr.cell 1
              simp only [List.getElem?_toArray, List.getElem?_cons_zero, List.getElem?_cons_succ] at d0 d1
              have y0 := kYr.cell 0
              have y1 := kYr.cell 1
              have y2 := kYr.cell 2
              simp only [List.getElem?_toArray, List.getElem?_cons_zero, List.getElem?_cons_succ] at y0 y1 y2
              go_wp2_with fail
              refine (law03_Better _ _ _ _ _).mono ?_
              rintro e w7 ⟨rfl, hb7⟩
              rw [hbt]
              have hx := bcell hb7
              replace kF := kF.below' hb7
              replace kDr := kDr.below' hb7
              replace kYr := kYr.below' hb7
              replace hSv := hSv.below hb7
              replace hbr := below_step hbr hbr.size hb7
              clear hb7 hx
              have hl1 := kYr.lt
              have hl2 := kDr.lt
              have hl4 := kF.lt
              have f0 := kF.cell 0
              have f1 := kF.cell 1
              simp only [List.getElem?_toArray, List.getElem?_cons_zero, List.getElem?_cons_succ] at f0 f1
              have d0 := kDr.cell 0
              have d1 := kDr.cell 1
              simp only [List.getElem?_toArray, List.getElem?_cons_zero, List.getElem?_cons_succ] at d0 d1
              have y0 := kYr.cell 0
              have y1 := kYr.cell 1
              have y2 := kYr.cell 2
              simp only [List.getElem?_toArray, List.getElem?_cons_zero, List.getElem?_cons_succ] at y0 y1 y2
              go_wp2_with fail
              refine (state_Covers σ ⟨a, ln, rid⟩ (ds, dm) s g1 g2 _ hSv).mono ?_
              rintro e w7 ⟨rfl, hb7⟩
              rw [CO.out]
              have hx := bcell hb7
              replace kF := kF.below' hb7
              replace kDr := kDr.below' hb7
              replace kYr := kYr.below' hb7
              replace hSv := hSv.below hb7
              replace hbr := below_step hbr hbr.size hb7
              clear hb7 hx
              have hl1 := kYr.lt
              have hl2 := kDr.lt
              have hl4 := kF.lt
              have f0 := kF.cell 0
              have f1 := kF.cell 1
              simp only [List.getElem?_toArray, List.getElem?_cons_zero, List.getElem?_cons_succ] at f0 f1
              have d0 := kDr.cell 0
              have d1 := kDr.cell 1
              simp only [List.getElem?_toArray, List.getElem?_cons_zero, List.getElem?_cons_succ] at d0 d1
              have y0 := kYr.cell 0
              have y1 := kYr.cell 1
              have y2 := kYr.cell 2
              simp only [List.getElem?_toArray, List.getElem?_cons_zero, List.getElem?_cons_succ] at y0 y1 y2
              go_wp2_with fail
              refine (law03_Better _ _ _ _ _).mono ?_
              rintro e w7 ⟨rfl, hb7⟩
              rw [hbt]
              have hx := bcell hb7
              replace kF := kF.below' hb7
              replace kDr := kDr.below' hb7
              replace kYr := kYr.below' hb7
              replace hSv := hSv.below hb7
              replace hbr := below_step hbr hbr.size hb7
              clear hb7 hx
              have hl1 := kYr.lt
              have hl2 := kDr.lt
              have hl4 := kF.lt
              have f0 := kF.cell 0
              have f1 := kF.cell 1
              simp only [List.getElem?_toArray, List.getElem?_cons_zero, List.getElem?_cons_succ] at f0 f1
              have d0 := kDr.cell 0
              have d1 := kDr.cell 1
              simp only [List.getElem?_toArray, List.getElem?_cons_zero, List.getElem?_cons_succ] at d0 d1
              have y0 := kYr.cell 0
              have y1 := kYr.cell 1
              have y2 := kYr.cell 2
              simp only [List.getElem?_toArray, List.getElem?_cons_zero, List.getElem?_cons_succ] at y0 y1 y2
              go_wp2
              go_ret
              exact ⟨by first | rfl | simp [*], hbr⟩
          | false =>
            go_wp2_with fail
            refine draw_start [] (Below wr.heap.size) (by kernel_rfl) ?_
            refine draw_chunk (n := 78) (by kernel_rfl) (fun _ _ _ _ _ h => h) [0, 1, 2, 3, 4, 5, 6, 7, 8] [] _ #[true, true, true, true, true, true, true, true, true, false, false, false] (by kernel_rfl) 3 _ ?_ _ rfl ?_ ?_
            rotate_left
            · intro w' hw'
              have hc' : ∀ b o, b < wr.heap.size → w'.cell? ⟨b, o, none⟩ = wr.cell? ⟨b, o, none⟩ := fun b o h => hw'.cell (p := ⟨b, o, none⟩) h
              have hl := run_lookup_some key_keys Try.underlying43 (hm.same (hw'.block _ hm.lt)) ⟨a, ln, rid⟩ (fs, fm) hg true; simp only [Key.val, dstV] at hl
              refine ci_step (i := 0) (v := ?_) rfl (by kernel_rfl) ?_ ?_
              rotate_left
              · first | (go_simp; done) | (go_simp; with_reducible rfl)
              skip
              try simp only [Act.put, List.setIfInBounds_toArray, List.set_cons_zero, List.set_cons_succ]
              refine ci_step (i := 1) (v := ?_) rfl (by kernel_rfl) ?_ ?_
              rotate_left
              · first | (go_simp; done) | (go_simp; with_reducible rfl)
              skip
              try simp only [Act.put, List.setIfInBounds_toArray, List.set_cons_zero, List.set_cons_succ]
              refine ci_step (i := 2) (v := ?_) rfl (by kernel_rfl) ?_ ?_
              rotate_left
              · first | (go_simp; done) | (go_simp; with_reducible rfl)
              skip
              try simp only [Act.put, List.setIfInBounds_toArray, List.set_cons_zero, List.set_cons_succ]
              refine ci_step (i := 3) (v := ?_) rfl (by kernel_rfl) ?_ ?_
              rotate_left
              · first | (go_simp; done) | (go_simp; with_reducible rfl)
              skip
              try simp only [Act.put, List.setIfInBounds_toArray, List.set_cons_zero, List.set_cons_succ]
              refine ci_step (i := 4) (v := ?_) rfl (by kernel_rfl) ?_ ?_
              rotate_left
              · first | (go_simp; done) | (go_simp; with_reducible rfl)
              skip
              try simp only [Act.put, List.setIfInBounds_toArray, List.set_cons_zero, List.set_cons_succ]
              refine ci_step (i := 5) (v := ?_) rfl (by kernel_rfl) ?_ ?_
              rotate_left
              · first | (go_simp; done) | (go_simp; with_reducible rfl)
              skip
              try simp only [Act.put, List.setIfInBounds_toArray, List.set_cons_zero, List.set_cons_succ]
              refine ci_step (i := 6) (v := ?_) rfl (by kernel_rfl) ?_ ?_
              rotate_left
              · first | (go_simp; done) | (go_simp; with_reducible rfl)
              skip
              try simp only [Act.put, List.setIfInBounds_toArray, List.set_cons_zero, List.set_cons_succ]
              refine ci_step (i := 7) (v := ?_) rfl (by kernel_rfl) ?_ ?_
              rotate_left
              · first | (go_simp; done) | (go_simp; with_reducible rfl)
              skip
              try simp only [Act.put, List.setIfInBounds_toArray, List.set_cons_zero, List.set_cons_succ]
              refine ci_step (i := 8) (v := ?_) rfl (by kernel_rfl) ?_ ?_
              rotate_left
              · first | (go_simp; done) | (go_simp; with_reducible rfl)
              skip
              try simp only [Act.put, List.setIfInBounds_toArray, List.set_cons_zero, List.set_cons_succ]
              refine ci_end ?_
              rfl
            refine draw_eff (i := 9) rfl (by kernel_rfl) (listed' := #[true, true, true, true, true, true, true, true, true, true, false, false]) rfl (fun K hK => ?_)
            replace hK := Lib.hid hK
            go_wp2_with fail
            refine hK.out _ _ ⟨fun _ => below_dd ((Below.refl _ wr).alloc (Nat.le_refl _) _), ?_⟩
            clear hK
            refine draw_eff (i := 10) rfl (by kernel_rfl) (listed' := #[true, true, true, true, true, true, true, true, true, true, true, false]) rfl (fun K hK => ?_)
            replace hK := Lib.hid hK
            go_wp2_with fail
            refine hK.out _ _ ⟨fun _ => below_dd (below_two ((Below.refl _ wr).alloc (Nat.le_refl _) _) ((Below.refl _ wr).alloc (Nat.le_refl _) _) (by simp)), ?_⟩
            clear hK
            refine draw_chunk (n := 78) (by kernel_rfl) (fun _ _ _ _ _ h => h) [11] [] _ #[true, true, true, true, true, true, true, true, true, true, true, true] (by kernel_rfl) 0 _ ?_ _ rfl ?_ ?_
            rotate_left
            · intro w' hw'
              have hc' : ∀ b o, b < wr.heap.size → w'.cell? ⟨b, o, none⟩ = ((wr.alloc (.cells #[.int .u32 fs, .int .u16 fm] 30)).drew).cell? ⟨b, o, none⟩ := fun b o h => hw'.cell (p := ⟨b, o, none⟩) h
              refine ci_step (i := 11) (v := ?_) rfl (by kernel_rfl) ?_ ?_
              rotate_left
              · first | (go_simp; done) | (go_simp; with_reducible rfl)
              skip
              try simp only [Act.put, List.setIfInBounds_toArray, List.set_cons_zero, List.set_cons_succ]
              refine ci_end ?_
              rfl
            refine draw_done (by kernel_rfl) ?_ _
            have kF := (Blk.new wr 30 #[.int .u32 fs, .int .u16 fm]).drew
            replace kDr := (kDr.alloc (.cells #[.int .u32 fs, .int .u16 fm] 30)).drew
            replace kYr := (kYr.alloc (.cells #[.int .u32 fs, .int .u16 fm] 30)).drew
            have hSv : StAt 121 (wr.alloc (.cells #[.int .u32 fs, .int .u16 fm] 30)).drew s g1 g2 σ := hS.below (Below.drew ((Below.refl _ wr).alloc (Nat.le_refl _) _))
            replace hbr : Below w.heap.size w (wr.alloc (.cells #[.int .u32 fs, .int .u16 fm] 30)).drew := Below.drew (hbr.alloc hbr.size _)
            have hl4 := kF.lt
            clear hm hM hS
            cases hd : (dm == 65535) with
            | true =>
              go_wp2_with fail
              refine (state_Feasible σ ⟨a, ln, rid⟩ (ds, dm) s g1 g2 _ hSv).mono ?_
              rintro e w7 ⟨rfl, hb7⟩
              rw [FA.out]
              have hx := bcell hb7
              replace kF := kF.below' hb7
              replace kDr := kDr.below' hb7
              replace kYr := kYr.below' hb7
              replace hSv := hSv.below hb7
              replace hbr := below_step hbr hbr.size hb7
              clear hb7 hx
              have hl1 := kYr.lt
              have hl2 := kDr.lt
              have hl4 := kF.lt
              have f0 := kF.cell 0
              have f1 := kF.cell 1
              simp only [List.getElem?_toArray, List.getElem?_cons_zero, List.getElem?_cons_succ] at f0 f1
              have d0 := kDr.cell 0
              have d1 := kDr.cell 1
              simp only [List.getElem?_toArray, List.getElem?_cons_zero, List.getElem?_cons_succ] at d0 d1
              have y0 := kYr.cell 0
              have y1 := kYr.cell 1
              have y2 := kYr.cell 2
              simp only [List.getElem?_toArray, List.getElem?_cons_zero, List.getElem?_cons_succ] at y0 y1 y2
              go_wp2_with fail
              refine (state_Covers σ ⟨a, ln, rid⟩ (ds, dm) s g1 g2 _ hSv).mono ?_
              rintro e w7 ⟨rfl, hb7⟩
              rw [CO.out]
              have hx := bcell hb7
              replace kF := kF.below' hb7
              replace kDr := kDr.below' hb7
              replace kYr := kYr.below' hb7
              replace hSv := hSv.below hb7
              replace hbr := below_step hbr hbr.size hb7
              clear hb7 hx
              have hl1 := kYr.lt
              have hl2 := kDr.lt
              have hl4 := kF.lt
              have f0 := kF.cell 0
              have f1 := kF.cell 1
              simp only [List.getElem?_toArray, List.getElem?_cons_zero, List.getElem?_cons_succ] at f0 f1
              have d0 := kDr.cell 0
              have d1 := kDr.cell 1
              simp only [List.getElem?_toArray, List.getElem?_cons_zero, List.getElem?_cons_succ] at d0 d1
              have y0 := kYr.cell 0
              have y1 := kYr.cell 1
              have y2 := kYr.cell 2
              simp only [List.getElem?_toArray, List.getElem?_cons_zero, List.getElem?_cons_succ] at y0 y1 y2
              go_wp2
              go_ret
              exact ⟨by first | rfl | simp [*], hbr⟩
            | false =>
              go_wp2_with fail
              refine (state_Feasible σ ⟨a, ln, rid⟩ (ds, dm) s g1 g2 _ hSv).mono ?_
              rintro e w7 ⟨rfl, hb7⟩
              rw [FA.out]
              have hx := bcell hb7
              replace kF := kF.below' hb7
              replace kDr := kDr.below' hb7
              replace kYr := kYr.below' hb7
              replace hSv := hSv.below hb7
              replace hbr := below_step hbr hbr.size hb7
              clear hb7 hx
              have hl1 := kYr.lt
              have hl2 := kDr.lt
              have hl4 := kF.lt
              have f0 := kF.cell 0
              have f1 := kF.cell 1
              simp only [List.getElem?_toArray, List.getElem?_cons_zero, List.getElem?_cons_succ] at f0 f1
              have d0 := kDr.cell 0
              have d1 := kDr.cell 1
              simp only [List.getElem?_toArray, List.getElem?_cons_zero, List.getElem?_cons_succ] at d0 d1
              have y0 := kYr.cell 0
              have y1 := kYr.cell 1
              have y2 := kYr.cell 2
              simp only [List.getElem?_toArray, List.getElem?_cons_zero, List.getElem?_cons_succ] at y0 y1 y2
              go_wp2_with fail
              refine (law03_Better _ _ _ _ _).mono ?_
              rintro e w7 ⟨rfl, hb7⟩
              rw [hbt]
              have hx := bcell hb7
              replace kF := kF.below' hb7
              replace kDr := kDr.below' hb7
              replace kYr := kYr.below' hb7
              replace hSv := hSv.below hb7
              replace hbr := below_step hbr hbr.size hb7
              clear hb7 hx
              have hl1 := kYr.lt
              have hl2 := kDr.lt
              have hl4 := kF.lt
              have f0 := kF.cell 0
              have f1 := kF.cell 1
              simp only [List.getElem?_toArray, List.getElem?_cons_zero, List.getElem?_cons_succ] at f0 f1
              have d0 := kDr.cell 0
              have d1 := kDr.cell 1
              simp only [List.getElem?_toArray, List.getElem?_cons_zero, List.getElem?_cons_succ] at d0 d1
              have y0 := kYr.cell 0
              have y1 := kYr.cell 1
              have y2 := kYr.cell 2
              simp only [List.getElem?_toArray, List.getElem?_cons_zero, List.getElem?_cons_succ] at y0 y1 y2
              go_wp2_with fail
              refine (state_Covers σ ⟨a, ln, rid⟩ (ds, dm) s g1 g2 _ hSv).mono ?_
              rintro e w7 ⟨rfl, hb7⟩
              rw [CO.out]
              have hx := bcell hb7
              replace kF := kF.below' hb7
              replace kDr := kDr.below' hb7
              replace kYr := kYr.below' hb7
              replace hSv := hSv.below hb7
              replace hbr := below_step hbr hbr.size hb7
              clear hb7 hx
              have hl1 := kYr.lt
              have hl2 := kDr.lt
              have hl4 := kF.lt
              have f0 := kF.cell 0
              have f1 := kF.cell 1
              simp only [List.getElem?_toArray, List.getElem?_cons_zero, List.getElem?_cons_succ] at f0 f1
              have d0 := kDr.cell 0
              have d1 := kDr.cell 1
              simp only [List.getElem?_toArray, List.getElem?_cons_zero, List.getElem?_cons_succ] at d0 d1
              have y0 := kYr.cell 0
              have y1 := kYr.cell 1
              have y2 := kYr.cell 2
              simp only [List.getElem?_toArray, List.getElem?_cons_zero, List.getElem?_cons_succ] at y0 y1 y2
              go_wp2_with fail
              refine (law03_Better _ _ _ _ _).mono ?_
              rintro e w7 ⟨rfl, hb7⟩
              rw [hbt]
              have hx := bcell hb7
              replace kF := kF.below' hb7
              replace kDr := kDr.below' hb7
              replace kYr := kYr.below' hb7
              replace hSv := hSv.below hb7
              replace hbr := below_step hbr hbr.size hb7
              clear hb7 hx
              have hl1 := kYr.lt
              have hl2 := kDr.lt
              have hl4 := kF.lt
              have f0 := kF.cell 0
              have f1 := kF.cell 1
              simp only [List.getElem?_toArray, List.getElem?_cons_zero, List.getElem?_cons_succ] at f0 f1
              have d0 := kDr.cell 0
              have d1 := kDr.cell 1
              simp only [List.getElem?_toArray, List.getElem?_cons_zero, List.getElem?_cons_succ] at d0 d1
              have y0 := kYr.cell 0
              have y1 := kYr.cell 1
              have y2 := kYr.cell 2
              simp only [List.getElem?_toArray, List.getElem?_cons_zero, List.getElem?_cons_succ] at y0 y1 y2
              go_wp2
              go_ret
              exact ⟨by first | rfl | simp [*], hbr⟩
end Go.Proofs.Ytnfaeafplaeehaa
