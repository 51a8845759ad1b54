import Derived.Test.YtnfaeafplaeehaaGrows
set_option linter.unusedVariables false
set_option linter.unusedSimpArgs false
namespace Go.Proofs.Ytnfaeafplaeehaa
open Go.RowKit

set_option maxRecDepth 20000 in
set_option maxHeartbeats 16000000 in
theorem StateGrows_all (l : List Rec) (A : Option Addr) (c : Nat) (k : Key) (d : Dst) (w : World) (hr : Row w 9 A l.length (recs l)) (ho : RecsOk l) :
    Calls Try.prog 4 #[.slice A l.length c, k.val, dstV d] w fun e w' => e = .returned (.bool true) ∧ Below w.heap.size w w' := by
  obtain ⟨a, ln, rid⟩ := k
  obtain ⟨ds, dm⟩ := d
  simp only [Key.val, dstV]
  have hn := hr.2.1
  cases hfew : fewB l with
  | false =>
    go_enter Try.func4, Try.ntmps4
    go_wp2_with fail
    have hbW : Below w.heap.size w ((w.alloc (.cells #[.int .u32 a, .int .i64 ln, .int .u32 rid] 27)).alloc (.cells #[.int .u32 ds, .int .u16 dm] 30)) := ((Below.refl _ _).alloc (Nat.le_refl _) _).alloc (by simp) _
    have kY := (Blk.new w 27 #[.int .u32 a, .int .i64 ln, .int .u32 rid]).alloc (.cells #[.int .u32 ds, .int .u16 dm] 30)
    have kD := Blk.new (w.alloc (.cells #[.int .u32 a, .int .i64 ln, .int .u32 rid] 27)) 30 #[.int .u32 ds, .int .u16 dm]
    simp only [World.size_alloc] at kD
    generalize (w.alloc (.cells #[.int .u32 a, .int .i64 ln, .int .u32 rid] 27)).alloc (.cells #[.int .u32 ds, .int .u16 dm] 30) = W at hbW kY kD ⊢
    refine (law06_head _).mono ?_
    rintro e w1 ⟨rfl, hb1⟩
    go_wp2_with fail
    have hb2 := below_step hbW hbW.size hb1
    refine (law06_few l A c w1 (hr.below hb2) ho).mono ?_
    rintro e w2 ⟨rfl, hb3⟩
    rw [hfew]
    replace hb2 := below_step hb2 hb2.size hb3
    replace kY := (kY.below' hb1).below' hb3
    replace kD := (kD.below' hb1).below' hb3
    clear hb1 hb3
    go_wp2
    go_ret
    exact ⟨rfl, hb2⟩
  | true =>
    go_enter Try.func4, Try.ntmps4
    go_wp2_with fail
    have hbW : Below w.heap.size w ((w.alloc (.cells #[.int .u32 a, .int .i64 ln, .int .u32 rid] 27)).alloc (.cells #[.int .u32 ds, .int .u16 dm] 30)) := ((Below.refl _ _).alloc (Nat.le_refl _) _).alloc (by simp) _
    have kY := (Blk.new w 27 #[.int .u32 a, .int .i64 ln, .int .u32 rid]).alloc (.cells #[.int .u32 ds, .int .u16 dm] 30)
    have kD := Blk.new (w.alloc (.cells #[.int .u32 a, .int .i64 ln, .int .u32 rid] 27)) 30 #[.int .u32 ds, .int .u16 dm]
    simp only [World.size_alloc] at kD
    generalize (w.alloc (.cells #[.int .u32 a, .int .i64 ln, .int .u32 rid] 27)).alloc (.cells #[.int .u32 ds, .int .u16 dm] 30) = W at hbW kY kD ⊢
    refine (law06_head _).mono ?_
    rintro e w1 ⟨rfl, hb1⟩
    go_wp2_with fail
    have hb2 := below_step hbW hbW.size hb1
    refine (law06_few l A c w1 (hr.below hb2) ho).mono ?_
    rintro e w2 ⟨rfl, hb3⟩
    rw [hfew]
    replace hb2 := below_step hb2 hb2.size hb3
    replace kY := (kY.below' hb1).below' hb3
    replace kD := (kD.below' hb1).below' hb3
    clear hb1 hb3
    have hlw := kD.lt
    go_wp2_with fail
    refine (state_New _ _).mono ?_
    rintro e w3 ⟨hb3, s, g1, g2, rfl, hS, ks, kg1, kg2⟩
    clear hbW
    go_wp2
    go_loopw [25] (fun i wr => ∃ k : Nat, k ≤ l.length ∧ i = .int .i64 k ∧ StAt 121 wr s g1 g2 (St.run ⟨1, 0, [], []⟩ (l.take k)) ∧ Below w2.heap.size w2 wr) (fun i _ => l.length - (intOf i).toNat)
    case atStart => exact ⟨0, Nat.zero_le _, rfl, hS, hb3⟩
    case round =>
      clear hS hb3
      obtain ⟨k, hk, rfl, hS, hw⟩ := hrel
      by_cases hlt : k < l.length
      · obtain ⟨b, off, rfl, hbl, hcell⟩ := (hr.below (below_step hb2 hb2.size hw)).2.2 (by omega)
        have e0 := hcell (k * 9 + 0) _ (recs_get l k 0 hlt (by omega))
        have e1 := hcell (k * 9 + 1) _ (recs_get l k 1 hlt (by omega))
        have e2 := hcell (k * 9 + 2) _ (recs_get l k 2 hlt (by omega))
        have e3 := hcell (k * 9 + 3) _ (recs_get l k 3 hlt (by omega))
        have e4 := hcell (k * 9 + 4) _ (recs_get l k 4 hlt (by omega))
        have e5 := hcell (k * 9 + 5) _ (recs_get l k 5 hlt (by omega))
        have e6 := hcell (k * 9 + 6) _ (recs_get l k 6 hlt (by omega))
        have e7 := hcell (k * 9 + 7) _ (recs_get l k 7 hlt (by omega))
        have e8 := hcell (k * 9 + 8) _ (recs_get l k 8 hlt (by omega))
        have HT := Lib.hid (run_take ⟨1, 0, [], []⟩ l k hlt)
        generalize St.run ⟨1, 0, [], []⟩ (l.take k) = σ at hS HT
        generalize l[k] = r at *
        obtain ⟨kind, gen, lsn, xid, xa, xl, on, rs, rm⟩ := r
        simp only [Rec.cells, List.getElem?_cons_zero, List.getElem?_cons_succ, ← Nat.add_assoc, Nat.add_zero] at e0 e1 e2 e3 e4 e5 e6 e7 e8
        clear hcell
        go_wp2_with fail
        replace kY := kY.below' hw
        replace kD := kD.below' hw
        have kR := Blk.new wr 39 #[.int .i64 kind, .int .u32 gen, .int .u32 lsn, .int .u32 xid, .int .u32 xa, .int .i64 xl, .bool on, .int .u32 rs, .int .u16 rm]
        have hb7 := (Below.refl wr.heap.size wr).alloc (Nat.le_refl _) (.cells #[.int .i64 kind, .int .u32 gen, .int .u32 lsn, .int .u32 xid, .int .u32 xa, .int .i64 xl, .bool on, .int .u32 rs, .int .u16 rm] 39)
        replace kY := kY.below' hb7
        replace kD := kD.below' hb7
        have z1 := hS.1.lt
        have z2 := (hS.2.1).lt
        have z3 := (hS.2.2.1).lt
        replace hS := hS.below hb7
        have hsw := hw.size
        replace hw := below_step hw hw.size hb7
        clear hb7 e0 e1 e2 e3 e4 e5 e6 e7 e8 hbl
        generalize wr.alloc (.cells #[.int .i64 kind, .int .u32 gen, .int .u32 lsn, .int .u32 xid, .int .u32 xa, .int .i64 xl, .bool on, .int .u32 rs, .int .u16 rm] 39) = v0 at *
        generalize hwr : wr.heap.size = pr at *
        replace hwr := Lib.hid hwr
        have hl1 := kY.lt
        have hl2 := kD.lt
        have hl3 := kR.lt
        have y0 := kY.cell 0
        have y1 := kY.cell 1
        have y2 := kY.cell 2
        simp only [List.getElem?_toArray, List.getElem?_cons_zero, List.getElem?_cons_succ] at y0 y1 y2
        have d0 := kD.cell 0
        have d1 := kD.cell 1
        simp only [List.getElem?_toArray, List.getElem?_cons_zero, List.getElem?_cons_succ] at d0 d1
        have r0 := kR.cell 0
        have r1 := kR.cell 1
        have r2 := kR.cell 2
        have r3 := kR.cell 3
        have r4 := kR.cell 4
        have r5 := kR.cell 5
        have r6 := kR.cell 6
        have r7 := kR.cell 7
        have r8 := kR.cell 8
        simp only [List.getElem?_toArray, List.getElem?_cons_zero, List.getElem?_cons_succ] at r0 r1 r2 r3 r4 r5 r6 r7 r8
        refine (state_Lease _ s g1 g2 _ hS).mono ?_
        rintro e w5 ⟨rfl, rfl⟩
        go_wp2_with fail
        refine (state_Floor _ ⟨a, ln, rid⟩ s g1 g2 _ hS).mono ?_
        rintro e w5 ⟨rfl, hb7⟩
        replace kY := kY.below' hb7
        replace kD := kD.below' hb7
        replace kR := kR.below' hb7
        replace hS := hS.below hb7
        replace hw := below_step hw hw.size hb7
        have hl1 := kY.lt
        have hl2 := kD.lt
        have hl3 := kR.lt
        have y0 := kY.cell 0
        have y1 := kY.cell 1
        have y2 := kY.cell 2
        simp only [List.getElem?_toArray, List.getElem?_cons_zero, List.getElem?_cons_succ] at y0 y1 y2
        have d0 := kD.cell 0
        have d1 := kD.cell 1
        simp only [List.getElem?_toArray, List.getElem?_cons_zero, List.getElem?_cons_succ] at d0 d1
        have r0 := kR.cell 0
        have r1 := kR.cell 1
        have r2 := kR.cell 2
        have r3 := kR.cell 3
        have r4 := kR.cell 4
        have r5 := kR.cell 5
        have r6 := kR.cell 6
        have r7 := kR.cell 7
        have r8 := kR.cell 8
        simp only [List.getElem?_toArray, List.getElem?_cons_zero, List.getElem?_cons_succ] at r0 r1 r2 r3 r4 r5 r6 r7 r8
        go_wp2_with fail
        have kF := Blk.new w5 30 #[.int .u32 ((getD0 σ.fl ⟨a, ln, rid⟩)).1, .int .u16 ((getD0 σ.fl ⟨a, ln, rid⟩)).2]
        have hb7 := (Below.refl (w5).heap.size w5).alloc (Nat.le_refl _) (.cells #[.int .u32 ((getD0 σ.fl ⟨a, ln, rid⟩)).1, .int .u16 ((getD0 σ.fl ⟨a, ln, rid⟩)).2] 30)
        replace kY := kY.below' hb7
        replace kD := kD.below' hb7
        replace kR := kR.below' hb7
        replace hS := hS.below hb7
        replace hw := below_step hw hw.size hb7
        have hl1 := kY.lt
        have hl2 := kD.lt
        have hl3 := kR.lt
        have y0 := kY.cell 0
        have y1 := kY.cell 1
        have y2 := kY.cell 2
        simp only [List.getElem?_toArray, List.getElem?_cons_zero, List.getElem?_cons_succ] at y0 y1 y2
        have d0 := kD.cell 0
        have d1 := kD.cell 1
        simp only [List.getElem?_toArray, List.getElem?_cons_zero, List.getElem?_cons_succ] at d0 d1
        have r0 := kR.cell 0
        have r1 := kR.cell 1
        have r2 := kR.cell 2
        have r3 := kR.cell 3
        have r4 := kR.cell 4
        have r5 := kR.cell 5
        have r6 := kR.cell 6
        have r7 := kR.cell 7
        have r8 := kR.cell 8
        simp only [List.getElem?_toArray, List.getElem?_cons_zero, List.getElem?_cons_succ] at r0 r1 r2 r3 r4 r5 r6 r7 r8
        generalize hwN : (w5).alloc (.cells #[.int .u32 ((getD0 σ.fl ⟨a, ln, rid⟩)).1, .int .u16 ((getD0 σ.fl ⟨a, ln, rid⟩)).2] 30) = v1 at *
        generalize hq1 : (w5).heap.size = q1 at *
        replace hq1 := Lib.hid hq1
        replace hwN := Lib.hid hwN
        refine (state_Covers σ ⟨a, ln, rid⟩ (ds, dm) s g1 g2 _ hS).mono ?_
        rintro e w6 ⟨rfl, hb7⟩
        replace kY := kY.below' hb7
        replace kD := kD.below' hb7
        replace kR := kR.below' hb7
        replace hS := hS.below hb7
        replace hw := below_step hw hw.size hb7
        have hl1 := kY.lt
        have hl2 := kD.lt
        have hl3 := kR.lt
        have y0 := kY.cell 0
        have y1 := kY.cell 1
        have y2 := kY.cell 2
        simp only [List.getElem?_toArray, List.getElem?_cons_zero, List.getElem?_cons_succ] at y0 y1 y2
        have d0 := kD.cell 0
        have d1 := kD.cell 1
        simp only [List.getElem?_toArray, List.getElem?_cons_zero, List.getElem?_cons_succ] at d0 d1
        have r0 := kR.cell 0
        have r1 := kR.cell 1
        have r2 := kR.cell 2
        have r3 := kR.cell 3
        have r4 := kR.cell 4
        have r5 := kR.cell 5
        have r6 := kR.cell 6
        have r7 := kR.cell 7
        have r8 := kR.cell 8
        simp only [List.getElem?_toArray, List.getElem?_cons_zero, List.getElem?_cons_succ] at r0 r1 r2 r3 r4 r5 r6 r7 r8
        replace kF := kF.below' hb7
        have hl4 := kF.lt
        have f0 := kF.cell 0
        have f1 := kF.cell 1
        simp only [List.getElem?_toArray, List.getElem?_cons_zero, List.getElem?_cons_succ] at f0 f1
        go_wp2_with fail
        refine (state_Feasible σ ⟨a, ln, rid⟩ (ds, dm) s g1 g2 _ hS).mono ?_
        rintro e w7 ⟨rfl, hb7⟩
        replace kY := kY.below' hb7
        replace kD := kD.below' hb7
        replace kR := kR.below' hb7
        replace hS := hS.below hb7
        replace hw := below_step hw hw.size hb7
        have hl1 := kY.lt
        have hl2 := kD.lt
        have hl3 := kR.lt
        have y0 := kY.cell 0
        have y1 := kY.cell 1
        have y2 := kY.cell 2
        simp only [List.getElem?_toArray, List.getElem?_cons_zero, List.getElem?_cons_succ] at y0 y1 y2
        have d0 := kD.cell 0
        have d1 := kD.cell 1
        simp only [List.getElem?_toArray, List.getElem?_cons_zero, List.getElem?_cons_succ] at d0 d1
        have r0 := kR.cell 0
        have r1 := kR.cell 1
        have r2 := kR.cell 2
        have r3 := kR.cell 3
        have r4 := kR.cell 4
        have r5 := kR.cell 5
        have r6 := kR.cell 6
        have r7 := kR.cell 7
        have r8 := kR.cell 8
        simp only [List.getElem?_toArray, List.getElem?_cons_zero, List.getElem?_cons_succ] at r0 r1 r2 r3 r4 r5 r6 r7 r8
        replace kF := kF.below' hb7
        have hl4 := kF.lt
        have f0 := kF.cell 0
        have f1 := kF.cell 1
        simp only [List.getElem?_toArray, List.getElem?_cons_zero, List.getElem?_cons_succ] at f0 f1
        go_wp2_with fail
        obtain ⟨σ', hσ'⟩ : ∃ σ', σ.apply ⟨kind, gen, lsn, xid, xa, xl, on, rs, rm⟩ = σ' := ⟨_, rfl⟩
        have FL := apply_lease σ ⟨kind, gen, lsn, xid, xa, xl, on, rs, rm⟩
        have FH := apply_had σ ⟨kind, gen, lsn, xid, xa, xl, on, rs, rm⟩ ⟨a, ln, rid⟩
        have FW := apply_worse σ ⟨kind, gen, lsn, xid, xa, xl, on, rs, rm⟩ ⟨a, ln, rid⟩
        have FC := apply_covers σ ⟨kind, gen, lsn, xid, xa, xl, on, rs, rm⟩ ⟨a, ln, rid⟩ (ds, dm)
        have FF := apply_feas σ ⟨kind, gen, lsn, xid, xa, xl, on, rs, rm⟩ ⟨a, ln, rid⟩ (ds, dm)
        refine (state_Apply σ ⟨kind, gen, lsn, xid, xa, xl, on, rs, rm⟩ s g1 g2 _ hS).mono ?_
        rintro e w8 ⟨rfl, hS2, hk1⟩
        have hz := hwr.out
        have hz1 := hq1.out
        rw [hσ'] at hS2 FL FH FW FC FF
        have FX := cov_feas σ'.fl ⟨a, ln, rid⟩ (ds, dm)
        replace HT : Hid (St.run ⟨1, 0, [], []⟩ (l.take (k + 1)) = σ') := by rw [← hσ']; exact HT.out
        replace FL := Lib.hid FL
        replace FH := Lib.hid FH
        replace FW := Lib.hid FW
        replace FC := Lib.hid FC
        replace FF := Lib.hid FF
        replace FX := Lib.hid FX
        replace kY := hk1.blk kY (by simp; omega)
        replace kD := hk1.blk kD (by simp; omega)
        replace kR := hk1.blk kR (by simp; omega)
        replace kF := hk1.blk kF (by simp; omega)
        replace hw := hk1.below hw hw.size (by simp; omega)
        clear hk1 hz hz1 hS
        have hS := hS2
        clear hS2
        clear hσ'
        have hl4 := kF.lt
        have hl1 := kY.lt
        have hl2 := kD.lt
        have hl3 := kR.lt
        have y0 := kY.cell 0
        have y1 := kY.cell 1
        have y2 := kY.cell 2
        simp only [List.getElem?_toArray, List.getElem?_cons_zero, List.getElem?_cons_succ] at y0 y1 y2
        have d0 := kD.cell 0
        have d1 := kD.cell 1
        simp only [List.getElem?_toArray, List.getElem?_cons_zero, List.getElem?_cons_succ] at d0 d1
        have r0 := kR.cell 0
        have r1 := kR.cell 1
        have r2 := kR.cell 2
        have r3 := kR.cell 3
        have r4 := kR.cell 4
        have r5 := kR.cell 5
        have r6 := kR.cell 6
        have r7 := kR.cell 7
        have r8 := kR.cell 8
        simp only [List.getElem?_toArray, List.getElem?_cons_zero, List.getElem?_cons_succ] at r0 r1 r2 r3 r4 r5 r6 r7 r8
        have f0 := kF.cell 0
        have f1 := kF.cell 1
        simp only [List.getElem?_toArray, List.getElem?_cons_zero, List.getElem?_cons_succ] at f0 f1
        go_wp2_with fail
        refine (state_Floor σ' ⟨a, ln, rid⟩ s g1 g2 _ hS).mono ?_
        rintro e w9 ⟨rfl, hb7⟩
        replace kY := kY.below' hb7
        replace kD := kD.below' hb7
        replace kR := kR.below' hb7
        replace hS := hS.below hb7
        replace hw := below_step hw hw.size hb7
        have hl1 := kY.lt
        have hl2 := kD.lt
        have hl3 := kR.lt
        have y0 := kY.cell 0
        have y1 := kY.cell 1
        have y2 := kY.cell 2
        simp only [List.getElem?_toArray, List.getElem?_cons_zero, List.getElem?_cons_succ] at y0 y1 y2
        have d0 := kD.cell 0
        have d1 := kD.cell 1
        simp only [List.getElem?_toArray, List.getElem?_cons_zero, List.getElem?_cons_succ] at d0 d1
        have r0 := kR.cell 0
        have r1 := kR.cell 1
        have r2 := kR.cell 2
        have r3 := kR.cell 3
        have r4 := kR.cell 4
        have r5 := kR.cell 5
        have r6 := kR.cell 6
        have r7 := kR.cell 7
        have r8 := kR.cell 8
        simp only [List.getElem?_toArray, List.getElem?_cons_zero, List.getElem?_cons_succ] at r0 r1 r2 r3 r4 r5 r6 r7 r8
        replace kF := kF.below' hb7
        have hl4 := kF.lt
        have f0 := kF.cell 0
        have f1 := kF.cell 1
        simp only [List.getElem?_toArray, List.getElem?_cons_zero, List.getElem?_cons_succ] at f0 f1
        go_wp2_with fail
        have hb8 := (Below.refl w9.heap.size w9).alloc (Nat.le_refl _) (.cells #[.int .u32 (getD0 σ'.fl ⟨a, ln, rid⟩).1, .int .u16 (getD0 σ'.fl ⟨a, ln, rid⟩).2] 30)
        replace kF := kF.below' hb8
        clear hb8
        have kG := Blk.new w9 30 #[.int .u32 ((getD0 σ'.fl ⟨a, ln, rid⟩)).1, .int .u16 ((getD0 σ'.fl ⟨a, ln, rid⟩)).2]
        have hb7 := (Below.refl (w9).heap.size w9).alloc (Nat.le_refl _) (.cells #[.int .u32 ((getD0 σ'.fl ⟨a, ln, rid⟩)).1, .int .u16 ((getD0 σ'.fl ⟨a, ln, rid⟩)).2] 30)
        replace kY := kY.below' hb7
        replace kD := kD.below' hb7
        replace kR := kR.below' hb7
        replace hS := hS.below hb7
        replace hw := below_step hw hw.size hb7
        have hl1 := kY.lt
        have hl2 := kD.lt
        have hl3 := kR.lt
        have y0 := kY.cell 0
        have y1 := kY.cell 1
        have y2 := kY.cell 2
        simp only [List.getElem?_toArray, List.getElem?_cons_zero, List.getElem?_cons_succ] at y0 y1 y2
        have d0 := kD.cell 0
        have d1 := kD.cell 1
        simp only [List.getElem?_toArray, List.getElem?_cons_zero, List.getElem?_cons_succ] at d0 d1
        have r0 := kR.cell 0
        have r1 := kR.cell 1
        have r2 := kR.cell 2
        have r3 := kR.cell 3
        have r4 := kR.cell 4
        have r5 := kR.cell 5
        have r6 := kR.cell 6
        have r7 := kR.cell 7
        have r8 := kR.cell 8
        simp only [List.getElem?_toArray, List.getElem?_cons_zero, List.getElem?_cons_succ] at r0 r1 r2 r3 r4 r5 r6 r7 r8
        generalize hwN : (w9).alloc (.cells #[.int .u32 ((getD0 σ'.fl ⟨a, ln, rid⟩)).1, .int .u16 ((getD0 σ'.fl ⟨a, ln, rid⟩)).2] 30) = v2 at *
        generalize hq2 : (w9).heap.size = q2 at *
        replace hq2 := Lib.hid hq2
        replace hwN := Lib.hid hwN
        have hl5 := kG.lt
        have hl6 := kF.lt
        have x0 := kG.cell 0
        have x1 := kG.cell 1
        simp only [List.getElem?_toArray, List.getElem?_cons_zero, List.getElem?_cons_succ] at x0 x1
        have f0 := kF.cell 0
        have f1 := kF.cell 1
        simp only [List.getElem?_toArray, List.getElem?_cons_zero, List.getElem?_cons_succ] at f0 f1
        refine (state_Lease _ s g1 g2 _ hS).mono ?_
        rintro e w5 ⟨rfl, rfl⟩
        have hL : decide (σ'.lease < σ.lease) = false := by have := FL.out; simp; omega
        cases hC' : coversB σ'.fl (⟨a, ln, rid⟩ : Key) (ds, dm) with
        | true =>
          cases hF' : feasB σ'.fl (⟨a, ln, rid⟩ : Key) (ds, dm) with
          | true =>
            have hF := FF.out hF'
            have hd : (dm != 65535) = false := by have := FX.out hC' hF'; simpa using this
            cases hC : coversB σ.fl (⟨a, ln, rid⟩ : Key) (ds, dm) with
            | true =>
              cases hH : (getM σ.fl (⟨a, ln, rid⟩ : Key)).isSome with
              | true =>
                have hH' := FH.out hH
                have hB := FW.out hH
                go_wp2_with fail
                refine (law03_Better _ _ _ _ _).mono ?_
                rintro e wb ⟨rfl, hb7⟩
                rw [hB]
                replace kY := kY.below' hb7
                replace kD := kD.below' hb7
                replace hS := hS.below hb7
                replace hw := below_step hw hw.size hb7
                clear hb7
                have hl1 := kY.lt
                have hl2 := kD.lt
                have y0 := kY.cell 0
                have y1 := kY.cell 1
                have y2 := kY.cell 2
                simp only [List.getElem?_toArray, List.getElem?_cons_zero, List.getElem?_cons_succ] at y0 y1 y2
                have d0 := kD.cell 0
                have d1 := kD.cell 1
                simp only [List.getElem?_toArray, List.getElem?_cons_zero, List.getElem?_cons_succ] at d0 d1
                go_wp2_with fail
                refine (state_Covers σ' ⟨a, ln, rid⟩ (ds, dm) s g1 g2 _ hS).mono ?_
                rintro e wb ⟨rfl, hb7⟩
                rw [hC']
                replace kY := kY.below' hb7
                replace kD := kD.below' hb7
                replace hS := hS.below hb7
                replace hw := below_step hw hw.size hb7
                clear hb7
                have hl1 := kY.lt
                have hl2 := kD.lt
                have y0 := kY.cell 0
                have y1 := kY.cell 1
                have y2 := kY.cell 2
                simp only [List.getElem?_toArray, List.getElem?_cons_zero, List.getElem?_cons_succ] at y0 y1 y2
                have d0 := kD.cell 0
                have d1 := kD.cell 1
                simp only [List.getElem?_toArray, List.getElem?_cons_zero, List.getElem?_cons_succ] at d0 d1
                go_wp2_with fail
                refine (state_Feasible σ' ⟨a, ln, rid⟩ (ds, dm) s g1 g2 _ hS).mono ?_
                rintro e wb ⟨rfl, hb7⟩
                rw [hF']
                replace kY := kY.below' hb7
                replace kD := kD.below' hb7
                replace hS := hS.below hb7
                replace hw := below_step hw hw.size hb7
                clear hb7
                have hl1 := kY.lt
                have hl2 := kD.lt
                have y0 := kY.cell 0
                have y1 := kY.cell 1
                have y2 := kY.cell 2
                simp only [List.getElem?_toArray, List.getElem?_cons_zero, List.getElem?_cons_succ] at y0 y1 y2
                have d0 := kD.cell 0
                have d1 := kD.cell 1
                simp only [List.getElem?_toArray, List.getElem?_cons_zero, List.getElem?_cons_succ] at d0 d1
                go_wp2_with fail
                refine (state_Covers σ' ⟨a, ln, rid⟩ (ds, dm) s g1 g2 _ hS).mono ?_
                rintro e wb ⟨rfl, hb7⟩
                rw [hC']
                replace kY := kY.below' hb7
                replace kD := kD.below' hb7
                replace hS := hS.below hb7
                replace hw := below_step hw hw.size hb7
                clear hb7
                have hl1 := kY.lt
                have hl2 := kD.lt
                have y0 := kY.cell 0
                have y1 := kY.cell 1
                have y2 := kY.cell 2
                simp only [List.getElem?_toArray, List.getElem?_cons_zero, List.getElem?_cons_succ] at y0 y1 y2
                have d0 := kD.cell 0
                have d1 := kD.cell 1
                simp only [List.getElem?_toArray, List.getElem?_cons_zero, List.getElem?_cons_succ] at d0 d1
                go_wp2_with fail
                refine (state_Feasible σ' ⟨a, ln, rid⟩ (ds, dm) s g1 g2 _ hS).mono ?_
                rintro e wb ⟨rfl, hb7⟩
                rw [hF']
                replace kY := kY.below' hb7
                replace kD := kD.below' hb7
                replace hS := hS.below hb7
                replace hw := below_step hw hw.size hb7
                clear hb7
                have hl1 := kY.lt
                have hl2 := kD.lt
                have y0 := kY.cell 0
                have y1 := kY.cell 1
                have y2 := kY.cell 2
                simp only [List.getElem?_toArray, List.getElem?_cons_zero, List.getElem?_cons_succ] at y0 y1 y2
                have d0 := kD.cell 0
                have d1 := kD.cell 1
                simp only [List.getElem?_toArray, List.getElem?_cons_zero, List.getElem?_cons_succ] at d0 d1
                go_wp2
                go_roundw
                case rel => exact ⟨k + 1, by omega, by go_num, by rw [HT.out]; exact hS, hw⟩
                case measure => simp [intOf]; omega
              | false =>
                go_wp2_with fail
                refine (state_Covers σ' ⟨a, ln, rid⟩ (ds, dm) s g1 g2 _ hS).mono ?_
                rintro e wb ⟨rfl, hb7⟩
                rw [hC']
                replace kY := kY.below' hb7
                replace kD := kD.below' hb7
                replace hS := hS.below hb7
                replace hw := below_step hw hw.size hb7
                clear hb7
                have hl1 := kY.lt
                have hl2 := kD.lt
                have y0 := kY.cell 0
                have y1 := kY.cell 1
                have y2 := kY.cell 2
                simp only [List.getElem?_toArray, List.getElem?_cons_zero, List.getElem?_cons_succ] at y0 y1 y2
                have d0 := kD.cell 0
                have d1 := kD.cell 1
                simp only [List.getElem?_toArray, List.getElem?_cons_zero, List.getElem?_cons_succ] at d0 d1
                go_wp2_with fail
                refine (state_Feasible σ' ⟨a, ln, rid⟩ (ds, dm) s g1 g2 _ hS).mono ?_
                rintro e wb ⟨rfl, hb7⟩
                rw [hF']
                replace kY := kY.below' hb7
                replace kD := kD.below' hb7
                replace hS := hS.below hb7
                replace hw := below_step hw hw.size hb7
                clear hb7
                have hl1 := kY.lt
                have hl2 := kD.lt
                have y0 := kY.cell 0
                have y1 := kY.cell 1
                have y2 := kY.cell 2
                simp only [List.getElem?_toArray, List.getElem?_cons_zero, List.getElem?_cons_succ] at y0 y1 y2
                have d0 := kD.cell 0
                have d1 := kD.cell 1
                simp only [List.getElem?_toArray, List.getElem?_cons_zero, List.getElem?_cons_succ] at d0 d1
                go_wp2_with fail
                refine (state_Covers σ' ⟨a, ln, rid⟩ (ds, dm) s g1 g2 _ hS).mono ?_
                rintro e wb ⟨rfl, hb7⟩
                rw [hC']
                replace kY := kY.below' hb7
                replace kD := kD.below' hb7
                replace hS := hS.below hb7
                replace hw := below_step hw hw.size hb7
                clear hb7
                have hl1 := kY.lt
                have hl2 := kD.lt
                have y0 := kY.cell 0
                have y1 := kY.cell 1
                have y2 := kY.cell 2
                simp only [List.getElem?_toArray, List.getElem?_cons_zero, List.getElem?_cons_succ] at y0 y1 y2
                have d0 := kD.cell 0
                have d1 := kD.cell 1
                simp only [List.getElem?_toArray, List.getElem?_cons_zero, List.getElem?_cons_succ] at d0 d1
                go_wp2_with fail
                refine (state_Feasible σ' ⟨a, ln, rid⟩ (ds, dm) s g1 g2 _ hS).mono ?_
                rintro e wb ⟨rfl, hb7⟩
                rw [hF']
                replace kY := kY.below' hb7
                replace kD := kD.below' hb7
                replace hS := hS.below hb7
                replace hw := below_step hw hw.size hb7
                clear hb7
                have hl1 := kY.lt
                have hl2 := kD.lt
                have y0 := kY.cell 0
                have y1 := kY.cell 1
                have y2 := kY.cell 2
                simp only [List.getElem?_toArray, List.getElem?_cons_zero, List.getElem?_cons_succ] at y0 y1 y2
                have d0 := kD.cell 0
                have d1 := kD.cell 1
                simp only [List.getElem?_toArray, List.getElem?_cons_zero, List.getElem?_cons_succ] at d0 d1
                go_wp2
                go_roundw
                case rel => exact ⟨k + 1, by omega, by go_num, by rw [HT.out]; exact hS, hw⟩
                case measure => simp [intOf]; omega
            | false =>
              cases hH : (getM σ.fl (⟨a, ln, rid⟩ : Key)).isSome with
              | true =>
                have hH' := FH.out hH
                have hB := FW.out hH
                go_wp2_with fail
                refine (law03_Better _ _ _ _ _).mono ?_
                rintro e wb ⟨rfl, hb7⟩
                rw [hB]
                replace kY := kY.below' hb7
                replace kD := kD.below' hb7
                replace hS := hS.below hb7
                replace hw := below_step hw hw.size hb7
                clear hb7
                have hl1 := kY.lt
                have hl2 := kD.lt
                have y0 := kY.cell 0
                have y1 := kY.cell 1
                have y2 := kY.cell 2
                simp only [List.getElem?_toArray, List.getElem?_cons_zero, List.getElem?_cons_succ] at y0 y1 y2
                have d0 := kD.cell 0
                have d1 := kD.cell 1
                simp only [List.getElem?_toArray, List.getElem?_cons_zero, List.getElem?_cons_succ] at d0 d1
                go_wp2_with fail
                refine (state_Feasible σ' ⟨a, ln, rid⟩ (ds, dm) s g1 g2 _ hS).mono ?_
                rintro e wb ⟨rfl, hb7⟩
                rw [hF']
                replace kY := kY.below' hb7
                replace kD := kD.below' hb7
                replace hS := hS.below hb7
                replace hw := below_step hw hw.size hb7
                clear hb7
                have hl1 := kY.lt
                have hl2 := kD.lt
                have y0 := kY.cell 0
                have y1 := kY.cell 1
                have y2 := kY.cell 2
                simp only [List.getElem?_toArray, List.getElem?_cons_zero, List.getElem?_cons_succ] at y0 y1 y2
                have d0 := kD.cell 0
                have d1 := kD.cell 1
                simp only [List.getElem?_toArray, List.getElem?_cons_zero, List.getElem?_cons_succ] at d0 d1
                go_wp2_with fail
                refine (state_Covers σ' ⟨a, ln, rid⟩ (ds, dm) s g1 g2 _ hS).mono ?_
                rintro e wb ⟨rfl, hb7⟩
                rw [hC']
                replace kY := kY.below' hb7
                replace kD := kD.below' hb7
                replace hS := hS.below hb7
                replace hw := below_step hw hw.size hb7
                clear hb7
                have hl1 := kY.lt
                have hl2 := kD.lt
                have y0 := kY.cell 0
                have y1 := kY.cell 1
                have y2 := kY.cell 2
                simp only [List.getElem?_toArray, List.getElem?_cons_zero, List.getElem?_cons_succ] at y0 y1 y2
                have d0 := kD.cell 0
                have d1 := kD.cell 1
                simp only [List.getElem?_toArray, List.getElem?_cons_zero, List.getElem?_cons_succ] at d0 d1
                go_wp2_with fail
                refine (state_Feasible σ' ⟨a, ln, rid⟩ (ds, dm) s g1 g2 _ hS).mono ?_
                rintro e wb ⟨rfl, hb7⟩
                rw [hF']
                replace kY := kY.below' hb7
                replace kD := kD.below' hb7
                replace hS := hS.below hb7
                replace hw := below_step hw hw.size hb7
                clear hb7
                have hl1 := kY.lt
                have hl2 := kD.lt
                have y0 := kY.cell 0
                have y1 := kY.cell 1
                have y2 := kY.cell 2
                simp only [List.getElem?_toArray, List.getElem?_cons_zero, List.getElem?_cons_succ] at y0 y1 y2
                have d0 := kD.cell 0
                have d1 := kD.cell 1
                simp only [List.getElem?_toArray, List.getElem?_cons_zero, List.getElem?_cons_succ] at d0 d1
                go_wp2
                go_roundw
                case rel => exact ⟨k + 1, by omega, by go_num, by rw [HT.out]; exact hS, hw⟩
                case measure => simp [intOf]; omega
              | false =>
                go_wp2_with fail
                refine (state_Feasible σ' ⟨a, ln, rid⟩ (ds, dm) s g1 g2 _ hS).mono ?_
                rintro e wb ⟨rfl, hb7⟩
                rw [hF']
                replace kY := kY.below' hb7
                replace kD := kD.below' hb7
                replace hS := hS.below hb7
                replace hw := below_step hw hw.size hb7
                clear hb7
                have hl1 := kY.lt
                have hl2 := kD.lt
                have y0 := kY.cell 0
                have y1 := kY.cell 1
                have y2 := kY.cell 2
                simp only [List.getElem?_toArray, List.getElem?_cons_zero, List.getElem?_cons_succ] at y0 y1 y2
                have d0 := kD.cell 0
                have d1 := kD.cell 1
                simp only [List.getElem?_toArray, List.getElem?_cons_zero, List.getElem?_cons_succ] at d0 d1
                go_wp2_with fail
                refine (state_Covers σ' ⟨a, ln, rid⟩ (ds, dm) s g1 g2 _ hS).mono ?_
                rintro e wb ⟨rfl, hb7⟩
                rw [hC']
                replace kY := kY.below' hb7
                replace kD := kD.below' hb7
                replace hS := hS.below hb7
                replace hw := below_step hw hw.size hb7
                clear hb7
                have hl1 := kY.lt
                have hl2 := kD.lt
                have y0 := kY.cell 0
                have y1 := kY.cell 1
                have y2 := kY.cell 2
                simp only [List.getElem?_toArray, List.getElem?_cons_zero, List.getElem?_cons_succ] at y0 y1 y2
                have d0 := kD.cell 0
                have d1 := kD.cell 1
                simp only [List.getElem?_toArray, List.getElem?_cons_zero, List.getElem?_cons_succ] at d0 d1
                go_wp2_with fail
                refine (state_Feasible σ' ⟨a, ln, rid⟩ (ds, dm) s g1 g2 _ hS).mono ?_
                rintro e wb ⟨rfl, hb7⟩
                rw [hF']
                replace kY := kY.below' hb7
                replace kD := kD.below' hb7
                replace hS := hS.below hb7
                replace hw := below_step hw hw.size hb7
                clear hb7
                have hl1 := kY.lt
                have hl2 := kD.lt
                have y0 := kY.cell 0
                have y1 := kY.cell 1
                have y2 := kY.cell 2
                simp only [List.getElem?_toArray, List.getElem?_cons_zero, List.getElem?_cons_succ] at y0 y1 y2
                have d0 := kD.cell 0
                have d1 := kD.cell 1
                simp only [List.getElem?_toArray, List.getElem?_cons_zero, List.getElem?_cons_succ] at d0 d1
                go_wp2
                go_roundw
                case rel => exact ⟨k + 1, by omega, by go_num, by rw [HT.out]; exact hS, hw⟩
                case measure => simp [intOf]; omega
          | false =>
            cases hC : coversB σ.fl (⟨a, ln, rid⟩ : Key) (ds, dm) with
            | true =>
              cases hH : (getM σ.fl (⟨a, ln, rid⟩ : Key)).isSome with
              | true =>
                have hH' := FH.out hH
                have hB := FW.out hH
                go_wp2_with fail
                refine (law03_Better _ _ _ _ _).mono ?_
                rintro e wb ⟨rfl, hb7⟩
                rw [hB]
                replace kY := kY.below' hb7
                replace kD := kD.below' hb7
                replace hS := hS.below hb7
                replace hw := below_step hw hw.size hb7
                clear hb7
                have hl1 := kY.lt
                have hl2 := kD.lt
                have y0 := kY.cell 0
                have y1 := kY.cell 1
                have y2 := kY.cell 2
                simp only [List.getElem?_toArray, List.getElem?_cons_zero, List.getElem?_cons_succ] at y0 y1 y2
                have d0 := kD.cell 0
                have d1 := kD.cell 1
                simp only [List.getElem?_toArray, List.getElem?_cons_zero, List.getElem?_cons_succ] at d0 d1
                go_wp2_with fail
                refine (state_Covers σ' ⟨a, ln, rid⟩ (ds, dm) s g1 g2 _ hS).mono ?_
                rintro e wb ⟨rfl, hb7⟩
                rw [hC']
                replace kY := kY.below' hb7
                replace kD := kD.below' hb7
                replace hS := hS.below hb7
                replace hw := below_step hw hw.size hb7
                clear hb7
                have hl1 := kY.lt
                have hl2 := kD.lt
                have y0 := kY.cell 0
                have y1 := kY.cell 1
                have y2 := kY.cell 2
                simp only [List.getElem?_toArray, List.getElem?_cons_zero, List.getElem?_cons_succ] at y0 y1 y2
                have d0 := kD.cell 0
                have d1 := kD.cell 1
                simp only [List.getElem?_toArray, List.getElem?_cons_zero, List.getElem?_cons_succ] at d0 d1
                go_wp2_with fail
                refine (state_Feasible σ' ⟨a, ln, rid⟩ (ds, dm) s g1 g2 _ hS).mono ?_
                rintro e wb ⟨rfl, hb7⟩
                rw [hF']
                replace kY := kY.below' hb7
                replace kD := kD.below' hb7
                replace hS := hS.below hb7
                replace hw := below_step hw hw.size hb7
                clear hb7
                have hl1 := kY.lt
                have hl2 := kD.lt
                have y0 := kY.cell 0
                have y1 := kY.cell 1
                have y2 := kY.cell 2
                simp only [List.getElem?_toArray, List.getElem?_cons_zero, List.getElem?_cons_succ] at y0 y1 y2
                have d0 := kD.cell 0
                have d1 := kD.cell 1
                simp only [List.getElem?_toArray, List.getElem?_cons_zero, List.getElem?_cons_succ] at d0 d1
                go_wp2_with fail
                refine (state_Covers σ' ⟨a, ln, rid⟩ (ds, dm) s g1 g2 _ hS).mono ?_
                rintro e wb ⟨rfl, hb7⟩
                rw [hC']
                replace kY := kY.below' hb7
                replace kD := kD.below' hb7
                replace hS := hS.below hb7
                replace hw := below_step hw hw.size hb7
                clear hb7
                have hl1 := kY.lt
                have hl2 := kD.lt
                have y0 := kY.cell 0
                have y1 := kY.cell 1
                have y2 := kY.cell 2
                simp only [List.getElem?_toArray, List.getElem?_cons_zero, List.getElem?_cons_succ] at y0 y1 y2
                have d0 := kD.cell 0
                have d1 := kD.cell 1
                simp only [List.getElem?_toArray, List.getElem?_cons_zero, List.getElem?_cons_succ] at d0 d1
                go_wp2_with fail
                refine (state_Feasible σ' ⟨a, ln, rid⟩ (ds, dm) s g1 g2 _ hS).mono ?_
                rintro e wb ⟨rfl, hb7⟩
                rw [hF']
                replace kY := kY.below' hb7
                replace kD := kD.below' hb7
                replace hS := hS.below hb7
                replace hw := below_step hw hw.size hb7
                clear hb7
                have hl1 := kY.lt
                have hl2 := kD.lt
                have y0 := kY.cell 0
                have y1 := kY.cell 1
                have y2 := kY.cell 2
                simp only [List.getElem?_toArray, List.getElem?_cons_zero, List.getElem?_cons_succ] at y0 y1 y2
                have d0 := kD.cell 0
                have d1 := kD.cell 1
                simp only [List.getElem?_toArray, List.getElem?_cons_zero, List.getElem?_cons_succ] at d0 d1
                go_wp2
                go_roundw
                case rel => exact ⟨k + 1, by omega, by go_num, by rw [HT.out]; exact hS, hw⟩
                case measure => simp [intOf]; omega
              | false =>
                go_wp2_with fail
                refine (state_Covers σ' ⟨a, ln, rid⟩ (ds, dm) s g1 g2 _ hS).mono ?_
                rintro e wb ⟨rfl, hb7⟩
                rw [hC']
                replace kY := kY.below' hb7
                replace kD := kD.below' hb7
                replace hS := hS.below hb7
                replace hw := below_step hw hw.size hb7
                clear hb7
                have hl1 := kY.lt
                have hl2 := kD.lt
                have y0 := kY.cell 0
                have y1 := kY.cell 1
                have y2 := kY.cell 2
                simp only [List.getElem?_toArray, List.getElem?_cons_zero, List.getElem?_cons_succ] at y0 y1 y2
                have d0 := kD.cell 0
                have d1 := kD.cell 1
                simp only [List.getElem?_toArray, List.getElem?_cons_zero, List.getElem?_cons_succ] at d0 d1
                go_wp2_with fail
                refine (state_Feasible σ' ⟨a, ln, rid⟩ (ds, dm) s g1 g2 _ hS).mono ?_
                rintro e wb ⟨rfl, hb7⟩
                rw [hF']
                replace kY := kY.below' hb7
                replace kD := kD.below' hb7
                replace hS := hS.below hb7
                replace hw := below_step hw hw.size hb7
                clear hb7
                have hl1 := kY.lt
                have hl2 := kD.lt
                have y0 := kY.cell 0
                have y1 := kY.cell 1
                have y2 := kY.cell 2
                simp only [List.getElem?_toArray, List.getElem?_cons_zero, List.getElem?_cons_succ] at y0 y1 y2
                have d0 := kD.cell 0
                have d1 := kD.cell 1
                simp only [List.getElem?_toArray, List.getElem?_cons_zero, List.getElem?_cons_succ] at d0 d1
                go_wp2_with fail
                refine (state_Covers σ' ⟨a, ln, rid⟩ (ds, dm) s g1 g2 _ hS).mono ?_
                rintro e wb ⟨rfl, hb7⟩
                rw [hC']
                replace kY := kY.below' hb7
                replace kD := kD.below' hb7
                replace hS := hS.below hb7
                replace hw := below_step hw hw.size hb7
                clear hb7
                have hl1 := kY.lt
                have hl2 := kD.lt
                have y0 := kY.cell 0
                have y1 := kY.cell 1
                have y2 := kY.cell 2
                simp only [List.getElem?_toArray, List.getElem?_cons_zero, List.getElem?_cons_succ] at y0 y1 y2
                have d0 := kD.cell 0
                have d1 := kD.cell 1
                simp only [List.getElem?_toArray, List.getElem?_cons_zero, List.getElem?_cons_succ] at d0 d1
                go_wp2_with fail
                refine (state_Feasible σ' ⟨a, ln, rid⟩ (ds, dm) s g1 g2 _ hS).mono ?_
                rintro e wb ⟨rfl, hb7⟩
                rw [hF']
                replace kY := kY.below' hb7
                replace kD := kD.below' hb7
                replace hS := hS.below hb7
                replace hw := below_step hw hw.size hb7
                clear hb7
                have hl1 := kY.lt
                have hl2 := kD.lt
                have y0 := kY.cell 0
                have y1 := kY.cell 1
                have y2 := kY.cell 2
                simp only [List.getElem?_toArray, List.getElem?_cons_zero, List.getElem?_cons_succ] at y0 y1 y2
                have d0 := kD.cell 0
                have d1 := kD.cell 1
                simp only [List.getElem?_toArray, List.getElem?_cons_zero, List.getElem?_cons_succ] at d0 d1
                go_wp2
                go_roundw
                case rel => exact ⟨k + 1, by omega, by go_num, by rw [HT.out]; exact hS, hw⟩
                case measure => simp [intOf]; omega
            | false =>
              cases hH : (getM σ.fl (⟨a, ln, rid⟩ : Key)).isSome with
              | true =>
                have hH' := FH.out hH
                have hB := FW.out hH
                go_wp2_with fail
                refine (law03_Better _ _ _ _ _).mono ?_
                rintro e wb ⟨rfl, hb7⟩
                rw [hB]
                replace kY := kY.below' hb7
                replace kD := kD.below' hb7
                replace hS := hS.below hb7
                replace hw := below_step hw hw.size hb7
                clear hb7
                have hl1 := kY.lt
                have hl2 := kD.lt
                have y0 := kY.cell 0
                have y1 := kY.cell 1
                have y2 := kY.cell 2
                simp only [List.getElem?_toArray, List.getElem?_cons_zero, List.getElem?_cons_succ] at y0 y1 y2
                have d0 := kD.cell 0
                have d1 := kD.cell 1
                simp only [List.getElem?_toArray, List.getElem?_cons_zero, List.getElem?_cons_succ] at d0 d1
                go_wp2_with fail
                refine (state_Feasible σ' ⟨a, ln, rid⟩ (ds, dm) s g1 g2 _ hS).mono ?_
                rintro e wb ⟨rfl, hb7⟩
                rw [hF']
                replace kY := kY.below' hb7
                replace kD := kD.below' hb7
                replace hS := hS.below hb7
                replace hw := below_step hw hw.size hb7
                clear hb7
                have hl1 := kY.lt
                have hl2 := kD.lt
                have y0 := kY.cell 0
                have y1 := kY.cell 1
                have y2 := kY.cell 2
                simp only [List.getElem?_toArray, List.getElem?_cons_zero, List.getElem?_cons_succ] at y0 y1 y2
                have d0 := kD.cell 0
                have d1 := kD.cell 1
                simp only [List.getElem?_toArray, List.getElem?_cons_zero, List.getElem?_cons_succ] at d0 d1
                go_wp2_with fail
                refine (state_Covers σ' ⟨a, ln, rid⟩ (ds, dm) s g1 g2 _ hS).mono ?_
                rintro e wb ⟨rfl, hb7⟩
                rw [hC']
                replace kY := kY.below' hb7
                replace kD := kD.below' hb7
                replace hS := hS.below hb7
                replace hw := below_step hw hw.size hb7
                clear hb7
                have hl1 := kY.lt
                have hl2 := kD.lt
                have y0 := kY.cell 0
                have y1 := kY.cell 1
                have y2 := kY.cell 2
                simp only [List.getElem?_toArray, List.getElem?_cons_zero, List.getElem?_cons_succ] at y0 y1 y2
                have d0 := kD.cell 0
                have d1 := kD.cell 1
                simp only [List.getElem?_toArray, List.getElem?_cons_zero, List.getElem?_cons_succ] at d0 d1
                go_wp2_with fail
                refine (state_Feasible σ' ⟨a, ln, rid⟩ (ds, dm) s g1 g2 _ hS).mono ?_
                rintro e wb ⟨rfl, hb7⟩
                rw [hF']
                replace kY := kY.below' hb7
                replace kD := kD.below' hb7
                replace hS := hS.below hb7
                replace hw := below_step hw hw.size hb7
                clear hb7
                have hl1 := kY.lt
                have hl2 := kD.lt
                have y0 := kY.cell 0
                have y1 := kY.cell 1
                have y2 := kY.cell 2
                simp only [List.getElem?_toArray, List.getElem?_cons_zero, List.getElem?_cons_succ] at y0 y1 y2
                have d0 := kD.cell 0
                have d1 := kD.cell 1
                simp only [List.getElem?_toArray, List.getElem?_cons_zero, List.getElem?_cons_succ] at d0 d1
                go_wp2
                go_roundw
                case rel => exact ⟨k + 1, by omega, by go_num, by rw [HT.out]; exact hS, hw⟩
                case measure => simp [intOf]; omega
              | false =>
                go_wp2_with fail
                refine (state_Feasible σ' ⟨a, ln, rid⟩ (ds, dm) s g1 g2 _ hS).mono ?_
                rintro e wb ⟨rfl, hb7⟩
                rw [hF']
                replace kY := kY.below' hb7
                replace kD := kD.below' hb7
                replace hS := hS.below hb7
                replace hw := below_step hw hw.size hb7
                clear hb7
                have hl1 := kY.lt
                have hl2 := kD.lt
                have y0 := kY.cell 0
                have y1 := kY.cell 1
                have y2 := kY.cell 2
                simp only [List.getElem?_toArray, List.getElem?_cons_zero, List.getElem?_cons_succ] at y0 y1 y2
                have d0 := kD.cell 0
                have d1 := kD.cell 1
                simp only [List.getElem?_toArray, List.getElem?_cons_zero, List.getElem?_cons_succ] at d0 d1
                go_wp2_with fail
                refine (state_Covers σ' ⟨a, ln, rid⟩ (ds, dm) s g1 g2 _ hS).mono ?_
                rintro e wb ⟨rfl, hb7⟩
                rw [hC']
                replace kY := kY.below' hb7
                replace kD := kD.below' hb7
                replace hS := hS.below hb7
                replace hw := below_step hw hw.size hb7
                clear hb7
                have hl1 := kY.lt
                have hl2 := kD.lt
                have y0 := kY.cell 0
                have y1 := kY.cell 1
                have y2 := kY.cell 2
                simp only [List.getElem?_toArray, List.getElem?_cons_zero, List.getElem?_cons_succ] at y0 y1 y2
                have d0 := kD.cell 0
                have d1 := kD.cell 1
                simp only [List.getElem?_toArray, List.getElem?_cons_zero, List.getElem?_cons_succ] at d0 d1
                go_wp2_with fail
                refine (state_Feasible σ' ⟨a, ln, rid⟩ (ds, dm) s g1 g2 _ hS).mono ?_
                rintro e wb ⟨rfl, hb7⟩
                rw [hF']
                replace kY := kY.below' hb7
                replace kD := kD.below' hb7
                replace hS := hS.below hb7
                replace hw := below_step hw hw.size hb7
                clear hb7
                have hl1 := kY.lt
                have hl2 := kD.lt
                have y0 := kY.cell 0
                have y1 := kY.cell 1
                have y2 := kY.cell 2
                simp only [List.getElem?_toArray, List.getElem?_cons_zero, List.getElem?_cons_succ] at y0 y1 y2
                have d0 := kD.cell 0
                have d1 := kD.cell 1
                simp only [List.getElem?_toArray, List.getElem?_cons_zero, List.getElem?_cons_succ] at d0 d1
                go_wp2
                go_roundw
                case rel => exact ⟨k + 1, by omega, by go_num, by rw [HT.out]; exact hS, hw⟩
                case measure => simp [intOf]; omega
        | false =>
          cases hF' : feasB σ'.fl (⟨a, ln, rid⟩ : Key) (ds, dm) with
          | true =>
            have hF := FF.out hF'
            have hC : coversB σ.fl (⟨a, ln, rid⟩ : Key) (ds, dm) = false := by
              cases h : coversB σ.fl (⟨a, ln, rid⟩ : Key) (ds, dm) with
              | false => rfl
              | true => rw [FC.out h] at hC'; cases hC'
            cases hH : (getM σ.fl (⟨a, ln, rid⟩ : Key)).isSome with
            | true =>
              have hH' := FH.out hH
              have hB := FW.out hH
              go_wp2_with fail
              refine (law03_Better _ _ _ _ _).mono ?_
              rintro e wb ⟨rfl, hb7⟩
              rw [hB]
              replace kY := kY.below' hb7
              replace kD := kD.below' hb7
              replace hS := hS.below hb7
              replace hw := below_step hw hw.size hb7
              clear hb7
              have hl1 := kY.lt
              have hl2 := kD.lt
              have y0 := kY.cell 0
              have y1 := kY.cell 1
              have y2 := kY.cell 2
              simp only [List.getElem?_toArray, List.getElem?_cons_zero, List.getElem?_cons_succ] at y0 y1 y2
              have d0 := kD.cell 0
              have d1 := kD.cell 1
              simp only [List.getElem?_toArray, List.getElem?_cons_zero, List.getElem?_cons_succ] at d0 d1
              go_wp2_with fail
              refine (state_Feasible σ' ⟨a, ln, rid⟩ (ds, dm) s g1 g2 _ hS).mono ?_
              rintro e wb ⟨rfl, hb7⟩
              rw [hF']
              replace kY := kY.below' hb7
              replace kD := kD.below' hb7
              replace hS := hS.below hb7
              replace hw := below_step hw hw.size hb7
              clear hb7
              have hl1 := kY.lt
              have hl2 := kD.lt
              have y0 := kY.cell 0
              have y1 := kY.cell 1
              have y2 := kY.cell 2
              simp only [List.getElem?_toArray, List.getElem?_cons_zero, List.getElem?_cons_succ] at y0 y1 y2
              have d0 := kD.cell 0
              have d1 := kD.cell 1
              simp only [List.getElem?_toArray, List.getElem?_cons_zero, List.getElem?_cons_succ] at d0 d1
              go_wp2_with fail
              refine (state_Covers σ' ⟨a, ln, rid⟩ (ds, dm) s g1 g2 _ hS).mono ?_
              rintro e wb ⟨rfl, hb7⟩
              rw [hC']
              replace kY := kY.below' hb7
              replace kD := kD.below' hb7
              replace hS := hS.below hb7
              replace hw := below_step hw hw.size hb7
              clear hb7
              have hl1 := kY.lt
              have hl2 := kD.lt
              have y0 := kY.cell 0
              have y1 := kY.cell 1
              have y2 := kY.cell 2
              simp only [List.getElem?_toArray, List.getElem?_cons_zero, List.getElem?_cons_succ] at y0 y1 y2
              have d0 := kD.cell 0
              have d1 := kD.cell 1
              simp only [List.getElem?_toArray, List.getElem?_cons_zero, List.getElem?_cons_succ] at d0 d1
              go_wp2
              go_roundw
              case rel => exact ⟨k + 1, by omega, by go_num, by rw [HT.out]; exact hS, hw⟩
              case measure => simp [intOf]; omega
            | false =>
              go_wp2_with fail
              refine (state_Feasible σ' ⟨a, ln, rid⟩ (ds, dm) s g1 g2 _ hS).mono ?_
              rintro e wb ⟨rfl, hb7⟩
              rw [hF']
              replace kY := kY.below' hb7
              replace kD := kD.below' hb7
              replace hS := hS.below hb7
              replace hw := below_step hw hw.size hb7
              clear hb7
              have hl1 := kY.lt
              have hl2 := kD.lt
              have y0 := kY.cell 0
              have y1 := kY.cell 1
              have y2 := kY.cell 2
              simp only [List.getElem?_toArray, List.getElem?_cons_zero, List.getElem?_cons_succ] at y0 y1 y2
              have d0 := kD.cell 0
              have d1 := kD.cell 1
              simp only [List.getElem?_toArray, List.getElem?_cons_zero, List.getElem?_cons_succ] at d0 d1
              go_wp2_with fail
              refine (state_Covers σ' ⟨a, ln, rid⟩ (ds, dm) s g1 g2 _ hS).mono ?_
              rintro e wb ⟨rfl, hb7⟩
              rw [hC']
              replace kY := kY.below' hb7
              replace kD := kD.below' hb7
              replace hS := hS.below hb7
              replace hw := below_step hw hw.size hb7
              clear hb7
              have hl1 := kY.lt
              have hl2 := kD.lt
              have y0 := kY.cell 0
              have y1 := kY.cell 1
              have y2 := kY.cell 2
              simp only [List.getElem?_toArray, List.getElem?_cons_zero, List.getElem?_cons_succ] at y0 y1 y2
              have d0 := kD.cell 0
              have d1 := kD.cell 1
              simp only [List.getElem?_toArray, List.getElem?_cons_zero, List.getElem?_cons_succ] at d0 d1
              go_wp2
              go_roundw
              case rel => exact ⟨k + 1, by omega, by go_num, by rw [HT.out]; exact hS, hw⟩
              case measure => simp [intOf]; omega
          | false =>
            have hC : coversB σ.fl (⟨a, ln, rid⟩ : Key) (ds, dm) = false := by
              cases h : coversB σ.fl (⟨a, ln, rid⟩ : Key) (ds, dm) with
              | false => rfl
              | true => rw [FC.out h] at hC'; cases hC'
            cases hH : (getM σ.fl (⟨a, ln, rid⟩ : Key)).isSome with
            | true =>
              have hH' := FH.out hH
              have hB := FW.out hH
              go_wp2_with fail
              refine (law03_Better _ _ _ _ _).mono ?_
              rintro e wb ⟨rfl, hb7⟩
              rw [hB]
              replace kY := kY.below' hb7
              replace kD := kD.below' hb7
              replace hS := hS.below hb7
              replace hw := below_step hw hw.size hb7
              clear hb7
              have hl1 := kY.lt
              have hl2 := kD.lt
              have y0 := kY.cell 0
              have y1 := kY.cell 1
              have y2 := kY.cell 2
              simp only [List.getElem?_toArray, List.getElem?_cons_zero, List.getElem?_cons_succ] at y0 y1 y2
              have d0 := kD.cell 0
              have d1 := kD.cell 1
              simp only [List.getElem?_toArray, List.getElem?_cons_zero, List.getElem?_cons_succ] at d0 d1
              go_wp2_with fail
              refine (state_Feasible σ' ⟨a, ln, rid⟩ (ds, dm) s g1 g2 _ hS).mono ?_
              rintro e wb ⟨rfl, hb7⟩
              rw [hF']
              replace kY := kY.below' hb7
              replace kD := kD.below' hb7
              replace hS := hS.below hb7
              replace hw := below_step hw hw.size hb7
              clear hb7
              have hl1 := kY.lt
              have hl2 := kD.lt
              have y0 := kY.cell 0
              have y1 := kY.cell 1
              have y2 := kY.cell 2
              simp only [List.getElem?_toArray, List.getElem?_cons_zero, List.getElem?_cons_succ] at y0 y1 y2
              have d0 := kD.cell 0
              have d1 := kD.cell 1
              simp only [List.getElem?_toArray, List.getElem?_cons_zero, List.getElem?_cons_succ] at d0 d1
              go_wp2_with fail
              refine (state_Covers σ' ⟨a, ln, rid⟩ (ds, dm) s g1 g2 _ hS).mono ?_
              rintro e wb ⟨rfl, hb7⟩
              rw [hC']
              replace kY := kY.below' hb7
              replace kD := kD.below' hb7
              replace hS := hS.below hb7
              replace hw := below_step hw hw.size hb7
              clear hb7
              have hl1 := kY.lt
              have hl2 := kD.lt
              have y0 := kY.cell 0
              have y1 := kY.cell 1
              have y2 := kY.cell 2
              simp only [List.getElem?_toArray, List.getElem?_cons_zero, List.getElem?_cons_succ] at y0 y1 y2
              have d0 := kD.cell 0
              have d1 := kD.cell 1
              simp only [List.getElem?_toArray, List.getElem?_cons_zero, List.getElem?_cons_succ] at d0 d1
              go_wp2
              go_roundw
              case rel => exact ⟨k + 1, by omega, by go_num, by rw [HT.out]; exact hS, hw⟩
              case measure => simp [intOf]; omega
            | false =>
              go_wp2_with fail
              refine (state_Feasible σ' ⟨a, ln, rid⟩ (ds, dm) s g1 g2 _ hS).mono ?_
              rintro e wb ⟨rfl, hb7⟩
              rw [hF']
              replace kY := kY.below' hb7
              replace kD := kD.below' hb7
              replace hS := hS.below hb7
              replace hw := below_step hw hw.size hb7
              clear hb7
              have hl1 := kY.lt
              have hl2 := kD.lt
              have y0 := kY.cell 0
              have y1 := kY.cell 1
              have y2 := kY.cell 2
              simp only [List.getElem?_toArray, List.getElem?_cons_zero, List.getElem?_cons_succ] at y0 y1 y2
              have d0 := kD.cell 0
              have d1 := kD.cell 1
              simp only [List.getElem?_toArray, List.getElem?_cons_zero, List.getElem?_cons_succ] at d0 d1
              go_wp2_with fail
              refine (state_Covers σ' ⟨a, ln, rid⟩ (ds, dm) s g1 g2 _ hS).mono ?_
              rintro e wb ⟨rfl, hb7⟩
              rw [hC']
              replace kY := kY.below' hb7
              replace kD := kD.below' hb7
              replace hS := hS.below hb7
              replace hw := below_step hw hw.size hb7
              clear hb7
              have hl1 := kY.lt
              have hl2 := kD.lt
              have y0 := kY.cell 0
              have y1 := kY.cell 1
              have y2 := kY.cell 2
              simp only [List.getElem?_toArray, List.getElem?_cons_zero, List.getElem?_cons_succ] at y0 y1 y2
              have d0 := kD.cell 0
              have d1 := kD.cell 1
              simp only [List.getElem?_toArray, List.getElem?_cons_zero, List.getElem?_cons_succ] at d0 d1
              go_wp2
              go_roundw
              case rel => exact ⟨k + 1, by omega, by go_num, by rw [HT.out]; exact hS, hw⟩
              case measure => simp [intOf]; omega
      · obtain rfl : k = l.length := by omega
        go_wp2
        go_ret
        exact ⟨rfl, below_step hb2 hb2.size hw⟩
end Go.Proofs.Ytnfaeafplaeehaa
