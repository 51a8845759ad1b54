/- own texts of this claim, one behind the other: see the remarks within -/
import Derived.Test.YtnfaeafplaeehaaGreatSecX
import Derived.Deep.CutRange
import Derived.Deep.CutBlock
import Derived.Test.YtnfaeafplaeehaaGreatMrgE
section
set_option linter.unusedVariables false
set_option linter.unusedSimpArgs false
namespace Go.Proofs.YtnfaeafplaeehaaGreat
open Go.RowKit
/-! WalSectors, walked. -/
set_option maxRecDepth 10000000 in
set_option maxHeartbeats 0 in
theorem WalSectors_all (size : Int) (l : List Rec) (A : Option Addr) (cap : Nat) (w : World) (hrow : Row w 9 A l.length (recs l)) (hro : RecsOk l) :
    Calls Tryz.prog 3 #[.int .i64 size, .slice A l.length cap] w fun e w' => e = .returned (.bool true) ∧ Below w.heap.size w w' := by
  have hmax := hrow.2.1
  by_cases hfew : 60 < l.length
  · have dfew : decide (60 < (l.length : Int)) = true := decide_eq_true (by omega)
    go_enter Tryz.func3, Tryz.ntmps3
    go_wp2_with fail
    refine (law07_head w).mono ?_
    rintro e w1 ⟨rfl, hb1⟩
    go_wp2
    go_ret
    exact ⟨rfl, hb1⟩
  · have dfew : decide (60 < (l.length : Int)) = false := decide_eq_false (by omega)
    have HFEW := Lib.hid (Nat.le_of_not_lt hfew)
    clear hfew
    go_enter Tryz.func3, Tryz.ntmps3
    go_wp2_with fail
    refine (law07_head w).mono ?_
    rintro e w1 ⟨rfl, hb1⟩
    go_wp2_with fail
    obtain ⟨b0, b1⟩ := (show 0 ≤ bits .and .i64 size 1 ∧ bits .and .i64 size 1 ≤ 1 from and_low size 1 (by decide))
    have hh := half_bd size
    generalize wrap64 (2 + wrap64 ((IntKind.u64.wrap size).tmod 12)) = half at *
    generalize bits BinOp.and IntKind.i64 size 1 = b at *
    obtain ⟨n, hn0, hn1, hn4, hn27⟩ := size_bd half b hh ⟨b0, b1⟩
    rw [hn0]
    have HH := Lib.hid hh
    clear hn0 b0 b1 hh
    refine (disk_New n w1).mono ?_
    rintro e w2 ⟨d, g, bs, rfl, hD0, ⟨n1, n2, n3⟩, hb2⟩
    have hD := disk_freshD (k := n) (by omega) hD0
    clear hD0
    obtain ⟨D1, hO, hC, hD1⟩ := open_fresh n 5 (-1) (by decide) hn4 (by decide)
    rw [hn1] at hO
    have hI := sec_start half n hn1 HH.out D1 hD1
    clear hD1 hC
    have hb12 := hb1.trans (hb2.mono hb1.size)
    go_wp2_with fail
    refine (wal_Open d g bs (freshD n (-1)) 5 w2 hD (secB_fresh n) (by decide) (by show (-1 : Int) ≤ _; decide)).mono ?_
    rintro e w3 hP
    obtain ⟨L, s, g1, g2, rfl, hW, ha, hk⟩ := open_got hP hO
    have HS := Lib.hid (show ∀ x ∈ [L, d, g, bs, s, g1, g2], w.heap.size ≤ x from by
      have := hb1.size
      have := hb12.size
      intro x hx
      simp only [List.mem_cons, List.not_mem_nil, or_false] at hx
      omega)
    have hb3 : Below w.heap.size w w3 := by
      refine hk.below hb12 hb12.size (fun x hx => HS.out x ?_)
      simp only [List.mem_cons, List.not_mem_nil, or_false] at hx ⊢
      omega
    clear hk hb1 hb2 hb12 hD n1 n2 n3 ha hO hP
    have hlw := hW.lts
    go_wp2_with fail
    refine (law06_New 5 w3).mono ?_
    rintro e w4 ⟨hb4, m, h1, h2, rfl, hM, hm1, hm2, hm3⟩
    have HX := Lib.hid (show ∀ x ∈ [m, h1, h2], x ∉ [L, d, g, bs, s, g1, g2] from by
      intro x hx hy
      have := hlw x hy
      simp only [List.mem_cons, List.not_mem_nil, or_false] at hx
      omega)
    have HM0 := Lib.hid (show ∀ x ∈ [m, h1, h2], w.heap.size ≤ x from by
      have := hb3.size
      intro x hx
      simp only [List.mem_cons, List.not_mem_nil, or_false] at hx
      omega)
    replace hW := hW.below hb4
    have hb5 := hb3.trans (hb4.mono hb3.size)
    clear hb3 hb4 hm1 hm2 hm3 hlw
    have hbA := (Below.refl w4.heap.size w4).alloc (Nat.le_refl _) (.cells (recs [begRec 1 5]).toArray 41)
    have hQ := OwnG.new w4 41 9 1 (recs [begRec 1 5]) rfl (by decide)
    have hR : SecR w _ L d g bs s g1 g2 m h1 h2 w4.heap.size half n _ 0 1 [begRec 1 5] ⟨5, 0, [], []⟩ D1 0 1 := ⟨hW.below hbA, hM.below hbA, hQ, hI, rfl, hb5.size, hb5.trans (hbA.mono hb5.size)⟩
    clear hW hM hQ hI hb5 hbA
    simp only [recs, begRec, Rec.cells, List.flatMap_cons, List.flatMap_nil, List.append_nil, List.cons_append, List.nil_append] at hR
    go_wp2_with fail
    go_loopw [54, 10, 11] (fun i v rg wr => ∃ (k kk G q : Nat) (reg gen : Int) (want : List Rec) (σ : St) (D : DiskM), k ≤ l.length ∧ kk ≤ k ∧ G ≤ k + 1 ∧ i = .int .i64 k ∧ rg = .int .i64 reg ∧ SecR w wr L d g bs s g1 g2 m h1 h2 q half n v reg gen want σ D kk G) (fun i _ _ _ => l.length - (intOf i).toNat)
    case atStart => exact ⟨0, 0, 1, _, 0, 1, _, _, D1, Nat.zero_le _, Nat.le_refl _, Nat.le_refl _, rfl, rfl, hR⟩
    case round =>
      clear hR
      obtain ⟨k, kk, G, q, reg, gen, want, σ, D, hk, hkk, hG, rfl, rfl, hR⟩ := hrel
      by_cases hlt : k < l.length
      · have hkl : (k : Int) < (l.length : Int) := by omega
        have hki : 0 ≤ (k : Int) := by omega
        obtain ⟨b0, off, rfl, hbl, hcell⟩ := (hrow.below hR.bel).2.2 (by omega)
        have e0 := hcell (k * 9 + 0) _ (recs_get l k 0 hlt (by omega))
        have e1 := hcell (k * 9 + 1) _ (recs_get l k 1 hlt (by omega))
        have e2 := hcell (k * 9 + 2) _ (recs_get l k 2 hlt (by omega))
        have e3 := hcell (k * 9 + 3) _ (recs_get l k 3 hlt (by omega))
        have e4 := hcell (k * 9 + 4) _ (recs_get l k 4 hlt (by omega))
        have e5 := hcell (k * 9 + 5) _ (recs_get l k 5 hlt (by omega))
        have e6 := hcell (k * 9 + 6) _ (recs_get l k 6 hlt (by omega))
        have e7 := hcell (k * 9 + 7) _ (recs_get l k 7 hlt (by omega))
        have e8 := hcell (k * 9 + 8) _ (recs_get l k 8 hlt (by omega))
        have hrk : (l[k]).ok := hro _ (List.getElem_mem hlt)
        generalize l[k] = r at *
        obtain ⟨rk, rg, rl, ri, ra, rp, ro, rs, rm⟩ := r
        simp only [Rec.cells, List.getElem?_cons_zero, List.getElem?_cons_succ, ← Nat.add_assoc, Nat.add_zero] at e0 e1 e2 e3 e4 e5 e6 e7 e8
        have hok : (⟨rk, 0, 0, ri, ra, rp, ro, rs, rm⟩ : Rec).ok := ⟨hrk.1, by simp only; omega, by simp only; omega, hrk.2.2.2⟩
        have HOK := Lib.hid hok
        have HK := Lib.hid (And.intro hk (And.intro hkk (And.intro hG (And.intro hlt hR.id))))
        have hRt := fun W => law05_Right ⟨rk, 0, 0, ri, ra, rp, ro, rs, rm⟩ W hok
        simp only [Rec.val, Rec.arr] at hRt
        clear hcell hrk hok hk hkk hG
        have kP := Blk.new wr 41 #[.int .i64 rk, .int .u32 0, .int .u32 0, .int .u32 ri, .int .u32 ra, .int .i64 rp, .bool ro, .int .u32 rs, .int .u16 rm]
        have hbA := (Below.refl wr.heap.size wr).alloc (Nat.le_refl _) (.cells #[.int .i64 rk, .int .u32 0, .int .u32 0, .int .u32 ri, .int .u32 ra, .int .i64 rp, .bool ro, .int .u32 rs, .int .u16 rm] 41)
        have HPQ := Lib.hid (show wr.heap.size ≠ q ∧ w.heap.size ≤ wr.heap.size from ⟨by have := hR.own.lt; omega, hR.bel.size⟩)
        replace hR := hR.below hbA
        clear hbA
        go_wp2_with fail
        clear e0 e1 e2 e3 e4 e5 e6 e7 e8 hbl
        generalize wr.alloc (.cells #[.int .i64 rk, .int .u32 0, .int .u32 0, .int .u32 ri, .int .u32 ra, .int .i64 rp, .bool ro, .int .u32 rs, .int .u16 rm] 41) = W at *
        generalize wr.heap.size = p at *
        refine (hRt W).mono ?_
        rintro e w5 ⟨rfl, hb5⟩
        replace kP := kP.below' hb5
        replace hR := hR.below hb5
        clear hb5 hRt
        have p9 := kP.lt
        have r0 := kP.cell 0
        have r1 := kP.cell 1
        have r2 := kP.cell 2
        have r3 := kP.cell 3
        have r4 := kP.cell 4
        have r5 := kP.cell 5
        have r6 := kP.cell 6
        have r7 := kP.cell 7
        have r8 := kP.cell 8
        simp only [List.getElem?_toArray, List.getElem?_cons_zero, List.getElem?_cons_succ] at r0 r1 r2 r3 r4 r5 r6 r7 r8
        cases hRB : recRightB ⟨rk, 0, 0, ri, ra, rp, ro, rs, rm⟩ with
        | false =>
          go_wp2
          case roundEnd => exact ⟨⟨k + 1, kk, G, q, reg, gen, want, σ, D, by have := HK.out; omega, by have := HK.out; omega, by have := HK.out; omega, rfl, rfl, hR⟩, by simp only [intOf]; omega⟩
        | true =>
          by_cases hk1 : rk = 1
          · have d1 : (rk == 1) = true := beq_iff_eq.2 hk1
            clear hk1
            go_wp2
            case roundEnd => exact ⟨⟨k + 1, kk, G, q, reg, gen, want, σ, D, by have := HK.out; omega, by have := HK.out; omega, by have := HK.out; omega, rfl, rfl, hR⟩, by simp only [intOf]; omega⟩
          · have d1 : (rk == 1) = false := beq_eq_false_iff_ne.2 hk1
            obtain ⟨cv, hv, hcv, hrow10⟩ := hR.own.row (by have := hR.inv.len; have := hR.inv.two; omega)
            subst hv
            have HP0 := Lib.hid kP
            go_upto_if 71 with fail
            clear p9 r0 r1 r2 r3 r4 r5 r6 r7 r8 kP
            go_cut [10, 11, 14, 15, 16, 17, 54] from 54 to 182 (fun a10 a11 a14 a15 a16 a17 a54 wc => a54 = .int .i64 k ∧ ∃ (q' : Nat) (reg' gen' : Int) (want' : List Rec) (D2 : DiskM) (G' : Nat), a11 = .int .i64 reg' ∧ G' ≤ k + 2 ∧ SecM w wc L d g bs s g1 g2 m h1 h2 p q' half n a10 reg' gen' want' σ ⟨rk, 0, 0, ri, ra, rp, ro, rs, rm⟩ D2 (kk + 1) G')
            case first => as_aux_lemma =>
              by_cases hfull : (want.length : Int) = half
              · have d2 : ((want.length : Int) == half) = true := beq_iff_eq.2 hfull
                have HFULL := Lib.hid hfull
                have hkb : kk ≤ 60 ∧ G ≤ 900 := by have := HK.out; have := HFEW.out; omega
                have HKB := Lib.hid hkb
                have hgl := good_len hR.inv.good hkb.1
                have HGL := Lib.hid hgl
                clear hfull hkb
                go_wp2_with fail
                refine (wal_State L d s _ w5 hR.wal.log).mono ?_
                rintro e w6 ⟨rfl, rfl⟩
                go_wp2_with fail
                refine (callsIn_wide (n := 9) |>.1 (state_Records σ s g1 g2 w6 hR.wal.st (by omega) (by omega))).mono ?_
                rintro e w7 ⟨A2, c2, rfl, hrow2, hfr2, hb7⟩
                have hrl := recsM_len σ
                have HW12 := Lib.hid (two_more (recsM σ).length (by have := HGL.out; omega))
                have HB7 := Lib.hid hb7
                have kP := HP0.out.below' hb7
                have hR7 := hR.below hb7
                have p9 := kP.lt
                have r0 := kP.cell 0
                have r1 := kP.cell 1
                have r2 := kP.cell 2
                have r3 := kP.cell 3
                have r4 := kP.cell 4
                have r5 := kP.cell 5
                have r6 := kP.cell 6
                have r7 := kP.cell 7
                have r8 := kP.cell 8
                simp only [List.getElem?_toArray, List.getElem?_cons_zero, List.getElem?_cons_succ] at r0 r1 r2 r3 r4 r5 r6 r7 r8
                by_cases hfit : half < ((recsM σ).length : Int) + 2
                · have dgt : decide (half < ((recsM σ).length : Int) + 2) = true := decide_eq_true hfit
                  have hAp := sec_append_no hR7 (by have := HKB.out; omega) HKB.out.1 ⟨rk, 0, 0, ri, ra, rp, ro, rs, rm⟩ ⟨HOK.out, hRB⟩ hk1 HFULL.out hfit
                  simp only [Rec.val, Rec.arr] at hAp
                  have hMR := hR7.mod
                  have hIG := hR7.inv.good
                  have hBL := hR7.bel
                  clear hfit hrl hgl
                  obtain ⟨hw1, hw2⟩ := HW12.out
                  go_wp2_with fail
                  clear hw1 hw2
                  refine hAp.mono ?_
                  rintro e w8 ⟨rfl, hW8, hk8⟩
                  have hM8 := hMR.kept hk8 (HX.out _ (by simp)) (HX.out _ (by simp)) (HX.out _ (by simp))
                  have hb8 := hk8.below hBL hBL.size HS.out
                  clear hAp hk8 hMR hBL hR hR7 kP p9 r0 r1 r2 r3 r4 r5 r6 r7 r8 hrow2 hfr2
                  go_wp2_with fail
                  refine (wal_State L d s _ w8 hW8.log).mono ?_
                  rintro e w9 ⟨rfl, rfl⟩
                  go_wp2_with fail
                  refine (model_Shows σ m h1 h2 s g1 g2 w9 hM8 hW8.st hIG.n1 (by have := HGL.out; omega) hIG.n2 (by have := HGL.out; omega)).mono ?_
                  rintro e w10 ⟨rfl, hb10⟩
                  go_wp2
                  go_ret
                  exact ⟨rfl, hb8.trans (hb10.mono hb8.size)⟩
                · have dgt : decide (half < ((recsM σ).length : Int) + 2) = false := decide_eq_false hfit
                  have HFIT := Lib.hid (show ((recsM σ).length : Int) + 2 ≤ half by omega)
                  have HRL := Lib.hid (show (recsM σ).length ≤ 11 by have := HH.out; omega)
                  have hg1 : w7.cell? ⟨q, 1, none⟩ = some (.int .u32 gen) := by
                    obtain ⟨w0, wt, hw0, hwg⟩ := hR7.inv.hd
                    have := own_gen (t := wt) (w0 := w0) (by rw [← hw0]; exact hR7.own)
                    rw [this, hwg]
                  have q9 := hR7.own.lt
                  have hgn := hR7.inv.gn
                  have hrg := hR7.inv.rg
                  obtain ⟨hgw, hgn2⟩ := gen_succ hgn (by have := HKB.out.2; omega)
                  have HGN := Lib.hid hgn2
                  obtain ⟨hrw1, hrw2⟩ := one_sub reg hrg
                  have hlp := len_pos hR7.inv.len.1
                  have HROW2 := Lib.hid hrow2
                  have HQ0 := OwnG.new w7 41 9 1 (recs [begRec (gen + 1) 5]) rfl (by decide)
                  have hbQ := (Below.refl w7.heap.size w7).alloc (Nat.le_refl _) (.cells (recs [begRec (gen + 1) 5]).toArray 41)
                  have HR2 := Lib.hid (And.intro HQ0 hbQ)
                  clear hgn hgn2 hrg hrl hgl HQ0 hbQ hfr2 hfit hrow2 hR7
                  obtain ⟨hw1, hw2⟩ := HW12.out
                  go_upto_region 25 with fail
                  clear q9 hg1 hlp hgw hrw1 hrw2 dgt hw1 hw2 p9 r0 r1 r2 r3 r4 r5 r6 r7 r8 kP
                  generalize hgn : gen + 1 = gn at HR2 HGN ⊢
                  have HGE := Lib.hid hgn
                  clear hgn
                  go_wp2_with (refine wpList_buildRec rfl (.tmp 98) rfl ⟨1, gn, 0, 5, 0, 0, false, 0, 0⟩ rfl ?_)
                  have hR2 := HR2.out
                  clear HR2
                  generalize hW8 : w7.alloc (.cells (Rec.arr ⟨1, gn, 0, 5, 0, 0, false, 0, 0⟩) 41) = W8
                  have hR3 : OwnG W8 41 9 w7.heap.size (.slice (some ⟨w7.heap.size, 0, none⟩) 1 1) [begRec gn 5].length (recs [begRec gn 5]) ∧ Below w7.heap.size w7 W8 := by rw [← hW8]; exact hR2
                  clear hR2 hW8
                  go_loopw [102, 10] (fun i v wr => ∃ (j q2 : Nat) (a : List Rec), j ≤ (recsM σ).length ∧ i = .int .i64 j ∧ a = (wantC gn σ).take (j + 1) ∧ OwnG wr 41 9 q2 v a.length (recs a) ∧ w7.heap.size ≤ q2 ∧ Below w7.heap.size w7 wr) (fun i _ _ => (recsM σ).length - (intOf i).toNat)
                  case atStart => exact ⟨0, w7.heap.size, [begRec gn 5], Nat.zero_le _, rfl, rfl, hR3.1, Nat.le_refl _, hR3.2⟩
                  case round => as_aux_lemma =>
                    clear hR3
                    obtain ⟨j, q2, a, hj, rfl, ha, hO, hq2, hB⟩ := hrel
                    have hal : a.length = j + 1 := by rw [ha, List.length_take, wantC_len]; omega
                    have HAL := Lib.hid hal
                    have HA := Lib.hid ha
                    clear ha hal
                    by_cases hjl : j < (recsM σ).length
                    · have hjk : (j : Int) < ((recsM σ).length : Int) := by omega
                      have hrow2 := HROW2.out.below hB
                      obtain ⟨b2, o2, rfl, hbl2, hcell⟩ := hrow2.2.2 (by omega)
                      have e0 := hcell (j * 9 + 0) _ (recs_get (recsM σ) j 0 hjl (by omega))
                      have e1 := hcell (j * 9 + 1) _ (recs_get (recsM σ) j 1 hjl (by omega))
                      have e2 := hcell (j * 9 + 2) _ (recs_get (recsM σ) j 2 hjl (by omega))
                      have e3 := hcell (j * 9 + 3) _ (recs_get (recsM σ) j 3 hjl (by omega))
                      have e4 := hcell (j * 9 + 4) _ (recs_get (recsM σ) j 4 hjl (by omega))
                      have e5 := hcell (j * 9 + 5) _ (recs_get (recsM σ) j 5 hjl (by omega))
                      have e6 := hcell (j * 9 + 6) _ (recs_get (recsM σ) j 6 hjl (by omega))
                      have e7 := hcell (j * 9 + 7) _ (recs_get (recsM σ) j 7 hjl (by omega))
                      have e8 := hcell (j * 9 + 8) _ (recs_get (recsM σ) j 8 hjl (by omega))
                      have HT := Lib.hid (wantC_get gn σ j hjl)
                      generalize (recsM σ)[j] = x at *
                      obtain ⟨xk, xg, xl, xi, xa, xp, xo, xs, xm⟩ := x
                      simp only [Rec.cells, List.getElem?_cons_zero, List.getElem?_cons_succ, ← Nat.add_assoc, Nat.add_zero] at e0 e1 e2 e3 e4 e5 e6 e7 e8
                      obtain ⟨hj1, hj2, hj3⟩ := lsn_wraps j (by have := HRL.out; omega)
                      have hbA := (Below.refl wr.heap.size wr).alloc (Nat.le_refl _) (.cells #[.int .i64 xk, .int .u32 gn, .int .u32 ((j : Int) + 1), .int .u32 xi, .int .u32 xa, .int .i64 xp, .bool xo, .int .u32 xs, .int .u16 xm] 41)
                      have kX := Blk.new wr 41 #[.int .i64 xk, .int .u32 gn, .int .u32 ((j : Int) + 1), .int .u32 xi, .int .u32 xa, .int .i64 xp, .bool xo, .int .u32 xs, .int .u16 xm]
                      have HW9 := Lib.hid (And.intro (hO.below hbA) (hB.trans (hbA.mono hB.size)))
                      clear hbA hcell hrow2 hO hB
                      go_upto_region 31 with fail
                      clear e0 e1 e2 e3 e4 e5 e6 e7 e8 hj1 hj2 hj3 hjk hbl2
                      generalize wr.alloc (.cells #[.int .i64 xk, .int .u32 gn, .int .u32 ((j : Int) + 1), .int .u32 xi, .int .u32 xa, .int .i64 xp, .bool xo, .int .u32 xs, .int .u16 xm] 41) = W9 at *
                      generalize wr.heap.size = p2 at *
                      obtain ⟨v', w9, q', hrun, hO', hq', hk'⟩ := own_rec HW9.out.1 (by have := HAL.out; have := HRL.out; omega) ⟨xk, gn, (j : Int) + 1, xi, xa, xp, xo, xs, xm⟩
                      have HRUN := Lib.hid hrun
                      have HO' := Lib.hid hO'
                      have HB' := Lib.hid (hk'.below HW9.out.2 HW9.out.2.size (fun z hz => by simp only [List.mem_singleton] at hz; subst hz; exact hq2))
                      have HQ' := Lib.hid (show w7.heap.size ≤ q' from by have := HW9.out.2.size; omega)
                      clear hrun hO' hk' hq' hq2
                      have p9 := kX.lt
                      have x0 := kX.cell 0
                      have x1 := kX.cell 1
                      have x2 := kX.cell 2
                      have x3 := kX.cell 3
                      have x4 := kX.cell 4
                      have x5 := kX.cell 5
                      have x6 := kX.cell 6
                      have x7 := kX.cell 7
                      have x8 := kX.cell 8
                      simp only [List.getElem?_toArray, List.getElem?_cons_zero, List.getElem?_cons_succ] at x0 x1 x2 x3 x4 x5 x6 x7 x8
                      go_wp2_with (first | (refine wpList_buildRec rfl (.tmp 114) rfl ⟨xk, gn, (j : Int) + 1, xi, xa, xp, xo, xs, xm⟩ rfl ?_) | (at_builtin; refine wpList_app rfl (.tmp 113) (.tmp 115) _ _ rfl rfl rfl HRUN.out ?_))
                      case roundEnd => exact ⟨⟨j + 1, q', _, hjl, congrArg (Value.int .i64) (wrap_succ64 j (by have := HRL.out; omega)), by rw [HA.out]; exact HT.out.symm, HO'.out, HQ'.out, HB'.out⟩, meas_succ64 _ j hjl (by have := HRL.out; omega)⟩
                    · obtain rfl : j = (recsM σ).length := by omega
                      have hjk : decide (((recsM σ).length : Int) < ((recsM σ).length : Int)) = false := decide_eq_false (by omega)
                      have haw : a = wantC gn σ := by rw [HA.out, List.take_of_length_le (by rw [wantC_len]; omega)]
                      have hO2 := hO
                      rw [haw, ← HGE.out] at hO2
                      have HM := Lib.hid (secM_full hR (by have := HKB.out; omega) HKB.out.1 ⟨rk, 0, 0, ri, ra, rp, ro, rs, rm⟩ ⟨HOK.out, hRB⟩ hk1 HFULL.out HFIT.out HP0.out HPQ.out (HB7.out.trans (hB.mono HB7.out.size)) (Nat.le_trans HB7.out.size hq2) hO2)
                      clear haw hO2 hO hB
                      go_wp2
                      go_meet
                      case rel => exact ⟨rfl, q2, 1 - reg, gen + 1, _, _, G + 1, rfl, by have := HK.out; omega, HM.out⟩
              · have d2 : ((want.length : Int) == half) = false := beq_eq_false_iff_ne.2 hfull
                have hlt2 : (want.length : Int) < half := by have := hR.inv.len; omega
                have HM := Lib.hid (secM_room hR (by have := HK.out; have := HFEW.out; omega) (by have := HK.out; have := HFEW.out; omega) ⟨rk, 0, 0, ri, ra, rp, ro, rs, rm⟩ ⟨HOK.out, hRB⟩ hk1 hlt2 HP0.out HPQ.out)
                clear hfull hlt2
                go_wp2
                go_meet
                case rel => exact ⟨rfl, q, reg, gen, want, _, G, rfl, by have := HK.out; omega, HM.out⟩
            case rest => as_aux_lemma =>
              clear hR hrow10
              obtain ⟨rfl, q2, reg2, gen2, want2, D2', G2, rfl, hG2, hM⟩ := hcut
              have HG2 := Lib.hid (show G2 ≤ k + 1 + 1 by omega)
              clear hG2
              obtain ⟨cv2, hv2, hcv2⟩ := own_slice hM.own
              subst hv2
              have hLN := hM.ln
              have HLN := Lib.hid (show 1 ≤ want2.length ∧ want2.length ≤ 12 by have := HH.out; omega)
              have HLH := Lib.hid hLN.2
              have hAp := hM.app wc (Below.refl _ _)
              simp only [Rec.val, Rec.arr] at hAp
              have HM := Lib.hid hM
              have kP := hM.kp
              have p9 := kP.lt
              simp only [Rec.arr] at kP
              have r0 := kP.cell 0
              have r1 := kP.cell 1
              have r2 := kP.cell 2
              have r3 := kP.cell 3
              have r4 := kP.cell 4
              have r5 := kP.cell 5
              have r6 := kP.cell 6
              have r7 := kP.cell 7
              have r8 := kP.cell 8
              simp only [List.getElem?_toArray, List.getElem?_cons_zero, List.getElem?_cons_succ] at r0 r1 r2 r3 r4 r5 r6 r7 r8
              clear hM hLN
              go_wp2_with fail
              refine hAp.mono ?_
              rintro e w6 ⟨rfl, hW6, hk6⟩
              have hQ6 := HM.out.own.kept hk6 HM.out.offq
              have hM6 := HM.out.mod.kept hk6 (HX.out _ (by simp)) (HX.out _ (by simp)) (HX.out _ (by simp))
              have kP6 := hk6.blk HM.out.kp HM.out.offp
              simp only [Rec.arr] at kP6
              have hb6 := hk6.below HM.out.bel HM.out.bel.size HS.out
              clear hAp hk6 kP p9 r0 r1 r2 r3 r4 r5 r6 r7 r8
              -- the model applies the record as well
              have p9 := kP6.lt
              have r0 := kP6.cell 0
              have r1 := kP6.cell 1
              have r2 := kP6.cell 2
              have r3 := kP6.cell 3
              have r4 := kP6.cell 4
              have r5 := kP6.cell 5
              have r6 := kP6.cell 6
              have r7 := kP6.cell 7
              have r8 := kP6.cell 8
              simp only [List.getElem?_toArray, List.getElem?_cons_zero, List.getElem?_cons_succ] at r0 r1 r2 r3 r4 r5 r6 r7 r8
              have hMA := model_Apply σ ⟨rk, 0, 0, ri, ra, rp, ro, rs, rm⟩ m h1 h2 w6 hM6
              simp only [Rec.val, Rec.arr] at hMA
              go_wp2_with fail
              refine hMA.mono ?_
              rintro e w7 ⟨rfl, hM7, hk7⟩
              have hW7 := hW6.kept hk7 HX.out
              have hQ7 := hQ6.kept hk7 (rowG_off hQ6 hW6 hM6).2
              have kP7 := hk7.blk kP6 (by have := kP6.nT hM6.1 (by decide); have := blk_mapD kP6 hM6.2.1; have := blk_mapD kP6 hM6.2.2.1; simp only [List.mem_cons, List.not_mem_nil, or_false, not_or]; omega)
              have hb7 := hk7.below hb6 hb6.size HM0.out
              clear hMA hk7 p9 r0 r1 r2 r3 r4 r5 r6 r7 r8 hM6 hW6 hQ6 kP6 hb6
              -- its generation and place
              have p9 := kP7.lt
              have r0 := kP7.cell 0
              have r1 := kP7.cell 1
              have r2 := kP7.cell 2
              have r3 := kP7.cell 3
              have r4 := kP7.cell 4
              have r5 := kP7.cell 5
              have r6 := kP7.cell 6
              have r7 := kP7.cell 7
              have r8 := kP7.cell 8
              simp only [List.getElem?_toArray, List.getElem?_cons_zero, List.getElem?_cons_succ] at r0 r1 r2 r3 r4 r5 r6 r7 r8
              have pf1 := kP7.frozen 1
              have pf2 := kP7.frozen 2
              have hqp : q2 ≠ p := fun e => HM.out.hpq e.symm
              have hg1 : w7.cell? ⟨q2, 1, none⟩ = some (.int .u32 gen2) := by
                obtain ⟨w0, wt, hw0, hwg⟩ := HM.out.hd
                have := own_gen (t := wt) (w0 := w0) (by rw [← hw0]; exact hQ7)
                rw [this, hwg]
              have q9 := hQ7.lt
              have hlw := u32_len want2.length (by have := HLN.out; omega)
              have hlp := len_pos HLN.out.1
              have kP8 := (kP7.set 1 (.int .u32 gen2)).set 2 (.int .u32 (want2.length : Int))
              simp only [List.setIfInBounds_toArray, List.set_cons_zero, List.set_cons_succ] at kP8
              have hks := kept_set (kept_set (Kept.refl [p] w7) ⟨p, 1, none⟩ (.int .u32 gen2) (.inl (List.mem_singleton_self p))) ⟨p, 2, none⟩ (.int .u32 (want2.length : Int)) (.inl (List.mem_singleton_self p))
              have hQ8 := hQ7.kept hks (by simpa using hqp)
              have hW8 := hW7.kept hks (fun x hx => by simp only [List.mem_singleton] at hx; subst hx; have := blk_off kP7 hW7; simp only [List.mem_cons, List.not_mem_nil, or_false, not_or]; exact this)
              have hM8 := hM7.kept hks (by simp only [List.mem_singleton]; exact fun e => (kP7.nT hM7.1 (by decide)) e.symm) (by simp only [List.mem_singleton]; exact fun e => (blk_mapD kP7 hM7.2.1) e.symm) (by simp only [List.mem_singleton]; exact fun e => (blk_mapD kP7 hM7.2.2.1) e.symm)
              have hb8 := hks.below hb7 hb7.size (fun x hx => by simp only [List.mem_singleton] at hx; subst hx; exact HM.out.p0)
              obtain ⟨v9, w9, q9', hrun, hQ9, hq9, hk9⟩ := own_rec hQ8 (by have := HLN.out; omega) ⟨rk, gen2, (want2.length : Int), ri, ra, rp, ro, rs, rm⟩
              have hW9 := hW8.kept hk9 (fun x hx => by simp only [List.mem_singleton] at hx; subst hx; exact (rowG_off hQ8 hW8 hM8).1)
              have hM9 := hM8.kept hk9 (by have := (rowG_off hQ8 hW8 hM8).2; simp only [List.mem_cons, List.not_mem_nil, or_false, not_or] at this ⊢; omega) (by have := (rowG_off hQ8 hW8 hM8).2; simp only [List.mem_cons, List.not_mem_nil, or_false, not_or] at this ⊢; omega) (by have := (rowG_off hQ8 hW8 hM8).2; simp only [List.mem_cons, List.not_mem_nil, or_false, not_or] at this ⊢; omega)
              have kP9 := hk9.blk kP8 (by simpa using fun e => hqp e.symm)
              have hb9 := hk9.below hb8 hb8.size (fun x hx => by simp only [List.mem_singleton] at hx; subst hx; exact HM.out.q0)
              have hq90 : w.heap.size ≤ q9' := by have := hb8.size; have := HM.out.q0; omega
              have HRUN := Lib.hid hrun
              have HQ9 := Lib.hid hQ9
              have HW9 := Lib.hid hW9
              have HM9 := Lib.hid hM9
              have HP9 := Lib.hid kP9
              have HB9 := Lib.hid hb9
              have HQ90 := Lib.hid hq90
              have KP8 := Lib.hid kP8
              clear hks hW8 hM8 hk9 hb8 hW7 hM7 hb7 hrun hQ9 hW9 hM9 kP9 hb9 hq90 hq9 hQ8 kP8
              go_upto_region 38 with fail
              clear hg1 q9 hlp p9 r0 r1 r2 r3 r4 r5 r6 r7 r8 pf1 pf2 hlw kP7 hQ7 hqp
              generalize (w7.setCell ⟨p, 1, none⟩ (.int .u32 gen2)).setCell ⟨p, 2, none⟩ (.int .u32 (want2.length : Int)) = W8 at *
              have kP8 := KP8.out
              have p9 := kP8.lt
              have r0 := kP8.cell 0
              have r1 := kP8.cell 1
              have r2 := kP8.cell 2
              have r3 := kP8.cell 3
              have r4 := kP8.cell 4
              have r5 := kP8.cell 5
              have r6 := kP8.cell 6
              have r7 := kP8.cell 7
              have r8 := kP8.cell 8
              simp only [List.getElem?_toArray, List.getElem?_cons_zero, List.getElem?_cons_succ] at r0 r1 r2 r3 r4 r5 r6 r7 r8
              go_wp2_with (first | (refine wpList_buildRec rfl (.tmp 135) rfl ⟨rk, gen2, (want2.length : Int), ri, ra, rp, ro, rs, rm⟩ rfl ?_) | (at_builtin; refine wpList_app rfl (.tmp 134) (.tmp 136) _ _ rfl rfl rfl HRUN.out ?_))
              clear kP8 KP8 p9 r0 r1 r2 r3 r4 r5 r6 r7 r8 HRUN hcv2
              have hlen2 : ((want2 ++ [(⟨rk, gen2, (want2.length : Int), ri, ra, rp, ro, rs, rm⟩ : Rec)]).length : Int) = (want2.length : Int) + 1 := by simp
              have hR9 : SecR w w9 L d g bs s g1 g2 m h1 h2 q9' half n v9 reg2 gen2 (want2 ++ [(⟨rk, gen2, (want2.length : Int), ri, ra, rp, ro, rs, rm⟩ : Rec)]) (σ.apply ⟨rk, 0, 0, ri, ra, rp, ro, rs, rm⟩) D2' (kk + 1) G2 := ⟨by rw [hlen2]; exact HW9.out, HM9.out, HQ9.out, HM.out.inv, by rw [apply_id]; exact HM.out.id, HQ90.out, HB9.out⟩
              have kP9 := HP9.out
              clear hlen2 HW9 HM9 HQ9 HP9 HB9 HQ90 HM HLN HLH
              generalize want2 ++ [(⟨rk, gen2, (want2.length : Int), ri, ra, rp, ro, rs, rm⟩ : Rec)] = want3 at *
              generalize σ.apply ⟨rk, 0, 0, ri, ra, rp, ro, rs, rm⟩ = τ at *
              obtain ⟨cv9, hv9, hcv9⟩ := own_slice hR9.own
              subst hv9
              have HL3 := Lib.hid (show want3.length ≤ 13 from by have h1 := hR9.inv.len; have h2 := hR9.inv.two; omega)
              have HSH := Lib.hid (good_len hR9.inv.good (by have := HK.out; have := HFEW.out; omega))
              have hW9 := hR9.wal
              have hL9 := hW9.log
              have p9 := kP9.lt
              have r1 := kP9.cell 1
              simp only [List.getElem?_toArray, List.getElem?_cons_zero, List.getElem?_cons_succ] at r1
              have dg : (gen2 != gen2) = false := by simp
              obtain ⟨hwl1, hwl0⟩ := less_one want3.length (by have := HL3.out; omega)
              have dn : ((want3.length : Int) - 1 != (want3.length : Int) - 1) = false := by simp
              go_wp2_with fail
              refine draw_start [] Later (by kernel_rfl) ?_
              refine draw_chunk (n := 183) (by kernel_rfl) (fun _ _ _ _ _ h => h) [0, 2, 3] [] _ #[true, false, true, true, false, false, false, false, false, false, false, false, false, false, false, false, false, false, false, false] (by kernel_rfl) 17 _ ?_ _ rfl ?_ ?_
              rotate_left
              · intro w' hw'
                have hc' : ∀ b o, b < w9.heap.size → w'.cell? ⟨b, o, none⟩ = w9.cell? ⟨b, o, none⟩ := (bcell hw').1
                iterate 3
                  refine ci_step (v := ?_) rfl (by kernel_rfl) ?_ ?_
                  rotate_left
                  · first | (go_simp; done) | (go_simp; with_reducible rfl)
                  try simp only [Act.put, List.setIfInBounds_toArray, List.set_cons_zero, List.set_cons_succ]
                refine ci_end ?_
                rfl
              refine draw_eff (i := 1) rfl (by kernel_rfl) (listed' := #[true, true, true, true, false, false, false, false, false, false, false, false, false, false, false, false, false, false, false, false]) rfl (fun K hK => ?_)
              replace hK := Lib.hid hK
              go_wp2_with fail
              refine (wal_Gen L d s _ w9.drew hL9.drew).mono ?_
              rintro e w10 ⟨rfl, rfl⟩
              go_wp2_with fail
              refine hK.out _ _ ⟨fun _ => Below.refl _ _, ?_⟩
              clear hK
              refine draw_chunk (n := 183) (by kernel_rfl) (fun _ _ _ _ _ h => h) [4, 5, 6, 8, 9, 10] [] _ #[true, true, true, true, true, true, true, false, true, true, true, false, false, false, false, false, false, false, false, false] (by kernel_rfl) 10 _ ?_ _ rfl ?_ ?_
              rotate_left
              · intro w' hw'
                have hc' : ∀ b o, b < w9.drew.heap.size → w'.cell? ⟨b, o, none⟩ = w9.drew.cell? ⟨b, o, none⟩ := (bcell hw').1
                iterate 6
                  refine ci_step (v := ?_) rfl (by kernel_rfl) ?_ ?_
                  rotate_left
                  · first | (go_simp; done) | (go_simp; with_reducible rfl)
                  try simp only [Act.put, List.setIfInBounds_toArray, List.set_cons_zero, List.set_cons_succ]
                refine ci_end ?_
                rfl
              refine draw_eff (i := 7) rfl (by kernel_rfl) (listed' := #[true, true, true, true, true, true, true, true, true, true, true, false, false, false, false, false, false, false, false, false]) rfl (fun K hK => ?_)
              replace hK := Lib.hid hK
              go_wp2_with fail
              refine (wal_Len L d s _ w9.drew hL9.drew (by have := HL3.out; simp only; omega)).mono ?_
              rintro e w10 ⟨rfl, rfl⟩
              go_wp2_with fail
              refine hK.out _ _ ⟨fun _ => Below.refl _ _, ?_⟩
              clear hK
              refine draw_chunk (n := 183) (by kernel_rfl) (fun _ _ _ _ _ h => h) [11, 12, 13, 14, 15] [] _ #[true, true, true, true, true, true, true, true, true, true, true, true, true, true, true, true, false, false, false, false] (by kernel_rfl) 4 _ ?_ _ rfl ?_ ?_
              rotate_left
              · intro w' hw'
                have hc' : ∀ b o, b < w9.drew.heap.size → w'.cell? ⟨b, o, none⟩ = w9.drew.cell? ⟨b, o, none⟩ := (bcell hw').1
                iterate 5
                  refine ci_step (v := ?_) rfl (by kernel_rfl) ?_ ?_
                  rotate_left
                  · first | (go_simp; done) | (go_simp; with_reducible rfl)
                  try simp only [Act.put, List.setIfInBounds_toArray, List.set_cons_zero, List.set_cons_succ]
                refine ci_end ?_
                rfl
              refine draw_eff (i := 16) rfl (by kernel_rfl) (listed' := #[true, true, true, true, true, true, true, true, true, true, true, true, true, true, true, true, true, false, false, false]) rfl (fun K hK => ?_)
              replace hK := Lib.hid hK
              go_wp2_with fail
              refine (wal_State L d s _ w9.drew hL9.drew).mono ?_
              rintro e w10 ⟨rfl, rfl⟩
              go_wp2_with fail
              refine hK.out _ _ ⟨fun _ => Below.refl _ _, ?_⟩
              clear hK
              refine draw_eff (i := 17) rfl (by kernel_rfl) (listed' := #[true, true, true, true, true, true, true, true, true, true, true, true, true, true, true, true, true, true, false, false]) rfl (fun K hK => ?_)
              replace hK := Lib.hid hK
              go_wp2_with fail
              refine (model_Shows τ m h1 h2 s g1 g2 w9.drew hR9.mod.drew hW9.st.drew hR9.inv.good.n1 (by have := HSH.out; omega) hR9.inv.good.n2 (by have := HSH.out; omega)).mono ?_
              rintro e w13 ⟨rfl, hb13⟩
              go_wp2_with fail
              refine hK.out _ _ ⟨fun _ => hb13, ?_⟩
              clear hK
              refine draw_chunk (n := 183) (by kernel_rfl) (fun _ _ _ _ _ h => h) [18, 19] [] _ #[true, true, true, true, true, true, true, true, true, true, true, true, true, true, true, true, true, true, true, true] (by kernel_rfl) 0 _ ?_ _ rfl ?_ ?_
              rotate_left
              · intro w' hw'
                have hc' : ∀ b o, b < w13.heap.size → w'.cell? ⟨b, o, none⟩ = w13.cell? ⟨b, o, none⟩ := (bcell hw').1
                iterate 2
                  refine ci_step (v := ?_) rfl (by kernel_rfl) ?_ ?_
                  rotate_left
                  · first | (go_simp; done) | (go_simp; with_reducible rfl)
                  try simp only [Act.put, List.setIfInBounds_toArray, List.set_cons_zero, List.set_cons_succ]
                refine ci_end ?_
                rfl
              refine draw_done (by kernel_rfl) ?_ _
              replace hR9 := (hR9.below (Below.drew (Below.refl _ _))).below hb13
              clear kP9 p9 r1 dg hwl1 hwl0 dn hb13 hW9 hL9
              have HRg := Lib.hid hR9.inv.rg
              have HTW := Lib.hid hR9.inv.two.1
              have HWL := Lib.hid hR9.inv.len.2
              go_wp2_with fail
              go_loopw [160] (fun i wr => ∃ j : Nat, j ≤ want3.length ∧ i = .int .i64 j ∧ SecR w wr L d g bs s g1 g2 m h1 h2 q9' half n (.slice (some ⟨q9', 0, none⟩) want3.length cv9) reg2 gen2 want3 τ D2' (kk + 1) G2) (fun i _ => want3.length - (intOf i).toNat)
              case atStart => exact ⟨0, Nat.zero_le _, rfl, hR9⟩
              case round => as_aux_lemma =>
                clear hR9
                obtain ⟨j, hj, rfl, hR9⟩ := hrel
                by_cases hjl : j < want3.length
                · have hjk : (j : Int) < (want3.length : Int) := by omega
                  obtain ⟨cw, hcw, hcw2, hrow9⟩ := hR9.own.row (by have := HL3.out; omega)
                  cases hcw
                  obtain ⟨b1, o1, hbo, hbl1, hcell⟩ := hrow9.2.2 (by omega)
                  cases hbo
                  have q9 := hR9.own.lt
                  have e0 := hcell (j * 9 + 0) _ (recs_get want3 j 0 hjl (by omega))
                  have e1 := hcell (j * 9 + 1) _ (recs_get want3 j 1 hjl (by omega))
                  have e2 := hcell (j * 9 + 2) _ (recs_get want3 j 2 hjl (by omega))
                  have e3 := hcell (j * 9 + 3) _ (recs_get want3 j 3 hjl (by omega))
                  have e4 := hcell (j * 9 + 4) _ (recs_get want3 j 4 hjl (by omega))
                  have e5 := hcell (j * 9 + 5) _ (recs_get want3 j 5 hjl (by omega))
                  have e6 := hcell (j * 9 + 6) _ (recs_get want3 j 6 hjl (by omega))
                  have e7 := hcell (j * 9 + 7) _ (recs_get want3 j 7 hjl (by omega))
                  have e8 := hcell (j * 9 + 8) _ (recs_get want3 j 8 hjl (by omega))
                  have hsec := hR9.inv.sec j hjl
                  have HRG := Lib.hid (hR9.inv.wok _ (List.getElem_mem hjl))
                  generalize want3[j] = x at *
                  obtain ⟨xk, xg, xl, xi, xa, xp, xo, xs, xm⟩ := x
                  simp only [Rec.cells, List.getElem?_cons_zero, List.getElem?_cons_succ, ← Nat.add_assoc, Nat.add_zero, Nat.zero_add] at e0 e1 e2 e3 e4 e5 e6 e7 e8
                  obtain ⟨pl, hpl, hpn, ⟨hpw1, hpi1⟩, hpw3, hpi3⟩ := place_all half reg2 j n HH.out HRg.out HTW.out (by have := HWL.out; omega)
                  have hat : atD D2'.sec D2'.lat pl = sector ⟨xk, xg, xl, xi, xa, xp, xo, xs, xm⟩ := by
                    unfold atD
                    rw [hR9.inv.lat, show getM ([] : List (Int × Sec)) _ = none from rfl, Option.getD_none]
                    refine getD_of ?_
                    rw [hpl] at hsec
                    exact hsec
                  have hpn2 : pl < D2'.sec.length := by rw [hR9.inv.calm.len]; exact hpn
                  have kX := Blk.new wr 41 #[.int .i64 xk, .int .u32 xg, .int .u32 xl, .int .u32 xi, .int .u32 xa, .int .i64 xp, .bool xo, .int .u32 xs, .int .u16 xm]
                  have hbA := (Below.refl wr.heap.size wr).alloc (Nat.le_refl _) (.cells #[.int .i64 xk, .int .u32 xg, .int .u32 xl, .int .u32 xi, .int .u32 xa, .int .i64 xp, .bool xo, .int .u32 xs, .int .u16 xm] 41)
                  replace hR9 := hR9.below hbA
                  have hRd := fun W h => disk_Read_ok pl d g bs D2'.sec D2'.lat D2'.fl W h hpn2
                  have hBy := fun W' => law05_Bytes ⟨xk, xg, xl, xi, xa, xp, xo, xs, xm⟩ W' HRG.out.1 HRG.out.2
                  simp only [Rec.val, Rec.arr] at hBy
                  rw [hat] at hRd
                  have HS48 := Lib.hid (show (sector ⟨xk, xg, xl, xi, xa, xp, xo, xs, xm⟩).length = 48 from rfl)
                  generalize sector ⟨xk, xg, xl, xi, xa, xp, xo, xs, xm⟩ = sx at *
                  clear hbA hsec hat hpn hpn2 hpl hcell hrow9 hcw2 hbl1
                  go_wp2_with fail
                  clear e0 e1 e2 e3 e4 e5 e6 e7 e8 hpw1 hpi1 hpw3 hpi3 q9 hjk
                  generalize wr.alloc (.cells #[.int .i64 xk, .int .u32 xg, .int .u32 xl, .int .u32 xi, .int .u32 xa, .int .i64 xp, .bool xo, .int .u32 xs, .int .u16 xm] 41) = W2 at *
                  generalize wr.heap.size = px at *
                  refine (hRd W2 hR9.wal.disk).mono ?_
                  rintro e w15 ⟨va, rfl, hO, -, hb15⟩
                  replace hR9 := hR9.below hb15
                  replace kX := kX.below' hb15
                  obtain ⟨Aa, ca, rfl, hca, hRa⟩ := hO.row' (by rw [HS48.out]; omega)
                  rw [HS48.out] at hRa hca
                  clear hO hRd hb15
                  have x9 := kX.lt
                  rw [HS48.out]
                  go_wp2_with fail
                  refine draw_start [] Later (by kernel_rfl) ?_
                  refine draw_chunk (n := 183) (by kernel_rfl) (fun _ _ _ _ _ h => h) [0, 1, 2] [] _ #[true, true, true, false, false, false] (by kernel_rfl) 3 _ ?_ _ rfl ?_ ?_
                  rotate_left
                  · intro w' hw'
                    have hc' : ∀ b o, b < w15.heap.size → w'.cell? ⟨b, o, none⟩ = w15.cell? ⟨b, o, none⟩ := (bcell hw').1
                    have hld := run_load_rec (r := ⟨xk, xg, xl, xi, xa, xp, xo, xs, xm⟩) (kX.below' (undrew hw')); simp only [Rec.val, Rec.arr] at hld; have hcv := conv_row48 (c := ca) (hRa.below (undrew hw')) (by omega)
                    iterate 2
                      refine ci_step (v := ?_) rfl (by kernel_rfl) ?_ ?_
                      rotate_left
                      · first | (go_simp; done) | (go_simp; with_reducible rfl)
                      try simp only [Act.put, List.setIfInBounds_toArray, List.set_cons_zero, List.set_cons_succ]
                    refine ci_step (i := 2) (v := ?_) rfl (by kernel_rfl) ?_ ?_
                    rotate_left
                    · refine (execLoad rfl rfl hld).trans ?_; with_reducible rfl
                    skip
                    try simp only [Act.put, List.setIfInBounds_toArray, List.set_cons_zero, List.set_cons_succ]
                    refine ci_end ?_
                    rfl
                  refine draw_eff (i := 3) rfl (by kernel_rfl) (listed' := #[true, true, true, true, false, false]) rfl (fun K hK => ?_)
                  replace hK := Lib.hid hK
                  go_wp2_with fail
                  refine (hBy w15.drew).mono ?_
                  rintro e w16 ⟨hb16, vB, rfl, hOB⟩
                  obtain ⟨Ab, cb, rfl, hcb, hRb⟩ := hOB.row' (by rw [HS48.out]; omega)
                  rw [HS48.out] at hRb hcb
                  rw [HS48.out]
                  go_wp2_with fail
                  refine hK.out _ _ ⟨fun _ => hb16, ?_⟩
                  clear hK
                  refine draw_chunk (n := 183) (by kernel_rfl) (fun _ _ _ _ _ h => h) [4, 5] [] _ #[true, true, true, true, true, true] (by kernel_rfl) 0 _ ?_ _ rfl ?_ ?_
                  rotate_left
                  · intro w' hw'
                    have hc' : ∀ b o, b < w16.heap.size → w'.cell? ⟨b, o, none⟩ = w16.cell? ⟨b, o, none⟩ := (bcell hw').1
                    have hcv := conv_row48 (c := cb) (hRb.below hw') (by omega)
                    iterate 2
                      refine ci_step (v := ?_) rfl (by kernel_rfl) ?_ ?_
                      rotate_left
                      · first | (go_simp; done) | (go_simp; with_reducible rfl)
                      try simp only [Act.put, List.setIfInBounds_toArray, List.set_cons_zero, List.set_cons_succ]
                    refine ci_end ?_
                    rfl
                  refine draw_done (by kernel_rfl) ?_ _
                  replace hR9 := (hR9.below (Below.drew (Below.refl _ _))).below hb16
                  clear hRa hRb hOB hb16 x9 kX hBy
                  go_wp2
                  case roundEnd => exact ⟨⟨j + 1, hjl, congrArg (Value.int .i64) (wrap_succ64 j (by have := HL3.out; omega)), hR9⟩, meas_succ64 _ j hjl (by have := HL3.out; omega)⟩
                · obtain rfl : j = want3.length := by omega
                  have hjk : decide ((want3.length : Int) < (want3.length : Int)) = false := decide_eq_false (by omega)
                  go_wp2
                  case roundEnd => exact ⟨⟨k + 1, kk + 1, G2, q9', reg2, gen2, want3, τ, D2', by have := HK.out; omega, by have := HK.out; omega, HG2.out, congrArg (Value.int .i64) (Int.natCast_succ k).symm, rfl, hR9⟩, by simp only [intOf]; omega⟩
      · obtain rfl : k = l.length := by omega
        have hkl : decide ((l.length : Int) < (l.length : Int)) = false := decide_eq_false (by omega)
        go_wp2
        go_ret
        exact ⟨rfl, hR.bel⟩
end Go.Proofs.YtnfaeafplaeehaaGreat
end
section
set_option maxRecDepth 100000
set_option linter.unusedVariables false
set_option linter.unusedSimpArgs false
namespace Go.Proofs.YtnfaeafplaeehaaGreat
open Go.RowKit Go.ChangeShapes Go.WideShapes
theorem WalSectors_walk (W : World) {b0 : Nat} {v0 v1 : Value} (hv0 : Value.okWide Tryz.prog W .any b0 3 v0) (h0 : Opens Tryz.prog W 3 v0) (hv1 : Value.okWide Tryz.prog W .any b0 22 v1) (h1 : Opens Tryz.prog W 22 v1) :
    Calls Tryz.prog 3 #[v0, v1] W fun e W' => e = .returned (.bool true) ∧ Below W.heap.size W W' := by
  obtain ⟨n0, rfl, -, -⟩ := Opens.int hv0 h0
  obtain ⟨l, A, c, rfl, hr, ho⟩ := Opens.recs hv1 h1
  exact WalSectors_all n0 l A c W hr ho
end Go.Proofs.YtnfaeafplaeehaaGreat
end
