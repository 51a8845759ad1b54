import Derived.Test.YtnfaeafplaeehaaActs4B
import Derived.Deep.CutRange
import Derived.Deep.Cut
set_option linter.unusedVariables false
set_option linter.unusedSimpArgs false
namespace Go.Proofs.Ytnfaeafplaeehaa
open Go.RowKit
/-! The law DiskActs, walked. -/
set_option maxRecDepth 100000 in
set_option maxHeartbeats 8000000 in
theorem law04_Acts (n0 : Int) (acts : List Act4) (A : Option Addr) (c : Nat) (w : World) (hr : Row w 5 A acts.length (acts.flatMap Act4.cells)) (ho : ∀ a ∈ acts, a.ok w) :
    Calls Try.prog 7 #[.int .i64 n0, .slice A acts.length c] w fun e w' => e = .returned (.bool true) ∧ Below w.heap.size w w' := by
  go_enter Try.func7, Try.ntmps7
  go_wp2_with fail
  refine (law04_head w).mono ?_
  rintro e w1 ⟨rfl, hb1⟩
  by_cases h100 : acts.length ≤ 100
  · obtain ⟨n, hn, hn1, hn12⟩ : ∃ n : Nat, 1 + IntKind.u64.wrap n0 % 12 = n ∧ 1 ≤ n ∧ n ≤ 12 := ⟨(1 + IntKind.u64.wrap n0 % 12).toNat, by omega, by omega, by omega⟩
    have hu0 : 0 ≤ IntKind.u64.wrap n0 := by rw [IntKind.wrap_u64]; omega
    have ht1 : (IntKind.u64.wrap n0).tmod 12 = (n : Int) - 1 := by rw [Int.tmod_eq_emod_of_nonneg hu0]; omega
    have ht2 : IntKind.u64.wrap ((n : Int) - 1) = (n : Int) - 1 := by rw [IntKind.wrap_u64]; omega
    have ht3 : IntKind.i64.wrap ((n : Int) - 1) = (n : Int) - 1 := by rw [IntKind.wrap_i64]; omega
    have ht4 : 1 + ((n : Int) - 1) = n := by omega
    have d1 : decide ((100 : Int) < (acts.length : Int)) = false := decide_eq_false (by omega)
    have d1n : decide (100 < acts.length) = false := decide_eq_false (by omega)
    clear hn hu0
    go_wp2_with fail
    refine (disk_New n w1).mono ?_
    rintro e w2 ⟨d, g, bs, rfl, hD, hnw, hb2⟩
    rw [show (max 1 (min (n : Int) 512)).toNat = n by omega] at hD
    have hbw := hb1.trans (hb2.mono hb1.size)
    have hlw := hb1.size
    have hn' : w.heap.size ≤ d ∧ w.heap.size ≤ g ∧ w.heap.size ≤ bs := by omega
    have hl2 := hbw.size
    clear hb1 hb2 hnw ht1 ht2 ht3 ht4 d1 d1n hlw
    have hO1 : OwnG ((w2.alloc (.cells #[] 9)).alloc (.cells #[] 9)) 9 1 w2.heap.size (.slice (some ⟨w2.heap.size, 0, none⟩) 0 0) 0 (strs (List.replicate 0 zsec)) := (OwnG.new w2 9 1 0 [] rfl (by omega)).below ((Below.refl _ _).alloc (Nat.le_refl _) _)
    have hO2 : OwnG ((w2.alloc (.cells #[] 9)).alloc (.cells #[] 9)) 9 1 (w2.heap.size + 1) (.slice (some ⟨w2.heap.size + 1, 0, none⟩) 0 0) 0 (strs (List.replicate 0 zsec)) := by
      have := OwnG.new (w2.alloc (.cells #[] 9)) 9 1 0 [] rfl (by omega)
      simpa [strs] using this
    have hbA : Below w2.heap.size w2 ((w2.alloc (.cells #[] 9)).alloc (.cells #[] 9)) := ((Below.refl _ _).alloc (Nat.le_refl _) _).alloc (by simp) _
    go_wp2_with fail
    have hD2 := hD.below hbA
    have hbw2 := hbw.trans (hbA.mono hbw.size)
    generalize (w2.alloc (.cells #[] 9)).alloc (.cells #[] 9) = W at hO1 hO2 hD2 hbw2 ⊢
    generalize w2.heap.size = m2 at hO1 hO2 hl2 ⊢
    clear hD hbw hbA
    go_loopw [8, 6, 7] (fun i v6 v7 wr => ∃ (k g1 g2 : Nat), k ≤ n ∧ i = .int .i64 k ∧ OwnG wr 9 1 g1 v6 k (strs (List.replicate k zsec)) ∧ OwnG wr 9 1 g2 v7 k (strs (List.replicate k zsec)) ∧ g1 ≠ g2 ∧ w.heap.size ≤ g1 ∧ w.heap.size ≤ g2 ∧ DiskAt wr d g bs (List.replicate n zsec) [] (-1) ∧ Below w.heap.size w wr) (fun i _ _ _ => n - (intOf i).toNat)
    case atStart => exact ⟨0, m2, m2 + 1, by omega, rfl, hO1, hO2, by omega, hl2, by omega, hD2, hbw2⟩
    case round =>
      clear hO1 hO2 hD2 hbw2
      obtain ⟨k, g1, g2, hk, rfl, hO1, hO2, hne, hg1, hg2, hD, hbw⟩ := hrel
      by_cases hkn : k < n
      · go_wp2_with fail
        refine (law04_full 0 wr).mono ?_
        rintro e w3 ⟨b3, rfl, -, hB3, hb3⟩
        have hD3 := hD.below hb3
        have hO13 := hO1.below hb3
        have hO23 := hO2.below hb3
        have hbw3 := hbw.trans (hb3.mono hbw.size)
        have hR3 := full_row hB3
        rw [fullS_len] at hR3
        have hcv := conv_row (c := 48) hR3 (by omega)
        clear hD hO1 hO2 hbw hb3 hB3 hR3
        have hbA := (Below.refl w3.heap.size w3).alloc (Nat.le_refl _) (.cells #[.string (strOfNums (fullS 0))] 9)
        have hkA := Blk.new w3 9 #[.string (strOfNums (fullS 0))]
        obtain ⟨v4, w4, g14, hap, hO14, hg14, hk4⟩ := app_str (hO13.below hbA) (by omega) w3.heap.size (fullS 0) hkA
        have hO24 := (hO23.below hbA).kept hk4 (by simpa using Ne.symm hne)
        have hD4 := (hD3.below hbA).kept hk4 (by simpa using Ne.symm (hO13.nt hD3.d (by decide))) (by simpa using Ne.symm (hO13.nm hD3.m)) (by simpa using Ne.symm (hO13.nt hD3.s (by decide)))
        have hbw4 := hk4.below (hbw3.trans (hbA.mono hbw3.size)) (by have := hbw3.size; simp; omega) (by simpa using hg1)
        have hne4 : g14 ≠ g2 := by rcases hg14 with rfl | h; exact hne; have := hO23.lt; simp at h; omega
        have hg14' : w.heap.size ≤ g14 := by rcases hg14 with rfl | h; exact hg1; have := hbw3.size; simp at h; omega
        clear hD3 hO13 hO23 hbw3 hbA hkA hk4 hg14 hne hg1
        go_wp2_with (at_builtin; refine wpList_app rfl _ _ _ _ rfl rfl rfl hap ?_)
        clear hap hcv
        refine (law04_full 0 w4).mono ?_
        rintro e w5 ⟨b5, rfl, -, hB5, hb5⟩
        have hD5 := hD4.below hb5
        have hO15 := hO14.below hb5
        have hO25 := hO24.below hb5
        have hbw5 := hbw4.trans (hb5.mono hbw4.size)
        have hR5 := full_row hB5
        rw [fullS_len] at hR5
        have hcv := conv_row (c := 48) hR5 (by omega)
        clear hD4 hO14 hO24 hbw4 hb5 hB5 hR5
        have hbA := (Below.refl w5.heap.size w5).alloc (Nat.le_refl _) (.cells #[.string (strOfNums (fullS 0))] 9)
        have hkA := Blk.new w5 9 #[.string (strOfNums (fullS 0))]
        obtain ⟨v6, w6, g26, hap, hO26, hg26, hk6⟩ := app_str (hO25.below hbA) (by omega) w5.heap.size (fullS 0) hkA
        have hO16 := (hO15.below hbA).kept hk6 (by simpa using hne4)
        have hD6 := (hD5.below hbA).kept hk6 (by simpa using Ne.symm (hO25.nt hD5.d (by decide))) (by simpa using Ne.symm (hO25.nm hD5.m)) (by simpa using Ne.symm (hO25.nt hD5.s (by decide)))
        have hbw6 := hk6.below (hbw5.trans (hbA.mono hbw5.size)) (by have := hbw5.size; simp; omega) (by simpa using hg2)
        have hne6 : g14 ≠ g26 := by rcases hg26 with rfl | h; exact hne4; have := hO15.lt; simp at h; omega
        have hg26' : w.heap.size ≤ g26 := by rcases hg26 with rfl | h; exact hg2; have := hbw5.size; simp at h; omega
        rw [← zsec_full, ← List.replicate_succ'] at hO16 hO26
        clear hD5 hO15 hO25 hbw5 hbA hkA hk6 hg26 hne4 hg2
        go_wp2_with (at_builtin; refine wpList_app rfl _ _ _ _ rfl rfl rfl hap ?_)
        go_roundw
        case rel => exact ⟨k + 1, g14, g26, by omega, rfl, hO16, hO26, hne6, hg14', hg26', hD6, hbw6⟩
        case measure => simp [intOf]; omega
      · obtain rfl : k = n := by omega
        obtain ⟨c6, rfl, hc6, hS1⟩ := hO1.strs (by simp)
        obtain ⟨c7, rfl, hc7, hS2⟩ := hO2.strs (by simp)
        have hA0 := DA.start hD hS1 hS2 hne hn' hg1 hg2 hbw
        clear hD hS1 hS2 hne hn' hg1 hg2 hbw hO1 hO2
        go_wp2_with fail
        generalize wr.alloc (.map #[] 0) = W0 at hA0 ⊢
        generalize wr.heap.size = gd0 at hA0 ⊢
        go_loopw [57, 9, 10] (fun i v9 v10 wl => ∃ (j gd : Nat) (sec : List Sec) (lat : List (Int × Sec)) (fl : Int), j ≤ acts.length ∧ i = .int .i64 j ∧ v9 = .map (some gd) ∧ v10 = .int .i64 fl ∧ DA w k d g bs g1 g2 wl gd sec lat fl ∧ lat.length ≤ j) (fun i _ _ _ => acts.length - (intOf i).toNat)
        case atStart => exact ⟨0, gd0, _, [], -1, by omega, rfl, rfl, rfl, hA0, by simp⟩
        case round =>
          clear hA0
          obtain ⟨j, gd, sec, lat, fl, hj, rfl, rfl, rfl, hA, hll⟩ := hrel
          by_cases hjn : j < acts.length
          · obtain ⟨b, off, rfl, hbl, hcell⟩ := hr.2.2 (by omega)
            have e0 := (hA.bl.cell (p := ⟨b, _, none⟩) hbl).trans (hcell (j * 5 + 0) _ ((flat_get Act4.cells 5 (fun _ => rfl) acts j 0 hjn (by omega)).trans rfl))
            have e1 := (hA.bl.cell (p := ⟨b, _, none⟩) hbl).trans (hcell (j * 5 + 1) _ ((flat_get Act4.cells 5 (fun _ => rfl) acts j 1 hjn (by omega)).trans rfl))
            have e2 := (hA.bl.cell (p := ⟨b, _, none⟩) hbl).trans (hcell (j * 5 + 2) _ ((flat_get Act4.cells 5 (fun _ => rfl) acts j 2 hjn (by omega)).trans rfl))
            have e3 := (hA.bl.cell (p := ⟨b, _, none⟩) hbl).trans (hcell (j * 5 + 3) _ ((flat_get Act4.cells 5 (fun _ => rfl) acts j 3 hjn (by omega)).trans rfl))
            have e4 := (hA.bl.cell (p := ⟨b, _, none⟩) hbl).trans (hcell (j * 5 + 4) _ ((flat_get Act4.cells 5 (fun _ => rfl) acts j 4 hjn (by omega)).trans rfl))
            have hok := ho _ (List.getElem_mem hjn)
            generalize acts[j] = x at *
            obtain ⟨xk, xi, xc, xo, xp, xA, xq⟩ := x
            simp only [← Nat.add_assoc, Nat.add_zero] at e0 e1 e2 e3 e4
            go_upto_block 4 with fail
            have kX := Blk.new wr 79 #[.int .i64 xk, .int .i64 xi, .int .u8 xc, .bool xo, .slice xA xp.length xq]
            have hbA := (Below.refl wr.heap.size wr).alloc (Nat.le_refl _) (.cells #[.int .i64 xk, .int .i64 xi, .int .u8 xc, .bool xo, .slice xA xp.length xq] 79)
            replace hA := hA.below hbA
            clear hbA e0 e1 e2 e3 e4 hcell
            generalize wr.alloc (.cells #[.int .i64 xk, .int .i64 xi, .int .u8 xc, .bool xo, .slice xA xp.length xq] 79) = W1 at *
            generalize wr.heap.size = q at *
            generalize bits BinOp.and IntKind.i64 xk 7 = kd at *
            go_cut [9, 10, 13, 14, 15, 16, 17, 57] from 57 to 235 (fun a9 a10 a13 a14 a15 a16 a17 a57 wc => a57 = .int .i64 j ∧ ∃ (gd' : Nat) (sec' : List Sec) (lat' : List (Int × Sec)) (fl' : Int), a9 = .map (some gd') ∧ a10 = .int .i64 fl' ∧ DA w k d g bs g1 g2 wc gd' sec' lat' fl' ∧ lat'.length ≤ j + 1)
            case first => as_aux_lemma =>
              have hA1 := hA.fl1
              have hA0 := hA.fl0
              have x0 := kX.cell 0
              have x1 := kX.cell 1
              have x2 := kX.cell 2
              have x3 := kX.cell 3
              have x4 := kX.cell 4
              simp only [List.getElem?_toArray, List.getElem?_cons_zero, List.getElem?_cons_succ] at x0 x1 x2 x3 x4
              by_cases k4 : kd = 4
              · have k4' : (kd == 4) = true := beq_iff_eq.2 k4
                have hSy := disk_Sync d g bs sec lat fl W1 hA.dk hA.fl1
                by_cases f0 : fl = 0
                · subst f0
                  simp only [failsF, show ¬ ((0 : Int) < 0) by decide, show decide ((0 : Int) - 1 < 0) = true from rfl, if_false, if_true, ↓reduceIte] at hSy
                  clear k4
                  go_wp2_with fail
                  refine hSy.mono ?_
                  rintro e w3 ⟨rfl, hD3, hk3⟩
                  have HN := Lib.hid (hA.disk hD3 hk3 (by omega) (by omega))
                  go_wp2
                  go_meet
                  case rel => exact ⟨rfl, _, _, _, _, rfl, rfl, HN.out, by omega⟩
                · have hF : (failsF fl).1 = false ∧ -1 ≤ (failsF fl).2 ∧ (failsF fl).2 ≤ 9223372036854775807 := by
                    unfold failsF
                    split
                    · exact ⟨rfl, by omega, by omega⟩
                    · exact ⟨decide_eq_false (by omega), by omega, by omega⟩
                  have hFl : (failsF fl).2 = if 0 ≤ fl then fl - 1 else fl := by
                    unfold failsF
                    split <;> rename_i h
                    · rw [if_neg (by omega)]
                    · rw [if_pos (by omega)]
                  obtain ⟨hF1, hF2, hF3⟩ := hF
                  rw [hF1] at hSy
                  simp only [Bool.false_eq_true, ↓reduceIte] at hSy
                  generalize (failsF fl).2 = fl' at *
                  have f0' : (fl == 0) = false := beq_eq_false_iff_ne.2 f0
                  clear k4
                  by_cases fn : 0 ≤ fl
                  · rw [if_pos fn] at hFl
                    subst hFl
                    have fn' : decide (0 ≤ fl) = true := decide_eq_true fn
                    have hwr : IntKind.i64.wrap (fl - 1) = fl - 1 := by rw [IntKind.wrap_i64]; omega
                    go_wp2_with fail
                    refine hSy.mono ?_
                    rintro e w3 ⟨rfl, hD3, hk3⟩
                    obtain ⟨w4, hcp, hN⟩ := hA.synced hD3 hk3 hF3 hF2 c6 c7
                    have HN := Lib.hid hN
                    have hcp := hcp 3
                    clear hSy hD3 hk3 hN
                    go_wp2
                    go_meet
                    case rel => exact ⟨rfl, _, _, _, _, rfl, rfl, HN.out, by simp⟩
                  · rw [if_neg fn] at hFl
                    subst hFl
                    have fn' : decide (0 ≤ fl') = false := decide_eq_false fn
                    go_wp2_with fail
                    refine hSy.mono ?_
                    rintro e w3 ⟨rfl, hD3, hk3⟩
                    obtain ⟨w4, hcp, hN⟩ := hA.synced hD3 hk3 hF3 hF2 c6 c7
                    have HN := Lib.hid hN
                    have hcp := hcp 3
                    clear hSy hD3 hk3 hN
                    go_wp2
                    go_meet
                    case rel => exact ⟨rfl, _, _, _, _, rfl, rfl, HN.out, by simp⟩
              · have k4' : (kd == 4) = false := beq_eq_false_iff_ne.2 k4
                by_cases k5 : kd = 5
                · have k5' : (kd == 5) = true := beq_iff_eq.2 k5
                  have HR := Lib.hid hok.2.2.1
                  have HT := Lib.hid hok.2.2.2
                  clear k4 k5 hok
                  obtain ⟨⟨n1, n2⟩, ⟨m1, m2, m3⟩, n3, n4⟩ := hA.nots
                  obtain ⟨dty, hm, hd⟩ := hA.dm
                  go_wp2_with fail
                  refine (disk_Crash d g bs sec lat fl xp xA xq W1 hA.dk (HR.out.below hA.bl) (by omega) HR.out.2.1 (fun h b' off' e => by
                    obtain ⟨b2, o2, e2, hlt, -⟩ := HR.out.2.2 h
                    rw [e] at e2
                    cases e2
                    have := hA.gl.2.2.1
                    omega)).mono ?_
                  rintro e w3 ⟨rfl, hD3, hk3⟩
                  have kX3 := hk3.blk kX (by simpa using ⟨kX.nT hA.dk.d (by decide), blk_mapD kX hA.dk.m, kX.nT hA.dk.s (by decide)⟩)
                  have hS3 := hA.rs.kept hk3 n1
                  have hN3 := hA.rn.kept hk3 n2
                  have hm3 := hm.kept hk3 n3
                  have hb3 := kept_below3 hA.bl ⟨hA.gl.1, hA.gl.2.1, hA.gl.2.2.1⟩ hk3
                  obtain ⟨hc0, hI0⟩ := crashI_zero sec lat xp (fun e he => (hA.dk.k e he).1)
                  have hI1 := crashI_all sec lat xp k (fun e he => by have := (hA.dk.k e he).2.1; rw [hA.sn] at this; exact this)
                  have HND := Lib.hid hA.dk.n
                  have HBY := Lib.hid hA.by'
                  have hsn := hA.sn
                  have hg1 := hA.gl.2.2.2.1
                  have hqg : q ≠ g1 := Ne.symm (hA.rs.nt kX (by decide))
                  have hne := hA.ne
                  have hdg : dty = dty := rfl
                  have hgg1 : gd ≠ g1 := by simp at n4; exact n4.1
                  rw [← hI0] at hS3
                  clear x0 x1 x2 x3 x4 kX
                  have HD := Lib.hid hD3
                  have HKD := Lib.hid hk3
                  clear hD3 hk3 hm
                  go_wp2_with fail
                  go_loopw [15, 14] (fun v15 v14 wl => ∃ i : Nat, i ≤ k ∧ v15 = .int .i64 i ∧ v14 = .int .i64 (cntL (ksOf lat) (i : Int)) ∧ StrRow wl g1 (crashI sec lat xp i) ∧ Kept [g1] w3 wl) (fun v15 _ _ => k - (intOf v15).toNat)
                  case atStart => exact ⟨0, by omega, rfl, by rw [hc0]; rfl, hS3, Kept.refl _ _⟩
                  case round => as_aux_lemma =>
                    clear hS3
                    obtain ⟨i, hik, rfl, rfl, hS, hkw⟩ := hrel
                    have kX4 := hkw.blk kX3 (by simpa using hqg)
                    have x4 := kX4.cell 4
                    simp only [List.getElem?_toArray, List.getElem?_cons_zero, List.getElem?_cons_succ] at x4
                    by_cases hin : i < k
                    · have hlk := look_dirty (hm3.kept hkw (by simpa using hgg1)) (i : Int)
                      rw [hd] at hlk
                      cases hg : getM lat (i : Int) with
                      | none =>
                        obtain ⟨e1, e2⟩ := crashI_no sec lat xp i HND.out hg
                        rw [hg] at hlk
                        simp only [Option.isSome_none] at hlk
                        have HE1 := Lib.hid e1
                        have HE2 := Lib.hid e2
                        clear e1 e2
                        go_wp2
                        case roundEnd => exact ⟨⟨i + 1, by omega, rfl, by rw [HE1.out], by rw [HE2.out]; exact hS, hkw⟩, by simp [intOf]; omega⟩
                      | some v =>
                        obtain ⟨e1, e2⟩ := crashI_yes sec lat xp i v HND.out hg
                        rw [hg] at hlk
                        simp only [Option.isSome_some] at hlk
                        have hv48 : v.length = 48 := (getM_len (P := fun e => 0 ≤ e.1 ∧ e.1 < sec.length ∧ e.2.length = 48) hA.dk.k hg).2.2
                        have hvB : Byte v := HBY.out.2 _ (getM_mem hg)
                        have hSl : (crashI sec lat xp i).length = k := by rw [crashI_len, hsn]
                        have hnow := (hN3.kept hkw (by simpa using Ne.symm hne)).cell i (by rw [syncS_len, hsn]; exact hin)
                        rw [show (syncS sec lat)[i]'(by rw [syncS_len, hsn]; exact hin) = v by simp [syncS, atD, hg]] at hnow
                        have hbw := hkw.below hb3 hb3.size (by simpa using hg1)
                        have hg2l := Nat.lt_of_lt_of_le hN3.lt hkw.size
                        have HE1 := Lib.hid e1
                        have HGM := Lib.hid (show (getM lat (i : Int)).getD zsec = v by rw [hg]; rfl)
                        have hcs := hS.cell i (by rw [hSl]; exact hin)
                        have hfs := hS.frozen i
                        clear e1
                        generalize crashI sec lat xp i = S at *
                        have HE2 := Lib.hid e2
                        clear e2
                        have hkk : cntL (ksOf lat) (i : Int) ≤ 100 := Nat.le_trans (List.length_filter_le _ _) (by rw [ks_len]; omega)
                        generalize cntL (ksOf lat) (i : Int) = kk at *
                        have HW := Lib.hid (show wrap64 ((kk : Int) + 1) = ((kk + 1 : Nat) : Int) by unfold wrap64; omega)
                        by_cases hkp : kk < xp.length
                        · obtain ⟨pb, po, rfl, hpb, hpc⟩ := (HR.out.below hbw).2.2 (by omega)
                          have hpw : pb < w.heap.size := by
                            obtain ⟨b2, o2, e2, hlt, -⟩ := HR.out.2.2 (show 0 < xp.length by omega)
                            cases e2
                            exact hlt
                          have e1 : xp[kk]? = some xp[kk] := List.getElem?_eq_getElem hkp
                          have hpt := HT.out xp[kk] (List.getElem_mem hkp)
                          have HP0 := Lib.hid (pk_get xp kk 0 hkp (by omega))
                          have HP1 := Lib.hid (pk_get xp kk 1 hkp (by omega))
                          have HP2 := Lib.hid (pk_get xp kk 2 hkp (by omega))
                          have dk : decide ((kk : Int) < (xp.length : Int)) = true := decide_eq_true (by omega)
                          generalize xp[kk] = p at *
                          obtain ⟨ph, pa, pt⟩ := p
                          have hq0 := hpc (kk * 3 + 0) (.int .i64 ph) HP0.out
                          have hq1 := hpc (kk * 3 + 1) (.int .i64 pa) HP1.out
                          have hq2 := hpc (kk * 3 + 2) (.int .u32 pt) HP2.out
                          simp only [Nat.add_zero, ← Nat.add_assoc] at hq0 hq1 hq2
                          by_cases hph : ph = 0
                          · have HS := Lib.hid (show crash1 lat xp S kk (i : Int) = S by unfold crash1; rw [e1]; simp [hph])
                            rw [HS.out] at HE2
                            subst hph
                            go_wp2
                            case roundEnd => exact ⟨⟨i + 1, by omega, rfl, by rw [HE1.out]; first | rfl | rw [HW.out], by rw [HE2.out]; exact hS, hkw⟩, by simp [intOf]; omega⟩
                          · have HS := Lib.hid (show crash1 lat xp S kk (i : Int) = if ph = 1 then S.set i v else S.set i (spoiltS v (IntKind.u64.wrap pa % 384) pt) by
                              unfold crash1
                              rw [e1]
                              simp only [Int.toNat_natCast]
                              rw [if_neg hph, HGM.out])
                            rw [HS.out] at HE2
                            have hph' : (ph != 0) = true := bne_iff_ne.2 hph
                            have hphn : (ph == 0) = false := beq_eq_false_iff_ne.2 hph
                            clear e1
                            have hS5 := hS.set i (by rw [hSl]; exact hin) v
                            have hk5 : Kept [g1] wr (wr.setCell ⟨g1, i, none⟩ (.string (strOfNums v))) := kept_set (Kept.refl _ _) _ _ (.inl (by simp))
                            have kX5 := hk5.blk kX4 (by simpa using hqg)
                            have x5 := kX5.cell 4
                            simp only [List.getElem?_toArray, List.getElem?_cons_zero, List.getElem?_cons_succ] at x5
                            have hrow5 := hk5.row (HR.out.below hbw) (by intro b off e; cases e; simp; omega)
                            obtain ⟨pb', po', e', hpb5, hpc5⟩ := hrow5.2.2 (by omega)
                            cases e'
                            have hr0 := hpc5 (kk * 3 + 0) (.int .i64 ph) HP0.out
                            have hr1 := hpc5 (kk * 3 + 1) (.int .i64 pa) HP1.out
                            have hr2 := hpc5 (kk * 3 + 2) (.int .u32 pt) HP2.out
                            simp only [Nat.add_zero, ← Nat.add_assoc] at hr0 hr1 hr2
                            clear hpc hpc5 HP0 HP1 HP2
                            by_cases hp1 : ph = 1
                            · rw [if_pos hp1] at HE2
                              subst hp1
                              have hkw5 := hkw.trans hk5
                              go_wp2
                              case roundEnd => exact ⟨⟨i + 1, by omega, rfl, by rw [HE1.out]; first | rfl | rw [HW.out], by rw [HE2.out]; exact hS5, hkw5⟩, by simp [intOf]; omega⟩
                            · rw [if_neg hp1] at HE2
                              have hp1' : (ph != 1) = true := bne_iff_ne.2 hp1
                              have hkw5 := hkw.trans hk5
                              have hnow5 := (hN3.kept hkw5 (by simpa using Ne.symm hne)).cell i (by rw [syncS_len, hsn]; exact hin)
                              rw [show (syncS sec lat)[i]'(by rw [syncS_len, hsn]; exact hin) = v by simp [syncS, atD, hg]] at hnow5
                              have hcs5 := hS5.cell i (by rw [List.length_set, hSl]; exact hin)
                              rw [List.getElem_set_self] at hcs5
                              have hTu := fun W' => law04_turned v pa pt W' hv48 hvB hpt
                              go_wp2_with fail
                              have hS6 := hS5
                              have hbk5 := hk5.below hbw hbw.size (by simpa using hg1)
                              generalize wr.setCell ⟨g1, i, none⟩ (.string (strOfNums v)) = W5 at *
                              have hql := kX5.lt
                              have hg2l5 := Nat.lt_of_lt_of_le hN3.lt hkw5.size
                              have hg1l5 := hS5.lt
                              refine draw_start [20] Later (by kernel_rfl) ?_
                              refine draw_chunk (n := 259) (by kernel_rfl) (fun _ _ _ _ _ h => h) [0, 1, 2, 3, 4, 5, 6, 7, 8, 9, 10, 11, 12, 13, 14, 15, 16, 17] [] _ #[true, true, true, true, true, true, true, true, true, true, true, true, true, true, true, true, true, true, false, false, false] (by kernel_rfl) 3 _ ?_ _ rfl ?_ ?_
                              rotate_left
                              · intro w' hw'
                                have hc' : ∀ b o, b < W5.heap.size → w'.cell? ⟨b, o, none⟩ = W5.cell? ⟨b, o, none⟩ := (bcell hw').1
                                have z0 := (hc' g2 i hg2l5).trans hnow5; have z4 := (hc' q 4 hql).trans x5; have z5 := (hc' pb (po + kk * 3 + 1) hpb5).trans hr1; have z6 := (hc' pb (po + kk * 3 + 2) hpb5).trans hr2
                                refine ci_step (i := 0) (v := ?_) rfl (by kernel_rfl) ?_ ?_
                                rotate_left
                                · first | (go_simp; done) | (go_simp; with_reducible rfl)
                                skip
                                try simp only [Act.put, List.setIfInBounds_toArray, List.set_cons_zero, List.set_cons_succ]
                                refine ci_step (i := 1) (v := ?_) rfl (by kernel_rfl) ?_ ?_
                                rotate_left
                                · first | (go_simp; done) | (go_simp; with_reducible rfl)
                                skip
                                try simp only [Act.put, List.setIfInBounds_toArray, List.set_cons_zero, List.set_cons_succ]
                                refine ci_step (i := 2) (v := ?_) rfl (by kernel_rfl) ?_ ?_
                                rotate_left
                                · first | (go_simp; done) | (go_simp; with_reducible rfl)
                                skip
                                try simp only [Act.put, List.setIfInBounds_toArray, List.set_cons_zero, List.set_cons_succ]
                                refine ci_step (i := 3) (v := ?_) rfl (by kernel_rfl) ?_ ?_
                                rotate_left
                                · first | (go_simp; done) | (go_simp; with_reducible rfl)
                                skip
                                try simp only [Act.put, List.setIfInBounds_toArray, List.set_cons_zero, List.set_cons_succ]
                                refine ci_step (i := 4) (v := ?_) rfl (by kernel_rfl) ?_ ?_
                                rotate_left
                                · first | (go_simp; done) | (go_simp; with_reducible rfl)
                                skip
                                try simp only [Act.put, List.setIfInBounds_toArray, List.set_cons_zero, List.set_cons_succ]
                                refine ci_step (i := 5) (v := ?_) rfl (by kernel_rfl) ?_ ?_
                                rotate_left
                                · first | (go_simp; done) | (go_simp; with_reducible rfl)
                                skip
                                try simp only [Act.put, List.setIfInBounds_toArray, List.set_cons_zero, List.set_cons_succ]
                                refine ci_step (i := 6) (v := ?_) rfl (by kernel_rfl) ?_ ?_
                                rotate_left
                                · first | (go_simp; done) | (go_simp; with_reducible rfl)
                                skip
                                try simp only [Act.put, List.setIfInBounds_toArray, List.set_cons_zero, List.set_cons_succ]
                                refine ci_step (i := 7) (v := ?_) rfl (by kernel_rfl) ?_ ?_
                                rotate_left
                                · first | (go_simp; done) | (go_simp; with_reducible rfl)
                                skip
                                try simp only [Act.put, List.setIfInBounds_toArray, List.set_cons_zero, List.set_cons_succ]
                                refine ci_step (i := 8) (v := ?_) rfl (by kernel_rfl) ?_ ?_
                                rotate_left
                                · first | (go_simp; done) | (go_simp; with_reducible rfl)
                                skip
                                try simp only [Act.put, List.setIfInBounds_toArray, List.set_cons_zero, List.set_cons_succ]
                                refine ci_step (i := 9) (v := ?_) rfl (by kernel_rfl) ?_ ?_
                                rotate_left
                                · first | (go_simp; done) | (go_simp; with_reducible rfl)
                                skip
                                try simp only [Act.put, List.setIfInBounds_toArray, List.set_cons_zero, List.set_cons_succ]
                                refine ci_step (i := 10) (v := ?_) rfl (by kernel_rfl) ?_ ?_
                                rotate_left
                                · first | (go_simp; done) | (go_simp; with_reducible rfl)
                                skip
                                try simp only [Act.put, List.setIfInBounds_toArray, List.set_cons_zero, List.set_cons_succ]
                                refine ci_step (i := 11) (v := ?_) rfl (by kernel_rfl) ?_ ?_
                                rotate_left
                                · first | (go_simp; done) | (go_simp; with_reducible rfl)
                                skip
                                try simp only [Act.put, List.setIfInBounds_toArray, List.set_cons_zero, List.set_cons_succ]
                                refine ci_step (i := 12) (v := ?_) rfl (by kernel_rfl) ?_ ?_
                                rotate_left
                                · first | (go_simp; done) | (go_simp; with_reducible rfl)
                                skip
                                try simp only [Act.put, List.setIfInBounds_toArray, List.set_cons_zero, List.set_cons_succ]
                                refine ci_step (i := 13) (v := ?_) rfl (by kernel_rfl) ?_ ?_
                                rotate_left
                                · first | (go_simp; done) | (go_simp; with_reducible rfl)
                                skip
                                try simp only [Act.put, List.setIfInBounds_toArray, List.set_cons_zero, List.set_cons_succ]
                                refine ci_step (i := 14) (v := ?_) rfl (by kernel_rfl) ?_ ?_
                                rotate_left
                                · first | (go_simp; done) | (go_simp; with_reducible rfl)
                                skip
                                try simp only [Act.put, List.setIfInBounds_toArray, List.set_cons_zero, List.set_cons_succ]
                                refine ci_step (i := 15) (v := ?_) rfl (by kernel_rfl) ?_ ?_
                                rotate_left
                                · first | (go_simp; done) | (go_simp; with_reducible rfl)
                                skip
                                try simp only [Act.put, List.setIfInBounds_toArray, List.set_cons_zero, List.set_cons_succ]
                                refine ci_step (i := 16) (v := ?_) rfl (by kernel_rfl) ?_ ?_
                                rotate_left
                                · first | (go_simp; done) | (go_simp; with_reducible rfl)
                                skip
                                try simp only [Act.put, List.setIfInBounds_toArray, List.set_cons_zero, List.set_cons_succ]
                                refine ci_step (i := 17) (v := ?_) rfl (by kernel_rfl) ?_ ?_
                                rotate_left
                                · first | (go_simp; done) | (go_simp; with_reducible rfl)
                                skip
                                try simp only [Act.put, List.setIfInBounds_toArray, List.set_cons_zero, List.set_cons_succ]
                                refine ci_end ?_
                                rfl
                              refine draw_eff (i := 18) rfl (by kernel_rfl) (listed' := #[true, true, true, true, true, true, true, true, true, true, true, true, true, true, true, true, true, true, true, false, false]) rfl (fun K hK => ?_)
                              replace hK := Lib.hid hK
                              go_wp2_with fail
                              refine (hTu _).mono ?_
                              rintro e w7 ⟨rfl, hb7⟩
                              go_wp2_with fail
                              refine hK.out _ _ ⟨fun _ => hb7, ?_⟩
                              clear hK
                              have hS7 := (hS5.below (Below.drew (Below.refl _ _))).below hb7
                              have hkw7 := (kept_drew hkw5).trans (Kept.of_below hb7)
                              have hcs7 := hS7.cell i (by rw [List.length_set, hSl]; exact hin)
                              have hfs7 := hS7.frozen i
                              have hS8 := hS7.set i (by rw [List.length_set, hSl]; exact hin) (spoiltS v (IntKind.u64.wrap pa % 384) pt)
                              rw [List.set_set, ← HE2.out] at hS8
                              generalize spoiltS v (IntKind.u64.wrap pa % 384) pt = sv at *
                              have hk8 : Kept [g1] w7 (w7.setCell ⟨g1, i, none⟩ (.string (strOfNums sv))) := kept_set (Kept.refl _ _) _ _ (.inl (by simp))
                              have hkw8 := hkw7.trans hk8
                              have hg1l7 := hS7.lt
                              clear hTu hr0 hr1 hr2 hq0 hq1 hq2 x5 x4 hnow5 hnow
                              refine draw_chunk (n := 259) (by kernel_rfl) (fun _ _ _ _ _ h => h) [19] [] _ #[true, true, true, true, true, true, true, true, true, true, true, true, true, true, true, true, true, true, true, true, false] (by kernel_rfl) 1 _ ?_ _ rfl ?_ ?_
                              rotate_left
                              · intro w' hw'
                                have hc' : ∀ b o, b < w7.heap.size → w'.cell? ⟨b, o, none⟩ = w7.cell? ⟨b, o, none⟩ := (bcell hw').1
                                refine ci_step (i := 19) (v := ?_) rfl (by kernel_rfl) ?_ ?_
                                rotate_left
                                · first | (go_simp; done) | (go_simp; with_reducible rfl)
                                skip
                                try simp only [Act.put, List.setIfInBounds_toArray, List.set_cons_zero, List.set_cons_succ]
                                refine ci_end ?_
                                rfl
                              refine draw_eff (i := 20) rfl (by kernel_rfl) (listed' := #[true, true, true, true, true, true, true, true, true, true, true, true, true, true, true, true, true, true, true, true, true]) rfl (fun K hK => ?_)
                              replace hK := Lib.hid hK
                              go_wp2_with fail
                              refine hK.out _ _ ⟨fun h => absurd (by decide) h, ?_⟩
                              clear hK
                              refine draw_done (by kernel_rfl) ?_ _
                              try simp only [Act.put]
                              go_wp2
                              case roundEnd => exact ⟨⟨i + 1, by omega, rfl, by rw [HE1.out]; first | rfl | rw [HW.out], hS8, hkw8⟩, by simp [intOf]; omega⟩
                        · have HS := Lib.hid (show crash1 lat xp S kk (i : Int) = S by unfold crash1; rw [List.getElem?_eq_none (by omega)])
                          rw [HS.out] at HE2
                          have dk : decide ((kk : Int) < (xp.length : Int)) = false := decide_eq_false (by omega)
                          go_wp2
                          case roundEnd => exact ⟨⟨i + 1, by omega, rfl, by rw [HE1.out]; first | rfl | rw [HW.out], by rw [HE2.out]; exact hS, hkw⟩, by simp [intOf]; omega⟩
                    · obtain rfl : i = k := by omega
                      rw [hI1] at hS
                      obtain ⟨w4, hcp, hN⟩ := hA.crashed HD.out HKD.out hkw hS c7 c6
                      have HN := Lib.hid hN
                      have hcp := hcp 3
                      clear hN x4 kX4
                      go_wp2
                      go_meet
                      case rel => exact ⟨rfl, _, _, _, _, rfl, rfl, HN.out, by simp⟩
                · have k5' : (kd == 5) = false := beq_eq_false_iff_ne.2 k5
                  by_cases k6 : kd = 6
                  · have k6' : (kd == 6) = true := beq_iff_eq.2 k6
                    clear k4 k5 k6
                    go_wp2_with fail
                    refine (disk_Fail d g bs sec lat fl xi W1 hA.dk).mono ?_
                    rintro e w3 ⟨rfl, hD3, hk3⟩
                    have HN := Lib.hid (hA.disk hD3 (hk3.more (by simp)) (by have := hok.1; simp only at this; omega) (by omega))
                    replace kX := hk3.blk kX (by simpa using kX.nT hA.dk.d (by decide))
                    have y1 := kX.cell 1
                    simp only [List.getElem?_toArray, List.getElem?_cons_zero, List.getElem?_cons_succ] at y1
                    clear x0 x1 x2 x3 x4
                    go_wp2
                    all_goals go_meet
                    all_goals (case rel => first | exact ⟨rfl, _, _, _, _, rfl, rfl, HN.out, by omega⟩ | (have e := HN.out; rw [show max xi (-1) = xi by omega] at e; exact ⟨rfl, _, _, _, _, rfl, rfl, e, by omega⟩) | (have e := HN.out; rw [show max xi (-1) = -1 by omega] at e; exact ⟨rfl, _, _, _, _, rfl, rfl, e, by omega⟩))
                  · have k6' : (kd == 6) = false := beq_eq_false_iff_ne.2 k6
                    by_cases k7 : kd = 7
                    · have k7' : (kd == 7) = true := beq_iff_eq.2 k7
                      clear k4 k5 k6 k7
                      go_wp2
                      go_meet
                      case rel => exact ⟨rfl, _, _, _, _, rfl, rfl, hA, by omega⟩
                    · have k7' : (kd == 7) = false := beq_eq_false_iff_ne.2 k7
                      have HC := Lib.hid hok.2.1
                      clear k4 k5 k6 k7 hok
                      go_wp2_with fail
                      refine (law04_full xc W1).mono ?_
                      rintro e w3 ⟨b3, rfl, -, hB3, hb3⟩
                      replace hA := hA.below hb3
                      replace kX := kX.below' hb3
                      clear hb3 x0 x1 x2 x3 x4
                      have x1 := kX.cell 1
                      have x3 := kX.cell 3
                      simp only [List.getElem?_toArray, List.getElem?_cons_zero, List.getElem?_cons_succ] at x1 x3
                      have hsn := hA.sn
                      cases xo with
                      | true =>
                        have hbad := disk_Write_bad xi 47 (some ⟨b3, 0, none⟩) 48 d g bs sec lat fl w3 hA.dk (by omega) (.inr (.inr (by omega)))
                        by_cases i0 : xi < 0
                        · have i0' : decide (xi < 0) = true := decide_eq_true i0
                          clear i0
                          go_wp2_with fail
                          refine hbad.mono ?_
                          rintro e w4 ⟨rfl, rfl⟩
                          go_wp2
                          go_meet
                          case rel => exact ⟨rfl, _, _, _, _, rfl, rfl, hA, by omega⟩
                        · have i0' : decide (xi < 0) = false := decide_eq_false i0
                          by_cases i1 : (k : Int) ≤ xi
                          · have i1' : decide ((k : Int) ≤ xi) = true := decide_eq_true i1
                            clear i0 i1
                            go_wp2_with fail
                            refine hbad.mono ?_
                            rintro e w4 ⟨rfl, rfl⟩
                            go_wp2
                            go_meet
                            case rel => exact ⟨rfl, _, _, _, _, rfl, rfl, hA, by omega⟩
                          · have i1' : decide ((k : Int) ≤ xi) = false := decide_eq_false i1
                            clear i0 i1
                            go_wp2_with fail
                            refine hbad.mono ?_
                            rintro e w4 ⟨rfl, rfl⟩
                            go_wp2
                            go_meet
                            case rel => exact ⟨rfl, _, _, _, _, rfl, rfl, hA, by omega⟩
                      | false =>
                        by_cases i0 : xi < 0
                        · have hbad := disk_Write_bad xi 48 (some ⟨b3, 0, none⟩) 48 d g bs sec lat fl w3 hA.dk (by omega) (.inl i0)
                          have i0' : decide (xi < 0) = true := decide_eq_true i0
                          clear i0
                          go_wp2_with fail
                          refine hbad.mono ?_
                          rintro e w4 ⟨rfl, rfl⟩
                          go_wp2
                          go_meet
                          case rel => exact ⟨rfl, _, _, _, _, rfl, rfl, hA, by omega⟩
                        · have i0' : decide (xi < 0) = false := decide_eq_false i0
                          by_cases i1 : (k : Int) ≤ xi
                          · have hbad := disk_Write_bad xi 48 (some ⟨b3, 0, none⟩) 48 d g bs sec lat fl w3 hA.dk (by omega) (.inr (.inl (by omega)))
                            have i1' : decide ((k : Int) ≤ xi) = true := decide_eq_true i1
                            clear i0 i1
                            go_wp2_with fail
                            refine hbad.mono ?_
                            rintro e w4 ⟨rfl, rfl⟩
                            go_wp2
                            go_meet
                            case rel => exact ⟨rfl, _, _, _, _, rfl, rfl, hA, by omega⟩
                          · have i1' : decide ((k : Int) ≤ xi) = false := decide_eq_false i1
                            obtain ⟨i, rfl⟩ := Int.eq_ofNat_of_zero_le (show 0 ≤ xi by omega)
                            have hik : i < k := by omega
                            have i2' : decide (k ≤ i) = false := decide_eq_false (by omega)
                            have hWr := write_full i xc d g bs sec lat fl w3 b3 hA.dk hA.fl1 (by omega) hB3
                            clear i0 i1
                            by_cases f0 : fl = 0
                            · subst f0
                              simp only [failsF, show ¬ ((0 : Int) < 0) by decide, show decide ((0 : Int) - 1 < 0) = true from rfl, if_false, if_true, ↓reduceIte] at hWr
                              go_wp2_with fail
                              refine hWr.mono ?_
                              rintro e w4 ⟨rfl, hD4, hk4⟩
                              have HN := Lib.hid (hA.disk hD4 (hk4.more (by simp)) (by omega) (by omega))
                              go_wp2
                              go_meet
                              case rel => exact ⟨rfl, _, _, _, _, rfl, rfl, HN.out, by omega⟩
                            · have hF : (failsF fl).1 = false ∧ -1 ≤ (failsF fl).2 ∧ (failsF fl).2 ≤ 9223372036854775807 := by
                                unfold failsF
                                split
                                · exact ⟨rfl, by omega, by omega⟩
                                · exact ⟨decide_eq_false (by omega), by omega, by omega⟩
                              have hFl : (failsF fl).2 = if 0 ≤ fl then fl - 1 else fl := by
                                unfold failsF
                                split <;> rename_i h
                                · rw [if_neg (by omega)]
                                · rw [if_pos (by omega)]
                              obtain ⟨hF1, hF2, hF3⟩ := hF
                              rw [hF1] at hWr
                              simp only [Bool.false_eq_true, ↓reduceIte] at hWr
                              generalize (failsF fl).2 = fl' at *
                              have f0' : (fl == 0) = false := beq_eq_false_iff_ne.2 f0
                              by_cases fn : 0 ≤ fl
                              · rw [if_pos fn] at hFl
                                subst hFl
                                have fn' : decide (0 ≤ fl) = true := decide_eq_true fn
                                have hwr : IntKind.i64.wrap (fl - 1) = fl - 1 := by rw [IntKind.wrap_i64]; omega
                                go_wp2_with fail
                                refine hWr.mono ?_
                                rintro e w4 ⟨rfl, hD4, hk4⟩
                                have kB4 := hk4.blk hB3 (by simpa using And.intro (hB3.nT hA.dk.d (by decide)) (blk_mapD hB3 hA.dk.m))
                                have kX4 := hk4.blk kX (by simpa using And.intro (kX.nT hA.dk.d (by decide)) (blk_mapD kX hA.dk.m))
                                obtain ⟨⟨cc, hcc, hcf⟩, w5, hup, hN⟩ := hA.wrote i hik (fullS xc) (byte_full xc HC.out) hD4 hk4 hF3 hF2
                                have HN := Lib.hid hN
                                have hll2 := updM_len (i : Int) (fullS xc) lat
                                have hR4 := full_row kB4
                                rw [fullS_len] at hR4
                                have hcv := conv_row (c := 48) hR4 (by omega)
                                have y1 := kX4.cell 1
                                have y1' := ((kX4.other (a := ⟨g2, i, none⟩) (by simpa using Ne.symm (hA.rn.nt kX (by decide))) (.string (strOfNums (fullS xc))))).cell 1
                                simp only [List.getElem?_toArray, List.getElem?_cons_zero, List.getElem?_cons_succ] at y1 y1'
                                clear hWr hD4 hN x1 x3 hB3
                                go_wp2
                                go_meet
                                case rel => exact ⟨rfl, _, _, _, _, rfl, rfl, HN.out, by omega⟩
                              · rw [if_neg fn] at hFl
                                subst hFl
                                have fn' : decide (0 ≤ fl') = false := decide_eq_false fn
                                go_wp2_with fail
                                refine hWr.mono ?_
                                rintro e w4 ⟨rfl, hD4, hk4⟩
                                have kB4 := hk4.blk hB3 (by simpa using And.intro (hB3.nT hA.dk.d (by decide)) (blk_mapD hB3 hA.dk.m))
                                have kX4 := hk4.blk kX (by simpa using And.intro (kX.nT hA.dk.d (by decide)) (blk_mapD kX hA.dk.m))
                                obtain ⟨⟨cc, hcc, hcf⟩, w5, hup, hN⟩ := hA.wrote i hik (fullS xc) (byte_full xc HC.out) hD4 hk4 hF3 hF2
                                have HN := Lib.hid hN
                                have hll2 := updM_len (i : Int) (fullS xc) lat
                                have hR4 := full_row kB4
                                rw [fullS_len] at hR4
                                have hcv := conv_row (c := 48) hR4 (by omega)
                                have y1 := kX4.cell 1
                                have y1' := ((kX4.other (a := ⟨g2, i, none⟩) (by simpa using Ne.symm (hA.rn.nt kX (by decide))) (.string (strOfNums (fullS xc))))).cell 1
                                simp only [List.getElem?_toArray, List.getElem?_cons_zero, List.getElem?_cons_succ] at y1 y1'
                                clear hWr hD4 hN x1 x3 hB3
                                go_wp2
                                go_meet
                                case rel => exact ⟨rfl, _, _, _, _, rfl, rfl, HN.out, by omega⟩
            case rest => as_aux_lemma =>
              clear hA hll kX
              obtain ⟨rfl, gd', sec', lat', fl', rfl, rfl, hA, hll⟩ := hcut
              go_wp2_with fail
              go_loopw [214] (fun i wl => ∃ m : Nat, m ≤ k ∧ i = .int .i64 m ∧ DA w k d g bs g1 g2 wl gd' sec' lat' fl') (fun i _ => k - (intOf i).toNat)
              case atStart => exact ⟨0, by omega, rfl, hA⟩
              case round =>
                clear hA
                obtain ⟨m, hm, rfl, hA⟩ := hrel
                by_cases hmk : m < k
                · have hcl := hA.rn.cell m (by rw [syncS_len, hA.sn]; exact hmk)
                  have e9 : (syncS sec' lat')[m]'(by rw [syncS_len, hA.sn]; exact hmk) = atD sec' lat' m := by simp [syncS]
                  rw [e9] at hcl
                  go_wp2_with fail
                  refine (disk_Read_ok m d g bs _ _ _ _ hA.dk (by rw [hA.sn]; exact hmk)).mono ?_
                  rintro e w5 ⟨va, rfl, hO, hOl, hb5⟩
                  have hcl5 := (hb5.cell (p := ⟨g2, m, none⟩) hA.rn.lt).trans hcl
                  have hg2l := Nat.lt_of_lt_of_le hA.rn.lt hb5.size
                  replace hA := hA.below hb5
                  obtain ⟨Aa, ca, rfl, hRa, -⟩ := own_row hO (by rw [hOl]; omega) (by simp [u8s])
                  rw [hOl] at hRa ⊢
                  generalize atD sec' lat' m = v at *
                  clear hO hb5 hcl e9
                  go_wp2_with fail
                  refine draw_start [] Later (by kernel_rfl) ?_
                  refine draw_chunk (n := 259) (by kernel_rfl) (fun _ _ _ _ _ h => h) [0, 1, 2, 3, 4, 5, 6, 7, 8, 9, 10] [] _ #[true, true, true, true, true, true, true, true, true, true, true] (by kernel_rfl) 0 _ ?_ _ rfl ?_ ?_
                  rotate_left
                  · intro w' hw'
                    have hc' : ∀ b o, b < w5.heap.size → w'.cell? ⟨b, o, none⟩ = w5.cell? ⟨b, o, none⟩ := (bcell hw').1
                    have hcv := conv_row (c := ca) (hRa.below (undrew hw')) (by omega); have hcl6 := (hc' g2 m hg2l).trans hcl5
                    refine ci_step (i := 0) (v := ?_) rfl (by kernel_rfl) ?_ ?_
                    rotate_left
                    · first | (go_simp; done) | (go_simp; with_reducible rfl)
                    skip
                    try simp only [Act.put, List.setIfInBounds_toArray, List.set_cons_zero, List.set_cons_succ]
                    refine ci_step (i := 1) (v := ?_) rfl (by kernel_rfl) ?_ ?_
                    rotate_left
                    · first | (go_simp; done) | (go_simp; with_reducible rfl)
                    skip
                    try simp only [Act.put, List.setIfInBounds_toArray, List.set_cons_zero, List.set_cons_succ]
                    refine ci_step (i := 2) (v := ?_) rfl (by kernel_rfl) ?_ ?_
                    rotate_left
                    · first | (go_simp; done) | (go_simp; with_reducible rfl)
                    skip
                    try simp only [Act.put, List.setIfInBounds_toArray, List.set_cons_zero, List.set_cons_succ]
                    refine ci_step (i := 3) (v := ?_) rfl (by kernel_rfl) ?_ ?_
                    rotate_left
                    · first | (go_simp; done) | (go_simp; with_reducible rfl)
                    skip
                    try simp only [Act.put, List.setIfInBounds_toArray, List.set_cons_zero, List.set_cons_succ]
                    refine ci_step (i := 4) (v := ?_) rfl (by kernel_rfl) ?_ ?_
                    rotate_left
                    · first | (go_simp; done) | (go_simp; with_reducible rfl)
                    skip
                    try simp only [Act.put, List.setIfInBounds_toArray, List.set_cons_zero, List.set_cons_succ]
                    refine ci_step (i := 5) (v := ?_) rfl (by kernel_rfl) ?_ ?_
                    rotate_left
                    · first | (go_simp; done) | (go_simp; with_reducible rfl)
                    skip
                    try simp only [Act.put, List.setIfInBounds_toArray, List.set_cons_zero, List.set_cons_succ]
                    refine ci_step (i := 6) (v := ?_) rfl (by kernel_rfl) ?_ ?_
                    rotate_left
                    · first | (go_simp; done) | (go_simp; with_reducible rfl)
                    skip
                    try simp only [Act.put, List.setIfInBounds_toArray, List.set_cons_zero, List.set_cons_succ]
                    refine ci_step (i := 7) (v := ?_) rfl (by kernel_rfl) ?_ ?_
                    rotate_left
                    · first | (go_simp; done) | (go_simp; with_reducible rfl)
                    skip
                    try simp only [Act.put, List.setIfInBounds_toArray, List.set_cons_zero, List.set_cons_succ]
                    refine ci_step (i := 8) (v := ?_) rfl (by kernel_rfl) ?_ ?_
                    rotate_left
                    · first | (go_simp; done) | (go_simp; with_reducible rfl)
                    skip
                    try simp only [Act.put, List.setIfInBounds_toArray, List.set_cons_zero, List.set_cons_succ]
                    refine ci_step (i := 9) (v := ?_) rfl (by kernel_rfl) ?_ ?_
                    rotate_left
                    · first | (go_simp; done) | (go_simp; with_reducible rfl)
                    skip
                    try simp only [Act.put, List.setIfInBounds_toArray, List.set_cons_zero, List.set_cons_succ]
                    refine ci_step (i := 10) (v := ?_) rfl (by kernel_rfl) ?_ ?_
                    rotate_left
                    · first | (go_simp; done) | (go_simp; with_reducible rfl)
                    skip
                    try simp only [Act.put, List.setIfInBounds_toArray, List.set_cons_zero, List.set_cons_succ]
                    refine ci_end ?_
                    rfl
                  refine draw_done (by kernel_rfl) ?_ _
                  go_wp2
                  case roundEnd => exact ⟨⟨m + 1, by omega, rfl, hA.below (Below.drew (Below.refl _ _))⟩, by simp [intOf]; omega⟩
                · go_wp2
                  case roundEnd => exact ⟨⟨j + 1, gd', sec', lat', fl', by omega, rfl, rfl, rfl, hA, hll⟩, by simp [intOf]; omega⟩
          · have hD := hA.dk
            have hsn := hA.sn
            go_wp2_with fail
            refine (disk_Read_bad k d g bs sec lat fl _ hD (by omega)).mono ?_
            rintro e w3 ⟨rfl, rfl⟩
            go_wp2_with fail
            refine (disk_Read_bad (-1) d g bs sec lat fl _ hD (by omega)).mono ?_
            rintro e w4 ⟨rfl, rfl⟩
            go_wp2_with fail
            refine (disk_Size d g bs sec lat fl _ hD).mono ?_
            rintro e w5 ⟨rfl, rfl⟩
            rw [hsn]
            go_wp2
            go_ret
            exact ⟨rfl, hA.bl⟩
  · have d1 : decide ((100 : Int) < (acts.length : Int)) = true := decide_eq_true (by omega)
    have d1n : decide (100 < acts.length) = true := decide_eq_true (by omega)
    go_wp2_with fail
    go_ret
    exact ⟨rfl, hb1⟩
end Go.Proofs.Ytnfaeafplaeehaa
