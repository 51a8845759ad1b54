import Derived.Test.YtnfaeafplaeehaaDiskY
set_option linter.unusedVariables false
set_option linter.unusedSimpArgs false
namespace Go.Proofs.Ytnfaeafplaeehaa
open Go.RowKit Go.ChangeMaps
/-! Sync, walked. -/
set_option maxRecDepth 100000 in
set_option maxHeartbeats 2000000 in
theorem disk_Sync (d g bs : Nat) (sec : List Sec) (lat : List (Int × Sec)) (fl : Int) (w : World) (h : DiskAt w d g bs sec lat fl) (hf : fl ≤ 9223372036854775807) :
    Calls Try.prog 27 #[.pointer (some ⟨d, 0, none⟩)] w fun e w' => e = .returned (.int .i64 (if (failsF fl).1 = true then 4 else 0)) ∧ DiskAt w' d g bs (if (failsF fl).1 = true then sec else syncS sec lat) (if (failsF fl).1 = true then lat else []) (failsF fl).2 ∧ Kept [d, g, bs] w w' := by
  have hF := disk_fails d g bs sec lat fl w h hf
  generalize failsF fl = q at *
  obtain ⟨qb, qf⟩ := q
  simp only at hF ⊢
  go_enter Try.func27, Try.ntmps27
  go_wp2_with fail
  refine hF.mono ?_
  rintro e w1 ⟨rfl, hD, hk⟩
  cases qb with
  | true =>
    go_wp2
    go_ret
    exact ⟨rfl, hD, hk.more (by simp)⟩
  | false =>
    clear hF h
    have hB := hD.d
    have b0 := hB.cell 0
    have b1 := hB.cell 1
    have b2 := hB.cell 2
    simp only [List.getElem?_toArray, List.getElem?_cons_zero, List.getElem?_cons_succ] at b0 b1 b2
    have b9 := hB.lt
    obtain ⟨es, clock, hb, hes, hborn, hbn⟩ := hD.m
    have hbl := lt_of_heap hb
    have hrg := run_range_map (P := Try.prog) w1 124 3 128 g es clock Try.underlying124 hb
    have hD0 : SyAt sec lat d g bs qf w1.heap.size clock (w1.alloc (.mapIter (some g) clock #[] clock)) #[] es sec := ⟨⟨clock, Nat.le_refl _, heap_new _ _⟩, (Below.heap_alloc _ _ g hbl).trans hb, hes, hborn, hbn, hD.below ((Below.refl _ _).alloc (Nat.le_refl _) _), rfl, fun e _ he => absurd he (by simp), fun i _ => rfl⟩
    have hk0 : Kept [d, g, bs] w (w1.alloc (.mapIter (some g) clock #[] clock)) := kept_alloc (hk.more (by simp)) _
    have hlw := Lib.hid hk.size
    clear hb hes hborn hbn hk hbl
    go_wp2
    go_loopw [12, 13] (fun _ _ wr => ∃ (seen : Array Nat) (sec' : List Sec), SyAt sec lat d g bs qf w1.heap.size clock wr seen es sec' ∧ Kept [d, g, bs] w wr) (fun _ _ wr => iterLeft wr g w1.heap.size)
    case atStart => exact ⟨#[], sec, hD0, hk0⟩
    case round =>
      clear hD0 hk0 hrg hB b0 b1 b2
      obtain ⟨seen, sec', hS, hk⟩ := hrel
      obtain ⟨c0, hsc, hr⟩ := hS.it
      have hbm := hS.mp
      have hlr := lt_of_heap hr
      have hbl := lt_of_heap hbm
      rcases run_next_at (P := Try.prog) wr 0 w1.heap.size g clock c0 seen es clock hr hbm hS.born hsc with ⟨hz, hnx⟩ | ⟨e, he, w2, hw2, hnx⟩
      · have hD1 := hS.dk
        rw [hS.fin hz] at hD1
        have hB := hD1.d
        have b0 := hB.cell 0
        have b1 := hB.cell 1
        have b2 := hB.cell 2
        simp only [List.getElem?_toArray, List.getElem?_cons_zero, List.getElem?_cons_succ] at b0 b1 b2
        have b9 := hB.lt
        obtain ⟨w3, hcl, hD3, hk3⟩ := hD1.cleared
        have hcl := hcl 0
        go_wp2
        go_ret
        exact ⟨rfl, hD3, hk.trans (hk3.more (by simp))⟩
      · have hee := left_mem es seen e he
        obtain ⟨x, hx, ek, er⟩ := entry_of hS.rd hee
        have hme := Lib.hid (iterLeft_eq hbm hr)
        have hlt2 := Lib.hid (left_step es seen e he hS.nd).length_eq
        obtain ⟨w3, hw3⟩ : ∃ w3, setBlock w2 w1.heap.size (.mapIter (some g) clock (seen.push e.born) clock) = w3 := ⟨_, rfl⟩
        rw [hw3] at hnx
        have hh1 : w2.heap = wr.heap := by rcases hw2 with rfl | rfl <;> rfl
        have hr2 : w3.heap[w1.heap.size]? = some (.mapIter (some g) clock (seen.push e.born) clock) := by rw [← hw3]; exact heap_setBlock_same (by rw [hh1]; exact hlr)
        have hgl1 : g < w1.heap.size := hD.m.lt
        have hbs : bs < w1.heap.size := hD.s.lt
        have hk3 : Kept [w1.heap.size] wr w3 := by
          rw [← hw3]
          rcases hw2 with rfl | rfl
          · exact ⟨rfl, rfl, rfl, by simp [setBlock], fun i hi hs => heap_setBlock_other (by simpa using hs)⟩
          · exact ⟨rfl, rfl, rfl, by simp [setBlock], fun i hi hs => heap_setBlock_other (by simpa using hs)⟩
        have hr3 := Lib.hid hr2
        have hen := run_entry_at (P := Try.prog) w3 w1.heap.size g clock seen es clock e hr2 (hk3.block g hbl (by simp; omega) |>.trans hbm) hee hS.nd
        rw [ek, er] at hen hnx
        have hD3 := hS.dk.kept hk3 (by simp; omega) (by simp; omega) (by simp; exact Nat.ne_of_lt hbs)
        have hkx := hS.dk.k x hx
        have hM4 := Lib.hid ((hk3.block g hbl (by simp; omega)).trans hbm)
        have HX := Lib.hid hx
        have HEK := Lib.hid ek
        have HER := Lib.hid er
        have HEE := Lib.hid hee
        have HS := Lib.hid hS
        have HK := Lib.hid (hk.fresh hk3 hlw.out)
        clear hw3 hh1 hw2 hx ek er hee hS hsc he hr hbm hk hk3 hr2
        obtain ⟨k, v⟩ := x
        simp only at hkx hen hnx
        obtain ⟨hk0', hk1, hv⟩ := hkx
        obtain ⟨i, rfl⟩ := Int.eq_ofNat_of_zero_le hk0'
        have hi : i < sec'.length := by omega
        have HV := Lib.hid hv
        have HI := Lib.hid hi
        have HU := Lib.hid (show (u8s v).length = 48 by simpa [u8s] using hv)
        have h1' : decide ((sec'.length : Int) ≤ (i : Int)) = false := decide_eq_false (by omega)
        have h1n : decide (i < sec'.length) = true := decide_eq_true (by omega)
        clear hk0' hk1 hv hi
        simp only [ikey] at hen hnx
        go_wp2_with (first | (refine wpList_alloc_sec rfl rfl ?_) | (refine wpList_storeN_sec rfl _ _ rfl zsec v rfl rfl zsec_len HV.out ?_))
        have hD4 := hD3.alloc (.cells (u8s v).toArray 128)
        have hr4 := (Below.heap_alloc w3 (.cells (u8s v).toArray 128) _ (lt_of_heap hr3.out)).trans hr3.out
        have hM5 := (Below.heap_alloc w3 (.cells (u8s v).toArray 128) _ (lt_of_heap hM4.out)).trans hM4.out
        have kN := Blk.new w3 128 (u8s v).toArray
        have hk4 := kept_alloc HK.out (.cells (u8s v).toArray 128)
        have hN := lt_of_heap hr3.out
        generalize w3.alloc (.cells (u8s v).toArray 128) = W4 at hD4 hr4 hM5 kN hk4 ⊢
        generalize w3.heap.size = n4 at kN hN ⊢
        have hB := hD4.d
        have b0 := hB.cell 0
        have b1 := hB.cell 1
        have b2 := hB.cell 2
        simp only [List.getElem?_toArray, List.getElem?_cons_zero, List.getElem?_cons_succ] at b0 b1 b2
        have b9 := hB.lt
        have n9 := kN.lt
        refine draw_start [7] Later (by kernel_rfl) ?_
        refine draw_chunk (n := 28) (by kernel_rfl) (fun _ _ _ _ _ h => h) [0, 1, 2, 3, 4, 5, 6] [] _ #[true, true, true, true, true, true, true, false] (by kernel_rfl) 1 _ ?_ _ rfl ?_ ?_
        rotate_left
        · intro w' hw'
          have hc' : ∀ b o, b < W4.heap.size → w'.cell? ⟨b, o, none⟩ = W4.cell? ⟨b, o, none⟩ := (bcell hw').1
          have hi9 := HI.out; have hld := run_loadVar_mid (P := Try.prog) w' n4 0 128 (u8s v) _ (fun j u hj => (hc' n4 (0 + j) n9).trans (by rw [kN.cell]; simpa using hj)) Try.underlying128 rfl (by rw [HU.out]; kernel_rfl)
          refine ci_step (i := 0) (v := ?_) rfl (by kernel_rfl) ?_ ?_
          rotate_left
          · first | (go_simp; done) | (go_simp; with_reducible rfl)
          skip
          try simp only [Act.put, List.setIfInBounds_toArray, List.set_cons_zero, List.set_cons_succ]
          refine ci_step (i := 1) (v := ?_) rfl (by kernel_rfl) ?_ ?_
          rotate_left
          · first | (go_simp; done) | (go_simp; with_reducible rfl)
          skip
          try simp only [Act.put, List.setIfInBounds_toArray, List.set_cons_zero, List.set_cons_succ]
          refine ci_step (i := 2) (v := ?_) rfl (by kernel_rfl) ?_ ?_
          rotate_left
          · first | (go_simp; done) | (go_simp; with_reducible rfl)
          skip
          try simp only [Act.put, List.setIfInBounds_toArray, List.set_cons_zero, List.set_cons_succ]
          refine ci_step (i := 3) (v := ?_) rfl (by kernel_rfl) ?_ ?_
          rotate_left
          · first | (go_simp; done) | (go_simp; with_reducible rfl)
          skip
          try simp only [Act.put, List.setIfInBounds_toArray, List.set_cons_zero, List.set_cons_succ]
          refine ci_step (i := 4) (v := ?_) rfl (by kernel_rfl) ?_ ?_
          rotate_left
          · first | (go_simp; done) | (go_simp; with_reducible rfl)
          skip
          try simp only [Act.put, List.setIfInBounds_toArray, List.set_cons_zero, List.set_cons_succ]
          refine ci_step (i := 5) (v := ?_) rfl (by kernel_rfl) ?_ ?_
          rotate_left
          · refine (execLoad rfl rfl hld).trans ?_; with_reducible rfl
          skip
          try simp only [Act.put, List.setIfInBounds_toArray, List.set_cons_zero, List.set_cons_succ]
          refine ci_step (i := 6) (v := ?_) rfl (by kernel_rfl) ?_ ?_
          rotate_left
          · first | (go_simp; done) | (go_simp; with_reducible rfl)
          skip
          try simp only [Act.put, List.setIfInBounds_toArray, List.set_cons_zero, List.set_cons_succ]
          refine ci_end ?_
          rfl
        refine draw_eff (i := 7) rfl (by kernel_rfl) (listed' := #[true, true, true, true, true, true, true, true]) rfl (fun K hK => ?_)
        replace hK := Lib.hid hK
        refine wpList_store_sec rfl _ _ rfl bs (i * 48) v rfl rfl HV.out (by simpa using hD4.there i HI.out) ?_
        go_wp2_with fail
        refine hK.out _ _ ⟨fun h => absurd (by decide) h, ?_⟩
        clear hK
        refine draw_done (by kernel_rfl) ?_ _
        simp only [Act.put]
        have hD5 : DiskAt (W4.drew.setCells bs (i * 48) (u8s v)) d g bs (sec'.set i v) lat qf := DiskAt.setSec (W := W4.drew) (hD4.below (Below.drew (Below.refl _ _))) i HI.out v HV.out
        have hk5 : Kept [bs] W4 (W4.drew.setCells bs (i * 48) (u8s v)) := kept_setCells bs _ _ _ _ (kept_drew (Kept.refl _ _))
        generalize W4.drew.setCells bs (i * 48) (u8s v) = W5 at hD5 hk5 ⊢
        have hr5 := (hk5.block _ (lt_of_heap hr4) (by simp; exact Nat.ne_of_gt hbs)).trans hr4
        have hM6 := (hk5.block _ (lt_of_heap hM5) (by simp; exact fun e => blk_mapD hD4.s hD4.m e.symm)).trans hM5
        go_wp2
        go_roundw
        case rel => exact ⟨seen.push e.born, sec'.set i v, HS.out.step e HEE.out _ HX.out HEK.out HER.out hr5 hM6 hD5, hk4.trans (hk5.more (by simp))⟩
        case measure =>
          rw [iterLeft_eq hM6 hr5, hme.out]
          have := hlt2.out
          simp only [List.length_cons] at this
          omega
end Go.Proofs.Ytnfaeafplaeehaa
