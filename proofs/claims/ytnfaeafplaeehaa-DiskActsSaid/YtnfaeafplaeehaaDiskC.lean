import Derived.Test.YtnfaeafplaeehaaDiskS
set_option linter.unusedVariables false
set_option linter.unusedSimpArgs false
namespace Go.Proofs.Ytnfaeafplaeehaa
open Go.RowKit
/-! A sector with bits turned. -/
def flip1 (a turn : Int) (l : Sec) (n : Nat) : Sec := if bits .and .u32 (turn / 2 ^ n) 1 = 1 ∧ a + n < 384 then l.set ((a + n) / 8).toNat (bits .xor .u8 (l.getD ((a + n) / 8).toNat 0) (128 / 2 ^ ((a + n) % 8).toNat)) else l
def spoiltL (l : Sec) (a turn : Int) (n : Nat) : Sec := (List.range n).foldl (flip1 a turn) l
def spoiltS (l : Sec) (a turn : Int) : Sec := spoiltL l a turn 32
theorem spoiltL_succ (l : Sec) (a turn : Int) (n : Nat) : spoiltL l a turn (n + 1) = flip1 a turn (spoiltL l a turn n) n := by
  unfold spoiltL
  rw [List.range_succ, List.foldl_append]
  rfl
theorem flip1_len (a turn : Int) (l : Sec) (n : Nat) : (flip1 a turn l n).length = l.length := by
  unfold flip1
  split <;> simp
theorem spoiltL_len (l : Sec) (a turn : Int) : ∀ n : Nat, (spoiltL l a turn n).length = l.length
  | 0 => rfl
  | n + 1 => by rw [spoiltL_succ, flip1_len, spoiltL_len l a turn n]
set_option maxRecDepth 100000 in
set_option maxHeartbeats 2000000 in
theorem disk_spoilt (l : Sec) (at_ turn : Int) (w : World) (hl : l.length = 48) (ha : 0 ≤ at_ ∧ at_ < 384) :
    Calls Try.prog 64 #[secV l, .int .i64 at_, .int .u32 turn] w fun e w' => e = .returned (secV (spoiltS l at_ turn)) ∧ Below w.heap.size w w' := by
  have HL := Lib.hid hl
  go_enter Try.func64, Try.ntmps64
  go_wp2_with (first | (refine wpList_alloc_sec rfl rfl ?_) | (refine wpList_box_sec rfl _ rfl l rfl ?_))
  have k0 := (Blk.new w 128 (u8s l).toArray).alloc (.cells (u8s zsec).toArray 128)
  have k6 := Blk.new (w.alloc (.cells (u8s l).toArray 128)) 128 (u8s zsec).toArray
  have hb0 : Below w.heap.size w ((w.alloc (.cells (u8s l).toArray 128)).alloc (.cells (u8s zsec).toArray 128)) := ((Below.refl _ _).alloc (Nat.le_refl _) _).alloc (by simp) _
  simp only [World.size_alloc] at k6
  generalize (w.alloc (.cells (u8s l).toArray 128)).alloc (.cells (u8s zsec).toArray 128) = W0 at k0 k6 hb0 ⊢
  go_loopw [9] (fun i wr => ∃ (n : Nat), n ≤ 32 ∧ i = .int .i64 n ∧ Blk wr w.heap.size 128 (u8s (spoiltL l at_ turn n)).toArray ∧ Blk wr (w.heap.size + 1) 128 (u8s zsec).toArray ∧ Below w.heap.size w wr) (fun i _ => 32 - (intOf i).toNat)
  case atStart => exact ⟨0, by omega, rfl, k0, k6, hb0⟩
  case round =>
    clear k0 k6 hb0
    obtain ⟨n, hn, rfl, h1, h6, hb⟩ := hrel
    by_cases hn2 : n < 32
    · have hlen : (spoiltL l at_ turn n).length = 48 := by rw [spoiltL_len, hl]
      have HS := Lib.hid (spoiltL_succ l at_ turn n)
      generalize spoiltL l at_ turn n = l' at *
      by_cases hc : bits .and .u32 (turn / 2 ^ n) 1 = 1
      · by_cases hd : at_ + (n : Int) < 384
        · have e1 : flip1 at_ turn l' n = l'.set ((at_ + n) / 8).toNat (bits .xor .u8 (l'.getD ((at_ + n) / 8).toNat 0) (128 / 2 ^ ((at_ + n) % 8).toNat)) := by
            unfold flip1
            rw [if_pos ⟨hc, hd⟩]
          rw [e1] at HS
          have h9 := h1.lt
          obtain ⟨j, hj⟩ : ∃ j : Nat, (at_ + n) / 8 = j := ⟨((at_ + n) / 8).toNat, by omega⟩
          obtain ⟨r, hr⟩ : ∃ r : Nat, (at_ + n) % 8 = r := ⟨((at_ + n) % 8).toNat, by omega⟩
          have hj48 : j < 48 := by omega
          have hq : (at_ + n).tdiv 8 = j := by rw [Int.tdiv_eq_ediv_of_nonneg (by omega)]; exact hj
          have hq2 : IntKind.i64.wrap ((j : Nat) : Int) = j := by rw [IntKind.wrap_i64]; omega
          have hq3 : ((j : Nat) : Int) < 48 := by omega
          have hr2 : (at_ + n).tmod 8 = r := by rw [Int.tmod_eq_emod_of_nonneg (by omega)]; exact hr
          have hcell : wr.cell? ⟨w.heap.size, j, none⟩ = some (.int .u8 (l'.getD j 0)) := by
            rw [h1.cell]
            simp [u8s, List.getElem?_eq_getElem (show j < l'.length by omega), List.getD_eq_getElem?_getD]
          have hfz := h1.frozen j
          clear e1
          have hr8 : min r 8 = r := by omega
          rw [hj, hr, Int.toNat_natCast, Int.toNat_natCast] at HS
          clear hj hr
          go_wp2
          refine draw_start [9] Later (by kernel_rfl) ?_
          refine draw_chunk (n := 35) (by kernel_rfl) (fun _ _ _ _ _ h => h) [0, 1, 2, 3, 4, 5, 6, 7, 8] [] _ #[true, true, true, true, true, true, true, true, true, false] (by kernel_rfl) 1 _ ?_ _ rfl ?_ ?_
          rotate_left
          · intro w' hw'
            have hc' : ∀ b o, b < wr.heap.size → w'.cell? ⟨b, o, none⟩ = wr.cell? ⟨b, o, none⟩ := (bcell hw').1
            have hcl := (hc' w.heap.size j h9).trans hcell
            refine ci_step (i := 0) (v := ?_) rfl (by kernel_rfl) ?_ ?_
            rotate_left
            · first | (go_simp; done) | (go_simp; with_reducible rfl)
            skip
            try simp only [Act.put, List.setIfInBounds_toArray, List.set_cons_zero, List.set_cons_succ]
            refine ci_step (i := 1) (v := ?_) rfl (by kernel_rfl) ?_ ?_
            rotate_left
            · first | (go_simp; done) | (go_simp; with_reducible rfl)
            skip
            try simp only [Act.put, List.setIfInBounds_toArray, List.set_cons_zero, List.set_cons_succ]
            refine ci_step (i := 2) (v := ?_) rfl (by kernel_rfl) ?_ ?_
            rotate_left
            · first | (go_simp; done) | (go_simp; with_reducible rfl)
            skip
            try simp only [Act.put, List.setIfInBounds_toArray, List.set_cons_zero, List.set_cons_succ]
            refine ci_step (i := 3) (v := ?_) rfl (by kernel_rfl) ?_ ?_
            rotate_left
            · first | (go_simp; done) | (go_simp; with_reducible rfl)
            skip
            try simp only [Act.put, List.setIfInBounds_toArray, List.set_cons_zero, List.set_cons_succ]
            refine ci_step (i := 4) (v := ?_) rfl (by kernel_rfl) ?_ ?_
            rotate_left
            · first | (go_simp; done) | (go_simp; with_reducible rfl)
            skip
            try simp only [Act.put, List.setIfInBounds_toArray, List.set_cons_zero, List.set_cons_succ]
            refine ci_step (i := 5) (v := ?_) rfl (by kernel_rfl) ?_ ?_
            rotate_left
            · first | (go_simp; done) | (go_simp; with_reducible rfl)
            skip
            try simp only [Act.put, List.setIfInBounds_toArray, List.set_cons_zero, List.set_cons_succ]
            refine ci_step (i := 6) (v := ?_) rfl (by kernel_rfl) ?_ ?_
            rotate_left
            · first | (go_simp; done) | (go_simp; with_reducible rfl)
            skip
            try simp only [Act.put, List.setIfInBounds_toArray, List.set_cons_zero, List.set_cons_succ]
            refine ci_step (i := 7) (v := ?_) rfl (by kernel_rfl) ?_ ?_
            rotate_left
            · first | (go_simp; done) | (go_simp; with_reducible rfl)
            skip
            try simp only [Act.put, List.setIfInBounds_toArray, List.set_cons_zero, List.set_cons_succ]
            refine ci_step (i := 8) (v := ?_) rfl (by kernel_rfl) ?_ ?_
            rotate_left
            · first | (go_simp; done) | (go_simp; with_reducible rfl)
            skip
            try simp only [Act.put, List.setIfInBounds_toArray, List.set_cons_zero, List.set_cons_succ]
            refine ci_end ?_
            rfl
          refine draw_eff (i := 9) rfl (by kernel_rfl) (listed' := #[true, true, true, true, true, true, true, true, true, true]) rfl (fun K hK => ?_)
          replace hK := Lib.hid hK
          try rw [hr8]
          have hg9 : (u8s l')[j]? = some (.int .u8 l'[j]) := u8s_get l' j (by omega)
          have HF := Lib.hid (show l'.getD j 0 = l'[j] by rw [List.getD_eq_getElem?_getD, List.getElem?_eq_getElem (by omega)]; rfl)
          rw [HF.out] at HS
          have kS := h1.drew.set j (.int .u8 (bits .xor .u8 l'[j] (128 / 2 ^ r)))
          have kZ := h6.drew.other (a := ⟨w.heap.size, j, none⟩) (by simp) (.int .u8 (bits .xor .u8 l'[j] (128 / 2 ^ r)))
          have hbS : Below w.heap.size w (wr.drew.setCell ⟨w.heap.size, j, none⟩ (.int .u8 (bits .xor .u8 l'[j] (128 / 2 ^ r)))) := (Below.drew hb).setCell (show w.heap.size ≤ (⟨w.heap.size, j, none⟩ : Addr).block from Nat.le_refl _) _
          have e8 : (u8s l').toArray.setIfInBounds j (.int .u8 (bits .xor .u8 l'[j] (128 / 2 ^ r))) = (u8s (spoiltL l at_ turn (n + 1))).toArray := by
            rw [HS.out, List.setIfInBounds_toArray]
            simp [u8s, List.map_set]
          rw [e8] at kS
          go_wp2_with fail
          refine hK.out _ _ ⟨fun h => absurd (by decide) h, ?_⟩
          clear hK
          refine draw_done (by kernel_rfl) ?_ _
          go_wp2
          case roundEnd => exact ⟨⟨n + 1, by omega, rfl, kS, kZ, hbS⟩, by simp [intOf]; omega⟩
        · have e1 : flip1 at_ turn l' n = l' := by
            unfold flip1
            rw [if_neg fun h => hd h.2]
          rw [e1] at HS
          rw [← HS.out] at h1
          go_wp2
          case roundEnd => exact ⟨⟨n + 1, by omega, rfl, h1, h6, hb⟩, by simp [intOf]; omega⟩
      · have e1 : flip1 at_ turn l' n = l' := by
          unfold flip1
          rw [if_neg fun h => hc h.1]
        rw [e1] at HS
        rw [← HS.out] at h1
        go_wp2
        case roundEnd => exact ⟨⟨n + 1, by omega, rfl, h1, h6, hb⟩, by simp [intOf]; omega⟩
    · obtain rfl : n = 32 := by omega
      change Blk wr w.heap.size 128 (u8s (spoiltS l at_ turn)).toArray at h1
      have hlen : (spoiltS l at_ turn).length = 48 := by unfold spoiltS; rw [spoiltL_len, hl]
      generalize hs : spoiltS l at_ turn = s at *
      have HU := Lib.hid (show (u8s s).length = 48 by simpa [u8s] using hlen)
      have HRG := Lib.hid (show wr.rangeAt w.heap.size 0 (u8s s) from fun j v hj => by rw [h1.cell]; simpa using hj)
      have HTH := Lib.hid (show wr.there (w.heap.size + 1) 0 48 from fun j hj => by
        have hz : j < (u8s zsec).length := by rw [u8s_len, zsec_len]; exact hj
        refine ⟨?_, h6.frozen _⟩
        rw [h6.cell]
        simp [hz])
      have HV := Lib.hid hlen
      go_wp2_with (first | (refine wpList_load_sec rfl _ rfl _ _ rfl (u8s s) ?_ ?_ ?_; exact HU.out; exact HRG.out) | (refine wpList_store_sec rfl _ _ rfl (w.heap.size + 1) 0 s rfl rfl HV.out HTH.out ?_))
      have hT := World.rangeAt_setCells_same wr (w.heap.size + 1) 0 (u8s s) (by rw [HU.out]; exact HTH.out)
      have hbE : Below w.heap.size w (wr.setCells (w.heap.size + 1) 0 (u8s s)) := (kept_setCells (w.heap.size + 1) (u8s s) 0 wr wr (Kept.refl _ _)).below hb hb.size (by simp)
      simp only [Act.put]
      refine bodyPost_ret (v := secV s) ?_ rfl ⟨by rw [hs], hbE⟩
      have hld := run_loadVar_mid (P := Try.prog) (wr.setCells (w.heap.size + 1) 0 (u8s s)) (w.heap.size + 1) 0 128 (u8s s) _ hT Try.underlying128 rfl (by rw [HU.out]; exact size_sec)
      simp [results, Try.results64, hld]
      simp only [asAddr, Sem.run_pure, Result.andThen_ok, hld]
      rfl
end Go.Proofs.Ytnfaeafplaeehaa
