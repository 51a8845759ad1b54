import Derived.Test.YtnfaeafplaeehaaRecs
set_option linter.unusedVariables false
set_option linter.unusedSimpArgs false
namespace Go.Proofs.Ytnfaeafplaeehaa
open Go.RowKit
theorem and65535 (x : Int) : 0 ≤ Go.bits .and .i64 x 65535 ∧ Go.bits .and .i64 x 65535 ≤ 65535 := by
  have h : (BitVec.ofInt 64 x &&& BitVec.ofInt 64 65535).toNat ≤ 65535 := by
    rw [BitVec.toNat_and]
    exact Nat.and_le_right
  show 0 ≤ IntKind.i64.wrap ((BitVec.ofInt 64 x &&& BitVec.ofInt 64 65535).toNat : Int) ∧ _
  have : Go.bits .and .i64 x 65535 = IntKind.i64.wrap ((BitVec.ofInt 64 x &&& BitVec.ofInt 64 65535).toNat : Int) := rfl
  rw [this, IntKind.wrap_i64]
  omega
theorem run_id (σ : St) (l : List Rec) : (σ.run l).id = σ.id := by
  unfold St.run
  induction l generalizing σ with
  | nil => rfl
  | cons r l ih =>
    rw [List.foldl_cons, ih]
    unfold St.apply
    split
    · rfl
    · split
      · rfl
      · split <;> rfl
theorem recs_len (σ : St) (ss : List Pfx) (ks : List Key) (hs : ss.Perm (σ.own.map (·.1))) (hk : ks.Perm (σ.fl.map (·.1))) : (recsOf σ ss ks).length = σ.own.length + (if 0 < σ.lease then 1 else 0) + σ.fl.length := by
  have h1 := hs.length_eq
  have h2 := hk.length_eq
  simp at h1 h2
  unfold recsOf
  simp only [List.length_append, List.length_map, h1, h2]
  split <;> simp
theorem recs_all (σ : St) (ss : List Pfx) (ks : List Key) (h : Nice σ) (n1 : (σ.own.map (·.1)).Nodup) (n2 : (σ.fl.map (·.1)).Nodup) (hs : ss.Perm (σ.own.map (·.1))) (hk : ks.Perm (σ.fl.map (·.1))) : ∀ r ∈ recsOf σ ss ks, (recRightB r = true ∧ r.ok) ∧ r.gen = 0 ∧ r.lsn = 0 := by
  intro r hr
  unfold recsOf at hr
  rw [List.mem_append, List.mem_append] at hr
  rcases hr with (hr | hr) | hr
  · obtain ⟨x, hx, rfl⟩ := List.mem_map.1 hr
    obtain ⟨v, hv⟩ := getM_mem σ.own x (hs.mem_iff.1 hx)
    rw [hv]
    exact ⟨h.o _ ((getM_iff x v σ.own n1).1 hv), rfl, rfl⟩
  · split at hr
    · rename_i h0
      obtain rfl := List.mem_singleton.1 hr
      exact ⟨h.m h0, rfl, rfl⟩
    · simp at hr
  · obtain ⟨x, hx, rfl⟩ := List.mem_map.1 hr
    obtain ⟨v, hv⟩ := getM_mem σ.fl x (hk.mem_iff.1 hx)
    rw [hv]
    exact ⟨h.f _ ((getM_iff x v σ.fl n2).1 hv), rfl, rfl⟩
set_option maxRecDepth 100000 in
set_option maxHeartbeats 16000000 in
theorem StateAnew_all (id at_ : Int) (l : List Rec) (A : Option Addr) (c : Nat) (w : World) (hr : Row w 9 A l.length (recs l)) (ho : RecsOk l) :
    Calls Try.prog 10 #[.int .u32 id, .slice A l.length c, .int .i64 at_] w fun e w' => e = .returned (.bool true) ∧ Below w.heap.size w w' := by
  have hn := hr.2.1
  cases hfew : fewB l with
  | false =>
    go_enter Try.func10, Try.ntmps10
    go_wp2_with fail
    refine (law06_head _).mono ?_
    rintro e w1 ⟨rfl, hb1⟩
    go_wp2_with fail
    refine (law06_few l A c w1 (hr.below hb1) ho).mono ?_
    rintro e w2 ⟨rfl, hb3⟩
    rw [hfew]
    have hb2 := below_step hb1 hb1.size hb3
    clear hb1 hb3
    go_wp2
    go_ret
    exact ⟨rfl, hb2⟩
  | true =>
    have hgood := good_run id l hfew
    have hl60 := few_len l hfew
    have hnice := nice_run id l hfew ho l.length (Nat.le_refl _)
    rw [List.take_length] at hnice
    have hidr : (St.run ⟨id, 0, [], []⟩ l).id = id := run_id _ _
    go_enter Try.func10, Try.ntmps10
    go_wp2_with fail
    refine (law06_head _).mono ?_
    rintro e w1 ⟨rfl, hb1⟩
    go_wp2_with fail
    refine (law06_few l A c w1 (hr.below hb1) ho).mono ?_
    rintro e w2 ⟨rfl, hb3⟩
    rw [hfew]
    have hb2 := below_step hb1 hb1.size hb3
    clear hb1 hb3
    go_wp2_with fail
    refine (state_New _ _).mono ?_
    rintro e w3 ⟨hb3, s, g1, g2, rfl, hS, ks, kg1, kg2⟩
    go_wp2_with fail
    refine (law06_New _ _).mono ?_
    rintro e w4 ⟨hb4, m, h1, h2, rfl, hM, km, kh1, kh2⟩
    have z1 := hS.1.lt
    have z2 := (hS.2.1).lt
    have z3 := (hS.2.2.1).lt
    have hsep : s < m ∧ s < h1 ∧ s < h2 ∧ g1 < m ∧ g1 < h1 ∧ g1 < h2 ∧ g2 < m ∧ g2 < h1 ∧ g2 < h2 := by omega
    replace hS := hS.below hb4
    have hw0 : Below w2.heap.size w2 w4 := below_step hb3 hb3.size hb4
    have hge : w2.heap.size ≤ m ∧ w2.heap.size ≤ h1 ∧ w2.heap.size ≤ h2 := by have := hb3.size; omega
    clear hb3 hb4 z1 z2 z3 km kh1 kh2
    go_wp2
    go_loopw [28] (fun i wr => ∃ k : Nat, k ≤ l.length ∧ i = .int .i64 k ∧ StAt 121 wr s g1 g2 (St.run ⟨id, 0, [], []⟩ (l.take k)) ∧ StAt 45 wr m h1 h2 (St.run ⟨id, 0, [], []⟩ (l.take k)) ∧ Below w2.heap.size w2 wr) (fun i _ => l.length - (intOf i).toNat)
    case atStart => exact ⟨0, Nat.zero_le _, rfl, hS, hM, hw0⟩
    case round =>
      clear hS hM hw0
      obtain ⟨k, hk, rfl, hS, hM, hw⟩ := hrel
      by_cases hlt : k < l.length
      · obtain ⟨b, off, rfl, hbl, hcell⟩ := (hr.below (below_step hb2 hb2.size hw)).2.2 (by omega)
        have e0 := hcell (k * 9 + 0) _ (recs_get l k 0 hlt (by omega))
        have e1 := hcell (k * 9 + 1) _ (recs_get l k 1 hlt (by omega))
        have e2 := hcell (k * 9 + 2) _ (recs_get l k 2 hlt (by omega))
        have e3 := hcell (k * 9 + 3) _ (recs_get l k 3 hlt (by omega))
        have e4 := hcell (k * 9 + 4) _ (recs_get l k 4 hlt (by omega))
        have e5 := hcell (k * 9 + 5) _ (recs_get l k 5 hlt (by omega))
        have e6 := hcell (k * 9 + 6) _ (recs_get l k 6 hlt (by omega))
        have e7 := hcell (k * 9 + 7) _ (recs_get l k 7 hlt (by omega))
        have e8 := hcell (k * 9 + 8) _ (recs_get l k 8 hlt (by omega))
        have HT := Lib.hid (run_take ⟨id, 0, [], []⟩ l k hlt)
        clear hgood
        generalize l[k] = r at *
        obtain ⟨kind, gen, lsn, xid, xa, xl, on, rs, rm⟩ := r
        simp only [Rec.cells, List.getElem?_cons_zero, List.getElem?_cons_succ, ← Nat.add_assoc, Nat.add_zero] at e0 e1 e2 e3 e4 e5 e6 e7 e8
        clear hcell
        go_wp2_with fail
        have z1 := hS.1.lt
        have z2 := (hS.2.1).lt
        have z3 := (hS.2.2.1).lt
        have z4 := hM.1.lt
        have z5 := (hM.2.1).lt
        have z6 := (hM.2.2.1).lt
        have kR := Blk.new wr 39 #[.int .i64 kind, .int .u32 gen, .int .u32 lsn, .int .u32 xid, .int .u32 xa, .int .i64 xl, .bool on, .int .u32 rs, .int .u16 rm]
        replace hS := hS.below ((Below.refl _ wr).alloc (Nat.le_refl _) (.cells #[.int .i64 kind, .int .u32 gen, .int .u32 lsn, .int .u32 xid, .int .u32 xa, .int .i64 xl, .bool on, .int .u32 rs, .int .u16 rm] 39))
        replace hM := hM.below ((Below.refl _ wr).alloc (Nat.le_refl _) (.cells #[.int .i64 kind, .int .u32 gen, .int .u32 lsn, .int .u32 xid, .int .u32 xa, .int .i64 xl, .bool on, .int .u32 rs, .int .u16 rm] 39))
        refine (state_Apply _ ⟨kind, gen, lsn, xid, xa, xl, on, rs, rm⟩ s g1 g2 _ hS).mono ?_
        rintro e w5 ⟨rfl, hS, hk1⟩
        replace hM := hM.kept hk1 (by simp; omega) (by simp; omega) (by simp; omega)
        replace kR := hk1.blk kR (by simp; omega)
        have hw5 : Below w2.heap.size w2 w5 := hk1.below (hw.alloc hw.size _) (by have := hw.size; simp; omega) (by simp; omega)
        clear hk1 e0 e1 e2 e3 e4 e5 e6 e7 e8
        have kRl := kR.lt
        have r0 := kR.cell 0
        have r1 := kR.cell 1
        have r2 := kR.cell 2
        have r3 := kR.cell 3
        have r4 := kR.cell 4
        have r5 := kR.cell 5
        have r6 := kR.cell 6
        have r7 := kR.cell 7
        have r8 := kR.cell 8
        simp only [List.getElem?_toArray, List.getElem?_cons_zero, List.getElem?_cons_succ] at r0 r1 r2 r3 r4 r5 r6 r7 r8
        go_wp2_with fail
        refine (model_Apply _ ⟨kind, gen, lsn, xid, xa, xl, on, rs, rm⟩ m h1 h2 _ hM).mono ?_
        rintro e w6 ⟨rfl, hM, hk1⟩
        replace hS := hS.kept hk1 (by simp; omega) (by simp; omega) (by simp; omega)
        replace hw5 : Below w2.heap.size w2 w6 := hk1.below hw5 hw5.size (by simp; omega)
        rw [← HT.out] at hM hS
        clear HT hk1 kR hbl kRl r0 r1 r2 r3 r4 r5 r6 r7 r8
        go_wp2
        go_roundw
        case rel => exact ⟨k + 1, by omega, by go_num, hS, hM, hw5⟩
        case measure => simp [intOf]; omega
      · obtain rfl : k = l.length := by omega
        have hG := hgood l.length (Nat.le_refl _)
        rw [List.take_length] at hS hM hG
        clear hgood
        generalize St.run ⟨id, 0, [], []⟩ l = σ at hS hM hG hnice hidr
        have hbr : Below w.heap.size w wr := below_step hb2 hb2.size hw
        have q1 := hG.l1
        have q2 := hG.l2
        clear hw hsep hge ks kg1 kg2 hb2
        go_wp2_with fail
        refine (callsIn_wide.1 (state_Records σ s g1 g2 wr hS (by omega) (by omega))).mono ?_
        rintro e w5 ⟨ad, c5, ss, ks, rfl, hp, hkp, hrow, hb5⟩
        have hlen := recs_len σ ss ks hp hkp
        have hrec := recs_all σ ss ks hnice hG.n1 hG.n2 hp hkp
        have hanew := fun L => anew σ ss ks L hG.n1 hG.n2 hnice.l hp hkp
        generalize recsOf σ ss ks = R at hrow hlen hrec hanew ⊢
        replace hM := hM.below hb5
        replace hbr := below_step hbr hbr.size hb5
        clear hb5 hp hkp hS hnice
        have hRl : R.length ≤ 200 := by split at hlen <;> omega
        have hMB := hM.1
        have e1 := hMB.lt
        have e2 := hM.2.1.lt
        have e3 := hM.2.2.1.lt
        have m0 := hMB.cell 0
        have m1 := hMB.cell 1
        have m2 := hMB.cell 2
        have m3 := hMB.cell 3
        have mf0 := hMB.frozen 0
        have mf1 := hMB.frozen 1
        have mf2 := hMB.frozen 2
        have mf3 := hMB.frozen 3
        simp only [List.getElem?_toArray, List.getElem?_cons_zero, List.getElem?_cons_succ] at m0 m1 m2 m3
        have hsum : IntKind.i64.wrap ((σ.own.length : Int) + (σ.fl.length : Int)) = (σ.own.length : Int) + (σ.fl.length : Int) := by rw [IntKind.wrap_i64]; omega
        have HLN := Lib.hid hlen
        have HRL := Lib.hid hRl
        clear hlen hRl
        go_wp2_with fail
        refine draw_start [] Later (by kernel_rfl) ?_
        refine draw_chunk (n := 100) (by kernel_rfl) (fun _ _ _ _ _ h => h) [0, 1, 2, 3, 4, 5, 6, 7, 8, 9, 10, 11] [] _ #[true, true, true, true, true, true, true, true, true, true, true, true] (by kernel_rfl) 0 _ ?_ _ rfl ?_ ?_
        rotate_left
        · intro w' hw'
          have hc' : ∀ b o, b < w5.heap.size → w'.cell? ⟨b, o, none⟩ = w5.cell? ⟨b, o, none⟩ := (bcell hw').1
          have hl1 := (hM.2.1.same ((undrew hw').block h1 e2)).len Try.underlying42 3; have hl2 := (hM.2.2.1.same ((undrew hw').block h2 e3)).len Try.underlying43 3
          refine ci_step (i := 0) (v := ?_) rfl (by kernel_rfl) ?_ ?_
          rotate_left
          · first | (go_simp; done) | (go_simp; with_reducible rfl)
          skip
          try simp only [Act.put, List.setIfInBounds_toArray, List.set_cons_zero, List.set_cons_succ]
          refine ci_step (i := 1) (v := ?_) rfl (by kernel_rfl) ?_ ?_
          rotate_left
          · first | (go_simp; done) | (go_simp; with_reducible rfl)
          skip
          try simp only [Act.put, List.setIfInBounds_toArray, List.set_cons_zero, List.set_cons_succ]
          refine ci_step (i := 2) (v := ?_) rfl (by kernel_rfl) ?_ ?_
          rotate_left
          · first | (go_simp; done) | (go_simp; with_reducible rfl)
          skip
          try simp only [Act.put, List.setIfInBounds_toArray, List.set_cons_zero, List.set_cons_succ]
          refine ci_step (i := 3) (v := ?_) rfl (by kernel_rfl) ?_ ?_
          rotate_left
          · first | (go_simp; done) | (go_simp; with_reducible rfl)
          skip
          try simp only [Act.put, List.setIfInBounds_toArray, List.set_cons_zero, List.set_cons_succ]
          refine ci_step (i := 4) (v := ?_) rfl (by kernel_rfl) ?_ ?_
          rotate_left
          · first | (go_simp; done) | (go_simp; with_reducible rfl)
          skip
          try simp only [Act.put, List.setIfInBounds_toArray, List.set_cons_zero, List.set_cons_succ]
          refine ci_step (i := 5) (v := ?_) rfl (by kernel_rfl) ?_ ?_
          rotate_left
          · first | (go_simp; done) | (go_simp; with_reducible rfl)
          skip
          try simp only [Act.put, List.setIfInBounds_toArray, List.set_cons_zero, List.set_cons_succ]
          refine ci_step (i := 6) (v := ?_) rfl (by kernel_rfl) ?_ ?_
          rotate_left
          · first | (go_simp; done) | (go_simp; with_reducible rfl)
          skip
          try simp only [Act.put, List.setIfInBounds_toArray, List.set_cons_zero, List.set_cons_succ]
          refine ci_step (i := 7) (v := ?_) rfl (by kernel_rfl) ?_ ?_
          rotate_left
          · first | (go_simp; done) | (go_simp; with_reducible rfl)
          skip
          try simp only [Act.put, List.setIfInBounds_toArray, List.set_cons_zero, List.set_cons_succ]
          refine ci_step (i := 8) (v := ?_) rfl (by kernel_rfl) ?_ ?_
          rotate_left
          · first | (go_simp; done) | (go_simp; with_reducible rfl)
          skip
          try simp only [Act.put, List.setIfInBounds_toArray, List.set_cons_zero, List.set_cons_succ]
          refine ci_step (i := 9) (v := ?_) rfl (by kernel_rfl) ?_ ?_
          rotate_left
          · first | (go_simp; done) | (go_simp; with_reducible rfl)
          skip
          try simp only [Act.put, List.setIfInBounds_toArray, List.set_cons_zero, List.set_cons_succ]
          refine ci_step (i := 10) (v := ?_) rfl (by kernel_rfl) ?_ ?_
          rotate_left
          · first | (go_simp; done) | (go_simp; with_reducible rfl)
          skip
          try simp only [Act.put, List.setIfInBounds_toArray, List.set_cons_zero, List.set_cons_succ]
          refine ci_step (i := 11) (v := ?_) rfl (by kernel_rfl) ?_ ?_
          rotate_left
          · first | (go_simp; done) | (go_simp; with_reducible rfl)
          skip
          try simp only [Act.put, List.setIfInBounds_toArray, List.set_cons_zero, List.set_cons_succ]
          refine ci_end ?_
          rfl
        refine draw_done (by kernel_rfl) ?_ _
        replace hM : StAt 45 w5.drew m h1 h2 σ := hM
        replace hrow : Row w5.drew 9 ad R.length (recs R) := hrow
        replace hbr := Below.drew hbr
        clear e1 e2 e3 hMB m0 m1 m2 m3 mf0 mf1 mf2 mf3 hG
        generalize w5.drew = V at *
        by_cases h0 : 0 < σ.lease
        · have hd0 : decide (σ.lease > 0) = true := decide_eq_true h0
          have hs2 : IntKind.i64.wrap ((σ.own.length : Int) + (σ.fl.length : Int) + 1) = (σ.own.length : Int) + (σ.fl.length : Int) + 1 := by rw [IntKind.wrap_i64]; omega
          have hnq : ((R.length : Int) != (σ.own.length : Int) + (σ.fl.length : Int) + 1) = false := bne_eq_false_iff_eq.2 (by have := HLN.out; rw [if_pos h0] at this; omega)
          have hMB := hM.1
          have m0 := hMB.cell 0
          have m1 := hMB.cell 1
          have m2 := hMB.cell 2
          have m3 := hMB.cell 3
          have mf0 := hMB.frozen 0
          have mf1 := hMB.frozen 1
          have mf2 := hMB.frozen 2
          have mf3 := hMB.frozen 3
          simp only [List.getElem?_toArray, List.getElem?_cons_zero, List.getElem?_cons_succ] at m0 m1 m2 m3
          go_wp2_with fail
          clear m0 m1 m2 m3 mf0 mf1 mf2 mf3 hMB
          refine (state_New _ _).mono ?_
          rintro e w6 ⟨hb6, t, t1, t2, rfl, hT, kt, kt1, kt2⟩
          obtain ⟨b, hbq⟩ : ∃ b : Int, Go.bits .and .i64 at_ 65535 = b := ⟨_, rfl⟩
          have hb0 : 0 ≤ b ∧ b ≤ 65535 := hbq ▸ and65535 at_
          clear hd0 hnq
          go_wp2
          go_loopw [68] (fun i wq => ∃ k : Nat, k ≤ R.length ∧ i = .int .i64 k ∧ StAt 121 wq t t1 t2 (St.run ⟨id, 0, [], []⟩ ((R.drop (b.toNat % R.length) ++ R.take (b.toNat % R.length)).take k)) ∧ Below V.heap.size V wq) (fun i _ => R.length - (intOf i).toNat)
          case atStart => exact ⟨0, Nat.zero_le _, rfl, hT, hb6⟩
          case round =>
            clear hT hb6
            obtain ⟨k, hk, rfl, hT, hw⟩ := hrel
            by_cases hlt : k < R.length
            · have hpos : ((R.length : Int) == 0) = false := beq_eq_false_iff_ne.2 (by omega)
              have hcl : b.toNat % R.length < R.length := Nat.mod_lt _ (by omega)
              obtain ⟨j, hj⟩ : ∃ j, (k + b.toNat % R.length) % R.length = j := ⟨_, rfl⟩
              have hjl : j < R.length := hj ▸ Nat.mod_lt _ (by omega)
              have hix : (wrap64 ((k : Int) + b)).tmod (R.length : Int) = (j : Int) := by
                have h1 : wrap64 ((k : Int) + b) = ((k + b.toNat : Nat) : Int) := by
                  have := HRL.out
                  first
                    | (unfold wrap64; omega)
                    | (rw [← i64_w, IntKind.wrap_i64]; omega)
                    | (show IntKind.i64.wrap _ = _; rw [IntKind.wrap_i64]; omega)
                rw [h1, ← hj, Nat.add_mod_mod]
                rfl
              have HT := Lib.hid (show St.run ⟨id, 0, [], []⟩ ((R.drop (b.toNat % R.length) ++ R.take (b.toNat % R.length)).take (k + 1)) = (St.run ⟨id, 0, [], []⟩ ((R.drop (b.toNat % R.length) ++ R.take (b.toNat % R.length)).take k)).apply R[j] from by
                rw [run_take _ _ k (by simp; omega), rot_get R _ k hcl hlt]
                simp only [hj])
              obtain ⟨⟨hright, hok⟩, hgen, hlsn⟩ := hrec R[j] (List.getElem_mem hjl)
              obtain ⟨bk, off, rfl, hbl, hcell⟩ := (hrow.below hw).2.2 (by omega)
              have e0 := hcell (j * 9 + 0) _ (recs_get R j 0 hjl (by omega))
              have e1 := hcell (j * 9 + 1) _ (recs_get R j 1 hjl (by omega))
              have e2 := hcell (j * 9 + 2) _ (recs_get R j 2 hjl (by omega))
              have e3 := hcell (j * 9 + 3) _ (recs_get R j 3 hjl (by omega))
              have e4 := hcell (j * 9 + 4) _ (recs_get R j 4 hjl (by omega))
              have e5 := hcell (j * 9 + 5) _ (recs_get R j 5 hjl (by omega))
              have e6 := hcell (j * 9 + 6) _ (recs_get R j 6 hjl (by omega))
              have e7 := hcell (j * 9 + 7) _ (recs_get R j 7 hjl (by omega))
              have e8 := hcell (j * 9 + 8) _ (recs_get R j 8 hjl (by omega))
              generalize R[j] = r at *
              obtain ⟨kind, gen, lsn, xid, xa, xl, on, rs, rm⟩ := r
              simp only at hgen hlsn
              subst hgen hlsn
              simp only [Rec.cells, List.getElem?_cons_zero, List.getElem?_cons_succ, ← Nat.add_assoc, Nat.add_zero] at e0 e1 e2 e3 e4 e5 e6 e7 e8
              have HOK := Lib.hid hok
              have HRT := Lib.hid hright
              clear hcell hok hright hj
              go_wp2_with fail
              have kR := Blk.new wr 39 #[.int .i64 kind, .int .u32 0, .int .u32 0, .int .u32 xid, .int .u32 xa, .int .i64 xl, .bool on, .int .u32 rs, .int .u16 rm]
              have hbA := (Below.refl wr.heap.size wr).alloc (Nat.le_refl _) (.cells #[.int .i64 kind, .int .u32 0, .int .u32 0, .int .u32 xid, .int .u32 xa, .int .i64 xl, .bool on, .int .u32 rs, .int .u16 rm] 39)
              have hqs := hw.size
              replace hT := hT.below hbA
              replace hw := below_step hw hw.size hbA
              refine (law05_Right ⟨kind, 0, 0, xid, xa, xl, on, rs, rm⟩ _ HOK.out).mono ?_
              rintro e wa ⟨rfl, hba⟩
              rw [HRT.out]
              replace hT := hT.below hba
              replace hw := below_step hw hw.size hba
              replace kR := kR.below' hba
              clear hbA hba e0 e1 e2 e3 e4 e5 e6 e7 e8 hbl
              have kRl := kR.lt
              have r0 := kR.cell 0
              have r1 := kR.cell 1
              have r2 := kR.cell 2
              have r3 := kR.cell 3
              have r4 := kR.cell 4
              have r5 := kR.cell 5
              have r6 := kR.cell 6
              have r7 := kR.cell 7
              have r8 := kR.cell 8
              simp only [List.getElem?_toArray, List.getElem?_cons_zero, List.getElem?_cons_succ] at r0 r1 r2 r3 r4 r5 r6 r7 r8
              go_wp2_with fail
              refine (state_Apply _ ⟨kind, 0, 0, xid, xa, xl, on, rs, rm⟩ t t1 t2 _ hT).mono ?_
              rintro e wb ⟨rfl, hT, hk1⟩
              rw [← HT.out] at hT
              replace hw : Below V.heap.size V wb := hk1.below hw hw.size (by simp; omega)
              clear hk1 r0 r1 r2 r3 r4 r5 r6 r7 r8 kRl kR
              have hRb := HRL.out
              go_wp2
              go_roundw
              case rel => exact ⟨k + 1, by omega, by go_num, hT, hw⟩
              case measure =>
                clear hT hw hM hrow hrec hanew HT HOK HRT HLN hix
                simp only [intOf]
                omega
            · obtain rfl : k = R.length := by omega
              have hfin := hanew _ (rot_perm R (b.toNat % R.length))
              rw [List.take_of_length_le (by simp; omega)] at hT
              rw [hidr] at hfin
              obtain ⟨own, fl, hrun, f1, f2, f3, f4, f5, f6⟩ := hfin
              rw [hrun] at hT
              replace hM := hM.below hw
              replace hbr := below_step hbr hbr.size hw
              clear hw hrow hrec hanew
              go_wp2_with fail
              refine (model_Shows2 σ ⟨id, σ.lease, own, fl⟩ hidr.symm rfl f5 f6 f3 f4 m h1 h2 t t1 t2 _ hM hT f1 (by simp only; omega) f2 (by simp only; omega)).mono ?_
              rintro e wz ⟨rfl, hbz⟩
              go_wp2
              go_ret
              exact ⟨rfl, below_step hbr hbr.size hbz⟩
        · have hd0 : decide (σ.lease > 0) = false := decide_eq_false h0
          have hnq : ((R.length : Int) != (σ.own.length : Int) + (σ.fl.length : Int)) = false := bne_eq_false_iff_eq.2 (by have := HLN.out; rw [if_neg h0] at this; omega)
          have hMB := hM.1
          have m0 := hMB.cell 0
          have m1 := hMB.cell 1
          have m2 := hMB.cell 2
          have m3 := hMB.cell 3
          have mf0 := hMB.frozen 0
          have mf1 := hMB.frozen 1
          have mf2 := hMB.frozen 2
          have mf3 := hMB.frozen 3
          simp only [List.getElem?_toArray, List.getElem?_cons_zero, List.getElem?_cons_succ] at m0 m1 m2 m3
          go_wp2_with fail
          clear m0 m1 m2 m3 mf0 mf1 mf2 mf3 hMB
          refine (state_New _ _).mono ?_
          rintro e w6 ⟨hb6, t, t1, t2, rfl, hT, kt, kt1, kt2⟩
          obtain ⟨b, hbq⟩ : ∃ b : Int, Go.bits .and .i64 at_ 65535 = b := ⟨_, rfl⟩
          have hb0 : 0 ≤ b ∧ b ≤ 65535 := hbq ▸ and65535 at_
          clear hd0 hnq
          go_wp2
          go_loopw [68] (fun i wq => ∃ k : Nat, k ≤ R.length ∧ i = .int .i64 k ∧ StAt 121 wq t t1 t2 (St.run ⟨id, 0, [], []⟩ ((R.drop (b.toNat % R.length) ++ R.take (b.toNat % R.length)).take k)) ∧ Below V.heap.size V wq) (fun i _ => R.length - (intOf i).toNat)
          case atStart => exact ⟨0, Nat.zero_le _, rfl, hT, hb6⟩
          case round =>
            clear hT hb6
            obtain ⟨k, hk, rfl, hT, hw⟩ := hrel
            by_cases hlt : k < R.length
            · have hpos : ((R.length : Int) == 0) = false := beq_eq_false_iff_ne.2 (by omega)
              have hcl : b.toNat % R.length < R.length := Nat.mod_lt _ (by omega)
              obtain ⟨j, hj⟩ : ∃ j, (k + b.toNat % R.length) % R.length = j := ⟨_, rfl⟩
              have hjl : j < R.length := hj ▸ Nat.mod_lt _ (by omega)
              have hix : (wrap64 ((k : Int) + b)).tmod (R.length : Int) = (j : Int) := by
                have h1 : wrap64 ((k : Int) + b) = ((k + b.toNat : Nat) : Int) := by
                  have := HRL.out
                  first
                    | (unfold wrap64; omega)
                    | (rw [← i64_w, IntKind.wrap_i64]; omega)
                    | (show IntKind.i64.wrap _ = _; rw [IntKind.wrap_i64]; omega)
                rw [h1, ← hj, Nat.add_mod_mod]
                rfl
              have HT := Lib.hid (show St.run ⟨id, 0, [], []⟩ ((R.drop (b.toNat % R.length) ++ R.take (b.toNat % R.length)).take (k + 1)) = (St.run ⟨id, 0, [], []⟩ ((R.drop (b.toNat % R.length) ++ R.take (b.toNat % R.length)).take k)).apply R[j] from by
                rw [run_take _ _ k (by simp; omega), rot_get R _ k hcl hlt]
                simp only [hj])
              obtain ⟨⟨hright, hok⟩, hgen, hlsn⟩ := hrec R[j] (List.getElem_mem hjl)
              obtain ⟨bk, off, rfl, hbl, hcell⟩ := (hrow.below hw).2.2 (by omega)
              have e0 := hcell (j * 9 + 0) _ (recs_get R j 0 hjl (by omega))
              have e1 := hcell (j * 9 + 1) _ (recs_get R j 1 hjl (by omega))
              have e2 := hcell (j * 9 + 2) _ (recs_get R j 2 hjl (by omega))
              have e3 := hcell (j * 9 + 3) _ (recs_get R j 3 hjl (by omega))
              have e4 := hcell (j * 9 + 4) _ (recs_get R j 4 hjl (by omega))
              have e5 := hcell (j * 9 + 5) _ (recs_get R j 5 hjl (by omega))
              have e6 := hcell (j * 9 + 6) _ (recs_get R j 6 hjl (by omega))
              have e7 := hcell (j * 9 + 7) _ (recs_get R j 7 hjl (by omega))
              have e8 := hcell (j * 9 + 8) _ (recs_get R j 8 hjl (by omega))
              generalize R[j] = r at *
              obtain ⟨kind, gen, lsn, xid, xa, xl, on, rs, rm⟩ := r
              simp only at hgen hlsn
              subst hgen hlsn
              simp only [Rec.cells, List.getElem?_cons_zero, List.getElem?_cons_succ, ← Nat.add_assoc, Nat.add_zero] at e0 e1 e2 e3 e4 e5 e6 e7 e8
              have HOK := Lib.hid hok
              have HRT := Lib.hid hright
              clear hcell hok hright hj
              go_wp2_with fail
              have kR := Blk.new wr 39 #[.int .i64 kind, .int .u32 0, .int .u32 0, .int .u32 xid, .int .u32 xa, .int .i64 xl, .bool on, .int .u32 rs, .int .u16 rm]
              have hbA := (Below.refl wr.heap.size wr).alloc (Nat.le_refl _) (.cells #[.int .i64 kind, .int .u32 0, .int .u32 0, .int .u32 xid, .int .u32 xa, .int .i64 xl, .bool on, .int .u32 rs, .int .u16 rm] 39)
              have hqs := hw.size
              replace hT := hT.below hbA
              replace hw := below_step hw hw.size hbA
              refine (law05_Right ⟨kind, 0, 0, xid, xa, xl, on, rs, rm⟩ _ HOK.out).mono ?_
              rintro e wa ⟨rfl, hba⟩
              rw [HRT.out]
              replace hT := hT.below hba
              replace hw := below_step hw hw.size hba
              replace kR := kR.below' hba
              clear hbA hba e0 e1 e2 e3 e4 e5 e6 e7 e8 hbl
              have kRl := kR.lt
              have r0 := kR.cell 0
              have r1 := kR.cell 1
              have r2 := kR.cell 2
              have r3 := kR.cell 3
              have r4 := kR.cell 4
              have r5 := kR.cell 5
              have r6 := kR.cell 6
              have r7 := kR.cell 7
              have r8 := kR.cell 8
              simp only [List.getElem?_toArray, List.getElem?_cons_zero, List.getElem?_cons_succ] at r0 r1 r2 r3 r4 r5 r6 r7 r8
              go_wp2_with fail
              refine (state_Apply _ ⟨kind, 0, 0, xid, xa, xl, on, rs, rm⟩ t t1 t2 _ hT).mono ?_
              rintro e wb ⟨rfl, hT, hk1⟩
              rw [← HT.out] at hT
              replace hw : Below V.heap.size V wb := hk1.below hw hw.size (by simp; omega)
              clear hk1 r0 r1 r2 r3 r4 r5 r6 r7 r8 kRl kR
              have hRb := HRL.out
              go_wp2
              go_roundw
              case rel => exact ⟨k + 1, by omega, by go_num, hT, hw⟩
              case measure =>
                clear hT hw hM hrow hrec hanew HT HOK HRT HLN hix
                simp only [intOf]
                omega
            · obtain rfl : k = R.length := by omega
              have hfin := hanew _ (rot_perm R (b.toNat % R.length))
              rw [List.take_of_length_le (by simp; omega)] at hT
              rw [hidr] at hfin
              obtain ⟨own, fl, hrun, f1, f2, f3, f4, f5, f6⟩ := hfin
              rw [hrun] at hT
              replace hM := hM.below hw
              replace hbr := below_step hbr hbr.size hw
              clear hw hrow hrec hanew
              go_wp2_with fail
              refine (model_Shows2 σ ⟨id, σ.lease, own, fl⟩ hidr.symm rfl f5 f6 f3 f4 m h1 h2 t t1 t2 _ hM hT f1 (by simp only; omega) f2 (by simp only; omega)).mono ?_
              rintro e wz ⟨rfl, hbz⟩
              go_wp2
              go_ret
              exact ⟨rfl, below_step hbr hbr.size hbz⟩
end Go.Proofs.Ytnfaeafplaeehaa
