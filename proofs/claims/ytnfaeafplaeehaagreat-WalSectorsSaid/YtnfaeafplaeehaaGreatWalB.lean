import Derived.Test.YtnfaeafplaeehaaGreatMrgL
import Derived.BigQuiet
set_option linter.unusedVariables false
set_option linter.unusedSimpArgs false
namespace Go.Proofs.YtnfaeafplaeehaaGreat
open Go.RowKit
/-! Which region of a journal begins. -/
def isBeg (id : Int) (a : Int × Int × Bool) (r : Rec) : Bool := decide (r.kind = 1) && decide (r.id = id) && decide (r.lsn = 0) && (!a.2.2 || decide (a.2.1 < r.gen))
def beginP (sec : List Sec) (lat : List (Int × Sec)) (half id : Int) (a : Int × Int × Bool) (k : Nat) : Int × Int × Bool :=
  match atM sec lat half (k : Int) 0 with
  | some r => if isBeg id a r = true then ((k : Int), r.gen, true) else a
  | none => a
def beginsM (sec : List Sec) (lat : List (Int × Sec)) (half id reg gen : Int) (k : Nat) : Int × Int × Bool := (List.range k).foldl (beginP sec lat half id) (reg, gen, false)
theorem beginsM_succ (sec : List Sec) (lat : List (Int × Sec)) (half id reg gen : Int) (k : Nat) : beginsM sec lat half id reg gen (k + 1) = beginP sec lat half id (beginsM sec lat half id reg gen k) k := by
  unfold beginsM
  rw [List.range_succ, List.foldl_append]
  rfl
theorem beginsM_no {sec : List Sec} {lat : List (Int × Sec)} {half id reg gen : Int} {k : Nat} (h : atM sec lat half (k : Int) 0 = none) : beginsM sec lat half id reg gen (k + 1) = beginsM sec lat half id reg gen k := by
  rw [beginsM_succ, beginP, h]
theorem beginsM_not {sec : List Sec} {lat : List (Int × Sec)} {half id reg gen : Int} {k : Nat} {r : Rec} (h : atM sec lat half (k : Int) 0 = some r) (hb : isBeg id (beginsM sec lat half id reg gen k) r = false) : beginsM sec lat half id reg gen (k + 1) = beginsM sec lat half id reg gen k := by
  rw [beginsM_succ, beginP, h]
  simp only [hb, Bool.false_eq_true, if_false]
theorem beginsM_yes {sec : List Sec} {lat : List (Int × Sec)} {half id reg gen : Int} {k : Nat} {r : Rec} (h : atM sec lat half (k : Int) 0 = some r) (hb : isBeg id (beginsM sec lat half id reg gen k) r = true) : beginsM sec lat half id reg gen (k + 1) = ((k : Int), r.gen, true) := by
  rw [beginsM_succ, beginP, h]
  simp only [hb, if_true]

theorem LogB.below {W W' : World} {L d s : Nat} {c : LogC} (h : LogB W L d s c) (hb : Below W.heap.size W W') : LogB W' L d s c := Blk.below' h hb
theorem LogB.alloc {W : World} {L d s : Nat} {c : LogC} (h : LogB W L d s c) (o : Obj) : LogB (W.alloc o) L d s c := Blk.alloc h o
theorem LogB.kept {S : List Nat} {W W' : World} {L d s : Nat} {c : LogC} (h : LogB W L d s c) (hk : Kept S W W') (h0 : L ∉ S) : LogB W' L d s c := hk.blk h h0
theorem kept_dset {S : List Nat} (V : World) (a : Addr) (u : Value) (ha : a.block ∈ S) : Kept S V.drew (V.setCell a u).drew := by
  have h := kept_set (Kept.refl S V) a u (.inl ha)
  exact ⟨h.os, h.tape, h.output, h.size, h.block⟩
instance kept_lr (S : List Nat) : LR (Kept S) := ⟨Kept.refl S, Kept.trans⟩
theorem Kept.drewN {S : List Nat} {w w' : World} (h : Kept S w w') (n : Nat) : Kept S w (w'.drewN n) := ⟨h.os, h.tape, h.output, h.size, h.block⟩
theorem wstate_ID (σ : St) (s g1 g2 : Nat) (w : World) (h : StAt 75 w s g1 g2 σ) :
    Calls Tryz.prog 33 #[.pointer (some ⟨s, 0, none⟩)] w fun e w' => e = .returned (.int .u32 σ.id) ∧ w' = w := by
  obtain ⟨hB, hm1, hm2, hs1, hs2, h12⟩ := h
  have b0 := hB.cell 0
  have b1 := hB.cell 1
  have b2 := hB.cell 2
  have b3 := hB.cell 3
  have bf0 := hB.frozen 0
  have bf1 := hB.frozen 1
  have bf2 := hB.frozen 2
  have bf3 := hB.frozen 3
  simp only [List.getElem?_toArray, List.getElem?_cons_zero, List.getElem?_cons_succ] at b0 b1 b2 b3
  go_enter Tryz.func33, Tryz.ntmps33
  go_wp2
  go_ret
  exact ⟨rfl, rfl⟩
set_option maxRecDepth 100000 in
set_option maxHeartbeats 4000000 in
theorem wal_begins (L d s g bs g1 g2 : Nat) (c : LogC) (σ : St) (sec : List Sec) (lat : List (Int × Sec)) (fl : Int) (w : World) (hL : LogB w L d s c) (hD : DiskAt w d g bs sec lat fl) (hS : StAt 75 w s g1 g2 σ) (hne : L ∉ [d, g, bs, s, g1, g2]) (hB : SecB sec lat) (hh : 0 ≤ c.half ∧ c.half ≤ 1000) :
    Calls Tryz.prog 22 #[.pointer (some ⟨L, 0, none⟩)] w fun e w' => e = .returned (.bool (beginsM sec lat c.half σ.id c.reg c.gen 2).2.2) ∧ LogB w' L d s { c with reg := (beginsM sec lat c.half σ.id c.reg c.gen 2).1, gen := (beginsM sec lat c.half σ.id c.reg c.gen 2).2.1 } ∧ Kept [L] w w' := by
  simp only [List.mem_cons, List.not_mem_nil, or_false, not_or] at hne
  have HNE := Lib.hid hne
  have HH := Lib.hid hh
  clear hne hh
  go_enter Tryz.func22, Tryz.ntmps22
  go_wp2_with fail
  go_loopw [7, 3] (fun i v wr => ∃ k : Nat, k ≤ 2 ∧ i = .int .i64 k ∧ v = .bool (beginsM sec lat c.half σ.id c.reg c.gen k).2.2 ∧ LogB wr L d s { c with reg := (beginsM sec lat c.half σ.id c.reg c.gen k).1, gen := (beginsM sec lat c.half σ.id c.reg c.gen k).2.1 } ∧ Kept [L] w wr) (fun i _ _ => 2 - (intOf i).toNat)
  case atStart => exact ⟨0, by omega, rfl, rfl, hL, Kept.refl _ _⟩
  case round =>
    obtain ⟨k, hk, rfl, rfl, hLr, hkr⟩ := hrel
    by_cases hkn : k < 2
    · have hAt := wal_at k 0 L d s g bs _ sec lat fl wr hLr (hD.kept hkr (by simp; exact fun e => HNE.out.1 e.symm) (by simp; exact fun e => HNE.out.2.1 e.symm) (by simp; exact fun e => HNE.out.2.2.1 e.symm)) hB HH.out (by omega) ⟨by omega, by omega⟩
      have hSr := hS.kept hkr (by simp; exact fun e => HNE.out.2.2.2.1 e.symm) (by simp; exact fun e => HNE.out.2.2.2.2.1 e.symm) (by simp; exact fun e => HNE.out.2.2.2.2.2 e.symm)
      have hl9 := hLr.lt
      go_wp2_with fail
      refine hAt.mono ?_
      rintro e w2 ⟨rfl, hb2⟩
      have hL2 := hLr.below hb2
      have hS2 := hSr.below hb2
      have hk2 := hkr.trans (Kept.of_below hb2)
      have hszw := hkr.size
      clear hAt hb2
      generalize hbk : beginsM sec lat c.half σ.id c.reg c.gen k = bk at *
      obtain ⟨breg, bgen, bfd⟩ := bk
      simp only at hL2 ⊢
      cases hq : atM sec lat c.half (k : Int) 0 with
      | none =>
        have HN := Lib.hid ((beginsM_no (id := σ.id) (reg := c.reg) (gen := c.gen) hq).trans hbk)
        simp only [Option.getD_none, Option.isSome_none, noR, Rec.val, Rec.arr]
        have kR3 := Blk.new w2 41 #[.int .i64 0, .int .u32 0, .int .u32 0, .int .u32 0, .int .u32 0, .int .i64 0, .bool false, .int .u32 0, .int .u16 0]
        have hL3 : LogB (w2.alloc (.cells #[.int .i64 0, .int .u32 0, .int .u32 0, .int .u32 0, .int .u32 0, .int .i64 0, .bool false, .int .u32 0, .int .u16 0] 41)) L d s _ := hL2.alloc _
        have hS3 := hS2.below ((Below.refl w2.heap.size w2).alloc (Nat.le_refl _) (.cells #[.int .i64 0, .int .u32 0, .int .u32 0, .int .u32 0, .int .u32 0, .int .i64 0, .bool false, .int .u32 0, .int .u16 0] 41))
        have hk3 := kept_alloc hk2 (.cells #[.int .i64 0, .int .u32 0, .int .u32 0, .int .u32 0, .int .u32 0, .int .i64 0, .bool false, .int .u32 0, .int .u16 0] 41)
        go_wp2_with fail
        generalize (w2.alloc (.cells #[.int .i64 0, .int .u32 0, .int .u32 0, .int .u32 0, .int .u32 0, .int .i64 0, .bool false, .int .u32 0, .int .u16 0] 41)) = W at *
        generalize w2.heap.size = q at *
        have hLb : Blk W L _ _ := hL3
        have l0 := hLb.cell 0
        have l1 := hLb.cell 1
        have l2 := hLb.cell 2
        have l3 := hLb.cell 3
        have l4 := hLb.cell 4
        have l5 := hLb.cell 5
        have l6 := hLb.cell 6
        simp only [List.getElem?_toArray, List.getElem?_cons_zero, List.getElem?_cons_succ] at l0 l1 l2 l3 l4 l5 l6
        have r0 := kR3.cell 0
        have r1 := kR3.cell 1
        have r2 := kR3.cell 2
        have r3 := kR3.cell 3
        have r4 := kR3.cell 4
        have r5 := kR3.cell 5
        have r6 := kR3.cell 6
        have r7 := kR3.cell 7
        have r8 := kR3.cell 8
        simp only [List.getElem?_toArray, List.getElem?_cons_zero, List.getElem?_cons_succ] at r0 r1 r2 r3 r4 r5 r6 r7 r8
        have l9 := hLb.lt
        have r9 := kR3.lt
        clear hq
        go_quiet ((go_at_call 33; exact Calls.quiet_of_same (wstate_ID σ s g1 g2 _ hS3)))
        rename_i nq
        go_wp2
        case roundEnd => exact ⟨⟨k + 1, by omega, rfl, by rw [HN.out], by rw [HN.out]; exact hL3.drewN nq, hk3.drewN nq⟩, by simp [intOf]; omega⟩
      | some r =>
        cases hbg : isBeg σ.id (breg, bgen, bfd) r with
        | false =>
          have HN := Lib.hid ((beginsM_not (id := σ.id) (reg := c.reg) (gen := c.gen) hq (by rw [hbk]; exact hbg)).trans hbk)
          obtain ⟨rk, rg, rl, ri, ra, rp, ro, rs, rm⟩ := r
          simp only [Option.getD_some, Option.isSome_some, Rec.val, Rec.arr]
          have kR3 := Blk.new w2 41 #[.int .i64 rk, .int .u32 rg, .int .u32 rl, .int .u32 ri, .int .u32 ra, .int .i64 rp, .bool ro, .int .u32 rs, .int .u16 rm]
          have hL3 : LogB (w2.alloc (.cells #[.int .i64 rk, .int .u32 rg, .int .u32 rl, .int .u32 ri, .int .u32 ra, .int .i64 rp, .bool ro, .int .u32 rs, .int .u16 rm] 41)) L d s _ := hL2.alloc _
          have hS3 := hS2.below ((Below.refl w2.heap.size w2).alloc (Nat.le_refl _) (.cells #[.int .i64 rk, .int .u32 rg, .int .u32 rl, .int .u32 ri, .int .u32 ra, .int .i64 rp, .bool ro, .int .u32 rs, .int .u16 rm] 41))
          have hk3 := kept_alloc hk2 (.cells #[.int .i64 rk, .int .u32 rg, .int .u32 rl, .int .u32 ri, .int .u32 ra, .int .i64 rp, .bool ro, .int .u32 rs, .int .u16 rm] 41)
          go_wp2_with fail
          generalize (w2.alloc (.cells #[.int .i64 rk, .int .u32 rg, .int .u32 rl, .int .u32 ri, .int .u32 ra, .int .i64 rp, .bool ro, .int .u32 rs, .int .u16 rm] 41)) = W at *
          generalize w2.heap.size = q at *
          have hLb : Blk W L _ _ := hL3
          have l0 := hLb.cell 0
          have l1 := hLb.cell 1
          have l2 := hLb.cell 2
          have l3 := hLb.cell 3
          have l4 := hLb.cell 4
          have l5 := hLb.cell 5
          have l6 := hLb.cell 6
          simp only [List.getElem?_toArray, List.getElem?_cons_zero, List.getElem?_cons_succ] at l0 l1 l2 l3 l4 l5 l6
          have r0 := kR3.cell 0
          have r1 := kR3.cell 1
          have r2 := kR3.cell 2
          have r3 := kR3.cell 3
          have r4 := kR3.cell 4
          have r5 := kR3.cell 5
          have r6 := kR3.cell 6
          have r7 := kR3.cell 7
          have r8 := kR3.cell 8
          simp only [List.getElem?_toArray, List.getElem?_cons_zero, List.getElem?_cons_succ] at r0 r1 r2 r3 r4 r5 r6 r7 r8
          have l9 := hLb.lt
          have r9 := kR3.lt
          clear hq
          simp only [isBeg] at hbg
          cases f1 : rk == 1 with
          | false =>
            go_quiet ((go_at_call 33; exact Calls.quiet_of_same (wstate_ID σ s g1 g2 _ hS3)))
            rename_i nq
            go_wp2
            case roundEnd => exact ⟨⟨k + 1, by omega, rfl, by rw [HN.out], by rw [HN.out]; exact Blk.drewN hL3 nq, hk3.drewN nq⟩, by simp [intOf]; omega⟩
          | true =>
            cases f2 : ri == σ.id with
            | false =>
              go_quiet ((go_at_call 33; exact Calls.quiet_of_same (wstate_ID σ s g1 g2 _ hS3)))
              rename_i nq
              go_wp2
              case roundEnd => exact ⟨⟨k + 1, by omega, rfl, by rw [HN.out], by rw [HN.out]; exact Blk.drewN hL3 nq, hk3.drewN nq⟩, by simp [intOf]; omega⟩
            | true =>
              cases f3 : rl == 0 with
              | false =>
                go_quiet ((go_at_call 33; exact Calls.quiet_of_same (wstate_ID σ s g1 g2 _ hS3)))
                rename_i nq
                go_wp2
                case roundEnd => exact ⟨⟨k + 1, by omega, rfl, by rw [HN.out], by rw [HN.out]; exact Blk.drewN hL3 nq, hk3.drewN nq⟩, by simp [intOf]; omega⟩
              | true =>
                have f1' : rk = 1 := by simpa using f1
                have f2' : ri = σ.id := by simpa using f2
                have f3' : rl = 0 := by simpa using f3
                simp [f1', f2', f3'] at hbg
                obtain ⟨rfl, hbg⟩ := hbg
                have f4 : decide (bgen < rg) = false := decide_eq_false (by omega)
                clear hbg f1' f2' f3'
                go_quiet ((go_at_call 33; exact Calls.quiet_of_same (wstate_ID σ s g1 g2 _ hS3)))
                rename_i nq
                go_wp2
                case roundEnd => exact ⟨⟨k + 1, by omega, rfl, by rw [HN.out], by rw [HN.out]; exact Blk.drewN hL3 nq, hk3.drewN nq⟩, by simp [intOf]; omega⟩
        | true =>
          have HN := Lib.hid (beginsM_yes (id := σ.id) (reg := c.reg) (gen := c.gen) hq (by rw [hbk]; exact hbg))
          obtain ⟨rk, rg, rl, ri, ra, rp, ro, rs, rm⟩ := r
          simp only [Option.getD_some, Option.isSome_some, Rec.val, Rec.arr] at HN ⊢
          have kR3 := Blk.new w2 41 #[.int .i64 rk, .int .u32 rg, .int .u32 rl, .int .u32 ri, .int .u32 ra, .int .i64 rp, .bool ro, .int .u32 rs, .int .u16 rm]
          have hL3 : LogB (w2.alloc (.cells #[.int .i64 rk, .int .u32 rg, .int .u32 rl, .int .u32 ri, .int .u32 ra, .int .i64 rp, .bool ro, .int .u32 rs, .int .u16 rm] 41)) L d s _ := hL2.alloc _
          have hS3 := hS2.below ((Below.refl w2.heap.size w2).alloc (Nat.le_refl _) (.cells #[.int .i64 rk, .int .u32 rg, .int .u32 rl, .int .u32 ri, .int .u32 ra, .int .i64 rp, .bool ro, .int .u32 rs, .int .u16 rm] 41))
          have hk3 := kept_alloc hk2 (.cells #[.int .i64 rk, .int .u32 rg, .int .u32 rl, .int .u32 ri, .int .u32 ra, .int .i64 rp, .bool ro, .int .u32 rs, .int .u16 rm] 41)
          go_wp2_with fail
          generalize (w2.alloc (.cells #[.int .i64 rk, .int .u32 rg, .int .u32 rl, .int .u32 ri, .int .u32 ra, .int .i64 rp, .bool ro, .int .u32 rs, .int .u16 rm] 41)) = W at *
          generalize w2.heap.size = q at *
          have hLb : Blk W L _ _ := hL3
          have l0 := hLb.cell 0
          have l1 := hLb.cell 1
          have l2 := hLb.cell 2
          have l3 := hLb.cell 3
          have l4 := hLb.cell 4
          have l5 := hLb.cell 5
          have l6 := hLb.cell 6
          simp only [List.getElem?_toArray, List.getElem?_cons_zero, List.getElem?_cons_succ] at l0 l1 l2 l3 l4 l5 l6
          have r0 := kR3.cell 0
          have r1 := kR3.cell 1
          have r2 := kR3.cell 2
          have r3 := kR3.cell 3
          have r4 := kR3.cell 4
          have r5 := kR3.cell 5
          have r6 := kR3.cell 6
          have r7 := kR3.cell 7
          have r8 := kR3.cell 8
          simp only [List.getElem?_toArray, List.getElem?_cons_zero, List.getElem?_cons_succ] at r0 r1 r2 r3 r4 r5 r6 r7 r8
          have l9 := hLb.lt
          have r9 := kR3.lt
          clear hq
          simp only [isBeg, Bool.and_eq_true, decide_eq_true_eq] at hbg
          obtain ⟨⟨⟨f1', f2'⟩, f3'⟩, hbg⟩ := hbg
          have f1 : (rk == 1) = true := by simpa using f1'
          have f2 : (ri == σ.id) = true := by simpa using f2'
          have f3 : (rl == 0) = true := by simpa using f3'
          clear f1' f2' f3'
          cases bfd with
          | false =>
            clear hbg
            go_quiet ((go_at_call 33; exact Calls.quiet_of_same (wstate_ID σ s g1 g2 _ hS3)))
            rename_i nq
            go_wp2_with fail
            have hL4 : LogB (W.drewN nq) L d s _ := Blk.drewN hL3 nq
            have hk4 : Kept [L] w (W.drewN nq) := hk3.drewN nq
            have kR4 := kR3.drewN nq
            clear hL3 kR3 hk3 l0 l1 l2 l3 l4 l5 l6 r0 r1 r2 r3 r4 r5 r6 r7 r8 l9 r9 hLb
            generalize W.drewN nq = V at *
            have hLb : Blk V L _ _ := hL4
            have l0 := hLb.cell 0
            have l1 := hLb.cell 1
            have l2 := hLb.cell 2
            have l3 := hLb.cell 3
            have l4 := hLb.cell 4
            have l5 := hLb.cell 5
            have l6 := hLb.cell 6
            simp only [List.getElem?_toArray, List.getElem?_cons_zero, List.getElem?_cons_succ] at l0 l1 l2 l3 l4 l5 l6
            have r0 := kR4.cell 0
            have r1 := kR4.cell 1
            have r2 := kR4.cell 2
            have r3 := kR4.cell 3
            have r4 := kR4.cell 4
            have r5 := kR4.cell 5
            have r6 := kR4.cell 6
            have r7 := kR4.cell 7
            have r8 := kR4.cell 8
            simp only [List.getElem?_toArray, List.getElem?_cons_zero, List.getElem?_cons_succ] at r0 r1 r2 r3 r4 r5 r6 r7 r8
            have l9 := hLb.lt
            have r9 := kR4.lt
            have lf2 := hLb.frozen 2
            have hqL : q ≠ L := kR4.nT hLb (by decide)
            refine draw_start [] (Kept [L]) (by kernel_rfl) ?_
            refine draw_chunk (n := 61) (by kernel_rfl) (fun _ _ _ _ _ h => h) [0, 1, 2, 3, 4, 5, 6] [] _ #[true, true, true, true, true, true, true, false, false, false, false, false] (by kernel_rfl) 5 _ ?_ _ rfl ?_ ?_
            rotate_left
            · intro w' hw'
              have y := hw'.blk kR4 (by simpa using hqL); have y9 := y.lt; have y1 := y.cell 1; have y8 := Nat.lt_of_lt_of_le l9 hw'.size; simp only [List.getElem?_toArray, List.getElem?_cons_zero, List.getElem?_cons_succ] at y1
              iterate 7
                refine ci_step (v := ?_) rfl (by kernel_rfl) ?_ ?_
                rotate_left
                · first | (go_simp; done) | (go_simp; with_reducible rfl)
                try simp only [Act.put, List.setIfInBounds_toArray, List.set_cons_zero, List.set_cons_succ]
              refine ci_end ?_
              rfl
            refine draw_eff (i := 7) rfl (by kernel_rfl) (listed' := #[true, true, true, true, true, true, true, true, false, false, false, false]) rfl (fun K hK => ?_)
            replace hK := Lib.hid hK
            go_wp2_with fail
            refine hK.out _ _ ⟨fun _ => kept_dset (S := [L]) _ ⟨L, 2, none⟩ (.int .i64 k) (List.mem_singleton_self L), ?_⟩
            clear hK
            have hL5 := (hLb.set 2 (.int .i64 k)).drew
            simp only [List.setIfInBounds_toArray, List.set_cons_zero, List.set_cons_succ] at hL5
            have hk5 := kept_drew (kept_set hk4 ⟨L, 2, none⟩ (.int .i64 k) (.inl (by simp)))
            clear l0 l1 l2 l3 l4 l5 l6 l9 hLb lf2
            generalize (V.setCell ⟨L, 2, none⟩ (.int .i64 k)).drew = V5 at *
            have l0 := hL5.cell 0
            have l1 := hL5.cell 1
            have l2 := hL5.cell 2
            have l3 := hL5.cell 3
            have l4 := hL5.cell 4
            have l5 := hL5.cell 5
            have l6 := hL5.cell 6
            simp only [List.getElem?_toArray, List.getElem?_cons_zero, List.getElem?_cons_succ] at l0 l1 l2 l3 l4 l5 l6
            have l9 := hL5.lt
            have lf3 := hL5.frozen 3
            refine draw_chunk (n := 61) (by kernel_rfl) (fun _ _ _ _ _ h => h) [8, 9] [] _ #[true, true, true, true, true, true, true, true, true, true, false, false] (by kernel_rfl) 2 _ ?_ _ rfl ?_ ?_
            rotate_left
            · intro w' hw'
              have y8 := Nat.lt_of_lt_of_le l9 hw'.size
              iterate 2
                refine ci_step (v := ?_) rfl (by kernel_rfl) ?_ ?_
                rotate_left
                · first | (go_simp; done) | (go_simp; with_reducible rfl)
                try simp only [Act.put, List.setIfInBounds_toArray, List.set_cons_zero, List.set_cons_succ]
              refine ci_end ?_
              rfl
            refine draw_eff (i := 10) rfl (by kernel_rfl) (listed' := #[true, true, true, true, true, true, true, true, true, true, true, false]) rfl (fun K hK => ?_)
            replace hK := Lib.hid hK
            go_wp2_with fail
            refine hK.out _ _ ⟨fun _ => kept_set (Kept.refl [L] _) ⟨L, 3, none⟩ (.int .u32 rg) (.inl (List.mem_singleton_self L)), ?_⟩
            clear hK
            have hL6 := hL5.set 3 (.int .u32 rg)
            simp only [List.setIfInBounds_toArray, List.set_cons_zero, List.set_cons_succ] at hL6
            have hk6 := kept_set hk5 ⟨L, 3, none⟩ (.int .u32 rg) (.inl (by simp))
            refine draw_chunk (n := 61) (by kernel_rfl) (fun _ _ _ _ _ h => h) [11] [] _ #[true, true, true, true, true, true, true, true, true, true, true, true] (by kernel_rfl) 0 _ ?_ _ rfl ?_ ?_
            rotate_left
            · intro w' hw'
              refine ci_step (i := 11) (v := ?_) rfl (by kernel_rfl) ?_ ?_
              rotate_left
              · first | (go_simp; done) | (go_simp; with_reducible rfl)
              skip
              try simp only [Act.put, List.setIfInBounds_toArray, List.set_cons_zero, List.set_cons_succ]
              refine ci_end ?_
              rfl
            refine draw_done (by kernel_rfl) ?_ _
            go_wp2
            case roundEnd => exact ⟨⟨k + 1, by omega, rfl, by rw [HN.out], by rw [HN.out]; exact hL6, hk6⟩, by simp [intOf]; omega⟩
          | true =>
            simp at hbg
            have f4 : decide (bgen < rg) = true := decide_eq_true hbg
            clear hbg
            go_quiet ((go_at_call 33; exact Calls.quiet_of_same (wstate_ID σ s g1 g2 _ hS3)))
            rename_i nq
            go_wp2_with fail
            have hL4 : LogB (W.drewN nq) L d s _ := Blk.drewN hL3 nq
            have hk4 : Kept [L] w (W.drewN nq) := hk3.drewN nq
            have kR4 := kR3.drewN nq
            clear hL3 kR3 hk3 l0 l1 l2 l3 l4 l5 l6 r0 r1 r2 r3 r4 r5 r6 r7 r8 l9 r9 hLb
            generalize W.drewN nq = V at *
            have hLb : Blk V L _ _ := hL4
            have l0 := hLb.cell 0
            have l1 := hLb.cell 1
            have l2 := hLb.cell 2
            have l3 := hLb.cell 3
            have l4 := hLb.cell 4
            have l5 := hLb.cell 5
            have l6 := hLb.cell 6
            simp only [List.getElem?_toArray, List.getElem?_cons_zero, List.getElem?_cons_succ] at l0 l1 l2 l3 l4 l5 l6
            have r0 := kR4.cell 0
            have r1 := kR4.cell 1
            have r2 := kR4.cell 2
            have r3 := kR4.cell 3
            have r4 := kR4.cell 4
            have r5 := kR4.cell 5
            have r6 := kR4.cell 6
            have r7 := kR4.cell 7
            have r8 := kR4.cell 8
            simp only [List.getElem?_toArray, List.getElem?_cons_zero, List.getElem?_cons_succ] at r0 r1 r2 r3 r4 r5 r6 r7 r8
            have l9 := hLb.lt
            have r9 := kR4.lt
            have lf2 := hLb.frozen 2
            have hqL : q ≠ L := kR4.nT hLb (by decide)
            refine draw_start [] (Kept [L]) (by kernel_rfl) ?_
            refine draw_chunk (n := 61) (by kernel_rfl) (fun _ _ _ _ _ h => h) [0, 1, 2, 3, 4, 5, 6] [] _ #[true, true, true, true, true, true, true, false, false, false, false, false] (by kernel_rfl) 5 _ ?_ _ rfl ?_ ?_
            rotate_left
            · intro w' hw'
              have y := hw'.blk kR4 (by simpa using hqL); have y9 := y.lt; have y1 := y.cell 1; have y8 := Nat.lt_of_lt_of_le l9 hw'.size; simp only [List.getElem?_toArray, List.getElem?_cons_zero, List.getElem?_cons_succ] at y1
              iterate 7
                refine ci_step (v := ?_) rfl (by kernel_rfl) ?_ ?_
                rotate_left
                · first | (go_simp; done) | (go_simp; with_reducible rfl)
                try simp only [Act.put, List.setIfInBounds_toArray, List.set_cons_zero, List.set_cons_succ]
              refine ci_end ?_
              rfl
            refine draw_eff (i := 7) rfl (by kernel_rfl) (listed' := #[true, true, true, true, true, true, true, true, false, false, false, false]) rfl (fun K hK => ?_)
            replace hK := Lib.hid hK
            go_wp2_with fail
            refine hK.out _ _ ⟨fun _ => kept_dset (S := [L]) _ ⟨L, 2, none⟩ (.int .i64 k) (List.mem_singleton_self L), ?_⟩
            clear hK
            have hL5 := (hLb.set 2 (.int .i64 k)).drew
            simp only [List.setIfInBounds_toArray, List.set_cons_zero, List.set_cons_succ] at hL5
            have hk5 := kept_drew (kept_set hk4 ⟨L, 2, none⟩ (.int .i64 k) (.inl (by simp)))
            clear l0 l1 l2 l3 l4 l5 l6 l9 hLb lf2
            generalize (V.setCell ⟨L, 2, none⟩ (.int .i64 k)).drew = V5 at *
            have l0 := hL5.cell 0
            have l1 := hL5.cell 1
            have l2 := hL5.cell 2
            have l3 := hL5.cell 3
            have l4 := hL5.cell 4
            have l5 := hL5.cell 5
            have l6 := hL5.cell 6
            simp only [List.getElem?_toArray, List.getElem?_cons_zero, List.getElem?_cons_succ] at l0 l1 l2 l3 l4 l5 l6
            have l9 := hL5.lt
            have lf3 := hL5.frozen 3
            refine draw_chunk (n := 61) (by kernel_rfl) (fun _ _ _ _ _ h => h) [8, 9] [] _ #[true, true, true, true, true, true, true, true, true, true, false, false] (by kernel_rfl) 2 _ ?_ _ rfl ?_ ?_
            rotate_left
            · intro w' hw'
              have y8 := Nat.lt_of_lt_of_le l9 hw'.size
              iterate 2
                refine ci_step (v := ?_) rfl (by kernel_rfl) ?_ ?_
                rotate_left
                · first | (go_simp; done) | (go_simp; with_reducible rfl)
                try simp only [Act.put, List.setIfInBounds_toArray, List.set_cons_zero, List.set_cons_succ]
              refine ci_end ?_
              rfl
            refine draw_eff (i := 10) rfl (by kernel_rfl) (listed' := #[true, true, true, true, true, true, true, true, true, true, true, false]) rfl (fun K hK => ?_)
            replace hK := Lib.hid hK
            go_wp2_with fail
            refine hK.out _ _ ⟨fun _ => kept_set (Kept.refl [L] _) ⟨L, 3, none⟩ (.int .u32 rg) (.inl (List.mem_singleton_self L)), ?_⟩
            clear hK
            have hL6 := hL5.set 3 (.int .u32 rg)
            simp only [List.setIfInBounds_toArray, List.set_cons_zero, List.set_cons_succ] at hL6
            have hk6 := kept_set hk5 ⟨L, 3, none⟩ (.int .u32 rg) (.inl (by simp))
            refine draw_chunk (n := 61) (by kernel_rfl) (fun _ _ _ _ _ h => h) [11] [] _ #[true, true, true, true, true, true, true, true, true, true, true, true] (by kernel_rfl) 0 _ ?_ _ rfl ?_ ?_
            rotate_left
            · intro w' hw'
              refine ci_step (i := 11) (v := ?_) rfl (by kernel_rfl) ?_ ?_
              rotate_left
              · first | (go_simp; done) | (go_simp; with_reducible rfl)
              skip
              try simp only [Act.put, List.setIfInBounds_toArray, List.set_cons_zero, List.set_cons_succ]
              refine ci_end ?_
              rfl
            refine draw_done (by kernel_rfl) ?_ _
            go_wp2
            case roundEnd => exact ⟨⟨k + 1, by omega, rfl, by rw [HN.out], by rw [HN.out]; exact hL6, hk6⟩, by simp [intOf]; omega⟩
    · obtain rfl : k = 2 := by omega
      go_wp2
      go_ret
      exact ⟨rfl, hLr, hkr⟩
end Go.Proofs.YtnfaeafplaeehaaGreat
