/- own texts of this claim, one behind the other: see the remarks within -/
import Derived.Test.YtnfaeafplaeehaaGreatWalB
import Derived.Test.YtnfaeafplaeehaaGreatMrgB
import Derived.WalkMore
import Derived.Test.YtnfaeafplaeehaaGreatMrgK
section
set_option linter.unusedVariables false
set_option linter.unusedSimpArgs false
namespace Go.Proofs.YtnfaeafplaeehaaGreat
open Go.RowKit
/-! The records behind a region's beginning, applied. -/
def scanB (gen next : Int) (r : Rec) : Bool := !(r.kind == 1) && (r.gen == gen) && (r.lsn == next)
def scanM (sec : List Sec) (lat : List (Int × Sec)) (half reg gen : Int) : Nat → Int → St → Int × St
  | 0, next, σ => (next, σ)
  | f + 1, next, σ =>
    match atM sec lat half reg next with
    | some r => if scanB gen next r = true then scanM sec lat half reg gen f (next + 1) (σ.apply r) else (next, σ)
    | none => (next, σ)
theorem scan_no {sec : List Sec} {lat : List (Int × Sec)} {half reg gen next : Int} {f : Nat} {σ : St} (h : atM sec lat half reg next = none) : scanM sec lat half reg gen (f + 1) next σ = (next, σ) := by
  rw [scanM, h]
theorem scan_not {sec : List Sec} {lat : List (Int × Sec)} {half reg gen next : Int} {f : Nat} {σ : St} {r : Rec} (h : atM sec lat half reg next = some r) (hb : scanB gen next r = false) : scanM sec lat half reg gen (f + 1) next σ = (next, σ) := by
  rw [scanM, h]
  simp only [hb, Bool.false_eq_true, if_false]
theorem scan_yes {sec : List Sec} {lat : List (Int × Sec)} {half reg gen next : Int} {f : Nat} {σ : St} {r : Rec} (h : atM sec lat half reg next = some r) (hb : scanB gen next r = true) : scanM sec lat half reg gen (f + 1) next σ = scanM sec lat half reg gen f (next + 1) (σ.apply r) := by
  rw [scanM, h]
  simp only [hb, if_true]
/-- A journal's blocks are apart. -/
structure WSep (L d g bs s g1 g2 : Nat) : Prop where
  l : L ∉ [d, g, bs, s, g1, g2]
  d : d ∉ [L, s, g1, g2]
  g : g ∉ [L, s, g1, g2]
  b : bs ∉ [L, s, g1, g2]
theorem sep_l {L d g bs s g1 g2 : Nat} (h : WSep L d g bs s g1 g2) : L ∉ [s, g1, g2] := fun hm => h.l (by simp only [List.mem_cons, List.not_mem_nil, or_false] at hm ⊢; omega)
theorem below_ad' (W : World) (o : Obj) : Below W.heap.size W.drew (W.drew.alloc o) := (Below.refl W.heap.size W.drew).alloc (Nat.le_refl _) o
theorem Kept.trans' {S : List Nat} {n : Nat} {a b c : World} (h : Kept S a b) (k : Kept [n] b c) (hn : a.heap.size ≤ n) : Kept S a c :=
  ⟨k.os.trans h.os, k.tape.trans h.tape, k.output.trans h.output, Nat.le_trans h.size k.size, fun i hi hS => (k.block i (Nat.lt_of_lt_of_le hi h.size) (by simp only [List.mem_singleton]; omega)).trans (h.block i hi hS)⟩
theorem LogB.drewN {W : World} {L d s : Nat} {c : LogC} (h : LogB W L d s c) (n : Nat) : LogB (W.drewN n) L d s c := h
theorem LogB.drew {W : World} {L d s : Nat} {c : LogC} (h : LogB W L d s c) : LogB W.drew L d s c := h
theorem StAt.drewN {T : TypeId} {w : World} {s g1 g2 : Nat} {σ : St} (h : StAt T w s g1 g2 σ) (n : Nat) : StAt T (w.drewN n) s g1 g2 σ := h
theorem StAt.drew {T : TypeId} {w : World} {s g1 g2 : Nat} {σ : St} (h : StAt T w s g1 g2 σ) : StAt T w.drew s g1 g2 σ := h
set_option maxRecDepth 100000 in
set_option maxHeartbeats 4000000 in
theorem wal_scan (L d s g bs g1 g2 : Nat) (c : LogC) (σ : St) (sec : List Sec) (lat : List (Int × Sec)) (fl : Int) (w : World) (hL : LogB w L d s c) (hD : DiskAt w d g bs sec lat fl) (hS : StAt 75 w s g1 g2 σ) (hsep : WSep L d g bs s g1 g2) (hB : SecB sec lat) (hh : 0 ≤ c.half ∧ c.half ≤ 1000) (hr : c.reg = 0 ∨ c.reg = 1) :
    Calls Tryz.prog 23 #[.pointer (some ⟨L, 0, none⟩)] w fun e w' => e = .returned (.tuple #[]) ∧ LogB w' L d s { c with next := (scanM sec lat c.half c.reg c.gen (c.half - 1).toNat 1 σ).1 } ∧ StAt 75 w' s g1 g2 (scanM sec lat c.half c.reg c.gen (c.half - 1).toNat 1 σ).2 ∧ Kept [L, s, g1, g2] w w' := by
  have HH := Lib.hid hh
  have HR := Lib.hid hr
  have HSEP := Lib.hid hsep
  clear hh hr hsep
  have hLb : Blk w L _ _ := hL
  have l0 := hLb.cell 0
  have l1 := hLb.cell 1
  have l2 := hLb.cell 2
  have l3 := hLb.cell 3
  have l4 := hLb.cell 4
  have l5 := hLb.cell 5
  have l6 := hLb.cell 6
  simp only [List.getElem?_toArray, List.getElem?_cons_zero, List.getElem?_cons_succ] at l0 l1 l2 l3 l4 l5 l6
  have l9 := hLb.lt
  have lf4 := hLb.frozen 4
  go_enter Tryz.func23, Tryz.ntmps23
  go_wp2_with fail
  go_step3
  go_wp2_with fail
  go_step3
  go_wp2_with fail
  go_loopw [] (fun wr => ∃ (f : Nat) (next : Int) (τ : St), (1 ≤ next ∧ next ≤ 1001 ∧ f = (c.half - next).toNat) ∧ LogB wr L d s { c with next := next } ∧ StAt 75 wr s g1 g2 τ ∧ Kept [L, s, g1, g2] w wr ∧ scanM sec lat c.half c.reg c.gen f next τ = scanM sec lat c.half c.reg c.gen (c.half - 1).toNat 1 σ) (fun wr => (c.half - intOf ((wr.cell? ⟨L, 4, none⟩).getD undef)).toNat)
  case atStart =>
    have hLs := hLb.set 4 (.int .i64 1)
    simp only [List.setIfInBounds_toArray, List.set_cons_zero, List.set_cons_succ] at hLs
    have hks := kept_set (Kept.refl [L] w) ⟨L, 4, none⟩ (.int .i64 1) (.inl (List.mem_singleton_self L))
    have hl7 := HSEP.out.l
    simp only [List.mem_cons, List.not_mem_nil, or_false, not_or] at hl7
    exact ⟨(c.half - 1).toNat, 1, σ, ⟨by omega, by omega, rfl⟩, hLs, hS.kept hks (by simp only [List.mem_singleton]; omega) (by simp only [List.mem_singleton]; omega) (by simp only [List.mem_singleton]; omega), hks.more (by simp), rfl⟩
  case round =>
    clear hLb l0 l1 l2 l3 l4 l5 l6 l9 lf4
    obtain ⟨f, next, τ, ⟨hn1, hn2, hf⟩, hL6, hS6, hk6, hR⟩ := hrel
    have hLb6 : Blk wr L _ _ := hL6
    have b0 := hLb6.cell 0
    have b1 := hLb6.cell 1
    have b2 := hLb6.cell 2
    have b3 := hLb6.cell 3
    have b4 := hLb6.cell 4
    have b5 := hLb6.cell 5
    have b6 := hLb6.cell 6
    simp only [List.getElem?_toArray, List.getElem?_cons_zero, List.getElem?_cons_succ] at b0 b1 b2 b3 b4 b5 b6
    have b9 := hLb6.lt
    have HM := Lib.hid b4
    by_cases hlt : next < c.half
    · have dlt : decide (next < c.half) = true := decide_eq_true hlt
      have h1000 := HH.out
      obtain ⟨f, rfl⟩ : ∃ f', f = f' + 1 := ⟨f - 1, by omega⟩
      have hAt := fun W h1 h2 => wal_at c.reg next L d s g bs { c with next := next } sec lat fl W h1 h2 hB HH.out HR.out ⟨by omega, by omega⟩
      have hkd := fun (W : World) (hk : Kept [L, s, g1, g2] w W) => hD.kept hk HSEP.out.d HSEP.out.g HSEP.out.b
      have HF := Lib.hid hf
      have HNX := Lib.hid (And.intro hn1 (And.intro hn2 hlt))
      clear hf hn1 hn2 hlt h1000
      go_wp2_with fail
      go_quiet (fail)
      rename_i nq
      replace hL6 := hL6.drewN nq
      replace hS6 := hS6.drewN nq
      replace hk6 := hk6.drewN nq
      clear b0 b1 b2 b3 b4 b5 b6 b9 hLb6
      generalize wr.drewN nq = V at *
      clear nq
      go_wp2_with fail
      have hLb6 : Blk V L _ _ := hL6
      have b0 := hLb6.cell 0
      have b1 := hLb6.cell 1
      have b2 := hLb6.cell 2
      have b3 := hLb6.cell 3
      have b4 := hLb6.cell 4
      have b5 := hLb6.cell 5
      have b6 := hLb6.cell 6
      simp only [List.getElem?_toArray, List.getElem?_cons_zero, List.getElem?_cons_succ] at b0 b1 b2 b3 b4 b5 b6
      have b9 := hLb6.lt
      have hD6 := hkd V hk6
      have hV9 := hk6.size
      refine draw_start [] (Below V.heap.size) (by kernel_rfl) ?_
      refine draw_chunk (n := 63) (by kernel_rfl) (fun _ _ _ _ _ h => h) [0, 1, 2, 3, 4, 5, 6, 7, 8] [] _ #[true, true, true, true, true, true, true, true, true, false, false, false, false, false, false, false] (by kernel_rfl) 7 _ ?_ _ rfl ?_ ?_
      rotate_left
      · intro w' hw'
        have hc' : ∀ b o, b < V.heap.size → w'.cell? ⟨b, o, none⟩ = V.cell? ⟨b, o, none⟩ := fun b o h => hw'.cell (p := ⟨b, o, none⟩) h
        iterate 9
          refine ci_step (v := ?_) rfl (by kernel_rfl) ?_ ?_
          rotate_left
          · first | (go_simp; done) | (go_simp; with_reducible rfl)
          try simp only [Act.put, List.setIfInBounds_toArray, List.set_cons_zero, List.set_cons_succ]
        refine ci_end ?_
        rfl
      clear b0 b1 b2 b3 b4 b5 b6 b9 hLb6
      refine draw_two (i := 9) (j := 13) rfl rfl (by kernel_rfl) (li := #[true, true, true, true, true, true, true, true, true, true, false, false, false, false, false, false]) (lj := #[true, true, true, true, true, true, true, true, true, false, false, false, false, true, false, false]) rfl rfl (fun K hK => ?_) (fun K hK => ?_)
      all_goals replace hK := Lib.hid hK
      · skip
        go_wp2_with fail
        refine (hAt V.drew hL6 (hD6.below (Below.drew (Below.refl _ _)))).mono ?_
        rintro e w2 ⟨rfl, hb2⟩
        go_wp2_with fail
        refine hK.out _ _ ⟨fun _ => hb2, ?_⟩
        clear hK
        replace hL6 := (hL6.drew).below hb2
        replace hS6 := (hS6.drew).below hb2
        replace hk6 := (kept_drew hk6).trans (Kept.of_below hb2)
        clear hAt
        cases hq : atM sec lat c.half c.reg next with
        | none =>
          have HN := Lib.hid (hR.symm.trans (scan_no hq))
          simp only [Option.getD_some, Option.isSome_some, Option.getD_none, Option.isSome_none, noR, Rec.val, Rec.arr]
          refine draw_chunk (n := 63) (by kernel_rfl) (fun _ _ _ _ _ h => h) [10, 11, 12] [] _ #[true, true, true, true, true, true, true, true, true, true, true, true, true, false, false, false] (by kernel_rfl) 3 _ ?_ _ rfl ?_ ?_
          rotate_left
          · intro w' hw'
            have hc' : ∀ b o, b < V.heap.size → w'.cell? ⟨b, o, none⟩ = w2.cell? ⟨b, o, none⟩ := fun b o h => hw'.cell (p := ⟨b, o, none⟩) h
            iterate 3
              refine ci_step (v := ?_) rfl (by kernel_rfl) ?_ ?_
              rotate_left
              · first | (go_simp; done) | (go_simp; with_reducible rfl)
              try simp only [Act.put, List.setIfInBounds_toArray, List.set_cons_zero, List.set_cons_succ]
            refine ci_end ?_
            rfl
          refine draw_eff (i := 13) rfl (by kernel_rfl) (listed' := #[true, true, true, true, true, true, true, true, true, true, true, true, true, true, false, false]) rfl (fun K hK => ?_)
          replace hK := Lib.hid hK
          go_wp2_with fail
          refine hK.out _ _ ⟨fun _ => (Below.refl _ _).alloc (hb2.size) _, ?_⟩
          clear hK
          refine draw_eff (i := 14) rfl (by kernel_rfl) (listed' := #[true, true, true, true, true, true, true, true, true, true, true, true, true, true, true, false]) rfl (fun K hK => ?_)
          replace hK := Lib.hid hK
          go_wp2_with fail
          refine hK.out _ _ ⟨fun _ => below_two ((Below.refl _ w2).alloc hb2.size _) ((Below.refl _ w2).alloc hb2.size _) (by simp), ?_⟩
          clear hK
          refine draw_chunk (n := 63) (by kernel_rfl) (fun _ _ _ _ _ h => h) [15] [] _ #[true, true, true, true, true, true, true, true, true, true, true, true, true, true, true, true] (by kernel_rfl) 0 _ ?_ _ rfl ?_ ?_
          rotate_left
          · intro w' hw'
            have hc' : ∀ b o, b < V.heap.size → w'.cell? ⟨b, o, none⟩ = (w2.alloc (.cells #[.int .i64 0, .int .u32 0, .int .u32 0, .int .u32 0, .int .u32 0, .int .i64 0, .bool false, .int .u32 0, .int .u16 0] 41)).cell? ⟨b, o, none⟩ := fun b o h => hw'.cell (p := ⟨b, o, none⟩) h
            refine ci_step (i := 15) (v := ?_) rfl (by kernel_rfl) ?_ ?_
            rotate_left
            · first | (go_simp; done) | (go_simp; with_reducible rfl)
            skip
            try simp only [Act.put, List.setIfInBounds_toArray, List.set_cons_zero, List.set_cons_succ]
            refine ci_end ?_
            rfl
          refine draw_done (by kernel_rfl) ?_ _
          have kQ := Blk.new w2 41 #[.int .i64 0, .int .u32 0, .int .u32 0, .int .u32 0, .int .u32 0, .int .i64 0, .bool false, .int .u32 0, .int .u16 0]
          replace hL6 := hL6.alloc (.cells #[.int .i64 0, .int .u32 0, .int .u32 0, .int .u32 0, .int .u32 0, .int .i64 0, .bool false, .int .u32 0, .int .u16 0] 41)
          replace hS6 := hS6.below ((Below.refl w2.heap.size w2).alloc (Nat.le_refl _) (.cells #[.int .i64 0, .int .u32 0, .int .u32 0, .int .u32 0, .int .u32 0, .int .i64 0, .bool false, .int .u32 0, .int .u16 0] 41))
          replace hk6 := kept_alloc hk6 (.cells #[.int .i64 0, .int .u32 0, .int .u32 0, .int .u32 0, .int .u32 0, .int .i64 0, .bool false, .int .u32 0, .int .u16 0] 41)
          generalize (w2.alloc (.cells #[.int .i64 0, .int .u32 0, .int .u32 0, .int .u32 0, .int .u32 0, .int .i64 0, .bool false, .int .u32 0, .int .u16 0] 41)) = W6 at *
          generalize w2.heap.size = q at *
          clear hb2
          have hLb6 : Blk W6 L _ _ := hL6
          have b0 := hLb6.cell 0
          have b1 := hLb6.cell 1
          have b2 := hLb6.cell 2
          have b3 := hLb6.cell 3
          have b4 := hLb6.cell 4
          have b5 := hLb6.cell 5
          have b6 := hLb6.cell 6
          simp only [List.getElem?_toArray, List.getElem?_cons_zero, List.getElem?_cons_succ] at b0 b1 b2 b3 b4 b5 b6
          have b9 := hLb6.lt
          have r0 := kQ.cell 0
          have r1 := kQ.cell 1
          have r2 := kQ.cell 2
          have r3 := kQ.cell 3
          have r4 := kQ.cell 4
          have r5 := kQ.cell 5
          have r6 := kQ.cell 6
          have r7 := kQ.cell 7
          have r8 := kQ.cell 8
          simp only [List.getElem?_toArray, List.getElem?_cons_zero, List.getElem?_cons_succ] at r0 r1 r2 r3 r4 r5 r6 r7 r8
          have r9 := kQ.lt
          go_wp2
          try rw [Exit.noGoto_normal]
          refine bodyPost_end (results_none rfl _ _ _) rfl ⟨rfl, ?_, ?_, hk6⟩
          · rw [HN.out]; exact hL6
          · rw [HN.out]; exact hS6
        | some r =>
          obtain ⟨rk, rg, rl, ri, ra, rp, ro, rs, rm⟩ := r
          simp only [Option.getD_some, Option.isSome_some, Option.getD_none, Option.isSome_none, noR, Rec.val, Rec.arr]
          refine draw_chunk (n := 63) (by kernel_rfl) (fun _ _ _ _ _ h => h) [10, 11, 12] [] _ #[true, true, true, true, true, true, true, true, true, true, true, true, true, false, false, false] (by kernel_rfl) 3 _ ?_ _ rfl ?_ ?_
          rotate_left
          · intro w' hw'
            have hc' : ∀ b o, b < V.heap.size → w'.cell? ⟨b, o, none⟩ = w2.cell? ⟨b, o, none⟩ := fun b o h => hw'.cell (p := ⟨b, o, none⟩) h
            iterate 3
              refine ci_step (v := ?_) rfl (by kernel_rfl) ?_ ?_
              rotate_left
              · first | (go_simp; done) | (go_simp; with_reducible rfl)
              try simp only [Act.put, List.setIfInBounds_toArray, List.set_cons_zero, List.set_cons_succ]
            refine ci_end ?_
            rfl
          refine draw_eff (i := 13) rfl (by kernel_rfl) (listed' := #[true, true, true, true, true, true, true, true, true, true, true, true, true, true, false, false]) rfl (fun K hK => ?_)
          replace hK := Lib.hid hK
          go_wp2_with fail
          refine hK.out _ _ ⟨fun _ => (Below.refl _ _).alloc (hb2.size) _, ?_⟩
          clear hK
          refine draw_eff (i := 14) rfl (by kernel_rfl) (listed' := #[true, true, true, true, true, true, true, true, true, true, true, true, true, true, true, false]) rfl (fun K hK => ?_)
          replace hK := Lib.hid hK
          go_wp2_with fail
          refine hK.out _ _ ⟨fun _ => below_two ((Below.refl _ w2).alloc hb2.size _) ((Below.refl _ w2).alloc hb2.size _) (by simp), ?_⟩
          clear hK
          refine draw_chunk (n := 63) (by kernel_rfl) (fun _ _ _ _ _ h => h) [15] [] _ #[true, true, true, true, true, true, true, true, true, true, true, true, true, true, true, true] (by kernel_rfl) 0 _ ?_ _ rfl ?_ ?_
          rotate_left
          · intro w' hw'
            have hc' : ∀ b o, b < V.heap.size → w'.cell? ⟨b, o, none⟩ = (w2.alloc (.cells #[.int .i64 rk, .int .u32 rg, .int .u32 rl, .int .u32 ri, .int .u32 ra, .int .i64 rp, .bool ro, .int .u32 rs, .int .u16 rm] 41)).cell? ⟨b, o, none⟩ := fun b o h => hw'.cell (p := ⟨b, o, none⟩) h
            refine ci_step (i := 15) (v := ?_) rfl (by kernel_rfl) ?_ ?_
            rotate_left
            · first | (go_simp; done) | (go_simp; with_reducible rfl)
            skip
            try simp only [Act.put, List.setIfInBounds_toArray, List.set_cons_zero, List.set_cons_succ]
            refine ci_end ?_
            rfl
          refine draw_done (by kernel_rfl) ?_ _
          have kQ := Blk.new w2 41 #[.int .i64 rk, .int .u32 rg, .int .u32 rl, .int .u32 ri, .int .u32 ra, .int .i64 rp, .bool ro, .int .u32 rs, .int .u16 rm]
          replace hL6 := hL6.alloc (.cells #[.int .i64 rk, .int .u32 rg, .int .u32 rl, .int .u32 ri, .int .u32 ra, .int .i64 rp, .bool ro, .int .u32 rs, .int .u16 rm] 41)
          replace hS6 := hS6.below ((Below.refl w2.heap.size w2).alloc (Nat.le_refl _) (.cells #[.int .i64 rk, .int .u32 rg, .int .u32 rl, .int .u32 ri, .int .u32 ra, .int .i64 rp, .bool ro, .int .u32 rs, .int .u16 rm] 41))
          replace hk6 := kept_alloc hk6 (.cells #[.int .i64 rk, .int .u32 rg, .int .u32 rl, .int .u32 ri, .int .u32 ra, .int .i64 rp, .bool ro, .int .u32 rs, .int .u16 rm] 41)
          generalize (w2.alloc (.cells #[.int .i64 rk, .int .u32 rg, .int .u32 rl, .int .u32 ri, .int .u32 ra, .int .i64 rp, .bool ro, .int .u32 rs, .int .u16 rm] 41)) = W6 at *
          generalize w2.heap.size = q at *
          clear hb2
          have hLb6 : Blk W6 L _ _ := hL6
          have b0 := hLb6.cell 0
          have b1 := hLb6.cell 1
          have b2 := hLb6.cell 2
          have b3 := hLb6.cell 3
          have b4 := hLb6.cell 4
          have b5 := hLb6.cell 5
          have b6 := hLb6.cell 6
          simp only [List.getElem?_toArray, List.getElem?_cons_zero, List.getElem?_cons_succ] at b0 b1 b2 b3 b4 b5 b6
          have b9 := hLb6.lt
          have r0 := kQ.cell 0
          have r1 := kQ.cell 1
          have r2 := kQ.cell 2
          have r3 := kQ.cell 3
          have r4 := kQ.cell 4
          have r5 := kQ.cell 5
          have r6 := kQ.cell 6
          have r7 := kQ.cell 7
          have r8 := kQ.cell 8
          simp only [List.getElem?_toArray, List.getElem?_cons_zero, List.getElem?_cons_succ] at r0 r1 r2 r3 r4 r5 r6 r7 r8
          have r9 := kQ.lt
          cases f1 : rk == 1 with
          | true =>
            have HN := Lib.hid (hR.symm.trans (scan_not hq (by simp only [scanB, f1]; rfl)))
            go_wp2
            try rw [Exit.noGoto_normal]
            refine bodyPost_end (results_none rfl _ _ _) rfl ⟨rfl, ?_, ?_, hk6⟩
            · rw [HN.out]; exact hL6
            · rw [HN.out]; exact hS6
          | false =>
            go_wp2_with fail
            cases f2 : rg != c.gen with
            | true =>
              have HN := Lib.hid (hR.symm.trans (scan_not hq (by have f2' : (rg == c.gen) = false := (by simpa [bne] using f2); simp only [scanB, f1, f2']; rfl)))
              go_quiet (fail)
              rename_i nq
              replace hL6 := hL6.drewN nq
              replace hS6 := hS6.drewN nq
              replace hk6 := hk6.drewN nq
              replace kQ := kQ.drewN nq
              clear b0 b1 b2 b3 b4 b5 b6 b9 r0 r1 r2 r3 r4 r5 r6 r7 r8 r9 hLb6
              generalize W6.drewN nq = W7 at *
              clear nq
              go_wp2_with fail
              have hLb6 : Blk W7 L _ _ := hL6
              have b0 := hLb6.cell 0
              have b1 := hLb6.cell 1
              have b2 := hLb6.cell 2
              have b3 := hLb6.cell 3
              have b4 := hLb6.cell 4
              have b5 := hLb6.cell 5
              have b6 := hLb6.cell 6
              simp only [List.getElem?_toArray, List.getElem?_cons_zero, List.getElem?_cons_succ] at b0 b1 b2 b3 b4 b5 b6
              have b9 := hLb6.lt
              have r0 := kQ.cell 0
              have r1 := kQ.cell 1
              have r2 := kQ.cell 2
              have r3 := kQ.cell 3
              have r4 := kQ.cell 4
              have r5 := kQ.cell 5
              have r6 := kQ.cell 6
              have r7 := kQ.cell 7
              have r8 := kQ.cell 8
              simp only [List.getElem?_toArray, List.getElem?_cons_zero, List.getElem?_cons_succ] at r0 r1 r2 r3 r4 r5 r6 r7 r8
              have r9 := kQ.lt
              go_wp2
              try rw [Exit.noGoto_normal]
              refine bodyPost_end (results_none rfl _ _ _) rfl ⟨rfl, ?_, ?_, hk6⟩
              · rw [HN.out]; exact hL6
              · rw [HN.out]; exact hS6
            | false =>
              go_quiet (fail)
              rename_i nq
              replace hL6 := hL6.drewN nq
              replace hS6 := hS6.drewN nq
              replace hk6 := hk6.drewN nq
              replace kQ := kQ.drewN nq
              clear b0 b1 b2 b3 b4 b5 b6 b9 r0 r1 r2 r3 r4 r5 r6 r7 r8 r9 hLb6
              generalize W6.drewN nq = W7 at *
              clear nq
              go_wp2_with fail
              have hLb6 : Blk W7 L _ _ := hL6
              have b0 := hLb6.cell 0
              have b1 := hLb6.cell 1
              have b2 := hLb6.cell 2
              have b3 := hLb6.cell 3
              have b4 := hLb6.cell 4
              have b5 := hLb6.cell 5
              have b6 := hLb6.cell 6
              simp only [List.getElem?_toArray, List.getElem?_cons_zero, List.getElem?_cons_succ] at b0 b1 b2 b3 b4 b5 b6
              have b9 := hLb6.lt
              have r0 := kQ.cell 0
              have r1 := kQ.cell 1
              have r2 := kQ.cell 2
              have r3 := kQ.cell 3
              have r4 := kQ.cell 4
              have r5 := kQ.cell 5
              have r6 := kQ.cell 6
              have r7 := kQ.cell 7
              have r8 := kQ.cell 8
              simp only [List.getElem?_toArray, List.getElem?_cons_zero, List.getElem?_cons_succ] at r0 r1 r2 r3 r4 r5 r6 r7 r8
              have r9 := kQ.lt
              have f3w : IntKind.u32.wrap next = next := by have := HNX.out; have := HH.out; rw [IntKind.wrap_u32]; omega
              cases f3 : rl != next with
              | true =>
                have HN := Lib.hid (hR.symm.trans (scan_not hq (by have f2' : (rg == c.gen) = true := (by simpa [bne] using f2); have f3' : (rl == next) = false := (by simpa [bne] using f3); simp only [scanB, f1, f2', f3']; rfl)))
                go_quiet (fail)
                rename_i nq
                replace hL6 := hL6.drewN nq
                replace hS6 := hS6.drewN nq
                replace hk6 := hk6.drewN nq
                replace kQ := kQ.drewN nq
                clear b0 b1 b2 b3 b4 b5 b6 b9 r0 r1 r2 r3 r4 r5 r6 r7 r8 r9 hLb6
                generalize W7.drewN nq = W8 at *
                clear nq
                go_wp2_with fail
                have hLb6 : Blk W8 L _ _ := hL6
                have b0 := hLb6.cell 0
                have b1 := hLb6.cell 1
                have b2 := hLb6.cell 2
                have b3 := hLb6.cell 3
                have b4 := hLb6.cell 4
                have b5 := hLb6.cell 5
                have b6 := hLb6.cell 6
                simp only [List.getElem?_toArray, List.getElem?_cons_zero, List.getElem?_cons_succ] at b0 b1 b2 b3 b4 b5 b6
                have b9 := hLb6.lt
                have r0 := kQ.cell 0
                have r1 := kQ.cell 1
                have r2 := kQ.cell 2
                have r3 := kQ.cell 3
                have r4 := kQ.cell 4
                have r5 := kQ.cell 5
                have r6 := kQ.cell 6
                have r7 := kQ.cell 7
                have r8 := kQ.cell 8
                simp only [List.getElem?_toArray, List.getElem?_cons_zero, List.getElem?_cons_succ] at r0 r1 r2 r3 r4 r5 r6 r7 r8
                have r9 := kQ.lt
                go_wp2
                try rw [Exit.noGoto_normal]
                refine bodyPost_end (results_none rfl _ _ _) rfl ⟨rfl, ?_, ?_, hk6⟩
                · rw [HN.out]; exact hL6
                · rw [HN.out]; exact hS6
              | false =>
                have HN := Lib.hid ((scan_yes hq (by have f2' : (rg == c.gen) = true := (by simpa [bne] using f2); have f3' : (rl == next) = true := (by simpa [bne] using f3); simp only [scanB, f1, f2', f3']; rfl)).symm.trans hR)
                go_quiet (fail)
                rename_i nq
                replace hL6 := hL6.drewN nq
                replace hS6 := hS6.drewN nq
                replace hk6 := hk6.drewN nq
                replace kQ := kQ.drewN nq
                clear b0 b1 b2 b3 b4 b5 b6 b9 r0 r1 r2 r3 r4 r5 r6 r7 r8 r9 hLb6
                generalize W7.drewN nq = W8 at *
                clear nq
                go_wp2_with fail
                have hLb6 : Blk W8 L _ _ := hL6
                have b0 := hLb6.cell 0
                have b1 := hLb6.cell 1
                have b2 := hLb6.cell 2
                have b3 := hLb6.cell 3
                have b4 := hLb6.cell 4
                have b5 := hLb6.cell 5
                have b6 := hLb6.cell 6
                simp only [List.getElem?_toArray, List.getElem?_cons_zero, List.getElem?_cons_succ] at b0 b1 b2 b3 b4 b5 b6
                have b9 := hLb6.lt
                have r0 := kQ.cell 0
                have r1 := kQ.cell 1
                have r2 := kQ.cell 2
                have r3 := kQ.cell 3
                have r4 := kQ.cell 4
                have r5 := kQ.cell 5
                have r6 := kQ.cell 6
                have r7 := kQ.cell 7
                have r8 := kQ.cell 8
                simp only [List.getElem?_toArray, List.getElem?_cons_zero, List.getElem?_cons_succ] at r0 r1 r2 r3 r4 r5 r6 r7 r8
                have r9 := kQ.lt
                clear hR hq f1 f2 f3 f3w
                have hAp := fun W h => state_Apply τ ⟨rk, rg, rl, ri, ra, rp, ro, rs, rm⟩ s g1 g2 W h
                simp only [Rec.val, Rec.arr] at hAp
                refine draw_start [5] Later (by kernel_rfl) ?_
                refine draw_chunk (n := 63) (by kernel_rfl) (fun _ _ _ _ _ h => h) [0, 1, 2, 3, 4] [] _ #[true, true, true, true, true, false] (by kernel_rfl) 1 _ ?_ _ rfl ?_ ?_
                rotate_left
                · intro w' hw'
                  have hc' : ∀ b o, b < W8.heap.size → w'.cell? ⟨b, o, none⟩ = W8.cell? ⟨b, o, none⟩ := (bcell hw').1
                  have hld := run_load_rec (r := ⟨rk, rg, rl, ri, ra, rp, ro, rs, rm⟩) (kQ.below' (undrew hw')); simp only [Rec.val, Rec.arr] at hld
                  iterate 4
                    refine ci_step (v := ?_) rfl (by kernel_rfl) ?_ ?_
                    rotate_left
                    · first | (go_simp; done) | (go_simp; with_reducible rfl)
                    try simp only [Act.put, List.setIfInBounds_toArray, List.set_cons_zero, List.set_cons_succ]
                  refine ci_step (i := 4) (v := ?_) rfl (by kernel_rfl) ?_ ?_
                  rotate_left
                  · refine (execLoad rfl rfl hld).trans ?_; with_reducible rfl
                  skip
                  try simp only [Act.put, List.setIfInBounds_toArray, List.set_cons_zero, List.set_cons_succ]
                  refine ci_end ?_
                  rfl
                refine draw_eff (i := 5) rfl (by kernel_rfl) (listed' := #[true, true, true, true, true, true]) rfl (fun K hK => ?_)
                replace hK := Lib.hid hK
                go_wp2_with fail
                refine (hAp W8.drew hS6.drew).mono ?_
                rintro e w9 ⟨rfl, hS9, hk9⟩
                go_wp2_with fail
                refine hK.out _ _ ⟨fun h => absurd (by decide) h, ?_⟩
                clear hK
                refine draw_done (by kernel_rfl) ?_ _
                have hL9 : LogB w9 L d s _ := hL6.drew.kept hk9 (sep_l HSEP.out)
                have hkk9 := (kept_drew hk6).trans (hk9.more (T := [L, s, g1, g2]) (fun x hx => List.mem_cons_of_mem _ hx))
                clear b0 b1 b2 b3 b4 b5 b6 b9 r0 r1 r2 r3 r4 r5 r6 r7 r8 r9 hLb6 hS6 hL6 hk6 kQ hk9
                have hLb6 : Blk w9 L _ _ := hL9
                have b0 := hLb6.cell 0
                have b1 := hLb6.cell 1
                have b2 := hLb6.cell 2
                have b3 := hLb6.cell 3
                have b4 := hLb6.cell 4
                have b5 := hLb6.cell 5
                have b6 := hLb6.cell 6
                simp only [List.getElem?_toArray, List.getElem?_cons_zero, List.getElem?_cons_succ] at b0 b1 b2 b3 b4 b5 b6
                have b9 := hLb6.lt
                have bf := hLb6.frozen 4
                have hw1 : IntKind.i64.wrap (next + 1) = next + 1 := by have := HNX.out; have := HH.out; rw [IntKind.wrap_i64]; omega
                go_wp2
                case roundEnd =>
                  have hLs := hLb6.set 4 (.int .i64 (next + 1))
                  simp only [List.setIfInBounds_toArray, List.set_cons_zero, List.set_cons_succ] at hLs
                  have hks := kept_set (Kept.refl [L] w9) ⟨L, 4, none⟩ (.int .i64 (next + 1)) (.inl (List.mem_singleton_self L))
                  have hc4 := hLs.cell 4
                  simp only [List.getElem?_toArray, List.getElem?_cons_zero, List.getElem?_cons_succ] at hc4
                  have hl7 := HSEP.out.l
                  simp only [List.mem_cons, List.not_mem_nil, or_false, not_or] at hl7
                  have hx := HNX.out
                  have hf := HF.out
                  have h1000 := HH.out
                  refine ⟨⟨f, next + 1, τ.apply ⟨rk, rg, rl, ri, ra, rp, ro, rs, rm⟩, ⟨by omega, by omega, by omega⟩, hLs, hS9.kept hks (by simp only [List.mem_singleton]; omega) (by simp only [List.mem_singleton]; omega) (by simp only [List.mem_singleton]; omega), hkk9.trans (hks.more (by simp)), HN.out⟩, ?_⟩
                  rw [hc4, HM.out]
                  simp only [Option.getD_some, intOf]
                  omega
      · skip
        go_wp2_with fail
        refine hK.out _ _ ⟨fun _ => below_ad' V (.cells #[.int .i64 0, .int .u32 0, .int .u32 0, .int .u32 0, .int .u32 0, .int .i64 0, .bool false, .int .u32 0, .int .u16 0] 41), ?_⟩
        clear hK
        have hQ0 : V.heap.size ≠ L ∧ V.heap.size ≠ s ∧ V.heap.size ≠ g1 ∧ V.heap.size ≠ g2 := by
          have u1 := Blk.lt hL6
          have u2 := hS6.1.lt
          have u3 := hS6.2.1.lt
          have u4 := hS6.2.2.1.lt
          omega
        have kQ : Blk (V.alloc (.cells #[.int .i64 0, .int .u32 0, .int .u32 0, .int .u32 0, .int .u32 0, .int .i64 0, .bool false, .int .u32 0, .int .u16 0] 41)).drew V.heap.size 41 #[.int .i64 0, .int .u32 0, .int .u32 0, .int .u32 0, .int .u32 0, .int .i64 0, .bool false, .int .u32 0, .int .u16 0] := Blk.new V 41 #[.int .i64 0, .int .u32 0, .int .u32 0, .int .u32 0, .int .u32 0, .int .i64 0, .bool false, .int .u32 0, .int .u16 0]
        replace hL6 : LogB (V.alloc (.cells #[.int .i64 0, .int .u32 0, .int .u32 0, .int .u32 0, .int .u32 0, .int .i64 0, .bool false, .int .u32 0, .int .u16 0] 41)).drew L d s _ := hL6.alloc (.cells #[.int .i64 0, .int .u32 0, .int .u32 0, .int .u32 0, .int .u32 0, .int .i64 0, .bool false, .int .u32 0, .int .u16 0] 41)
        replace hS6 : StAt 75 (V.alloc (.cells #[.int .i64 0, .int .u32 0, .int .u32 0, .int .u32 0, .int .u32 0, .int .i64 0, .bool false, .int .u32 0, .int .u16 0] 41)).drew s g1 g2 τ := StAt.drew (hS6.below ((Below.refl V.heap.size V).alloc (Nat.le_refl _) (.cells #[.int .i64 0, .int .u32 0, .int .u32 0, .int .u32 0, .int .u32 0, .int .i64 0, .bool false, .int .u32 0, .int .u16 0] 41)))
        replace hk6 : Kept [L, s, g1, g2] w (V.alloc (.cells #[.int .i64 0, .int .u32 0, .int .u32 0, .int .u32 0, .int .u32 0, .int .i64 0, .bool false, .int .u32 0, .int .u16 0] 41)).drew := kept_drew (kept_alloc hk6 (.cells #[.int .i64 0, .int .u32 0, .int .u32 0, .int .u32 0, .int .u32 0, .int .i64 0, .bool false, .int .u32 0, .int .u16 0] 41))
        have hqv : V.heap.size < (V.alloc (.cells #[.int .i64 0, .int .u32 0, .int .u32 0, .int .u32 0, .int .u32 0, .int .i64 0, .bool false, .int .u32 0, .int .u16 0] 41)).drew.heap.size := by show _ < (V.alloc (.cells #[.int .i64 0, .int .u32 0, .int .u32 0, .int .u32 0, .int .u32 0, .int .i64 0, .bool false, .int .u32 0, .int .u16 0] 41)).heap.size; simp
        clear hD6
        have HQ := Lib.hid (show V.heap.size ≠ L ∧ V.heap.size ≠ s ∧ V.heap.size ≠ g1 ∧ V.heap.size ≠ g2 from hQ0)
        have HW := Lib.hid hV9
        clear hQ0 hV9
        generalize (V.alloc (.cells #[.int .i64 0, .int .u32 0, .int .u32 0, .int .u32 0, .int .u32 0, .int .i64 0, .bool false, .int .u32 0, .int .u16 0] 41)).drew = V3 at *
        refine draw_eff (i := 9) rfl (by kernel_rfl) (listed' := #[true, true, true, true, true, true, true, true, true, true, false, false, false, true, false, false]) rfl (fun K hK => ?_)
        replace hK := Lib.hid hK
        go_wp2_with fail
        refine (hAt V3 hL6 (hkd _ hk6)).mono ?_
        rintro e w2 ⟨rfl, hb2⟩
        go_wp2_with fail
        refine hK.out _ _ ⟨fun _ => hb2.mono (by omega), ?_⟩
        clear hK
        have hsz := hb2.size
        replace hL6 := hL6.below hb2
        replace hS6 := hS6.below hb2
        replace hk6 := hk6.trans (Kept.of_below hb2)
        replace kQ := kQ.below' hb2
        clear hAt
        cases hq : atM sec lat c.half c.reg next with
        | none =>
          have HN := Lib.hid (hR.symm.trans (scan_no hq))
          simp only [Option.getD_some, Option.isSome_some, Option.getD_none, Option.isSome_none, noR, Rec.val, Rec.arr]
          refine draw_chunk (n := 63) (by kernel_rfl) (fun _ _ _ _ _ h => h) [10, 11, 12] [] _ #[true, true, true, true, true, true, true, true, true, true, true, true, true, true, false, false] (by kernel_rfl) 2 _ ?_ _ rfl ?_ ?_
          rotate_left
          · intro w' hw'
            have hc' : ∀ b o, b < V.heap.size → w'.cell? ⟨b, o, none⟩ = w2.cell? ⟨b, o, none⟩ := fun b o h => hw'.cell (p := ⟨b, o, none⟩) h
            iterate 3
              refine ci_step (v := ?_) rfl (by kernel_rfl) ?_ ?_
              rotate_left
              · first | (go_simp; done) | (go_simp; with_reducible rfl)
              try simp only [Act.put, List.setIfInBounds_toArray, List.set_cons_zero, List.set_cons_succ]
            refine ci_end ?_
            rfl
          refine draw_eff (i := 14) rfl (by kernel_rfl) (listed' := #[true, true, true, true, true, true, true, true, true, true, true, true, true, true, true, false]) rfl (fun K hK => ?_)
          replace hK := Lib.hid hK
          have hlq := kQ.lt
          go_wp2_with (refine wpList_store_rec rfl (.tmp 2) (.tmp 34) rfl V.heap.size ⟨0, 0, 0, 0, 0, 0, false, 0, 0⟩ _ rfl rfl kQ rfl ?_)
          obtain ⟨kE, hkE⟩ := rec_stored ⟨0, 0, 0, 0, 0, 0, false, 0, 0⟩ kQ rfl
          refine hK.out _ _ ⟨fun _ => hkE.below (Below.refl _ _) (by omega) (by simp), ?_⟩
          clear hK kQ
          have kQ := kE
          simp only [Rec.arr] at kQ
          have hqn : V.heap.size ≠ L ∧ V.heap.size ≠ s ∧ V.heap.size ≠ g1 ∧ V.heap.size ≠ g2 := HQ.out
          replace hL6 : LogB _ L d s _ := hL6.kept hkE (by simp only [List.mem_singleton]; omega)
          replace hS6 := hS6.kept hkE (by simp only [List.mem_singleton]; omega) (by simp only [List.mem_singleton]; omega) (by simp only [List.mem_singleton]; omega)
          replace hk6 := hk6.trans' hkE HW.out
          generalize (w2.setCells V.heap.size 0 (Rec.cells ⟨0, 0, 0, 0, 0, 0, false, 0, 0⟩)) = W6 at *
          refine draw_chunk (n := 63) (by kernel_rfl) (fun _ _ _ _ _ h => h) [15] [] _ #[true, true, true, true, true, true, true, true, true, true, true, true, true, true, true, true] (by kernel_rfl) 0 _ ?_ _ rfl ?_ ?_
          rotate_left
          · intro w' hw'
            have hc' : ∀ b o, b < V.heap.size → w'.cell? ⟨b, o, none⟩ = W6.cell? ⟨b, o, none⟩ := fun b o h => hw'.cell (p := ⟨b, o, none⟩) h
            refine ci_step (i := 15) (v := ?_) rfl (by kernel_rfl) ?_ ?_
            rotate_left
            · first | (go_simp; done) | (go_simp; with_reducible rfl)
            skip
            try simp only [Act.put, List.setIfInBounds_toArray, List.set_cons_zero, List.set_cons_succ]
            refine ci_end ?_
            rfl
          refine draw_done (by kernel_rfl) ?_ _
          clear hlq hqn kE hkE hb2 hsz hqv
          generalize V.heap.size = q at *
          have hLb6 : Blk W6 L _ _ := hL6
          have b0 := hLb6.cell 0
          have b1 := hLb6.cell 1
          have b2 := hLb6.cell 2
          have b3 := hLb6.cell 3
          have b4 := hLb6.cell 4
          have b5 := hLb6.cell 5
          have b6 := hLb6.cell 6
          simp only [List.getElem?_toArray, List.getElem?_cons_zero, List.getElem?_cons_succ] at b0 b1 b2 b3 b4 b5 b6
          have b9 := hLb6.lt
          have r0 := kQ.cell 0
          have r1 := kQ.cell 1
          have r2 := kQ.cell 2
          have r3 := kQ.cell 3
          have r4 := kQ.cell 4
          have r5 := kQ.cell 5
          have r6 := kQ.cell 6
          have r7 := kQ.cell 7
          have r8 := kQ.cell 8
          simp only [List.getElem?_toArray, List.getElem?_cons_zero, List.getElem?_cons_succ] at r0 r1 r2 r3 r4 r5 r6 r7 r8
          have r9 := kQ.lt
          go_wp2
          try rw [Exit.noGoto_normal]
          refine bodyPost_end (results_none rfl _ _ _) rfl ⟨rfl, ?_, ?_, hk6⟩
          · rw [HN.out]; exact hL6
          · rw [HN.out]; exact hS6
        | some r =>
          obtain ⟨rk, rg, rl, ri, ra, rp, ro, rs, rm⟩ := r
          simp only [Option.getD_some, Option.isSome_some, Option.getD_none, Option.isSome_none, noR, Rec.val, Rec.arr]
          refine draw_chunk (n := 63) (by kernel_rfl) (fun _ _ _ _ _ h => h) [10, 11, 12] [] _ #[true, true, true, true, true, true, true, true, true, true, true, true, true, true, false, false] (by kernel_rfl) 2 _ ?_ _ rfl ?_ ?_
          rotate_left
          · intro w' hw'
            have hc' : ∀ b o, b < V.heap.size → w'.cell? ⟨b, o, none⟩ = w2.cell? ⟨b, o, none⟩ := fun b o h => hw'.cell (p := ⟨b, o, none⟩) h
            iterate 3
              refine ci_step (v := ?_) rfl (by kernel_rfl) ?_ ?_
              rotate_left
              · first | (go_simp; done) | (go_simp; with_reducible rfl)
              try simp only [Act.put, List.setIfInBounds_toArray, List.set_cons_zero, List.set_cons_succ]
            refine ci_end ?_
            rfl
          refine draw_eff (i := 14) rfl (by kernel_rfl) (listed' := #[true, true, true, true, true, true, true, true, true, true, true, true, true, true, true, false]) rfl (fun K hK => ?_)
          replace hK := Lib.hid hK
          have hlq := kQ.lt
          go_wp2_with (refine wpList_store_rec rfl (.tmp 2) (.tmp 34) rfl V.heap.size ⟨rk, rg, rl, ri, ra, rp, ro, rs, rm⟩ _ rfl rfl kQ rfl ?_)
          obtain ⟨kE, hkE⟩ := rec_stored ⟨rk, rg, rl, ri, ra, rp, ro, rs, rm⟩ kQ rfl
          refine hK.out _ _ ⟨fun _ => hkE.below (Below.refl _ _) (by omega) (by simp), ?_⟩
          clear hK kQ
          have kQ := kE
          simp only [Rec.arr] at kQ
          have hqn : V.heap.size ≠ L ∧ V.heap.size ≠ s ∧ V.heap.size ≠ g1 ∧ V.heap.size ≠ g2 := HQ.out
          replace hL6 : LogB _ L d s _ := hL6.kept hkE (by simp only [List.mem_singleton]; omega)
          replace hS6 := hS6.kept hkE (by simp only [List.mem_singleton]; omega) (by simp only [List.mem_singleton]; omega) (by simp only [List.mem_singleton]; omega)
          replace hk6 := hk6.trans' hkE HW.out
          generalize (w2.setCells V.heap.size 0 (Rec.cells ⟨rk, rg, rl, ri, ra, rp, ro, rs, rm⟩)) = W6 at *
          refine draw_chunk (n := 63) (by kernel_rfl) (fun _ _ _ _ _ h => h) [15] [] _ #[true, true, true, true, true, true, true, true, true, true, true, true, true, true, true, true] (by kernel_rfl) 0 _ ?_ _ rfl ?_ ?_
          rotate_left
          · intro w' hw'
            have hc' : ∀ b o, b < V.heap.size → w'.cell? ⟨b, o, none⟩ = W6.cell? ⟨b, o, none⟩ := fun b o h => hw'.cell (p := ⟨b, o, none⟩) h
            refine ci_step (i := 15) (v := ?_) rfl (by kernel_rfl) ?_ ?_
            rotate_left
            · first | (go_simp; done) | (go_simp; with_reducible rfl)
            skip
            try simp only [Act.put, List.setIfInBounds_toArray, List.set_cons_zero, List.set_cons_succ]
            refine ci_end ?_
            rfl
          refine draw_done (by kernel_rfl) ?_ _
          clear hlq hqn kE hkE hb2 hsz hqv
          generalize V.heap.size = q at *
          have hLb6 : Blk W6 L _ _ := hL6
          have b0 := hLb6.cell 0
          have b1 := hLb6.cell 1
          have b2 := hLb6.cell 2
          have b3 := hLb6.cell 3
          have b4 := hLb6.cell 4
          have b5 := hLb6.cell 5
          have b6 := hLb6.cell 6
          simp only [List.getElem?_toArray, List.getElem?_cons_zero, List.getElem?_cons_succ] at b0 b1 b2 b3 b4 b5 b6
          have b9 := hLb6.lt
          have r0 := kQ.cell 0
          have r1 := kQ.cell 1
          have r2 := kQ.cell 2
          have r3 := kQ.cell 3
          have r4 := kQ.cell 4
          have r5 := kQ.cell 5
          have r6 := kQ.cell 6
          have r7 := kQ.cell 7
          have r8 := kQ.cell 8
          simp only [List.getElem?_toArray, List.getElem?_cons_zero, List.getElem?_cons_succ] at r0 r1 r2 r3 r4 r5 r6 r7 r8
          have r9 := kQ.lt
          cases f1 : rk == 1 with
          | true =>
            have HN := Lib.hid (hR.symm.trans (scan_not hq (by simp only [scanB, f1]; rfl)))
            go_wp2
            try rw [Exit.noGoto_normal]
            refine bodyPost_end (results_none rfl _ _ _) rfl ⟨rfl, ?_, ?_, hk6⟩
            · rw [HN.out]; exact hL6
            · rw [HN.out]; exact hS6
          | false =>
            go_wp2_with fail
            cases f2 : rg != c.gen with
            | true =>
              have HN := Lib.hid (hR.symm.trans (scan_not hq (by have f2' : (rg == c.gen) = false := (by simpa [bne] using f2); simp only [scanB, f1, f2']; rfl)))
              go_quiet (fail)
              rename_i nq
              replace hL6 := hL6.drewN nq
              replace hS6 := hS6.drewN nq
              replace hk6 := hk6.drewN nq
              replace kQ := kQ.drewN nq
              clear b0 b1 b2 b3 b4 b5 b6 b9 r0 r1 r2 r3 r4 r5 r6 r7 r8 r9 hLb6
              generalize W6.drewN nq = W7 at *
              clear nq
              go_wp2_with fail
              have hLb6 : Blk W7 L _ _ := hL6
              have b0 := hLb6.cell 0
              have b1 := hLb6.cell 1
              have b2 := hLb6.cell 2
              have b3 := hLb6.cell 3
              have b4 := hLb6.cell 4
              have b5 := hLb6.cell 5
              have b6 := hLb6.cell 6
              simp only [List.getElem?_toArray, List.getElem?_cons_zero, List.getElem?_cons_succ] at b0 b1 b2 b3 b4 b5 b6
              have b9 := hLb6.lt
              have r0 := kQ.cell 0
              have r1 := kQ.cell 1
              have r2 := kQ.cell 2
              have r3 := kQ.cell 3
              have r4 := kQ.cell 4
              have r5 := kQ.cell 5
              have r6 := kQ.cell 6
              have r7 := kQ.cell 7
              have r8 := kQ.cell 8
              simp only [List.getElem?_toArray, List.getElem?_cons_zero, List.getElem?_cons_succ] at r0 r1 r2 r3 r4 r5 r6 r7 r8
              have r9 := kQ.lt
              go_wp2
              try rw [Exit.noGoto_normal]
              refine bodyPost_end (results_none rfl _ _ _) rfl ⟨rfl, ?_, ?_, hk6⟩
              · rw [HN.out]; exact hL6
              · rw [HN.out]; exact hS6
            | false =>
              go_quiet (fail)
              rename_i nq
              replace hL6 := hL6.drewN nq
              replace hS6 := hS6.drewN nq
              replace hk6 := hk6.drewN nq
              replace kQ := kQ.drewN nq
              clear b0 b1 b2 b3 b4 b5 b6 b9 r0 r1 r2 r3 r4 r5 r6 r7 r8 r9 hLb6
              generalize W6.drewN nq = W7 at *
              clear nq
              go_wp2_with fail
              have hLb6 : Blk W7 L _ _ := hL6
              have b0 := hLb6.cell 0
              have b1 := hLb6.cell 1
              have b2 := hLb6.cell 2
              have b3 := hLb6.cell 3
              have b4 := hLb6.cell 4
              have b5 := hLb6.cell 5
              have b6 := hLb6.cell 6
              simp only [List.getElem?_toArray, List.getElem?_cons_zero, List.getElem?_cons_succ] at b0 b1 b2 b3 b4 b5 b6
              have b9 := hLb6.lt
              have r0 := kQ.cell 0
              have r1 := kQ.cell 1
              have r2 := kQ.cell 2
              have r3 := kQ.cell 3
              have r4 := kQ.cell 4
              have r5 := kQ.cell 5
              have r6 := kQ.cell 6
              have r7 := kQ.cell 7
              have r8 := kQ.cell 8
              simp only [List.getElem?_toArray, List.getElem?_cons_zero, List.getElem?_cons_succ] at r0 r1 r2 r3 r4 r5 r6 r7 r8
              have r9 := kQ.lt
              have f3w : IntKind.u32.wrap next = next := by have := HNX.out; have := HH.out; rw [IntKind.wrap_u32]; omega
              cases f3 : rl != next with
              | true =>
                have HN := Lib.hid (hR.symm.trans (scan_not hq (by have f2' : (rg == c.gen) = true := (by simpa [bne] using f2); have f3' : (rl == next) = false := (by simpa [bne] using f3); simp only [scanB, f1, f2', f3']; rfl)))
                go_quiet (fail)
                rename_i nq
                replace hL6 := hL6.drewN nq
                replace hS6 := hS6.drewN nq
                replace hk6 := hk6.drewN nq
                replace kQ := kQ.drewN nq
                clear b0 b1 b2 b3 b4 b5 b6 b9 r0 r1 r2 r3 r4 r5 r6 r7 r8 r9 hLb6
                generalize W7.drewN nq = W8 at *
                clear nq
                go_wp2_with fail
                have hLb6 : Blk W8 L _ _ := hL6
                have b0 := hLb6.cell 0
                have b1 := hLb6.cell 1
                have b2 := hLb6.cell 2
                have b3 := hLb6.cell 3
                have b4 := hLb6.cell 4
                have b5 := hLb6.cell 5
                have b6 := hLb6.cell 6
                simp only [List.getElem?_toArray, List.getElem?_cons_zero, List.getElem?_cons_succ] at b0 b1 b2 b3 b4 b5 b6
                have b9 := hLb6.lt
                have r0 := kQ.cell 0
                have r1 := kQ.cell 1
                have r2 := kQ.cell 2
                have r3 := kQ.cell 3
                have r4 := kQ.cell 4
                have r5 := kQ.cell 5
                have r6 := kQ.cell 6
                have r7 := kQ.cell 7
                have r8 := kQ.cell 8
                simp only [List.getElem?_toArray, List.getElem?_cons_zero, List.getElem?_cons_succ] at r0 r1 r2 r3 r4 r5 r6 r7 r8
                have r9 := kQ.lt
                go_wp2
                try rw [Exit.noGoto_normal]
                refine bodyPost_end (results_none rfl _ _ _) rfl ⟨rfl, ?_, ?_, hk6⟩
                · rw [HN.out]; exact hL6
                · rw [HN.out]; exact hS6
              | false =>
                have HN := Lib.hid ((scan_yes hq (by have f2' : (rg == c.gen) = true := (by simpa [bne] using f2); have f3' : (rl == next) = true := (by simpa [bne] using f3); simp only [scanB, f1, f2', f3']; rfl)).symm.trans hR)
                go_quiet (fail)
                rename_i nq
                replace hL6 := hL6.drewN nq
                replace hS6 := hS6.drewN nq
                replace hk6 := hk6.drewN nq
                replace kQ := kQ.drewN nq
                clear b0 b1 b2 b3 b4 b5 b6 b9 r0 r1 r2 r3 r4 r5 r6 r7 r8 r9 hLb6
                generalize W7.drewN nq = W8 at *
                clear nq
                go_wp2_with fail
                have hLb6 : Blk W8 L _ _ := hL6
                have b0 := hLb6.cell 0
                have b1 := hLb6.cell 1
                have b2 := hLb6.cell 2
                have b3 := hLb6.cell 3
                have b4 := hLb6.cell 4
                have b5 := hLb6.cell 5
                have b6 := hLb6.cell 6
                simp only [List.getElem?_toArray, List.getElem?_cons_zero, List.getElem?_cons_succ] at b0 b1 b2 b3 b4 b5 b6
                have b9 := hLb6.lt
                have r0 := kQ.cell 0
                have r1 := kQ.cell 1
                have r2 := kQ.cell 2
                have r3 := kQ.cell 3
                have r4 := kQ.cell 4
                have r5 := kQ.cell 5
                have r6 := kQ.cell 6
                have r7 := kQ.cell 7
                have r8 := kQ.cell 8
                simp only [List.getElem?_toArray, List.getElem?_cons_zero, List.getElem?_cons_succ] at r0 r1 r2 r3 r4 r5 r6 r7 r8
                have r9 := kQ.lt
                clear hR hq f1 f2 f3 f3w
                have hAp := fun W h => state_Apply τ ⟨rk, rg, rl, ri, ra, rp, ro, rs, rm⟩ s g1 g2 W h
                simp only [Rec.val, Rec.arr] at hAp
                refine draw_start [5] Later (by kernel_rfl) ?_
                refine draw_chunk (n := 63) (by kernel_rfl) (fun _ _ _ _ _ h => h) [0, 1, 2, 3, 4] [] _ #[true, true, true, true, true, false] (by kernel_rfl) 1 _ ?_ _ rfl ?_ ?_
                rotate_left
                · intro w' hw'
                  have hc' : ∀ b o, b < W8.heap.size → w'.cell? ⟨b, o, none⟩ = W8.cell? ⟨b, o, none⟩ := (bcell hw').1
                  have hld := run_load_rec (r := ⟨rk, rg, rl, ri, ra, rp, ro, rs, rm⟩) (kQ.below' (undrew hw')); simp only [Rec.val, Rec.arr] at hld
                  iterate 4
                    refine ci_step (v := ?_) rfl (by kernel_rfl) ?_ ?_
                    rotate_left
                    · first | (go_simp; done) | (go_simp; with_reducible rfl)
                    try simp only [Act.put, List.setIfInBounds_toArray, List.set_cons_zero, List.set_cons_succ]
                  refine ci_step (i := 4) (v := ?_) rfl (by kernel_rfl) ?_ ?_
                  rotate_left
                  · refine (execLoad rfl rfl hld).trans ?_; with_reducible rfl
                  skip
                  try simp only [Act.put, List.setIfInBounds_toArray, List.set_cons_zero, List.set_cons_succ]
                  refine ci_end ?_
                  rfl
                refine draw_eff (i := 5) rfl (by kernel_rfl) (listed' := #[true, true, true, true, true, true]) rfl (fun K hK => ?_)
                replace hK := Lib.hid hK
                go_wp2_with fail
                refine (hAp W8.drew hS6.drew).mono ?_
                rintro e w9 ⟨rfl, hS9, hk9⟩
                go_wp2_with fail
                refine hK.out _ _ ⟨fun h => absurd (by decide) h, ?_⟩
                clear hK
                refine draw_done (by kernel_rfl) ?_ _
                have hL9 : LogB w9 L d s _ := hL6.drew.kept hk9 (sep_l HSEP.out)
                have hkk9 := (kept_drew hk6).trans (hk9.more (T := [L, s, g1, g2]) (fun x hx => List.mem_cons_of_mem _ hx))
                clear b0 b1 b2 b3 b4 b5 b6 b9 r0 r1 r2 r3 r4 r5 r6 r7 r8 r9 hLb6 hS6 hL6 hk6 kQ hk9
                have hLb6 : Blk w9 L _ _ := hL9
                have b0 := hLb6.cell 0
                have b1 := hLb6.cell 1
                have b2 := hLb6.cell 2
                have b3 := hLb6.cell 3
                have b4 := hLb6.cell 4
                have b5 := hLb6.cell 5
                have b6 := hLb6.cell 6
                simp only [List.getElem?_toArray, List.getElem?_cons_zero, List.getElem?_cons_succ] at b0 b1 b2 b3 b4 b5 b6
                have b9 := hLb6.lt
                have bf := hLb6.frozen 4
                have hw1 : IntKind.i64.wrap (next + 1) = next + 1 := by have := HNX.out; have := HH.out; rw [IntKind.wrap_i64]; omega
                go_wp2
                case roundEnd =>
                  have hLs := hLb6.set 4 (.int .i64 (next + 1))
                  simp only [List.setIfInBounds_toArray, List.set_cons_zero, List.set_cons_succ] at hLs
                  have hks := kept_set (Kept.refl [L] w9) ⟨L, 4, none⟩ (.int .i64 (next + 1)) (.inl (List.mem_singleton_self L))
                  have hc4 := hLs.cell 4
                  simp only [List.getElem?_toArray, List.getElem?_cons_zero, List.getElem?_cons_succ] at hc4
                  have hl7 := HSEP.out.l
                  simp only [List.mem_cons, List.not_mem_nil, or_false, not_or] at hl7
                  have hx := HNX.out
                  have hf := HF.out
                  have h1000 := HH.out
                  refine ⟨⟨f, next + 1, τ.apply ⟨rk, rg, rl, ri, ra, rp, ro, rs, rm⟩, ⟨by omega, by omega, by omega⟩, hLs, hS9.kept hks (by simp only [List.mem_singleton]; omega) (by simp only [List.mem_singleton]; omega) (by simp only [List.mem_singleton]; omega), hkk9.trans (hks.more (by simp)), HN.out⟩, ?_⟩
                  rw [hc4, HM.out]
                  simp only [Option.getD_some, intOf]
                  omega
    · have dlt : decide (next < c.half) = false := decide_eq_false hlt
      have h1000 := HH.out
      obtain rfl : f = 0 := by omega
      have HN := Lib.hid (show scanM sec lat c.half c.reg c.gen (c.half - 1).toNat 1 σ = (next, τ) from hR ▸ rfl)
      clear hlt h1000 hf hn1 hn2
      go_wp2_with fail
      go_quiet (fail)
      rename_i nq
      replace hL6 := hL6.drewN nq
      replace hS6 := hS6.drewN nq
      replace hk6 := hk6.drewN nq
      go_wp2
      try rw [Exit.noGoto_normal]
      refine bodyPost_end (results_none rfl _ _ _) rfl ⟨rfl, ?_, ?_, hk6⟩
      · rw [HN.out]; exact hL6
      · rw [HN.out]; exact hS6
end Go.Proofs.YtnfaeafplaeehaaGreat
end
section
set_option linter.unusedVariables false
set_option linter.unusedSimpArgs false
namespace Go.Proofs.YtnfaeafplaeehaaGreat
open Go.RowKit
/-! A journal opened. -/
def begRec (gen id : Int) : Rec := ⟨1, gen, 0, id, 0, 0, false, 0, 0⟩
/-- A journal as it is: what it has, what it says, and its disk. -/
structure WalM where
  c : LogC
  σ : St
  sec : List Sec
  lat : List (Int × Sec)
  fl : Int
structure DiskM where
  sec : List Sec
  lat : List (Int × Sec)
  fl : Int
def syncD (D : DiskM) : Int × DiskM := if (failsF D.fl).1 = true then (4, ⟨D.sec, D.lat, (failsF D.fl).2⟩) else (0, ⟨syncS D.sec D.lat, [], (failsF D.fl).2⟩)
def putD (D : DiskM) (half reg i : Int) (r : Rec) : Int × DiskM := (putE D.sec.length D.fl half reg i r, ⟨D.sec, putL' D.sec.length D.lat D.fl half reg i r, putF D.sec.length D.fl half reg i r⟩)
def openG (D : DiskM) (half : Int) : Int := IntKind.u32.wrap (newestM D.sec D.lat half D.sec.length + 1)
def openM' (D : DiskM) (id half : Int) : Int × Option (LogC × St) × DiskM :=
  match beginsM D.sec D.lat half id 0 0 2 with
  | (reg, gen, true) =>
    (0, some (⟨half, reg, gen, (scanM D.sec D.lat half reg gen (half - 1).toNat 1 ⟨id, 0, [], []⟩).1, false⟩, (scanM D.sec D.lat half reg gen (half - 1).toNat 1 ⟨id, 0, [], []⟩).2), D)
  | (reg, _, false) =>
    match putD D half 0 0 (begRec (openG D half) id) with
    | (e, D1) =>
      if e ≠ 0 then (e, none, D1)
      else match syncD D1 with
        | (e, D2) => if e ≠ 0 then (e, none, D2) else (0, some (⟨half, reg, openG D half, 1, false⟩, ⟨id, 0, [], []⟩), D2)
/-- What a journal that is opened comes to: the error, what it has and says, and the disk. -/
def openM (D : DiskM) (id : Int) : Int × Option (LogC × St) × DiskM :=
  if (D.sec.length : Int) / 2 < 2 ∨ id = 0 then (1, none, D) else openM' D id ((D.sec.length : Int) / 2)
theorem open_no {D : DiskM} {id half : Int} (hh : (D.sec.length : Int) / 2 = half) (h : half < 2 ∨ id = 0) : openM D id = (1, none, D) := by
  unfold openM; rw [hh, if_pos h]
theorem open_begun {D : DiskM} {id half reg gen : Int} (hh : (D.sec.length : Int) / 2 = half) (h : ¬(half < 2 ∨ id = 0)) (hb : beginsM D.sec D.lat half id 0 0 2 = (reg, gen, true)) :
    openM D id = (0, some (⟨half, reg, gen, (scanM D.sec D.lat half reg gen (half - 1).toNat 1 ⟨id, 0, [], []⟩).1, false⟩, (scanM D.sec D.lat half reg gen (half - 1).toNat 1 ⟨id, 0, [], []⟩).2), D) := by
  unfold openM openM'; rw [hh, if_neg h, hb]
theorem open_e1 {D D1 : DiskM} {id half reg gen e : Int} (hh : (D.sec.length : Int) / 2 = half) (h : ¬(half < 2 ∨ id = 0)) (hb : beginsM D.sec D.lat half id 0 0 2 = (reg, gen, false)) (hp : putD D half 0 0 (begRec (openG D half) id) = (e, D1)) (he : e ≠ 0) :
    openM D id = (e, none, D1) := by
  unfold openM openM'; rw [hh, if_neg h, hb]; simp only [hp]; rw [if_pos he]
theorem open_e2 {D D1 D2 : DiskM} {id half reg gen e : Int} (hh : (D.sec.length : Int) / 2 = half) (h : ¬(half < 2 ∨ id = 0)) (hb : beginsM D.sec D.lat half id 0 0 2 = (reg, gen, false)) (hp : putD D half 0 0 (begRec (openG D half) id) = (0, D1)) (hs : syncD D1 = (e, D2)) (he : e ≠ 0) :
    openM D id = (e, none, D2) := by
  unfold openM openM'; rw [hh, if_neg h, hb]; simp only [hp, hs, ne_eq, not_true_eq_false, if_false]; rw [if_pos he]
theorem open_ok {D D1 D2 : DiskM} {id half reg gen : Int} (hh : (D.sec.length : Int) / 2 = half) (h : ¬(half < 2 ∨ id = 0)) (hb : beginsM D.sec D.lat half id 0 0 2 = (reg, gen, false)) (hp : putD D half 0 0 (begRec (openG D half) id) = (0, D1)) (hs : syncD D1 = (0, D2)) :
    openM D id = (0, some (⟨half, reg, openG D half, 1, false⟩, ⟨id, 0, [], []⟩), D2) := by
  unfold openM openM'; rw [hh, if_neg h, hb]; simp only [hp, hs, ne_eq, not_true_eq_false, if_false]
def DiskD (W : World) (d g bs : Nat) (D : DiskM) : Prop := DiskAt W d g bs D.sec D.lat D.fl
/-- A journal in memory. -/
structure WalAt (W : World) (L d g bs s g1 g2 : Nat) (c : LogC) (σ : St) (D : DiskM) : Prop where
  log : LogB W L d s c
  disk : DiskD W d g bs D
  st : StAt 75 W s g1 g2 σ
  sep : WSep L d g bs s g1 g2
theorem Kept.freshs {S T : List Nat} {a b c : World} (h : Kept S a b) (k : Kept T b c) (hT : ∀ n ∈ T, n ∈ S ∨ a.heap.size ≤ n) : Kept S a c :=
  ⟨k.os.trans h.os, k.tape.trans h.tape, k.output.trans h.output, Nat.le_trans h.size k.size, fun i hi hS => (k.block i (Nat.lt_of_lt_of_le hi h.size) (fun hm => by rcases hT i hm with h | h; exact hS h; omega)).trans (h.block i hi hS)⟩
theorem wal_putD (reg i : Int) (r : Rec) (L d s g bs : Nat) (c : LogC) (D : DiskM) (w : World) (hL : LogB w L d s c) (hD : DiskD w d g bs D) (hf : D.fl ≤ 9223372036854775807) (hro : r.ok) (hh : 0 ≤ c.half ∧ c.half ≤ 1000) (hr : reg = 0 ∨ reg = 1) (hi : 0 ≤ i ∧ i ≤ 2000) :
    Calls Tryz.prog 25 #[.pointer (some ⟨L, 0, none⟩), .int .i64 reg, .int .i64 i, r.val] w fun e w' => e = .returned (.int .i64 (putD D c.half reg i r).1) ∧ DiskD w' d g bs (putD D c.half reg i r).2 ∧ Kept [d, g, bs] w w' :=
  (wal_put reg i r L d s g bs c D.sec D.lat D.fl w hL hD hf hro hh hr hi).mono fun e w' h => ⟨h.1, h.2.1, h.2.2.more (by simp)⟩
theorem disk_SyncD (d g bs : Nat) (D : DiskM) (w : World) (h : DiskD w d g bs D) (hf : D.fl ≤ 9223372036854775807) :
    Calls Tryz.prog 26 #[.pointer (some ⟨d, 0, none⟩)] w fun e w' => e = .returned (.int .i64 (syncD D).1) ∧ DiskD w' d g bs (syncD D).2 ∧ Kept [d, g, bs] w w' :=
  (disk_Sync d g bs D.sec D.lat D.fl w h hf).mono fun e w' h => by
    obtain ⟨h1, h2, h3⟩ := h
    unfold syncD
    cases hq : (failsF D.fl).1 with
    | true =>
      rw [hq] at h1 h2
      exact ⟨h1, h2, h3⟩
    | false =>
      rw [hq] at h1 h2
      exact ⟨h1, h2, h3⟩
theorem failsF_le (fl : Int) (h : fl ≤ 9223372036854775807) : (failsF fl).2 ≤ 9223372036854775807 := by
  unfold failsF
  split <;> simp only <;> omega
theorem putD_fl (D : DiskM) (half reg i : Int) (r : Rec) (h : D.fl ≤ 9223372036854775807) : (putD D half reg i r).2.fl ≤ 9223372036854775807 := by
  unfold putD putF
  simp only
  split
  · exact failsF_le _ h
  · exact h
theorem beginsM_reg (sec : List Sec) (lat : List (Int × Sec)) (half id reg gen : Int) (h : reg = 0 ∨ reg = 1) : ∀ k : Nat, k ≤ 2 → (beginsM sec lat half id reg gen k).1 = 0 ∨ (beginsM sec lat half id reg gen k).1 = 1
  | 0, _ => h
  | k + 1, hk => by
    rw [beginsM_succ]
    unfold beginP
    have := beginsM_reg sec lat half id reg gen h k (by omega)
    split
    · split
      · simp only; omega
      · exact this
    · exact this
def OpenPost (w : World) (d g bs : Nat) (D : DiskM) (id : Int) (e : Ending) (w' : World) : Prop :=
  Kept [d, g, bs] w w' ∧ DiskD w' d g bs (openM D id).2.2 ∧
  ((∃ L s g1 g2 c σ, (openM D id).2.1 = some (c, σ) ∧ e = .returned (.tuple #[.pointer (some ⟨L, 0, none⟩), .int .i64 (openM D id).1]) ∧ WalAt w' L d g bs s g1 g2 c σ (openM D id).2.2 ∧ w.heap.size ≤ L ∧ w.heap.size ≤ s ∧ w.heap.size ≤ g1 ∧ w.heap.size ≤ g2) ∨
    ((openM D id).2.1 = none ∧ e = .returned (.tuple #[.pointer none, .int .i64 (openM D id).1])))
set_option maxRecDepth 100000 in
set_option maxHeartbeats 4000000 in
theorem wal_Open (d g bs : Nat) (D : DiskM) (id : Int) (w : World) (hD : DiskD w d g bs D) (hB : SecB D.sec D.lat) (hid : 0 ≤ id ∧ id ≤ 4294967295) (hf : D.fl ≤ 9223372036854775807) :
    Calls Tryz.prog 6 #[.pointer (some ⟨d, 0, none⟩), .int .u32 id] w (OpenPost w d g bs D id) := by
  have hsz := hD.sz
  have hd9 := hD.d.lt
  have hg9 := hD.m.lt
  have hb9 := hD.s.lt
  have hh : 0 ≤ (D.sec.length : Int) / 2 ∧ (D.sec.length : Int) / 2 ≤ 1000 := by omega
  have hq : Int.tdiv (D.sec.length : Int) 2 = (D.sec.length : Int) / 2 := Int.tdiv_eq_ediv_of_nonneg (by omega)
  generalize hhalf : (D.sec.length : Int) / 2 = half at hq hh
  have hw64 : wrap64 half = half := by unfold wrap64; omega
  have HHALF := Lib.hid hhalf
  have HH := Lib.hid hh
  have HID := Lib.hid hid
  clear hhalf hh hid
  go_enter Tryz.func6, Tryz.ntmps6
  go_wp2_with fail
  refine (disk_Size d g bs D.sec D.lat D.fl w hD).mono ?_
  rintro e w1 ⟨rfl, rfl⟩
  go_wp2_with fail
  refine (state_New id w1).mono ?_
  rintro e w2 ⟨hb2, s, g1, g2, rfl, hS2, hs1, hs2, hs3⟩
  by_cases h2 : half < 2
  · have HNO := Lib.hid (open_no (D := D) (id := id) HHALF.out (.inl h2))
    have d2 : decide (half < 2) = true := decide_eq_true h2
    have hbA := hb2.trans ((Below.refl w2.heap.size w2).alloc (Nat.le_refl _) (.cells #[.pointer (some ⟨d, 0, none⟩), .int .i64 half, .int .i64 0, .int .u32 0, .int .i64 0, .bool false, .pointer (some ⟨s, 0, none⟩)] 63) |>.mono hb2.size)
    have hD2 : DiskD _ d g bs D := hD.below hbA
    have hk2 : Kept [d, g, bs] w1 _ := Kept.of_below hbA
    go_wp2
    refine bodyPost_ret (v := .tuple #[.pointer none, .int .i64 _]) (by simp [results, Tryz.results6, go_sem]; first | rfl | exact ⟨rfl, rfl⟩) rfl ?_
    unfold OpenPost
    rw [HNO.out]
    exact ⟨hk2, hD2, .inr ⟨rfl, rfl⟩⟩
  · by_cases hi0 : id = 0
    · have HNO := Lib.hid (open_no (D := D) HHALF.out (.inr hi0))
      have d2 : decide (half < 2) = false := decide_eq_false h2
      have d0 : (id == 0) = true := beq_iff_eq.2 hi0
      have hbA := hb2.trans ((Below.refl w2.heap.size w2).alloc (Nat.le_refl _) (.cells #[.pointer (some ⟨d, 0, none⟩), .int .i64 half, .int .i64 0, .int .u32 0, .int .i64 0, .bool false, .pointer (some ⟨s, 0, none⟩)] 63) |>.mono hb2.size)
      have hD2 : DiskD _ d g bs D := hD.below hbA
      have hk2 : Kept [d, g, bs] w1 _ := Kept.of_below hbA
      go_wp2
      refine bodyPost_ret (v := .tuple #[.pointer none, .int .i64 _]) (by simp [results, Tryz.results6, go_sem]; first | rfl | exact ⟨rfl, rfl⟩) rfl ?_
      unfold OpenPost
      rw [HNO.out]
      exact ⟨hk2, hD2, .inr ⟨rfl, rfl⟩⟩
    · have HNO := Lib.hid (show ¬(half < 2 ∨ id = 0) by omega)
      have d2 : decide (half < 2) = false := decide_eq_false h2
      have d0 : (id == 0) = false := beq_eq_false_iff_ne.2 hi0
      clear h2 hi0
      have kL : LogB (w2.alloc (.cells #[.pointer (some ⟨d, 0, none⟩), .int .i64 half, .int .i64 0, .int .u32 0, .int .i64 0, .bool false, .pointer (some ⟨s, 0, none⟩)] 63)) w2.heap.size d s ⟨half, 0, 0, 0, false⟩ := Blk.new w2 _ _
      have hbA := (Below.refl w2.heap.size w2).alloc (Nat.le_refl _) (.cells #[.pointer (some ⟨d, 0, none⟩), .int .i64 half, .int .i64 0, .int .u32 0, .int .i64 0, .bool false, .pointer (some ⟨s, 0, none⟩)] 63)
      have HSEP := Lib.hid (show WSep w2.heap.size d g bs s g1 g2 from by
        have u2 := hS2.1.lt
        have u3 := hS2.2.1.lt
        have u4 := hS2.2.2.1.lt
        have u1 := hb2.size
        constructor <;> (simp only [List.mem_cons, List.not_mem_nil, or_false, not_or]; omega))
      have HLs := Lib.hid (And.intro hb2.size (And.intro hs1 (And.intro hs2 hs3)))
      replace hS2 := hS2.below hbA
      have hD2 : DiskD _ d g bs D := (hD.below hb2).below hbA
      have hk2 : Kept [d, g, bs] w1 _ := (Kept.of_below hb2).trans (Kept.of_below hbA)
      clear hb2 hbA hs1 hs2 hs3
      go_wp2_with fail
      generalize w2.alloc (.cells #[.pointer (some ⟨d, 0, none⟩), .int .i64 half, .int .i64 0, .int .u32 0, .int .i64 0, .bool false, .pointer (some ⟨s, 0, none⟩)] 63) = W at *
      generalize w2.heap.size = L at *
      refine (wal_begins L d s g bs g1 g2 _ _ _ _ _ W kL hD2 hS2 HSEP.out.l hB HH.out).mono ?_
      rintro e w3 ⟨rfl, hL3, hk3⟩
      simp only at hL3
      have hD3 : DiskD w3 d g bs D := DiskAt.kept hD2 hk3 (by have := HSEP.out.d; simp at this ⊢; omega) (by have := HSEP.out.g; simp at this ⊢; omega) (by have := HSEP.out.b; simp at this ⊢; omega)
      have hS3 := hS2.kept hk3 (by have := HSEP.out.l; simp at this ⊢; omega) (by have := HSEP.out.l; simp at this ⊢; omega) (by have := HSEP.out.l; simp at this ⊢; omega)
      have hk4 : Kept [d, g, bs] w1 w3 := hk2.freshs hk3 (by intro n hn; simp at hn; subst hn; exact .inr (by have := HLs.out; omega))
      clear hk2 hk3 hD2 hS2 kL
      have hreg := beginsM_reg D.sec D.lat half id 0 0 (.inl rfl) 2 (Nat.le_refl _)
      simp only
      cases hbg : beginsM D.sec D.lat half id 0 0 2 with
      | mk reg q =>
      obtain ⟨gen, fd⟩ := q
      rw [hbg] at hL3 hreg
      simp only at hL3 hreg ⊢
      cases fd with
      | true =>
        have HB := Lib.hid hbg
        clear hbg
        go_wp2_with fail
        refine (wal_scan L d s g bs g1 g2 _ _ _ _ _ w3 hL3 hD3 hS3 HSEP.out hB HH.out hreg).mono ?_
        rintro e w4 ⟨rfl, hL4, hS4, hk5⟩
        simp only at hL4 hS4
        have hD4 : DiskD w4 d g bs D := DiskAt.kept hD3 hk5 HSEP.out.d HSEP.out.g HSEP.out.b
        have hk6 : Kept [d, g, bs] w1 w4 := hk4.freshs hk5 (by intro n hn; simp at hn; exact .inr (by have := HLs.out; rcases hn with rfl | rfl | rfl | rfl <;> omega))
        clear hreg
        go_wp2
        refine bodyPost_ret (v := .tuple #[.pointer (some ⟨L, 0, none⟩), .int .i64 _]) (by simp [results, Tryz.results6, go_sem]; first | rfl | exact ⟨rfl, rfl⟩) rfl ?_
        unfold OpenPost
        rw [open_begun HHALF.out HNO.out HB.out]
        exact ⟨hk6, hD4, .inl ⟨L, s, g1, g2, _, _, rfl, rfl, ⟨hL4, hD4, hS4, HSEP.out⟩, HLs.out⟩⟩
      | false =>
        have HB := Lib.hid hbg
        clear hbg
        go_wp2_with fail
        refine (wal_newest L d s g bs _ _ _ _ w3 hL3 hD3 hB HH.out).mono ?_
        rintro e w4 ⟨rfl, hb4⟩
        replace hL3 := hL3.below hb4
        replace hD3 : DiskD w4 d g bs D := hD3.below hb4
        replace hS3 := hS3.below hb4
        have hk5 := hk4.trans (Kept.of_below hb4)
        clear hb4 hk4
        have hG : IntKind.u32.wrap (newestM D.sec D.lat half D.sec.length + 1) = openG D half := rfl
        have hGr : 0 ≤ openG D half ∧ openG D half ≤ 4294967295 := by unfold openG; rw [IntKind.wrap_u32]; omega
        have hE1 := fun e D1 => open_e1 (D := D) (D1 := D1) (e := e) HHALF.out HNO.out HB.out
        have hE2 := fun e D1 D2 => open_e2 (D := D) (D1 := D1) (D2 := D2) (e := e) HHALF.out HNO.out HB.out
        have hOK := fun D1 D2 => open_ok (D := D) (D1 := D1) (D2 := D2) HHALF.out HNO.out HB.out
        generalize openG D half = G at *
        have hLb : Blk w4 L _ _ := hL3
        have l0 := hLb.cell 0
        have l1 := hLb.cell 1
        have l2 := hLb.cell 2
        have l3 := hLb.cell 3
        have l4 := hLb.cell 4
        have l5 := hLb.cell 5
        have l6 := hLb.cell 6
        simp only [List.getElem?_toArray, List.getElem?_cons_zero, List.getElem?_cons_succ] at l0 l1 l2 l3 l4 l5 l6
        have l9 := hLb.lt
        have f3 := hLb.frozen 3
        have f4 := hLb.frozen 4
        go_wp2_with fail
        have kL := (hLb.set 3 (.int .u32 G)).set 4 (.int .i64 1)
        simp only [List.setIfInBounds_toArray, List.set_cons_zero, List.set_cons_succ] at kL
        have hks := kept_set (kept_set (Kept.refl [L] w4) ⟨L, 3, none⟩ (.int .u32 G) (.inl (List.mem_singleton_self L))) ⟨L, 4, none⟩ (.int .i64 1) (.inl (List.mem_singleton_self L))
        have hD5 : DiskD _ d g bs D := DiskAt.kept hD3 hks (by have := HSEP.out.d; simp at this ⊢; omega) (by have := HSEP.out.g; simp at this ⊢; omega) (by have := HSEP.out.b; simp at this ⊢; omega)
        have hS5 := hS3.kept hks (by have := HSEP.out.l; simp at this ⊢; omega) (by have := HSEP.out.l; simp at this ⊢; omega) (by have := HSEP.out.l; simp at this ⊢; omega)
        have hk6 : Kept [d, g, bs] w1 _ := hk5.freshs hks (by intro n hn; simp at hn; subst hn; exact .inr (by have := HLs.out; omega))
        clear hLb hks hk5 hS3 hD3 hL3 l0 l1 l2 l3 l4 l5 l6 l9 f3 f4
        generalize (w4.setCell ⟨L, 3, none⟩ (.int .u32 G)).setCell ⟨L, 4, none⟩ (.int .i64 1) = W5 at *
        have hL5 : LogB W5 L d s ⟨half, reg, G, 1, false⟩ := kL
        clear kL
        have hP := wal_putD 0 0 (begRec G id) L d s g bs _ D W5 hL5 hD5 hf (by have := HID.out; unfold Rec.ok begRec; simp only; omega) HH.out (.inl rfl) ⟨by omega, by omega⟩
        have hfp := putD_fl D half 0 0 (begRec G id) hf
        simp only at hP
        cases hp : putD D half 0 0 (begRec G id) with
        | mk e1 D1 =>
        rw [hp] at hP hfp
        simp only [begRec, Rec.val, Rec.arr] at hP
        refine hP.mono ?_
        rintro e w6 ⟨rfl, hD6, hk7⟩
        replace hL5 : LogB w6 L d s _ := hL5.kept hk7 (by have := HSEP.out.l; simp at this ⊢; omega)
        replace hS5 := hS5.kept hk7 (by have := HSEP.out.d; have := HSEP.out.g; have := HSEP.out.b; simp at *; omega) (by have := HSEP.out.d; have := HSEP.out.g; have := HSEP.out.b; simp at *; omega) (by have := HSEP.out.d; have := HSEP.out.g; have := HSEP.out.b; simp at *; omega)
        have hk8 := hk6.trans hk7
        clear hk6 hk7 hP
        by_cases he : e1 = 0
        · subst he
          go_wp2_with fail
          refine (disk_SyncD d g bs D1 w6 hD6 hfp).mono ?_
          rintro e w7 ⟨rfl, hD7, hk9⟩
          replace hL5 : LogB w7 L d s _ := hL5.kept hk9 (by have := HSEP.out.l; simp at this ⊢; omega)
          replace hS5 := hS5.kept hk9 (by have := HSEP.out.d; have := HSEP.out.g; have := HSEP.out.b; simp at *; omega) (by have := HSEP.out.d; have := HSEP.out.g; have := HSEP.out.b; simp at *; omega) (by have := HSEP.out.d; have := HSEP.out.g; have := HSEP.out.b; simp at *; omega)
          replace hk8 := hk8.trans hk9
          cases hs : syncD D1 with
          | mk e2 D2 =>
          rw [hs] at hD7
          simp only at hD7 ⊢
          by_cases he2 : e2 = 0
          · subst he2
            have HQ := Lib.hid (hOK D1 D2 hp hs)
            clear hp hs hE1 hE2 hOK
            go_wp2
            refine bodyPost_ret (v := .tuple #[.pointer (some ⟨L, 0, none⟩), .int .i64 _]) (by simp [results, Tryz.results6, go_sem]; first | rfl | exact ⟨rfl, rfl⟩) rfl ?_
            unfold OpenPost
            rw [HQ.out]
            exact ⟨hk8, hD7, .inl ⟨L, s, g1, g2, _, _, rfl, rfl, ⟨hL5, hD7, hS5, HSEP.out⟩, HLs.out⟩⟩
          · have HQ := Lib.hid (hE2 e2 D1 D2 hp hs he2)
            have d9 : (e2 != 0) = true := by simpa using he2
            clear hp hs hE1 hE2 hOK he2
            go_wp2
            refine bodyPost_ret (v := .tuple #[.pointer none, .int .i64 _]) (by simp [results, Tryz.results6, go_sem]; first | rfl | exact ⟨rfl, rfl⟩) rfl ?_
            unfold OpenPost
            rw [HQ.out]
            exact ⟨hk8, hD7, .inr ⟨rfl, rfl⟩⟩
        · have HQ := Lib.hid (hE1 e1 D1 hp he)
          have d9 : (e1 != 0) = true := by simpa using he
          clear hp hE1 hE2 hOK he
          go_wp2
          refine bodyPost_ret (v := .tuple #[.pointer none, .int .i64 _]) (by simp [results, Tryz.results6, go_sem]; first | rfl | exact ⟨rfl, rfl⟩) rfl ?_
          unfold OpenPost
          rw [HQ.out]
          exact ⟨hk8, hD6, .inr ⟨rfl, rfl⟩⟩
end Go.Proofs.YtnfaeafplaeehaaGreat
end
section
set_option linter.unusedVariables false
set_option linter.unusedSimpArgs false
namespace Go.Proofs.YtnfaeafplaeehaaGreat
open Go.RowKit
/-! Records laid into the other region. -/
def layN (half o gen : Int) : List Rec → Nat → DiskM → Int × DiskM
  | [], _, D => (0, D)
  | r :: l, i, D => if (putD D half o ((i : Int) + 1) { r with gen := gen }).1 ≠ 0 then putD D half o ((i : Int) + 1) { r with gen := gen } else layN half o gen l (i + 1) (putD D half o ((i : Int) + 1) { r with gen := gen }).2
def layM (c : LogC) (l : List Rec) (D : DiskM) : Int × Bool × DiskM :=
  if c.laid = true then (0, true, D)
  else if (layN c.half (1 - c.reg) (IntKind.u32.wrap (c.gen + 1)) l 0 D).1 ≠ 0 then ((layN c.half (1 - c.reg) (IntKind.u32.wrap (c.gen + 1)) l 0 D).1, false, (layN c.half (1 - c.reg) (IntKind.u32.wrap (c.gen + 1)) l 0 D).2)
  else ((syncD (layN c.half (1 - c.reg) (IntKind.u32.wrap (c.gen + 1)) l 0 D).2).1, (syncD (layN c.half (1 - c.reg) (IntKind.u32.wrap (c.gen + 1)) l 0 D).2).1 == 0, (syncD (layN c.half (1 - c.reg) (IntKind.u32.wrap (c.gen + 1)) l 0 D).2).2)
theorem layN_fl (half o gen : Int) : ∀ (l : List Rec) (i : Nat) (D : DiskM), D.fl ≤ 9223372036854775807 → (layN half o gen l i D).2.fl ≤ 9223372036854775807
  | [], _, D, h => h
  | r :: l, i, D, h => by
    unfold layN
    have h2 := putD_fl D half o ((i : Int) + 1) { r with gen := gen } h
    split
    · exact h2
    · exact layN_fl half o gen l (i + 1) _ h2
theorem layN_err {half o gen e : Int} {r : Rec} {l : List Rec} {i : Nat} {D D1 : DiskM} (hp : putD D half o ((i : Int) + 1) { r with gen := gen } = (e, D1)) (he : e ≠ 0) : layN half o gen (r :: l) i D = (e, D1) := by
  rw [layN, hp]; simp only [ne_eq, he, not_false_eq_true, if_true]
theorem layN_go {half o gen : Int} {r : Rec} {l : List Rec} {i : Nat} {D D1 : DiskM} (hp : putD D half o ((i : Int) + 1) { r with gen := gen } = (0, D1)) : layN half o gen (r :: l) i D = layN half o gen l (i + 1) D1 := by
  rw [layN, hp]; simp only [ne_eq, not_true_eq_false, if_false]
theorem idx_bound (k n : Nat) (h : k < n) (hn : n ≤ 1000) : 0 ≤ (k : Int) + 1 ∧ (k : Int) + 1 ≤ 2000 := by omega
theorem idx_wrap (k n : Nat) (h : k < n) (hn : n ≤ 1000) : IntKind.i64.wrap ((k : Int) + 1) = (k : Int) + 1 ∧ wrap64 ((k : Int) + 1) = (k : Int) + 1 := by
  refine ⟨?_, ?_⟩
  · rw [IntKind.wrap_i64]; omega
  · unfold wrap64; omega
set_option maxRecDepth 100000 in
set_option maxHeartbeats 4000000 in
theorem wal_lay (L d s g bs : Nat) (c : LogC) (D : DiskM) (l : List Rec) (A : Option Addr) (cap : Nat) (w : World) (hL : LogB w L d s c) (hD : DiskD w d g bs D) (hLn : L ∉ [d, g, bs]) (hf : D.fl ≤ 9223372036854775807) (hh : 0 ≤ c.half ∧ c.half ≤ 1000) (hr : c.reg = 0 ∨ c.reg = 1)
    (hrow : Row w 9 A l.length (recs l)) (hro : RecsOk l) (hlen : l.length ≤ 1000) (hA : 0 < l.length → ∀ b off, A = some ⟨b, off, none⟩ → b ∉ [d, g, bs]) :
    Calls Tryz.prog 57 #[.pointer (some ⟨L, 0, none⟩), .slice A l.length cap] w fun e w' => e = .returned (.int .i64 (layM c l D).1) ∧ LogB w' L d s { c with laid := (layM c l D).2.1 } ∧ DiskD w' d g bs (layM c l D).2.2 ∧ Kept [L, d, g, bs] w w' := by
  have HH := Lib.hid hh
  have HR := Lib.hid hr
  have HLN := Lib.hid hLn
  clear hh hr hLn
  obtain ⟨half, reg, gen, next, laid⟩ := c
  simp only at HH HR ⊢
  have hLb : Blk w L _ _ := hL
  have l0 := hLb.cell 0
  have l1 := hLb.cell 1
  have l2 := hLb.cell 2
  have l3 := hLb.cell 3
  have l4 := hLb.cell 4
  have l5 := hLb.cell 5
  have l6 := hLb.cell 6
  simp only [List.getElem?_toArray, List.getElem?_cons_zero, List.getElem?_cons_succ] at l0 l1 l2 l3 l4 l5 l6
  have l9 := hLb.lt
  cases laid with
  | true =>
    have HN := Lib.hid (show layM ⟨half, reg, gen, next, true⟩ l D = (0, true, D) by simp [layM])
    go_enter Tryz.func57, Tryz.ntmps57
    go_wp2
    go_ret
    rw [HN.out]
    exact ⟨rfl, hL, hD, Kept.refl _ _⟩
  | false =>
    obtain ⟨o, ho⟩ : ∃ o, 1 - reg = o := ⟨_, rfl⟩
    have HN := Lib.hid (show layM ⟨half, reg, gen, next, false⟩ l D = if (layN half o (IntKind.u32.wrap (gen + 1)) l 0 D).1 ≠ 0 then ((layN half o (IntKind.u32.wrap (gen + 1)) l 0 D).1, false, (layN half o (IntKind.u32.wrap (gen + 1)) l 0 D).2)
      else ((syncD (layN half o (IntKind.u32.wrap (gen + 1)) l 0 D).2).1, (syncD (layN half o (IntKind.u32.wrap (gen + 1)) l 0 D).2).1 == 0, (syncD (layN half o (IntKind.u32.wrap (gen + 1)) l 0 D).2).2) by subst ho; simp [layM])
    generalize layM ⟨half, reg, gen, next, false⟩ l D = R at *
    have hgr : 0 ≤ IntKind.u32.wrap (gen + 1) ∧ IntKind.u32.wrap (gen + 1) ≤ 4294967295 := by rw [IntKind.wrap_u32]; omega
    generalize hgg : IntKind.u32.wrap (gen + 1) = gg at *
    have hoo : o = 0 ∨ o = 1 := by have := HR.out; omega
    have hw1 : IntKind.i64.wrap (1 - reg) = o := by rw [IntKind.wrap_i64]; omega
    have hw2 : wrap64 (1 - reg) = o := by unfold wrap64; omega
    have HO := Lib.hid hoo
    have HG := Lib.hid hgr
    have HW1 := Lib.hid hw1
    have HW2 := Lib.hid hw2
    have HGG := Lib.hid hgg
    clear hoo hgr ho hw1 hw2 hgg
    clear l0 l1 l2 l3 l4 l6
    go_enter Tryz.func57, Tryz.ntmps57
    go_wp2_with fail
    go_loopw [15] (fun i wr => ∃ (k : Nat) (E : DiskM), k ≤ l.length ∧ i = .int .i64 k ∧ LogB wr L d s ⟨half, reg, gen, next, false⟩ ∧ DiskD wr d g bs E ∧ E.fl ≤ 9223372036854775807 ∧ Kept [d, g, bs] w wr ∧ layN half o gg (l.drop k) k E = layN half o gg l 0 D) (fun i _ => l.length - (intOf i).toNat)
    case atStart => exact ⟨0, D, Nat.zero_le _, rfl, hL, hD, hf, Kept.refl _ _, rfl⟩
    case round =>
      obtain ⟨k, E, hk, rfl, hLr, hDr, hfr, hkr, hN⟩ := hrel
      clear l5 l9 hLb
      by_cases hlt : k < l.length
      · have HKI := Lib.hid (idx_bound k l.length hlt hlen)
        have HK12 := Lib.hid (idx_wrap k l.length hlt hlen)
        obtain ⟨b, off, rfl, hbl, hcell⟩ := (hkr.row0 hrow hA).2.2 (by omega)
        have e0 := hcell (k * 9 + 0) _ (recs_get l k 0 hlt (by omega))
        have e1 := hcell (k * 9 + 1) _ (recs_get l k 1 hlt (by omega))
        have e2 := hcell (k * 9 + 2) _ (recs_get l k 2 hlt (by omega))
        have e3 := hcell (k * 9 + 3) _ (recs_get l k 3 hlt (by omega))
        have e4 := hcell (k * 9 + 4) _ (recs_get l k 4 hlt (by omega))
        have e5 := hcell (k * 9 + 5) _ (recs_get l k 5 hlt (by omega))
        have e6 := hcell (k * 9 + 6) _ (recs_get l k 6 hlt (by omega))
        have e7 := hcell (k * 9 + 7) _ (recs_get l k 7 hlt (by omega))
        have e8 := hcell (k * 9 + 8) _ (recs_get l k 8 hlt (by omega))
        have HT := Lib.hid (show l.drop k = l[k] :: l.drop (k + 1) from List.drop_eq_getElem_cons hlt)
        have hrk : (l[k]).ok := hro _ (List.getElem_mem hlt)
        rw [HT.out] at hN
        generalize l[k] = r at *
        obtain ⟨rk, rg, rl, ri, ra, rp, ro, rs, rm⟩ := r
        simp only [Rec.cells, List.getElem?_cons_zero, List.getElem?_cons_succ, ← Nat.add_assoc, Nat.add_zero] at e0 e1 e2 e3 e4 e5 e6 e7 e8
        have hLb : Blk wr L _ _ := hLr
        have l0 := hLb.cell 0
        have l1 := hLb.cell 1
        have l2 := hLb.cell 2
        have l3 := hLb.cell 3
        have l4 := hLb.cell 4
        have l5 := hLb.cell 5
        have l6 := hLb.cell 6
        simp only [List.getElem?_toArray, List.getElem?_cons_zero, List.getElem?_cons_succ] at l0 l1 l2 l3 l4 l5 l6
        have l9 := hLb.lt
        clear hcell
        have hgg := HGG.out
        go_wp2_with fail
        clear hgg
        have kQ := Blk.new wr 41 #[.int .i64 rk, .int .u32 gg, .int .u32 rl, .int .u32 ri, .int .u32 ra, .int .i64 rp, .bool ro, .int .u32 rs, .int .u16 rm]
        have hbA := (Below.refl wr.heap.size wr).alloc (Nat.le_refl _) (.cells #[.int .i64 rk, .int .u32 gg, .int .u32 rl, .int .u32 ri, .int .u32 ra, .int .i64 rp, .bool ro, .int .u32 rs, .int .u16 rm] 41)
        replace hLr := hLr.below hbA
        replace hDr : DiskD _ d g bs E := hDr.below hbA
        replace hkr : Kept [d, g, bs] w _ := hkr.trans (Kept.of_below hbA)
        clear hbA hbl e0 e1 e2 e3 e4 e5 e6 e7 e8 l0 l1 l2 l3 l4 l5 l6 l9 hLb
        generalize wr.alloc (.cells #[.int .i64 rk, .int .u32 gg, .int .u32 rl, .int .u32 ri, .int .u32 ra, .int .i64 rp, .bool ro, .int .u32 rs, .int .u16 rm] 41) = W at *
        generalize wr.heap.size = q at *
        have hLb : Blk W L _ _ := hLr
        have l0 := hLb.cell 0
        have l1 := hLb.cell 1
        have l2 := hLb.cell 2
        have l3 := hLb.cell 3
        have l4 := hLb.cell 4
        have l5 := hLb.cell 5
        have l6 := hLb.cell 6
        simp only [List.getElem?_toArray, List.getElem?_cons_zero, List.getElem?_cons_succ] at l0 l1 l2 l3 l4 l5 l6
        have l9 := hLb.lt
        have q9 := kQ.lt
        have hP := wal_putD o ((k : Int) + 1) ⟨rk, gg, rl, ri, ra, rp, ro, rs, rm⟩ L d s g bs _ E W.drew (Blk.drew hLr) (DiskAt.below hDr (Below.drew (Below.refl _ _))) hfr (by have h1 := HG.out; exact ⟨hrk.1, h1, hrk.2.2⟩) HH.out HO.out HKI.out
        have hfp := putD_fl E half o ((k : Int) + 1) ⟨rk, gg, rl, ri, ra, rp, ro, rs, rm⟩ hfr
        have hE := fun e E1 => layN_err (half := half) (o := o) (gen := gg) (e := e) (r := ⟨rk, rg, rl, ri, ra, rp, ro, rs, rm⟩) (l := l.drop (k + 1)) (i := k) (D := E) (D1 := E1)
        have hG := fun E1 => layN_go (half := half) (o := o) (gen := gg) (r := ⟨rk, rg, rl, ri, ra, rp, ro, rs, rm⟩) (l := l.drop (k + 1)) (i := k) (D := E) (D1 := E1)
        simp only [Rec.val, Rec.arr] at hP hE hG
        cases hp : putD E half o ((k : Int) + 1) ⟨rk, gg, rl, ri, ra, rp, ro, rs, rm⟩ with
        | mk e1 E1 =>
        rw [hp] at hP hfp
        simp only at hP
        clear hrk HT
        have hw1 := HW1.out
        have hw2 := HW2.out
        have hk1 := HK12.out.1
        have hk2 := HK12.out.2
        refine draw_start [9] Later (by kernel_rfl) ?_
        refine draw_chunk (n := 51) (by kernel_rfl) (fun _ _ _ _ _ h => h) [0, 1, 2, 3, 4, 5, 6, 7, 8] [] _ #[true, true, true, true, true, true, true, true, true, false, false] (by kernel_rfl) 2 _ ?_ _ rfl ?_ ?_
        rotate_left
        · intro w' hw'
          have hc' : ∀ b o, b < W.heap.size → w'.cell? ⟨b, o, none⟩ = W.cell? ⟨b, o, none⟩ := (bcell hw').1
          have hld := run_load_rec (r := ⟨rk, gg, rl, ri, ra, rp, ro, rs, rm⟩) (kQ.below' (undrew hw')); simp only [Rec.val, Rec.arr] at hld
          iterate 8
            refine ci_step (v := ?_) rfl (by kernel_rfl) ?_ ?_
            rotate_left
            · first | (go_simp; done) | (go_simp; with_reducible rfl)
            try simp only [Act.put, List.setIfInBounds_toArray, List.set_cons_zero, List.set_cons_succ]
          refine ci_step (i := 8) (v := ?_) rfl (by kernel_rfl) ?_ ?_
          rotate_left
          · refine (execLoad rfl rfl hld).trans ?_; with_reducible rfl
          skip
          try simp only [Act.put, List.setIfInBounds_toArray, List.set_cons_zero, List.set_cons_succ]
          refine ci_end ?_
          rfl
        refine draw_eff (i := 9) rfl (by kernel_rfl) (listed' := #[true, true, true, true, true, true, true, true, true, true, false]) rfl (fun K hK => ?_)
        replace hK := Lib.hid hK
        go_wp2_with fail
        refine hP.mono ?_
        rintro e w6 ⟨rfl, hD6, hk7⟩
        go_wp2_with fail
        refine hK.out _ _ ⟨fun h => absurd (by decide) h, ?_⟩
        clear hK hw1 hw2 hk1 hk2 l0 l1 l2 l3 l4 l5 l6 l9 q9 hP
        refine draw_chunk (n := 51) (by kernel_rfl) (fun _ _ _ _ _ h => h) [10] [] _ #[true, true, true, true, true, true, true, true, true, true, true] (by kernel_rfl) 0 _ ?_ _ rfl ?_ ?_
        rotate_left
        · intro w' hw'
          have hc' : ∀ b o, b < w6.heap.size → w'.cell? ⟨b, o, none⟩ = w6.cell? ⟨b, o, none⟩ := (bcell hw').1
          refine ci_step (i := 10) (v := ?_) rfl (by kernel_rfl) ?_ ?_
          rotate_left
          · first | (go_simp; done) | (go_simp; with_reducible rfl)
          skip
          try simp only [Act.put, List.setIfInBounds_toArray, List.set_cons_zero, List.set_cons_succ]
          refine ci_end ?_
          rfl
        refine draw_done (by kernel_rfl) ?_ _
        replace hLr := LogB.kept (LogB.drew hLr) hk7 HLN.out
        replace hkr := (kept_drew hkr).trans hk7
        by_cases he : e1 = 0
        · subst he
          have HG2 := Lib.hid ((hG E1 hp).symm.trans hN)
          clear hG hE hN hp hLb hk7 hDr
          go_wp2
          case roundEnd => exact ⟨⟨k + 1, E1, hlt, rfl, hLr, hD6, hfp, hkr, HG2.out⟩, by simp only [intOf]; omega⟩
        · have hE2 := (hE e1 E1 hp he).symm.trans hN
          have HN2 := Lib.hid (show R = (e1, false, E1) by rw [HN.out, ← hE2]; simp only [ne_eq, he, not_false_eq_true, if_true])
          have d9 : (e1 != 0) = true := by simpa using he
          clear hG hE hN hp hLb hk7 hDr hE2 he
          go_wp2
          go_ret
          rw [HN2.out]
          exact ⟨rfl, hLr, hD6, hkr.more (by simp)⟩
      · obtain rfl : k = l.length := by omega
        rw [List.drop_length, layN] at hN
        have HN2 := Lib.hid (show R = ((syncD E).1, (syncD E).1 == 0, (syncD E).2) by rw [HN.out, ← hN]; simp only [ne_eq, not_true_eq_false, if_false])
        have hLb : Blk wr L _ _ := hLr
        have l0 := hLb.cell 0
        have l1 := hLb.cell 1
        have l2 := hLb.cell 2
        have l3 := hLb.cell 3
        have l4 := hLb.cell 4
        have l5 := hLb.cell 5
        have l6 := hLb.cell 6
        simp only [List.getElem?_toArray, List.getElem?_cons_zero, List.getElem?_cons_succ] at l0 l1 l2 l3 l4 l5 l6
        have l9 := hLb.lt
        clear hN
        go_wp2_with fail
        refine (disk_SyncD d g bs E wr hDr hfr).mono ?_
        rintro e w7 ⟨rfl, hD7, hk9⟩
        replace hLr := hLr.kept hk9 HLN.out
        replace hkr := hkr.trans hk9
        generalize (syncD E) = q at *
        obtain ⟨e2, E2⟩ := q
        simp only at hD7 HN2 ⊢
        clear l0 l1 l2 l3 l4 l5 l6 l9 hLb hk9 hDr
        have hLb : Blk w7 L _ _ := hLr
        have l0 := hLb.cell 0
        have l1 := hLb.cell 1
        have l2 := hLb.cell 2
        have l3 := hLb.cell 3
        have l4 := hLb.cell 4
        have l5 := hLb.cell 5
        have l6 := hLb.cell 6
        simp only [List.getElem?_toArray, List.getElem?_cons_zero, List.getElem?_cons_succ] at l0 l1 l2 l3 l4 l5 l6
        have l9 := hLb.lt
        have f5 := hLb.frozen 5
        have kL := hLb.set 5 (.bool (e2 == 0))
        simp only [List.setIfInBounds_toArray, List.set_cons_zero, List.set_cons_succ] at kL
        have hks := kept_set (Kept.refl [L] w7) ⟨L, 5, none⟩ (.bool (e2 == 0)) (.inl (List.mem_singleton_self L))
        go_wp2
        go_ret
        rw [HN2.out]
        exact ⟨rfl, kL, DiskAt.kept hD7 hks (by have := HLN.out; simp at this ⊢; omega) (by have := HLN.out; simp at this ⊢; omega) (by have := HLN.out; simp at this ⊢; omega), (hkr.more (by simp)).trans (hks.more (by simp))⟩
end Go.Proofs.YtnfaeafplaeehaaGreat
end
