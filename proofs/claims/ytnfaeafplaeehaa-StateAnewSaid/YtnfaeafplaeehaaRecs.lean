import Derived.Test.YtnfaeafplaeehaaIter
import Derived.Test.YtnfaeafplaeehaaAnewP
import Derived.RangeFuncNested
set_option linter.unusedVariables false
set_option linter.unusedSimpArgs false
namespace Go.Proofs.Ytnfaeafplaeehaa
open Go.RowKit Go.Sort Go.Lib Go.Shelf
theorem KeepsS.putObj (W : World) (l : Nat) (o o' : Obj) (hl : W.heap[l]? = some o) (hc : o.isCells = false) (hw : o.isWalk = false) : KeepsS W (W.putObj l o') :=
  ⟨by simp, fun k o2 hk ho => by
    by_cases e : k = l
    · subst e
      rw [hl] at hk
      cases hk
      cases o <;> simp [staysO, Obj.isCells, Obj.isWalk] at *
    · exact (World.putObj_heap_other e).trans hk⟩
theorem KeepsS.of_grownBy {W W' : World} {row : Option Nat} (hg : W.grownBy W' row) (hrow : ∀ (j : Nat) (o : Obj), row = some j → W.heap[j]? = some o → staysO o = false) : KeepsS W W' :=
  ⟨hg.size, fun k o hk ho => by
    refine (hg.block k (lt_of_heap hk) ?_).trans hk
    intro e
    rw [hrow k o e.symm hk] at ho
    cases ho⟩
theorem below_ownFrom {β : Type} {n0 B : Nat} (w : World) (hB : n0 ≤ B) : OwnFrom B (fun (_ : β) W => Below n0 w W ∧ n0 ≤ W.heap.size) := fun s X Y row hs hg hr =>
  ⟨hs.1.grown hg hs.2 (fun k e => Nat.le_trans hB (hr k e).1), Nat.le_trans hs.2 hg.size⟩
theorem recs_info : (Try.prog.info? 39).map (fun i => (i.zero, i.size, i.bytes)) = some (some (.agg #[.int .i64 0, .int .u32 0, .int .u32 0, .int .u32 0, .int .u32 0, .int .i64 0, .bool false, .int .u32 0, .int .u16 0]), 9, 56) := by kernel_rfl
/-- What the box of the records holds. -/
def RecBox (B n0 : Nat) (R : List Rec) (W : World) : Prop := ∃ v, Boxed W B 22 v ∧ W.ownsRow n0 39 9 v R.length (recs R) ∧ (v = .slice none 0 0 ↔ R = [])
theorem recBox_own {β : Type} (B n0 : Nat) (f : β → List Rec) : Own (fun s W => RecBox B n0 (f s) W) := holdsRow_own n0 B 22 39 9 (fun s => (f s).length) (fun s => recs (f s)) (fun s v => v = .slice none 0 0 ↔ f s = [])
theorem wpIn_calm {n : Nat} {P : Program} {c : Code} {K : Act → World → Prop} {Q' : Exit → Act → World → Prop} {a : Act} {w : World} (h : c.wpIn Fence.wide n P (Exit.then K (fun _ _ _ => False)) a w) : c.wpIn Fence.wide n P (Exit.then K Q') a w :=
  wpIn_mono h (fun e a w hq => by cases e <;> first | exact hq | exact hq.elim)
def ownI (B n0 : Nat) (w : World) (pre : List (Pfx × Bool)) (W : World) : Prop := RecBox B n0 (pre.map ownRec) W ∧ Below n0 w W ∧ n0 ≤ W.heap.size
theorem row_of_owns {W : World} {n0 : Nat} {t : TypeId} {v : Value} {n : Nat} {xs : List Value} (h : W.ownsRow n0 t 9 v n xs) (hn : n ≤ 140737488351232) : ∃ (ad : Option Addr) (c : Nat), v = .slice ad n c ∧ Row W 9 ad n xs := by
  obtain ⟨hl, h⟩ := h
  rcases h with ⟨rfl, rfl⟩ | ⟨g, cap, cur, rfl, hg, hh, hc, hm, hs, ht⟩
  · exact ⟨none, 0, rfl, hl, hn, fun h => absurd h (by omega)⟩
  · refine ⟨_, _, rfl, hl, hn, fun _ => ⟨g, 0, rfl, lt_of_heap hh, fun j u hj => ?_⟩⟩
    have hlt : j < n * 9 := by
      have := (List.getElem?_eq_some_iff.1 hj).1
      omega
    rw [← ht, List.getElem?_take, if_pos hlt] at hj
    simp only [World.cell?, hh, Nat.zero_add]
    rw [← hj]
    simp
def flI (B n0 D : Nat) (w : World) (R1 : List Rec) (pre : List (Key × Dst)) (W : World) : Prop := RecBox B n0 (R1 ++ pre.map flRec) W ∧ (Below n0 w W ∧ n0 ≤ W.heap.size) ∧ W.heap[D]? = some (.deferred (some []))
theorem flI_own (B n0 D : Nat) (w : World) (R1 : List Rec) {B0 : Nat} (h0 : n0 ≤ B0) (hD : D < B0) : OwnFrom B0 (flI B n0 D w R1) := fun s X Y row hs hg hr =>
  ⟨(recBox_own B n0 (fun pre : List (Key × Dst) => R1 ++ pre.map flRec)).from B0 s X Y row hs.1 hg hr, below_ownFrom w h0 s X Y row hs.2.1 hg hr, (hg.block D (lt_of_heap hs.2.2) (fun e => by have := (hr D e.symm).1; omega)).trans hs.2.2⟩
set_option maxRecDepth 100000 in
set_option maxHeartbeats 8000000 in
theorem state_Records (σ : St) (s g1 g2 : Nat) (w : World) (hS : StAt 121 w s g1 g2 σ) (hN1 : σ.own.length ≤ 1000) (hN2 : σ.fl.length ≤ 1000) :
    CallsIn Fence.wide 9 Try.prog 52 #[.pointer (some ⟨s, 0, none⟩)] w fun e w' => ∃ (ad : Option Addr) (c : Nat) (ss : List Pfx) (ks : List Key), e = .returned (.slice ad (recsOf σ ss ks).length c) ∧ ss.Perm (σ.own.map (·.1)) ∧ ks.Perm (σ.fl.map (·.1)) ∧ Row w' 9 ad (recsOf σ ss ks).length (recs (recsOf σ ss ks)) ∧ Below w.heap.size w w' := by
  obtain ⟨i0, hi, hz0, hz1, hz2⟩ := info_parts recs_info
  have hO := fun W => callsIn_wide (n := 8) |>.2 (state_Owns s W)
  have hfO : Fence.wide.fn 72 := trivial
  have hF := fun W => callsIn_wide (n := 8) |>.2 (state_Floors s W)
  have hfF : Fence.wide.fn 74 := trivial
  refine callsIn_of_wp_marks Try.func52 rfl trivial ?_ rfl
  simp only [Try.ntmps52, List.size_toArray, List.length_cons, List.length_nil, Nat.reduceAdd, Nat.reduceSub, Array.replicate_succ, Array.replicate_zero, List.push_toArray, List.append_toArray, List.nil_append, List.cons_append]
  gi_wp2_with (gi_at_call 72; refine (hO _).mono ?_; rintro e w1 ⟨rfl, rfl⟩)
  have kbx := Blk.new (w.alloc (.cells #[.slice none 0 0] 22)) 33 #[.pointer (some ⟨s, 0, none⟩)]
  simp only [World.size_alloc] at kbx
  have kB : Boxed ((w.alloc (.cells #[.slice none 0 0] 22)).alloc (.cells #[.pointer (some ⟨s, 0, none⟩)] 33)) w.heap.size 22 (.slice none 0 0) := (Boxed.new w _ _).alloc _
  have hb1 := ((Below.refl w.heap.size w).alloc (Nat.le_refl _) (.cells #[.slice none 0 0] 22)).alloc (by simp) (.cells #[.pointer (some ⟨s, 0, none⟩)] 33)
  have hsz : w.heap.size + 1 < ((w.alloc (.cells #[.slice none 0 0] 22)).alloc (.cells #[.pointer (some ⟨s, 0, none⟩)] 33)).heap.size := by simp
  have hS1 := hS.below hb1
  generalize (w.alloc (.cells #[.slice none 0 0] 22)).alloc (.cells #[.pointer (some ⟨s, 0, none⟩)] 33) = W1 at *
  have hn1 : w.heap.size ≤ W1.heap.size := hb1.size
  refine wpIn_rangeFunc_ownH (α := Pfx × Bool) rfl (by omega) (gf := 101) (lb := #[.pointer (some ⟨w.heap.size + 1, 0, none⟩)]) rfl trivial (enters_of Try.func101 (by kernel_rfl) rfl)
    (owns_in 8 (by omega) σ (w.heap.size + 1) s g1 g2 W1 hS1 kbx (by omega)) (fun h k => h.trans k) (fun W l o o' _ hl hc hw => KeepsS.putObj W l o o' hl hc hw) (Below.refl _ _) (fun _ => rfl)
    (ownI w.heap.size w.heap.size w) (fun _ _ _ => False) (((recBox_own _ _ _).from _).and (below_ownFrom w hn1)) (fun _ _ _ _ _ h _ _ => h) ⟨⟨_, kB, ⟨rfl, .inl ⟨rfl, rfl⟩⟩, by simp⟩, hb1, hn1⟩
    (fun e a' W => ∃ q, Blk W q 25 #[.int .u32 e.1.a, .int .i64 e.1.l] ∧ a' = { tmps := #[.pointer (some ⟨s, 0, none⟩), undef, .slice none 0 0, .pointer (some ⟨w.heap.size, 0, none⟩), .pointer (some ⟨q, 0, none⟩), .bool e.2, undef, undef, .pointer (some ⟨s, 0, none⟩), .func (.func 101) #[] #[.pointer (some ⟨w.heap.size + 1, 0, none⟩)], .agg #[.int .u32 e.1.a, .int .i64 e.1.l], .bool e.2, undef, undef, undef, undef, undef, undef, undef, undef, undef, undef, undef, undef, undef, undef, undef, undef, undef, undef, undef, undef, undef, undef, undef, undef, undef, undef, undef, undef, undef, undef, undef, undef, undef, undef], defers := [] }) ?_ ?_ ?_ ?_ ?_
  · rintro x a' ⟨⟩ X Y row ⟨q, hq, ha⟩ hg hr
    refine ⟨q, (hg.block q hq.lt (fun e => ?_)).trans hq, ha⟩
    obtain ⟨-, o, ho, hc⟩ := hr q e.symm
    rw [show X.heap[q]? = _ from hq] at ho
    cases ho
    cases hc
  · rintro l pre ⟨x, on⟩ W K hI hK
    have hbA := (Below.refl W.heap.size W).alloc (Nat.le_refl _) (.cells #[.int .u32 x.a, .int .i64 x.l] 25)
    have kq := Blk.new W 25 #[.int .u32 x.a, .int .i64 x.l]
    gi_wp2_with gi_round_op_a
    exact hK _ _ ((KeepsOthers.alloc W _).from _) (KeepsS.of_below hbA) ((((recBox_own _ _ _).from _).and (below_ownFrom w hn1)).alloc _ hI) ⟨_, kq, rfl⟩
  · rintro l pre ⟨x, on⟩ a' W hl hrc ⟨⟨v, hv, hrow, hnil⟩, hbl, hge⟩ ⟨q, hq, rfl⟩ hlen
    have hqlt := hq.lt
    have hvlt := hv.lt
    have v0 := hv.cell
    have vf := hv.frozen
    obtain ⟨xa, xl⟩ := x
    simp only at hq ⊢
    have x0 := hq.cell 0
    have x1 := hq.cell 1
    simp only [List.getElem?_toArray, List.getElem?_cons_zero, List.getElem?_cons_succ] at x0 x1
    have hlen' : (pre.map ownRec).length < 1000 := by rw [List.length_map]; omega
    have HP := Lib.hid (show (pre ++ [((⟨xa, xl⟩ : Pfx), on)]).map ownRec = pre.map ownRec ++ [ownRec (⟨xa, xl⟩, on)] from by rw [List.map_append]; rfl)
    generalize pre.map ownRec = Rp at hrow hnil hlen' HP
    have HLN := Lib.hid hlen'
    clear hlen hlen'
    gi_wp2_with (first
      | (gi_at_builtin; refine wpListIn_append_own _ rfl _ _ 22 rfl w.heap.size 39 i0 (.agg #[.int .i64 0, .int .u32 0, .int .u32 0, .int .u32 0, .int .u32 0, .int .i64 0, .bool false, .int .u32 0, .int .u16 0]) 9 56 Try.underlying22 hi hz0 hz1 hz2 rfl (by decide) _ _ _ rfl (hrow.alloc _) ⟨W.heap.size, 0, none⟩ 1 1 (ownRec (⟨xa, xl⟩, on)).cells rfl rfl (cells_new _ _ _) (by simp [Value.oneCell', Rec.cells]) (by unfold maxLen; have := HLN.out; omega) (by have := HLN.out; omega) (by simp; omega) ?_; intro v' w3 hown' hg3 hnil3
         have hg3' : (W.alloc (.cells (ownRec (⟨xa, xl⟩, on)).cells.toArray 39)).grownBy w3 v.ownBlock := hg3
         obtain ⟨hv1, hv2, hr2, hko, hbw⟩ := Boxed.appended hv (by decide) hrow hge (Nat.le_refl _) hown' hg3'
         obtain ⟨g', cap', rfl⟩ := ownsRow_succ hown'
         have hks : KeepsS W (w3.setCell ⟨w.heap.size, 0, none⟩ (.slice (some ⟨g', 0, none⟩) (Rp.length + 1) cap')) := by
           refine ((KeepsS.of_below ((Below.refl _ W).alloc (Nat.le_refl _) _)).trans (KeepsS.of_grownBy hg3' fun j o ej hj => ?_)).trans (KeepsS.of_grownBy (grownBy_setCell' w3 _ _) fun j o ej hj => ?_)
           · rcases (hrow.alloc (.cells (ownRec (⟨xa, xl⟩, on)).cells.toArray 39)).2 with ⟨rfl, _⟩ | ⟨g, cap, cur, rfl, _, hgb, _⟩
             · simp [Value.ownBlock] at ej
             · obtain rfl : g = j := by simpa [Value.ownBlock] using ej
               rw [hgb] at hj
               cases hj
               simp [staysO]
           · cases ej
             rw [show w3.heap[w.heap.size]? = _ from hv1] at hj
             cases hj
             simp [staysO]
         have c3 := hv1.cell
         have f3 := hv1.frozen
         have HV2 := Lib.hid hv2
         have HR2 := Lib.hid hr2
         have HKO := Lib.hid hko
         have HBW := Lib.hid hbw
         have HKS := Lib.hid hks
         clear hv2 hr2 hko hbw hks hg3 hg3' hown' hnil3 hv1
         go_frame)
      | gi_round_op_a)
    have hsz' : w.heap.size ≤ (w3.setCell ⟨w.heap.size, 0, none⟩ (.slice (some ⟨g', 0, none⟩) (Rp.length + 1) cap')).heap.size := Nat.le_trans hge HBW.out.size
    refine ⟨HKO.out.from _, HKS.out, ⟨_, HV2.out, ?_, ?_⟩, hbl.trans HBW.out, hsz'⟩
    · rw [HP.out, List.length_append]
      have hr3 : recs (Rp ++ [ownRec (⟨xa, xl⟩, on)]) = recs Rp ++ (ownRec (⟨xa, xl⟩, on)).cells := by simp [recs]
      rw [hr3]
      exact HR2.out
    · rw [HP.out]
      simp
  · rintro D xs W hD ⟨ss, hp, rfl⟩ ⟨hbox, hbl, hge⟩ hdef
    have hRE : (ss.map fun x => (x, (getM σ.own x).getD false)).map ownRec = ss.map fun x => ownRec (x, (getM σ.own x).getD false) := by rw [List.map_map]; rfl
    rw [hRE] at hbox
    have hlr : (ss.map fun x => ownRec (x, (getM σ.own x).getD false)).length ≤ 1000 := by have := hp.length_eq; simp at this; simp; omega
    generalize hRo : (ss.map fun x => ownRec (x, (getM σ.own x).getD false)) = Ro at hbox hlr
    have HRO := Lib.hid hRo
    have HLR := Lib.hid hlr
    clear hRE hRo hlr
    have hS2 := hS.below hbl
    have hSB := hS2.1
    have hlS := hSB.lt
    have s0 := hSB.cell 0
    have s1 := hSB.cell 1
    have s2 := hSB.cell 2
    have s3 := hSB.cell 3
    have sf0 := hSB.frozen 0
    have sf1 := hSB.frozen 1
    have sf2 := hSB.frozen 2
    have sf3 := hSB.frozen 3
    simp only [List.getElem?_toArray, List.getElem?_cons_zero, List.getElem?_cons_succ] at s0 s1 s2 s3
    by_cases h0 : 0 < σ.lease
    · have hd0 : decide (σ.lease > 0) = true := decide_eq_true h0
      obtain ⟨v, hv, hrow, hnil⟩ := hbox
      have v0 := hv.cell
      have vf := hv.frozen
      have hvlt := hv.lt
      gi_wp2
      refine wpIn_calm ?_
      refine draw_startI [8, 9] Later (by kernel_rfl) ?_
      refine draw_chunkI (n := 46) (by kernel_rfl) (fun _ _ _ _ _ h => h) [0, 1, 2, 3, 4, 5, 6] [] _ #[true, true, true, true, true, true, true, false, false, false] (by kernel_rfl) 3 _ ?_ _ rfl ?_ ?_
      rotate_left
      · intro w' hw'
        have hc' : ∀ b o, b < W.heap.size → w'.cell? ⟨b, o, none⟩ = W.cell? ⟨b, o, none⟩ := (bcell hw').1
        refine ci_step (i := 0) (v := ?_) rfl (by kernel_rfl) ?_ ?_
        rotate_left
        · first | (go_simp; done) | (go_simp; with_reducible rfl)
        skip
        try simp only [Act.put, List.setIfInBounds_toArray, List.set_cons_zero, List.set_cons_succ]
        refine ci_step (i := 1) (v := ?_) rfl (by kernel_rfl) ?_ ?_
        rotate_left
        · first | (go_simp; done) | (go_simp; with_reducible rfl)
        skip
        try simp only [Act.put, List.setIfInBounds_toArray, List.set_cons_zero, List.set_cons_succ]
        refine ci_step (i := 2) (v := ?_) rfl (by kernel_rfl) ?_ ?_
        rotate_left
        · first | (go_simp; done) | (go_simp; with_reducible rfl)
        skip
        try simp only [Act.put, List.setIfInBounds_toArray, List.set_cons_zero, List.set_cons_succ]
        refine ci_step (i := 3) (v := ?_) rfl (by kernel_rfl) ?_ ?_
        rotate_left
        · first | (go_simp; done) | (go_simp; with_reducible rfl)
        skip
        try simp only [Act.put, List.setIfInBounds_toArray, List.set_cons_zero, List.set_cons_succ]
        refine ci_step (i := 4) (v := ?_) rfl (by kernel_rfl) ?_ ?_
        rotate_left
        · first | (go_simp; done) | (go_simp; with_reducible rfl)
        skip
        try simp only [Act.put, List.setIfInBounds_toArray, List.set_cons_zero, List.set_cons_succ]
        refine ci_step (i := 5) (v := ?_) rfl (by kernel_rfl) ?_ ?_
        rotate_left
        · first | (go_simp; done) | (go_simp; with_reducible rfl)
        skip
        try simp only [Act.put, List.setIfInBounds_toArray, List.set_cons_zero, List.set_cons_succ]
        refine ci_step (i := 6) (v := ?_) rfl (by kernel_rfl) ?_ ?_
        rotate_left
        · first | (go_simp; done) | (go_simp; with_reducible rfl)
        skip
        try simp only [Act.put, List.setIfInBounds_toArray, List.set_cons_zero, List.set_cons_succ]
        refine ci_end ?_
        rfl
      refine draw_effI (i := 7) rfl (by kernel_rfl) (listed' := #[true, true, true, true, true, true, true, true, false, false]) rfl (fun K hK => ?_)
      replace hK := Lib.hid hK
      gi_wp2
      refine hK.out _ _ ⟨fun _ => (Below.refl _ _).alloc (Nat.le_refl _) _, ?_⟩
      clear hK
      refine draw_effI (i := 8) rfl (by kernel_rfl) (listed' := #[true, true, true, true, true, true, true, true, true, false]) rfl (fun K hK => ?_)
      replace hK := Lib.hid hK
      have hrow' : W.drew.ownsRow w.heap.size 39 9 v Ro.length (recs Ro) := hrow
      have hv' : Boxed W.drew w.heap.size 22 v := hv
      refine wpListIn_append_own _ rfl _ _ 22 rfl w.heap.size 39 i0 (.agg #[.int .i64 0, .int .u32 0, .int .u32 0, .int .u32 0, .int .u32 0, .int .i64 0, .bool false, .int .u32 0, .int .u16 0]) 9 56 Try.underlying22 hi hz0 hz1 hz2 rfl (by decide) _ _ _ rfl (hrow'.alloc _) ⟨W.heap.size, 0, none⟩ 1 1 (leaseRec σ.lease).cells rfl rfl (cells_new W.drew _ _) (by simp [Value.oneCell', Rec.cells]) (by unfold maxLen; have := HLR.out; omega) (by have := HLR.out; omega) (by simp; omega) ?_
      intro v' w3 hown' hg3 hnil3
      have hg3' : (W.drew.alloc (.cells (leaseRec σ.lease).cells.toArray 39)).grownBy w3 v.ownBlock := hg3
      obtain ⟨hv1, hv2, hr2, hko, hbw⟩ := Boxed.appended hv' (by decide) hrow' hge (Nat.le_refl _) hown' hg3'
      obtain ⟨g', cap', rfl⟩ := ownsRow_succ hown'
      have c3 := hv1.cell
      have f3 := hv1.frozen
      have HV2 := Lib.hid hv2
      have HR2 := Lib.hid hr2
      have HKO := Lib.hid hko
      have HBW := Lib.hid hbw
      clear hv2 hr2 hko hbw hg3 hg3' hown' hnil3 hv1
      gi_wp2
      refine hK.out _ _ ⟨fun h => absurd (by decide) h, ?_⟩
      clear hK
      refine draw_effI (i := 9) rfl (by kernel_rfl) (listed' := #[true, true, true, true, true, true, true, true, true, true]) rfl (fun K hK => ?_)
      replace hK := Lib.hid hK
      gi_wp2
      refine hK.out _ _ ⟨fun h => absurd (by decide) h, ?_⟩
      clear hK
      refine draw_doneI (by kernel_rfl) ?_ _
      have hdef4 := HKO.out.same D _ hdef rfl
      have hbl4 := (Below.drew hbl).trans HBW.out
      have hbox4 : RecBox w.heap.size w.heap.size (Ro ++ [leaseRec σ.lease]) _ := ⟨_, HV2.out, by rw [List.length_append, show recs (Ro ++ [leaseRec σ.lease]) = recs Ro ++ (leaseRec σ.lease).cells by simp [recs]]; exact HR2.out, by simp⟩
      have HR4 := Lib.hid (show recsOf σ ss [] = Ro ++ [leaseRec σ.lease] by unfold recsOf; rw [HRO.out, if_pos h0]; simp)
      have hge4 : w.heap.size ≤ (w3.setCell ⟨w.heap.size, 0, none⟩ (.slice (some ⟨g', 0, none⟩) (Ro.length + 1) cap')).heap.size := Nat.le_trans hge HBW.out.size
      have HL1 := Lib.hid (show (Ro ++ [leaseRec σ.lease]).length ≤ 1001 by have := HLR.out; simp; omega)
      generalize Ro ++ [leaseRec σ.lease] = R1 at hbox4 HR4 HL1
      clear hdef hbl hS2 hSB hlS s0 s1 s2 s3 sf0 sf1 sf2 sf3 hv hrow hnil v0 vf hrow' hv' c3 f3 HV2 HR2 HKO HBW HLR HRO
      generalize w3.setCell ⟨w.heap.size, 0, none⟩ (.slice (some ⟨g', 0, none⟩) (Ro.length + 1) cap') = W4 at *
      have hS4 := hS.below hbl4
      have hS5 := hS4.below ((Below.refl W4.heap.size W4).alloc (Nat.le_refl _) (.cells #[.pointer (some ⟨s, 0, none⟩)] 33))
      have kbx5 := Blk.new W4 33 #[.pointer (some ⟨s, 0, none⟩)]
      have hbl5 := hbl4.alloc hge4 (.cells #[.pointer (some ⟨s, 0, none⟩)] 33)
      have hdef5 : (W4.alloc (.cells #[.pointer (some ⟨s, 0, none⟩)] 33)).heap[D]? = some (.deferred (some [])) := (Below.heap_alloc W4 _ D (lt_of_heap hdef4)).trans hdef4
      have hbox5 : RecBox w.heap.size w.heap.size (R1 ++ ([] : List (Key × Dst)).map flRec) (W4.alloc (.cells #[.pointer (some ⟨s, 0, none⟩)] 33)) := by
        simp only [List.map_nil, List.append_nil]
        exact (recBox_own w.heap.size w.heap.size (fun _ : Unit => R1)) () W4 _ none hbox4 (World.grownBy_alloc W4 _ none) (fun r e => by cases e)
      have hge5 : w.heap.size ≤ (W4.alloc (.cells #[.pointer (some ⟨s, 0, none⟩)] 33)).heap.size := by simp; omega
      have hD5 := lt_of_heap hdef5
      gi_wp2_with (gi_at_call 74; refine (hF _).mono ?_; rintro e w1 ⟨rfl, rfl⟩)
      generalize hW5 : W4.alloc (.cells #[.pointer (some ⟨s, 0, none⟩)] 33) = W5 at *
      clear hW5
      refine wpIn_rangeFunc_ownH (α := Key × Dst) rfl (by omega) (gf := 103) (lb := #[.pointer (some ⟨W4.heap.size, 0, none⟩)]) rfl trivial (enters_of Try.func103 (by kernel_rfl) rfl)
        (floors_in 8 (by omega) σ W4.heap.size s g1 g2 W5 hS5 kbx5 (by omega)) (fun h k => h.trans k) (fun W l o o' _ hl hc hw => KeepsS.putObj W l o o' hl hc hw) (Below.refl _ _) (fun _ => rfl)
        (flI w.heap.size w.heap.size D w R1) (fun _ _ _ => False) (flI_own _ _ _ _ _ hge5 hD5) (fun _ _ _ _ _ h _ _ => h) ⟨hbox5, ⟨hbl5, hge5⟩, hdef5⟩
        (fun e a' Wx => ∃ q r, Blk Wx q 27 #[.int .u32 e.1.a, .int .i64 e.1.l, .int .u32 e.1.id] ∧ Blk Wx r 30 #[.int .u32 e.2.1, .int .u16 e.2.2] ∧ a' = { tmps := #[.pointer (some ⟨s, 0, none⟩), undef, .slice none 0 0, .pointer (some ⟨w.heap.size, 0, none⟩), undef, undef, .pointer (some ⟨q, 0, none⟩), .pointer (some ⟨r, 0, none⟩), .pointer (some ⟨s, 0, none⟩), .func (.func 101) #[] #[.pointer (some ⟨w.heap.size + 1, 0, none⟩)], undef, undef, undef, undef, undef, undef, undef, undef, .pointer (some ⟨s, 0, none⟩), .pointer (some ⟨s, 0, none⟩), .pointer (some ⟨s, 1, none⟩), .int .u32 σ.lease, .bool true, v, .pointer (some ⟨s, 0, none⟩), .pointer (some ⟨s, 0, none⟩), .pointer (some ⟨s, 1, none⟩), .int .u32 σ.lease, .agg #[.int .u32 σ.lease, .int .u16 0], .agg #[.int .i64 3, .int .u32 0, .int .u32 0, .int .u32 0, .int .u32 0, .int .i64 0, .bool false, .int .u32 σ.lease, .int .u16 0], .slice (some ⟨W.heap.size, 0, none⟩) 1 1, .slice (some ⟨g', 0, none⟩) (Ro.length + 1) cap', .pointer (some ⟨s, 0, none⟩), .func (.func 103) #[] #[.pointer (some ⟨W4.heap.size, 0, none⟩)], .agg #[.int .u32 e.1.a, .int .i64 e.1.l, .int .u32 e.1.id], .agg #[.int .u32 e.2.1, .int .u16 e.2.2], undef, undef, undef, undef, undef, undef, undef, undef, undef, undef], defers := [] }) ?_ ?_ ?_ ?_ ?_
      · rintro x a' ⟨⟩ X Y row ⟨q, r, hq, hr0, ha⟩ hg hr
        have no : ∀ {k t cs}, Blk X k t cs → some k ≠ row := fun {k t cs} hk e => by
          obtain ⟨-, o, ho, hc⟩ := hr k e.symm
          rw [show X.heap[k]? = _ from hk] at ho
          cases ho
          cases hc
        exact ⟨q, r, (hg.block q hq.lt (no hq)).trans hq, (hg.block r hr0.lt (no hr0)).trans hr0, ha⟩
      · rintro l pre ⟨x, d⟩ W K hI hK
        have hbA := ((Below.refl W.heap.size W).alloc (Nat.le_refl _) (.cells #[.int .u32 x.a, .int .i64 x.l, .int .u32 x.id] 27)).alloc (by simp) (.cells #[.int .u32 d.1, .int .u16 d.2] 30)
        have kq := (Blk.new W 27 #[.int .u32 x.a, .int .i64 x.l, .int .u32 x.id]).alloc (.cells #[.int .u32 d.1, .int .u16 d.2] 30)
        have kr := Blk.new (W.alloc (.cells #[.int .u32 x.a, .int .i64 x.l, .int .u32 x.id] 27)) 30 #[.int .u32 d.1, .int .u16 d.2]
        simp only [World.size_alloc] at kr
        gi_wp2_with gi_round_op_a
        exact hK _ _ (((KeepsOthers.alloc W _).trans (KeepsOthers.alloc _ _)).from _) (KeepsS.of_below hbA) ((flI_own _ _ _ _ _ hge5 hD5).alloc _ ((flI_own _ _ _ _ _ hge5 hD5).alloc _ hI)) ⟨_, _, kq, kr, rfl⟩
      · rintro l pre ⟨x, d⟩ a' W hl hrc ⟨⟨v, hv, hrow, hnil⟩, ⟨hbl, hge⟩, hdd⟩ ⟨q, r, hq, hr0, rfl⟩ hlen
        have hqlt := hq.lt
        have hrlt := hr0.lt
        have hvlt := hv.lt
        have v0 := hv.cell
        have vf := hv.frozen
        obtain ⟨xa, xl, xi⟩ := x
        obtain ⟨ds, dm⟩ := d
        simp only at hq hr0 ⊢
        have x0 := hq.cell 0
        have x1 := hq.cell 1
        have x2 := hq.cell 2
        simp only [List.getElem?_toArray, List.getElem?_cons_zero, List.getElem?_cons_succ] at x0 x1 x2
        have d0 := hr0.cell 0
        have d1 := hr0.cell 1
        simp only [List.getElem?_toArray, List.getElem?_cons_zero, List.getElem?_cons_succ] at d0 d1
        have hlen' : (R1 ++ pre.map flRec).length ≤ 3000 := by rw [List.length_append, List.length_map]; have := HL1.out; omega
        have HP := Lib.hid (show R1 ++ (pre ++ [((⟨xa, xl, xi⟩ : Key), ((ds, dm) : Dst))]).map flRec = (R1 ++ pre.map flRec) ++ [flRec (⟨xa, xl, xi⟩, (ds, dm))] from by rw [List.map_append, List.append_assoc]; rfl)
        generalize R1 ++ pre.map flRec = Rp at hrow hnil hlen' HP
        have HLN := Lib.hid hlen'
        clear hlen hlen'
        gi_wp2_with (first
          | (gi_at_builtin; refine wpListIn_append_own _ rfl _ _ 22 rfl w.heap.size 39 i0 (.agg #[.int .i64 0, .int .u32 0, .int .u32 0, .int .u32 0, .int .u32 0, .int .i64 0, .bool false, .int .u32 0, .int .u16 0]) 9 56 Try.underlying22 hi hz0 hz1 hz2 rfl (by decide) _ _ _ rfl (hrow.alloc _) ⟨W.heap.size, 0, none⟩ 1 1 (flRec (⟨xa, xl, xi⟩, (ds, dm))).cells rfl rfl (cells_new _ _ _) (by simp [Value.oneCell', Rec.cells]) (by unfold maxLen; have := HLN.out; omega) (by have := HLN.out; omega) (by simp; omega) ?_; intro v' w3 hown' hg3 hnil3
             have hg3' : (W.alloc (.cells (flRec (⟨xa, xl, xi⟩, (ds, dm))).cells.toArray 39)).grownBy w3 v.ownBlock := hg3
             obtain ⟨hv1, hv2, hr2, hko, hbw⟩ := Boxed.appended hv (by decide) hrow hge (Nat.le_refl _) hown' hg3'
             obtain ⟨g', cap', rfl⟩ := ownsRow_succ hown'
             have hks : KeepsS W (w3.setCell ⟨w.heap.size, 0, none⟩ (.slice (some ⟨g', 0, none⟩) (Rp.length + 1) cap')) := by
               refine ((KeepsS.of_below ((Below.refl _ W).alloc (Nat.le_refl _) _)).trans (KeepsS.of_grownBy hg3' fun j o ej hj => ?_)).trans (KeepsS.of_grownBy (grownBy_setCell' w3 _ _) fun j o ej hj => ?_)
               · rcases (hrow.alloc (.cells (flRec (⟨xa, xl, xi⟩, (ds, dm))).cells.toArray 39)).2 with ⟨rfl, _⟩ | ⟨g, cap, cur, rfl, _, hgb, _⟩
                 · simp [Value.ownBlock] at ej
                 · obtain rfl : g = j := by simpa [Value.ownBlock] using ej
                   rw [hgb] at hj
                   cases hj
                   simp [staysO]
               · cases ej
                 rw [show w3.heap[w.heap.size]? = _ from hv1] at hj
                 cases hj
                 simp [staysO]
             have c3 := hv1.cell
             have f3 := hv1.frozen
             have HV2 := Lib.hid hv2
             have HR2 := Lib.hid hr2
             have HKO := Lib.hid hko
             have HBW := Lib.hid hbw
             have HKS := Lib.hid hks
             clear hv2 hr2 hko hbw hks hg3 hg3' hown' hnil3 hv1
             go_frame)
          | gi_round_op_a)
        have hsz' : w.heap.size ≤ (w3.setCell ⟨w.heap.size, 0, none⟩ (.slice (some ⟨g', 0, none⟩) (Rp.length + 1) cap')).heap.size := Nat.le_trans hge HBW.out.size
        refine ⟨HKO.out.from _, HKS.out, ⟨_, HV2.out, ?_, ?_⟩, ⟨hbl.trans HBW.out, hsz'⟩, HKO.out.same D _ hdd rfl⟩
        · rw [HP.out, List.length_append]
          have hr3 : recs (Rp ++ [flRec (⟨xa, xl, xi⟩, (ds, dm))]) = recs Rp ++ (flRec (⟨xa, xl, xi⟩, (ds, dm))).cells := by simp [recs]
          rw [hr3]
          exact HR2.out
        · rw [HP.out]
          simp
      · rintro D2 xs W hD2 ⟨ks, hkp, rfl⟩ ⟨⟨v, hv, hrow, hnil⟩, ⟨hbl, hge⟩, hdd⟩ hdd2
        have hKE : (ks.map fun x => (x, (getM σ.fl x).getD (0, 0))).map flRec = ks.map fun x => flRec (x, (getM σ.fl x).getD (0, 0)) := by rw [List.map_map]; rfl
        rw [hKE] at hrow hnil
        have HRR := Lib.hid (show recsOf σ ss ks = R1 ++ ks.map fun x => flRec (x, (getM σ.fl x).getD (0, 0)) from by rw [← HR4.out]; unfold recsOf; simp)
        have hln : (R1 ++ ks.map fun x => flRec (x, (getM σ.fl x).getD (0, 0))).length ≤ 140737488351232 := by rw [List.length_append, List.length_map]; have := HL1.out; have := hkp.length_eq; simp at this; omega
        rw [← HRR.out] at hrow hnil hln
        generalize hRR : recsOf σ ss ks = RR at hrow hnil hln
        have HRX := Lib.hid hRR
        have HLN := Lib.hid hln
        clear hRR hln
        have v0 := hv.cell
        have hvlt := hv.lt
        gi_wp2
        have hne : D ≠ D2 := by omega
        have hddx : (W.putObj D2 (.deferred none)).heap[D]? = some (.deferred (some [])) := (World.putObj_heap_other hne).trans hdd
        refine ⟨by simp, .inl ⟨_, _, rfl, run_takeDeferred hdd2, ?_⟩⟩
        refine ⟨by simp, .inl ⟨_, _, rfl, run_takeDeferred hddx, ?_⟩⟩
        have hrx := ownsRow_putObj (ownsRow_putObj hrow (.deferred none) hdd2 rfl) (.deferred none) hddx rfl
        obtain ⟨ad, c, rfl, hrow9⟩ := row_of_owns hrx HLN.out
        refine ⟨_, results_tmp rfl _ _ _, ad, c, ss, ks, by rw [HRX.out]; rfl, hp, hkp, by rw [HRX.out]; exact hrow9, ?_⟩
        exact (hbl.grown (grownBy_putObj' W D2 _) hge (fun k e => by cases e; omega)).grown (grownBy_putObj' _ D _) (by simpa using hge) (fun k e => by cases e; omega)
      · rintro D c pre W _ _ h
        exact h.elim
    · have hd0 : decide (σ.lease > 0) = false := decide_eq_false h0
      have hdef4 := hdef
      have hbl4 := hbl
      have hge4 := hge
      have HR4 := Lib.hid (show recsOf σ ss [] = Ro by unfold recsOf; rw [HRO.out, if_neg h0]; simp)
      have HL1 := Lib.hid (show Ro.length ≤ 1001 by have := HLR.out; omega)
      have hbox4 := hbox
      generalize Ro = R1 at hbox4 HR4 HL1
      clear hdef hbl hS2 hbox
      have hS4 := hS.below hbl4
      have hS5 := hS4.below ((Below.refl W.heap.size W).alloc (Nat.le_refl _) (.cells #[.pointer (some ⟨s, 0, none⟩)] 33))
      have kbx5 := Blk.new W 33 #[.pointer (some ⟨s, 0, none⟩)]
      have hbl5 := hbl4.alloc hge4 (.cells #[.pointer (some ⟨s, 0, none⟩)] 33)
      have hdef5 : (W.alloc (.cells #[.pointer (some ⟨s, 0, none⟩)] 33)).heap[D]? = some (.deferred (some [])) := (Below.heap_alloc W _ D (lt_of_heap hdef4)).trans hdef4
      have hbox5 : RecBox w.heap.size w.heap.size (R1 ++ ([] : List (Key × Dst)).map flRec) (W.alloc (.cells #[.pointer (some ⟨s, 0, none⟩)] 33)) := by
        simp only [List.map_nil, List.append_nil]
        exact (recBox_own w.heap.size w.heap.size (fun _ : Unit => R1)) () W _ none hbox4 (World.grownBy_alloc W _ none) (fun r e => by cases e)
      have hge5 : w.heap.size ≤ (W.alloc (.cells #[.pointer (some ⟨s, 0, none⟩)] 33)).heap.size := by simp; omega
      have hD5 := lt_of_heap hdef5
      gi_wp2_with (gi_at_call 74; refine (hF _).mono ?_; rintro e w1 ⟨rfl, rfl⟩)
      generalize hW5 : W.alloc (.cells #[.pointer (some ⟨s, 0, none⟩)] 33) = W5 at *
      clear hW5
      refine wpIn_rangeFunc_ownH (α := Key × Dst) rfl (by omega) (gf := 103) (lb := #[.pointer (some ⟨W.heap.size, 0, none⟩)]) rfl trivial (enters_of Try.func103 (by kernel_rfl) rfl)
        (floors_in 8 (by omega) σ W.heap.size s g1 g2 W5 hS5 kbx5 (by omega)) (fun h k => h.trans k) (fun W l o o' _ hl hc hw => KeepsS.putObj W l o o' hl hc hw) (Below.refl _ _) (fun _ => rfl)
        (flI w.heap.size w.heap.size D w R1) (fun _ _ _ => False) (flI_own _ _ _ _ _ hge5 hD5) (fun _ _ _ _ _ h _ _ => h) ⟨hbox5, ⟨hbl5, hge5⟩, hdef5⟩
        (fun e a' Wx => ∃ q r, Blk Wx q 27 #[.int .u32 e.1.a, .int .i64 e.1.l, .int .u32 e.1.id] ∧ Blk Wx r 30 #[.int .u32 e.2.1, .int .u16 e.2.2] ∧ a' = { tmps := #[.pointer (some ⟨s, 0, none⟩), undef, .slice none 0 0, .pointer (some ⟨w.heap.size, 0, none⟩), undef, undef, .pointer (some ⟨q, 0, none⟩), .pointer (some ⟨r, 0, none⟩), .pointer (some ⟨s, 0, none⟩), .func (.func 101) #[] #[.pointer (some ⟨w.heap.size + 1, 0, none⟩)], undef, undef, undef, undef, undef, undef, undef, undef, .pointer (some ⟨s, 0, none⟩), .pointer (some ⟨s, 0, none⟩), .pointer (some ⟨s, 1, none⟩), .int .u32 σ.lease, .bool false, undef, undef, undef, undef, undef, undef, undef, undef, undef, .pointer (some ⟨s, 0, none⟩), .func (.func 103) #[] #[.pointer (some ⟨W.heap.size, 0, none⟩)], .agg #[.int .u32 e.1.a, .int .i64 e.1.l, .int .u32 e.1.id], .agg #[.int .u32 e.2.1, .int .u16 e.2.2], undef, undef, undef, undef, undef, undef, undef, undef, undef, undef], defers := [] }) ?_ ?_ ?_ ?_ ?_
      · rintro x a' ⟨⟩ X Y row ⟨q, r, hq, hr0, ha⟩ hg hr
        have no : ∀ {k t cs}, Blk X k t cs → some k ≠ row := fun {k t cs} hk e => by
          obtain ⟨-, o, ho, hc⟩ := hr k e.symm
          rw [show X.heap[k]? = _ from hk] at ho
          cases ho
          cases hc
        exact ⟨q, r, (hg.block q hq.lt (no hq)).trans hq, (hg.block r hr0.lt (no hr0)).trans hr0, ha⟩
      · rintro l pre ⟨x, d⟩ W K hI hK
        have hbA := ((Below.refl W.heap.size W).alloc (Nat.le_refl _) (.cells #[.int .u32 x.a, .int .i64 x.l, .int .u32 x.id] 27)).alloc (by simp) (.cells #[.int .u32 d.1, .int .u16 d.2] 30)
        have kq := (Blk.new W 27 #[.int .u32 x.a, .int .i64 x.l, .int .u32 x.id]).alloc (.cells #[.int .u32 d.1, .int .u16 d.2] 30)
        have kr := Blk.new (W.alloc (.cells #[.int .u32 x.a, .int .i64 x.l, .int .u32 x.id] 27)) 30 #[.int .u32 d.1, .int .u16 d.2]
        simp only [World.size_alloc] at kr
        gi_wp2_with gi_round_op_a
        exact hK _ _ (((KeepsOthers.alloc W _).trans (KeepsOthers.alloc _ _)).from _) (KeepsS.of_below hbA) ((flI_own _ _ _ _ _ hge5 hD5).alloc _ ((flI_own _ _ _ _ _ hge5 hD5).alloc _ hI)) ⟨_, _, kq, kr, rfl⟩
      · rintro l pre ⟨x, d⟩ a' W hl hrc ⟨⟨v, hv, hrow, hnil⟩, ⟨hbl, hge⟩, hdd⟩ ⟨q, r, hq, hr0, rfl⟩ hlen
        have hqlt := hq.lt
        have hrlt := hr0.lt
        have hvlt := hv.lt
        have v0 := hv.cell
        have vf := hv.frozen
        obtain ⟨xa, xl, xi⟩ := x
        obtain ⟨ds, dm⟩ := d
        simp only at hq hr0 ⊢
        have x0 := hq.cell 0
        have x1 := hq.cell 1
        have x2 := hq.cell 2
        simp only [List.getElem?_toArray, List.getElem?_cons_zero, List.getElem?_cons_succ] at x0 x1 x2
        have d0 := hr0.cell 0
        have d1 := hr0.cell 1
        simp only [List.getElem?_toArray, List.getElem?_cons_zero, List.getElem?_cons_succ] at d0 d1
        have hlen' : (R1 ++ pre.map flRec).length ≤ 3000 := by rw [List.length_append, List.length_map]; have := HL1.out; omega
        have HP := Lib.hid (show R1 ++ (pre ++ [((⟨xa, xl, xi⟩ : Key), ((ds, dm) : Dst))]).map flRec = (R1 ++ pre.map flRec) ++ [flRec (⟨xa, xl, xi⟩, (ds, dm))] from by rw [List.map_append, List.append_assoc]; rfl)
        generalize R1 ++ pre.map flRec = Rp at hrow hnil hlen' HP
        have HLN := Lib.hid hlen'
        clear hlen hlen'
        gi_wp2_with (first
          | (gi_at_builtin; refine wpListIn_append_own _ rfl _ _ 22 rfl w.heap.size 39 i0 (.agg #[.int .i64 0, .int .u32 0, .int .u32 0, .int .u32 0, .int .u32 0, .int .i64 0, .bool false, .int .u32 0, .int .u16 0]) 9 56 Try.underlying22 hi hz0 hz1 hz2 rfl (by decide) _ _ _ rfl (hrow.alloc _) ⟨W.heap.size, 0, none⟩ 1 1 (flRec (⟨xa, xl, xi⟩, (ds, dm))).cells rfl rfl (cells_new _ _ _) (by simp [Value.oneCell', Rec.cells]) (by unfold maxLen; have := HLN.out; omega) (by have := HLN.out; omega) (by simp; omega) ?_; intro v' w3 hown' hg3 hnil3
             have hg3' : (W.alloc (.cells (flRec (⟨xa, xl, xi⟩, (ds, dm))).cells.toArray 39)).grownBy w3 v.ownBlock := hg3
             obtain ⟨hv1, hv2, hr2, hko, hbw⟩ := Boxed.appended hv (by decide) hrow hge (Nat.le_refl _) hown' hg3'
             obtain ⟨g', cap', rfl⟩ := ownsRow_succ hown'
             have hks : KeepsS W (w3.setCell ⟨w.heap.size, 0, none⟩ (.slice (some ⟨g', 0, none⟩) (Rp.length + 1) cap')) := by
               refine ((KeepsS.of_below ((Below.refl _ W).alloc (Nat.le_refl _) _)).trans (KeepsS.of_grownBy hg3' fun j o ej hj => ?_)).trans (KeepsS.of_grownBy (grownBy_setCell' w3 _ _) fun j o ej hj => ?_)
               · rcases (hrow.alloc (.cells (flRec (⟨xa, xl, xi⟩, (ds, dm))).cells.toArray 39)).2 with ⟨rfl, _⟩ | ⟨g, cap, cur, rfl, _, hgb, _⟩
                 · simp [Value.ownBlock] at ej
                 · obtain rfl : g = j := by simpa [Value.ownBlock] using ej
                   rw [hgb] at hj
                   cases hj
                   simp [staysO]
               · cases ej
                 rw [show w3.heap[w.heap.size]? = _ from hv1] at hj
                 cases hj
                 simp [staysO]
             have c3 := hv1.cell
             have f3 := hv1.frozen
             have HV2 := Lib.hid hv2
             have HR2 := Lib.hid hr2
             have HKO := Lib.hid hko
             have HBW := Lib.hid hbw
             have HKS := Lib.hid hks
             clear hv2 hr2 hko hbw hks hg3 hg3' hown' hnil3 hv1
             go_frame)
          | gi_round_op_a)
        have hsz' : w.heap.size ≤ (w3.setCell ⟨w.heap.size, 0, none⟩ (.slice (some ⟨g', 0, none⟩) (Rp.length + 1) cap')).heap.size := Nat.le_trans hge HBW.out.size
        refine ⟨HKO.out.from _, HKS.out, ⟨_, HV2.out, ?_, ?_⟩, ⟨hbl.trans HBW.out, hsz'⟩, HKO.out.same D _ hdd rfl⟩
        · rw [HP.out, List.length_append]
          have hr3 : recs (Rp ++ [flRec (⟨xa, xl, xi⟩, (ds, dm))]) = recs Rp ++ (flRec (⟨xa, xl, xi⟩, (ds, dm))).cells := by simp [recs]
          rw [hr3]
          exact HR2.out
        · rw [HP.out]
          simp
      · rintro D2 xs W hD2 ⟨ks, hkp, rfl⟩ ⟨⟨v, hv, hrow, hnil⟩, ⟨hbl, hge⟩, hdd⟩ hdd2
        have hKE : (ks.map fun x => (x, (getM σ.fl x).getD (0, 0))).map flRec = ks.map fun x => flRec (x, (getM σ.fl x).getD (0, 0)) := by rw [List.map_map]; rfl
        rw [hKE] at hrow hnil
        have HRR := Lib.hid (show recsOf σ ss ks = R1 ++ ks.map fun x => flRec (x, (getM σ.fl x).getD (0, 0)) from by rw [← HR4.out]; unfold recsOf; simp)
        have hln : (R1 ++ ks.map fun x => flRec (x, (getM σ.fl x).getD (0, 0))).length ≤ 140737488351232 := by rw [List.length_append, List.length_map]; have := HL1.out; have := hkp.length_eq; simp at this; omega
        rw [← HRR.out] at hrow hnil hln
        generalize hRR : recsOf σ ss ks = RR at hrow hnil hln
        have HRX := Lib.hid hRR
        have HLN := Lib.hid hln
        clear hRR hln
        have v0 := hv.cell
        have hvlt := hv.lt
        gi_wp2
        have hne : D ≠ D2 := by omega
        have hddx : (W.putObj D2 (.deferred none)).heap[D]? = some (.deferred (some [])) := (World.putObj_heap_other hne).trans hdd
        refine ⟨by simp, .inl ⟨_, _, rfl, run_takeDeferred hdd2, ?_⟩⟩
        refine ⟨by simp, .inl ⟨_, _, rfl, run_takeDeferred hddx, ?_⟩⟩
        have hrx := ownsRow_putObj (ownsRow_putObj hrow (.deferred none) hdd2 rfl) (.deferred none) hddx rfl
        obtain ⟨ad, c, rfl, hrow9⟩ := row_of_owns hrx HLN.out
        refine ⟨_, results_tmp rfl _ _ _, ad, c, ss, ks, by rw [HRX.out]; rfl, hp, hkp, by rw [HRX.out]; exact hrow9, ?_⟩
        exact (hbl.grown (grownBy_putObj' W D2 _) hge (fun k e => by cases e; omega)).grown (grownBy_putObj' _ D _) (by simpa using hge) (fun k e => by cases e; omega)
      · rintro D c pre W _ _ h
        exact h.elim
  · rintro D c pre W _ _ h
    exact h.elim
end Go.Proofs.Ytnfaeafplaeehaa
