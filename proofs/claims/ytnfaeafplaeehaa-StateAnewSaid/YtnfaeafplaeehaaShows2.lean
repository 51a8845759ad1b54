import Derived.Test.YtnfaeafplaeehaaShows
set_option linter.unusedVariables false
set_option linter.unusedSimpArgs false
namespace Go.Proofs.Ytnfaeafplaeehaa
open Go.RowKit Go.Sort Go.Lib Go.Shelf
set_option maxHeartbeats 4000000 in
theorem shows2 (σ τ : St) (x : Key) (d : Dst) (la ll li : Int) (n m h1 h2 s g1 g2 bm bs bo bn bl : Nat) (W : World) (hM : StAt 45 W m h1 h2 σ) (hS : StAt 121 W s g1 g2 τ)
    (kbm : Blk W bm 35 #[.pointer (some ⟨m, 0, none⟩)]) (kbs : Blk W bs 33 #[.pointer (some ⟨s, 0, none⟩)])
    (kbo : Blk W bo 4 #[.bool true]) (kbn : Blk W bn 3 #[.int .i64 n]) (kbl : Blk W bl 27 #[.int .u32 la, .int .i64 ll, .int .u32 li])
    (hx : getM σ.fl x = some d) (hx2 : getM τ.fl x = some d) (hn : n = 0 ∨ lessB la ll x.a x.l = true ∨ (lessB la ll x.a x.l = false ∧ la = x.a ∧ ll = x.l ∧ li < x.id)) (hn2 : n < 1000000) :
    Calls Try.prog 75 #[.agg #[.int .u32 x.a, .int .i64 x.l, .int .u32 x.id], .agg #[.int .u32 d.1, .int .u16 d.2], .pointer (some ⟨bm, 0, none⟩), .pointer (some ⟨bs, 0, none⟩), .pointer (some ⟨bn, 0, none⟩), .pointer (some ⟨bl, 0, none⟩), .pointer (some ⟨bo, 0, none⟩)] W fun e W' => e = .returned (.bool true) ∧ Blk W' bo 4 #[.bool true] ∧ Blk W' bn 3 #[.int .i64 (n + 1 : Nat)] ∧ Blk W' bl 27 #[.int .u32 x.a, .int .i64 x.l, .int .u32 x.id] ∧ Kept [bo, bn, bl] W W' := by
  obtain ⟨xa, xl, xi⟩ := x
  obtain ⟨ds, dm⟩ := d
  simp only at hn ⊢
  have n1 : bo ≠ bn := kbo.ne kbn (by decide)
  have n2 : bo ≠ bl := kbo.ne kbl (by decide)
  have n3 : bn ≠ bl := kbn.ne kbl (by decide)
  have n4 : W.heap.size ≠ bo := by have := kbo.lt; omega
  have n5 : W.heap.size ≠ bn := by have := kbn.lt; omega
  have n6 : W.heap.size ≠ bl := by have := kbl.lt; omega
  have n7 := n1.symm
  have n8 := n2.symm
  have n9 := n3.symm
  have hb0 := ((Below.refl W.heap.size W).alloc (Nat.le_refl _) (.cells #[.int .u32 xa, .int .i64 xl, .int .u32 xi] 27)).alloc (by simp) (.cells #[.int .u32 ds, .int .u16 dm] 30)
  have kK := Kept.of_below (S := [bo, bn, bl]) hb0
  have kx := (Blk.new W 27 #[.int .u32 xa, .int .i64 xl, .int .u32 xi]).alloc (.cells #[.int .u32 ds, .int .u16 dm] 30)
  have kd := Blk.new (W.alloc (.cells #[.int .u32 xa, .int .i64 xl, .int .u32 xi] 27)) 30 #[.int .u32 ds, .int .u16 dm]
  simp only [World.size_alloc] at kd
  replace kbm := kbm.below' hb0
  replace kbs := kbs.below' hb0
  replace kbo := kbo.below' hb0
  replace kbn := kbn.below' hb0
  replace kbl := kbl.below' hb0
  replace hS := hS.below hb0
  have kM := hM.1.below' hb0
  have hm2 := hM.2.2.1.below hb0
  have hL := fun (w' : World) (hw : Below ((W.alloc (.cells #[.int .u32 xa, .int .i64 xl, .int .u32 xi] 27)).alloc (.cells #[.int .u32 ds, .int .u16 dm] 30)).heap.size ((W.alloc (.cells #[.int .u32 xa, .int .i64 xl, .int .u32 xi] 27)).alloc (.cells #[.int .u32 ds, .int .u16 dm] 30)).drew w') => run_lookup_some key_keys Try.underlying43 (hm2.same ((undrew hw).block h2 hm2.lt)) ⟨xa, xl, xi⟩ (ds, dm) hx true
  simp only [Key.val, dstV, if_true] at hL
  have HX := Lib.hid hx2
  clear hx hx2 hm2 hM hb0
  by_cases h0 : n = 0
  · subst h0
    clear hn
    go_enter Try.func75, Try.ntmps75
    go_wp2_with fail
    generalize (W.alloc (.cells #[.int .u32 xa, .int .i64 xl, .int .u32 xi] 27)).alloc (.cells #[.int .u32 ds, .int .u16 dm] 30) = W1 at *
    have e1 := kbm.lt
    have e2 := kbs.lt
    have e3 := kbo.lt
    have e4 := kbn.lt
    have e5 := kbl.lt
    have e6 := kx.lt
    have e7 := kM.lt
    have e8 := kd.lt
    have c1 := kbm.cell 0
    have c2 := kbs.cell 0
    simp only [List.getElem?_toArray, List.getElem?_cons_zero, List.getElem?_cons_succ] at c1 c2
    have x0 := kx.cell 0
    have x1 := kx.cell 1
    have x2 := kx.cell 2
    simp only [List.getElem?_toArray, List.getElem?_cons_zero, List.getElem?_cons_succ] at x0 x1 x2
    have m0 := kM.cell 0
    have m1 := kM.cell 1
    have m2 := kM.cell 2
    have m3 := kM.cell 3
    have mf0 := kM.frozen 0
    have mf1 := kM.frozen 1
    have mf2 := kM.frozen 2
    have mf3 := kM.frozen 3
    simp only [List.getElem?_toArray, List.getElem?_cons_zero, List.getElem?_cons_succ] at m0 m1 m2 m3
    refine draw_start [] (Below W1.heap.size) (by kernel_rfl) ?_
    refine draw_chunk (n := 76) (by kernel_rfl) (fun _ _ _ _ _ h => h) [0, 1, 2, 3, 4, 5, 6, 7, 8] [] _ #[true, true, true, true, true, true, true, true, true, false, false, false] (by kernel_rfl) 3 _ ?_ _ rfl ?_ ?_
    rotate_left
    · intro w' hw'
      have hc' : ∀ b o, b < W1.heap.size → w'.cell? ⟨b, o, none⟩ = W1.cell? ⟨b, o, none⟩ := fun b o h => hw'.cell (p := ⟨b, o, none⟩) h
      have hlk := hL w' hw'
      refine ci_step (i := 0) (v := ?_) rfl (by kernel_rfl) ?_ ?_
      rotate_left
      · first | (go_simp; done) | (go_simp; with_reducible rfl)
      skip
      try simp only [Act.put, List.setIfInBounds_toArray, List.set_cons_zero, List.set_cons_succ]
      refine ci_step (i := 1) (v := ?_) rfl (by kernel_rfl) ?_ ?_
      rotate_left
      · first | (go_simp; done) | (go_simp; with_reducible rfl)
      skip
      try simp only [Act.put, List.setIfInBounds_toArray, List.set_cons_zero, List.set_cons_succ]
      refine ci_step (i := 2) (v := ?_) rfl (by kernel_rfl) ?_ ?_
      rotate_left
      · first | (go_simp; done) | (go_simp; with_reducible rfl)
      skip
      try simp only [Act.put, List.setIfInBounds_toArray, List.set_cons_zero, List.set_cons_succ]
      refine ci_step (i := 3) (v := ?_) rfl (by kernel_rfl) ?_ ?_
      rotate_left
      · first | (go_simp; done) | (go_simp; with_reducible rfl)
      skip
      try simp only [Act.put, List.setIfInBounds_toArray, List.set_cons_zero, List.set_cons_succ]
      refine ci_step (i := 4) (v := ?_) rfl (by kernel_rfl) ?_ ?_
      rotate_left
      · first | (go_simp; done) | (go_simp; with_reducible rfl)
      skip
      try simp only [Act.put, List.setIfInBounds_toArray, List.set_cons_zero, List.set_cons_succ]
      refine ci_step (i := 5) (v := ?_) rfl (by kernel_rfl) ?_ ?_
      rotate_left
      · first | (go_simp; done) | (go_simp; with_reducible rfl)
      skip
      try simp only [Act.put, List.setIfInBounds_toArray, List.set_cons_zero, List.set_cons_succ]
      refine ci_step (i := 6) (v := ?_) rfl (by kernel_rfl) ?_ ?_
      rotate_left
      · first | (go_simp; done) | (go_simp; with_reducible rfl)
      skip
      try simp only [Act.put, List.setIfInBounds_toArray, List.set_cons_zero, List.set_cons_succ]
      refine ci_step (i := 7) (v := ?_) rfl (by kernel_rfl) ?_ ?_
      rotate_left
      · first | (go_simp; done) | (go_simp; with_reducible rfl)
      skip
      try simp only [Act.put, List.setIfInBounds_toArray, List.set_cons_zero, List.set_cons_succ]
      refine ci_step (i := 8) (v := ?_) rfl (by kernel_rfl) ?_ ?_
      rotate_left
      · first | (go_simp; done) | (go_simp; with_reducible rfl)
      skip
      try simp only [Act.put, List.setIfInBounds_toArray, List.set_cons_zero, List.set_cons_succ]
      refine ci_end ?_
      rfl
    refine draw_eff (i := 9) rfl (by kernel_rfl) (listed' := #[true, true, true, true, true, true, true, true, true, true, false, false]) rfl (fun K hK => ?_)
    replace hK := Lib.hid hK
    go_wp2_with fail
    refine hK.out _ _ ⟨fun _ => below_dd ((Below.refl _ W1).alloc (Nat.le_refl _) _), ?_⟩
    clear hK
    refine draw_eff (i := 10) rfl (by kernel_rfl) (listed' := #[true, true, true, true, true, true, true, true, true, true, true, false]) rfl (fun K hK => ?_)
    replace hK := Lib.hid hK
    go_wp2_with fail
    refine hK.out _ _ ⟨fun _ => below_dd (below_two ((Below.refl _ W1).alloc (Nat.le_refl _) _) ((Below.refl _ W1).alloc (Nat.le_refl _) _) (by simp)), ?_⟩
    clear hK
    refine draw_chunk (n := 76) (by kernel_rfl) (fun _ _ _ _ _ h => h) [11] [] _ #[true, true, true, true, true, true, true, true, true, true, true, true] (by kernel_rfl) 0 _ ?_ _ rfl ?_ ?_
    rotate_left
    · intro w' hw'
      have hc' : ∀ b o, b < W1.heap.size → w'.cell? ⟨b, o, none⟩ = ((W1.alloc (.cells #[.int .u32 ds, .int .u16 dm] 30)).drew).cell? ⟨b, o, none⟩ := fun b o h => hw'.cell (p := ⟨b, o, none⟩) h
      refine ci_step (i := 11) (v := ?_) rfl (by kernel_rfl) ?_ ?_
      rotate_left
      · first | (go_simp; done) | (go_simp; with_reducible rfl)
      skip
      try simp only [Act.put, List.setIfInBounds_toArray, List.set_cons_zero, List.set_cons_succ]
      refine ci_end ?_
      rfl
    refine draw_done (by kernel_rfl) ?_ _
    have hbA := Below.drew ((Below.refl W1.heap.size W1).alloc (Nat.le_refl _) (.cells #[.int .u32 ds, .int .u16 dm] 30))
    have kf := (Blk.new W1 30 #[.int .u32 ds, .int .u16 dm]).drew
    have p1 : W1.heap.size ≠ bo := by omega
    have p2 : W1.heap.size ≠ bn := by omega
    have p3 : W1.heap.size ≠ bl := by omega
    clear e1 e2 e3 e4 e5 e6 e7 e8 c1 c2 x0 x1 x2 m0 m1 m2 m3 mf0 mf1 mf2 mf3 hL
    replace kbo := kbo.below' hbA
    replace kbn := kbn.below' hbA
    replace kbl := kbl.below' hbA
    replace kbs := kbs.below' hbA
    replace kK := kK.trans (Kept.of_below (S := [bo, bn, bl]) hbA)
    replace kx := kx.below' hbA
    replace kd := kd.below' hbA
    replace hS := hS.below hbA
    generalize (W1.alloc (.cells #[.int .u32 ds, .int .u16 dm] 30)).drew = W2 at *
    generalize W1.heap.size = q at *
    have e2 := kbs.lt
    have c2 := kbs.cell 0
    simp only [List.getElem?_toArray, List.getElem?_cons_zero, List.getElem?_cons_succ] at c2
    have x0 := kx.cell 0
    have x1 := kx.cell 1
    have x2 := kx.cell 2
    simp only [List.getElem?_toArray, List.getElem?_cons_zero, List.getElem?_cons_succ] at x0 x1 x2
    have e6 := kx.lt
    go_wp2_with fail
    refine (state_Floor τ ⟨xa, xl, xi⟩ s g1 g2 _ hS).mono ?_
    rintro e w3 ⟨rfl, hb3⟩
    rw [show getD0 τ.fl (⟨xa, xl, xi⟩ : Key) = (ds, dm) by simp [getD0, HX.out], HX.out]
    simp only [Option.isSome_some]
    clear x0 x1 x2 e2 e6 c2
    replace kbo := kbo.below' hb3
    replace kbn := kbn.below' hb3
    replace kbl := kbl.below' hb3
    replace kK := kK.trans (Kept.of_below (S := [bo, bn, bl]) hb3)
    replace kx := kx.below' hb3
    replace kd := kd.below' hb3
    replace kf := kf.below' hb3
    have e3 := kbo.lt
    have e4 := kbn.lt
    have e5 := kbl.lt
    have e6 := kx.lt
    have e8 := kd.lt
    have e9 := kf.lt
    have c3 := kbo.cell 0
    have c4 := kbn.cell 0
    simp only [List.getElem?_toArray, List.getElem?_cons_zero, List.getElem?_cons_succ] at c3 c4
    have l0 := kbl.cell 0
    have l1 := kbl.cell 1
    have l2 := kbl.cell 2
    simp only [List.getElem?_toArray, List.getElem?_cons_zero, List.getElem?_cons_succ] at l0 l1 l2
    have x0 := kx.cell 0
    have x1 := kx.cell 1
    have x2 := kx.cell 2
    simp only [List.getElem?_toArray, List.getElem?_cons_zero, List.getElem?_cons_succ] at x0 x1 x2
    have d0 := kd.cell 0
    have d1 := kd.cell 1
    simp only [List.getElem?_toArray, List.getElem?_cons_zero, List.getElem?_cons_succ] at d0 d1
    have f0 := kf.cell 0
    have f1 := kf.cell 1
    simp only [List.getElem?_toArray, List.getElem?_cons_zero, List.getElem?_cons_succ] at f0 f1
    have y1 := kbo.frozen 0
    have y2 := kbn.frozen 0
    have y3 := kbl.frozen 0
    have y4 := kbl.frozen 1
    have y5 := kbl.frozen 2
    go_wp2
    go_ret
    refine ⟨rfl, ?_, ?_, ?_, ?_⟩
    · simpa using (((((kbo.set 0 (.bool true)).other (a := ⟨bl, 0, none⟩) n2 (.int .u32 xa)).other (a := ⟨bl, 1, none⟩) n2 (.int .i64 xl)).other (a := ⟨bl, 2, none⟩) n2 (.int .u32 xi)).other (a := ⟨bn, 0, none⟩) n1 (.int .i64 1)).alloc (.cells #[.int .u32 ds, .int .u16 dm] 30)
    · simpa using (((((kbn.other (a := ⟨bo, 0, none⟩) n7 (.bool true)).other (a := ⟨bl, 0, none⟩) n3 (.int .u32 xa)).other (a := ⟨bl, 1, none⟩) n3 (.int .i64 xl)).other (a := ⟨bl, 2, none⟩) n3 (.int .u32 xi)).set 0 (.int .i64 1)).alloc (.cells #[.int .u32 ds, .int .u16 dm] 30)
    · simpa using (((((kbl.other (a := ⟨bo, 0, none⟩) n8 (.bool true)).set 0 (.int .u32 xa)).set 1 (.int .i64 xl)).set 2 (.int .u32 xi)).other (a := ⟨bn, 0, none⟩) n9 (.int .i64 1)).alloc (.cells #[.int .u32 ds, .int .u16 dm] 30)
    · exact kept_alloc (kept_set (kept_set (kept_set (kept_set (kept_set kK _ _ (.inl (by simp))) _ _ (.inl (by simp))) _ _ (.inl (by simp))) _ _ (.inl (by simp))) _ _ (.inl (by simp))) _
  have hne : ((n : Int) == 0) = false := by simpa using h0
  have hwr : IntKind.i64.wrap ((n : Int) + 1) = (n : Int) + 1 := by rw [IntKind.wrap_i64]; omega
  rcases hn.resolve_left h0 with hless | ⟨hless, ha, hl, hi⟩
  · clear hn
    go_enter Try.func75, Try.ntmps75
    go_wp2_with fail
    generalize (W.alloc (.cells #[.int .u32 xa, .int .i64 xl, .int .u32 xi] 27)).alloc (.cells #[.int .u32 ds, .int .u16 dm] 30) = W1 at *
    have e1 := kbm.lt
    have e2 := kbs.lt
    have e3 := kbo.lt
    have e4 := kbn.lt
    have e5 := kbl.lt
    have e6 := kx.lt
    have e7 := kM.lt
    have e8 := kd.lt
    have c1 := kbm.cell 0
    have c2 := kbs.cell 0
    simp only [List.getElem?_toArray, List.getElem?_cons_zero, List.getElem?_cons_succ] at c1 c2
    have x0 := kx.cell 0
    have x1 := kx.cell 1
    have x2 := kx.cell 2
    simp only [List.getElem?_toArray, List.getElem?_cons_zero, List.getElem?_cons_succ] at x0 x1 x2
    have m0 := kM.cell 0
    have m1 := kM.cell 1
    have m2 := kM.cell 2
    have m3 := kM.cell 3
    have mf0 := kM.frozen 0
    have mf1 := kM.frozen 1
    have mf2 := kM.frozen 2
    have mf3 := kM.frozen 3
    simp only [List.getElem?_toArray, List.getElem?_cons_zero, List.getElem?_cons_succ] at m0 m1 m2 m3
    refine draw_start [] (Below W1.heap.size) (by kernel_rfl) ?_
    refine draw_chunk (n := 76) (by kernel_rfl) (fun _ _ _ _ _ h => h) [0, 1, 2, 3, 4, 5, 6, 7, 8] [] _ #[true, true, true, true, true, true, true, true, true, false, false, false] (by kernel_rfl) 3 _ ?_ _ rfl ?_ ?_
    rotate_left
    · intro w' hw'
      have hc' : ∀ b o, b < W1.heap.size → w'.cell? ⟨b, o, none⟩ = W1.cell? ⟨b, o, none⟩ := fun b o h => hw'.cell (p := ⟨b, o, none⟩) h
      have hlk := hL w' hw'
      refine ci_step (i := 0) (v := ?_) rfl (by kernel_rfl) ?_ ?_
      rotate_left
      · first | (go_simp; done) | (go_simp; with_reducible rfl)
      skip
      try simp only [Act.put, List.setIfInBounds_toArray, List.set_cons_zero, List.set_cons_succ]
      refine ci_step (i := 1) (v := ?_) rfl (by kernel_rfl) ?_ ?_
      rotate_left
      · first | (go_simp; done) | (go_simp; with_reducible rfl)
      skip
      try simp only [Act.put, List.setIfInBounds_toArray, List.set_cons_zero, List.set_cons_succ]
      refine ci_step (i := 2) (v := ?_) rfl (by kernel_rfl) ?_ ?_
      rotate_left
      · first | (go_simp; done) | (go_simp; with_reducible rfl)
      skip
      try simp only [Act.put, List.setIfInBounds_toArray, List.set_cons_zero, List.set_cons_succ]
      refine ci_step (i := 3) (v := ?_) rfl (by kernel_rfl) ?_ ?_
      rotate_left
      · first | (go_simp; done) | (go_simp; with_reducible rfl)
      skip
      try simp only [Act.put, List.setIfInBounds_toArray, List.set_cons_zero, List.set_cons_succ]
      refine ci_step (i := 4) (v := ?_) rfl (by kernel_rfl) ?_ ?_
      rotate_left
      · first | (go_simp; done) | (go_simp; with_reducible rfl)
      skip
      try simp only [Act.put, List.setIfInBounds_toArray, List.set_cons_zero, List.set_cons_succ]
      refine ci_step (i := 5) (v := ?_) rfl (by kernel_rfl) ?_ ?_
      rotate_left
      · first | (go_simp; done) | (go_simp; with_reducible rfl)
      skip
      try simp only [Act.put, List.setIfInBounds_toArray, List.set_cons_zero, List.set_cons_succ]
      refine ci_step (i := 6) (v := ?_) rfl (by kernel_rfl) ?_ ?_
      rotate_left
      · first | (go_simp; done) | (go_simp; with_reducible rfl)
      skip
      try simp only [Act.put, List.setIfInBounds_toArray, List.set_cons_zero, List.set_cons_succ]
      refine ci_step (i := 7) (v := ?_) rfl (by kernel_rfl) ?_ ?_
      rotate_left
      · first | (go_simp; done) | (go_simp; with_reducible rfl)
      skip
      try simp only [Act.put, List.setIfInBounds_toArray, List.set_cons_zero, List.set_cons_succ]
      refine ci_step (i := 8) (v := ?_) rfl (by kernel_rfl) ?_ ?_
      rotate_left
      · first | (go_simp; done) | (go_simp; with_reducible rfl)
      skip
      try simp only [Act.put, List.setIfInBounds_toArray, List.set_cons_zero, List.set_cons_succ]
      refine ci_end ?_
      rfl
    refine draw_eff (i := 9) rfl (by kernel_rfl) (listed' := #[true, true, true, true, true, true, true, true, true, true, false, false]) rfl (fun K hK => ?_)
    replace hK := Lib.hid hK
    go_wp2_with fail
    refine hK.out _ _ ⟨fun _ => below_dd ((Below.refl _ W1).alloc (Nat.le_refl _) _), ?_⟩
    clear hK
    refine draw_eff (i := 10) rfl (by kernel_rfl) (listed' := #[true, true, true, true, true, true, true, true, true, true, true, false]) rfl (fun K hK => ?_)
    replace hK := Lib.hid hK
    go_wp2_with fail
    refine hK.out _ _ ⟨fun _ => below_dd (below_two ((Below.refl _ W1).alloc (Nat.le_refl _) _) ((Below.refl _ W1).alloc (Nat.le_refl _) _) (by simp)), ?_⟩
    clear hK
    refine draw_chunk (n := 76) (by kernel_rfl) (fun _ _ _ _ _ h => h) [11] [] _ #[true, true, true, true, true, true, true, true, true, true, true, true] (by kernel_rfl) 0 _ ?_ _ rfl ?_ ?_
    rotate_left
    · intro w' hw'
      have hc' : ∀ b o, b < W1.heap.size → w'.cell? ⟨b, o, none⟩ = ((W1.alloc (.cells #[.int .u32 ds, .int .u16 dm] 30)).drew).cell? ⟨b, o, none⟩ := fun b o h => hw'.cell (p := ⟨b, o, none⟩) h
      refine ci_step (i := 11) (v := ?_) rfl (by kernel_rfl) ?_ ?_
      rotate_left
      · first | (go_simp; done) | (go_simp; with_reducible rfl)
      skip
      try simp only [Act.put, List.setIfInBounds_toArray, List.set_cons_zero, List.set_cons_succ]
      refine ci_end ?_
      rfl
    refine draw_done (by kernel_rfl) ?_ _
    have hbA := Below.drew ((Below.refl W1.heap.size W1).alloc (Nat.le_refl _) (.cells #[.int .u32 ds, .int .u16 dm] 30))
    have kf := (Blk.new W1 30 #[.int .u32 ds, .int .u16 dm]).drew
    have p1 : W1.heap.size ≠ bo := by omega
    have p2 : W1.heap.size ≠ bn := by omega
    have p3 : W1.heap.size ≠ bl := by omega
    clear e1 e2 e3 e4 e5 e6 e7 e8 c1 c2 x0 x1 x2 m0 m1 m2 m3 mf0 mf1 mf2 mf3 hL
    replace kbo := kbo.below' hbA
    replace kbn := kbn.below' hbA
    replace kbl := kbl.below' hbA
    replace kbs := kbs.below' hbA
    replace kK := kK.trans (Kept.of_below (S := [bo, bn, bl]) hbA)
    replace kx := kx.below' hbA
    replace kd := kd.below' hbA
    replace hS := hS.below hbA
    generalize (W1.alloc (.cells #[.int .u32 ds, .int .u16 dm] 30)).drew = W2 at *
    generalize W1.heap.size = q at *
    have e2 := kbs.lt
    have c2 := kbs.cell 0
    simp only [List.getElem?_toArray, List.getElem?_cons_zero, List.getElem?_cons_succ] at c2
    have x0 := kx.cell 0
    have x1 := kx.cell 1
    have x2 := kx.cell 2
    simp only [List.getElem?_toArray, List.getElem?_cons_zero, List.getElem?_cons_succ] at x0 x1 x2
    have e6 := kx.lt
    go_wp2_with fail
    refine (state_Floor τ ⟨xa, xl, xi⟩ s g1 g2 _ hS).mono ?_
    rintro e w3 ⟨rfl, hb3⟩
    rw [show getD0 τ.fl (⟨xa, xl, xi⟩ : Key) = (ds, dm) by simp [getD0, HX.out], HX.out]
    simp only [Option.isSome_some]
    clear x0 x1 x2 e2 e6 c2
    replace kbo := kbo.below' hb3
    replace kbn := kbn.below' hb3
    replace kbl := kbl.below' hb3
    replace kK := kK.trans (Kept.of_below (S := [bo, bn, bl]) hb3)
    replace kx := kx.below' hb3
    replace kd := kd.below' hb3
    replace kf := kf.below' hb3
    have e3 := kbo.lt
    have e4 := kbn.lt
    have e5 := kbl.lt
    have e6 := kx.lt
    have e8 := kd.lt
    have e9 := kf.lt
    have c3 := kbo.cell 0
    have c4 := kbn.cell 0
    simp only [List.getElem?_toArray, List.getElem?_cons_zero, List.getElem?_cons_succ] at c3 c4
    have l0 := kbl.cell 0
    have l1 := kbl.cell 1
    have l2 := kbl.cell 2
    simp only [List.getElem?_toArray, List.getElem?_cons_zero, List.getElem?_cons_succ] at l0 l1 l2
    have x0 := kx.cell 0
    have x1 := kx.cell 1
    have x2 := kx.cell 2
    simp only [List.getElem?_toArray, List.getElem?_cons_zero, List.getElem?_cons_succ] at x0 x1 x2
    have d0 := kd.cell 0
    have d1 := kd.cell 1
    simp only [List.getElem?_toArray, List.getElem?_cons_zero, List.getElem?_cons_succ] at d0 d1
    have f0 := kf.cell 0
    have f1 := kf.cell 1
    simp only [List.getElem?_toArray, List.getElem?_cons_zero, List.getElem?_cons_succ] at f0 f1
    go_wp2_with fail
    have hbB := (Below.refl w3.heap.size w3).alloc (Nat.le_refl _) (.cells #[.int .u32 ds, .int .u16 dm] 30)
    have kg := Blk.new w3 30 #[.int .u32 ds, .int .u16 dm]
    have p4 : w3.heap.size ≠ bo := by omega
    have p5 : w3.heap.size ≠ bn := by omega
    have p6 : w3.heap.size ≠ bl := by omega
    clear c3 c4 l0 l1 l2 x0 x1 x2 d0 d1 f0 f1 e3 e4 e5 e6 e8 e9
    replace kbo := kbo.below' hbB
    replace kbn := kbn.below' hbB
    replace kbl := kbl.below' hbB
    replace kK := kK.trans (Kept.of_below (S := [bo, bn, bl]) hbB)
    replace kx := kx.below' hbB
    replace kd := kd.below' hbB
    replace kf := kf.below' hbB
    clear hbB
    generalize w3.alloc (.cells #[.int .u32 ds, .int .u16 dm] 30) = W3 at *
    generalize w3.heap.size = r at *
    refine (law02_Less _ _ _ _ _).mono ?_
    rintro e w4 ⟨rfl, hb4⟩
    replace kbo := kbo.below' hb4
    replace kbn := kbn.below' hb4
    replace kbl := kbl.below' hb4
    replace kK := kK.trans (Kept.of_below (S := [bo, bn, bl]) hb4)
    replace kx := kx.below' hb4
    replace kd := kd.below' hb4
    replace kf := kf.below' hb4
    replace kg := kg.below' hb4
    have e3 := kbo.lt
    have e4 := kbn.lt
    have e5 := kbl.lt
    have e6 := kx.lt
    have e8 := kd.lt
    have e9 := kf.lt
    have c3 := kbo.cell 0
    have c4 := kbn.cell 0
    simp only [List.getElem?_toArray, List.getElem?_cons_zero, List.getElem?_cons_succ] at c3 c4
    have l0 := kbl.cell 0
    have l1 := kbl.cell 1
    have l2 := kbl.cell 2
    simp only [List.getElem?_toArray, List.getElem?_cons_zero, List.getElem?_cons_succ] at l0 l1 l2
    have x0 := kx.cell 0
    have x1 := kx.cell 1
    have x2 := kx.cell 2
    simp only [List.getElem?_toArray, List.getElem?_cons_zero, List.getElem?_cons_succ] at x0 x1 x2
    have d0 := kd.cell 0
    have d1 := kd.cell 1
    simp only [List.getElem?_toArray, List.getElem?_cons_zero, List.getElem?_cons_succ] at d0 d1
    have f0 := kf.cell 0
    have f1 := kf.cell 1
    simp only [List.getElem?_toArray, List.getElem?_cons_zero, List.getElem?_cons_succ] at f0 f1
    have g0 := kg.cell 0
    have g1 := kg.cell 1
    simp only [List.getElem?_toArray, List.getElem?_cons_zero, List.getElem?_cons_succ] at g0 g1
    have e10 := kg.lt
    clear hb4
    rw [hless]
    have y1 := kbo.frozen 0
    have y2 := kbn.frozen 0
    have y3 := kbl.frozen 0
    have y4 := kbl.frozen 1
    have y5 := kbl.frozen 2
    go_wp2
    go_ret
    refine ⟨rfl, ?_, ?_, ?_, ?_⟩
    · simpa using ((((kbo.set 0 (.bool true)).other (a := ⟨bl, 0, none⟩) n2 (.int .u32 xa)).other (a := ⟨bl, 1, none⟩) n2 (.int .i64 xl)).other (a := ⟨bl, 2, none⟩) n2 (.int .u32 xi)).other (a := ⟨bn, 0, none⟩) n1 (.int .i64 ((n : Int) + 1))
    · simpa using ((((kbn.other (a := ⟨bo, 0, none⟩) n7 (.bool true)).other (a := ⟨bl, 0, none⟩) n3 (.int .u32 xa)).other (a := ⟨bl, 1, none⟩) n3 (.int .i64 xl)).other (a := ⟨bl, 2, none⟩) n3 (.int .u32 xi)).set 0 (.int .i64 ((n : Int) + 1))
    · simpa using ((((kbl.other (a := ⟨bo, 0, none⟩) n8 (.bool true)).set 0 (.int .u32 xa)).set 1 (.int .i64 xl)).set 2 (.int .u32 xi)).other (a := ⟨bn, 0, none⟩) n9 (.int .i64 ((n : Int) + 1))
    · exact kept_set (kept_set (kept_set (kept_set (kept_set kK _ _ (.inl (by simp))) _ _ (.inl (by simp))) _ _ (.inl (by simp))) _ _ (.inl (by simp))) _ _ (.inl (by simp))
  · clear hn
    have ha' := ha.symm
    have hl' := hl.symm
    clear ha hl
    subst ha' hl'
    have hib : decide (li < xi) = true := decide_eq_true hi
    go_enter Try.func75, Try.ntmps75
    go_wp2_with fail
    generalize (W.alloc (.cells #[.int .u32 xa, .int .i64 xl, .int .u32 xi] 27)).alloc (.cells #[.int .u32 ds, .int .u16 dm] 30) = W1 at *
    have e1 := kbm.lt
    have e2 := kbs.lt
    have e3 := kbo.lt
    have e4 := kbn.lt
    have e5 := kbl.lt
    have e6 := kx.lt
    have e7 := kM.lt
    have e8 := kd.lt
    have c1 := kbm.cell 0
    have c2 := kbs.cell 0
    simp only [List.getElem?_toArray, List.getElem?_cons_zero, List.getElem?_cons_succ] at c1 c2
    have x0 := kx.cell 0
    have x1 := kx.cell 1
    have x2 := kx.cell 2
    simp only [List.getElem?_toArray, List.getElem?_cons_zero, List.getElem?_cons_succ] at x0 x1 x2
    have m0 := kM.cell 0
    have m1 := kM.cell 1
    have m2 := kM.cell 2
    have m3 := kM.cell 3
    have mf0 := kM.frozen 0
    have mf1 := kM.frozen 1
    have mf2 := kM.frozen 2
    have mf3 := kM.frozen 3
    simp only [List.getElem?_toArray, List.getElem?_cons_zero, List.getElem?_cons_succ] at m0 m1 m2 m3
    refine draw_start [] (Below W1.heap.size) (by kernel_rfl) ?_
    refine draw_chunk (n := 76) (by kernel_rfl) (fun _ _ _ _ _ h => h) [0, 1, 2, 3, 4, 5, 6, 7, 8] [] _ #[true, true, true, true, true, true, true, true, true, false, false, false] (by kernel_rfl) 3 _ ?_ _ rfl ?_ ?_
    rotate_left
    · intro w' hw'
      have hc' : ∀ b o, b < W1.heap.size → w'.cell? ⟨b, o, none⟩ = W1.cell? ⟨b, o, none⟩ := fun b o h => hw'.cell (p := ⟨b, o, none⟩) h
      have hlk := hL w' hw'
      refine ci_step (i := 0) (v := ?_) rfl (by kernel_rfl) ?_ ?_
      rotate_left
      · first | (go_simp; done) | (go_simp; with_reducible rfl)
      skip
      try simp only [Act.put, List.setIfInBounds_toArray, List.set_cons_zero, List.set_cons_succ]
      refine ci_step (i := 1) (v := ?_) rfl (by kernel_rfl) ?_ ?_
      rotate_left
      · first | (go_simp; done) | (go_simp; with_reducible rfl)
      skip
      try simp only [Act.put, List.setIfInBounds_toArray, List.set_cons_zero, List.set_cons_succ]
      refine ci_step (i := 2) (v := ?_) rfl (by kernel_rfl) ?_ ?_
      rotate_left
      · first | (go_simp; done) | (go_simp; with_reducible rfl)
      skip
      try simp only [Act.put, List.setIfInBounds_toArray, List.set_cons_zero, List.set_cons_succ]
      refine ci_step (i := 3) (v := ?_) rfl (by kernel_rfl) ?_ ?_
      rotate_left
      · first | (go_simp; done) | (go_simp; with_reducible rfl)
      skip
      try simp only [Act.put, List.setIfInBounds_toArray, List.set_cons_zero, List.set_cons_succ]
      refine ci_step (i := 4) (v := ?_) rfl (by kernel_rfl) ?_ ?_
      rotate_left
      · first | (go_simp; done) | (go_simp; with_reducible rfl)
      skip
      try simp only [Act.put, List.setIfInBounds_toArray, List.set_cons_zero, List.set_cons_succ]
      refine ci_step (i := 5) (v := ?_) rfl (by kernel_rfl) ?_ ?_
      rotate_left
      · first | (go_simp; done) | (go_simp; with_reducible rfl)
      skip
      try simp only [Act.put, List.setIfInBounds_toArray, List.set_cons_zero, List.set_cons_succ]
      refine ci_step (i := 6) (v := ?_) rfl (by kernel_rfl) ?_ ?_
      rotate_left
      · first | (go_simp; done) | (go_simp; with_reducible rfl)
      skip
      try simp only [Act.put, List.setIfInBounds_toArray, List.set_cons_zero, List.set_cons_succ]
      refine ci_step (i := 7) (v := ?_) rfl (by kernel_rfl) ?_ ?_
      rotate_left
      · first | (go_simp; done) | (go_simp; with_reducible rfl)
      skip
      try simp only [Act.put, List.setIfInBounds_toArray, List.set_cons_zero, List.set_cons_succ]
      refine ci_step (i := 8) (v := ?_) rfl (by kernel_rfl) ?_ ?_
      rotate_left
      · first | (go_simp; done) | (go_simp; with_reducible rfl)
      skip
      try simp only [Act.put, List.setIfInBounds_toArray, List.set_cons_zero, List.set_cons_succ]
      refine ci_end ?_
      rfl
    refine draw_eff (i := 9) rfl (by kernel_rfl) (listed' := #[true, true, true, true, true, true, true, true, true, true, false, false]) rfl (fun K hK => ?_)
    replace hK := Lib.hid hK
    go_wp2_with fail
    refine hK.out _ _ ⟨fun _ => below_dd ((Below.refl _ W1).alloc (Nat.le_refl _) _), ?_⟩
    clear hK
    refine draw_eff (i := 10) rfl (by kernel_rfl) (listed' := #[true, true, true, true, true, true, true, true, true, true, true, false]) rfl (fun K hK => ?_)
    replace hK := Lib.hid hK
    go_wp2_with fail
    refine hK.out _ _ ⟨fun _ => below_dd (below_two ((Below.refl _ W1).alloc (Nat.le_refl _) _) ((Below.refl _ W1).alloc (Nat.le_refl _) _) (by simp)), ?_⟩
    clear hK
    refine draw_chunk (n := 76) (by kernel_rfl) (fun _ _ _ _ _ h => h) [11] [] _ #[true, true, true, true, true, true, true, true, true, true, true, true] (by kernel_rfl) 0 _ ?_ _ rfl ?_ ?_
    rotate_left
    · intro w' hw'
      have hc' : ∀ b o, b < W1.heap.size → w'.cell? ⟨b, o, none⟩ = ((W1.alloc (.cells #[.int .u32 ds, .int .u16 dm] 30)).drew).cell? ⟨b, o, none⟩ := fun b o h => hw'.cell (p := ⟨b, o, none⟩) h
      refine ci_step (i := 11) (v := ?_) rfl (by kernel_rfl) ?_ ?_
      rotate_left
      · first | (go_simp; done) | (go_simp; with_reducible rfl)
      skip
      try simp only [Act.put, List.setIfInBounds_toArray, List.set_cons_zero, List.set_cons_succ]
      refine ci_end ?_
      rfl
    refine draw_done (by kernel_rfl) ?_ _
    have hbA := Below.drew ((Below.refl W1.heap.size W1).alloc (Nat.le_refl _) (.cells #[.int .u32 ds, .int .u16 dm] 30))
    have kf := (Blk.new W1 30 #[.int .u32 ds, .int .u16 dm]).drew
    have p1 : W1.heap.size ≠ bo := by omega
    have p2 : W1.heap.size ≠ bn := by omega
    have p3 : W1.heap.size ≠ bl := by omega
    clear e1 e2 e3 e4 e5 e6 e7 e8 c1 c2 x0 x1 x2 m0 m1 m2 m3 mf0 mf1 mf2 mf3 hL
    replace kbo := kbo.below' hbA
    replace kbn := kbn.below' hbA
    replace kbl := kbl.below' hbA
    replace kbs := kbs.below' hbA
    replace kK := kK.trans (Kept.of_below (S := [bo, bn, bl]) hbA)
    replace kx := kx.below' hbA
    replace kd := kd.below' hbA
    replace hS := hS.below hbA
    generalize (W1.alloc (.cells #[.int .u32 ds, .int .u16 dm] 30)).drew = W2 at *
    generalize W1.heap.size = q at *
    have e2 := kbs.lt
    have c2 := kbs.cell 0
    simp only [List.getElem?_toArray, List.getElem?_cons_zero, List.getElem?_cons_succ] at c2
    have x0 := kx.cell 0
    have x1 := kx.cell 1
    have x2 := kx.cell 2
    simp only [List.getElem?_toArray, List.getElem?_cons_zero, List.getElem?_cons_succ] at x0 x1 x2
    have e6 := kx.lt
    go_wp2_with fail
    refine (state_Floor τ ⟨xa, xl, xi⟩ s g1 g2 _ hS).mono ?_
    rintro e w3 ⟨rfl, hb3⟩
    rw [show getD0 τ.fl (⟨xa, xl, xi⟩ : Key) = (ds, dm) by simp [getD0, HX.out], HX.out]
    simp only [Option.isSome_some]
    clear x0 x1 x2 e2 e6 c2
    replace kbo := kbo.below' hb3
    replace kbn := kbn.below' hb3
    replace kbl := kbl.below' hb3
    replace kK := kK.trans (Kept.of_below (S := [bo, bn, bl]) hb3)
    replace kx := kx.below' hb3
    replace kd := kd.below' hb3
    replace kf := kf.below' hb3
    have e3 := kbo.lt
    have e4 := kbn.lt
    have e5 := kbl.lt
    have e6 := kx.lt
    have e8 := kd.lt
    have e9 := kf.lt
    have c3 := kbo.cell 0
    have c4 := kbn.cell 0
    simp only [List.getElem?_toArray, List.getElem?_cons_zero, List.getElem?_cons_succ] at c3 c4
    have l0 := kbl.cell 0
    have l1 := kbl.cell 1
    have l2 := kbl.cell 2
    simp only [List.getElem?_toArray, List.getElem?_cons_zero, List.getElem?_cons_succ] at l0 l1 l2
    have x0 := kx.cell 0
    have x1 := kx.cell 1
    have x2 := kx.cell 2
    simp only [List.getElem?_toArray, List.getElem?_cons_zero, List.getElem?_cons_succ] at x0 x1 x2
    have d0 := kd.cell 0
    have d1 := kd.cell 1
    simp only [List.getElem?_toArray, List.getElem?_cons_zero, List.getElem?_cons_succ] at d0 d1
    have f0 := kf.cell 0
    have f1 := kf.cell 1
    simp only [List.getElem?_toArray, List.getElem?_cons_zero, List.getElem?_cons_succ] at f0 f1
    go_wp2_with fail
    have hbB := (Below.refl w3.heap.size w3).alloc (Nat.le_refl _) (.cells #[.int .u32 ds, .int .u16 dm] 30)
    have kg := Blk.new w3 30 #[.int .u32 ds, .int .u16 dm]
    have p4 : w3.heap.size ≠ bo := by omega
    have p5 : w3.heap.size ≠ bn := by omega
    have p6 : w3.heap.size ≠ bl := by omega
    clear c3 c4 l0 l1 l2 x0 x1 x2 d0 d1 f0 f1 e3 e4 e5 e6 e8 e9
    replace kbo := kbo.below' hbB
    replace kbn := kbn.below' hbB
    replace kbl := kbl.below' hbB
    replace kK := kK.trans (Kept.of_below (S := [bo, bn, bl]) hbB)
    replace kx := kx.below' hbB
    replace kd := kd.below' hbB
    replace kf := kf.below' hbB
    clear hbB
    generalize w3.alloc (.cells #[.int .u32 ds, .int .u16 dm] 30) = W3 at *
    generalize w3.heap.size = r at *
    refine (law02_Less _ _ _ _ _).mono ?_
    rintro e w4 ⟨rfl, hb4⟩
    replace kbo := kbo.below' hb4
    replace kbn := kbn.below' hb4
    replace kbl := kbl.below' hb4
    replace kK := kK.trans (Kept.of_below (S := [bo, bn, bl]) hb4)
    replace kx := kx.below' hb4
    replace kd := kd.below' hb4
    replace kf := kf.below' hb4
    replace kg := kg.below' hb4
    have e3 := kbo.lt
    have e4 := kbn.lt
    have e5 := kbl.lt
    have e6 := kx.lt
    have e8 := kd.lt
    have e9 := kf.lt
    have c3 := kbo.cell 0
    have c4 := kbn.cell 0
    simp only [List.getElem?_toArray, List.getElem?_cons_zero, List.getElem?_cons_succ] at c3 c4
    have l0 := kbl.cell 0
    have l1 := kbl.cell 1
    have l2 := kbl.cell 2
    simp only [List.getElem?_toArray, List.getElem?_cons_zero, List.getElem?_cons_succ] at l0 l1 l2
    have x0 := kx.cell 0
    have x1 := kx.cell 1
    have x2 := kx.cell 2
    simp only [List.getElem?_toArray, List.getElem?_cons_zero, List.getElem?_cons_succ] at x0 x1 x2
    have d0 := kd.cell 0
    have d1 := kd.cell 1
    simp only [List.getElem?_toArray, List.getElem?_cons_zero, List.getElem?_cons_succ] at d0 d1
    have f0 := kf.cell 0
    have f1 := kf.cell 1
    simp only [List.getElem?_toArray, List.getElem?_cons_zero, List.getElem?_cons_succ] at f0 f1
    have g0 := kg.cell 0
    have g1 := kg.cell 1
    simp only [List.getElem?_toArray, List.getElem?_cons_zero, List.getElem?_cons_succ] at g0 g1
    have e10 := kg.lt
    clear hb4
    rw [hless]
    have y1 := kbo.frozen 0
    have y2 := kbn.frozen 0
    have y3 := kbl.frozen 0
    have y4 := kbl.frozen 1
    have y5 := kbl.frozen 2
    go_wp2
    go_ret
    refine ⟨rfl, ?_, ?_, ?_, ?_⟩
    · simpa using ((((kbo.set 0 (.bool true)).other (a := ⟨bl, 0, none⟩) n2 (.int .u32 xa)).other (a := ⟨bl, 1, none⟩) n2 (.int .i64 xl)).other (a := ⟨bl, 2, none⟩) n2 (.int .u32 xi)).other (a := ⟨bn, 0, none⟩) n1 (.int .i64 ((n : Int) + 1))
    · simpa using ((((kbn.other (a := ⟨bo, 0, none⟩) n7 (.bool true)).other (a := ⟨bl, 0, none⟩) n3 (.int .u32 xa)).other (a := ⟨bl, 1, none⟩) n3 (.int .i64 xl)).other (a := ⟨bl, 2, none⟩) n3 (.int .u32 xi)).set 0 (.int .i64 ((n : Int) + 1))
    · simpa using ((((kbl.other (a := ⟨bo, 0, none⟩) n8 (.bool true)).set 0 (.int .u32 xa)).set 1 (.int .i64 xl)).set 2 (.int .u32 xi)).other (a := ⟨bn, 0, none⟩) n9 (.int .i64 ((n : Int) + 1))
    · exact kept_set (kept_set (kept_set (kept_set (kept_set kK _ _ (.inl (by simp))) _ _ (.inl (by simp))) _ _ (.inl (by simp))) _ _ (.inl (by simp))) _ _ (.inl (by simp))
end Go.Proofs.Ytnfaeafplaeehaa
