import Derived.Test.YtnfaeafplaeehaaModel
set_option linter.unusedVariables false
set_option linter.unusedSimpArgs false
namespace Go.Proofs.Ytnfaeafplaeehaa
open Go.RowKit

/-- May a way be taken; may something be told. -/
def feasB (fl : List (Key × Dst)) (k : Key) (d : Dst) : Bool := d.2 == 65535 || match getM fl k with
  | none => true
  | some f => gtB d f
def coversB (fl : List (Key × Dst)) (k : Key) (d : Dst) : Bool := d.2 == 65535 || match getM fl k with
  | none => false
  | some f => !gtB d f
theorem cmp_ge (d f : Dst) : decide (distCmp f.1 f.2 d.1 d.2 ≥ 0) = !gtB d f := by
  rw [gtB_better]
  have := distCmp_nonneg f.1 f.2 d.1 d.2
  by_cases h : betterB d.1 d.2 f.1 f.2 = true
  · have h1 := (distCmp_better _ _ _ _ h).2.1
    simp [h, h1]
  · have h2 : betterB d.1 d.2 f.1 f.2 = false := by simpa using h
    rw [h2]
    simp only [betterB, decide_eq_false_iff_not] at h2
    simp only [Bool.not_false, decide_eq_true_eq, ge_iff_le, this]
    omega

set_option maxHeartbeats 4000000 in
theorem state_Feasible (σ : St) (k : Key) (d : Dst) (s g1 g2 : Nat) (w : World) (h : StAt 121 w s g1 g2 σ) :
    Calls Try.prog 18 #[.pointer (some ⟨s, 0, none⟩), k.val, dstV d] w fun e w' => e = .returned (.bool (feasB σ.fl k d)) ∧ Below w.heap.size w w' := by
  obtain ⟨hB, hm1, hm2, hs1, hs2, h12⟩ := h
  obtain ⟨id, lease, own, fl⟩ := σ
  obtain ⟨a, l, rid⟩ := k
  obtain ⟨ds, dm⟩ := d
  dsimp only at hB hm1 hm2
  simp only [Key.val, dstV]
  have hlt := hB.lt
  cases hg : getM fl (⟨a, l, rid⟩ : Key) with
  | none =>
    have HF := Lib.hid (show feasB fl ⟨a, l, rid⟩ (ds, dm) = true by simp [feasB, hg])
    go_enter Try.func18, Try.ntmps18
    go_wp2_with fail
    have hbW : Below w.heap.size w ((w.alloc (.cells #[.int .u32 a, .int .i64 l, .int .u32 rid] 27)).alloc (.cells #[.int .u32 ds, .int .u16 dm] 30)) := ((Below.refl _ _).alloc (Nat.le_refl _) _).alloc (by simp) _
    have kB2 := (hB.alloc (.cells #[.int .u32 a, .int .i64 l, .int .u32 rid] 27)).alloc (.cells #[.int .u32 ds, .int .u16 dm] 30)
    have hm := (hm2.alloc (.cells #[.int .u32 a, .int .i64 l, .int .u32 rid] 27)).alloc (.cells #[.int .u32 ds, .int .u16 dm] 30)
    have kY := (Blk.new w 27 #[.int .u32 a, .int .i64 l, .int .u32 rid]).alloc (.cells #[.int .u32 ds, .int .u16 dm] 30)
    have kD := Blk.new (w.alloc (.cells #[.int .u32 a, .int .i64 l, .int .u32 rid] 27)) 30 #[.int .u32 ds, .int .u16 dm]
    simp only [World.size_alloc] at kD
    generalize hW : (w.alloc (.cells #[.int .u32 a, .int .i64 l, .int .u32 rid] 27)).alloc (.cells #[.int .u32 ds, .int .u16 dm] 30) = W at hbW kB2 hm kY kD ⊢
    have hsz : W.heap.size = w.heap.size + 1 + 1 := by rw [← hW]; simp
    have hl1 := kB2.lt
    have hl2 := kY.lt
    have hl3 := kD.lt
    rw [hsz] at hl1 hl2 hl3
    have b0 := kB2.cell 0
    have b1 := kB2.cell 1
    have b2 := kB2.cell 2
    have b3 := kB2.cell 3
    have bf0 := kB2.frozen 0
    have bf1 := kB2.frozen 1
    have bf2 := kB2.frozen 2
    have bf3 := kB2.frozen 3
    simp only [List.getElem?_toArray, List.getElem?_cons_zero, List.getElem?_cons_succ] at b0 b1 b2 b3
    have y0 := kY.cell 0
    have y1 := kY.cell 1
    have y2 := kY.cell 2
    simp only [List.getElem?_toArray, List.getElem?_cons_zero, List.getElem?_cons_succ] at y0 y1 y2
    refine draw_start [] (Below W.heap.size) (by kernel_rfl) ?_
    refine draw_chunk (n := 30) (by kernel_rfl) (fun _ _ _ _ _ h => h) [0, 1, 2, 3, 4, 5, 6, 7, 8] [] _ #[true, true, true, true, true, true, true, true, true, false, false, false] (by kernel_rfl) 3 _ ?_ _ rfl ?_ ?_
    rotate_left
    · intro w' hw'
      have hc' : ∀ b o, b < W.heap.size → w'.cell? ⟨b, o, none⟩ = W.cell? ⟨b, o, none⟩ := fun b o h => hw'.cell (p := ⟨b, o, none⟩) h
      have hl := run_lookup_none key_keys Try.underlying43 (hm.same (hw'.block _ hm.lt)) ⟨a, l, rid⟩ hg true _ dist_zero; simp only [Key.val, dstV] at hl
      refine ci_step (i := 0) (v := ?_) rfl (by kernel_rfl) ?_ ?_
      rotate_left
      · first | (go_simp; done) | (go_simp; with_reducible rfl)
      skip
      try simp only [Act.put, List.setIfInBounds_toArray, List.set_cons_zero, List.set_cons_succ]
      refine ci_step (i := 1) (v := ?_) rfl (by kernel_rfl) ?_ ?_
      rotate_left
      · first | (go_simp; done) | (go_simp; with_reducible rfl)
      skip
      try simp only [Act.put, List.setIfInBounds_toArray, List.set_cons_zero, List.set_cons_succ]
      refine ci_step (i := 2) (v := ?_) rfl (by kernel_rfl) ?_ ?_
      rotate_left
      · first | (go_simp; done) | (go_simp; with_reducible rfl)
      skip
      try simp only [Act.put, List.setIfInBounds_toArray, List.set_cons_zero, List.set_cons_succ]
      refine ci_step (i := 3) (v := ?_) rfl (by kernel_rfl) ?_ ?_
      rotate_left
      · first | (go_simp; done) | (go_simp; with_reducible rfl)
      skip
      try simp only [Act.put, List.setIfInBounds_toArray, List.set_cons_zero, List.set_cons_succ]
      refine ci_step (i := 4) (v := ?_) rfl (by kernel_rfl) ?_ ?_
      rotate_left
      · first | (go_simp; done) | (go_simp; with_reducible rfl)
      skip
      try simp only [Act.put, List.setIfInBounds_toArray, List.set_cons_zero, List.set_cons_succ]
      refine ci_step (i := 5) (v := ?_) rfl (by kernel_rfl) ?_ ?_
      rotate_left
      · first | (go_simp; done) | (go_simp; with_reducible rfl)
      skip
      try simp only [Act.put, List.setIfInBounds_toArray, List.set_cons_zero, List.set_cons_succ]
      refine ci_step (i := 6) (v := ?_) rfl (by kernel_rfl) ?_ ?_
      rotate_left
      · first | (go_simp; done) | (go_simp; with_reducible rfl)
      skip
      try simp only [Act.put, List.setIfInBounds_toArray, List.set_cons_zero, List.set_cons_succ]
      refine ci_step (i := 7) (v := ?_) rfl (by kernel_rfl) ?_ ?_
      rotate_left
      · first | (go_simp; done) | (go_simp; with_reducible rfl)
      skip
      try simp only [Act.put, List.setIfInBounds_toArray, List.set_cons_zero, List.set_cons_succ]
      refine ci_step (i := 8) (v := ?_) rfl (by kernel_rfl) ?_ ?_
      rotate_left
      · first | (go_simp; done) | (go_simp; with_reducible rfl)
      skip
      try simp only [Act.put, List.setIfInBounds_toArray, List.set_cons_zero, List.set_cons_succ]
      refine ci_end ?_
      rfl
    refine draw_eff (i := 9) rfl (by kernel_rfl) (listed' := #[true, true, true, true, true, true, true, true, true, true, false, false]) rfl (fun K hK => ?_)
    replace hK := Lib.hid hK
    go_wp2_with fail
    refine hK.out _ _ ⟨fun _ => below_dd ((Below.refl _ W).alloc (Nat.le_refl _) _), ?_⟩
    clear hK
    refine draw_eff (i := 10) rfl (by kernel_rfl) (listed' := #[true, true, true, true, true, true, true, true, true, true, true, false]) rfl (fun K hK => ?_)
    replace hK := Lib.hid hK
    go_wp2_with fail
    refine hK.out _ _ ⟨fun _ => below_dd (below_two ((Below.refl _ W).alloc (Nat.le_refl _) _) ((Below.refl _ W).alloc (Nat.le_refl _) _) (by simp)), ?_⟩
    clear hK
    refine draw_chunk (n := 30) (by kernel_rfl) (fun _ _ _ _ _ h => h) [11] [] _ #[true, true, true, true, true, true, true, true, true, true, true, true] (by kernel_rfl) 0 _ ?_ _ rfl ?_ ?_
    rotate_left
    · intro w' hw'
      have hc' : ∀ b o, b < W.heap.size → w'.cell? ⟨b, o, none⟩ = ((W.alloc (.cells #[.int .u32 0, .int .u16 0] 30)).drew).cell? ⟨b, o, none⟩ := fun b o h => hw'.cell (p := ⟨b, o, none⟩) h
      refine ci_step (i := 11) (v := ?_) rfl (by kernel_rfl) ?_ ?_
      rotate_left
      · first | (go_simp; done) | (go_simp; with_reducible rfl)
      skip
      try simp only [Act.put, List.setIfInBounds_toArray, List.set_cons_zero, List.set_cons_succ]
      refine ci_end ?_
      rfl
    refine draw_done (by kernel_rfl) ?_ _
    have d0 := kD.cell 0
    have d1 := kD.cell 1
    simp only [List.getElem?_toArray, List.getElem?_cons_zero, List.getElem?_cons_succ] at d0 d1
    go_wp2_with fail
    have kF := (Blk.new W 30 #[.int .u32 0, .int .u16 0]).drew
    have kD2 := (kD.alloc (.cells #[.int .u32 0, .int .u16 0] 30)).drew
    have hbV : Below w.heap.size w (W.alloc (.cells #[.int .u32 0, .int .u16 0] 30)).drew := Below.drew (hbW.alloc hbW.size _)
    simp only [hsz] at kF
    refine (dist_Lost _ _ _).mono ?_
    rintro e w1 ⟨rfl, hb1⟩
    replace kF := kF.below' hb1
    replace kD2 := kD2.below' hb1
    replace hbV := below_step hbV hbV.size hb1
    clear hb1
    have hl4 := kF.lt
    have hl5 := kD2.lt
    have f0 := kF.cell 0
    have f1 := kF.cell 1
    simp only [List.getElem?_toArray, List.getElem?_cons_zero, List.getElem?_cons_succ] at f0 f1
    have g0 := kD2.cell 0
    have g1 := kD2.cell 1
    simp only [List.getElem?_toArray, List.getElem?_cons_zero, List.getElem?_cons_succ] at g0 g1
    cases hd : (dm == 65535) with
    | true =>
      go_wp2
      go_ret
      exact ⟨by rw [HF.out]; rfl, hbV⟩
    | false =>
      go_wp2
      go_ret
      exact ⟨by rw [HF.out]; rfl, hbV⟩
  | some f =>
    obtain ⟨fs, fm⟩ := f
    cases hd : (dm == 65535) with
    | true =>
      have HF := Lib.hid (show feasB fl ⟨a, l, rid⟩ (ds, dm) = true by simp [feasB, hg, hd])
      go_enter Try.func18, Try.ntmps18
      go_wp2_with fail
      have hbW : Below w.heap.size w ((w.alloc (.cells #[.int .u32 a, .int .i64 l, .int .u32 rid] 27)).alloc (.cells #[.int .u32 ds, .int .u16 dm] 30)) := ((Below.refl _ _).alloc (Nat.le_refl _) _).alloc (by simp) _
      have kB2 := (hB.alloc (.cells #[.int .u32 a, .int .i64 l, .int .u32 rid] 27)).alloc (.cells #[.int .u32 ds, .int .u16 dm] 30)
      have hm := (hm2.alloc (.cells #[.int .u32 a, .int .i64 l, .int .u32 rid] 27)).alloc (.cells #[.int .u32 ds, .int .u16 dm] 30)
      have kY := (Blk.new w 27 #[.int .u32 a, .int .i64 l, .int .u32 rid]).alloc (.cells #[.int .u32 ds, .int .u16 dm] 30)
      have kD := Blk.new (w.alloc (.cells #[.int .u32 a, .int .i64 l, .int .u32 rid] 27)) 30 #[.int .u32 ds, .int .u16 dm]
      simp only [World.size_alloc] at kD
      generalize hW : (w.alloc (.cells #[.int .u32 a, .int .i64 l, .int .u32 rid] 27)).alloc (.cells #[.int .u32 ds, .int .u16 dm] 30) = W at hbW kB2 hm kY kD ⊢
      have hsz : W.heap.size = w.heap.size + 1 + 1 := by rw [← hW]; simp
      have hl1 := kB2.lt
      have hl2 := kY.lt
      have hl3 := kD.lt
      rw [hsz] at hl1 hl2 hl3
      have b0 := kB2.cell 0
      have b1 := kB2.cell 1
      have b2 := kB2.cell 2
      have b3 := kB2.cell 3
      have bf0 := kB2.frozen 0
      have bf1 := kB2.frozen 1
      have bf2 := kB2.frozen 2
      have bf3 := kB2.frozen 3
      simp only [List.getElem?_toArray, List.getElem?_cons_zero, List.getElem?_cons_succ] at b0 b1 b2 b3
      have y0 := kY.cell 0
      have y1 := kY.cell 1
      have y2 := kY.cell 2
      simp only [List.getElem?_toArray, List.getElem?_cons_zero, List.getElem?_cons_succ] at y0 y1 y2
      refine draw_start [] (Below W.heap.size) (by kernel_rfl) ?_
      refine draw_chunk (n := 30) (by kernel_rfl) (fun _ _ _ _ _ h => h) [0, 1, 2, 3, 4, 5, 6, 7, 8] [] _ #[true, true, true, true, true, true, true, true, true, false, false, false] (by kernel_rfl) 3 _ ?_ _ rfl ?_ ?_
      rotate_left
      · intro w' hw'
        have hc' : ∀ b o, b < W.heap.size → w'.cell? ⟨b, o, none⟩ = W.cell? ⟨b, o, none⟩ := fun b o h => hw'.cell (p := ⟨b, o, none⟩) h
        have hl := run_lookup_some key_keys Try.underlying43 (hm.same (hw'.block _ hm.lt)) ⟨a, l, rid⟩ (fs, fm) hg true; simp only [Key.val, dstV] at hl
        refine ci_step (i := 0) (v := ?_) rfl (by kernel_rfl) ?_ ?_
        rotate_left
        · first | (go_simp; done) | (go_simp; with_reducible rfl)
        skip
        try simp only [Act.put, List.setIfInBounds_toArray, List.set_cons_zero, List.set_cons_succ]
        refine ci_step (i := 1) (v := ?_) rfl (by kernel_rfl) ?_ ?_
        rotate_left
        · first | (go_simp; done) | (go_simp; with_reducible rfl)
        skip
        try simp only [Act.put, List.setIfInBounds_toArray, List.set_cons_zero, List.set_cons_succ]
        refine ci_step (i := 2) (v := ?_) rfl (by kernel_rfl) ?_ ?_
        rotate_left
        · first | (go_simp; done) | (go_simp; with_reducible rfl)
        skip
        try simp only [Act.put, List.setIfInBounds_toArray, List.set_cons_zero, List.set_cons_succ]
        refine ci_step (i := 3) (v := ?_) rfl (by kernel_rfl) ?_ ?_
        rotate_left
        · first | (go_simp; done) | (go_simp; with_reducible rfl)
        skip
        try simp only [Act.put, List.setIfInBounds_toArray, List.set_cons_zero, List.set_cons_succ]
        refine ci_step (i := 4) (v := ?_) rfl (by kernel_rfl) ?_ ?_
        rotate_left
        · first | (go_simp; done) | (go_simp; with_reducible rfl)
        skip
        try simp only [Act.put, List.setIfInBounds_toArray, List.set_cons_zero, List.set_cons_succ]
        refine ci_step (i := 5) (v := ?_) rfl (by kernel_rfl) ?_ ?_
        rotate_left
        · first | (go_simp; done) | (go_simp; with_reducible rfl)
        skip
        try simp only [Act.put, List.setIfInBounds_toArray, List.set_cons_zero, List.set_cons_succ]
        refine ci_step (i := 6) (v := ?_) rfl (by kernel_rfl) ?_ ?_
        rotate_left
        · first | (go_simp; done) | (go_simp; with_reducible rfl)
        skip
        try simp only [Act.put, List.setIfInBounds_toArray, List.set_cons_zero, List.set_cons_succ]
        refine ci_step (i := 7) (v := ?_) rfl (by kernel_rfl) ?_ ?_
        rotate_left
        · first | (go_simp; done) | (go_simp; with_reducible rfl)
        skip
        try simp only [Act.put, List.setIfInBounds_toArray, List.set_cons_zero, List.set_cons_succ]
        refine ci_step (i := 8) (v := ?_) rfl (by kernel_rfl) ?_ ?_
        rotate_left
        · first | (go_simp; done) | (go_simp; with_reducible rfl)
        skip
        try simp only [Act.put, List.setIfInBounds_toArray, List.set_cons_zero, List.set_cons_succ]
        refine ci_end ?_
        rfl
      refine draw_eff (i := 9) rfl (by kernel_rfl) (listed' := #[true, true, true, true, true, true, true, true, true, true, false, false]) rfl (fun K hK => ?_)
      replace hK := Lib.hid hK
      go_wp2_with fail
      refine hK.out _ _ ⟨fun _ => below_dd ((Below.refl _ W).alloc (Nat.le_refl _) _), ?_⟩
      clear hK
      refine draw_eff (i := 10) rfl (by kernel_rfl) (listed' := #[true, true, true, true, true, true, true, true, true, true, true, false]) rfl (fun K hK => ?_)
      replace hK := Lib.hid hK
      go_wp2_with fail
      refine hK.out _ _ ⟨fun _ => below_dd (below_two ((Below.refl _ W).alloc (Nat.le_refl _) _) ((Below.refl _ W).alloc (Nat.le_refl _) _) (by simp)), ?_⟩
      clear hK
      refine draw_chunk (n := 30) (by kernel_rfl) (fun _ _ _ _ _ h => h) [11] [] _ #[true, true, true, true, true, true, true, true, true, true, true, true] (by kernel_rfl) 0 _ ?_ _ rfl ?_ ?_
      rotate_left
      · intro w' hw'
        have hc' : ∀ b o, b < W.heap.size → w'.cell? ⟨b, o, none⟩ = ((W.alloc (.cells #[.int .u32 fs, .int .u16 fm] 30)).drew).cell? ⟨b, o, none⟩ := fun b o h => hw'.cell (p := ⟨b, o, none⟩) h
        refine ci_step (i := 11) (v := ?_) rfl (by kernel_rfl) ?_ ?_
        rotate_left
        · first | (go_simp; done) | (go_simp; with_reducible rfl)
        skip
        try simp only [Act.put, List.setIfInBounds_toArray, List.set_cons_zero, List.set_cons_succ]
        refine ci_end ?_
        rfl
      refine draw_done (by kernel_rfl) ?_ _
      have d0 := kD.cell 0
      have d1 := kD.cell 1
      simp only [List.getElem?_toArray, List.getElem?_cons_zero, List.getElem?_cons_succ] at d0 d1
      go_wp2_with fail
      have kF := (Blk.new W 30 #[.int .u32 fs, .int .u16 fm]).drew
      have kD2 := (kD.alloc (.cells #[.int .u32 fs, .int .u16 fm] 30)).drew
      have hbV : Below w.heap.size w (W.alloc (.cells #[.int .u32 fs, .int .u16 fm] 30)).drew := Below.drew (hbW.alloc hbW.size _)
      simp only [hsz] at kF
      refine (dist_Lost _ _ _).mono ?_
      rintro e w1 ⟨rfl, hb1⟩
      replace kF := kF.below' hb1
      replace kD2 := kD2.below' hb1
      replace hbV := below_step hbV hbV.size hb1
      clear hb1
      have hl4 := kF.lt
      have hl5 := kD2.lt
      have f0 := kF.cell 0
      have f1 := kF.cell 1
      simp only [List.getElem?_toArray, List.getElem?_cons_zero, List.getElem?_cons_succ] at f0 f1
      have g0 := kD2.cell 0
      have g1 := kD2.cell 1
      simp only [List.getElem?_toArray, List.getElem?_cons_zero, List.getElem?_cons_succ] at g0 g1
      rw [hd]
      go_wp2
      go_ret
      exact ⟨by rw [HF.out]; rfl, hbV⟩
    | false =>
      have HF := Lib.hid (show feasB fl ⟨a, l, rid⟩ (ds, dm) = gtB (ds, dm) (fs, fm) by simp [feasB, hg, hd])
      go_enter Try.func18, Try.ntmps18
      go_wp2_with fail
      have hbW : Below w.heap.size w ((w.alloc (.cells #[.int .u32 a, .int .i64 l, .int .u32 rid] 27)).alloc (.cells #[.int .u32 ds, .int .u16 dm] 30)) := ((Below.refl _ _).alloc (Nat.le_refl _) _).alloc (by simp) _
      have kB2 := (hB.alloc (.cells #[.int .u32 a, .int .i64 l, .int .u32 rid] 27)).alloc (.cells #[.int .u32 ds, .int .u16 dm] 30)
      have hm := (hm2.alloc (.cells #[.int .u32 a, .int .i64 l, .int .u32 rid] 27)).alloc (.cells #[.int .u32 ds, .int .u16 dm] 30)
      have kY := (Blk.new w 27 #[.int .u32 a, .int .i64 l, .int .u32 rid]).alloc (.cells #[.int .u32 ds, .int .u16 dm] 30)
      have kD := Blk.new (w.alloc (.cells #[.int .u32 a, .int .i64 l, .int .u32 rid] 27)) 30 #[.int .u32 ds, .int .u16 dm]
      simp only [World.size_alloc] at kD
      generalize hW : (w.alloc (.cells #[.int .u32 a, .int .i64 l, .int .u32 rid] 27)).alloc (.cells #[.int .u32 ds, .int .u16 dm] 30) = W at hbW kB2 hm kY kD ⊢
      have hsz : W.heap.size = w.heap.size + 1 + 1 := by rw [← hW]; simp
      have hl1 := kB2.lt
      have hl2 := kY.lt
      have hl3 := kD.lt
      rw [hsz] at hl1 hl2 hl3
      have b0 := kB2.cell 0
      have b1 := kB2.cell 1
      have b2 := kB2.cell 2
      have b3 := kB2.cell 3
      have bf0 := kB2.frozen 0
      have bf1 := kB2.frozen 1
      have bf2 := kB2.frozen 2
      have bf3 := kB2.frozen 3
      simp only [List.getElem?_toArray, List.getElem?_cons_zero, List.getElem?_cons_succ] at b0 b1 b2 b3
      have y0 := kY.cell 0
      have y1 := kY.cell 1
      have y2 := kY.cell 2
      simp only [List.getElem?_toArray, List.getElem?_cons_zero, List.getElem?_cons_succ] at y0 y1 y2
      refine draw_start [] (Below W.heap.size) (by kernel_rfl) ?_
      refine draw_chunk (n := 30) (by kernel_rfl) (fun _ _ _ _ _ h => h) [0, 1, 2, 3, 4, 5, 6, 7, 8] [] _ #[true, true, true, true, true, true, true, true, true, false, false, false] (by kernel_rfl) 3 _ ?_ _ rfl ?_ ?_
      rotate_left
      · intro w' hw'
        have hc' : ∀ b o, b < W.heap.size → w'.cell? ⟨b, o, none⟩ = W.cell? ⟨b, o, none⟩ := fun b o h => hw'.cell (p := ⟨b, o, none⟩) h
        have hl := run_lookup_some key_keys Try.underlying43 (hm.same (hw'.block _ hm.lt)) ⟨a, l, rid⟩ (fs, fm) hg true; simp only [Key.val, dstV] at hl
        refine ci_step (i := 0) (v := ?_) rfl (by kernel_rfl) ?_ ?_
        rotate_left
        · first | (go_simp; done) | (go_simp; with_reducible rfl)
        skip
        try simp only [Act.put, List.setIfInBounds_toArray, List.set_cons_zero, List.set_cons_succ]
        refine ci_step (i := 1) (v := ?_) rfl (by kernel_rfl) ?_ ?_
        rotate_left
        · first | (go_simp; done) | (go_simp; with_reducible rfl)
        skip
        try simp only [Act.put, List.setIfInBounds_toArray, List.set_cons_zero, List.set_cons_succ]
        refine ci_step (i := 2) (v := ?_) rfl (by kernel_rfl) ?_ ?_
        rotate_left
        · first | (go_simp; done) | (go_simp; with_reducible rfl)
        skip
        try simp only [Act.put, List.setIfInBounds_toArray, List.set_cons_zero, List.set_cons_succ]
        refine ci_step (i := 3) (v := ?_) rfl (by kernel_rfl) ?_ ?_
        rotate_left
        · first | (go_simp; done) | (go_simp; with_reducible rfl)
        skip
        try simp only [Act.put, List.setIfInBounds_toArray, List.set_cons_zero, List.set_cons_succ]
        refine ci_step (i := 4) (v := ?_) rfl (by kernel_rfl) ?_ ?_
        rotate_left
        · first | (go_simp; done) | (go_simp; with_reducible rfl)
        skip
        try simp only [Act.put, List.setIfInBounds_toArray, List.set_cons_zero, List.set_cons_succ]
        refine ci_step (i := 5) (v := ?_) rfl (by kernel_rfl) ?_ ?_
        rotate_left
        · first | (go_simp; done) | (go_simp; with_reducible rfl)
        skip
        try simp only [Act.put, List.setIfInBounds_toArray, List.set_cons_zero, List.set_cons_succ]
        refine ci_step (i := 6) (v := ?_) rfl (by kernel_rfl) ?_ ?_
        rotate_left
        · first | (go_simp; done) | (go_simp; with_reducible rfl)
        skip
        try simp only [Act.put, List.setIfInBounds_toArray, List.set_cons_zero, List.set_cons_succ]
        refine ci_step (i := 7) (v := ?_) rfl (by kernel_rfl) ?_ ?_
        rotate_left
        · first | (go_simp; done) | (go_simp; with_reducible rfl)
        skip
        try simp only [Act.put, List.setIfInBounds_toArray, List.set_cons_zero, List.set_cons_succ]
        refine ci_step (i := 8) (v := ?_) rfl (by kernel_rfl) ?_ ?_
        rotate_left
        · first | (go_simp; done) | (go_simp; with_reducible rfl)
        skip
        try simp only [Act.put, List.setIfInBounds_toArray, List.set_cons_zero, List.set_cons_succ]
        refine ci_end ?_
        rfl
      refine draw_eff (i := 9) rfl (by kernel_rfl) (listed' := #[true, true, true, true, true, true, true, true, true, true, false, false]) rfl (fun K hK => ?_)
      replace hK := Lib.hid hK
      go_wp2_with fail
      refine hK.out _ _ ⟨fun _ => below_dd ((Below.refl _ W).alloc (Nat.le_refl _) _), ?_⟩
      clear hK
      refine draw_eff (i := 10) rfl (by kernel_rfl) (listed' := #[true, true, true, true, true, true, true, true, true, true, true, false]) rfl (fun K hK => ?_)
      replace hK := Lib.hid hK
      go_wp2_with fail
      refine hK.out _ _ ⟨fun _ => below_dd (below_two ((Below.refl _ W).alloc (Nat.le_refl _) _) ((Below.refl _ W).alloc (Nat.le_refl _) _) (by simp)), ?_⟩
      clear hK
      refine draw_chunk (n := 30) (by kernel_rfl) (fun _ _ _ _ _ h => h) [11] [] _ #[true, true, true, true, true, true, true, true, true, true, true, true] (by kernel_rfl) 0 _ ?_ _ rfl ?_ ?_
      rotate_left
      · intro w' hw'
        have hc' : ∀ b o, b < W.heap.size → w'.cell? ⟨b, o, none⟩ = ((W.alloc (.cells #[.int .u32 fs, .int .u16 fm] 30)).drew).cell? ⟨b, o, none⟩ := fun b o h => hw'.cell (p := ⟨b, o, none⟩) h
        refine ci_step (i := 11) (v := ?_) rfl (by kernel_rfl) ?_ ?_
        rotate_left
        · first | (go_simp; done) | (go_simp; with_reducible rfl)
        skip
        try simp only [Act.put, List.setIfInBounds_toArray, List.set_cons_zero, List.set_cons_succ]
        refine ci_end ?_
        rfl
      refine draw_done (by kernel_rfl) ?_ _
      have d0 := kD.cell 0
      have d1 := kD.cell 1
      simp only [List.getElem?_toArray, List.getElem?_cons_zero, List.getElem?_cons_succ] at d0 d1
      go_wp2_with fail
      have kF := (Blk.new W 30 #[.int .u32 fs, .int .u16 fm]).drew
      have kD2 := (kD.alloc (.cells #[.int .u32 fs, .int .u16 fm] 30)).drew
      have hbV : Below w.heap.size w (W.alloc (.cells #[.int .u32 fs, .int .u16 fm] 30)).drew := Below.drew (hbW.alloc hbW.size _)
      simp only [hsz] at kF
      refine (dist_Lost _ _ _).mono ?_
      rintro e w1 ⟨rfl, hb1⟩
      replace kF := kF.below' hb1
      replace kD2 := kD2.below' hb1
      replace hbV := below_step hbV hbV.size hb1
      clear hb1
      have hl4 := kF.lt
      have hl5 := kD2.lt
      have f0 := kF.cell 0
      have f1 := kF.cell 1
      simp only [List.getElem?_toArray, List.getElem?_cons_zero, List.getElem?_cons_succ] at f0 f1
      have g0 := kD2.cell 0
      have g1 := kD2.cell 1
      simp only [List.getElem?_toArray, List.getElem?_cons_zero, List.getElem?_cons_succ] at g0 g1
      rw [hd]
      go_wp2_with fail
      refine (dist_Compare _ _ _ _ _).mono ?_
      rintro e w2 ⟨rfl, hb2⟩
      replace hbV := below_step hbV hbV.size hb2
      rw [gtB] at HF
      go_wp2
      go_ret
      exact ⟨by rw [HF.out]; rfl, hbV⟩
set_option maxHeartbeats 4000000 in
theorem state_Covers (σ : St) (k : Key) (d : Dst) (s g1 g2 : Nat) (w : World) (h : StAt 121 w s g1 g2 σ) :
    Calls Try.prog 20 #[.pointer (some ⟨s, 0, none⟩), k.val, dstV d] w fun e w' => e = .returned (.bool (coversB σ.fl k d)) ∧ Below w.heap.size w w' := by
  obtain ⟨hB, hm1, hm2, hs1, hs2, h12⟩ := h
  obtain ⟨id, lease, own, fl⟩ := σ
  obtain ⟨a, l, rid⟩ := k
  obtain ⟨ds, dm⟩ := d
  dsimp only at hB hm1 hm2
  simp only [Key.val, dstV]
  have hlt := hB.lt
  cases hg : getM fl (⟨a, l, rid⟩ : Key) with
  | none =>
    have HF := Lib.hid (show coversB fl ⟨a, l, rid⟩ (ds, dm) = (dm == 65535) by simp [coversB, hg])
    go_enter Try.func20, Try.ntmps20
    go_wp2_with fail
    have hbW : Below w.heap.size w ((w.alloc (.cells #[.int .u32 a, .int .i64 l, .int .u32 rid] 27)).alloc (.cells #[.int .u32 ds, .int .u16 dm] 30)) := ((Below.refl _ _).alloc (Nat.le_refl _) _).alloc (by simp) _
    have kB2 := (hB.alloc (.cells #[.int .u32 a, .int .i64 l, .int .u32 rid] 27)).alloc (.cells #[.int .u32 ds, .int .u16 dm] 30)
    have hm := (hm2.alloc (.cells #[.int .u32 a, .int .i64 l, .int .u32 rid] 27)).alloc (.cells #[.int .u32 ds, .int .u16 dm] 30)
    have kY := (Blk.new w 27 #[.int .u32 a, .int .i64 l, .int .u32 rid]).alloc (.cells #[.int .u32 ds, .int .u16 dm] 30)
    have kD := Blk.new (w.alloc (.cells #[.int .u32 a, .int .i64 l, .int .u32 rid] 27)) 30 #[.int .u32 ds, .int .u16 dm]
    simp only [World.size_alloc] at kD
    generalize hW : (w.alloc (.cells #[.int .u32 a, .int .i64 l, .int .u32 rid] 27)).alloc (.cells #[.int .u32 ds, .int .u16 dm] 30) = W at hbW kB2 hm kY kD ⊢
    have hsz : W.heap.size = w.heap.size + 1 + 1 := by rw [← hW]; simp
    have hl1 := kB2.lt
    have hl2 := kY.lt
    have hl3 := kD.lt
    rw [hsz] at hl1 hl2 hl3
    have b0 := kB2.cell 0
    have b1 := kB2.cell 1
    have b2 := kB2.cell 2
    have b3 := kB2.cell 3
    have bf0 := kB2.frozen 0
    have bf1 := kB2.frozen 1
    have bf2 := kB2.frozen 2
    have bf3 := kB2.frozen 3
    simp only [List.getElem?_toArray, List.getElem?_cons_zero, List.getElem?_cons_succ] at b0 b1 b2 b3
    have y0 := kY.cell 0
    have y1 := kY.cell 1
    have y2 := kY.cell 2
    simp only [List.getElem?_toArray, List.getElem?_cons_zero, List.getElem?_cons_succ] at y0 y1 y2
    refine draw_start [] (Below W.heap.size) (by kernel_rfl) ?_
    refine draw_chunk (n := 29) (by kernel_rfl) (fun _ _ _ _ _ h => h) [0, 1, 2, 3, 4, 5, 6, 7, 8] [] _ #[true, true, true, true, true, true, true, true, true, false, false, false] (by kernel_rfl) 3 _ ?_ _ rfl ?_ ?_
    rotate_left
    · intro w' hw'
      have hc' : ∀ b o, b < W.heap.size → w'.cell? ⟨b, o, none⟩ = W.cell? ⟨b, o, none⟩ := fun b o h => hw'.cell (p := ⟨b, o, none⟩) h
      have hl := run_lookup_none key_keys Try.underlying43 (hm.same (hw'.block _ hm.lt)) ⟨a, l, rid⟩ hg true _ dist_zero; simp only [Key.val, dstV] at hl
      refine ci_step (i := 0) (v := ?_) rfl (by kernel_rfl) ?_ ?_
      rotate_left
      · first | (go_simp; done) | (go_simp; with_reducible rfl)
      skip
      try simp only [Act.put, List.setIfInBounds_toArray, List.set_cons_zero, List.set_cons_succ]
      refine ci_step (i := 1) (v := ?_) rfl (by kernel_rfl) ?_ ?_
      rotate_left
      · first | (go_simp; done) | (go_simp; with_reducible rfl)
      skip
      try simp only [Act.put, List.setIfInBounds_toArray, List.set_cons_zero, List.set_cons_succ]
      refine ci_step (i := 2) (v := ?_) rfl (by kernel_rfl) ?_ ?_
      rotate_left
      · first | (go_simp; done) | (go_simp; with_reducible rfl)
      skip
      try simp only [Act.put, List.setIfInBounds_toArray, List.set_cons_zero, List.set_cons_succ]
      refine ci_step (i := 3) (v := ?_) rfl (by kernel_rfl) ?_ ?_
      rotate_left
      · first | (go_simp; done) | (go_simp; with_reducible rfl)
      skip
      try simp only [Act.put, List.setIfInBounds_toArray, List.set_cons_zero, List.set_cons_succ]
      refine ci_step (i := 4) (v := ?_) rfl (by kernel_rfl) ?_ ?_
      rotate_left
      · first | (go_simp; done) | (go_simp; with_reducible rfl)
      skip
      try simp only [Act.put, List.setIfInBounds_toArray, List.set_cons_zero, List.set_cons_succ]
      refine ci_step (i := 5) (v := ?_) rfl (by kernel_rfl) ?_ ?_
      rotate_left
      · first | (go_simp; done) | (go_simp; with_reducible rfl)
      skip
      try simp only [Act.put, List.setIfInBounds_toArray, List.set_cons_zero, List.set_cons_succ]
      refine ci_step (i := 6) (v := ?_) rfl (by kernel_rfl) ?_ ?_
      rotate_left
      · first | (go_simp; done) | (go_simp; with_reducible rfl)
      skip
      try simp only [Act.put, List.setIfInBounds_toArray, List.set_cons_zero, List.set_cons_succ]
      refine ci_step (i := 7) (v := ?_) rfl (by kernel_rfl) ?_ ?_
      rotate_left
      · first | (go_simp; done) | (go_simp; with_reducible rfl)
      skip
      try simp only [Act.put, List.setIfInBounds_toArray, List.set_cons_zero, List.set_cons_succ]
      refine ci_step (i := 8) (v := ?_) rfl (by kernel_rfl) ?_ ?_
      rotate_left
      · first | (go_simp; done) | (go_simp; with_reducible rfl)
      skip
      try simp only [Act.put, List.setIfInBounds_toArray, List.set_cons_zero, List.set_cons_succ]
      refine ci_end ?_
      rfl
    refine draw_eff (i := 9) rfl (by kernel_rfl) (listed' := #[true, true, true, true, true, true, true, true, true, true, false, false]) rfl (fun K hK => ?_)
    replace hK := Lib.hid hK
    go_wp2_with fail
    refine hK.out _ _ ⟨fun _ => below_dd ((Below.refl _ W).alloc (Nat.le_refl _) _), ?_⟩
    clear hK
    refine draw_eff (i := 10) rfl (by kernel_rfl) (listed' := #[true, true, true, true, true, true, true, true, true, true, true, false]) rfl (fun K hK => ?_)
    replace hK := Lib.hid hK
    go_wp2_with fail
    refine hK.out _ _ ⟨fun _ => below_dd (below_two ((Below.refl _ W).alloc (Nat.le_refl _) _) ((Below.refl _ W).alloc (Nat.le_refl _) _) (by simp)), ?_⟩
    clear hK
    refine draw_chunk (n := 29) (by kernel_rfl) (fun _ _ _ _ _ h => h) [11] [] _ #[true, true, true, true, true, true, true, true, true, true, true, true] (by kernel_rfl) 0 _ ?_ _ rfl ?_ ?_
    rotate_left
    · intro w' hw'
      have hc' : ∀ b o, b < W.heap.size → w'.cell? ⟨b, o, none⟩ = ((W.alloc (.cells #[.int .u32 0, .int .u16 0] 30)).drew).cell? ⟨b, o, none⟩ := fun b o h => hw'.cell (p := ⟨b, o, none⟩) h
      refine ci_step (i := 11) (v := ?_) rfl (by kernel_rfl) ?_ ?_
      rotate_left
      · first | (go_simp; done) | (go_simp; with_reducible rfl)
      skip
      try simp only [Act.put, List.setIfInBounds_toArray, List.set_cons_zero, List.set_cons_succ]
      refine ci_end ?_
      rfl
    refine draw_done (by kernel_rfl) ?_ _
    have d0 := kD.cell 0
    have d1 := kD.cell 1
    simp only [List.getElem?_toArray, List.getElem?_cons_zero, List.getElem?_cons_succ] at d0 d1
    go_wp2_with fail
    have kF := (Blk.new W 30 #[.int .u32 0, .int .u16 0]).drew
    have kD2 := (kD.alloc (.cells #[.int .u32 0, .int .u16 0] 30)).drew
    have hbV : Below w.heap.size w (W.alloc (.cells #[.int .u32 0, .int .u16 0] 30)).drew := Below.drew (hbW.alloc hbW.size _)
    simp only [hsz] at kF
    refine (dist_Lost _ _ _).mono ?_
    rintro e w1 ⟨rfl, hb1⟩
    replace kF := kF.below' hb1
    replace kD2 := kD2.below' hb1
    replace hbV := below_step hbV hbV.size hb1
    clear hb1
    have hl4 := kF.lt
    have hl5 := kD2.lt
    have f0 := kF.cell 0
    have f1 := kF.cell 1
    simp only [List.getElem?_toArray, List.getElem?_cons_zero, List.getElem?_cons_succ] at f0 f1
    have g0 := kD2.cell 0
    have g1 := kD2.cell 1
    simp only [List.getElem?_toArray, List.getElem?_cons_zero, List.getElem?_cons_succ] at g0 g1
    cases hd : (dm == 65535) with
    | true =>
      rw [hd] at HF
      go_wp2
      go_ret
      exact ⟨by rw [HF.out]; rfl, hbV⟩
    | false =>
      rw [hd] at HF
      go_wp2
      go_ret
      exact ⟨by rw [HF.out]; rfl, hbV⟩
  | some f =>
    obtain ⟨fs, fm⟩ := f
    cases hd : (dm == 65535) with
    | true =>
      have HF := Lib.hid (show coversB fl ⟨a, l, rid⟩ (ds, dm) = true by simp [coversB, hg, hd])
      go_enter Try.func20, Try.ntmps20
      go_wp2_with fail
      have hbW : Below w.heap.size w ((w.alloc (.cells #[.int .u32 a, .int .i64 l, .int .u32 rid] 27)).alloc (.cells #[.int .u32 ds, .int .u16 dm] 30)) := ((Below.refl _ _).alloc (Nat.le_refl _) _).alloc (by simp) _
      have kB2 := (hB.alloc (.cells #[.int .u32 a, .int .i64 l, .int .u32 rid] 27)).alloc (.cells #[.int .u32 ds, .int .u16 dm] 30)
      have hm := (hm2.alloc (.cells #[.int .u32 a, .int .i64 l, .int .u32 rid] 27)).alloc (.cells #[.int .u32 ds, .int .u16 dm] 30)
      have kY := (Blk.new w 27 #[.int .u32 a, .int .i64 l, .int .u32 rid]).alloc (.cells #[.int .u32 ds, .int .u16 dm] 30)
      have kD := Blk.new (w.alloc (.cells #[.int .u32 a, .int .i64 l, .int .u32 rid] 27)) 30 #[.int .u32 ds, .int .u16 dm]
      simp only [World.size_alloc] at kD
      generalize hW : (w.alloc (.cells #[.int .u32 a, .int .i64 l, .int .u32 rid] 27)).alloc (.cells #[.int .u32 ds, .int .u16 dm] 30) = W at hbW kB2 hm kY kD ⊢
      have hsz : W.heap.size = w.heap.size + 1 + 1 := by rw [← hW]; simp
      have hl1 := kB2.lt
      have hl2 := kY.lt
      have hl3 := kD.lt
      rw [hsz] at hl1 hl2 hl3
      have b0 := kB2.cell 0
      have b1 := kB2.cell 1
      have b2 := kB2.cell 2
      have b3 := kB2.cell 3
      have bf0 := kB2.frozen 0
      have bf1 := kB2.frozen 1
      have bf2 := kB2.frozen 2
      have bf3 := kB2.frozen 3
      simp only [List.getElem?_toArray, List.getElem?_cons_zero, List.getElem?_cons_succ] at b0 b1 b2 b3
      have y0 := kY.cell 0
      have y1 := kY.cell 1
      have y2 := kY.cell 2
      simp only [List.getElem?_toArray, List.getElem?_cons_zero, List.getElem?_cons_succ] at y0 y1 y2
      refine draw_start [] (Below W.heap.size) (by kernel_rfl) ?_
      refine draw_chunk (n := 29) (by kernel_rfl) (fun _ _ _ _ _ h => h) [0, 1, 2, 3, 4, 5, 6, 7, 8] [] _ #[true, true, true, true, true, true, true, true, true, false, false, false] (by kernel_rfl) 3 _ ?_ _ rfl ?_ ?_
      rotate_left
      · intro w' hw'
        have hc' : ∀ b o, b < W.heap.size → w'.cell? ⟨b, o, none⟩ = W.cell? ⟨b, o, none⟩ := fun b o h => hw'.cell (p := ⟨b, o, none⟩) h
        have hl := run_lookup_some key_keys Try.underlying43 (hm.same (hw'.block _ hm.lt)) ⟨a, l, rid⟩ (fs, fm) hg true; simp only [Key.val, dstV] at hl
        refine ci_step (i := 0) (v := ?_) rfl (by kernel_rfl) ?_ ?_
        rotate_left
        · first | (go_simp; done) | (go_simp; with_reducible rfl)
        skip
        try simp only [Act.put, List.setIfInBounds_toArray, List.set_cons_zero, List.set_cons_succ]
        refine ci_step (i := 1) (v := ?_) rfl (by kernel_rfl) ?_ ?_
        rotate_left
        · first | (go_simp; done) | (go_simp; with_reducible rfl)
        skip
        try simp only [Act.put, List.setIfInBounds_toArray, List.set_cons_zero, List.set_cons_succ]
        refine ci_step (i := 2) (v := ?_) rfl (by kernel_rfl) ?_ ?_
        rotate_left
        · first | (go_simp; done) | (go_simp; with_reducible rfl)
        skip
        try simp only [Act.put, List.setIfInBounds_toArray, List.set_cons_zero, List.set_cons_succ]
        refine ci_step (i := 3) (v := ?_) rfl (by kernel_rfl) ?_ ?_
        rotate_left
        · first | (go_simp; done) | (go_simp; with_reducible rfl)
        skip
        try simp only [Act.put, List.setIfInBounds_toArray, List.set_cons_zero, List.set_cons_succ]
        refine ci_step (i := 4) (v := ?_) rfl (by kernel_rfl) ?_ ?_
        rotate_left
        · first | (go_simp; done) | (go_simp; with_reducible rfl)
        skip
        try simp only [Act.put, List.setIfInBounds_toArray, List.set_cons_zero, List.set_cons_succ]
        refine ci_step (i := 5) (v := ?_) rfl (by kernel_rfl) ?_ ?_
        rotate_left
        · first | (go_simp; done) | (go_simp; with_reducible rfl)
        skip
        try simp only [Act.put, List.setIfInBounds_toArray, List.set_cons_zero, List.set_cons_succ]
        refine ci_step (i := 6) (v := ?_) rfl (by kernel_rfl) ?_ ?_
        rotate_left
        · first | (go_simp; done) | (go_simp; with_reducible rfl)
        skip
        try simp only [Act.put, List.setIfInBounds_toArray, List.set_cons_zero, List.set_cons_succ]
        refine ci_step (i := 7) (v := ?_) rfl (by kernel_rfl) ?_ ?_
        rotate_left
        · first | (go_simp; done) | (go_simp; with_reducible rfl)
        skip
        try simp only [Act.put, List.setIfInBounds_toArray, List.set_cons_zero, List.set_cons_succ]
        refine ci_step (i := 8) (v := ?_) rfl (by kernel_rfl) ?_ ?_
        rotate_left
        · first | (go_simp; done) | (go_simp; with_reducible rfl)
        skip
        try simp only [Act.put, List.setIfInBounds_toArray, List.set_cons_zero, List.set_cons_succ]
        refine ci_end ?_
        rfl
      refine draw_eff (i := 9) rfl (by kernel_rfl) (listed' := #[true, true, true, true, true, true, true, true, true, true, false, false]) rfl (fun K hK => ?_)
      replace hK := Lib.hid hK
      go_wp2_with fail
      refine hK.out _ _ ⟨fun _ => below_dd ((Below.refl _ W).alloc (Nat.le_refl _) _), ?_⟩
      clear hK
      refine draw_eff (i := 10) rfl (by kernel_rfl) (listed' := #[true, true, true, true, true, true, true, true, true, true, true, false]) rfl (fun K hK => ?_)
      replace hK := Lib.hid hK
      go_wp2_with fail
      refine hK.out _ _ ⟨fun _ => below_dd (below_two ((Below.refl _ W).alloc (Nat.le_refl _) _) ((Below.refl _ W).alloc (Nat.le_refl _) _) (by simp)), ?_⟩
      clear hK
      refine draw_chunk (n := 29) (by kernel_rfl) (fun _ _ _ _ _ h => h) [11] [] _ #[true, true, true, true, true, true, true, true, true, true, true, true] (by kernel_rfl) 0 _ ?_ _ rfl ?_ ?_
      rotate_left
      · intro w' hw'
        have hc' : ∀ b o, b < W.heap.size → w'.cell? ⟨b, o, none⟩ = ((W.alloc (.cells #[.int .u32 fs, .int .u16 fm] 30)).drew).cell? ⟨b, o, none⟩ := fun b o h => hw'.cell (p := ⟨b, o, none⟩) h
        refine ci_step (i := 11) (v := ?_) rfl (by kernel_rfl) ?_ ?_
        rotate_left
        · first | (go_simp; done) | (go_simp; with_reducible rfl)
        skip
        try simp only [Act.put, List.setIfInBounds_toArray, List.set_cons_zero, List.set_cons_succ]
        refine ci_end ?_
        rfl
      refine draw_done (by kernel_rfl) ?_ _
      have d0 := kD.cell 0
      have d1 := kD.cell 1
      simp only [List.getElem?_toArray, List.getElem?_cons_zero, List.getElem?_cons_succ] at d0 d1
      go_wp2_with fail
      have kF := (Blk.new W 30 #[.int .u32 fs, .int .u16 fm]).drew
      have kD2 := (kD.alloc (.cells #[.int .u32 fs, .int .u16 fm] 30)).drew
      have hbV : Below w.heap.size w (W.alloc (.cells #[.int .u32 fs, .int .u16 fm] 30)).drew := Below.drew (hbW.alloc hbW.size _)
      simp only [hsz] at kF
      refine (dist_Lost _ _ _).mono ?_
      rintro e w1 ⟨rfl, hb1⟩
      replace kF := kF.below' hb1
      replace kD2 := kD2.below' hb1
      replace hbV := below_step hbV hbV.size hb1
      clear hb1
      have hl4 := kF.lt
      have hl5 := kD2.lt
      have f0 := kF.cell 0
      have f1 := kF.cell 1
      simp only [List.getElem?_toArray, List.getElem?_cons_zero, List.getElem?_cons_succ] at f0 f1
      have g0 := kD2.cell 0
      have g1 := kD2.cell 1
      simp only [List.getElem?_toArray, List.getElem?_cons_zero, List.getElem?_cons_succ] at g0 g1
      rw [hd]
      go_wp2
      go_ret
      exact ⟨by rw [HF.out]; rfl, hbV⟩
    | false =>
      have HF := Lib.hid (show coversB fl ⟨a, l, rid⟩ (ds, dm) = decide (distCmp fs fm ds dm ≥ 0) by rw [cmp_ge (ds, dm) (fs, fm)]; simp [coversB, hg, hd])
      go_enter Try.func20, Try.ntmps20
      go_wp2_with fail
      have hbW : Below w.heap.size w ((w.alloc (.cells #[.int .u32 a, .int .i64 l, .int .u32 rid] 27)).alloc (.cells #[.int .u32 ds, .int .u16 dm] 30)) := ((Below.refl _ _).alloc (Nat.le_refl _) _).alloc (by simp) _
      have kB2 := (hB.alloc (.cells #[.int .u32 a, .int .i64 l, .int .u32 rid] 27)).alloc (.cells #[.int .u32 ds, .int .u16 dm] 30)
      have hm := (hm2.alloc (.cells #[.int .u32 a, .int .i64 l, .int .u32 rid] 27)).alloc (.cells #[.int .u32 ds, .int .u16 dm] 30)
      have kY := (Blk.new w 27 #[.int .u32 a, .int .i64 l, .int .u32 rid]).alloc (.cells #[.int .u32 ds, .int .u16 dm] 30)
      have kD := Blk.new (w.alloc (.cells #[.int .u32 a, .int .i64 l, .int .u32 rid] 27)) 30 #[.int .u32 ds, .int .u16 dm]
      simp only [World.size_alloc] at kD
      generalize hW : (w.alloc (.cells #[.int .u32 a, .int .i64 l, .int .u32 rid] 27)).alloc (.cells #[.int .u32 ds, .int .u16 dm] 30) = W at hbW kB2 hm kY kD ⊢
      have hsz : W.heap.size = w.heap.size + 1 + 1 := by rw [← hW]; simp
      have hl1 := kB2.lt
      have hl2 := kY.lt
      have hl3 := kD.lt
      rw [hsz] at hl1 hl2 hl3
      have b0 := kB2.cell 0
      have b1 := kB2.cell 1
      have b2 := kB2.cell 2
      have b3 := kB2.cell 3
      have bf0 := kB2.frozen 0
      have bf1 := kB2.frozen 1
      have bf2 := kB2.frozen 2
      have bf3 := kB2.frozen 3
      simp only [List.getElem?_toArray, List.getElem?_cons_zero, List.getElem?_cons_succ] at b0 b1 b2 b3
      have y0 := kY.cell 0
      have y1 := kY.cell 1
      have y2 := kY.cell 2
      simp only [List.getElem?_toArray, List.getElem?_cons_zero, List.getElem?_cons_succ] at y0 y1 y2
      refine draw_start [] (Below W.heap.size) (by kernel_rfl) ?_
      refine draw_chunk (n := 29) (by kernel_rfl) (fun _ _ _ _ _ h => h) [0, 1, 2, 3, 4, 5, 6, 7, 8] [] _ #[true, true, true, true, true, true, true, true, true, false, false, false] (by kernel_rfl) 3 _ ?_ _ rfl ?_ ?_
      rotate_left
      · intro w' hw'
        have hc' : ∀ b o, b < W.heap.size → w'.cell? ⟨b, o, none⟩ = W.cell? ⟨b, o, none⟩ := fun b o h => hw'.cell (p := ⟨b, o, none⟩) h
        have hl := run_lookup_some key_keys Try.underlying43 (hm.same (hw'.block _ hm.lt)) ⟨a, l, rid⟩ (fs, fm) hg true; simp only [Key.val, dstV] at hl
        refine ci_step (i := 0) (v := ?_) rfl (by kernel_rfl) ?_ ?_
        rotate_left
        · first | (go_simp; done) | (go_simp; with_reducible rfl)
        skip
        try simp only [Act.put, List.setIfInBounds_toArray, List.set_cons_zero, List.set_cons_succ]
        refine ci_step (i := 1) (v := ?_) rfl (by kernel_rfl) ?_ ?_
        rotate_left
        · first | (go_simp; done) | (go_simp; with_reducible rfl)
        skip
        try simp only [Act.put, List.setIfInBounds_toArray, List.set_cons_zero, List.set_cons_succ]
        refine ci_step (i := 2) (v := ?_) rfl (by kernel_rfl) ?_ ?_
        rotate_left
        · first | (go_simp; done) | (go_simp; with_reducible rfl)
        skip
        try simp only [Act.put, List.setIfInBounds_toArray, List.set_cons_zero, List.set_cons_succ]
        refine ci_step (i := 3) (v := ?_) rfl (by kernel_rfl) ?_ ?_
        rotate_left
        · first | (go_simp; done) | (go_simp; with_reducible rfl)
        skip
        try simp only [Act.put, List.setIfInBounds_toArray, List.set_cons_zero, List.set_cons_succ]
        refine ci_step (i := 4) (v := ?_) rfl (by kernel_rfl) ?_ ?_
        rotate_left
        · first | (go_simp; done) | (go_simp; with_reducible rfl)
        skip
        try simp only [Act.put, List.setIfInBounds_toArray, List.set_cons_zero, List.set_cons_succ]
        refine ci_step (i := 5) (v := ?_) rfl (by kernel_rfl) ?_ ?_
        rotate_left
        · first | (go_simp; done) | (go_simp; with_reducible rfl)
        skip
        try simp only [Act.put, List.setIfInBounds_toArray, List.set_cons_zero, List.set_cons_succ]
        refine ci_step (i := 6) (v := ?_) rfl (by kernel_rfl) ?_ ?_
        rotate_left
        · first | (go_simp; done) | (go_simp; with_reducible rfl)
        skip
        try simp only [Act.put, List.setIfInBounds_toArray, List.set_cons_zero, List.set_cons_succ]
        refine ci_step (i := 7) (v := ?_) rfl (by kernel_rfl) ?_ ?_
        rotate_left
        · first | (go_simp; done) | (go_simp; with_reducible rfl)
        skip
        try simp only [Act.put, List.setIfInBounds_toArray, List.set_cons_zero, List.set_cons_succ]
        refine ci_step (i := 8) (v := ?_) rfl (by kernel_rfl) ?_ ?_
        rotate_left
        · first | (go_simp; done) | (go_simp; with_reducible rfl)
        skip
        try simp only [Act.put, List.setIfInBounds_toArray, List.set_cons_zero, List.set_cons_succ]
        refine ci_end ?_
        rfl
      refine draw_eff (i := 9) rfl (by kernel_rfl) (listed' := #[true, true, true, true, true, true, true, true, true, true, false, false]) rfl (fun K hK => ?_)
      replace hK := Lib.hid hK
      go_wp2_with fail
      refine hK.out _ _ ⟨fun _ => below_dd ((Below.refl _ W).alloc (Nat.le_refl _) _), ?_⟩
      clear hK
      refine draw_eff (i := 10) rfl (by kernel_rfl) (listed' := #[true, true, true, true, true, true, true, true, true, true, true, false]) rfl (fun K hK => ?_)
      replace hK := Lib.hid hK
      go_wp2_with fail
      refine hK.out _ _ ⟨fun _ => below_dd (below_two ((Below.refl _ W).alloc (Nat.le_refl _) _) ((Below.refl _ W).alloc (Nat.le_refl _) _) (by simp)), ?_⟩
      clear hK
      refine draw_chunk (n := 29) (by kernel_rfl) (fun _ _ _ _ _ h => h) [11] [] _ #[true, true, true, true, true, true, true, true, true, true, true, true] (by kernel_rfl) 0 _ ?_ _ rfl ?_ ?_
      rotate_left
      · intro w' hw'
        have hc' : ∀ b o, b < W.heap.size → w'.cell? ⟨b, o, none⟩ = ((W.alloc (.cells #[.int .u32 fs, .int .u16 fm] 30)).drew).cell? ⟨b, o, none⟩ := fun b o h => hw'.cell (p := ⟨b, o, none⟩) h
        refine ci_step (i := 11) (v := ?_) rfl (by kernel_rfl) ?_ ?_
        rotate_left
        · first | (go_simp; done) | (go_simp; with_reducible rfl)
        skip
        try simp only [Act.put, List.setIfInBounds_toArray, List.set_cons_zero, List.set_cons_succ]
        refine ci_end ?_
        rfl
      refine draw_done (by kernel_rfl) ?_ _
      have d0 := kD.cell 0
      have d1 := kD.cell 1
      simp only [List.getElem?_toArray, List.getElem?_cons_zero, List.getElem?_cons_succ] at d0 d1
      go_wp2_with fail
      have kF := (Blk.new W 30 #[.int .u32 fs, .int .u16 fm]).drew
      have kD2 := (kD.alloc (.cells #[.int .u32 fs, .int .u16 fm] 30)).drew
      have hbV : Below w.heap.size w (W.alloc (.cells #[.int .u32 fs, .int .u16 fm] 30)).drew := Below.drew (hbW.alloc hbW.size _)
      simp only [hsz] at kF
      refine (dist_Lost _ _ _).mono ?_
      rintro e w1 ⟨rfl, hb1⟩
      replace kF := kF.below' hb1
      replace kD2 := kD2.below' hb1
      replace hbV := below_step hbV hbV.size hb1
      clear hb1
      have hl4 := kF.lt
      have hl5 := kD2.lt
      have f0 := kF.cell 0
      have f1 := kF.cell 1
      simp only [List.getElem?_toArray, List.getElem?_cons_zero, List.getElem?_cons_succ] at f0 f1
      have g0 := kD2.cell 0
      have g1 := kD2.cell 1
      simp only [List.getElem?_toArray, List.getElem?_cons_zero, List.getElem?_cons_succ] at g0 g1
      rw [hd]
      go_wp2_with fail
      refine (dist_Compare _ _ _ _ _).mono ?_
      rintro e w2 ⟨rfl, hb2⟩
      replace hbV := below_step hbV hbV.size hb2
      go_wp2
      go_ret
      exact ⟨by rw [HF.out]; rfl, hbV⟩
theorem state_Lease (σ : St) (s g1 g2 : Nat) (w : World) (h : StAt 121 w s g1 g2 σ) :
    Calls Try.prog 21 #[.pointer (some ⟨s, 0, none⟩)] w fun e w' => e = .returned (.int .u32 σ.lease) ∧ w' = w := by
  obtain ⟨hB, hm1, hm2, hs1, hs2, h12⟩ := h
  have b0 := hB.cell 0
  have b1 := hB.cell 1
  have b2 := hB.cell 2
  have b3 := hB.cell 3
  have bf0 := hB.frozen 0
  have bf1 := hB.frozen 1
  have bf2 := hB.frozen 2
  have bf3 := hB.frozen 3
  simp only [List.getElem?_toArray, List.getElem?_cons_zero, List.getElem?_cons_succ] at b0 b1 b2 b3
  go_enter Try.func21, Try.ntmps21
  go_wp2
  go_ret
  exact ⟨rfl, rfl⟩
def getD0 (fl : List (Key × Dst)) (k : Key) : Dst := (getM fl k).getD (0, 0)
theorem state_Floor (σ : St) (k : Key) (s g1 g2 : Nat) (w : World) (h : StAt 121 w s g1 g2 σ) :
    Calls Try.prog 22 #[.pointer (some ⟨s, 0, none⟩), k.val] w fun e w' => e = .returned (.tuple #[.agg #[.int .u32 (getD0 σ.fl k).1, .int .u16 (getD0 σ.fl k).2], .bool (getM σ.fl k).isSome]) ∧ Below w.heap.size w w' := by
  obtain ⟨hB, hm1, hm2, hs1, hs2, h12⟩ := h
  obtain ⟨id, lease, own, fl⟩ := σ
  obtain ⟨a, l, rid⟩ := k
  dsimp only at hB hm1 hm2 ⊢
  simp only [Key.val]
  have hlt := hB.lt
  cases hg : getM fl (⟨a, l, rid⟩ : Key) with
  | none =>
    have HF := Lib.hid (show getD0 fl ⟨a, l, rid⟩ = (0, 0) by simp [getD0, hg])
    have HG := Lib.hid (show (none : Option Dst).isSome = false from rfl)
    go_enter Try.func22, Try.ntmps22
    go_wp2_with fail
    have hbW : Below w.heap.size w ((w.alloc (.cells #[.int .u32 a, .int .i64 l, .int .u32 rid] 27)).alloc (.cells #[.int .u32 0, .int .u16 0] 30)) := ((Below.refl _ _).alloc (Nat.le_refl _) _).alloc (by simp) _
    have kB2 := (hB.alloc (.cells #[.int .u32 a, .int .i64 l, .int .u32 rid] 27)).alloc (.cells #[.int .u32 0, .int .u16 0] 30)
    have hm := (hm2.alloc (.cells #[.int .u32 a, .int .i64 l, .int .u32 rid] 27)).alloc (.cells #[.int .u32 0, .int .u16 0] 30)
    have kY := (Blk.new w 27 #[.int .u32 a, .int .i64 l, .int .u32 rid]).alloc (.cells #[.int .u32 0, .int .u16 0] 30)
    have kD := Blk.new (w.alloc (.cells #[.int .u32 a, .int .i64 l, .int .u32 rid] 27)) 30 #[.int .u32 0, .int .u16 0]
    simp only [World.size_alloc] at kD
    generalize hW : (w.alloc (.cells #[.int .u32 a, .int .i64 l, .int .u32 rid] 27)).alloc (.cells #[.int .u32 0, .int .u16 0] 30) = W at hbW kB2 hm kY kD ⊢
    have hsz : W.heap.size = w.heap.size + 1 + 1 := by rw [← hW]; simp
    have hl1 := kB2.lt
    have hl2 := kY.lt
    have hl3 := kD.lt
    rw [hsz] at hl1 hl2 hl3
    have b0 := kB2.cell 0
    have b1 := kB2.cell 1
    have b2 := kB2.cell 2
    have b3 := kB2.cell 3
    have bf0 := kB2.frozen 0
    have bf1 := kB2.frozen 1
    have bf2 := kB2.frozen 2
    have bf3 := kB2.frozen 3
    simp only [List.getElem?_toArray, List.getElem?_cons_zero, List.getElem?_cons_succ] at b0 b1 b2 b3
    have y0 := kY.cell 0
    have y1 := kY.cell 1
    have y2 := kY.cell 2
    simp only [List.getElem?_toArray, List.getElem?_cons_zero, List.getElem?_cons_succ] at y0 y1 y2
    refine draw_start [] (Below W.heap.size) (by kernel_rfl) ?_
    refine draw_chunk (n := 19) (by kernel_rfl) (fun _ _ _ _ _ h => h) [0, 1, 2, 3, 4, 5, 6, 7, 8] [] _ #[true, true, true, true, true, true, true, true, true, false, false, false] (by kernel_rfl) 3 _ ?_ _ rfl ?_ ?_
    rotate_left
    · intro w' hw'
      have hc' : ∀ b o, b < W.heap.size → w'.cell? ⟨b, o, none⟩ = W.cell? ⟨b, o, none⟩ := fun b o h => hw'.cell (p := ⟨b, o, none⟩) h
      have hl := run_lookup_none key_keys Try.underlying43 (hm.same (hw'.block _ hm.lt)) ⟨a, l, rid⟩ hg true _ dist_zero; simp only [Key.val, dstV] at hl
      refine ci_step (i := 0) (v := ?_) rfl (by kernel_rfl) ?_ ?_
      rotate_left
      · first | (go_simp; done) | (go_simp; with_reducible rfl)
      skip
      try simp only [Act.put, List.setIfInBounds_toArray, List.set_cons_zero, List.set_cons_succ]
      refine ci_step (i := 1) (v := ?_) rfl (by kernel_rfl) ?_ ?_
      rotate_left
      · first | (go_simp; done) | (go_simp; with_reducible rfl)
      skip
      try simp only [Act.put, List.setIfInBounds_toArray, List.set_cons_zero, List.set_cons_succ]
      refine ci_step (i := 2) (v := ?_) rfl (by kernel_rfl) ?_ ?_
      rotate_left
      · first | (go_simp; done) | (go_simp; with_reducible rfl)
      skip
      try simp only [Act.put, List.setIfInBounds_toArray, List.set_cons_zero, List.set_cons_succ]
      refine ci_step (i := 3) (v := ?_) rfl (by kernel_rfl) ?_ ?_
      rotate_left
      · first | (go_simp; done) | (go_simp; with_reducible rfl)
      skip
      try simp only [Act.put, List.setIfInBounds_toArray, List.set_cons_zero, List.set_cons_succ]
      refine ci_step (i := 4) (v := ?_) rfl (by kernel_rfl) ?_ ?_
      rotate_left
      · first | (go_simp; done) | (go_simp; with_reducible rfl)
      skip
      try simp only [Act.put, List.setIfInBounds_toArray, List.set_cons_zero, List.set_cons_succ]
      refine ci_step (i := 5) (v := ?_) rfl (by kernel_rfl) ?_ ?_
      rotate_left
      · first | (go_simp; done) | (go_simp; with_reducible rfl)
      skip
      try simp only [Act.put, List.setIfInBounds_toArray, List.set_cons_zero, List.set_cons_succ]
      refine ci_step (i := 6) (v := ?_) rfl (by kernel_rfl) ?_ ?_
      rotate_left
      · first | (go_simp; done) | (go_simp; with_reducible rfl)
      skip
      try simp only [Act.put, List.setIfInBounds_toArray, List.set_cons_zero, List.set_cons_succ]
      refine ci_step (i := 7) (v := ?_) rfl (by kernel_rfl) ?_ ?_
      rotate_left
      · first | (go_simp; done) | (go_simp; with_reducible rfl)
      skip
      try simp only [Act.put, List.setIfInBounds_toArray, List.set_cons_zero, List.set_cons_succ]
      refine ci_step (i := 8) (v := ?_) rfl (by kernel_rfl) ?_ ?_
      rotate_left
      · first | (go_simp; done) | (go_simp; with_reducible rfl)
      skip
      try simp only [Act.put, List.setIfInBounds_toArray, List.set_cons_zero, List.set_cons_succ]
      refine ci_end ?_
      rfl
    refine draw_eff (i := 9) rfl (by kernel_rfl) (listed' := #[true, true, true, true, true, true, true, true, true, true, false, false]) rfl (fun K hK => ?_)
    replace hK := Lib.hid hK
    go_wp2_with fail
    refine hK.out _ _ ⟨fun _ => below_dd ((Below.refl _ W).alloc (Nat.le_refl _) _), ?_⟩
    clear hK
    refine draw_eff (i := 10) rfl (by kernel_rfl) (listed' := #[true, true, true, true, true, true, true, true, true, true, true, false]) rfl (fun K hK => ?_)
    replace hK := Lib.hid hK
    go_wp2_with fail
    refine hK.out _ _ ⟨fun _ => below_dd (below_two ((Below.refl _ W).alloc (Nat.le_refl _) _) ((Below.refl _ W).alloc (Nat.le_refl _) _) (by simp)), ?_⟩
    clear hK
    refine draw_chunk (n := 19) (by kernel_rfl) (fun _ _ _ _ _ h => h) [11] [] _ #[true, true, true, true, true, true, true, true, true, true, true, true] (by kernel_rfl) 0 _ ?_ _ rfl ?_ ?_
    rotate_left
    · intro w' hw'
      have hc' : ∀ b o, b < W.heap.size → w'.cell? ⟨b, o, none⟩ = ((W.alloc (.cells #[.int .u32 (0 : Int), .int .u16 (0 : Int)] 30)).drew).cell? ⟨b, o, none⟩ := fun b o h => hw'.cell (p := ⟨b, o, none⟩) h
      refine ci_step (i := 11) (v := ?_) rfl (by kernel_rfl) ?_ ?_
      rotate_left
      · first | (go_simp; done) | (go_simp; with_reducible rfl)
      skip
      try simp only [Act.put, List.setIfInBounds_toArray, List.set_cons_zero, List.set_cons_succ]
      refine ci_end ?_
      rfl
    refine draw_done (by kernel_rfl) ?_ _
    have d0 := kD.cell 0
    have d1 := kD.cell 1
    simp only [List.getElem?_toArray, List.getElem?_cons_zero, List.getElem?_cons_succ] at d0 d1
    have dz0 := kD.frozen 0
    have dz1 := kD.frozen 1
    have hbV : Below w.heap.size w (((W.setCell ⟨w.heap.size + 1, 0, none⟩ (.int .u32 (0 : Int))).setCell ⟨w.heap.size + 1, 1, none⟩ (.int .u16 (0 : Int))).alloc (.cells #[.int .u32 (0 : Int), .int .u16 (0 : Int)] 30)).drew := Below.drew (((hbW.setCell (by simp) _).setCell (by simp) _).alloc (by simpa [World.setCell] using hbW.size) _)
    have kD1 := (kD.set 0 (.int .u32 (0 : Int))).set 1 (.int .u16 (0 : Int))
    simp only [List.setIfInBounds_toArray, List.set_cons_zero, List.set_cons_succ] at kD1
    replace kD1 := kD1.alloc (.cells #[.int .u32 (0 : Int), .int .u16 (0 : Int)] 30)
    have x0 := kD1.cell 0
    have x1 := kD1.cell 1
    simp only [List.getElem?_toArray, List.getElem?_cons_zero, List.getElem?_cons_succ] at x0 x1
    go_wp2
    refine bodyPost_ret (v := .tuple #[.agg #[.int .u32 (0 : Int), .int .u16 (0 : Int)], .bool false]) (by simp [results, Try.results22, go_sem, x0, x1]) rfl ⟨by rw [HF.out, HG.out], hbV⟩
  | some f =>
    obtain ⟨fs, fm⟩ := f
    have HF := Lib.hid (show getD0 fl ⟨a, l, rid⟩ = (fs, fm) by simp [getD0, hg])
    have HG := Lib.hid (show (some (fs, fm) : Option Dst).isSome = true from rfl)
    go_enter Try.func22, Try.ntmps22
    go_wp2_with fail
    have hbW : Below w.heap.size w ((w.alloc (.cells #[.int .u32 a, .int .i64 l, .int .u32 rid] 27)).alloc (.cells #[.int .u32 0, .int .u16 0] 30)) := ((Below.refl _ _).alloc (Nat.le_refl _) _).alloc (by simp) _
    have kB2 := (hB.alloc (.cells #[.int .u32 a, .int .i64 l, .int .u32 rid] 27)).alloc (.cells #[.int .u32 0, .int .u16 0] 30)
    have hm := (hm2.alloc (.cells #[.int .u32 a, .int .i64 l, .int .u32 rid] 27)).alloc (.cells #[.int .u32 0, .int .u16 0] 30)
    have kY := (Blk.new w 27 #[.int .u32 a, .int .i64 l, .int .u32 rid]).alloc (.cells #[.int .u32 0, .int .u16 0] 30)
    have kD := Blk.new (w.alloc (.cells #[.int .u32 a, .int .i64 l, .int .u32 rid] 27)) 30 #[.int .u32 0, .int .u16 0]
    simp only [World.size_alloc] at kD
    generalize hW : (w.alloc (.cells #[.int .u32 a, .int .i64 l, .int .u32 rid] 27)).alloc (.cells #[.int .u32 0, .int .u16 0] 30) = W at hbW kB2 hm kY kD ⊢
    have hsz : W.heap.size = w.heap.size + 1 + 1 := by rw [← hW]; simp
    have hl1 := kB2.lt
    have hl2 := kY.lt
    have hl3 := kD.lt
    rw [hsz] at hl1 hl2 hl3
    have b0 := kB2.cell 0
    have b1 := kB2.cell 1
    have b2 := kB2.cell 2
    have b3 := kB2.cell 3
    have bf0 := kB2.frozen 0
    have bf1 := kB2.frozen 1
    have bf2 := kB2.frozen 2
    have bf3 := kB2.frozen 3
    simp only [List.getElem?_toArray, List.getElem?_cons_zero, List.getElem?_cons_succ] at b0 b1 b2 b3
    have y0 := kY.cell 0
    have y1 := kY.cell 1
    have y2 := kY.cell 2
    simp only [List.getElem?_toArray, List.getElem?_cons_zero, List.getElem?_cons_succ] at y0 y1 y2
    refine draw_start [] (Below W.heap.size) (by kernel_rfl) ?_
    refine draw_chunk (n := 19) (by kernel_rfl) (fun _ _ _ _ _ h => h) [0, 1, 2, 3, 4, 5, 6, 7, 8] [] _ #[true, true, true, true, true, true, true, true, true, false, false, false] (by kernel_rfl) 3 _ ?_ _ rfl ?_ ?_
    rotate_left
    · intro w' hw'
      have hc' : ∀ b o, b < W.heap.size → w'.cell? ⟨b, o, none⟩ = W.cell? ⟨b, o, none⟩ := fun b o h => hw'.cell (p := ⟨b, o, none⟩) h
      have hl := run_lookup_some key_keys Try.underlying43 (hm.same (hw'.block _ hm.lt)) ⟨a, l, rid⟩ (fs, fm) hg true; simp only [Key.val, dstV] at hl
      refine ci_step (i := 0) (v := ?_) rfl (by kernel_rfl) ?_ ?_
      rotate_left
      · first | (go_simp; done) | (go_simp; with_reducible rfl)
      skip
      try simp only [Act.put, List.setIfInBounds_toArray, List.set_cons_zero, List.set_cons_succ]
      refine ci_step (i := 1) (v := ?_) rfl (by kernel_rfl) ?_ ?_
      rotate_left
      · first | (go_simp; done) | (go_simp; with_reducible rfl)
      skip
      try simp only [Act.put, List.setIfInBounds_toArray, List.set_cons_zero, List.set_cons_succ]
      refine ci_step (i := 2) (v := ?_) rfl (by kernel_rfl) ?_ ?_
      rotate_left
      · first | (go_simp; done) | (go_simp; with_reducible rfl)
      skip
      try simp only [Act.put, List.setIfInBounds_toArray, List.set_cons_zero, List.set_cons_succ]
      refine ci_step (i := 3) (v := ?_) rfl (by kernel_rfl) ?_ ?_
      rotate_left
      · first | (go_simp; done) | (go_simp; with_reducible rfl)
      skip
      try simp only [Act.put, List.setIfInBounds_toArray, List.set_cons_zero, List.set_cons_succ]
      refine ci_step (i := 4) (v := ?_) rfl (by kernel_rfl) ?_ ?_
      rotate_left
      · first | (go_simp; done) | (go_simp; with_reducible rfl)
      skip
      try simp only [Act.put, List.setIfInBounds_toArray, List.set_cons_zero, List.set_cons_succ]
      refine ci_step (i := 5) (v := ?_) rfl (by kernel_rfl) ?_ ?_
      rotate_left
      · first | (go_simp; done) | (go_simp; with_reducible rfl)
      skip
      try simp only [Act.put, List.setIfInBounds_toArray, List.set_cons_zero, List.set_cons_succ]
      refine ci_step (i := 6) (v := ?_) rfl (by kernel_rfl) ?_ ?_
      rotate_left
      · first | (go_simp; done) | (go_simp; with_reducible rfl)
      skip
      try simp only [Act.put, List.setIfInBounds_toArray, List.set_cons_zero, List.set_cons_succ]
      refine ci_step (i := 7) (v := ?_) rfl (by kernel_rfl) ?_ ?_
      rotate_left
      · first | (go_simp; done) | (go_simp; with_reducible rfl)
      skip
      try simp only [Act.put, List.setIfInBounds_toArray, List.set_cons_zero, List.set_cons_succ]
      refine ci_step (i := 8) (v := ?_) rfl (by kernel_rfl) ?_ ?_
      rotate_left
      · first | (go_simp; done) | (go_simp; with_reducible rfl)
      skip
      try simp only [Act.put, List.setIfInBounds_toArray, List.set_cons_zero, List.set_cons_succ]
      refine ci_end ?_
      rfl
    refine draw_eff (i := 9) rfl (by kernel_rfl) (listed' := #[true, true, true, true, true, true, true, true, true, true, false, false]) rfl (fun K hK => ?_)
    replace hK := Lib.hid hK
    go_wp2_with fail
    refine hK.out _ _ ⟨fun _ => below_dd ((Below.refl _ W).alloc (Nat.le_refl _) _), ?_⟩
    clear hK
    refine draw_eff (i := 10) rfl (by kernel_rfl) (listed' := #[true, true, true, true, true, true, true, true, true, true, true, false]) rfl (fun K hK => ?_)
    replace hK := Lib.hid hK
    go_wp2_with fail
    refine hK.out _ _ ⟨fun _ => below_dd (below_two ((Below.refl _ W).alloc (Nat.le_refl _) _) ((Below.refl _ W).alloc (Nat.le_refl _) _) (by simp)), ?_⟩
    clear hK
    refine draw_chunk (n := 19) (by kernel_rfl) (fun _ _ _ _ _ h => h) [11] [] _ #[true, true, true, true, true, true, true, true, true, true, true, true] (by kernel_rfl) 0 _ ?_ _ rfl ?_ ?_
    rotate_left
    · intro w' hw'
      have hc' : ∀ b o, b < W.heap.size → w'.cell? ⟨b, o, none⟩ = ((W.alloc (.cells #[.int .u32 fs, .int .u16 fm] 30)).drew).cell? ⟨b, o, none⟩ := fun b o h => hw'.cell (p := ⟨b, o, none⟩) h
      refine ci_step (i := 11) (v := ?_) rfl (by kernel_rfl) ?_ ?_
      rotate_left
      · first | (go_simp; done) | (go_simp; with_reducible rfl)
      skip
      try simp only [Act.put, List.setIfInBounds_toArray, List.set_cons_zero, List.set_cons_succ]
      refine ci_end ?_
      rfl
    refine draw_done (by kernel_rfl) ?_ _
    have d0 := kD.cell 0
    have d1 := kD.cell 1
    simp only [List.getElem?_toArray, List.getElem?_cons_zero, List.getElem?_cons_succ] at d0 d1
    have dz0 := kD.frozen 0
    have dz1 := kD.frozen 1
    have hbV : Below w.heap.size w (((W.setCell ⟨w.heap.size + 1, 0, none⟩ (.int .u32 fs)).setCell ⟨w.heap.size + 1, 1, none⟩ (.int .u16 fm)).alloc (.cells #[.int .u32 fs, .int .u16 fm] 30)).drew := Below.drew (((hbW.setCell (by simp) _).setCell (by simp) _).alloc (by simpa [World.setCell] using hbW.size) _)
    have kD1 := (kD.set 0 (.int .u32 fs)).set 1 (.int .u16 fm)
    simp only [List.setIfInBounds_toArray, List.set_cons_zero, List.set_cons_succ] at kD1
    replace kD1 := kD1.alloc (.cells #[.int .u32 fs, .int .u16 fm] 30)
    have x0 := kD1.cell 0
    have x1 := kD1.cell 1
    simp only [List.getElem?_toArray, List.getElem?_cons_zero, List.getElem?_cons_succ] at x0 x1
    go_wp2
    refine bodyPost_ret (v := .tuple #[.agg #[.int .u32 fs, .int .u16 fm], .bool true]) (by simp [results, Try.results22, go_sem, x0, x1]) rfl ⟨by rw [HF.out, HG.out], hbV⟩
end Go.Proofs.Ytnfaeafplaeehaa
