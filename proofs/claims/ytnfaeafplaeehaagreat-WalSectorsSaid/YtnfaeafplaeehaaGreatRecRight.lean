import Derived.Test.YtnfaeafplaeehaaGreatMrgB
import Derived.Test.YtnfaeafplaeehaaGreatEqs
import Derived.Test.YtnfaeafplaeehaaGreatDist
set_option linter.unusedVariables false
set_option linter.unusedSimpArgs false
namespace Go.Proofs.YtnfaeafplaeehaaGreat
open Go.RowKit
attribute [-go_sem] Go.run_equalIn_agg

theorem recRight_spec (r : Rec) (ho : r.ok) : recRightB r = (decide (1 ≤ r.kind ∧ r.kind ≤ 4) && (recEqB r r.bare && (rightB r.a r.l && (!decide (1073741824 < r.s) && (((r.id != 0) == (r.kind == 1 || r.kind == 4)) && !(r.m == 65535)))))) := by
  obtain ⟨k, g, n, i, a, l, o, s, m⟩ := r
  have hi : 0 ≤ i := ho.2.2.2.1.1
  unfold recRightB recEqB Rec.bare
  simp only
  by_cases k1 : k = 1
  · subst k1
    simp only [Rec.mk.injEq]
    rw [Bool.eq_iff_iff]
    cases rightB a l <;> cases o <;> simp <;> omega
  by_cases k2 : k = 2
  · subst k2
    simp only [Rec.mk.injEq]
    rw [Bool.eq_iff_iff]
    cases rightB a l <;> cases o <;> simp <;> omega
  by_cases k3 : k = 3
  · subst k3
    simp only [Rec.mk.injEq]
    rw [Bool.eq_iff_iff]
    cases rightB a l <;> cases o <;> simp <;> omega
  by_cases k4 : k = 4
  · subst k4
    simp only [Rec.mk.injEq]
    rw [Bool.eq_iff_iff]
    cases rightB a l <;> cases o <;> simp <;> omega
  · have : ¬ (1 ≤ k ∧ k ≤ 4) := by omega
    simp [k1, k2, k3, k4, this]
set_option maxHeartbeats 4000000 in
theorem rec_Right (r : Rec) (w : World) (ho : r.ok) : Calls Tryz.prog 30 #[r.val] w fun e w' => e = .returned (.bool (recRightB r)) ∧ Below w.heap.size w w' := by
  have hS := recRight_spec r ho
  obtain ⟨kind, gen, lsn, rid, a, l, on, rs, rm⟩ := r
  have ha := ho.2.2.2.2.1
  have kR := Blk.new w 41 (Rec.arr ⟨kind, gen, lsn, rid, a, l, on, rs, rm⟩)
  have hb : Below w.heap.size w (w.alloc (.cells (Rec.arr ⟨kind, gen, lsn, rid, a, l, on, rs, rm⟩) 41)) := (Below.refl _ _).alloc (Nat.le_refl _) _
  simp only [Rec.arr, Rec.val] at kR hb ⊢
  simp only at hS ha
  clear ho
  by_cases c1 : kind < 1
  · have HS := Lib.hid (show recRightB ⟨kind, gen, lsn, rid, a, l, on, rs, rm⟩ = false by rw [hS, decide_eq_false (by omega)]; rfl)
    clear hS
    go_enter Tryz.func30, Tryz.ntmps30
    go_wp2_with fail
    generalize hW : w.alloc (.cells #[.int .i64 kind, .int .u32 gen, .int .u32 lsn, .int .u32 rid, .int .u32 a, .int .i64 l, .bool on, .int .u32 rs, .int .u16 rm] 41) = W at hb kR ⊢
    have hsz : W.heap.size = w.heap.size + 1 := by rw [← hW]; simp
    have r0 := kR.cell 0
    have r1 := kR.cell 1
    have r2 := kR.cell 2
    have r3 := kR.cell 3
    have r4 := kR.cell 4
    have r5 := kR.cell 5
    have r6 := kR.cell 6
    have r7 := kR.cell 7
    have r8 := kR.cell 8
    simp only [List.getElem?_toArray, List.getElem?_cons_zero, List.getElem?_cons_succ] at r0 r1 r2 r3 r4 r5 r6 r7 r8
    refine draw_start [] Later (by kernel_rfl) ?_
    refine draw_chunk (n := 47) (by kernel_rfl) (fun _ _ _ _ _ h => h) [0, 1, 2, 3, 4, 5, 6, 7, 8, 9, 10, 11, 12, 13, 14, 15, 16, 17, 18, 19, 20, 21, 22, 23, 24, 25] [] _ #[true, true, true, true, true, true, true, true, true, true, true, true, true, true, true, true, true, true, true, true, true, true, true, true, true, true] (by kernel_rfl) 0 _ ?_ _ rfl ?_ ?_
    rotate_left
    · intro w' hw'
      have hc' : ∀ b o, b < W.heap.size → w'.cell? ⟨b, o, none⟩ = W.cell? ⟨b, o, none⟩ := (bcell hw').1
      iterate 4
        refine ci_step (v := ?_) rfl (by kernel_rfl) ?_ ?_
        rotate_left
        · first | (go_simp; done) | (go_simp; with_reducible rfl)
        try simp only [Act.put, List.setIfInBounds_toArray, List.set_cons_zero, List.set_cons_succ]
      refine ci_off (i := 4) rfl (by kernel_rfl) ?_
      try simp only [Act.put, List.setIfInBounds_toArray, List.set_cons_zero, List.set_cons_succ]
      refine ci_off (i := 5) rfl (by kernel_rfl) ?_
      try simp only [Act.put, List.setIfInBounds_toArray, List.set_cons_zero, List.set_cons_succ]
      refine ci_off (i := 6) rfl (by kernel_rfl) ?_
      try simp only [Act.put, List.setIfInBounds_toArray, List.set_cons_zero, List.set_cons_succ]
      iterate 2
        refine ci_step (v := ?_) rfl (by kernel_rfl) ?_ ?_
        rotate_left
        · first | (go_simp; done) | (go_simp; with_reducible rfl)
        try simp only [Act.put, List.setIfInBounds_toArray, List.set_cons_zero, List.set_cons_succ]
      refine ci_off (i := 9) rfl (by kernel_rfl) ?_
      try simp only [Act.put, List.setIfInBounds_toArray, List.set_cons_zero, List.set_cons_succ]
      refine ci_off (i := 10) rfl (by kernel_rfl) ?_
      try simp only [Act.put, List.setIfInBounds_toArray, List.set_cons_zero, List.set_cons_succ]
      refine ci_off (i := 11) rfl (by kernel_rfl) ?_
      try simp only [Act.put, List.setIfInBounds_toArray, List.set_cons_zero, List.set_cons_succ]
      refine ci_off (i := 12) rfl (by kernel_rfl) ?_
      try simp only [Act.put, List.setIfInBounds_toArray, List.set_cons_zero, List.set_cons_succ]
      iterate 2
        refine ci_step (v := ?_) rfl (by kernel_rfl) ?_ ?_
        rotate_left
        · first | (go_simp; done) | (go_simp; with_reducible rfl)
        try simp only [Act.put, List.setIfInBounds_toArray, List.set_cons_zero, List.set_cons_succ]
      refine ci_off (i := 15) rfl (by kernel_rfl) ?_
      try simp only [Act.put, List.setIfInBounds_toArray, List.set_cons_zero, List.set_cons_succ]
      refine ci_off (i := 16) rfl (by kernel_rfl) ?_
      try simp only [Act.put, List.setIfInBounds_toArray, List.set_cons_zero, List.set_cons_succ]
      refine ci_off (i := 17) rfl (by kernel_rfl) ?_
      try simp only [Act.put, List.setIfInBounds_toArray, List.set_cons_zero, List.set_cons_succ]
      refine ci_off (i := 18) rfl (by kernel_rfl) ?_
      try simp only [Act.put, List.setIfInBounds_toArray, List.set_cons_zero, List.set_cons_succ]
      iterate 2
        refine ci_step (v := ?_) rfl (by kernel_rfl) ?_ ?_
        rotate_left
        · first | (go_simp; done) | (go_simp; with_reducible rfl)
        try simp only [Act.put, List.setIfInBounds_toArray, List.set_cons_zero, List.set_cons_succ]
      refine ci_off (i := 21) rfl (by kernel_rfl) ?_
      try simp only [Act.put, List.setIfInBounds_toArray, List.set_cons_zero, List.set_cons_succ]
      refine ci_off (i := 22) rfl (by kernel_rfl) ?_
      try simp only [Act.put, List.setIfInBounds_toArray, List.set_cons_zero, List.set_cons_succ]
      refine ci_off (i := 23) rfl (by kernel_rfl) ?_
      try simp only [Act.put, List.setIfInBounds_toArray, List.set_cons_zero, List.set_cons_succ]
      refine ci_off (i := 24) rfl (by kernel_rfl) ?_
      try simp only [Act.put, List.setIfInBounds_toArray, List.set_cons_zero, List.set_cons_succ]
      refine ci_step (i := 25) (v := ?_) rfl (by kernel_rfl) ?_ ?_
      rotate_left
      · first | (go_simp; done) | (go_simp; with_reducible rfl)
      skip
      try simp only [Act.put, List.setIfInBounds_toArray, List.set_cons_zero, List.set_cons_succ]
      refine ci_end ?_
      rfl
    refine draw_done (by kernel_rfl) ?_ _
    go_wp2
    go_ret
    exact ⟨by rw [HS.out]; first | rfl | simp [*], by first | exact hb | exact Below.drew hb⟩
  by_cases c2 : 4 < kind
  · have HS := Lib.hid (show recRightB ⟨kind, gen, lsn, rid, a, l, on, rs, rm⟩ = false by rw [hS, decide_eq_false (by omega)]; rfl)
    clear hS
    have c1' : decide (kind < 1) = false := by simpa using c1
    go_enter Tryz.func30, Tryz.ntmps30
    go_wp2_with fail
    generalize hW : w.alloc (.cells #[.int .i64 kind, .int .u32 gen, .int .u32 lsn, .int .u32 rid, .int .u32 a, .int .i64 l, .bool on, .int .u32 rs, .int .u16 rm] 41) = W at hb kR ⊢
    have hsz : W.heap.size = w.heap.size + 1 := by rw [← hW]; simp
    have r0 := kR.cell 0
    have r1 := kR.cell 1
    have r2 := kR.cell 2
    have r3 := kR.cell 3
    have r4 := kR.cell 4
    have r5 := kR.cell 5
    have r6 := kR.cell 6
    have r7 := kR.cell 7
    have r8 := kR.cell 8
    simp only [List.getElem?_toArray, List.getElem?_cons_zero, List.getElem?_cons_succ] at r0 r1 r2 r3 r4 r5 r6 r7 r8
    refine draw_start [] Later (by kernel_rfl) ?_
    refine draw_chunk (n := 47) (by kernel_rfl) (fun _ _ _ _ _ h => h) [0, 1, 2, 3, 4, 5, 6, 7, 8, 9, 10, 11, 12, 13, 14, 15, 16, 17, 18, 19, 20, 21, 22, 23, 24, 25] [] _ #[true, true, true, true, true, true, true, true, true, true, true, true, true, true, true, true, true, true, true, true, true, true, true, true, true, true] (by kernel_rfl) 0 _ ?_ _ rfl ?_ ?_
    rotate_left
    · intro w' hw'
      have hc' : ∀ b o, b < W.heap.size → w'.cell? ⟨b, o, none⟩ = W.cell? ⟨b, o, none⟩ := (bcell hw').1
      iterate 9
        refine ci_step (v := ?_) rfl (by kernel_rfl) ?_ ?_
        rotate_left
        · first | (go_simp; done) | (go_simp; with_reducible rfl)
        try simp only [Act.put, List.setIfInBounds_toArray, List.set_cons_zero, List.set_cons_succ]
      refine ci_off (i := 9) rfl (by kernel_rfl) ?_
      try simp only [Act.put, List.setIfInBounds_toArray, List.set_cons_zero, List.set_cons_succ]
      refine ci_off (i := 10) rfl (by kernel_rfl) ?_
      try simp only [Act.put, List.setIfInBounds_toArray, List.set_cons_zero, List.set_cons_succ]
      refine ci_off (i := 11) rfl (by kernel_rfl) ?_
      try simp only [Act.put, List.setIfInBounds_toArray, List.set_cons_zero, List.set_cons_succ]
      refine ci_off (i := 12) rfl (by kernel_rfl) ?_
      try simp only [Act.put, List.setIfInBounds_toArray, List.set_cons_zero, List.set_cons_succ]
      iterate 2
        refine ci_step (v := ?_) rfl (by kernel_rfl) ?_ ?_
        rotate_left
        · first | (go_simp; done) | (go_simp; with_reducible rfl)
        try simp only [Act.put, List.setIfInBounds_toArray, List.set_cons_zero, List.set_cons_succ]
      refine ci_off (i := 15) rfl (by kernel_rfl) ?_
      try simp only [Act.put, List.setIfInBounds_toArray, List.set_cons_zero, List.set_cons_succ]
      refine ci_off (i := 16) rfl (by kernel_rfl) ?_
      try simp only [Act.put, List.setIfInBounds_toArray, List.set_cons_zero, List.set_cons_succ]
      refine ci_off (i := 17) rfl (by kernel_rfl) ?_
      try simp only [Act.put, List.setIfInBounds_toArray, List.set_cons_zero, List.set_cons_succ]
      refine ci_off (i := 18) rfl (by kernel_rfl) ?_
      try simp only [Act.put, List.setIfInBounds_toArray, List.set_cons_zero, List.set_cons_succ]
      iterate 2
        refine ci_step (v := ?_) rfl (by kernel_rfl) ?_ ?_
        rotate_left
        · first | (go_simp; done) | (go_simp; with_reducible rfl)
        try simp only [Act.put, List.setIfInBounds_toArray, List.set_cons_zero, List.set_cons_succ]
      refine ci_off (i := 21) rfl (by kernel_rfl) ?_
      try simp only [Act.put, List.setIfInBounds_toArray, List.set_cons_zero, List.set_cons_succ]
      refine ci_off (i := 22) rfl (by kernel_rfl) ?_
      try simp only [Act.put, List.setIfInBounds_toArray, List.set_cons_zero, List.set_cons_succ]
      refine ci_off (i := 23) rfl (by kernel_rfl) ?_
      try simp only [Act.put, List.setIfInBounds_toArray, List.set_cons_zero, List.set_cons_succ]
      refine ci_off (i := 24) rfl (by kernel_rfl) ?_
      try simp only [Act.put, List.setIfInBounds_toArray, List.set_cons_zero, List.set_cons_succ]
      refine ci_step (i := 25) (v := ?_) rfl (by kernel_rfl) ?_ ?_
      rotate_left
      · first | (go_simp; done) | (go_simp; with_reducible rfl)
      skip
      try simp only [Act.put, List.setIfInBounds_toArray, List.set_cons_zero, List.set_cons_succ]
      refine ci_end ?_
      rfl
    refine draw_done (by kernel_rfl) ?_ _
    go_wp2
    go_ret
    exact ⟨by rw [HS.out]; first | rfl | simp [*], by first | exact hb | exact Below.drew hb⟩
  rw [decide_eq_true (by omega), Bool.true_and] at hS
  have c1' : decide (kind < 1) = false := by simpa using c1
  have c2' : decide (4 < kind) = false := by simpa using c2
  obtain ⟨⟨ck, cg, cl, ci, ca, cp, co, cs, cm⟩, hbare⟩ : ∃ q, (Rec.mk kind gen lsn rid a l on rs rm).bare = q := ⟨_, rfl⟩
  rw [hbare] at hS
  replace hbare := Lib.hid hbare
  cases hE : recEqB ⟨kind, gen, lsn, rid, a, l, on, rs, rm⟩ ⟨ck, cg, cl, ci, ca, cp, co, cs, cm⟩ with
  | false =>
    rw [hE, Bool.false_and] at hS
    have HS := Lib.hid hS
    clear hS
    go_enter Tryz.func30, Tryz.ntmps30
    go_wp2_with fail
    generalize hW : w.alloc (.cells #[.int .i64 kind, .int .u32 gen, .int .u32 lsn, .int .u32 rid, .int .u32 a, .int .i64 l, .bool on, .int .u32 rs, .int .u16 rm] 41) = W at hb kR ⊢
    have hsz : W.heap.size = w.heap.size + 1 := by rw [← hW]; simp
    have r0 := kR.cell 0
    have r1 := kR.cell 1
    have r2 := kR.cell 2
    have r3 := kR.cell 3
    have r4 := kR.cell 4
    have r5 := kR.cell 5
    have r6 := kR.cell 6
    have r7 := kR.cell 7
    have r8 := kR.cell 8
    simp only [List.getElem?_toArray, List.getElem?_cons_zero, List.getElem?_cons_succ] at r0 r1 r2 r3 r4 r5 r6 r7 r8
    refine draw_start [] Later (by kernel_rfl) ?_
    refine draw_chunk (n := 47) (by kernel_rfl) (fun _ _ _ _ _ h => h) [0, 1, 2, 3, 4, 5, 6, 7, 8, 9, 10] [] _ #[true, true, true, true, true, true, true, true, true, true, true, false, false, false, false, false, false, false, false, false, false, false, false, false, false, false] (by kernel_rfl) 15 _ ?_ _ rfl ?_ ?_
    rotate_left
    · intro w' hw'
      have hc' : ∀ b o, b < W.heap.size → w'.cell? ⟨b, o, none⟩ = W.cell? ⟨b, o, none⟩ := (bcell hw').1
      iterate 11
        refine ci_step (v := ?_) rfl (by kernel_rfl) ?_ ?_
        rotate_left
        · first | (go_simp; done) | (go_simp; with_reducible rfl)
        try simp only [Act.put, List.setIfInBounds_toArray, List.set_cons_zero, List.set_cons_succ]
      refine ci_end ?_
      rfl
    refine draw_eff (i := 11) rfl (by kernel_rfl) (listed' := #[true, true, true, true, true, true, true, true, true, true, true, true, false, false, false, false, false, false, false, false, false, false, false, false, false, false]) rfl (fun K hK => ?_)
    replace hK := Lib.hid hK
    go_wp2_with fail
    refine (rec_bare ⟨kind, gen, lsn, rid, a, l, on, rs, rm⟩ _).mono ?_
    rintro e w1 ⟨rfl, hb1⟩
    rw [hbare.out]
    simp only [Rec.val, Rec.arr]
    go_wp2_with fail
    refine hK.out _ _ ⟨fun _ => hb1, ?_⟩
    clear hK
    replace hb := below_step (Below.drew hb) hb.size hb1
    replace kR := kR.drew.below' hb1
    clear hb1
    have hl1 := kR.lt
    have r0 := kR.cell 0
    have r1 := kR.cell 1
    have r2 := kR.cell 2
    have r3 := kR.cell 3
    have r4 := kR.cell 4
    have r5 := kR.cell 5
    have r6 := kR.cell 6
    have r7 := kR.cell 7
    have r8 := kR.cell 8
    simp only [List.getElem?_toArray, List.getElem?_cons_zero, List.getElem?_cons_succ] at r0 r1 r2 r3 r4 r5 r6 r7 r8
    refine draw_chunk (n := 47) (by kernel_rfl) (fun _ _ _ _ _ h => h) [12, 13, 14, 15, 16, 17, 18, 19, 20, 21, 22, 23, 24, 25] [] _ #[true, true, true, true, true, true, true, true, true, true, true, true, true, true, true, true, true, true, true, true, true, true, true, true, true, true] (by kernel_rfl) 0 _ ?_ _ rfl ?_ ?_
    rotate_left
    · intro w' hw'
      have hc' : ∀ b o, b < w1.heap.size → w'.cell? ⟨b, o, none⟩ = w1.cell? ⟨b, o, none⟩ := (bcell hw').1
      iterate 3
        refine ci_step (v := ?_) rfl (by kernel_rfl) ?_ ?_
        rotate_left
        · first | (go_simp; done) | (go_simp; with_reducible rfl)
        try simp only [Act.put, List.setIfInBounds_toArray, List.set_cons_zero, List.set_cons_succ]
      refine ci_off (i := 15) rfl (by kernel_rfl) ?_
      try simp only [Act.put, List.setIfInBounds_toArray, List.set_cons_zero, List.set_cons_succ]
      refine ci_off (i := 16) rfl (by kernel_rfl) ?_
      try simp only [Act.put, List.setIfInBounds_toArray, List.set_cons_zero, List.set_cons_succ]
      refine ci_off (i := 17) rfl (by kernel_rfl) ?_
      try simp only [Act.put, List.setIfInBounds_toArray, List.set_cons_zero, List.set_cons_succ]
      refine ci_off (i := 18) rfl (by kernel_rfl) ?_
      try simp only [Act.put, List.setIfInBounds_toArray, List.set_cons_zero, List.set_cons_succ]
      iterate 2
        refine ci_step (v := ?_) rfl (by kernel_rfl) ?_ ?_
        rotate_left
        · first | (go_simp; done) | (go_simp; with_reducible rfl)
        try simp only [Act.put, List.setIfInBounds_toArray, List.set_cons_zero, List.set_cons_succ]
      refine ci_off (i := 21) rfl (by kernel_rfl) ?_
      try simp only [Act.put, List.setIfInBounds_toArray, List.set_cons_zero, List.set_cons_succ]
      refine ci_off (i := 22) rfl (by kernel_rfl) ?_
      try simp only [Act.put, List.setIfInBounds_toArray, List.set_cons_zero, List.set_cons_succ]
      refine ci_off (i := 23) rfl (by kernel_rfl) ?_
      try simp only [Act.put, List.setIfInBounds_toArray, List.set_cons_zero, List.set_cons_succ]
      refine ci_off (i := 24) rfl (by kernel_rfl) ?_
      try simp only [Act.put, List.setIfInBounds_toArray, List.set_cons_zero, List.set_cons_succ]
      refine ci_step (i := 25) (v := ?_) rfl (by kernel_rfl) ?_ ?_
      rotate_left
      · first | (go_simp; done) | (go_simp; with_reducible rfl)
      skip
      try simp only [Act.put, List.setIfInBounds_toArray, List.set_cons_zero, List.set_cons_succ]
      refine ci_end ?_
      rfl
    refine draw_done (by kernel_rfl) ?_ _
    go_wp2
    go_ret
    exact ⟨by rw [HS.out]; first | rfl | simp [*], by first | exact hb | exact Below.drew hb⟩
  | true =>
    rw [hE, Bool.true_and] at hS
    cases hR : rightB a l with
    | false =>
      rw [hR, Bool.false_and] at hS
      have HS := Lib.hid hS
      clear hS
      go_enter Tryz.func30, Tryz.ntmps30
      go_wp2_with fail
      generalize hW : w.alloc (.cells #[.int .i64 kind, .int .u32 gen, .int .u32 lsn, .int .u32 rid, .int .u32 a, .int .i64 l, .bool on, .int .u32 rs, .int .u16 rm] 41) = W at hb kR ⊢
      have hsz : W.heap.size = w.heap.size + 1 := by rw [← hW]; simp
      have r0 := kR.cell 0
      have r1 := kR.cell 1
      have r2 := kR.cell 2
      have r3 := kR.cell 3
      have r4 := kR.cell 4
      have r5 := kR.cell 5
      have r6 := kR.cell 6
      have r7 := kR.cell 7
      have r8 := kR.cell 8
      simp only [List.getElem?_toArray, List.getElem?_cons_zero, List.getElem?_cons_succ] at r0 r1 r2 r3 r4 r5 r6 r7 r8
      refine draw_start [] Later (by kernel_rfl) ?_
      refine draw_chunk (n := 47) (by kernel_rfl) (fun _ _ _ _ _ h => h) [0, 1, 2, 3, 4, 5, 6, 7, 8, 9, 10] [] _ #[true, true, true, true, true, true, true, true, true, true, true, false, false, false, false, false, false, false, false, false, false, false, false, false, false, false] (by kernel_rfl) 15 _ ?_ _ rfl ?_ ?_
      rotate_left
      · intro w' hw'
        have hc' : ∀ b o, b < W.heap.size → w'.cell? ⟨b, o, none⟩ = W.cell? ⟨b, o, none⟩ := (bcell hw').1
        iterate 11
          refine ci_step (v := ?_) rfl (by kernel_rfl) ?_ ?_
          rotate_left
          · first | (go_simp; done) | (go_simp; with_reducible rfl)
          try simp only [Act.put, List.setIfInBounds_toArray, List.set_cons_zero, List.set_cons_succ]
        refine ci_end ?_
        rfl
      refine draw_eff (i := 11) rfl (by kernel_rfl) (listed' := #[true, true, true, true, true, true, true, true, true, true, true, true, false, false, false, false, false, false, false, false, false, false, false, false, false, false]) rfl (fun K hK => ?_)
      replace hK := Lib.hid hK
      go_wp2_with fail
      refine (rec_bare ⟨kind, gen, lsn, rid, a, l, on, rs, rm⟩ _).mono ?_
      rintro e w1 ⟨rfl, hb1⟩
      rw [hbare.out]
      simp only [Rec.val, Rec.arr]
      go_wp2_with fail
      refine hK.out _ _ ⟨fun _ => hb1, ?_⟩
      clear hK
      replace hb := below_step (Below.drew hb) hb.size hb1
      replace kR := kR.drew.below' hb1
      clear hb1
      have hl1 := kR.lt
      have r0 := kR.cell 0
      have r1 := kR.cell 1
      have r2 := kR.cell 2
      have r3 := kR.cell 3
      have r4 := kR.cell 4
      have r5 := kR.cell 5
      have r6 := kR.cell 6
      have r7 := kR.cell 7
      have r8 := kR.cell 8
      simp only [List.getElem?_toArray, List.getElem?_cons_zero, List.getElem?_cons_succ] at r0 r1 r2 r3 r4 r5 r6 r7 r8
      refine draw_chunk (n := 47) (by kernel_rfl) (fun _ _ _ _ _ h => h) [12, 13, 14, 15, 16] [] _ #[true, true, true, true, true, true, true, true, true, true, true, true, true, true, true, true, true, false, false, false, false, false, false, false, false, false] (by kernel_rfl) 9 _ ?_ _ rfl ?_ ?_
      rotate_left
      · intro w' hw'
        have hc' : ∀ b o, b < w1.heap.size → w'.cell? ⟨b, o, none⟩ = w1.cell? ⟨b, o, none⟩ := (bcell hw').1
        iterate 5
          refine ci_step (v := ?_) rfl (by kernel_rfl) ?_ ?_
          rotate_left
          · first | (go_simp; done) | (go_simp; with_reducible rfl)
          try simp only [Act.put, List.setIfInBounds_toArray, List.set_cons_zero, List.set_cons_succ]
        refine ci_end ?_
        rfl
      refine draw_eff (i := 17) rfl (by kernel_rfl) (listed' := #[true, true, true, true, true, true, true, true, true, true, true, true, true, true, true, true, true, true, false, false, false, false, false, false, false, false]) rfl (fun K hK => ?_)
      replace hK := Lib.hid hK
      go_wp2_with fail
      refine (addr_Right _ _ _ ha).mono ?_
      rintro e w2 ⟨rfl, hb1⟩
      rw [hR]
      go_wp2_with fail
      refine hK.out _ _ ⟨fun _ => hb1, ?_⟩
      clear hK
      replace hb := below_step hb hb.size hb1
      replace kR := kR.below' hb1
      clear hb1
      have hl1 := kR.lt
      have r0 := kR.cell 0
      have r1 := kR.cell 1
      have r2 := kR.cell 2
      have r3 := kR.cell 3
      have r4 := kR.cell 4
      have r5 := kR.cell 5
      have r6 := kR.cell 6
      have r7 := kR.cell 7
      have r8 := kR.cell 8
      simp only [List.getElem?_toArray, List.getElem?_cons_zero, List.getElem?_cons_succ] at r0 r1 r2 r3 r4 r5 r6 r7 r8
      refine draw_chunk (n := 47) (by kernel_rfl) (fun _ _ _ _ _ h => h) [18, 19, 20, 21, 22, 23, 24, 25] [] _ #[true, true, true, true, true, true, true, true, true, true, true, true, true, true, true, true, true, true, true, true, true, true, true, true, true, true] (by kernel_rfl) 0 _ ?_ _ rfl ?_ ?_
      rotate_left
      · intro w' hw'
        have hc' : ∀ b o, b < w2.heap.size → w'.cell? ⟨b, o, none⟩ = w2.cell? ⟨b, o, none⟩ := (bcell hw').1
        iterate 3
          refine ci_step (v := ?_) rfl (by kernel_rfl) ?_ ?_
          rotate_left
          · first | (go_simp; done) | (go_simp; with_reducible rfl)
          try simp only [Act.put, List.setIfInBounds_toArray, List.set_cons_zero, List.set_cons_succ]
        refine ci_off (i := 21) rfl (by kernel_rfl) ?_
        try simp only [Act.put, List.setIfInBounds_toArray, List.set_cons_zero, List.set_cons_succ]
        refine ci_off (i := 22) rfl (by kernel_rfl) ?_
        try simp only [Act.put, List.setIfInBounds_toArray, List.set_cons_zero, List.set_cons_succ]
        refine ci_off (i := 23) rfl (by kernel_rfl) ?_
        try simp only [Act.put, List.setIfInBounds_toArray, List.set_cons_zero, List.set_cons_succ]
        refine ci_off (i := 24) rfl (by kernel_rfl) ?_
        try simp only [Act.put, List.setIfInBounds_toArray, List.set_cons_zero, List.set_cons_succ]
        refine ci_step (i := 25) (v := ?_) rfl (by kernel_rfl) ?_ ?_
        rotate_left
        · first | (go_simp; done) | (go_simp; with_reducible rfl)
        skip
        try simp only [Act.put, List.setIfInBounds_toArray, List.set_cons_zero, List.set_cons_succ]
        refine ci_end ?_
        rfl
      refine draw_done (by kernel_rfl) ?_ _
      go_wp2
      go_ret
      exact ⟨by rw [HS.out]; first | rfl | simp [*], by first | exact hb | exact Below.drew hb⟩
    | true =>
      rw [hR, Bool.true_and] at hS
      cases hs : decide (1073741824 < rs) with
      | true =>
        rw [hs] at hS
        have HS := Lib.hid (hS.trans rfl)
        clear hS
        go_enter Tryz.func30, Tryz.ntmps30
        go_wp2_with fail
        generalize hW : w.alloc (.cells #[.int .i64 kind, .int .u32 gen, .int .u32 lsn, .int .u32 rid, .int .u32 a, .int .i64 l, .bool on, .int .u32 rs, .int .u16 rm] 41) = W at hb kR ⊢
        have hsz : W.heap.size = w.heap.size + 1 := by rw [← hW]; simp
        have r0 := kR.cell 0
        have r1 := kR.cell 1
        have r2 := kR.cell 2
        have r3 := kR.cell 3
        have r4 := kR.cell 4
        have r5 := kR.cell 5
        have r6 := kR.cell 6
        have r7 := kR.cell 7
        have r8 := kR.cell 8
        simp only [List.getElem?_toArray, List.getElem?_cons_zero, List.getElem?_cons_succ] at r0 r1 r2 r3 r4 r5 r6 r7 r8
        refine draw_start [] Later (by kernel_rfl) ?_
        refine draw_chunk (n := 47) (by kernel_rfl) (fun _ _ _ _ _ h => h) [0, 1, 2, 3, 4, 5, 6, 7, 8, 9, 10] [] _ #[true, true, true, true, true, true, true, true, true, true, true, false, false, false, false, false, false, false, false, false, false, false, false, false, false, false] (by kernel_rfl) 15 _ ?_ _ rfl ?_ ?_
        rotate_left
        · intro w' hw'
          have hc' : ∀ b o, b < W.heap.size → w'.cell? ⟨b, o, none⟩ = W.cell? ⟨b, o, none⟩ := (bcell hw').1
          iterate 11
            refine ci_step (v := ?_) rfl (by kernel_rfl) ?_ ?_
            rotate_left
            · first | (go_simp; done) | (go_simp; with_reducible rfl)
            try simp only [Act.put, List.setIfInBounds_toArray, List.set_cons_zero, List.set_cons_succ]
          refine ci_end ?_
          rfl
        refine draw_eff (i := 11) rfl (by kernel_rfl) (listed' := #[true, true, true, true, true, true, true, true, true, true, true, true, false, false, false, false, false, false, false, false, false, false, false, false, false, false]) rfl (fun K hK => ?_)
        replace hK := Lib.hid hK
        go_wp2_with fail
        refine (rec_bare ⟨kind, gen, lsn, rid, a, l, on, rs, rm⟩ _).mono ?_
        rintro e w1 ⟨rfl, hb1⟩
        rw [hbare.out]
        simp only [Rec.val, Rec.arr]
        go_wp2_with fail
        refine hK.out _ _ ⟨fun _ => hb1, ?_⟩
        clear hK
        replace hb := below_step (Below.drew hb) hb.size hb1
        replace kR := kR.drew.below' hb1
        clear hb1
        have hl1 := kR.lt
        have r0 := kR.cell 0
        have r1 := kR.cell 1
        have r2 := kR.cell 2
        have r3 := kR.cell 3
        have r4 := kR.cell 4
        have r5 := kR.cell 5
        have r6 := kR.cell 6
        have r7 := kR.cell 7
        have r8 := kR.cell 8
        simp only [List.getElem?_toArray, List.getElem?_cons_zero, List.getElem?_cons_succ] at r0 r1 r2 r3 r4 r5 r6 r7 r8
        refine draw_chunk (n := 47) (by kernel_rfl) (fun _ _ _ _ _ h => h) [12, 13, 14, 15, 16] [] _ #[true, true, true, true, true, true, true, true, true, true, true, true, true, true, true, true, true, false, false, false, false, false, false, false, false, false] (by kernel_rfl) 9 _ ?_ _ rfl ?_ ?_
        rotate_left
        · intro w' hw'
          have hc' : ∀ b o, b < w1.heap.size → w'.cell? ⟨b, o, none⟩ = w1.cell? ⟨b, o, none⟩ := (bcell hw').1
          iterate 5
            refine ci_step (v := ?_) rfl (by kernel_rfl) ?_ ?_
            rotate_left
            · first | (go_simp; done) | (go_simp; with_reducible rfl)
            try simp only [Act.put, List.setIfInBounds_toArray, List.set_cons_zero, List.set_cons_succ]
          refine ci_end ?_
          rfl
        refine draw_eff (i := 17) rfl (by kernel_rfl) (listed' := #[true, true, true, true, true, true, true, true, true, true, true, true, true, true, true, true, true, true, false, false, false, false, false, false, false, false]) rfl (fun K hK => ?_)
        replace hK := Lib.hid hK
        go_wp2_with fail
        refine (addr_Right _ _ _ ha).mono ?_
        rintro e w2 ⟨rfl, hb1⟩
        rw [hR]
        go_wp2_with fail
        refine hK.out _ _ ⟨fun _ => hb1, ?_⟩
        clear hK
        replace hb := below_step hb hb.size hb1
        replace kR := kR.below' hb1
        clear hb1
        have hl1 := kR.lt
        have r0 := kR.cell 0
        have r1 := kR.cell 1
        have r2 := kR.cell 2
        have r3 := kR.cell 3
        have r4 := kR.cell 4
        have r5 := kR.cell 5
        have r6 := kR.cell 6
        have r7 := kR.cell 7
        have r8 := kR.cell 8
        simp only [List.getElem?_toArray, List.getElem?_cons_zero, List.getElem?_cons_succ] at r0 r1 r2 r3 r4 r5 r6 r7 r8
        refine draw_chunk (n := 47) (by kernel_rfl) (fun _ _ _ _ _ h => h) [18, 19, 20, 21, 22, 23, 24, 25] [] _ #[true, true, true, true, true, true, true, true, true, true, true, true, true, true, true, true, true, true, true, true, true, true, true, true, true, true] (by kernel_rfl) 0 _ ?_ _ rfl ?_ ?_
        rotate_left
        · intro w' hw'
          have hc' : ∀ b o, b < w2.heap.size → w'.cell? ⟨b, o, none⟩ = w2.cell? ⟨b, o, none⟩ := (bcell hw').1
          iterate 8
            refine ci_step (v := ?_) rfl (by kernel_rfl) ?_ ?_
            rotate_left
            · first | (go_simp; done) | (go_simp; with_reducible rfl)
            try simp only [Act.put, List.setIfInBounds_toArray, List.set_cons_zero, List.set_cons_succ]
          refine ci_end ?_
          rfl
        refine draw_done (by kernel_rfl) ?_ _
        go_wp2
        go_ret
        exact ⟨by rw [HS.out]; first | rfl | simp [*], by first | exact hb | exact Below.drew hb⟩
      | false =>
        rw [hs, Bool.not_false, Bool.true_and] at hS
        cases hk1 : (kind == 1) with
        | true =>
          rw [hk1, Bool.true_or] at hS
          cases hid : (rid != 0) with
          | true =>
            rw [hid] at hS
            have HS := Lib.hid (show _ = !(rm == 65535) from hS)
            clear hS
            go_enter Tryz.func30, Tryz.ntmps30
            go_wp2_with fail
            generalize hW : w.alloc (.cells #[.int .i64 kind, .int .u32 gen, .int .u32 lsn, .int .u32 rid, .int .u32 a, .int .i64 l, .bool on, .int .u32 rs, .int .u16 rm] 41) = W at hb kR ⊢
            have hsz : W.heap.size = w.heap.size + 1 := by rw [← hW]; simp
            have r0 := kR.cell 0
            have r1 := kR.cell 1
            have r2 := kR.cell 2
            have r3 := kR.cell 3
            have r4 := kR.cell 4
            have r5 := kR.cell 5
            have r6 := kR.cell 6
            have r7 := kR.cell 7
            have r8 := kR.cell 8
            simp only [List.getElem?_toArray, List.getElem?_cons_zero, List.getElem?_cons_succ] at r0 r1 r2 r3 r4 r5 r6 r7 r8
            refine draw_start [] Later (by kernel_rfl) ?_
            refine draw_chunk (n := 47) (by kernel_rfl) (fun _ _ _ _ _ h => h) [0, 1, 2, 3, 4, 5, 6, 7, 8, 9, 10] [] _ #[true, true, true, true, true, true, true, true, true, true, true, false, false, false, false, false, false, false, false, false, false, false, false, false, false, false] (by kernel_rfl) 15 _ ?_ _ rfl ?_ ?_
            rotate_left
            · intro w' hw'
              have hc' : ∀ b o, b < W.heap.size → w'.cell? ⟨b, o, none⟩ = W.cell? ⟨b, o, none⟩ := (bcell hw').1
              iterate 11
                refine ci_step (v := ?_) rfl (by kernel_rfl) ?_ ?_
                rotate_left
                · first | (go_simp; done) | (go_simp; with_reducible rfl)
                try simp only [Act.put, List.setIfInBounds_toArray, List.set_cons_zero, List.set_cons_succ]
              refine ci_end ?_
              rfl
            refine draw_eff (i := 11) rfl (by kernel_rfl) (listed' := #[true, true, true, true, true, true, true, true, true, true, true, true, false, false, false, false, false, false, false, false, false, false, false, false, false, false]) rfl (fun K hK => ?_)
            replace hK := Lib.hid hK
            go_wp2_with fail
            refine (rec_bare ⟨kind, gen, lsn, rid, a, l, on, rs, rm⟩ _).mono ?_
            rintro e w1 ⟨rfl, hb1⟩
            rw [hbare.out]
            simp only [Rec.val, Rec.arr]
            go_wp2_with fail
            refine hK.out _ _ ⟨fun _ => hb1, ?_⟩
            clear hK
            replace hb := below_step (Below.drew hb) hb.size hb1
            replace kR := kR.drew.below' hb1
            clear hb1
            have hl1 := kR.lt
            have r0 := kR.cell 0
            have r1 := kR.cell 1
            have r2 := kR.cell 2
            have r3 := kR.cell 3
            have r4 := kR.cell 4
            have r5 := kR.cell 5
            have r6 := kR.cell 6
            have r7 := kR.cell 7
            have r8 := kR.cell 8
            simp only [List.getElem?_toArray, List.getElem?_cons_zero, List.getElem?_cons_succ] at r0 r1 r2 r3 r4 r5 r6 r7 r8
            refine draw_chunk (n := 47) (by kernel_rfl) (fun _ _ _ _ _ h => h) [12, 13, 14, 15, 16] [] _ #[true, true, true, true, true, true, true, true, true, true, true, true, true, true, true, true, true, false, false, false, false, false, false, false, false, false] (by kernel_rfl) 9 _ ?_ _ rfl ?_ ?_
            rotate_left
            · intro w' hw'
              have hc' : ∀ b o, b < w1.heap.size → w'.cell? ⟨b, o, none⟩ = w1.cell? ⟨b, o, none⟩ := (bcell hw').1
              iterate 5
                refine ci_step (v := ?_) rfl (by kernel_rfl) ?_ ?_
                rotate_left
                · first | (go_simp; done) | (go_simp; with_reducible rfl)
                try simp only [Act.put, List.setIfInBounds_toArray, List.set_cons_zero, List.set_cons_succ]
              refine ci_end ?_
              rfl
            refine draw_eff (i := 17) rfl (by kernel_rfl) (listed' := #[true, true, true, true, true, true, true, true, true, true, true, true, true, true, true, true, true, true, false, false, false, false, false, false, false, false]) rfl (fun K hK => ?_)
            replace hK := Lib.hid hK
            go_wp2_with fail
            refine (addr_Right _ _ _ ha).mono ?_
            rintro e w2 ⟨rfl, hb1⟩
            rw [hR]
            go_wp2_with fail
            refine hK.out _ _ ⟨fun _ => hb1, ?_⟩
            clear hK
            replace hb := below_step hb hb.size hb1
            replace kR := kR.below' hb1
            clear hb1
            have hl1 := kR.lt
            have r0 := kR.cell 0
            have r1 := kR.cell 1
            have r2 := kR.cell 2
            have r3 := kR.cell 3
            have r4 := kR.cell 4
            have r5 := kR.cell 5
            have r6 := kR.cell 6
            have r7 := kR.cell 7
            have r8 := kR.cell 8
            simp only [List.getElem?_toArray, List.getElem?_cons_zero, List.getElem?_cons_succ] at r0 r1 r2 r3 r4 r5 r6 r7 r8
            refine draw_chunk (n := 47) (by kernel_rfl) (fun _ _ _ _ _ h => h) [18, 19, 20, 21, 22, 23, 24, 25] [] _ #[true, true, true, true, true, true, true, true, true, true, true, true, true, true, true, true, true, true, true, true, true, true, true, true, true, true] (by kernel_rfl) 0 _ ?_ _ rfl ?_ ?_
            rotate_left
            · intro w' hw'
              have hc' : ∀ b o, b < w2.heap.size → w'.cell? ⟨b, o, none⟩ = w2.cell? ⟨b, o, none⟩ := (bcell hw').1
              iterate 8
                refine ci_step (v := ?_) rfl (by kernel_rfl) ?_ ?_
                rotate_left
                · first | (go_simp; done) | (go_simp; with_reducible rfl)
                try simp only [Act.put, List.setIfInBounds_toArray, List.set_cons_zero, List.set_cons_succ]
              refine ci_end ?_
              rfl
            refine draw_done (by kernel_rfl) ?_ _
            go_wp2_with fail
            refine (dist_Lost _ _ _).mono ?_
            rintro e w3 ⟨rfl, hb1⟩
            replace hb := below_step hb hb.size hb1
            clear hb1
            go_wp2
            go_ret
            exact ⟨by rw [HS.out]; first | rfl | simp [*], by first | exact hb | exact Below.drew hb⟩
          | false =>
            rw [hid] at hS
            have HS := Lib.hid (show _ = false from hS)
            clear hS
            go_enter Tryz.func30, Tryz.ntmps30
            go_wp2_with fail
            generalize hW : w.alloc (.cells #[.int .i64 kind, .int .u32 gen, .int .u32 lsn, .int .u32 rid, .int .u32 a, .int .i64 l, .bool on, .int .u32 rs, .int .u16 rm] 41) = W at hb kR ⊢
            have hsz : W.heap.size = w.heap.size + 1 := by rw [← hW]; simp
            have r0 := kR.cell 0
            have r1 := kR.cell 1
            have r2 := kR.cell 2
            have r3 := kR.cell 3
            have r4 := kR.cell 4
            have r5 := kR.cell 5
            have r6 := kR.cell 6
            have r7 := kR.cell 7
            have r8 := kR.cell 8
            simp only [List.getElem?_toArray, List.getElem?_cons_zero, List.getElem?_cons_succ] at r0 r1 r2 r3 r4 r5 r6 r7 r8
            refine draw_start [] Later (by kernel_rfl) ?_
            refine draw_chunk (n := 47) (by kernel_rfl) (fun _ _ _ _ _ h => h) [0, 1, 2, 3, 4, 5, 6, 7, 8, 9, 10] [] _ #[true, true, true, true, true, true, true, true, true, true, true, false, false, false, false, false, false, false, false, false, false, false, false, false, false, false] (by kernel_rfl) 15 _ ?_ _ rfl ?_ ?_
            rotate_left
            · intro w' hw'
              have hc' : ∀ b o, b < W.heap.size → w'.cell? ⟨b, o, none⟩ = W.cell? ⟨b, o, none⟩ := (bcell hw').1
              iterate 11
                refine ci_step (v := ?_) rfl (by kernel_rfl) ?_ ?_
                rotate_left
                · first | (go_simp; done) | (go_simp; with_reducible rfl)
                try simp only [Act.put, List.setIfInBounds_toArray, List.set_cons_zero, List.set_cons_succ]
              refine ci_end ?_
              rfl
            refine draw_eff (i := 11) rfl (by kernel_rfl) (listed' := #[true, true, true, true, true, true, true, true, true, true, true, true, false, false, false, false, false, false, false, false, false, false, false, false, false, false]) rfl (fun K hK => ?_)
            replace hK := Lib.hid hK
            go_wp2_with fail
            refine (rec_bare ⟨kind, gen, lsn, rid, a, l, on, rs, rm⟩ _).mono ?_
            rintro e w1 ⟨rfl, hb1⟩
            rw [hbare.out]
            simp only [Rec.val, Rec.arr]
            go_wp2_with fail
            refine hK.out _ _ ⟨fun _ => hb1, ?_⟩
            clear hK
            replace hb := below_step (Below.drew hb) hb.size hb1
            replace kR := kR.drew.below' hb1
            clear hb1
            have hl1 := kR.lt
            have r0 := kR.cell 0
            have r1 := kR.cell 1
            have r2 := kR.cell 2
            have r3 := kR.cell 3
            have r4 := kR.cell 4
            have r5 := kR.cell 5
            have r6 := kR.cell 6
            have r7 := kR.cell 7
            have r8 := kR.cell 8
            simp only [List.getElem?_toArray, List.getElem?_cons_zero, List.getElem?_cons_succ] at r0 r1 r2 r3 r4 r5 r6 r7 r8
            refine draw_chunk (n := 47) (by kernel_rfl) (fun _ _ _ _ _ h => h) [12, 13, 14, 15, 16] [] _ #[true, true, true, true, true, true, true, true, true, true, true, true, true, true, true, true, true, false, false, false, false, false, false, false, false, false] (by kernel_rfl) 9 _ ?_ _ rfl ?_ ?_
            rotate_left
            · intro w' hw'
              have hc' : ∀ b o, b < w1.heap.size → w'.cell? ⟨b, o, none⟩ = w1.cell? ⟨b, o, none⟩ := (bcell hw').1
              iterate 5
                refine ci_step (v := ?_) rfl (by kernel_rfl) ?_ ?_
                rotate_left
                · first | (go_simp; done) | (go_simp; with_reducible rfl)
                try simp only [Act.put, List.setIfInBounds_toArray, List.set_cons_zero, List.set_cons_succ]
              refine ci_end ?_
              rfl
            refine draw_eff (i := 17) rfl (by kernel_rfl) (listed' := #[true, true, true, true, true, true, true, true, true, true, true, true, true, true, true, true, true, true, false, false, false, false, false, false, false, false]) rfl (fun K hK => ?_)
            replace hK := Lib.hid hK
            go_wp2_with fail
            refine (addr_Right _ _ _ ha).mono ?_
            rintro e w2 ⟨rfl, hb1⟩
            rw [hR]
            go_wp2_with fail
            refine hK.out _ _ ⟨fun _ => hb1, ?_⟩
            clear hK
            replace hb := below_step hb hb.size hb1
            replace kR := kR.below' hb1
            clear hb1
            have hl1 := kR.lt
            have r0 := kR.cell 0
            have r1 := kR.cell 1
            have r2 := kR.cell 2
            have r3 := kR.cell 3
            have r4 := kR.cell 4
            have r5 := kR.cell 5
            have r6 := kR.cell 6
            have r7 := kR.cell 7
            have r8 := kR.cell 8
            simp only [List.getElem?_toArray, List.getElem?_cons_zero, List.getElem?_cons_succ] at r0 r1 r2 r3 r4 r5 r6 r7 r8
            refine draw_chunk (n := 47) (by kernel_rfl) (fun _ _ _ _ _ h => h) [18, 19, 20, 21, 22, 23, 24, 25] [] _ #[true, true, true, true, true, true, true, true, true, true, true, true, true, true, true, true, true, true, true, true, true, true, true, true, true, true] (by kernel_rfl) 0 _ ?_ _ rfl ?_ ?_
            rotate_left
            · intro w' hw'
              have hc' : ∀ b o, b < w2.heap.size → w'.cell? ⟨b, o, none⟩ = w2.cell? ⟨b, o, none⟩ := (bcell hw').1
              iterate 8
                refine ci_step (v := ?_) rfl (by kernel_rfl) ?_ ?_
                rotate_left
                · first | (go_simp; done) | (go_simp; with_reducible rfl)
                try simp only [Act.put, List.setIfInBounds_toArray, List.set_cons_zero, List.set_cons_succ]
              refine ci_end ?_
              rfl
            refine draw_done (by kernel_rfl) ?_ _
            go_wp2
            go_ret
            exact ⟨by rw [HS.out]; first | rfl | simp [*], by first | exact hb | exact Below.drew hb⟩
        | false =>
          rw [hk1, Bool.false_or] at hS
          cases hk4 : (kind == 4) with
          | true =>
            rw [hk4] at hS
            cases hid : (rid != 0) with
            | true =>
              rw [hid] at hS
              have HS := Lib.hid (show _ = !(rm == 65535) from hS)
              clear hS
              go_enter Tryz.func30, Tryz.ntmps30
              go_wp2_with fail
              generalize hW : w.alloc (.cells #[.int .i64 kind, .int .u32 gen, .int .u32 lsn, .int .u32 rid, .int .u32 a, .int .i64 l, .bool on, .int .u32 rs, .int .u16 rm] 41) = W at hb kR ⊢
              have hsz : W.heap.size = w.heap.size + 1 := by rw [← hW]; simp
              have r0 := kR.cell 0
              have r1 := kR.cell 1
              have r2 := kR.cell 2
              have r3 := kR.cell 3
              have r4 := kR.cell 4
              have r5 := kR.cell 5
              have r6 := kR.cell 6
              have r7 := kR.cell 7
              have r8 := kR.cell 8
              simp only [List.getElem?_toArray, List.getElem?_cons_zero, List.getElem?_cons_succ] at r0 r1 r2 r3 r4 r5 r6 r7 r8
              refine draw_start [] Later (by kernel_rfl) ?_
              refine draw_chunk (n := 47) (by kernel_rfl) (fun _ _ _ _ _ h => h) [0, 1, 2, 3, 4, 5, 6, 7, 8, 9, 10] [] _ #[true, true, true, true, true, true, true, true, true, true, true, false, false, false, false, false, false, false, false, false, false, false, false, false, false, false] (by kernel_rfl) 15 _ ?_ _ rfl ?_ ?_
              rotate_left
              · intro w' hw'
                have hc' : ∀ b o, b < W.heap.size → w'.cell? ⟨b, o, none⟩ = W.cell? ⟨b, o, none⟩ := (bcell hw').1
                iterate 11
                  refine ci_step (v := ?_) rfl (by kernel_rfl) ?_ ?_
                  rotate_left
                  · first | (go_simp; done) | (go_simp; with_reducible rfl)
                  try simp only [Act.put, List.setIfInBounds_toArray, List.set_cons_zero, List.set_cons_succ]
                refine ci_end ?_
                rfl
              refine draw_eff (i := 11) rfl (by kernel_rfl) (listed' := #[true, true, true, true, true, true, true, true, true, true, true, true, false, false, false, false, false, false, false, false, false, false, false, false, false, false]) rfl (fun K hK => ?_)
              replace hK := Lib.hid hK
              go_wp2_with fail
              refine (rec_bare ⟨kind, gen, lsn, rid, a, l, on, rs, rm⟩ _).mono ?_
              rintro e w1 ⟨rfl, hb1⟩
              rw [hbare.out]
              simp only [Rec.val, Rec.arr]
              go_wp2_with fail
              refine hK.out _ _ ⟨fun _ => hb1, ?_⟩
              clear hK
              replace hb := below_step (Below.drew hb) hb.size hb1
              replace kR := kR.drew.below' hb1
              clear hb1
              have hl1 := kR.lt
              have r0 := kR.cell 0
              have r1 := kR.cell 1
              have r2 := kR.cell 2
              have r3 := kR.cell 3
              have r4 := kR.cell 4
              have r5 := kR.cell 5
              have r6 := kR.cell 6
              have r7 := kR.cell 7
              have r8 := kR.cell 8
              simp only [List.getElem?_toArray, List.getElem?_cons_zero, List.getElem?_cons_succ] at r0 r1 r2 r3 r4 r5 r6 r7 r8
              refine draw_chunk (n := 47) (by kernel_rfl) (fun _ _ _ _ _ h => h) [12, 13, 14, 15, 16] [] _ #[true, true, true, true, true, true, true, true, true, true, true, true, true, true, true, true, true, false, false, false, false, false, false, false, false, false] (by kernel_rfl) 9 _ ?_ _ rfl ?_ ?_
              rotate_left
              · intro w' hw'
                have hc' : ∀ b o, b < w1.heap.size → w'.cell? ⟨b, o, none⟩ = w1.cell? ⟨b, o, none⟩ := (bcell hw').1
                iterate 5
                  refine ci_step (v := ?_) rfl (by kernel_rfl) ?_ ?_
                  rotate_left
                  · first | (go_simp; done) | (go_simp; with_reducible rfl)
                  try simp only [Act.put, List.setIfInBounds_toArray, List.set_cons_zero, List.set_cons_succ]
                refine ci_end ?_
                rfl
              refine draw_eff (i := 17) rfl (by kernel_rfl) (listed' := #[true, true, true, true, true, true, true, true, true, true, true, true, true, true, true, true, true, true, false, false, false, false, false, false, false, false]) rfl (fun K hK => ?_)
              replace hK := Lib.hid hK
              go_wp2_with fail
              refine (addr_Right _ _ _ ha).mono ?_
              rintro e w2 ⟨rfl, hb1⟩
              rw [hR]
              go_wp2_with fail
              refine hK.out _ _ ⟨fun _ => hb1, ?_⟩
              clear hK
              replace hb := below_step hb hb.size hb1
              replace kR := kR.below' hb1
              clear hb1
              have hl1 := kR.lt
              have r0 := kR.cell 0
              have r1 := kR.cell 1
              have r2 := kR.cell 2
              have r3 := kR.cell 3
              have r4 := kR.cell 4
              have r5 := kR.cell 5
              have r6 := kR.cell 6
              have r7 := kR.cell 7
              have r8 := kR.cell 8
              simp only [List.getElem?_toArray, List.getElem?_cons_zero, List.getElem?_cons_succ] at r0 r1 r2 r3 r4 r5 r6 r7 r8
              refine draw_chunk (n := 47) (by kernel_rfl) (fun _ _ _ _ _ h => h) [18, 19, 20, 21, 22, 23, 24, 25] [] _ #[true, true, true, true, true, true, true, true, true, true, true, true, true, true, true, true, true, true, true, true, true, true, true, true, true, true] (by kernel_rfl) 0 _ ?_ _ rfl ?_ ?_
              rotate_left
              · intro w' hw'
                have hc' : ∀ b o, b < w2.heap.size → w'.cell? ⟨b, o, none⟩ = w2.cell? ⟨b, o, none⟩ := (bcell hw').1
                iterate 8
                  refine ci_step (v := ?_) rfl (by kernel_rfl) ?_ ?_
                  rotate_left
                  · first | (go_simp; done) | (go_simp; with_reducible rfl)
                  try simp only [Act.put, List.setIfInBounds_toArray, List.set_cons_zero, List.set_cons_succ]
                refine ci_end ?_
                rfl
              refine draw_done (by kernel_rfl) ?_ _
              go_wp2_with fail
              refine (dist_Lost _ _ _).mono ?_
              rintro e w3 ⟨rfl, hb1⟩
              replace hb := below_step hb hb.size hb1
              clear hb1
              go_wp2
              go_ret
              exact ⟨by rw [HS.out]; first | rfl | simp [*], by first | exact hb | exact Below.drew hb⟩
            | false =>
              rw [hid] at hS
              have HS := Lib.hid (show _ = false from hS)
              clear hS
              go_enter Tryz.func30, Tryz.ntmps30
              go_wp2_with fail
              generalize hW : w.alloc (.cells #[.int .i64 kind, .int .u32 gen, .int .u32 lsn, .int .u32 rid, .int .u32 a, .int .i64 l, .bool on, .int .u32 rs, .int .u16 rm] 41) = W at hb kR ⊢
              have hsz : W.heap.size = w.heap.size + 1 := by rw [← hW]; simp
              have r0 := kR.cell 0
              have r1 := kR.cell 1
              have r2 := kR.cell 2
              have r3 := kR.cell 3
              have r4 := kR.cell 4
              have r5 := kR.cell 5
              have r6 := kR.cell 6
              have r7 := kR.cell 7
              have r8 := kR.cell 8
              simp only [List.getElem?_toArray, List.getElem?_cons_zero, List.getElem?_cons_succ] at r0 r1 r2 r3 r4 r5 r6 r7 r8
              refine draw_start [] Later (by kernel_rfl) ?_
              refine draw_chunk (n := 47) (by kernel_rfl) (fun _ _ _ _ _ h => h) [0, 1, 2, 3, 4, 5, 6, 7, 8, 9, 10] [] _ #[true, true, true, true, true, true, true, true, true, true, true, false, false, false, false, false, false, false, false, false, false, false, false, false, false, false] (by kernel_rfl) 15 _ ?_ _ rfl ?_ ?_
              rotate_left
              · intro w' hw'
                have hc' : ∀ b o, b < W.heap.size → w'.cell? ⟨b, o, none⟩ = W.cell? ⟨b, o, none⟩ := (bcell hw').1
                iterate 11
                  refine ci_step (v := ?_) rfl (by kernel_rfl) ?_ ?_
                  rotate_left
                  · first | (go_simp; done) | (go_simp; with_reducible rfl)
                  try simp only [Act.put, List.setIfInBounds_toArray, List.set_cons_zero, List.set_cons_succ]
                refine ci_end ?_
                rfl
              refine draw_eff (i := 11) rfl (by kernel_rfl) (listed' := #[true, true, true, true, true, true, true, true, true, true, true, true, false, false, false, false, false, false, false, false, false, false, false, false, false, false]) rfl (fun K hK => ?_)
              replace hK := Lib.hid hK
              go_wp2_with fail
              refine (rec_bare ⟨kind, gen, lsn, rid, a, l, on, rs, rm⟩ _).mono ?_
              rintro e w1 ⟨rfl, hb1⟩
              rw [hbare.out]
              simp only [Rec.val, Rec.arr]
              go_wp2_with fail
              refine hK.out _ _ ⟨fun _ => hb1, ?_⟩
              clear hK
              replace hb := below_step (Below.drew hb) hb.size hb1
              replace kR := kR.drew.below' hb1
              clear hb1
              have hl1 := kR.lt
              have r0 := kR.cell 0
              have r1 := kR.cell 1
              have r2 := kR.cell 2
              have r3 := kR.cell 3
              have r4 := kR.cell 4
              have r5 := kR.cell 5
              have r6 := kR.cell 6
              have r7 := kR.cell 7
              have r8 := kR.cell 8
              simp only [List.getElem?_toArray, List.getElem?_cons_zero, List.getElem?_cons_succ] at r0 r1 r2 r3 r4 r5 r6 r7 r8
              refine draw_chunk (n := 47) (by kernel_rfl) (fun _ _ _ _ _ h => h) [12, 13, 14, 15, 16] [] _ #[true, true, true, true, true, true, true, true, true, true, true, true, true, true, true, true, true, false, false, false, false, false, false, false, false, false] (by kernel_rfl) 9 _ ?_ _ rfl ?_ ?_
              rotate_left
              · intro w' hw'
                have hc' : ∀ b o, b < w1.heap.size → w'.cell? ⟨b, o, none⟩ = w1.cell? ⟨b, o, none⟩ := (bcell hw').1
                iterate 5
                  refine ci_step (v := ?_) rfl (by kernel_rfl) ?_ ?_
                  rotate_left
                  · first | (go_simp; done) | (go_simp; with_reducible rfl)
                  try simp only [Act.put, List.setIfInBounds_toArray, List.set_cons_zero, List.set_cons_succ]
                refine ci_end ?_
                rfl
              refine draw_eff (i := 17) rfl (by kernel_rfl) (listed' := #[true, true, true, true, true, true, true, true, true, true, true, true, true, true, true, true, true, true, false, false, false, false, false, false, false, false]) rfl (fun K hK => ?_)
              replace hK := Lib.hid hK
              go_wp2_with fail
              refine (addr_Right _ _ _ ha).mono ?_
              rintro e w2 ⟨rfl, hb1⟩
              rw [hR]
              go_wp2_with fail
              refine hK.out _ _ ⟨fun _ => hb1, ?_⟩
              clear hK
              replace hb := below_step hb hb.size hb1
              replace kR := kR.below' hb1
              clear hb1
              have hl1 := kR.lt
              have r0 := kR.cell 0
              have r1 := kR.cell 1
              have r2 := kR.cell 2
              have r3 := kR.cell 3
              have r4 := kR.cell 4
              have r5 := kR.cell 5
              have r6 := kR.cell 6
              have r7 := kR.cell 7
              have r8 := kR.cell 8
              simp only [List.getElem?_toArray, List.getElem?_cons_zero, List.getElem?_cons_succ] at r0 r1 r2 r3 r4 r5 r6 r7 r8
              refine draw_chunk (n := 47) (by kernel_rfl) (fun _ _ _ _ _ h => h) [18, 19, 20, 21, 22, 23, 24, 25] [] _ #[true, true, true, true, true, true, true, true, true, true, true, true, true, true, true, true, true, true, true, true, true, true, true, true, true, true] (by kernel_rfl) 0 _ ?_ _ rfl ?_ ?_
              rotate_left
              · intro w' hw'
                have hc' : ∀ b o, b < w2.heap.size → w'.cell? ⟨b, o, none⟩ = w2.cell? ⟨b, o, none⟩ := (bcell hw').1
                iterate 8
                  refine ci_step (v := ?_) rfl (by kernel_rfl) ?_ ?_
                  rotate_left
                  · first | (go_simp; done) | (go_simp; with_reducible rfl)
                  try simp only [Act.put, List.setIfInBounds_toArray, List.set_cons_zero, List.set_cons_succ]
                refine ci_end ?_
                rfl
              refine draw_done (by kernel_rfl) ?_ _
              go_wp2
              go_ret
              exact ⟨by rw [HS.out]; first | rfl | simp [*], by first | exact hb | exact Below.drew hb⟩
          | false =>
            rw [hk4] at hS
            cases hid : (rid != 0) with
            | true =>
              rw [hid] at hS
              have HS := Lib.hid (show _ = false from hS)
              clear hS
              go_enter Tryz.func30, Tryz.ntmps30
              go_wp2_with fail
              generalize hW : w.alloc (.cells #[.int .i64 kind, .int .u32 gen, .int .u32 lsn, .int .u32 rid, .int .u32 a, .int .i64 l, .bool on, .int .u32 rs, .int .u16 rm] 41) = W at hb kR ⊢
              have hsz : W.heap.size = w.heap.size + 1 := by rw [← hW]; simp
              have r0 := kR.cell 0
              have r1 := kR.cell 1
              have r2 := kR.cell 2
              have r3 := kR.cell 3
              have r4 := kR.cell 4
              have r5 := kR.cell 5
              have r6 := kR.cell 6
              have r7 := kR.cell 7
              have r8 := kR.cell 8
              simp only [List.getElem?_toArray, List.getElem?_cons_zero, List.getElem?_cons_succ] at r0 r1 r2 r3 r4 r5 r6 r7 r8
              refine draw_start [] Later (by kernel_rfl) ?_
              refine draw_chunk (n := 47) (by kernel_rfl) (fun _ _ _ _ _ h => h) [0, 1, 2, 3, 4, 5, 6, 7, 8, 9, 10] [] _ #[true, true, true, true, true, true, true, true, true, true, true, false, false, false, false, false, false, false, false, false, false, false, false, false, false, false] (by kernel_rfl) 15 _ ?_ _ rfl ?_ ?_
              rotate_left
              · intro w' hw'
                have hc' : ∀ b o, b < W.heap.size → w'.cell? ⟨b, o, none⟩ = W.cell? ⟨b, o, none⟩ := (bcell hw').1
                iterate 11
                  refine ci_step (v := ?_) rfl (by kernel_rfl) ?_ ?_
                  rotate_left
                  · first | (go_simp; done) | (go_simp; with_reducible rfl)
                  try simp only [Act.put, List.setIfInBounds_toArray, List.set_cons_zero, List.set_cons_succ]
                refine ci_end ?_
                rfl
              refine draw_eff (i := 11) rfl (by kernel_rfl) (listed' := #[true, true, true, true, true, true, true, true, true, true, true, true, false, false, false, false, false, false, false, false, false, false, false, false, false, false]) rfl (fun K hK => ?_)
              replace hK := Lib.hid hK
              go_wp2_with fail
              refine (rec_bare ⟨kind, gen, lsn, rid, a, l, on, rs, rm⟩ _).mono ?_
              rintro e w1 ⟨rfl, hb1⟩
              rw [hbare.out]
              simp only [Rec.val, Rec.arr]
              go_wp2_with fail
              refine hK.out _ _ ⟨fun _ => hb1, ?_⟩
              clear hK
              replace hb := below_step (Below.drew hb) hb.size hb1
              replace kR := kR.drew.below' hb1
              clear hb1
              have hl1 := kR.lt
              have r0 := kR.cell 0
              have r1 := kR.cell 1
              have r2 := kR.cell 2
              have r3 := kR.cell 3
              have r4 := kR.cell 4
              have r5 := kR.cell 5
              have r6 := kR.cell 6
              have r7 := kR.cell 7
              have r8 := kR.cell 8
              simp only [List.getElem?_toArray, List.getElem?_cons_zero, List.getElem?_cons_succ] at r0 r1 r2 r3 r4 r5 r6 r7 r8
              refine draw_chunk (n := 47) (by kernel_rfl) (fun _ _ _ _ _ h => h) [12, 13, 14, 15, 16] [] _ #[true, true, true, true, true, true, true, true, true, true, true, true, true, true, true, true, true, false, false, false, false, false, false, false, false, false] (by kernel_rfl) 9 _ ?_ _ rfl ?_ ?_
              rotate_left
              · intro w' hw'
                have hc' : ∀ b o, b < w1.heap.size → w'.cell? ⟨b, o, none⟩ = w1.cell? ⟨b, o, none⟩ := (bcell hw').1
                iterate 5
                  refine ci_step (v := ?_) rfl (by kernel_rfl) ?_ ?_
                  rotate_left
                  · first | (go_simp; done) | (go_simp; with_reducible rfl)
                  try simp only [Act.put, List.setIfInBounds_toArray, List.set_cons_zero, List.set_cons_succ]
                refine ci_end ?_
                rfl
              refine draw_eff (i := 17) rfl (by kernel_rfl) (listed' := #[true, true, true, true, true, true, true, true, true, true, true, true, true, true, true, true, true, true, false, false, false, false, false, false, false, false]) rfl (fun K hK => ?_)
              replace hK := Lib.hid hK
              go_wp2_with fail
              refine (addr_Right _ _ _ ha).mono ?_
              rintro e w2 ⟨rfl, hb1⟩
              rw [hR]
              go_wp2_with fail
              refine hK.out _ _ ⟨fun _ => hb1, ?_⟩
              clear hK
              replace hb := below_step hb hb.size hb1
              replace kR := kR.below' hb1
              clear hb1
              have hl1 := kR.lt
              have r0 := kR.cell 0
              have r1 := kR.cell 1
              have r2 := kR.cell 2
              have r3 := kR.cell 3
              have r4 := kR.cell 4
              have r5 := kR.cell 5
              have r6 := kR.cell 6
              have r7 := kR.cell 7
              have r8 := kR.cell 8
              simp only [List.getElem?_toArray, List.getElem?_cons_zero, List.getElem?_cons_succ] at r0 r1 r2 r3 r4 r5 r6 r7 r8
              refine draw_chunk (n := 47) (by kernel_rfl) (fun _ _ _ _ _ h => h) [18, 19, 20, 21, 22, 23, 24, 25] [] _ #[true, true, true, true, true, true, true, true, true, true, true, true, true, true, true, true, true, true, true, true, true, true, true, true, true, true] (by kernel_rfl) 0 _ ?_ _ rfl ?_ ?_
              rotate_left
              · intro w' hw'
                have hc' : ∀ b o, b < w2.heap.size → w'.cell? ⟨b, o, none⟩ = w2.cell? ⟨b, o, none⟩ := (bcell hw').1
                iterate 8
                  refine ci_step (v := ?_) rfl (by kernel_rfl) ?_ ?_
                  rotate_left
                  · first | (go_simp; done) | (go_simp; with_reducible rfl)
                  try simp only [Act.put, List.setIfInBounds_toArray, List.set_cons_zero, List.set_cons_succ]
                refine ci_end ?_
                rfl
              refine draw_done (by kernel_rfl) ?_ _
              go_wp2
              go_ret
              exact ⟨by rw [HS.out]; first | rfl | simp [*], by first | exact hb | exact Below.drew hb⟩
            | false =>
              rw [hid] at hS
              have HS := Lib.hid (show _ = !(rm == 65535) from hS)
              clear hS
              go_enter Tryz.func30, Tryz.ntmps30
              go_wp2_with fail
              generalize hW : w.alloc (.cells #[.int .i64 kind, .int .u32 gen, .int .u32 lsn, .int .u32 rid, .int .u32 a, .int .i64 l, .bool on, .int .u32 rs, .int .u16 rm] 41) = W at hb kR ⊢
              have hsz : W.heap.size = w.heap.size + 1 := by rw [← hW]; simp
              have r0 := kR.cell 0
              have r1 := kR.cell 1
              have r2 := kR.cell 2
              have r3 := kR.cell 3
              have r4 := kR.cell 4
              have r5 := kR.cell 5
              have r6 := kR.cell 6
              have r7 := kR.cell 7
              have r8 := kR.cell 8
              simp only [List.getElem?_toArray, List.getElem?_cons_zero, List.getElem?_cons_succ] at r0 r1 r2 r3 r4 r5 r6 r7 r8
              refine draw_start [] Later (by kernel_rfl) ?_
              refine draw_chunk (n := 47) (by kernel_rfl) (fun _ _ _ _ _ h => h) [0, 1, 2, 3, 4, 5, 6, 7, 8, 9, 10] [] _ #[true, true, true, true, true, true, true, true, true, true, true, false, false, false, false, false, false, false, false, false, false, false, false, false, false, false] (by kernel_rfl) 15 _ ?_ _ rfl ?_ ?_
              rotate_left
              · intro w' hw'
                have hc' : ∀ b o, b < W.heap.size → w'.cell? ⟨b, o, none⟩ = W.cell? ⟨b, o, none⟩ := (bcell hw').1
                iterate 11
                  refine ci_step (v := ?_) rfl (by kernel_rfl) ?_ ?_
                  rotate_left
                  · first | (go_simp; done) | (go_simp; with_reducible rfl)
                  try simp only [Act.put, List.setIfInBounds_toArray, List.set_cons_zero, List.set_cons_succ]
                refine ci_end ?_
                rfl
              refine draw_eff (i := 11) rfl (by kernel_rfl) (listed' := #[true, true, true, true, true, true, true, true, true, true, true, true, false, false, false, false, false, false, false, false, false, false, false, false, false, false]) rfl (fun K hK => ?_)
              replace hK := Lib.hid hK
              go_wp2_with fail
              refine (rec_bare ⟨kind, gen, lsn, rid, a, l, on, rs, rm⟩ _).mono ?_
              rintro e w1 ⟨rfl, hb1⟩
              rw [hbare.out]
              simp only [Rec.val, Rec.arr]
              go_wp2_with fail
              refine hK.out _ _ ⟨fun _ => hb1, ?_⟩
              clear hK
              replace hb := below_step (Below.drew hb) hb.size hb1
              replace kR := kR.drew.below' hb1
              clear hb1
              have hl1 := kR.lt
              have r0 := kR.cell 0
              have r1 := kR.cell 1
              have r2 := kR.cell 2
              have r3 := kR.cell 3
              have r4 := kR.cell 4
              have r5 := kR.cell 5
              have r6 := kR.cell 6
              have r7 := kR.cell 7
              have r8 := kR.cell 8
              simp only [List.getElem?_toArray, List.getElem?_cons_zero, List.getElem?_cons_succ] at r0 r1 r2 r3 r4 r5 r6 r7 r8
              refine draw_chunk (n := 47) (by kernel_rfl) (fun _ _ _ _ _ h => h) [12, 13, 14, 15, 16] [] _ #[true, true, true, true, true, true, true, true, true, true, true, true, true, true, true, true, true, false, false, false, false, false, false, false, false, false] (by kernel_rfl) 9 _ ?_ _ rfl ?_ ?_
              rotate_left
              · intro w' hw'
                have hc' : ∀ b o, b < w1.heap.size → w'.cell? ⟨b, o, none⟩ = w1.cell? ⟨b, o, none⟩ := (bcell hw').1
                iterate 5
                  refine ci_step (v := ?_) rfl (by kernel_rfl) ?_ ?_
                  rotate_left
                  · first | (go_simp; done) | (go_simp; with_reducible rfl)
                  try simp only [Act.put, List.setIfInBounds_toArray, List.set_cons_zero, List.set_cons_succ]
                refine ci_end ?_
                rfl
              refine draw_eff (i := 17) rfl (by kernel_rfl) (listed' := #[true, true, true, true, true, true, true, true, true, true, true, true, true, true, true, true, true, true, false, false, false, false, false, false, false, false]) rfl (fun K hK => ?_)
              replace hK := Lib.hid hK
              go_wp2_with fail
              refine (addr_Right _ _ _ ha).mono ?_
              rintro e w2 ⟨rfl, hb1⟩
              rw [hR]
              go_wp2_with fail
              refine hK.out _ _ ⟨fun _ => hb1, ?_⟩
              clear hK
              replace hb := below_step hb hb.size hb1
              replace kR := kR.below' hb1
              clear hb1
              have hl1 := kR.lt
              have r0 := kR.cell 0
              have r1 := kR.cell 1
              have r2 := kR.cell 2
              have r3 := kR.cell 3
              have r4 := kR.cell 4
              have r5 := kR.cell 5
              have r6 := kR.cell 6
              have r7 := kR.cell 7
              have r8 := kR.cell 8
              simp only [List.getElem?_toArray, List.getElem?_cons_zero, List.getElem?_cons_succ] at r0 r1 r2 r3 r4 r5 r6 r7 r8
              refine draw_chunk (n := 47) (by kernel_rfl) (fun _ _ _ _ _ h => h) [18, 19, 20, 21, 22, 23, 24, 25] [] _ #[true, true, true, true, true, true, true, true, true, true, true, true, true, true, true, true, true, true, true, true, true, true, true, true, true, true] (by kernel_rfl) 0 _ ?_ _ rfl ?_ ?_
              rotate_left
              · intro w' hw'
                have hc' : ∀ b o, b < w2.heap.size → w'.cell? ⟨b, o, none⟩ = w2.cell? ⟨b, o, none⟩ := (bcell hw').1
                iterate 8
                  refine ci_step (v := ?_) rfl (by kernel_rfl) ?_ ?_
                  rotate_left
                  · first | (go_simp; done) | (go_simp; with_reducible rfl)
                  try simp only [Act.put, List.setIfInBounds_toArray, List.set_cons_zero, List.set_cons_succ]
                refine ci_end ?_
                rfl
              refine draw_done (by kernel_rfl) ?_ _
              go_wp2_with fail
              refine (dist_Lost _ _ _).mono ?_
              rintro e w3 ⟨rfl, hb1⟩
              replace hb := below_step hb hb.size hb1
              clear hb1
              go_wp2
              go_ret
              exact ⟨by rw [HS.out]; first | rfl | simp [*], by first | exact hb | exact Below.drew hb⟩
end Go.Proofs.YtnfaeafplaeehaaGreat
