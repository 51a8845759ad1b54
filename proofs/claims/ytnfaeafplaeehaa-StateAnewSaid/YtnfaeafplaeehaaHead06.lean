import Derived.Test.YtnfaeafplaeehaaFeas
set_option linter.unusedVariables false
set_option linter.unusedSimpArgs false
namespace Go.Proofs.Ytnfaeafplaeehaa
open Go.RowKit

theorem head06_at (a b : Int) (w : World) : Calls Try.prog 58 #[.int .u32 a, .int .u16 b] w fun e w' => e = .returned (.agg #[.int .u32 a, .int .u16 b]) ∧ Below w.heap.size w w' := by
  go_enter Try.func58, Try.ntmps58
  go_wp2
  refine bodyPost_ret (v := .agg #[.int .u32 a, .int .u16 b]) (by simp [results, Try.results58, go_sem]) rfl ⟨rfl, (Below.refl _ _).alloc (Nat.le_refl _) _⟩
def σH : St := ⟨1, 0, [], [(⟨0, 0, 3⟩, (2, 9))]⟩
set_option maxHeartbeats 4000000 in
theorem law06_head (w : World) : Calls Try.prog 12 #[] w fun e w' => e = .returned (.bool true) ∧ Below w.heap.size w w' := by
  go_enter Try.func12, Try.ntmps12
  go_wp2_with fail
  refine (state_New _ _).mono ?_
  rintro e w1 ⟨hb1, s, g1, g2, rfl, hS, ks, kg1, kg2⟩
  go_wp2_with fail
  refine (state_Apply _ ⟨4, 0, 0, 3, 0, 0, false, 2, 9⟩ s g1 g2 _ hS).mono ?_
  rintro e w2 ⟨rfl, hS, hk⟩
  rw [show St.apply ⟨1, 0, [], []⟩ ⟨4, 0, 0, 3, 0, 0, false, 2, 9⟩ = σH from rfl] at hS
  have hbV : Below w.heap.size w w2 := hk.below hb1 hb1.size (by simp; omega)
  clear hk hb1
  go_wp2_with fail
  have hY := Blk.new w2 27 #[.int .u32 0, .int .i64 0, .int .u32 3]
  replace hbV : Below w.heap.size w (w2.alloc (.cells #[.int .u32 0, .int .i64 0, .int .u32 3] 27)) := hbV.alloc hbV.size _
  replace hS := hS.below ((Below.refl _ w2).alloc (Nat.le_refl _) (.cells #[.int .u32 0, .int .i64 0, .int .u32 3] 27))
  generalize hW : w2.alloc (.cells #[.int .u32 0, .int .i64 0, .int .u32 3] 27) = W at hY hbV hS ⊢
  generalize w2.heap.size = q at hY hW ⊢
  clear hW
  have hl1 := hY.lt
  have y0 := hY.cell 0
  have y1 := hY.cell 1
  have y2 := hY.cell 2
  simp only [List.getElem?_toArray, List.getElem?_cons_zero, List.getElem?_cons_succ] at y0 y1 y2
  refine draw_start [] Later (by kernel_rfl) ?_
  refine draw_chunk (n := 54) (by kernel_rfl) (fun _ _ _ _ _ h => h) [0, 1, 2] [] _ #[true, true, true, false, false, false, false, false, false, false, false, false, false, false, false, false, false, false, false, false, false, false, false, false, false, false, false, false, false, false, false, false, false, false, false, false, false, false, false, false, false, false, false] (by kernel_rfl) 40 _ ?_ _ rfl ?_ ?_
  rotate_left
  · intro w' hw'
    have hc' : ∀ b o, b < W.heap.size → w'.cell? ⟨b, o, none⟩ = W.cell? ⟨b, o, none⟩ := (bcell hw').1
    refine ci_step (i := 0) (v := ?_) rfl (by kernel_rfl) ?_ ?_
    rotate_left
    · first | (go_simp; done) | (go_simp; with_reducible rfl)
    skip
    try simp only [Act.put, List.setIfInBounds_toArray, List.set_cons_zero, List.set_cons_succ]
    refine ci_step (i := 1) (v := ?_) rfl (by kernel_rfl) ?_ ?_
    rotate_left
    · first | (go_simp; done) | (go_simp; with_reducible rfl)
    skip
    try simp only [Act.put, List.setIfInBounds_toArray, List.set_cons_zero, List.set_cons_succ]
    refine ci_step (i := 2) (v := ?_) rfl (by kernel_rfl) ?_ ?_
    rotate_left
    · first | (go_simp; done) | (go_simp; with_reducible rfl)
    skip
    try simp only [Act.put, List.setIfInBounds_toArray, List.set_cons_zero, List.set_cons_succ]
    refine ci_end ?_
    rfl
  replace hS : StAt 121 W.drew s g1 g2 σH := hS
  replace hY : Blk W.drew q 27 #[.int .u32 0, .int .i64 0, .int .u32 3] := hY
  replace hbV : Below w.heap.size w W.drew := Below.drew hbV
  refine draw_eff (i := 3) rfl (by kernel_rfl) (listed' := #[true, true, true, true, false, false, false, false, false, false, false, false, false, false, false, false, false, false, false, false, false, false, false, false, false, false, false, false, false, false, false, false, false, false, false, false, false, false, false, false, false, false, false]) rfl (fun K hK => ?_)
  replace hK := Lib.hid hK
  go_wp2_with fail
  refine (head06_at _ _ _).mono ?_
  rintro e u1 ⟨rfl, hb1⟩
  go_wp2_with fail
  refine hK.out _ _ ⟨fun _ => hb1, ?_⟩
  clear hK
  replace hS := hS.below hb1
  replace hY := hY.below' hb1
  replace hbV := below_step hbV hbV.size hb1
  clear hb1
  refine draw_eff (i := 4) rfl (by kernel_rfl) (listed' := #[true, true, true, true, true, false, false, false, false, false, false, false, false, false, false, false, false, false, false, false, false, false, false, false, false, false, false, false, false, false, false, false, false, false, false, false, false, false, false, false, false, false, false]) rfl (fun K hK => ?_)
  replace hK := Lib.hid hK
  go_wp2_with fail
  refine (state_Feasible σH ⟨0, 0, 3⟩ (2, 8) s g1 g2 u1 hS).mono ?_
  rintro e v1 ⟨rfl, hb1⟩
  rw [show feasB σH.fl ⟨0, 0, 3⟩ (2, 8) = true from by decide]
  go_wp2_with fail
  refine hK.out _ _ ⟨fun _ => hb1, ?_⟩
  clear hK
  replace hS := hS.below hb1
  replace hY := hY.below' hb1
  replace hbV := below_step hbV hbV.size hb1
  clear hb1
  have hl1 := hY.lt
  have y0 := hY.cell 0
  have y1 := hY.cell 1
  have y2 := hY.cell 2
  simp only [List.getElem?_toArray, List.getElem?_cons_zero, List.getElem?_cons_succ] at y0 y1 y2
  refine draw_chunk (n := 54) (by kernel_rfl) (fun _ _ _ _ _ h => h) [5, 6, 7, 8] [] _ #[true, true, true, true, true, true, true, true, true, false, false, false, false, false, false, false, false, false, false, false, false, false, false, false, false, false, false, false, false, false, false, false, false, false, false, false, false, false, false, false, false, false, false] (by kernel_rfl) 34 _ ?_ _ rfl ?_ ?_
  rotate_left
  · intro w' hw'
    have hc' : ∀ b o, b < v1.heap.size → w'.cell? ⟨b, o, none⟩ = v1.cell? ⟨b, o, none⟩ := (bcell hw').1
    refine ci_step (i := 5) (v := ?_) rfl (by kernel_rfl) ?_ ?_
    rotate_left
    · first | (go_simp; done) | (go_simp; with_reducible rfl)
    skip
    try simp only [Act.put, List.setIfInBounds_toArray, List.set_cons_zero, List.set_cons_succ]
    refine ci_step (i := 6) (v := ?_) rfl (by kernel_rfl) ?_ ?_
    rotate_left
    · first | (go_simp; done) | (go_simp; with_reducible rfl)
    skip
    try simp only [Act.put, List.setIfInBounds_toArray, List.set_cons_zero, List.set_cons_succ]
    refine ci_step (i := 7) (v := ?_) rfl (by kernel_rfl) ?_ ?_
    rotate_left
    · first | (go_simp; done) | (go_simp; with_reducible rfl)
    skip
    try simp only [Act.put, List.setIfInBounds_toArray, List.set_cons_zero, List.set_cons_succ]
    refine ci_step (i := 8) (v := ?_) rfl (by kernel_rfl) ?_ ?_
    rotate_left
    · first | (go_simp; done) | (go_simp; with_reducible rfl)
    skip
    try simp only [Act.put, List.setIfInBounds_toArray, List.set_cons_zero, List.set_cons_succ]
    refine ci_end ?_
    rfl
  refine draw_eff (i := 9) rfl (by kernel_rfl) (listed' := #[true, true, true, true, true, true, true, true, true, true, false, false, false, false, false, false, false, false, false, false, false, false, false, false, false, false, false, false, false, false, false, false, false, false, false, false, false, false, false, false, false, false, false]) rfl (fun K hK => ?_)
  replace hK := Lib.hid hK
  go_wp2_with fail
  refine (head06_at _ _ _).mono ?_
  rintro e u2 ⟨rfl, hb1⟩
  go_wp2_with fail
  refine hK.out _ _ ⟨fun _ => hb1, ?_⟩
  clear hK
  replace hS := hS.below hb1
  replace hY := hY.below' hb1
  replace hbV := below_step hbV hbV.size hb1
  clear hb1
  refine draw_eff (i := 10) rfl (by kernel_rfl) (listed' := #[true, true, true, true, true, true, true, true, true, true, true, false, false, false, false, false, false, false, false, false, false, false, false, false, false, false, false, false, false, false, false, false, false, false, false, false, false, false, false, false, false, false, false]) rfl (fun K hK => ?_)
  replace hK := Lib.hid hK
  go_wp2_with fail
  refine (state_Feasible σH ⟨0, 0, 3⟩ (3, 50) s g1 g2 u2 hS).mono ?_
  rintro e v2 ⟨rfl, hb1⟩
  rw [show feasB σH.fl ⟨0, 0, 3⟩ (3, 50) = true from by decide]
  go_wp2_with fail
  refine hK.out _ _ ⟨fun _ => hb1, ?_⟩
  clear hK
  replace hS := hS.below hb1
  replace hY := hY.below' hb1
  replace hbV := below_step hbV hbV.size hb1
  clear hb1
  have hl1 := hY.lt
  have y0 := hY.cell 0
  have y1 := hY.cell 1
  have y2 := hY.cell 2
  simp only [List.getElem?_toArray, List.getElem?_cons_zero, List.getElem?_cons_succ] at y0 y1 y2
  refine draw_chunk (n := 54) (by kernel_rfl) (fun _ _ _ _ _ h => h) [11, 12, 13, 14, 15] [] _ #[true, true, true, true, true, true, true, true, true, true, true, true, true, true, true, true, false, false, false, false, false, false, false, false, false, false, false, false, false, false, false, false, false, false, false, false, false, false, false, false, false, false, false] (by kernel_rfl) 27 _ ?_ _ rfl ?_ ?_
  rotate_left
  · intro w' hw'
    have hc' : ∀ b o, b < v2.heap.size → w'.cell? ⟨b, o, none⟩ = v2.cell? ⟨b, o, none⟩ := (bcell hw').1
    refine ci_step (i := 11) (v := ?_) rfl (by kernel_rfl) ?_ ?_
    rotate_left
    · first | (go_simp; done) | (go_simp; with_reducible rfl)
    skip
    try simp only [Act.put, List.setIfInBounds_toArray, List.set_cons_zero, List.set_cons_succ]
    refine ci_step (i := 12) (v := ?_) rfl (by kernel_rfl) ?_ ?_
    rotate_left
    · first | (go_simp; done) | (go_simp; with_reducible rfl)
    skip
    try simp only [Act.put, List.setIfInBounds_toArray, List.set_cons_zero, List.set_cons_succ]
    refine ci_step (i := 13) (v := ?_) rfl (by kernel_rfl) ?_ ?_
    rotate_left
    · first | (go_simp; done) | (go_simp; with_reducible rfl)
    skip
    try simp only [Act.put, List.setIfInBounds_toArray, List.set_cons_zero, List.set_cons_succ]
    refine ci_step (i := 14) (v := ?_) rfl (by kernel_rfl) ?_ ?_
    rotate_left
    · first | (go_simp; done) | (go_simp; with_reducible rfl)
    skip
    try simp only [Act.put, List.setIfInBounds_toArray, List.set_cons_zero, List.set_cons_succ]
    refine ci_step (i := 15) (v := ?_) rfl (by kernel_rfl) ?_ ?_
    rotate_left
    · first | (go_simp; done) | (go_simp; with_reducible rfl)
    skip
    try simp only [Act.put, List.setIfInBounds_toArray, List.set_cons_zero, List.set_cons_succ]
    refine ci_end ?_
    rfl
  refine draw_eff (i := 16) rfl (by kernel_rfl) (listed' := #[true, true, true, true, true, true, true, true, true, true, true, true, true, true, true, true, true, false, false, false, false, false, false, false, false, false, false, false, false, false, false, false, false, false, false, false, false, false, false, false, false, false, false]) rfl (fun K hK => ?_)
  replace hK := Lib.hid hK
  go_wp2_with fail
  refine (head06_at _ _ _).mono ?_
  rintro e u3 ⟨rfl, hb1⟩
  go_wp2_with fail
  refine hK.out _ _ ⟨fun _ => hb1, ?_⟩
  clear hK
  replace hS := hS.below hb1
  replace hY := hY.below' hb1
  replace hbV := below_step hbV hbV.size hb1
  clear hb1
  refine draw_eff (i := 17) rfl (by kernel_rfl) (listed' := #[true, true, true, true, true, true, true, true, true, true, true, true, true, true, true, true, true, true, false, false, false, false, false, false, false, false, false, false, false, false, false, false, false, false, false, false, false, false, false, false, false, false, false]) rfl (fun K hK => ?_)
  replace hK := Lib.hid hK
  go_wp2_with fail
  refine (state_Feasible σH ⟨0, 0, 3⟩ (2, 9) s g1 g2 u3 hS).mono ?_
  rintro e v3 ⟨rfl, hb1⟩
  rw [show feasB σH.fl ⟨0, 0, 3⟩ (2, 9) = false from by decide]
  go_wp2_with fail
  refine hK.out _ _ ⟨fun _ => hb1, ?_⟩
  clear hK
  replace hS := hS.below hb1
  replace hY := hY.below' hb1
  replace hbV := below_step hbV hbV.size hb1
  clear hb1
  have hl1 := hY.lt
  have y0 := hY.cell 0
  have y1 := hY.cell 1
  have y2 := hY.cell 2
  simp only [List.getElem?_toArray, List.getElem?_cons_zero, List.getElem?_cons_succ] at y0 y1 y2
  refine draw_chunk (n := 54) (by kernel_rfl) (fun _ _ _ _ _ h => h) [18, 19, 20, 21, 22, 23] [] _ #[true, true, true, true, true, true, true, true, true, true, true, true, true, true, true, true, true, true, true, true, true, true, true, true, false, false, false, false, false, false, false, false, false, false, false, false, false, false, false, false, false, false, false] (by kernel_rfl) 19 _ ?_ _ rfl ?_ ?_
  rotate_left
  · intro w' hw'
    have hc' : ∀ b o, b < v3.heap.size → w'.cell? ⟨b, o, none⟩ = v3.cell? ⟨b, o, none⟩ := (bcell hw').1
    refine ci_step (i := 18) (v := ?_) rfl (by kernel_rfl) ?_ ?_
    rotate_left
    · first | (go_simp; done) | (go_simp; with_reducible rfl)
    skip
    try simp only [Act.put, List.setIfInBounds_toArray, List.set_cons_zero, List.set_cons_succ]
    refine ci_step (i := 19) (v := ?_) rfl (by kernel_rfl) ?_ ?_
    rotate_left
    · first | (go_simp; done) | (go_simp; with_reducible rfl)
    skip
    try simp only [Act.put, List.setIfInBounds_toArray, List.set_cons_zero, List.set_cons_succ]
    refine ci_step (i := 20) (v := ?_) rfl (by kernel_rfl) ?_ ?_
    rotate_left
    · first | (go_simp; done) | (go_simp; with_reducible rfl)
    skip
    try simp only [Act.put, List.setIfInBounds_toArray, List.set_cons_zero, List.set_cons_succ]
    refine ci_step (i := 21) (v := ?_) rfl (by kernel_rfl) ?_ ?_
    rotate_left
    · first | (go_simp; done) | (go_simp; with_reducible rfl)
    skip
    try simp only [Act.put, List.setIfInBounds_toArray, List.set_cons_zero, List.set_cons_succ]
    refine ci_step (i := 22) (v := ?_) rfl (by kernel_rfl) ?_ ?_
    rotate_left
    · first | (go_simp; done) | (go_simp; with_reducible rfl)
    skip
    try simp only [Act.put, List.setIfInBounds_toArray, List.set_cons_zero, List.set_cons_succ]
    refine ci_step (i := 23) (v := ?_) rfl (by kernel_rfl) ?_ ?_
    rotate_left
    · first | (go_simp; done) | (go_simp; with_reducible rfl)
    skip
    try simp only [Act.put, List.setIfInBounds_toArray, List.set_cons_zero, List.set_cons_succ]
    refine ci_end ?_
    rfl
  refine draw_eff (i := 24) rfl (by kernel_rfl) (listed' := #[true, true, true, true, true, true, true, true, true, true, true, true, true, true, true, true, true, true, true, true, true, true, true, true, true, false, false, false, false, false, false, false, false, false, false, false, false, false, false, false, false, false, false]) rfl (fun K hK => ?_)
  replace hK := Lib.hid hK
  go_wp2_with fail
  refine (head06_at _ _ _).mono ?_
  rintro e u4 ⟨rfl, hb1⟩
  go_wp2_with fail
  refine hK.out _ _ ⟨fun _ => hb1, ?_⟩
  clear hK
  replace hS := hS.below hb1
  replace hY := hY.below' hb1
  replace hbV := below_step hbV hbV.size hb1
  clear hb1
  refine draw_eff (i := 25) rfl (by kernel_rfl) (listed' := #[true, true, true, true, true, true, true, true, true, true, true, true, true, true, true, true, true, true, true, true, true, true, true, true, true, true, false, false, false, false, false, false, false, false, false, false, false, false, false, false, false, false, false]) rfl (fun K hK => ?_)
  replace hK := Lib.hid hK
  go_wp2_with fail
  refine (state_Covers σH ⟨0, 0, 3⟩ (2, 9) s g1 g2 u4 hS).mono ?_
  rintro e v4 ⟨rfl, hb1⟩
  rw [show coversB σH.fl ⟨0, 0, 3⟩ (2, 9) = true from by decide]
  go_wp2_with fail
  refine hK.out _ _ ⟨fun _ => hb1, ?_⟩
  clear hK
  replace hS := hS.below hb1
  replace hY := hY.below' hb1
  replace hbV := below_step hbV hbV.size hb1
  clear hb1
  have hl1 := hY.lt
  have y0 := hY.cell 0
  have y1 := hY.cell 1
  have y2 := hY.cell 2
  simp only [List.getElem?_toArray, List.getElem?_cons_zero, List.getElem?_cons_succ] at y0 y1 y2
  refine draw_chunk (n := 54) (by kernel_rfl) (fun _ _ _ _ _ h => h) [26, 27, 28, 29, 30] [] _ #[true, true, true, true, true, true, true, true, true, true, true, true, true, true, true, true, true, true, true, true, true, true, true, true, true, true, true, true, true, true, true, false, false, false, false, false, false, false, false, false, false, false, false] (by kernel_rfl) 12 _ ?_ _ rfl ?_ ?_
  rotate_left
  · intro w' hw'
    have hc' : ∀ b o, b < v4.heap.size → w'.cell? ⟨b, o, none⟩ = v4.cell? ⟨b, o, none⟩ := (bcell hw').1
    refine ci_step (i := 26) (v := ?_) rfl (by kernel_rfl) ?_ ?_
    rotate_left
    · first | (go_simp; done) | (go_simp; with_reducible rfl)
    skip
    try simp only [Act.put, List.setIfInBounds_toArray, List.set_cons_zero, List.set_cons_succ]
    refine ci_step (i := 27) (v := ?_) rfl (by kernel_rfl) ?_ ?_
    rotate_left
    · first | (go_simp; done) | (go_simp; with_reducible rfl)
    skip
    try simp only [Act.put, List.setIfInBounds_toArray, List.set_cons_zero, List.set_cons_succ]
    refine ci_step (i := 28) (v := ?_) rfl (by kernel_rfl) ?_ ?_
    rotate_left
    · first | (go_simp; done) | (go_simp; with_reducible rfl)
    skip
    try simp only [Act.put, List.setIfInBounds_toArray, List.set_cons_zero, List.set_cons_succ]
    refine ci_step (i := 29) (v := ?_) rfl (by kernel_rfl) ?_ ?_
    rotate_left
    · first | (go_simp; done) | (go_simp; with_reducible rfl)
    skip
    try simp only [Act.put, List.setIfInBounds_toArray, List.set_cons_zero, List.set_cons_succ]
    refine ci_step (i := 30) (v := ?_) rfl (by kernel_rfl) ?_ ?_
    rotate_left
    · first | (go_simp; done) | (go_simp; with_reducible rfl)
    skip
    try simp only [Act.put, List.setIfInBounds_toArray, List.set_cons_zero, List.set_cons_succ]
    refine ci_end ?_
    rfl
  refine draw_eff (i := 31) rfl (by kernel_rfl) (listed' := #[true, true, true, true, true, true, true, true, true, true, true, true, true, true, true, true, true, true, true, true, true, true, true, true, true, true, true, true, true, true, true, true, false, false, false, false, false, false, false, false, false, false, false]) rfl (fun K hK => ?_)
  replace hK := Lib.hid hK
  go_wp2_with fail
  refine (head06_at _ _ _).mono ?_
  rintro e u5 ⟨rfl, hb1⟩
  go_wp2_with fail
  refine hK.out _ _ ⟨fun _ => hb1, ?_⟩
  clear hK
  replace hS := hS.below hb1
  replace hY := hY.below' hb1
  replace hbV := below_step hbV hbV.size hb1
  clear hb1
  refine draw_eff (i := 32) rfl (by kernel_rfl) (listed' := #[true, true, true, true, true, true, true, true, true, true, true, true, true, true, true, true, true, true, true, true, true, true, true, true, true, true, true, true, true, true, true, true, true, false, false, false, false, false, false, false, false, false, false]) rfl (fun K hK => ?_)
  replace hK := Lib.hid hK
  go_wp2_with fail
  refine (state_Covers σH ⟨0, 0, 3⟩ (1, 1) s g1 g2 u5 hS).mono ?_
  rintro e v5 ⟨rfl, hb1⟩
  rw [show coversB σH.fl ⟨0, 0, 3⟩ (1, 1) = true from by decide]
  go_wp2_with fail
  refine hK.out _ _ ⟨fun _ => hb1, ?_⟩
  clear hK
  replace hS := hS.below hb1
  replace hY := hY.below' hb1
  replace hbV := below_step hbV hbV.size hb1
  clear hb1
  have hl1 := hY.lt
  have y0 := hY.cell 0
  have y1 := hY.cell 1
  have y2 := hY.cell 2
  simp only [List.getElem?_toArray, List.getElem?_cons_zero, List.getElem?_cons_succ] at y0 y1 y2
  refine draw_chunk (n := 54) (by kernel_rfl) (fun _ _ _ _ _ h => h) [33, 34, 35, 36, 37] [] _ #[true, true, true, true, true, true, true, true, true, true, true, true, true, true, true, true, true, true, true, true, true, true, true, true, true, true, true, true, true, true, true, true, true, true, true, true, true, true, false, false, false, false, false] (by kernel_rfl) 5 _ ?_ _ rfl ?_ ?_
  rotate_left
  · intro w' hw'
    have hc' : ∀ b o, b < v5.heap.size → w'.cell? ⟨b, o, none⟩ = v5.cell? ⟨b, o, none⟩ := (bcell hw').1
    refine ci_step (i := 33) (v := ?_) rfl (by kernel_rfl) ?_ ?_
    rotate_left
    · first | (go_simp; done) | (go_simp; with_reducible rfl)
    skip
    try simp only [Act.put, List.setIfInBounds_toArray, List.set_cons_zero, List.set_cons_succ]
    refine ci_step (i := 34) (v := ?_) rfl (by kernel_rfl) ?_ ?_
    rotate_left
    · first | (go_simp; done) | (go_simp; with_reducible rfl)
    skip
    try simp only [Act.put, List.setIfInBounds_toArray, List.set_cons_zero, List.set_cons_succ]
    refine ci_step (i := 35) (v := ?_) rfl (by kernel_rfl) ?_ ?_
    rotate_left
    · first | (go_simp; done) | (go_simp; with_reducible rfl)
    skip
    try simp only [Act.put, List.setIfInBounds_toArray, List.set_cons_zero, List.set_cons_succ]
    refine ci_step (i := 36) (v := ?_) rfl (by kernel_rfl) ?_ ?_
    rotate_left
    · first | (go_simp; done) | (go_simp; with_reducible rfl)
    skip
    try simp only [Act.put, List.setIfInBounds_toArray, List.set_cons_zero, List.set_cons_succ]
    refine ci_step (i := 37) (v := ?_) rfl (by kernel_rfl) ?_ ?_
    rotate_left
    · first | (go_simp; done) | (go_simp; with_reducible rfl)
    skip
    try simp only [Act.put, List.setIfInBounds_toArray, List.set_cons_zero, List.set_cons_succ]
    refine ci_end ?_
    rfl
  refine draw_eff (i := 38) rfl (by kernel_rfl) (listed' := #[true, true, true, true, true, true, true, true, true, true, true, true, true, true, true, true, true, true, true, true, true, true, true, true, true, true, true, true, true, true, true, true, true, true, true, true, true, true, true, false, false, false, false]) rfl (fun K hK => ?_)
  replace hK := Lib.hid hK
  go_wp2_with fail
  refine (head06_at _ _ _).mono ?_
  rintro e u6 ⟨rfl, hb1⟩
  go_wp2_with fail
  refine hK.out _ _ ⟨fun _ => hb1, ?_⟩
  clear hK
  replace hS := hS.below hb1
  replace hY := hY.below' hb1
  replace hbV := below_step hbV hbV.size hb1
  clear hb1
  refine draw_eff (i := 39) rfl (by kernel_rfl) (listed' := #[true, true, true, true, true, true, true, true, true, true, true, true, true, true, true, true, true, true, true, true, true, true, true, true, true, true, true, true, true, true, true, true, true, true, true, true, true, true, true, true, false, false, false]) rfl (fun K hK => ?_)
  replace hK := Lib.hid hK
  go_wp2_with fail
  refine (state_Covers σH ⟨0, 0, 3⟩ (2, 8) s g1 g2 u6 hS).mono ?_
  rintro e v6 ⟨rfl, hb1⟩
  rw [show coversB σH.fl ⟨0, 0, 3⟩ (2, 8) = false from by decide]
  go_wp2_with fail
  refine hK.out _ _ ⟨fun _ => hb1, ?_⟩
  clear hK
  replace hS := hS.below hb1
  replace hY := hY.below' hb1
  replace hbV := below_step hbV hbV.size hb1
  clear hb1
  have hl1 := hY.lt
  have y0 := hY.cell 0
  have y1 := hY.cell 1
  have y2 := hY.cell 2
  simp only [List.getElem?_toArray, List.getElem?_cons_zero, List.getElem?_cons_succ] at y0 y1 y2
  refine draw_chunk (n := 54) (by kernel_rfl) (fun _ _ _ _ _ h => h) [40, 41, 42] [] _ #[true, true, true, true, true, true, true, true, true, true, true, true, true, true, true, true, true, true, true, true, true, true, true, true, true, true, true, true, true, true, true, true, true, true, true, true, true, true, true, true, true, true, true] (by kernel_rfl) 0 _ ?_ _ rfl ?_ ?_
  rotate_left
  · intro w' hw'
    have hc' : ∀ b o, b < v6.heap.size → w'.cell? ⟨b, o, none⟩ = v6.cell? ⟨b, o, none⟩ := (bcell hw').1
    refine ci_step (i := 40) (v := ?_) rfl (by kernel_rfl) ?_ ?_
    rotate_left
    · first | (go_simp; done) | (go_simp; with_reducible rfl)
    skip
    try simp only [Act.put, List.setIfInBounds_toArray, List.set_cons_zero, List.set_cons_succ]
    refine ci_step (i := 41) (v := ?_) rfl (by kernel_rfl) ?_ ?_
    rotate_left
    · first | (go_simp; done) | (go_simp; with_reducible rfl)
    skip
    try simp only [Act.put, List.setIfInBounds_toArray, List.set_cons_zero, List.set_cons_succ]
    refine ci_step (i := 42) (v := ?_) rfl (by kernel_rfl) ?_ ?_
    rotate_left
    · first | (go_simp; done) | (go_simp; with_reducible rfl)
    skip
    try simp only [Act.put, List.setIfInBounds_toArray, List.set_cons_zero, List.set_cons_succ]
    refine ci_end ?_
    rfl
  refine draw_done (by kernel_rfl) ?_ _
  go_wp2
  go_ret
  exact ⟨rfl, hbV⟩
end Go.Proofs.Ytnfaeafplaeehaa
