import Derived.Test.YtnfaeafplaeehaaGreatSorted
set_option linter.unusedVariables false
set_option linter.unusedSimpArgs false
namespace Go.Proofs.YtnfaeafplaeehaaGreat
open Go.RowKit Go.Sort Go.Lib Go.Shelf
/-! state.compare, and the floors' keys, sorted. -/
def kcmp (x y : Key) : Int := aorI (pcmp x.a x.l y.a y.l) (acmpI x.id y.id)
instance : Inhabited Key := ⟨⟨0, 0, 0⟩⟩
theorem drewN_grow (w : World) (q : Nat) (os : Array Obj) : (Go.Sort.grow w os).drewN q = Go.Sort.grow (w.drewN q) os := rfl
theorem drewN_drewN (w : World) (p q : Nat) : (w.drewN p).drewN q = w.drewN (p + q) := by simp [World.drewN, Nat.add_assoc]
theorem state_compare_grow (x y : Key) (w : World) : Calls Tryz.prog 53 #[.agg x.cells.toArray, .agg y.cells.toArray] w fun e w' => e = .returned (.int .i64 (kcmp x y)) ∧ ∃ q os', w' = Go.Sort.grow (w.drewN q) os' := by
  obtain ⟨a, l, i⟩ := x
  obtain ⟨c, m, j⟩ := y
  simp only [Key.cells, kcmp]
  have kA := (Blk.new w 80 #[.int .u32 a, .int .i64 l, .int .u32 i]).alloc (.cells #[.int .u32 c, .int .i64 m, .int .u32 j] 80)
  have kB := Blk.new (w.alloc (.cells #[.int .u32 a, .int .i64 l, .int .u32 i] 80)) 80 #[.int .u32 c, .int .i64 m, .int .u32 j]
  simp only [World.size_alloc] at kB
  go_enter Tryz.func53, Tryz.ntmps53
  go_wp2_with fail
  generalize hW : ((w.alloc (.cells #[.int .u32 a, .int .i64 l, .int .u32 i] 80)).alloc (.cells #[.int .u32 c, .int .i64 m, .int .u32 j] 80)) = W at kA kB ⊢
  have HW := Lib.hid hW
  clear hW
  have p0 := kA.cell 0
  have p1 := kA.cell 1
  have p2 := kA.cell 2
  simp only [List.getElem?_toArray, List.getElem?_cons_zero, List.getElem?_cons_succ] at p0 p1 p2
  have q0 := kB.cell 0
  have q1 := kB.cell 1
  have q2 := kB.cell 2
  simp only [List.getElem?_toArray, List.getElem?_cons_zero, List.getElem?_cons_succ] at q0 q1 q2
  have hA := kA.lt
  have hB := kB.lt
  generalize hR : pcmp a l c m = r
  have HR := Lib.hid hR
  clear hR
  refine draw_start [] Later (by kernel_rfl) ?_
  refine draw_chunk (n := 17) (by kernel_rfl) (fun _ _ _ _ _ h => h) [0, 1, 2, 3, 5, 6, 7, 8] [] _ #[true, true, true, true, false, true, true, true, true, false, false, false, false] (by kernel_rfl) 5 _ ?_ _ rfl ?_ ?_
  rotate_left
  · intro w' hw'
    have hc' : ∀ b o, b < W.heap.size → w'.cell? ⟨b, o, none⟩ = W.cell? ⟨b, o, none⟩ := (bcell hw').1
    have y0 := (hc' w.heap.size 0 hA).trans p0; have y1 := (hc' w.heap.size 1 hA).trans p1; have y2 := (hc' w.heap.size 2 hA).trans p2; have z0 := (hc' (w.heap.size + 1) 0 hB).trans q0; have z1 := (hc' (w.heap.size + 1) 1 hB).trans q1; have z2 := (hc' (w.heap.size + 1) 2 hB).trans q2
    iterate 8
      refine ci_step (v := ?_) rfl (by kernel_rfl) ?_ ?_
      rotate_left
      · first | (go_simp; done) | (go_simp; with_reducible rfl)
      try simp only [Act.put, List.setIfInBounds_toArray, List.set_cons_zero, List.set_cons_succ]
    refine ci_end ?_
    rfl
  refine draw_eff (i := 4) rfl (by kernel_rfl) (listed' := #[true, true, true, true, true, true, true, true, true, false, false, false, false]) rfl (fun K hK => ?_)
  replace hK := Lib.hid hK
  go_wp2_with fail
  refine (addr_Compare_grow _ _ _ _ _).mono ?_
  rintro e w1 ⟨rfl, n1, os1, h1⟩
  have hb1 : Below W.drew.heap.size W.drew w1 := by rw [h1]; exact ⟨rfl, rfl, rfl, by simp [Go.Sort.grow], fun i hi => Go.Sort.heap_grow_old _ os1 hi⟩
  have H1 := Lib.hid h1
  clear h1
  rw [HR.out]
  go_wp2_with fail
  refine hK.out _ _ ⟨fun _ => hb1, ?_⟩
  clear hK hb1
  refine draw_eff (i := 9) rfl (by kernel_rfl) (listed' := #[true, true, true, true, true, true, true, true, true, true, false, false, false]) rfl (fun K hK => ?_)
  replace hK := Lib.hid hK
  go_wp2_with fail
  refine (acmp_u32 _ _ _).mono ?_
  rintro e w2 ⟨rfl, rfl⟩
  go_wp2_with fail
  refine hK.out _ _ ⟨fun _ => Below.refl _ _, ?_⟩
  clear hK
  refine draw_eff (i := 10) rfl (by kernel_rfl) (listed' := #[true, true, true, true, true, true, true, true, true, true, true, false, false]) rfl (fun K hK => ?_)
  replace hK := Lib.hid hK
  go_wp2_with fail
  refine hK.out _ _ ⟨fun _ => (Below.refl _ _).alloc (Nat.le_refl _) _, ?_⟩
  clear hK
  refine draw_eff (i := 11) rfl (by kernel_rfl) (listed' := #[true, true, true, true, true, true, true, true, true, true, true, true, false]) rfl (fun K hK => ?_)
  replace hK := Lib.hid hK
  go_wp2_with fail
  refine (acmp_or _ _ _ _ (Blk.new w1 3 #[.int .i64 r, .int .i64 (acmpI i j)])).mono ?_
  rintro e w3 ⟨rfl, rfl⟩
  go_wp2_with fail
  refine hK.out _ _ ⟨fun _ => Below.refl _ _, ?_⟩
  clear hK
  refine draw_chunk (n := 17) (by kernel_rfl) (fun _ _ _ _ _ h => h) [12] [] _ #[true, true, true, true, true, true, true, true, true, true, true, true, true] (by kernel_rfl) 0 _ ?_ _ rfl ?_ ?_
  rotate_left
  · intro w' hw'
    have hc' : ∀ b o, b < (_ : World).heap.size → w'.cell? ⟨b, o, none⟩ = (_ : World).cell? ⟨b, o, none⟩ := (bcell hw').1
    refine ci_step (i := 12) (v := ?_) rfl (by kernel_rfl) ?_ ?_
    rotate_left
    · first | (go_simp; done) | (go_simp; with_reducible rfl)
    skip
    try simp only [Act.put, List.setIfInBounds_toArray, List.set_cons_zero, List.set_cons_succ]
    refine ci_end ?_
    rfl
  refine draw_done (by kernel_rfl) ?_ _
  go_wp2
  go_ret
  refine ⟨by rw [HR.out]; rfl, ?_⟩
  refine ⟨1 + n1, #[.cells #[.int .u32 a, .int .i64 l, .int .u32 i] 80, .cells #[.int .u32 c, .int .i64 m, .int .u32 j] 80] ++ os1 ++ #[.cells #[.int .i64 r, .int .i64 (acmpI i j)] 3], ?_⟩
  rw [H1.out, ← HW.out]
  simp only [Go.Sort.alloc_eq_grow]
  rw [← Go.Sort.grow_grow, ← Go.Sort.grow_grow, Go.Sort.grow_grow w]
  refine congrArg (fun x => Go.Sort.grow (Go.Sort.grow x _) _) ?_
  rw [← drewN_drewN]
  rfl
theorem kcmp_lt (x y : Key) : decide (kcmp x y < 0) = decide (x.a < y.a ∨ (x.a = y.a ∧ (x.l < y.l ∨ (x.l = y.l ∧ x.id < y.id)))) := by
  unfold kcmp pcmp aorI acmpI
  congr 1
  refine propext ?_
  split <;> split <;> (try split) <;> (try split) <;> (try split) <;> (try split) <;> omega
theorem keyLt (x y : Key) : ltOf kcmp x y = decide (x.a < y.a ∨ (x.a = y.a ∧ (x.l < y.l ∨ (x.l = y.l ∧ x.id < y.id)))) := kcmp_lt _ _
theorem keySWO : SWO (ltOf kcmp) where
  irrefl x := by rw [keyLt]; simp
  trans x y z h1 h2 := by rw [keyLt] at *; simp at *; omega
  ntrans x y z h1 h2 := by rw [keyLt] at *; simp at *; omega
end Go.Proofs.YtnfaeafplaeehaaGreat
