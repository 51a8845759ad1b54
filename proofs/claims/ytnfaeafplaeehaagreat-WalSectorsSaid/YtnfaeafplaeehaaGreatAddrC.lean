import Derived.Test.YtnfaeafplaeehaaGreatMrgB
import Derived.Sort.Grow
import Derived.Sort.Row
set_option linter.unusedVariables false
set_option linter.unusedSimpArgs false
namespace Go.Proofs.YtnfaeafplaeehaaGreat
open Go.RowKit
/-! The order of prefixes, walked. -/
def acmpI (x y : Int) : Int := if x < y then -1 else if y < x then 1 else 0
theorem cmp_nan32 (x : Int) (w : World) : Calls Tryz.prog 75 #[.int .u32 x] w fun e w' => e = .returned (.bool false) ∧ w = w' := by
  go_enter Tryz.func75, Tryz.ntmps75
  go_wp2
  go_ret
  exact ⟨by simp, rfl⟩
theorem cmp_nan64 (x : Int) (w : World) : Calls Tryz.prog 76 #[.int .i64 x] w fun e w' => e = .returned (.bool false) ∧ w = w' := by
  go_enter Tryz.func76, Tryz.ntmps76
  go_wp2
  go_ret
  exact ⟨by simp, rfl⟩
theorem acmp_u32 (x y : Int) (w : World) : Calls Tryz.prog 65 #[.int .u32 x, .int .u32 y] w fun e w' => e = .returned (.int .i64 (acmpI x y)) ∧ w = w' := by
  by_cases h : x < y
  · have HC := Lib.hid (show acmpI x y = -1 from if_pos h)
    go_enter Tryz.func65, Tryz.ntmps65
    go_wp2_with (go_at_call 75; refine (cmp_nan32 _ _).mono ?_; rintro e w1 ⟨rfl, rfl⟩)
    go_ret
    exact ⟨by rw [HC.out]; rfl, rfl⟩
  · by_cases h2 : y < x
    · have HC := Lib.hid (show acmpI x y = 1 by unfold acmpI; rw [if_neg h, if_pos h2])
      go_enter Tryz.func65, Tryz.ntmps65
      go_wp2_with (go_at_call 75; refine (cmp_nan32 _ _).mono ?_; rintro e w1 ⟨rfl, rfl⟩)
      go_ret
      exact ⟨by rw [HC.out]; rfl, rfl⟩
    · have HC := Lib.hid (show acmpI x y = 0 by unfold acmpI; rw [if_neg h, if_neg h2])
      go_enter Tryz.func65, Tryz.ntmps65
      go_wp2_with (go_at_call 75; refine (cmp_nan32 _ _).mono ?_; rintro e w1 ⟨rfl, rfl⟩)
      go_ret
      exact ⟨by rw [HC.out]; rfl, rfl⟩
theorem acmp_i64 (x y : Int) (w : World) : Calls Tryz.prog 66 #[.int .i64 x, .int .i64 y] w fun e w' => e = .returned (.int .i64 (acmpI x y)) ∧ w = w' := by
  by_cases h : x < y
  · have HC := Lib.hid (show acmpI x y = -1 from if_pos h)
    go_enter Tryz.func66, Tryz.ntmps66
    go_wp2_with (go_at_call 76; refine (cmp_nan64 _ _).mono ?_; rintro e w1 ⟨rfl, rfl⟩)
    go_ret
    exact ⟨by rw [HC.out]; rfl, rfl⟩
  · by_cases h2 : y < x
    · have HC := Lib.hid (show acmpI x y = 1 by unfold acmpI; rw [if_neg h, if_pos h2])
      go_enter Tryz.func66, Tryz.ntmps66
      go_wp2_with (go_at_call 76; refine (cmp_nan64 _ _).mono ?_; rintro e w1 ⟨rfl, rfl⟩)
      go_ret
      exact ⟨by rw [HC.out]; rfl, rfl⟩
    · have HC := Lib.hid (show acmpI x y = 0 by unfold acmpI; rw [if_neg h, if_neg h2])
      go_enter Tryz.func66, Tryz.ntmps66
      go_wp2_with (go_at_call 76; refine (cmp_nan64 _ _).mono ?_; rintro e w1 ⟨rfl, rfl⟩)
      go_ret
      exact ⟨by rw [HC.out]; rfl, rfl⟩
def aorI (x y : Int) : Int := if x = 0 then y else x
theorem acmp_or (x y : Int) (g : Nat) (w : World) (hk : Blk w g 3 #[.int .i64 x, .int .i64 y]) : Calls Tryz.prog 64 #[.slice (some ⟨g, 0, none⟩) 2 2] w fun e w' => e = .returned (.int .i64 (aorI x y)) ∧ w = w' := by
  have k0 := hk.cell 0
  have k1 := hk.cell 1
  simp only [List.getElem?_toArray, List.getElem?_cons_zero, List.getElem?_cons_succ] at k0 k1
  go_enter Tryz.func64, Tryz.ntmps64
  go_wp2_with fail
  go_loop [8] (fun i => i = .int .i64 0 ∨ (x = 0 ∧ i = .int .i64 1) ∨ (x = 0 ∧ y = 0 ∧ i = .int .i64 2)) (fun i => 2 - (intOf i).toNat)
  case atStart => exact .inl rfl
  case round =>
    rcases hrel with rfl | ⟨h0, rfl⟩ | ⟨h0, h1, rfl⟩
    · by_cases hx : x = 0
      · have hx' : (x != 0) = false := by simpa using hx
        go_wp2
        go_round
        case rel => exact .inr (.inl ⟨hx, rfl⟩)
        case measure => simp [intOf]
      · have hx' : (x != 0) = true := by simpa using hx
        have HC := Lib.hid (show aorI x y = x from if_neg hx)
        clear hx
        go_wp2
        go_ret
        exact ⟨by rw [HC.out]; rfl, rfl⟩
    · have HC := Lib.hid (show aorI x y = y from if_pos h0)
      have H00 := Lib.hid h0
      clear h0
      by_cases hx : y = 0
      · have hx' : (y != 0) = false := by simpa using hx
        have H0 := Lib.hid hx
        clear hx
        go_wp2
        go_round
        case rel => exact .inr (.inr ⟨H00.out, H0.out, rfl⟩)
        case measure => simp [intOf]
      · have hx' : (y != 0) = true := by simpa using hx
        clear hx
        go_wp2
        go_ret
        exact ⟨by rw [HC.out]; rfl, rfl⟩
    · have HC := Lib.hid (show aorI x y = 0 by unfold aorI; rw [if_pos h0, h1])
      clear h0 h1
      go_wp2
      go_ret
      exact ⟨by rw [HC.out]; rfl, rfl⟩
/-- What 'Compare' answers. -/
def pcmp (a l b m : Int) : Int := aorI (acmpI a b) (acmpI l m)
theorem addr_Compare_grow (a l c m : Int) (w : World) : Calls Tryz.prog 50 #[.agg #[.int .u32 a, .int .i64 l], .agg #[.int .u32 c, .int .i64 m]] w fun e w' => e = .returned (.int .i64 (pcmp a l c m)) ∧ ∃ q os', w' = Go.Sort.grow (w.drewN q) os' := by
  have kA := (Blk.new w 36 #[.int .u32 a, .int .i64 l]).alloc (.cells #[.int .u32 c, .int .i64 m] 36)
  have kB := Blk.new (w.alloc (.cells #[.int .u32 a, .int .i64 l] 36)) 36 #[.int .u32 c, .int .i64 m]
  have hb0 := ((Below.refl w.heap.size w).alloc (Nat.le_refl _) (.cells #[.int .u32 a, .int .i64 l] 36)).alloc (by simp) (.cells #[.int .u32 c, .int .i64 m] 36)
  simp only [World.size_alloc] at kB
  go_enter Tryz.func50, Tryz.ntmps50
  go_wp2_with fail
  generalize hW : ((w.alloc (.cells #[.int .u32 a, .int .i64 l] 36)).alloc (.cells #[.int .u32 c, .int .i64 m] 36)) = W at kA kB hb0 ⊢
  have HW := Lib.hid hW
  clear hW
  have p0 := kA.cell 0
  have p1 := kA.cell 1
  simp only [List.getElem?_toArray, List.getElem?_cons_zero, List.getElem?_cons_succ] at p0 p1
  have q0 := kB.cell 0
  have q1 := kB.cell 1
  simp only [List.getElem?_toArray, List.getElem?_cons_zero, List.getElem?_cons_succ] at q0 q1
  have hA := kA.lt
  have hB := kB.lt
  refine draw_start [] Later (by kernel_rfl) ?_
  refine draw_chunk (n := 17) (by kernel_rfl) (fun _ _ _ _ _ h => h) [0, 1, 2, 3, 5, 6, 7, 8] [] _ #[true, true, true, true, false, true, true, true, true, false, false, false, false] (by kernel_rfl) 5 _ ?_ _ rfl ?_ ?_
  rotate_left
  · intro w' hw'
    have hc' : ∀ b o, b < W.heap.size → w'.cell? ⟨b, o, none⟩ = W.cell? ⟨b, o, none⟩ := (bcell hw').1
    have y0 := (hc' w.heap.size 0 hA).trans p0; have y1 := (hc' w.heap.size 1 hA).trans p1; have z0 := (hc' (w.heap.size + 1) 0 hB).trans q0; have z1 := (hc' (w.heap.size + 1) 1 hB).trans q1
    iterate 8
      refine ci_step (v := ?_) rfl (by kernel_rfl) ?_ ?_
      rotate_left
      · first | (go_simp; done) | (go_simp; with_reducible rfl)
      try simp only [Act.put, List.setIfInBounds_toArray, List.set_cons_zero, List.set_cons_succ]
    refine ci_end ?_
    rfl
  refine draw_eff (i := 4) rfl (by kernel_rfl) (listed' := #[true, true, true, true, true, true, true, true, true, false, false, false, false]) rfl (fun K hK => ?_)
  replace hK := Lib.hid hK
  go_wp2_with fail
  refine (acmp_u32 _ _ _).mono ?_
  rintro e w1 ⟨rfl, rfl⟩
  go_wp2_with fail
  refine hK.out _ _ ⟨fun _ => Below.refl _ _, ?_⟩
  clear hK
  refine draw_eff (i := 9) rfl (by kernel_rfl) (listed' := #[true, true, true, true, true, true, true, true, true, true, false, false, false]) rfl (fun K hK => ?_)
  replace hK := Lib.hid hK
  go_wp2_with fail
  refine (acmp_i64 _ _ _).mono ?_
  rintro e w1 ⟨rfl, rfl⟩
  go_wp2_with fail
  refine hK.out _ _ ⟨fun _ => Below.refl _ _, ?_⟩
  clear hK
  refine draw_eff (i := 10) rfl (by kernel_rfl) (listed' := #[true, true, true, true, true, true, true, true, true, true, true, false, false]) rfl (fun K hK => ?_)
  replace hK := Lib.hid hK
  go_wp2_with fail
  refine hK.out _ _ ⟨fun _ => (Below.refl _ _).alloc (Nat.le_refl _) _, ?_⟩
  clear hK
  refine draw_eff (i := 11) rfl (by kernel_rfl) (listed' := #[true, true, true, true, true, true, true, true, true, true, true, true, false]) rfl (fun K hK => ?_)
  replace hK := Lib.hid hK
  go_wp2_with fail
  refine (acmp_or _ _ _ _ ((Blk.new W 3 #[.int .i64 (acmpI a c), .int .i64 (acmpI l m)]).drew)).mono ?_
  rintro e w1 ⟨rfl, rfl⟩
  go_wp2_with fail
  refine hK.out _ _ ⟨fun _ => Below.refl _ _, ?_⟩
  clear hK
  refine draw_chunk (n := 17) (by kernel_rfl) (fun _ _ _ _ _ h => h) [12] [] _ #[true, true, true, true, true, true, true, true, true, true, true, true, true] (by kernel_rfl) 0 _ ?_ _ rfl ?_ ?_
  rotate_left
  · intro w' hw'
    have hc' : ∀ b o, b < ((W.alloc (.cells #[.int .i64 (acmpI a c), .int .i64 (acmpI l m)] 3)).drew).heap.size → w'.cell? ⟨b, o, none⟩ = ((W.alloc (.cells #[.int .i64 (acmpI a c), .int .i64 (acmpI l m)] 3)).drew).cell? ⟨b, o, none⟩ := (bcell hw').1
    refine ci_step (i := 12) (v := ?_) rfl (by kernel_rfl) ?_ ?_
    rotate_left
    · first | (go_simp; done) | (go_simp; with_reducible rfl)
    skip
    try simp only [Act.put, List.setIfInBounds_toArray, List.set_cons_zero, List.set_cons_succ]
    refine ci_end ?_
    rfl
  refine draw_done (by kernel_rfl) ?_ _
  go_wp2
  go_ret
  refine ⟨rfl, 1, #[.cells #[.int .u32 a, .int .i64 l] 36, .cells #[.int .u32 c, .int .i64 m] 36, .cells #[.int .i64 (acmpI a c), .int .i64 (acmpI l m)] 3], ?_⟩
  rw [← HW.out, Go.Sort.alloc_eq_grow, Go.Sort.alloc_eq_grow, Go.Sort.alloc_eq_grow, Go.Sort.grow_grow, Go.Sort.grow_grow]
  rfl
theorem addr_Compare (a l c m : Int) (w : World) : Calls Tryz.prog 50 #[.agg #[.int .u32 a, .int .i64 l], .agg #[.int .u32 c, .int .i64 m]] w fun e w' => e = .returned (.int .i64 (pcmp a l c m)) ∧ Below w.heap.size w w' :=
  (addr_Compare_grow a l c m w).mono fun e w' ⟨he, q, os, hw⟩ => ⟨he, hw ▸ ⟨rfl, rfl, rfl, by simp [Go.Sort.grow], fun i hi => Go.Sort.heap_grow_old (w.drewN q) os hi⟩⟩
end Go.Proofs.YtnfaeafplaeehaaGreat
