import Derived.Test.YtnfaeafplaeehaaOwns
import Derived.BigQuiet
set_option linter.unusedVariables false
set_option linter.unusedSimpArgs false
namespace Go.Proofs.Ytnfaeafplaeehaa
open Go.RowKit Go.Sort Go.Lib Go.Shelf
theorem state_Owns (s : Nat) (w : World) : Calls Try.prog 72 #[.pointer (some ⟨s, 0, none⟩)] w fun e w' => e = .returned (.func (.func 101) #[] #[.pointer (some ⟨w.heap.size, 0, none⟩)]) ∧ w' = w.alloc (.cells #[.pointer (some ⟨s, 0, none⟩)] 33) := by
  go_enter Try.func72, Try.ntmps72
  go_wp2
  go_ret
  exact ⟨rfl, rfl⟩
theorem state_Floors (s : Nat) (w : World) : Calls Try.prog 74 #[.pointer (some ⟨s, 0, none⟩)] w fun e w' => e = .returned (.func (.func 103) #[] #[.pointer (some ⟨w.heap.size, 0, none⟩)]) ∧ w' = w.alloc (.cells #[.pointer (some ⟨s, 0, none⟩)] 33) := by
  go_enter Try.func74, Try.ntmps74
  go_wp2
  go_ret
  exact ⟨rfl, rfl⟩
theorem MapAt.size {α β : Type} {w : World} {b : Nat} {ek : α → Value} {ev : β → Value} {m : List (α × β)} (h : MapAt w b ek ev m) : ∃ es c, w.heap[b]? = some (.map es c) ∧ es.size = m.length := by
  obtain ⟨es, c, h1, h2, _⟩ := h
  exact ⟨es, c, h1, by have := congrArg List.length h2; simpa using this⟩
theorem MapAt.len {α β : Type} {w : World} {b : Nat} {ek : α → Value} {ev : β → Value} {m : List (α × β)} (h : MapAt w b ek ev m) {P : Program} {t k e : TypeId} (ht : P.underlying t = some (.map k e)) (ty : TypeId) : (Builtin.len_ #[t] ty #[.map (some b)]).run P w = .ok (.int .i64 m.length) w := by
  obtain ⟨es, c, h1, h2⟩ := h.size
  simp [Builtin.len_, run_underlying ht, getObj, Sem.run, h1, h2, goInt]
set_option maxHeartbeats 8000000 in
theorem model_Shows2 (σ τ : St) (hid : τ.id = σ.id) (hle : τ.lease = σ.lease) (q1 : ∀ k, getM σ.own k = getM τ.own k) (q2 : ∀ k, getM σ.fl k = getM τ.fl k) (l1 : τ.own.length = σ.own.length) (l2 : τ.fl.length = σ.fl.length) (m h1 h2 s g1 g2 : Nat) (w : World) (hM : StAt 45 w m h1 h2 σ) (hS : StAt 121 w s g1 g2 τ)
    (hn1 : (τ.own.map (·.1)).Nodup) (hN1 : τ.own.length < 1000000) (hn2 : (τ.fl.map (·.1)).Nodup) (hN2 : τ.fl.length < 1000000) :
    Calls Try.prog 39 #[.pointer (some ⟨m, 0, none⟩), .pointer (some ⟨s, 0, none⟩)] w fun e w' => e = .returned (.bool true) ∧ Below w.heap.size w w' := by
  have d1 : (τ.id != σ.id) = false := by rw [hid]; simp
  have d2 : (τ.lease != σ.lease) = false := by rw [hle]; simp
  have d3 : ((τ.own.length : Int) != (σ.own.length : Int)) = false := by rw [l1]; simp
  have d4 : ((τ.fl.length : Int) == (σ.fl.length : Int)) = true := by rw [l2]; simp
  have HL1 := Lib.hid l1
  have HL2 := Lib.hid l2
  clear hid hle l1 l2
  go_enter Try.func39, Try.ntmps39
  have hb0 := ((Below.refl w.heap.size w).alloc (Nat.le_refl _) (.cells #[.pointer (some ⟨m, 0, none⟩)] 35)).alloc (by simp) (.cells #[.pointer (some ⟨s, 0, none⟩)] 33)
  have kbm := (Blk.new w 35 #[.pointer (some ⟨m, 0, none⟩)]).alloc (.cells #[.pointer (some ⟨s, 0, none⟩)] 33)
  have kbs := Blk.new (w.alloc (.cells #[.pointer (some ⟨m, 0, none⟩)] 35)) 33 #[.pointer (some ⟨s, 0, none⟩)]
  simp only [World.size_alloc] at kbs
  replace hM := hM.below hb0
  replace hS := hS.below hb0
  go_wp2_with fail
  generalize hW : (w.alloc (.cells #[.pointer (some ⟨m, 0, none⟩)] 35)).alloc (.cells #[.pointer (some ⟨s, 0, none⟩)] 33) = W at *
  have hgB : w.heap.size < W.heap.size := by rw [← hW]; simp; omega
  have e1 := kbm.lt
  have e2 := kbs.lt
  have c1 := kbm.cell 0
  have c2 := kbs.cell 0
  simp only [List.getElem?_toArray, List.getElem?_cons_zero, List.getElem?_cons_succ] at c1 c2
  have hMB := hM.1
  have e3 := hMB.lt
  have m0 := hMB.cell 0
  have m1 := hMB.cell 1
  have m2 := hMB.cell 2
  have m3 := hMB.cell 3
  have mf0 := hMB.frozen 0
  have mf1 := hMB.frozen 1
  have mf2 := hMB.frozen 2
  have mf3 := hMB.frozen 3
  simp only [List.getElem?_toArray, List.getElem?_cons_zero, List.getElem?_cons_succ] at m0 m1 m2 m3
  clear hW
  go_quiet ((first | (go_at_call 71; exact Calls.quiet_of_same (state_ID τ s g1 g2 _ hS)) | (go_at_call 21; exact Calls.quiet_of_same (state_Lease τ s g1 g2 _ hS))))
  rename_i nq
  have hb1 : Below w.heap.size w (W.drewN nq) := below_drewN hb0 nq
  replace hM : StAt 45 (W.drewN nq) m h1 h2 σ := hM
  replace hS : StAt 121 (W.drewN nq) s g1 g2 τ := hS
  replace kbm := kbm.drewN nq
  replace kbs := kbs.drewN nq
  clear hb0 c1 c2 m0 m1 m2 m3 mf0 mf1 mf2 mf3 hMB e1 e2 e3 hgB
  generalize W.drewN nq = V at *
  clear nq
  have r1 := (Below.refl V.heap.size V).alloc (Nat.le_refl _) (.cells #[.int .i64 0] 3)
  have r2 := r1.alloc (by simp) (.cells #[.bool true] 4)
  have r3 := r2.alloc (by simp; omega) (.cells #[.int .u32 0, .int .i64 0] 25)
  have r4 := r3.alloc (by simp; omega) (.cells #[.pointer (some ⟨s, 0, none⟩)] 33)
  have kbn := (((Blk.new V 3 #[.int .i64 0]).alloc (.cells #[.bool true] 4)).alloc (.cells #[.int .u32 0, .int .i64 0] 25)).alloc (.cells #[.pointer (some ⟨s, 0, none⟩)] 33)
  have kbo := ((Blk.new (V.alloc (.cells #[.int .i64 0] 3)) 4 #[.bool true]).alloc (.cells #[.int .u32 0, .int .i64 0] 25)).alloc (.cells #[.pointer (some ⟨s, 0, none⟩)] 33)
  have kbl := (Blk.new ((V.alloc (.cells #[.int .i64 0] 3)).alloc (.cells #[.bool true] 4)) 25 #[.int .u32 0, .int .i64 0]).alloc (.cells #[.pointer (some ⟨s, 0, none⟩)] 33)
  have kbx := Blk.new (((V.alloc (.cells #[.int .i64 0] 3)).alloc (.cells #[.bool true] 4)).alloc (.cells #[.int .u32 0, .int .i64 0] 25)) 33 #[.pointer (some ⟨s, 0, none⟩)]
  simp only [World.size_alloc] at kbo kbl kbx
  have c2 := (((kbs.alloc (.cells #[.int .i64 0] 3)).alloc (.cells #[.bool true] 4)).alloc (.cells #[.int .u32 0, .int .i64 0] 25)).cell 0
  simp only [List.getElem?_toArray, List.getElem?_cons_zero, List.getElem?_cons_succ] at c2
  have hs1 := hb1.size
  replace hM := hM.below r4
  replace hS := hS.below r4
  replace kbm := kbm.below' r4
  replace kbs := kbs.below' r4
  have hb4 := below_step hb1 hb1.size r4
  clear hb1 r1 r2 r3 r4
  go_wp2_with (go_at_call 72; refine (state_Owns s _).mono ?_; rintro e w1 ⟨rfl, rfl⟩)
  generalize (((V.alloc (.cells #[.int .i64 0] 3)).alloc (.cells #[.bool true] 4)).alloc (.cells #[.int .u32 0, .int .i64 0] 25)).alloc (.cells #[.pointer (some ⟨s, 0, none⟩)] 33) = V4 at *
  clear c2
  refine (owns1 σ τ q1 m h1 h2 s g1 g2 _ _ _ _ _ _ V4 hM hS kbm kbs kbx kbo kbn kbl hn1 hN1).mono ?_
  rintro e V5 ⟨rfl, kbo5, kbn5, hk5⟩
  obtain ⟨oM1, oM2, oM3⟩ := hM.off kbo kbn kbl (by decide) (by decide) (by decide)
  obtain ⟨oS1, oS2, oS3⟩ := hS.off kbo kbn kbl (by decide) (by decide) (by decide)
  have om := three_off kbm kbo kbn kbl (by decide) (by decide) (by decide)
  have os := three_off kbs kbo kbn kbl (by decide) (by decide) (by decide)
  replace hM := hM.kept hk5 oM1 oM2 oM3
  replace hS := hS.kept hk5 oS1 oS2 oS3
  replace kbm := hk5.blk kbm om
  replace kbs := hk5.blk kbs os
  have hb5 : Below w.heap.size w V5 := hk5.below hb4 hb4.size (by simp; omega)
  clear hk5 hb4 kbo kbn kbl kbx oM1 oM2 oM3 oS1 oS2 oS3 om os
  have hMB := hM.1
  have c1 := kbm.cell 0
  have c3 := kbo5.cell 0
  have c4 := kbn5.cell 0
  simp only [List.getElem?_toArray, List.getElem?_cons_zero, List.getElem?_cons_succ] at c1 c3 c4
  have m0 := hMB.cell 0
  have m1 := hMB.cell 1
  have m2 := hMB.cell 2
  have m3 := hMB.cell 3
  have mf0 := hMB.frozen 0
  have mf1 := hMB.frozen 1
  have mf2 := hMB.frozen 2
  have mf3 := hMB.frozen 3
  simp only [List.getElem?_toArray, List.getElem?_cons_zero, List.getElem?_cons_succ] at m0 m1 m2 m3
  obtain ⟨es, cl, he1, he2⟩ := hM.2.1.size
  have e1 := kbm.lt
  have e3 := kbo5.lt
  have e4 := kbn5.lt
  have e5 := hMB.lt
  have e6 := hM.2.1.lt
  go_wp2_with fail
  refine draw_start [] Later (by kernel_rfl) ?_
  refine draw_chunk (n := 56) (by kernel_rfl) (fun _ _ _ _ _ h => h) [0, 1, 2, 3, 4, 5, 6, 7, 8, 9, 10] [] _ #[true, true, true, true, true, true, true, true, true, true, true] (by kernel_rfl) 0 _ ?_ _ rfl ?_ ?_
  rotate_left
  · intro w' hw'
    have hc' : ∀ b o, b < V5.heap.size → w'.cell? ⟨b, o, none⟩ = V5.cell? ⟨b, o, none⟩ := (bcell hw').1
    have hln := (hM.2.1.same ((undrew hw').block h1 e6)).len Try.underlying42 3
    refine ci_step (i := 0) (v := ?_) rfl (by kernel_rfl) ?_ ?_
    rotate_left
    · first | (go_simp; done) | (go_simp; with_reducible rfl)
    skip
    try simp only [Act.put, List.setIfInBounds_toArray, List.set_cons_zero, List.set_cons_succ]
    refine ci_step (i := 1) (v := ?_) rfl (by kernel_rfl) ?_ ?_
    rotate_left
    · first | (go_simp; done) | (go_simp; with_reducible rfl)
    skip
    try simp only [Act.put, List.setIfInBounds_toArray, List.set_cons_zero, List.set_cons_succ]
    refine ci_step (i := 2) (v := ?_) rfl (by kernel_rfl) ?_ ?_
    rotate_left
    · first | (go_simp; done) | (go_simp; with_reducible rfl)
    skip
    try simp only [Act.put, List.setIfInBounds_toArray, List.set_cons_zero, List.set_cons_succ]
    refine ci_step (i := 3) (v := ?_) rfl (by kernel_rfl) ?_ ?_
    rotate_left
    · first | (go_simp; done) | (go_simp; with_reducible rfl)
    skip
    try simp only [Act.put, List.setIfInBounds_toArray, List.set_cons_zero, List.set_cons_succ]
    refine ci_step (i := 4) (v := ?_) rfl (by kernel_rfl) ?_ ?_
    rotate_left
    · first | (go_simp; done) | (go_simp; with_reducible rfl)
    skip
    try simp only [Act.put, List.setIfInBounds_toArray, List.set_cons_zero, List.set_cons_succ]
    refine ci_step (i := 5) (v := ?_) rfl (by kernel_rfl) ?_ ?_
    rotate_left
    · first | (go_simp; done) | (go_simp; with_reducible rfl)
    skip
    try simp only [Act.put, List.setIfInBounds_toArray, List.set_cons_zero, List.set_cons_succ]
    refine ci_step (i := 6) (v := ?_) rfl (by kernel_rfl) ?_ ?_
    rotate_left
    · first | (go_simp; done) | (go_simp; with_reducible rfl)
    skip
    try simp only [Act.put, List.setIfInBounds_toArray, List.set_cons_zero, List.set_cons_succ]
    refine ci_step (i := 7) (v := ?_) rfl (by kernel_rfl) ?_ ?_
    rotate_left
    · first | (go_simp; done) | (go_simp; with_reducible rfl)
    skip
    try simp only [Act.put, List.setIfInBounds_toArray, List.set_cons_zero, List.set_cons_succ]
    refine ci_step (i := 8) (v := ?_) rfl (by kernel_rfl) ?_ ?_
    rotate_left
    · first | (go_simp; done) | (go_simp; with_reducible rfl)
    skip
    try simp only [Act.put, List.setIfInBounds_toArray, List.set_cons_zero, List.set_cons_succ]
    refine ci_step (i := 9) (v := ?_) rfl (by kernel_rfl) ?_ ?_
    rotate_left
    · first | (go_simp; done) | (go_simp; with_reducible rfl)
    skip
    try simp only [Act.put, List.setIfInBounds_toArray, List.set_cons_zero, List.set_cons_succ]
    refine ci_step (i := 10) (v := ?_) rfl (by kernel_rfl) ?_ ?_
    rotate_left
    · first | (go_simp; done) | (go_simp; with_reducible rfl)
    skip
    try simp only [Act.put, List.setIfInBounds_toArray, List.set_cons_zero, List.set_cons_succ]
    refine ci_end ?_
    rfl
  refine draw_done (by kernel_rfl) ?_ _
  clear c1 c3 mf0 mf1 mf2 mf3 m0 m1 m2 m3 es cl he1 he2 e1 e3 e5 e6 hMB
  have y1 := kbn5.frozen 0
  have c2 := ((kbs.other (a := ⟨V.heap.size, 0, none⟩) (kbs.ne kbn5 (by decide)) (.int .i64 0)).alloc (.cells #[.int .u32 0, .int .i64 0, .int .u32 0] 27)).cell 0
  simp only [List.getElem?_toArray, List.getElem?_cons_zero, List.getElem?_cons_succ] at c2
  go_wp2_with (go_at_call 74; refine (state_Floors s _).mono ?_; rintro e w1 ⟨rfl, rfl⟩)
  have hk6 : Kept [V.heap.size] V5 (((V5.setCell ⟨V.heap.size, 0, none⟩ (.int .i64 0)).alloc (.cells #[.int .u32 0, .int .i64 0, .int .u32 0] 27)).alloc (.cells #[.pointer (some ⟨s, 0, none⟩)] 33)).drew := kept_drew (kept_alloc (kept_alloc (kept_set (Kept.refl _ _) _ _ (.inl (by simp))) _) _)
  have kbn6 := (((kbn5.set 0 (.int .i64 0)).alloc (.cells #[.int .u32 0, .int .i64 0, .int .u32 0] 27)).alloc (.cells #[.pointer (some ⟨s, 0, none⟩)] 33)).drew
  simp only [List.setIfInBounds_toArray, List.set_cons_zero] at kbn6
  have kbl6 := ((Blk.new (V5.setCell ⟨V.heap.size, 0, none⟩ (.int .i64 0)) 27 #[.int .u32 0, .int .i64 0, .int .u32 0]).alloc (.cells #[.pointer (some ⟨s, 0, none⟩)] 33)).drew
  have kbx6 := (Blk.new ((V5.setCell ⟨V.heap.size, 0, none⟩ (.int .i64 0)).alloc (.cells #[.int .u32 0, .int .i64 0, .int .u32 0] 27)) 33 #[.pointer (some ⟨s, 0, none⟩)]).drew
  have hsz5 : (V5.setCell ⟨V.heap.size, 0, none⟩ (.int .i64 0)).heap.size = V5.heap.size := by simp [World.setCell]
  simp only [World.size_alloc, hsz5] at kbl6 kbx6
  have hb6 := hk6.below hb5 hb5.size (by simp; omega)
  have oo : ∀ {k t cs}, Blk V5 k t cs → t ≠ 3 → k ∉ [V.heap.size] := fun h ht => by simpa using h.ne kbn5 ht
  replace kbo5 := hk6.blk kbo5 (oo kbo5 (by decide))
  replace kbm := hk6.blk kbm (oo kbm (by decide))
  replace kbs := hk6.blk kbs (oo kbs (by decide))
  replace hM := hM.kept hk6 (oo hM.1 (by decide)) (by simpa using hM.2.1.ne kbn5) (by simpa using hM.2.2.1.ne kbn5)
  replace hS := hS.kept hk6 (oo hS.1 (by decide)) (by simpa using hS.2.1.ne kbn5) (by simpa using hS.2.2.1.ne kbn5)
  have hge : w.heap.size ≤ V5.heap.size := hb5.size
  clear hk6 hb5 kbn5 c4 e4 y1 c2 oo hsz5
  generalize (((V5.setCell ⟨V.heap.size, 0, none⟩ (.int .i64 0)).alloc (.cells #[.int .u32 0, .int .i64 0, .int .u32 0] 27)).alloc (.cells #[.pointer (some ⟨s, 0, none⟩)] 33)).drew = V6 at *
  refine (floors1 σ τ q2 m h1 h2 s g1 g2 _ _ _ _ _ _ V6 hM hS kbm kbs kbx6 kbo5 kbn6 kbl6 hn2 hN2).mono ?_
  rintro e V7 ⟨rfl, kbo7, kbn7, hk7⟩
  obtain ⟨oM1, oM2, oM3⟩ := hM.off kbo5 kbn6 kbl6 (by decide) (by decide) (by decide)
  have om := three_off kbm kbo5 kbn6 kbl6 (by decide) (by decide) (by decide)
  replace hM := hM.kept hk7 oM1 oM2 oM3
  replace kbm := hk7.blk kbm om
  have hb7 : Below w.heap.size w V7 := hk7.below hb6 hb6.size (by simp; omega)
  clear hk7 hb6 kbo5 kbn6 kbl6 kbx6 oM1 oM2 oM3 om hS kbs
  have hMB := hM.1
  have c1 := kbm.cell 0
  have c3 := kbo7.cell 0
  have c4 := kbn7.cell 0
  simp only [List.getElem?_toArray, List.getElem?_cons_zero, List.getElem?_cons_succ] at c1 c3 c4
  have m0 := hMB.cell 0
  have m1 := hMB.cell 1
  have m2 := hMB.cell 2
  have m3 := hMB.cell 3
  have mf0 := hMB.frozen 0
  have mf1 := hMB.frozen 1
  have mf2 := hMB.frozen 2
  have mf3 := hMB.frozen 3
  simp only [List.getElem?_toArray, List.getElem?_cons_zero, List.getElem?_cons_succ] at m0 m1 m2 m3
  have e1 := kbm.lt
  have e3 := kbo7.lt
  have e4 := kbn7.lt
  have e5 := hMB.lt
  have e6 := hM.2.2.1.lt
  go_wp2_with fail
  refine draw_start [] Later (by kernel_rfl) ?_
  refine draw_chunk (n := 56) (by kernel_rfl) (fun _ _ _ _ _ h => h) [0, 1, 2, 3, 4, 5, 6, 7, 8, 9, 10] [] _ #[true, true, true, true, true, true, true, true, true, true, true] (by kernel_rfl) 0 _ ?_ _ rfl ?_ ?_
  rotate_left
  · intro w' hw'
    have hc' : ∀ b o, b < V7.heap.size → w'.cell? ⟨b, o, none⟩ = V7.cell? ⟨b, o, none⟩ := (bcell hw').1
    have hln := (hM.2.2.1.same ((undrew hw').block h2 e6)).len Try.underlying43 3
    refine ci_step (i := 0) (v := ?_) rfl (by kernel_rfl) ?_ ?_
    rotate_left
    · first | (go_simp; done) | (go_simp; with_reducible rfl)
    skip
    try simp only [Act.put, List.setIfInBounds_toArray, List.set_cons_zero, List.set_cons_succ]
    refine ci_step (i := 1) (v := ?_) rfl (by kernel_rfl) ?_ ?_
    rotate_left
    · first | (go_simp; done) | (go_simp; with_reducible rfl)
    skip
    try simp only [Act.put, List.setIfInBounds_toArray, List.set_cons_zero, List.set_cons_succ]
    refine ci_step (i := 2) (v := ?_) rfl (by kernel_rfl) ?_ ?_
    rotate_left
    · first | (go_simp; done) | (go_simp; with_reducible rfl)
    skip
    try simp only [Act.put, List.setIfInBounds_toArray, List.set_cons_zero, List.set_cons_succ]
    refine ci_step (i := 3) (v := ?_) rfl (by kernel_rfl) ?_ ?_
    rotate_left
    · first | (go_simp; done) | (go_simp; with_reducible rfl)
    skip
    try simp only [Act.put, List.setIfInBounds_toArray, List.set_cons_zero, List.set_cons_succ]
    refine ci_step (i := 4) (v := ?_) rfl (by kernel_rfl) ?_ ?_
    rotate_left
    · first | (go_simp; done) | (go_simp; with_reducible rfl)
    skip
    try simp only [Act.put, List.setIfInBounds_toArray, List.set_cons_zero, List.set_cons_succ]
    refine ci_step (i := 5) (v := ?_) rfl (by kernel_rfl) ?_ ?_
    rotate_left
    · first | (go_simp; done) | (go_simp; with_reducible rfl)
    skip
    try simp only [Act.put, List.setIfInBounds_toArray, List.set_cons_zero, List.set_cons_succ]
    refine ci_step (i := 6) (v := ?_) rfl (by kernel_rfl) ?_ ?_
    rotate_left
    · first | (go_simp; done) | (go_simp; with_reducible rfl)
    skip
    try simp only [Act.put, List.setIfInBounds_toArray, List.set_cons_zero, List.set_cons_succ]
    refine ci_step (i := 7) (v := ?_) rfl (by kernel_rfl) ?_ ?_
    rotate_left
    · first | (go_simp; done) | (go_simp; with_reducible rfl)
    skip
    try simp only [Act.put, List.setIfInBounds_toArray, List.set_cons_zero, List.set_cons_succ]
    refine ci_step (i := 8) (v := ?_) rfl (by kernel_rfl) ?_ ?_
    rotate_left
    · first | (go_simp; done) | (go_simp; with_reducible rfl)
    skip
    try simp only [Act.put, List.setIfInBounds_toArray, List.set_cons_zero, List.set_cons_succ]
    refine ci_step (i := 9) (v := ?_) rfl (by kernel_rfl) ?_ ?_
    rotate_left
    · first | (go_simp; done) | (go_simp; with_reducible rfl)
    skip
    try simp only [Act.put, List.setIfInBounds_toArray, List.set_cons_zero, List.set_cons_succ]
    refine ci_step (i := 10) (v := ?_) rfl (by kernel_rfl) ?_ ?_
    rotate_left
    · first | (go_simp; done) | (go_simp; with_reducible rfl)
    skip
    try simp only [Act.put, List.setIfInBounds_toArray, List.set_cons_zero, List.set_cons_succ]
    refine ci_end ?_
    rfl
  refine draw_done (by kernel_rfl) ?_ _
  go_wp2
  go_ret
  exact ⟨rfl, Below.drew hb7⟩
theorem model_Shows (σ : St) (m h1 h2 s g1 g2 : Nat) (w : World) (hM : StAt 45 w m h1 h2 σ) (hS : StAt 121 w s g1 g2 σ)
    (hn1 : (σ.own.map (·.1)).Nodup) (hN1 : σ.own.length < 1000000) (hn2 : (σ.fl.map (·.1)).Nodup) (hN2 : σ.fl.length < 1000000) :
    Calls Try.prog 39 #[.pointer (some ⟨m, 0, none⟩), .pointer (some ⟨s, 0, none⟩)] w fun e w' => e = .returned (.bool true) ∧ Below w.heap.size w w' :=
  model_Shows2 σ σ rfl rfl (fun _ => rfl) (fun _ => rfl) rfl rfl m h1 h2 s g1 g2 w hM hS hn1 hN1 hn2 hN2
end Go.Proofs.Ytnfaeafplaeehaa
