import Derived.Test.YtnfaeafplaeehaaDelF
set_option linter.unusedVariables false
set_option linter.unusedSimpArgs false
namespace Go.Proofs.Ytnfaeafplaeehaa
open Go.RowKit
/-! The table's ways: read, dropped one by one, dropped by a rule. -/
def rt0 : Rt := ⟨0, 0, 0, 0, 0⟩
def getR (m : List (RKey × Rt)) (k : RKey) : Rt × Bool := match getM m k with | some r => (r, true) | none => (rt0, false)
theorem rt_zero (w : World) : (zeroValue 68).run Try.prog w = .ok rt0.val w := by
  kernel_rfl
theorem below_ad (W : World) (o : Obj) : Below W.heap.size W.drew (W.alloc o).drew := (Below.refl W.heap.size W.drew).alloc (Nat.le_refl _) o
theorem below_aa (W : World) (o o' : Obj) : Below W.heap.size (W.alloc o).drew (W.alloc o').drew := ⟨rfl, rfl, rfl, by simp, fun k hk => by
  show (W.alloc o').heap[k]? = (W.alloc o).heap[k]?
  rw [Below.heap_alloc W o' k hk, Below.heap_alloc W o k hk]⟩
theorem table_Get (m : List (RKey × Rt)) (a l i : Int) (t g : Nat) (w : World) (h : TbAt w t g m) :
    Calls Try.prog 45 #[.pointer (some ⟨t, 0, none⟩), .agg #[.int .u32 a, .int .i64 l], .int .i64 i] w fun e w' => e = .returned (.tuple #[(getR m ⟨a, l, i⟩).1.val, .bool (getR m ⟨a, l, i⟩).2]) ∧ Below w.heap.size w w' := by
  obtain ⟨hB, hm, htg⟩ := h
  have kB := (hB.alloc (.cells #[.int .u32 a, .int .i64 l] 25)).alloc (.cells #[.int .i64 0, .int .u32 0, .int .u32 0, .int .u16 0, .int .i64 0] 68)
  have kM := (hm.alloc (.cells #[.int .u32 a, .int .i64 l] 25)).alloc (.cells #[.int .i64 0, .int .u32 0, .int .u32 0, .int .u16 0, .int .i64 0] 68)
  have kP := (Blk.new w 25 #[.int .u32 a, .int .i64 l]).alloc (.cells #[.int .i64 0, .int .u32 0, .int .u32 0, .int .u16 0, .int .i64 0] 68)
  have hb0 := ((Below.refl w.heap.size w).alloc (Nat.le_refl _) (.cells #[.int .u32 a, .int .i64 l] 25)).alloc (by simp) (.cells #[.int .i64 0, .int .u32 0, .int .u32 0, .int .u16 0, .int .i64 0] 68)
  have hlook : ∀ W, MapAt W g RKey.val Rt.val m → (Instr.lookup 136 (.map (some g)) (.agg #[.int .u32 a, .int .i64 l, .int .i64 i]) true).run Try.prog W = .ok (.tuple #[(getR m ⟨a, l, i⟩).1.val, .bool (getR m ⟨a, l, i⟩).2]) W := fun W hW => by
    unfold getR
    cases hg : getM m ⟨a, l, i⟩ with
    | some r => exact run_lookup_some rkey_keys Try.underlying136 hW ⟨a, l, i⟩ r hg true
    | none => exact run_lookup_none rkey_keys Try.underlying136 hW ⟨a, l, i⟩ hg true rt0.val rt_zero
  generalize getR m ⟨a, l, i⟩ = q at *
  obtain ⟨⟨rn, ri, rs, rm, rx⟩, ok⟩ := q
  simp only [Rt.val] at hlook ⊢
  go_enter Try.func45, Try.ntmps45
  go_wp2_with fail
  have kR := Blk.new (w.alloc (.cells #[.int .u32 a, .int .i64 l] 25)) 68 #[.int .i64 0, .int .u32 0, .int .u32 0, .int .u16 0, .int .i64 0]
  simp only [World.size_alloc] at kR
  have hW2 : ((w.alloc (.cells #[.int .u32 a, .int .i64 l] 25)).alloc (.cells #[.int .i64 0, .int .u32 0, .int .u32 0, .int .u16 0, .int .i64 0] 68)).heap.size = w.heap.size + 2 := by simp
  replace hW2 := Lib.hid hW2
  generalize (w.alloc (.cells #[.int .u32 a, .int .i64 l] 25)).alloc (.cells #[.int .i64 0, .int .u32 0, .int .u32 0, .int .u16 0, .int .i64 0] 68) = W at *
  have e1 := kB.lt
  have e2 := kP.lt
  have e3 := kR.lt
  have b0 := kB.cell 0
  simp only [List.getElem?_toArray, List.getElem?_cons_zero] at b0
  have p0 := kP.cell 0
  have p1 := kP.cell 1
  simp only [List.getElem?_toArray, List.getElem?_cons_zero, List.getElem?_cons_succ] at p0 p1
  refine draw_start [] (Below (W.heap.size)) (by kernel_rfl) ?_
  refine draw_chunk (n := 23) (by kernel_rfl) (fun _ _ _ _ _ h => h) [0, 1, 2, 3, 4, 5, 6, 7, 8, 9, 10] [] _ #[true, true, true, true, true, true, true, true, true, true, true, false, false, false] (by kernel_rfl) 3 _ ?_ _ rfl ?_ ?_
  rotate_left
  · intro w' hw'
    have hc' : ∀ b o, b < (W.heap.size) → w'.cell? ⟨b, o, none⟩ = W.cell? ⟨b, o, none⟩ := fun b o h => hw'.cell (p := ⟨b, o, none⟩) h
    have hlk := hlook w' (kM.same (hw'.block g kM.lt))
    refine ci_step (i := 0) (v := ?_) rfl (by kernel_rfl) ?_ ?_
    rotate_left
    · first | (go_simp; done) | (go_simp; with_reducible rfl)
    skip
    try simp only [Act.put, List.setIfInBounds_toArray, List.set_cons_zero, List.set_cons_succ]
    refine ci_step (i := 1) (v := ?_) rfl (by kernel_rfl) ?_ ?_
    rotate_left
    · first | (go_simp; done) | (go_simp; with_reducible rfl)
    skip
    try simp only [Act.put, List.setIfInBounds_toArray, List.set_cons_zero, List.set_cons_succ]
    refine ci_step (i := 2) (v := ?_) rfl (by kernel_rfl) ?_ ?_
    rotate_left
    · first | (go_simp; done) | (go_simp; with_reducible rfl)
    skip
    try simp only [Act.put, List.setIfInBounds_toArray, List.set_cons_zero, List.set_cons_succ]
    refine ci_step (i := 3) (v := ?_) rfl (by kernel_rfl) ?_ ?_
    rotate_left
    · first | (go_simp; done) | (go_simp; with_reducible rfl)
    skip
    try simp only [Act.put, List.setIfInBounds_toArray, List.set_cons_zero, List.set_cons_succ]
    refine ci_step (i := 4) (v := ?_) rfl (by kernel_rfl) ?_ ?_
    rotate_left
    · first | (go_simp; done) | (go_simp; with_reducible rfl)
    skip
    try simp only [Act.put, List.setIfInBounds_toArray, List.set_cons_zero, List.set_cons_succ]
    refine ci_step (i := 5) (v := ?_) rfl (by kernel_rfl) ?_ ?_
    rotate_left
    · first | (go_simp; done) | (go_simp; with_reducible rfl)
    skip
    try simp only [Act.put, List.setIfInBounds_toArray, List.set_cons_zero, List.set_cons_succ]
    refine ci_step (i := 6) (v := ?_) rfl (by kernel_rfl) ?_ ?_
    rotate_left
    · first | (go_simp; done) | (go_simp; with_reducible rfl)
    skip
    try simp only [Act.put, List.setIfInBounds_toArray, List.set_cons_zero, List.set_cons_succ]
    refine ci_step (i := 7) (v := ?_) rfl (by kernel_rfl) ?_ ?_
    rotate_left
    · first | (go_simp; done) | (go_simp; with_reducible rfl)
    skip
    try simp only [Act.put, List.setIfInBounds_toArray, List.set_cons_zero, List.set_cons_succ]
    refine ci_step (i := 8) (v := ?_) rfl (by kernel_rfl) ?_ ?_
    rotate_left
    · first | (go_simp; done) | (go_simp; with_reducible rfl)
    skip
    try simp only [Act.put, List.setIfInBounds_toArray, List.set_cons_zero, List.set_cons_succ]
    refine ci_step (i := 9) (v := ?_) rfl (by kernel_rfl) ?_ ?_
    rotate_left
    · first | (go_simp; done) | (go_simp; with_reducible rfl)
    skip
    try simp only [Act.put, List.setIfInBounds_toArray, List.set_cons_zero, List.set_cons_succ]
    refine ci_step (i := 10) (v := ?_) rfl (by kernel_rfl) ?_ ?_
    rotate_left
    · first | (go_simp; done) | (go_simp; with_reducible rfl)
    skip
    try simp only [Act.put, List.setIfInBounds_toArray, List.set_cons_zero, List.set_cons_succ]
    refine ci_end ?_
    rfl
  refine draw_eff (i := 11) rfl (by kernel_rfl) (listed' := #[true, true, true, true, true, true, true, true, true, true, true, true, false, false]) rfl (fun K hK => ?_)
  replace hK := Lib.hid hK
  go_wp2_with fail
  refine hK.out _ _ ⟨fun _ => below_ad _ _, ?_⟩
  clear hK
  refine draw_eff (i := 12) rfl (by kernel_rfl) (listed' := #[true, true, true, true, true, true, true, true, true, true, true, true, true, false]) rfl (fun K hK => ?_)
  replace hK := Lib.hid hK
  go_wp2_with fail
  refine hK.out _ _ ⟨fun _ => below_aa _ _ _, ?_⟩
  clear hK
  refine draw_chunk (n := 23) (by kernel_rfl) (fun _ _ _ _ _ h => h) [13] [] _ #[true, true, true, true, true, true, true, true, true, true, true, true, true, true] (by kernel_rfl) 0 _ ?_ _ rfl ?_ ?_
  rotate_left
  · intro w' hw'
    have hc' : ∀ b o, b < (W.heap.size) → w'.cell? ⟨b, o, none⟩ = (_ : World).cell? ⟨b, o, none⟩ := fun b o h => hw'.cell (p := ⟨b, o, none⟩) h
    refine ci_step (i := 13) (v := ?_) rfl (by kernel_rfl) ?_ ?_
    rotate_left
    · first | (go_simp; done) | (go_simp; with_reducible rfl)
    skip
    try simp only [Act.put, List.setIfInBounds_toArray, List.set_cons_zero, List.set_cons_succ]
    refine ci_end ?_
    rfl
  refine draw_done (by kernel_rfl) ?_ _
  have kN := Blk.new W 68 #[.int .i64 rn, .int .u32 ri, .int .u32 rs, .int .u16 rm, .int .i64 rx]
  have kR2 := kR.alloc (.cells #[.int .i64 rn, .int .u32 ri, .int .u32 rs, .int .u16 rm, .int .i64 rx] 68)
  have hbW := hb0.trans (((Below.refl W.heap.size W).alloc (Nat.le_refl _) (.cells #[.int .i64 rn, .int .u32 ri, .int .u32 rs, .int .u16 rm, .int .i64 rx] 68)).mono hb0.size)
  clear kM kP kB kR hlook b0 p0 p1
  generalize W.alloc (.cells #[.int .i64 rn, .int .u32 ri, .int .u32 rs, .int .u16 rm, .int .i64 rx] 68) = V at *
  generalize W.heap.size = q at *
  replace kN := kN.drew
  replace kR2 := kR2.drew
  replace hbW := Below.drew hbW
  generalize V.drew = U at *
  have e4 := kN.lt
  have e5 := kR2.lt
  have n0 := kN.cell 0
  have n1 := kN.cell 1
  have n2 := kN.cell 2
  have n3 := kN.cell 3
  have n4 := kN.cell 4
  have r0 := kR2.cell 0
  have r1 := kR2.cell 1
  have r2 := kR2.cell 2
  have r3 := kR2.cell 3
  have r4 := kR2.cell 4
  have rf0 := kR2.frozen 0
  have rf1 := kR2.frozen 1
  have rf2 := kR2.frozen 2
  have rf3 := kR2.frozen 3
  have rf4 := kR2.frozen 4
  simp only [List.getElem?_toArray, List.getElem?_cons_zero, List.getElem?_cons_succ] at n0 n1 n2 n3 n4 r0 r1 r2 r3 r4
  go_wp2
  refine bodyPost_ret (v := .tuple #[.agg #[.int .i64 rn, .int .u32 ri, .int .u32 rs, .int .u16 rm, .int .i64 rx], .bool ok]) ?_ rfl ⟨rfl, ((((hbW.setCell (by simp) _).setCell (by simp) _).setCell (by simp) _).setCell (by simp) _).setCell (by simp) _⟩
  simp [results, Try.results45, go_sem, r0, r1, r2, r3, r4, e5]
theorem table_Drop (m : List (RKey × Rt)) (a l i : Int) (t g : Nat) (w : World) (h : TbAt w t g m) :
    Calls Try.prog 41 #[.pointer (some ⟨t, 0, none⟩), .agg #[.int .u32 a, .int .i64 l], .int .i64 i] w fun e w' => e = .returned (.bool (getR m ⟨a, l, i⟩).2) ∧ TbAt w' t g (delM m ⟨a, l, i⟩) ∧ Kept [g] w w' := by
  obtain ⟨hB, hm, htg⟩ := h
  have kB := hB.alloc (.cells #[.int .u32 a, .int .i64 l] 25)
  have kM := hm.alloc (.cells #[.int .u32 a, .int .i64 l] 25)
  have kP := Blk.new w 25 #[.int .u32 a, .int .i64 l]
  have hb0 := kept_alloc (Kept.refl [g] w) (.cells #[.int .u32 a, .int .i64 l] 25)
  have hlook : ∀ W, MapAt W g RKey.val Rt.val m → (Instr.lookup 136 (.map (some g)) (.agg #[.int .u32 a, .int .i64 l, .int .i64 i]) true).run Try.prog W = .ok (.tuple #[(getR m ⟨a, l, i⟩).1.val, .bool (getR m ⟨a, l, i⟩).2]) W := fun W hW => by
    unfold getR
    cases hg : getM m ⟨a, l, i⟩ with
    | some r => exact run_lookup_some rkey_keys Try.underlying136 hW ⟨a, l, i⟩ r hg true
    | none => exact run_lookup_none rkey_keys Try.underlying136 hW ⟨a, l, i⟩ hg true rt0.val rt_zero
  generalize getR m ⟨a, l, i⟩ = q at *
  obtain ⟨⟨rn, ri, rs, rm, rx⟩, ok⟩ := q
  simp only [Rt.val] at hlook ⊢
  go_enter Try.func41, Try.ntmps41
  go_wp2_with fail
  generalize w.alloc (.cells #[.int .u32 a, .int .i64 l] 25) = W at *
  have e1 := kB.lt
  have e2 := kP.lt
  have b0 := kB.cell 0
  simp only [List.getElem?_toArray, List.getElem?_cons_zero] at b0
  have p0 := kP.cell 0
  have p1 := kP.cell 1
  simp only [List.getElem?_toArray, List.getElem?_cons_zero, List.getElem?_cons_succ] at p0 p1
  refine draw_start [] (Below (W.heap.size)) (by kernel_rfl) ?_
  refine draw_chunk (n := 28) (by kernel_rfl) (fun _ _ _ _ _ h => h) [0, 1, 2, 3, 4, 5, 6, 7, 8, 9, 10] [] _ #[true, true, true, true, true, true, true, true, true, true, true, false, false, false] (by kernel_rfl) 3 _ ?_ _ rfl ?_ ?_
  rotate_left
  · intro w' hw'
    have hc' : ∀ b o, b < (W.heap.size) → w'.cell? ⟨b, o, none⟩ = W.cell? ⟨b, o, none⟩ := fun b o h => hw'.cell (p := ⟨b, o, none⟩) h
    have hlk := hlook w' (kM.same (hw'.block g kM.lt))
    refine ci_step (i := 0) (v := ?_) rfl (by kernel_rfl) ?_ ?_
    rotate_left
    · first | (go_simp; done) | (go_simp; with_reducible rfl)
    skip
    try simp only [Act.put, List.setIfInBounds_toArray, List.set_cons_zero, List.set_cons_succ]
    refine ci_step (i := 1) (v := ?_) rfl (by kernel_rfl) ?_ ?_
    rotate_left
    · first | (go_simp; done) | (go_simp; with_reducible rfl)
    skip
    try simp only [Act.put, List.setIfInBounds_toArray, List.set_cons_zero, List.set_cons_succ]
    refine ci_step (i := 2) (v := ?_) rfl (by kernel_rfl) ?_ ?_
    rotate_left
    · first | (go_simp; done) | (go_simp; with_reducible rfl)
    skip
    try simp only [Act.put, List.setIfInBounds_toArray, List.set_cons_zero, List.set_cons_succ]
    refine ci_step (i := 3) (v := ?_) rfl (by kernel_rfl) ?_ ?_
    rotate_left
    · first | (go_simp; done) | (go_simp; with_reducible rfl)
    skip
    try simp only [Act.put, List.setIfInBounds_toArray, List.set_cons_zero, List.set_cons_succ]
    refine ci_step (i := 4) (v := ?_) rfl (by kernel_rfl) ?_ ?_
    rotate_left
    · first | (go_simp; done) | (go_simp; with_reducible rfl)
    skip
    try simp only [Act.put, List.setIfInBounds_toArray, List.set_cons_zero, List.set_cons_succ]
    refine ci_step (i := 5) (v := ?_) rfl (by kernel_rfl) ?_ ?_
    rotate_left
    · first | (go_simp; done) | (go_simp; with_reducible rfl)
    skip
    try simp only [Act.put, List.setIfInBounds_toArray, List.set_cons_zero, List.set_cons_succ]
    refine ci_step (i := 6) (v := ?_) rfl (by kernel_rfl) ?_ ?_
    rotate_left
    · first | (go_simp; done) | (go_simp; with_reducible rfl)
    skip
    try simp only [Act.put, List.setIfInBounds_toArray, List.set_cons_zero, List.set_cons_succ]
    refine ci_step (i := 7) (v := ?_) rfl (by kernel_rfl) ?_ ?_
    rotate_left
    · first | (go_simp; done) | (go_simp; with_reducible rfl)
    skip
    try simp only [Act.put, List.setIfInBounds_toArray, List.set_cons_zero, List.set_cons_succ]
    refine ci_step (i := 8) (v := ?_) rfl (by kernel_rfl) ?_ ?_
    rotate_left
    · first | (go_simp; done) | (go_simp; with_reducible rfl)
    skip
    try simp only [Act.put, List.setIfInBounds_toArray, List.set_cons_zero, List.set_cons_succ]
    refine ci_step (i := 9) (v := ?_) rfl (by kernel_rfl) ?_ ?_
    rotate_left
    · first | (go_simp; done) | (go_simp; with_reducible rfl)
    skip
    try simp only [Act.put, List.setIfInBounds_toArray, List.set_cons_zero, List.set_cons_succ]
    refine ci_step (i := 10) (v := ?_) rfl (by kernel_rfl) ?_ ?_
    rotate_left
    · first | (go_simp; done) | (go_simp; with_reducible rfl)
    skip
    try simp only [Act.put, List.setIfInBounds_toArray, List.set_cons_zero, List.set_cons_succ]
    refine ci_end ?_
    rfl
  refine draw_eff (i := 11) rfl (by kernel_rfl) (listed' := #[true, true, true, true, true, true, true, true, true, true, true, true, false, false]) rfl (fun K hK => ?_)
  replace hK := Lib.hid hK
  go_wp2_with fail
  refine hK.out _ _ ⟨fun _ => below_ad _ _, ?_⟩
  clear hK
  refine draw_eff (i := 12) rfl (by kernel_rfl) (listed' := #[true, true, true, true, true, true, true, true, true, true, true, true, true, false]) rfl (fun K hK => ?_)
  replace hK := Lib.hid hK
  go_wp2_with fail
  refine hK.out _ _ ⟨fun _ => below_aa _ _ _, ?_⟩
  clear hK
  refine draw_chunk (n := 28) (by kernel_rfl) (fun _ _ _ _ _ h => h) [13] [] _ #[true, true, true, true, true, true, true, true, true, true, true, true, true, true] (by kernel_rfl) 0 _ ?_ _ rfl ?_ ?_
  rotate_left
  · intro w' hw'
    have hc' : ∀ b o, b < (W.heap.size) → w'.cell? ⟨b, o, none⟩ = (_ : World).cell? ⟨b, o, none⟩ := fun b o h => hw'.cell (p := ⟨b, o, none⟩) h
    refine ci_step (i := 13) (v := ?_) rfl (by kernel_rfl) ?_ ?_
    rotate_left
    · first | (go_simp; done) | (go_simp; with_reducible rfl)
    skip
    try simp only [Act.put, List.setIfInBounds_toArray, List.set_cons_zero, List.set_cons_succ]
    refine ci_end ?_
    rfl
  refine draw_done (by kernel_rfl) ?_ _
  replace kB := (kB.alloc (.cells #[.int .i64 rn, .int .u32 ri, .int .u32 rs, .int .u16 rm, .int .i64 rx] 68)).drew
  replace kM := (kM.alloc (.cells #[.int .i64 rn, .int .u32 ri, .int .u32 rs, .int .u16 rm, .int .i64 rx] 68)).drew
  replace kP := (kP.alloc (.cells #[.int .i64 rn, .int .u32 ri, .int .u32 rs, .int .u16 rm, .int .i64 rx] 68)).drew
  replace hb0 := kept_drew (kept_alloc hb0 (.cells #[.int .i64 rn, .int .u32 ri, .int .u32 rs, .int .u16 rm, .int .i64 rx] 68))
  clear hlook b0 p0 p1 e1 e2
  generalize (W.alloc (.cells #[.int .i64 rn, .int .u32 ri, .int .u32 rs, .int .u16 rm, .int .i64 rx] 68)).drew = U at *
  obtain ⟨w1, hrun, hM, hK1⟩ := run_delete rkey_keys Try.underlying136 kM.drew ⟨a, l, i⟩ 140 0
  simp only [RKey.val] at hrun
  have e1 := kB.lt
  have e2 := kP.lt
  have b0 := kB.cell 0
  simp only [List.getElem?_toArray, List.getElem?_cons_zero] at b0
  have p0 := kP.cell 0
  have p1 := kP.cell 1
  simp only [List.getElem?_toArray, List.getElem?_cons_zero, List.getElem?_cons_succ] at p0 p1
  go_wp2_with fail
  refine draw_start [7] Later (by kernel_rfl) ?_
  refine draw_chunk (n := 28) (by kernel_rfl) (fun _ _ _ _ _ h => h) [0, 1, 2, 3, 4, 5, 6] [] _ #[true, true, true, true, true, true, true, false] (by kernel_rfl) 1 _ ?_ _ rfl ?_ ?_
  rotate_left
  · intro w' hw'
    have hc' : ∀ b o, b < U.heap.size → w'.cell? ⟨b, o, none⟩ = U.cell? ⟨b, o, none⟩ := (bcell hw').1
    refine ci_step (i := 0) (v := ?_) rfl (by kernel_rfl) ?_ ?_
    rotate_left
    · first | (go_simp; done) | (go_simp; with_reducible rfl)
    skip
    try simp only [Act.put, List.setIfInBounds_toArray, List.set_cons_zero, List.set_cons_succ]
    refine ci_step (i := 1) (v := ?_) rfl (by kernel_rfl) ?_ ?_
    rotate_left
    · first | (go_simp; done) | (go_simp; with_reducible rfl)
    skip
    try simp only [Act.put, List.setIfInBounds_toArray, List.set_cons_zero, List.set_cons_succ]
    refine ci_step (i := 2) (v := ?_) rfl (by kernel_rfl) ?_ ?_
    rotate_left
    · first | (go_simp; done) | (go_simp; with_reducible rfl)
    skip
    try simp only [Act.put, List.setIfInBounds_toArray, List.set_cons_zero, List.set_cons_succ]
    refine ci_step (i := 3) (v := ?_) rfl (by kernel_rfl) ?_ ?_
    rotate_left
    · first | (go_simp; done) | (go_simp; with_reducible rfl)
    skip
    try simp only [Act.put, List.setIfInBounds_toArray, List.set_cons_zero, List.set_cons_succ]
    refine ci_step (i := 4) (v := ?_) rfl (by kernel_rfl) ?_ ?_
    rotate_left
    · first | (go_simp; done) | (go_simp; with_reducible rfl)
    skip
    try simp only [Act.put, List.setIfInBounds_toArray, List.set_cons_zero, List.set_cons_succ]
    refine ci_step (i := 5) (v := ?_) rfl (by kernel_rfl) ?_ ?_
    rotate_left
    · first | (go_simp; done) | (go_simp; with_reducible rfl)
    skip
    try simp only [Act.put, List.setIfInBounds_toArray, List.set_cons_zero, List.set_cons_succ]
    refine ci_step (i := 6) (v := ?_) rfl (by kernel_rfl) ?_ ?_
    rotate_left
    · first | (go_simp; done) | (go_simp; with_reducible rfl)
    skip
    try simp only [Act.put, List.setIfInBounds_toArray, List.set_cons_zero, List.set_cons_succ]
    refine ci_end ?_
    rfl
  refine draw_eff (i := 7) rfl (by kernel_rfl) (listed' := #[true, true, true, true, true, true, true, true]) rfl (fun K hK => ?_)
  replace hK := Lib.hid hK
  go_wp2_with fail
  refine hK.out _ _ ⟨fun h => absurd (by decide) h, ?_⟩
  clear hK
  refine draw_done (by kernel_rfl) ?_ _
  go_wp2
  go_ret
  exact ⟨rfl, ⟨hK1.blk kB.drew (by simpa using htg), hM, htg⟩, (kept_drew hb0).trans hK1⟩
theorem dropAll_fn (bx : Nat) (n : Int) (k : RKey) (r : Rt) (W : World) (hc : W.cell? ⟨bx, 0, none⟩ = some (.int .i64 n)) :
    Calls Try.prog 77 (#[k.val, r.val] ++ #[.pointer (some ⟨bx, 0, none⟩)]) W fun e W' => e = .returned (.bool (k.n == n)) ∧ Below W.heap.size W W' := by
  obtain ⟨xa, xl, xn⟩ := k
  obtain ⟨rn, ri, rs, rm, rx⟩ := r
  simp only [RKey.val, Rt.val]
  have hl := World.block_lt_of_cell? _ _ hc
  go_enter Try.func77, Try.ntmps77
  go_wp2
  go_ret
  exact ⟨rfl, ((Below.refl _ _).alloc (Nat.le_refl _) _).alloc (by simp) _⟩
theorem expire_fn (bx : Nat) (n : Int) (k : RKey) (r : Rt) (W : World) (hc : W.cell? ⟨bx, 0, none⟩ = some (.int .i64 n)) :
    Calls Try.prog 78 (#[k.val, r.val] ++ #[.pointer (some ⟨bx, 0, none⟩)]) W fun e W' => e = .returned (.bool (decide (r.x ≤ n))) ∧ Below W.heap.size W W' := by
  obtain ⟨xa, xl, xn⟩ := k
  obtain ⟨rn, ri, rs, rm, rx⟩ := r
  simp only [RKey.val, Rt.val]
  have hl := World.block_lt_of_cell? _ _ hc
  go_enter Try.func78, Try.ntmps78
  go_wp2
  go_ret
  exact ⟨rfl, ((Below.refl _ _).alloc (Nat.le_refl _) _).alloc (by simp) _⟩
theorem table_DropAll (m : List (RKey × Rt)) (n : Int) (t g : Nat) (w : World) (h : TbAt w t g m) (hnd : (m.map (·.1)).Nodup) :
    Calls Try.prog 42 #[.pointer (some ⟨t, 0, none⟩), .int .i64 n] w fun e w' => e = .returned (.tuple #[]) ∧ TbAt w' t g (m.filter fun x => !((fun x : RKey × Rt => x.1.n == n) x)) ∧ Kept [g] w w' := by
  obtain ⟨hB, hm, htg⟩ := h
  have eC : ∀ args w, (callFunc 77 args).run Try.prog w = .ok (.enter 77 args) w := enters_of Try.func77 (by kernel_rfl) rfl
  have hg1 := hm.lt
  have hd := deleteFunc 77 #[.pointer (some ⟨w.heap.size, 0, none⟩)] eC (fun x : RKey × Rt => x.1.n == n) g m (w.alloc (.cells #[.int .i64 n] 3)) (hm.alloc _) hnd w.heap.size (.int .i64 n) (by simp) (by omega) (fun k r W hc => dropAll_fn _ n k r W hc)
  have kB := hB.alloc (.cells #[.int .i64 n] 3)
  have hk := kept_alloc (Kept.refl [g] w) (.cells #[.int .i64 n] 3)
  have b0 := hB.cell 0
  simp only [List.getElem?_toArray, List.getElem?_cons_zero] at b0
  have b1 := hB.lt
  go_enter Try.func42, Try.ntmps42
  go_wp2_with fail
  refine hd.mono ?_
  rintro e w1 ⟨rfl, hM, hK1⟩
  go_wp2
  refine bodyPost_end (results_none rfl _ _ _) rfl ⟨rfl, ⟨hK1.blk kB (by simpa using htg), hM, htg⟩, hk.trans hK1⟩
theorem table_Expire (m : List (RKey × Rt)) (n : Int) (t g : Nat) (w : World) (h : TbAt w t g m) (hnd : (m.map (·.1)).Nodup) :
    Calls Try.prog 43 #[.pointer (some ⟨t, 0, none⟩), .int .i64 n] w fun e w' => e = .returned (.tuple #[]) ∧ TbAt w' t g (m.filter fun x => !((fun x : RKey × Rt => decide (x.2.x ≤ n)) x)) ∧ Kept [g] w w' := by
  obtain ⟨hB, hm, htg⟩ := h
  have eC : ∀ args w, (callFunc 78 args).run Try.prog w = .ok (.enter 78 args) w := enters_of Try.func78 (by kernel_rfl) rfl
  have hg1 := hm.lt
  have hd := deleteFunc 78 #[.pointer (some ⟨w.heap.size, 0, none⟩)] eC (fun x : RKey × Rt => decide (x.2.x ≤ n)) g m (w.alloc (.cells #[.int .i64 n] 2)) (hm.alloc _) hnd w.heap.size (.int .i64 n) (by simp) (by omega) (fun k r W hc => expire_fn _ n k r W hc)
  have kB := hB.alloc (.cells #[.int .i64 n] 2)
  have hk := kept_alloc (Kept.refl [g] w) (.cells #[.int .i64 n] 2)
  have b0 := hB.cell 0
  simp only [List.getElem?_toArray, List.getElem?_cons_zero] at b0
  have b1 := hB.lt
  go_enter Try.func43, Try.ntmps43
  go_wp2_with fail
  refine hd.mono ?_
  rintro e w1 ⟨rfl, hM, hK1⟩
  go_wp2
  refine bodyPost_end (results_none rfl _ _ _) rfl ⟨rfl, ⟨hK1.blk kB (by simpa using htg), hM, htg⟩, hk.trans hK1⟩
end Go.Proofs.Ytnfaeafplaeehaa
