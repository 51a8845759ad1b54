import Derived.Test.YtnfaeafplaeehaaRKey
set_option linter.unusedVariables false
set_option linter.unusedSimpArgs false
namespace Go.Proofs.Ytnfaeafplaeehaa
open Go.RowKit
/-! The table of routes: made, set, counted. -/
theorem rkey_eq (n : Nat) (p q : RKey) (w : World) : (Op.equalIn (n + 3) 140 p.val q.val).run Try.prog w = .ok (decide (p = q)) w := by
  obtain ⟨a, l, i⟩ := p
  obtain ⟨b, m, j⟩ := q
  have hf := fieldsOf_eq Try.underlying140
  have hp := pfx_eq n ⟨a, l⟩ ⟨b, m⟩ w
  unfold Pfx.val at hp
  dsimp only at hp
  unfold RKey.val
  rw [show n + 3 = (n + 2) + 1 from rfl, run_equalIn_agg w (n + 2) _ _ _ (by rw [hf]; exact Try.underlying140) (by kernel_rfl), hf]
  by_cases h1 : (⟨a, l⟩ : Pfx) = ⟨b, m⟩
  · rw [decide_eq_true h1] at hp
    simp at h1
    by_cases h2 : i = j
    · simp [Op.eqFields, go_sem, hp, h1, h2]
    · have h2' : (i == j) = false := by simpa using h2
      simp [Op.eqFields, go_sem, hp, h1, h2, h2']
  · rw [decide_eq_false h1] at hp
    simp at h1
    have h3 : decide ((⟨a, l, i⟩ : RKey) = ⟨b, m, j⟩) = false := decide_eq_false (fun e => by injection e with e1 e2; exact h1 e1 e2)
    rw [h3]
    simp [Op.eqFields, go_sem, hp]
    exact fun e1 e2 => absurd e2 (h1 e1)
theorem rkey_check (n : Nat) (p : RKey) (em : Bool) (w : World) : (Instr.checkKey em (n + 3) 140 p.val).run Try.prog w = .ok () w := by
  simp [Instr.checkKey, RKey.val, go_sem]
theorem rkey_same (n : Nat) (p : RKey) : Instr.sameBits (n + 2) p.val p.val = true := by simp [Instr.sameBits, RKey.val]
theorem rkey_keys : Keys Try.prog 140 RKey.val := Keys.of_struct Try.underlying140 (fun a b w => rkey_eq 9997 a b w) (fun k em w => rkey_check 9997 k em w) fun k => rkey_same 9998 k
def TbAt (w : World) (t g : Nat) (m : List (RKey × Rt)) : Prop := Blk w t 138 #[.map (some g)] ∧ MapAt w g RKey.val Rt.val m ∧ t ≠ g
theorem TbAt.below {w w' : World} {t g : Nat} {m : List (RKey × Rt)} (h : TbAt w t g m) (hb : Below w.heap.size w w') : TbAt w' t g m := ⟨h.1.below' hb, h.2.1.below hb, h.2.2⟩
theorem table_New (w : World) : Calls Try.prog 31 #[] w fun e w' => Below w.heap.size w w' ∧ ∃ t g, e = .returned (.pointer (some ⟨t, 0, none⟩)) ∧ TbAt w' t g [] ∧ w.heap.size ≤ t ∧ w.heap.size ≤ g := by
  go_enter Try.func31, Try.ntmps31
  go_wp2
  go_ret
  refine ⟨((Below.refl _ _).alloc (Nat.le_refl _) _).alloc (by simp) _, w.heap.size + 1, w.heap.size, rfl, ⟨?_, (MapAt.new _ _ _).alloc _, by omega⟩, by omega, by omega⟩
  simpa using Blk.new (w.alloc (.map #[] 0)) 138 #[.map (some w.heap.size)]
theorem table_Set (m : List (RKey × Rt)) (a l : Int) (r : Rt) (t g : Nat) (w : World) (h : TbAt w t g m) :
    Calls Try.prog 32 #[.pointer (some ⟨t, 0, none⟩), .agg #[.int .u32 a, .int .i64 l], r.val] w fun e w' => e = .returned (.tuple #[]) ∧ TbAt w' t g (updM m ⟨a, l, r.n⟩ r) ∧ Kept [g] w w' := by
  obtain ⟨hB, hm, htg⟩ := h
  obtain ⟨rn, ri, rs, rm, rx⟩ := r
  simp only [Rt.val]
  have kB := (hB.alloc (.cells #[.int .u32 a, .int .i64 l] 25)).alloc (.cells #[.int .i64 rn, .int .u32 ri, .int .u32 rs, .int .u16 rm, .int .i64 rx] 68)
  have kM := (hm.alloc (.cells #[.int .u32 a, .int .i64 l] 25)).alloc (.cells #[.int .i64 rn, .int .u32 ri, .int .u32 rs, .int .u16 rm, .int .i64 rx] 68)
  have kP := (Blk.new w 25 #[.int .u32 a, .int .i64 l]).alloc (.cells #[.int .i64 rn, .int .u32 ri, .int .u32 rs, .int .u16 rm, .int .i64 rx] 68)
  have kR := Blk.new (w.alloc (.cells #[.int .u32 a, .int .i64 l] 25)) 68 #[.int .i64 rn, .int .u32 ri, .int .u32 rs, .int .u16 rm, .int .i64 rx]
  have kK : Kept [g] w ((w.alloc (.cells #[.int .u32 a, .int .i64 l] 25)).alloc (.cells #[.int .i64 rn, .int .u32 ri, .int .u32 rs, .int .u16 rm, .int .i64 rx] 68)) := kept_alloc (kept_alloc (Kept.refl _ _) _) _
  simp only [World.size_alloc] at kR
  go_enter Try.func32, Try.ntmps32
  go_wp2_with fail
  generalize (w.alloc (.cells #[.int .u32 a, .int .i64 l] 25)).alloc (.cells #[.int .i64 rn, .int .u32 ri, .int .u32 rs, .int .u16 rm, .int .i64 rx] 68) = W at *
  obtain ⟨w1, hrun, hM, hK1⟩ := run_mapUpdate rkey_keys Try.underlying136 kM.drew ⟨a, l, rn⟩ ⟨rn, ri, rs, rm, rx⟩
  simp only [RKey.val, Rt.val] at hrun
  have e1 := kB.lt
  have e2 := kP.lt
  have e3 := kR.lt
  have b0 := kB.cell 0
  have r0 := kR.cell 0
  have r1 := kR.cell 1
  have r2 := kR.cell 2
  have r3 := kR.cell 3
  have r4 := kR.cell 4
  simp only [List.getElem?_toArray, List.getElem?_cons_zero, List.getElem?_cons_succ] at b0 r0 r1 r2 r3 r4
  have p0 := kP.cell 0
  have p1 := kP.cell 1
  simp only [List.getElem?_toArray, List.getElem?_cons_zero, List.getElem?_cons_succ] at p0 p1
  refine draw_start [9] Later (by kernel_rfl) ?_
  refine draw_chunk (n := 15) (by kernel_rfl) (fun _ _ _ _ _ h => h) [0, 1, 2, 3, 4, 5, 6, 7, 8] [] _ #[true, true, true, true, true, true, true, true, true, false] (by kernel_rfl) 1 _ ?_ _ rfl ?_ ?_
  rotate_left
  · intro w' hw'
    have hc' : ∀ b o, b < W.heap.size → w'.cell? ⟨b, o, none⟩ = W.cell? ⟨b, o, none⟩ := (bcell hw').1
    refine ci_step (i := 0) (v := ?_) rfl (by kernel_rfl) ?_ ?_
    rotate_left
    · first | (go_simp; done) | (go_simp; with_reducible rfl)
    skip
    try simp only [Act.put, List.setIfInBounds_toArray, List.set_cons_zero, List.set_cons_succ]
    refine ci_step (i := 1) (v := ?_) rfl (by kernel_rfl) ?_ ?_
    rotate_left
    · first | (go_simp; done) | (go_simp; with_reducible rfl)
    skip
    try simp only [Act.put, List.setIfInBounds_toArray, List.set_cons_zero, List.set_cons_succ]
    refine ci_step (i := 2) (v := ?_) rfl (by kernel_rfl) ?_ ?_
    rotate_left
    · first | (go_simp; done) | (go_simp; with_reducible rfl)
    skip
    try simp only [Act.put, List.setIfInBounds_toArray, List.set_cons_zero, List.set_cons_succ]
    refine ci_step (i := 3) (v := ?_) rfl (by kernel_rfl) ?_ ?_
    rotate_left
    · first | (go_simp; done) | (go_simp; with_reducible rfl)
    skip
    try simp only [Act.put, List.setIfInBounds_toArray, List.set_cons_zero, List.set_cons_succ]
    refine ci_step (i := 4) (v := ?_) rfl (by kernel_rfl) ?_ ?_
    rotate_left
    · first | (go_simp; done) | (go_simp; with_reducible rfl)
    skip
    try simp only [Act.put, List.setIfInBounds_toArray, List.set_cons_zero, List.set_cons_succ]
    refine ci_step (i := 5) (v := ?_) rfl (by kernel_rfl) ?_ ?_
    rotate_left
    · first | (go_simp; done) | (go_simp; with_reducible rfl)
    skip
    try simp only [Act.put, List.setIfInBounds_toArray, List.set_cons_zero, List.set_cons_succ]
    refine ci_step (i := 6) (v := ?_) rfl (by kernel_rfl) ?_ ?_
    rotate_left
    · first | (go_simp; done) | (go_simp; with_reducible rfl)
    skip
    try simp only [Act.put, List.setIfInBounds_toArray, List.set_cons_zero, List.set_cons_succ]
    refine ci_step (i := 7) (v := ?_) rfl (by kernel_rfl) ?_ ?_
    rotate_left
    · first | (go_simp; done) | (go_simp; with_reducible rfl)
    skip
    try simp only [Act.put, List.setIfInBounds_toArray, List.set_cons_zero, List.set_cons_succ]
    refine ci_step (i := 8) (v := ?_) rfl (by kernel_rfl) ?_ ?_
    rotate_left
    · first | (go_simp; done) | (go_simp; with_reducible rfl)
    skip
    try simp only [Act.put, List.setIfInBounds_toArray, List.set_cons_zero, List.set_cons_succ]
    refine ci_end ?_
    rfl
  refine draw_eff (i := 9) rfl (by kernel_rfl) (listed' := #[true, true, true, true, true, true, true, true, true, true]) rfl (fun K hK => ?_)
  replace hK := Lib.hid hK
  go_wp2_with fail
  refine hK.out _ _ ⟨fun h => absurd (by decide) h, ?_⟩
  clear hK
  refine draw_done (by kernel_rfl) ?_ _
  go_wp2
  refine bodyPost_end (results_none rfl _ _ _) rfl ⟨rfl, ⟨hK1.blk kB.drew (by simpa using htg), hM, htg⟩, (kept_drew kK).trans hK1⟩
theorem table_Len (m : List (RKey × Rt)) (t g : Nat) (w : World) (h : TbAt w t g m) : Calls Try.prog 44 #[.pointer (some ⟨t, 0, none⟩)] w fun e w' => e = .returned (.int .i64 m.length) ∧ w' = w := by
  obtain ⟨hB, hm, htg⟩ := h
  obtain ⟨es, c, h1, h2, _⟩ := hm
  have h3 : es.size = m.length := by have := congrArg List.length h2; simpa using this
  have hl : (Builtin.len_ #[136] 3 #[.map (some g)]).run Try.prog w = .ok (.int .i64 m.length) w := by
    simp [Builtin.len_, run_underlying Try.underlying136, getObj, Sem.run, h1, h3, goInt]
  have b0 := hB.cell 0
  simp only [List.getElem?_toArray, List.getElem?_cons_zero] at b0
  clear h1 h2 h3
  go_enter Try.func44, Try.ntmps44
  go_wp2
  go_ret
  exact ⟨rfl, rfl⟩
end Go.Proofs.Ytnfaeafplaeehaa
