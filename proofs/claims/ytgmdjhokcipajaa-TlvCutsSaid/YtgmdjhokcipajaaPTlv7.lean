-- written by this session's turned copy of the kit's print.py; Lean checks it
import Derived.Test.YtgmdjhokcipajaaPTlv0
import Derived.Test.YtgmdjhokcipajaaPTlv4
import Derived.Test.YtgmdjhokcipajaaPTlv6
namespace Go.Proofs.YtgmdjhokcipajaaQ.PTlv
open Go.RowKit Go.Proofs.YtgmdjhokcipajaaW.PrintWords Go.Proofs.YtgmdjhokcipajaaW.PrintLast Go.Proofs.YtgmdjhokcipajaaW.PrintMore
attribute [local go_sem] max2_int min2_int max_two min_two max_three min_three max_four min_four   -- for this text's walks alone
set_option linter.unusedVariables false
set_option linter.unusedSimpArgs false

/-! ### wayfarerlaw08_head: function 34 -/
-- EXT wayfarer/wayfarerlaw08.head | making=1 | rounds=0
def wayfarerlaw08_head.f : Option Bool := some true
def wayfarerlaw08_head.pg : List Int := [87, 1, 0, 16, 2, 4, 0, 0, 0, 9, 3, 8, 8, 0, 0, 0, 3, 0, 2, 10]
theorem wayfarerlaw08_head.enc : tlv_Encode.f 12 [⟨⟨167772160, 8⟩, 9, ⟨3, 2⟩⟩] = some [wayfarerlaw08_head.pg] := by kernel_rfl
theorem wayfarerlaw08_head.dec : tlv_Decode.f 40 wayfarerlaw08_head.pg = some ([⟨⟨167772160, 8⟩, 9, ⟨3, 2⟩⟩], true) := by kernel_rfl
open Go.Proofs.Ytgmdjhokcipajaa (draw_start draw_chunk draw_eff draw_done ci_step ci_call ci_off ci_end Later bcell below_dd below_two undrew)
set_option maxHeartbeats 2000000 in
theorem wayfarerlaw08_head.calls (r : Bool) (w : World) (h : wayfarerlaw08_head.f = some r) : Calls Try.prog 34 #[] w fun e w' => e = .returned (.bool r) ∧ Below w.heap.size w w' := by
  obtain rfl := Option.some.inj h
  clear h
  go_enter Try.func34, Try.ntmps34
  have kB := Ytgmdjhokcipajaa.Blk.new w 62 #[.int .u32 167772160, .int .i64 8, .int .u32 9, .int .u32 3, .int .u16 2]
  have kC := Ytgmdjhokcipajaa.Blk.new (w.alloc (.cells #[.int .u32 167772160, .int .i64 8, .int .u32 9, .int .u32 3, .int .u16 2] 62)) 62 #[.int .u32 167772160, .int .i64 8, .int .u32 9, .int .u32 3, .int .u16 2]
  have hb := ((Below.refl w.heap.size w).alloc (Nat.le_refl _) (.cells #[.int .u32 167772160, .int .i64 8, .int .u32 9, .int .u32 3, .int .u16 2] 62)).alloc (by simp) (.cells #[.int .u32 167772160, .int .i64 8, .int .u32 9, .int .u32 3, .int .u16 2] 62)
  replace kB := kB.alloc (.cells #[.int .u32 167772160, .int .i64 8, .int .u32 9, .int .u32 3, .int .u16 2] 62)
  simp only [World.size_alloc] at kC
  go_wp2_with fail
  generalize (w.alloc (.cells #[.int .u32 167772160, .int .i64 8, .int .u32 9, .int .u32 3, .int .u16 2] 62)).alloc (.cells #[.int .u32 167772160, .int .i64 8, .int .u32 9, .int .u32 3, .int .u16 2] 62) = W at *
  have hC : Kd.C k62 W (some ⟨w.heap.size + 1, 0, none⟩) 1 [⟨⟨167772160, 8⟩, 9, ⟨3, 2⟩⟩] := by
    refine ⟨rfl, by decide, fun _ => ⟨_, rfl, fun j p hj => ?_⟩⟩
    have hj0 : j = 0 := by
      cases j with
      | zero => rfl
      | succ j => simp at hj
    subst hj0
    have hp : p = ⟨⟨167772160, 8⟩, 9, ⟨3, 2⟩⟩ := by simpa using hj.symm
    subst hp
    refine ⟨_, rfl, k62_mk W _, fun i u hu => ?_⟩
    have e1 : (⟨w.heap.size + 1, 0, none⟩ : Addr).add (0 * k62.sz + i) = ⟨w.heap.size + 1, i, none⟩ := by rw [Nat.zero_mul, Nat.zero_add, add_plain]
    rw [e1, kC.cell i]
    simpa using hu
  refine (tlv_Encode.calls 12 _ 1 _ _ W hC (Nat.le_refl _) wayfarerlaw08_head.enc).mono ?_
  rintro e w1 ⟨v0, rfl, hS, hb1⟩
  replace kB := kB.below' hb1
  replace hb := below_step hb hb1
  clear hC kC hb1
  obtain ⟨g, cap, rfl, -⟩ := Kd.S_form hS (by decide)
  obtain ⟨oki, c, hcl, ⟨v1, rfl, hR1⟩, hcc, -⟩ := Kd.S_elem hS [] 0 (by decide) (by decide)
  obtain ⟨g1, cap1, rfl, -⟩ := Kd.R_form hR1 (by decide)
  have hx : w1.cell? ⟨g, 0, none⟩ = some (.slice (some ⟨g1, 0, none⟩) 20 cap1) := hcc 0 _ rfl
  obtain ⟨-, hcap, hC1⟩ := Kd.R_reads' hR1
  have hconv := Ytgmdjhokcipajaa.conv_C hC1 cap1
  have hst : strOfNums wayfarerlaw08_head.pg = ⟨#[87, 1, 0, 16, 2, 4, 0, 0, 0, 9, 3, 8, 8, 0, 0, 0, 3, 0, 2, 10]⟩ := by decide +kernel
  change (convert _ _ (.slice (some ⟨g1, 0, none⟩) 20 cap1)).run _ _ = .ok (.string (strOfNums wayfarerlaw08_head.pg)) _ at hconv
  rw [hst] at hconv
  have hV := Ytgmdjhokcipajaa.V_of_C hC1 5 w1.heap.size cap1 hcap
  clear hst hS hR1 hcc hcl
  have HV := Aside0.mk hV
  clear hV hC1
  go_wp2_with fail
  refine (tlv_Decode.calls 40 (fun _ => True) _ _ _ _ _ _ HV.out wayfarerlaw08_head.dec).mono ?_
  rintro e w2 ⟨v2, rfl, hR2, hb2⟩
  replace kB := kB.below' hb2
  replace hb := below_step hb hb2
  clear HV hb2 hx hconv
  obtain ⟨g2, cap2, rfl, -⟩ := Kd.R_form hR2 (by decide)
  obtain ⟨-, -, hC2⟩ := Kd.R_reads' hR2
  obtain ⟨ad, e, x0, x1, x2, x3, x4⟩ := at_T62 hC2 0 (by decide) (by decide)
  cases e
  replace x0 : w2.cell? ⟨g2, 0, none⟩ = some (.int .u32 167772160) := x0
  replace x1 : w2.cell? ⟨g2, 1, none⟩ = some (.int .i64 8) := x1
  replace x2 : w2.cell? ⟨g2, 2, none⟩ = some (.int .u32 9) := x2
  replace x3 : w2.cell? ⟨g2, 3, none⟩ = some (.int .u32 3) := x3
  replace x4 : w2.cell? ⟨g2, 4, none⟩ = some (.int .u16 2) := x4
  have hl2 := World.block_lt_of_cell? _ _ x0
  have hlB := kB.lt
  have z0 := kB.cell 0
  have z1 := kB.cell 1
  have z2 := kB.cell 2
  have z3 := kB.cell 3
  have z4 := kB.cell 4
  simp only [List.getElem?_toArray, List.getElem?_cons_zero, List.getElem?_cons_succ] at z0 z1 z2 z3 z4
  clear hC2 hR2
  go_wp2_with fail
  refine draw_start [] Later (by kernel_rfl) ?_
  refine draw_chunk (n := 41) (by kernel_rfl) (fun _ _ _ _ _ h => h) [0, 1, 2, 3, 4, 5, 6, 7, 8, 9, 10, 11, 12, 13] [] _ #[true, true, true, true, true, true, true, true, true, true, true, true, true, true] (by kernel_rfl) 0 _ ?_ _ rfl ?_ ?_
  rotate_left
  · intro w' hw'
    have hc' : ∀ b o, b < w2.heap.size → w'.cell? ⟨b, o, none⟩ = w2.cell? ⟨b, o, none⟩ := (bcell hw').1
    refine ci_step (i := 0) (v := ?_) rfl (by kernel_rfl) ?_ ?_
    rotate_left
    · first | (go_simp; done) | (go_simp; with_reducible rfl)
    skip
    try simp only [Act.put, List.setIfInBounds_toArray, List.set_cons_zero, List.set_cons_succ]
    refine ci_step (i := 1) (v := ?_) rfl (by kernel_rfl) ?_ ?_
    rotate_left
    · first | (go_simp; done) | (go_simp; with_reducible rfl)
    skip
    try simp only [Act.put, List.setIfInBounds_toArray, List.set_cons_zero, List.set_cons_succ]
    refine ci_step (i := 2) (v := ?_) rfl (by kernel_rfl) ?_ ?_
    rotate_left
    · first | (go_simp; done) | (go_simp; with_reducible rfl)
    skip
    try simp only [Act.put, List.setIfInBounds_toArray, List.set_cons_zero, List.set_cons_succ]
    refine ci_step (i := 3) (v := ?_) rfl (by kernel_rfl) ?_ ?_
    rotate_left
    · first | (go_simp; done) | (go_simp; with_reducible rfl)
    skip
    try simp only [Act.put, List.setIfInBounds_toArray, List.set_cons_zero, List.set_cons_succ]
    refine ci_step (i := 4) (v := ?_) rfl (by kernel_rfl) ?_ ?_
    rotate_left
    · first | (go_simp; done) | (go_simp; with_reducible rfl)
    skip
    try simp only [Act.put, List.setIfInBounds_toArray, List.set_cons_zero, List.set_cons_succ]
    refine ci_step (i := 5) (v := ?_) rfl (by kernel_rfl) ?_ ?_
    rotate_left
    · first | (go_simp; done) | (go_simp; with_reducible rfl)
    skip
    try simp only [Act.put, List.setIfInBounds_toArray, List.set_cons_zero, List.set_cons_succ]
    refine ci_step (i := 6) (v := ?_) rfl (by kernel_rfl) ?_ ?_
    rotate_left
    · first | (go_simp; done) | (go_simp; with_reducible rfl)
    skip
    try simp only [Act.put, List.setIfInBounds_toArray, List.set_cons_zero, List.set_cons_succ]
    refine ci_step (i := 7) (v := ?_) rfl (by kernel_rfl) ?_ ?_
    rotate_left
    · first | (go_simp; done) | (go_simp; with_reducible rfl)
    skip
    try simp only [Act.put, List.setIfInBounds_toArray, List.set_cons_zero, List.set_cons_succ]
    refine ci_step (i := 8) (v := ?_) rfl (by kernel_rfl) ?_ ?_
    rotate_left
    · first | (go_simp; done) | (go_simp; with_reducible rfl)
    skip
    try simp only [Act.put, List.setIfInBounds_toArray, List.set_cons_zero, List.set_cons_succ]
    refine ci_step (i := 9) (v := ?_) rfl (by kernel_rfl) ?_ ?_
    rotate_left
    · first | (go_simp; done) | (go_simp; with_reducible rfl)
    skip
    try simp only [Act.put, List.setIfInBounds_toArray, List.set_cons_zero, List.set_cons_succ]
    refine ci_step (i := 10) (v := ?_) rfl (by kernel_rfl) ?_ ?_
    rotate_left
    · first | (go_simp; done) | (go_simp; with_reducible rfl)
    skip
    try simp only [Act.put, List.setIfInBounds_toArray, List.set_cons_zero, List.set_cons_succ]
    refine ci_step (i := 11) (v := ?_) rfl (by kernel_rfl) ?_ ?_
    rotate_left
    · first | (go_simp; done) | (go_simp; with_reducible rfl)
    skip
    try simp only [Act.put, List.setIfInBounds_toArray, List.set_cons_zero, List.set_cons_succ]
    refine ci_step (i := 12) (v := ?_) rfl (by kernel_rfl) ?_ ?_
    rotate_left
    · first | (go_simp; done) | (go_simp; with_reducible rfl)
    skip
    try simp only [Act.put, List.setIfInBounds_toArray, List.set_cons_zero, List.set_cons_succ]
    refine ci_step (i := 13) (v := ?_) rfl (by kernel_rfl) ?_ ?_
    rotate_left
    · first | (go_simp; done) | (go_simp; with_reducible rfl)
    skip
    try simp only [Act.put, List.setIfInBounds_toArray, List.set_cons_zero, List.set_cons_succ]
    refine ci_end ?_
    rfl
  refine draw_done (by kernel_rfl) ?_ _
  go_wp2
  go_ret
  exact ⟨rfl, below_drew hb⟩

/-! ### wayfarerlaw02_bit: function 59 -/
def wayfarerlaw02_bit.f (a0 : Int) (a1 : Int) : Option (Bool) := if 0 ≤ (IntKind.u64.wrap (wrap64 (31 - a1))) then (some ((Go.bits .and .u32 (shr .u32 a0 (IntKind.u64.wrap (wrap64 (31 - a1)))) 1) == 1)) else (none)
set_option maxHeartbeats 8000000 in
set_option maxRecDepth 100000 in
theorem wayfarerlaw02_bit.calls (a0 : Int) (a1 : Int) (r : Bool) (w : World) (h : wayfarerlaw02_bit.f a0 a1 = some r) :
    Calls Try.prog 59 #[.int .u32 a0, .int .i64 a1] w fun e w' => e = .returned (.bool r) ∧ Drawn0 w w' := by
  have H : (if 0 ≤ (IntKind.u64.wrap (wrap64 (31 - a1))) then (some ((Go.bits .and .u32 (shr .u32 a0 (IntKind.u64.wrap (wrap64 (31 - a1)))) 1) == 1)) else (none)) = some r := h
  clear h
  obtain ⟨ji3, hji3⟩ : ∃ j_ : Int, (IntKind.u64.wrap (wrap64 (31 - a1))) = j_ := ⟨_, rfl⟩
  replace H : (if 0 ≤ (ji3) then (some ((Go.bits .and .u32 (shr .u32 a0 (ji3)) 1) == 1)) else (none)) = some r := by first | (rw [hji3] at H; exact H) | (simp only [hji3] at H ⊢; exact H)
  by_cases c4 : 0 ≤ (ji3)
  case neg =>
    rw [if_neg c4] at H; exact absurd H (by simp)

  rw [if_pos c4] at H; have c4b0 := eq_true c4
  have c4b1 : decide (0 ≤ (ji3)) = true := decide_eq_true c4
  clear c4
  obtain ⟨ji5, hji5⟩ : ∃ j_ : Int, (shr .u32 a0 (ji3)) = j_ := ⟨_, rfl⟩
  replace H : (some ((Go.bits .and .u32 (ji5) 1) == 1)) = some r := by first | (rw [hji5] at H; exact H) | (simp only [hji5] at H ⊢; exact H)
  have hji5_ : (a0 / 2 ^ min (ji3).toNat 32) = ji5 := hji5
  have hji5z : (ji3) ≤ 32 → (a0 / 2 ^ (ji3).toNat) = ji5 := shr_small hji5
  obtain rfl := Option.some.inj H
  go_enter Try.func59, Try.ntmps59
  go_wp2
  go_ret
  exact ⟨by first | rfl | (simp; done) | (simp only [← hji3, ← hji5] <;> (first | rfl | simp)) | (simp [*]; done), by repeat (first | exact Drawn0.refl _ | apply Drawn0.step)⟩
/-! ### wayfarerlaw02_Right: function 51 -/
-- EXT wayfarer/wayfarerlaw02.Right | making=1 | rounds=0
def wayfarerlaw02_Right.f (a0_0 : Int) (a0_1 : Int) : Option (Bool) := if 0 ≤ a0_0 ∧ a0_0 ≤ 4294967295 then some (Ytgmdjhokcipajaa.rightB a0_0 a0_1) else none
theorem wayfarerlaw02_Right.calls (a0_0 : Int) (a0_1 : Int) (r : Bool) (w : World) (h : wayfarerlaw02_Right.f a0_0 a0_1 = some r) :
    Calls Try.prog 51 #[.agg #[.int .u32 a0_0, .int .i64 a0_1]] w fun e w' => e = .returned (.bool r) ∧ Below w.heap.size w w' := by
  unfold wayfarerlaw02_Right.f at h
  split at h
  · rename_i hc; cases h; exact Ytgmdjhokcipajaa.law02_Right _ _ w hc
  · cases h

/-! ### wayfarerlaw08_Right: function 36 -/
def wayfarerlaw08_Right.j0 : Nat → Bool → Int → Int → Int → Int → Int → Option (Bool)
  | 0, _, _, _, _, _, _ => none
  | k + 1, x12, x187000, x187001, x187002, x187003, x187004 => if x12 = true then (some false) else (if x187004 = 65535 then (if x187002 = 0 then (some (x187003 == 0)) else (some false)) else (some (x187002 != 0)))
def wayfarerlaw08_Right.f (k : Nat) (a0_0 : Int) (a0_1 : Int) (a0_2 : Int) (a0_3 : Int) (a0_4 : Int) : Option (Bool) := (wayfarerlaw02_Right.f a0_0 a0_1).bind fun t187 => (if t187 = true then (wayfarerlaw08_Right.j0 k (decide (a0_3 > 1073741824)) a0_0 a0_1 a0_2 a0_3 a0_4) else (wayfarerlaw08_Right.j0 k true a0_0 a0_1 a0_2 a0_3 a0_4))
theorem wayfarerlaw08_Right.mono_l : ∀ k, (∀ y0 y1 y2 y3 y4 y5, LeO (wayfarerlaw08_Right.j0 k y0 y1 y2 y3 y4 y5) (wayfarerlaw08_Right.j0 (k + 1) y0 y1 y2 y3 y4 y5))
  | 0 => fun _ _ _ _ _ _ r h => by simp [wayfarerlaw08_Right.j0] at h
  | k + 1 => by
    have ih0 := wayfarerlaw08_Right.mono_l k
    · intro y0 y1 y2 y3 y4 y5
      unfold wayfarerlaw08_Right.j0
      repeat' first
      | (with_reducible exact ih0 _ _ _ _ _ _)
      | (with_reducible exact LeO.refl _)
      | (with_reducible exact LeO.none _)
      | (with_reducible refine LeO.ite ?_ ?_)
      | (with_reducible refine LeO.bind ?_ (fun _ => ?_))
      | exact ih0 _ _ _ _ _ _
      | exact LeO.none _
      | refine LeO.ite ?_ ?_
      | refine LeO.bind ?_ (fun _ => ?_)
theorem wayfarerlaw08_Right.mono : ∀ a0 a1 a2 a3 a4 k, LeO (wayfarerlaw08_Right.f k a0 a1 a2 a3 a4) (wayfarerlaw08_Right.f (k + 1) a0 a1 a2 a3 a4) := by
  intro a0 a1 a2 a3 a4 k
  have ih0 := wayfarerlaw08_Right.mono_l k
  unfold wayfarerlaw08_Right.f
  repeat' first
      | (with_reducible exact ih0 _ _ _ _ _ _)
      | (with_reducible exact LeO.refl _)
      | (with_reducible exact LeO.none _)
      | (with_reducible refine LeO.ite ?_ ?_)
      | (with_reducible refine LeO.bind ?_ (fun _ => ?_))
      | exact ih0 _ _ _ _ _ _
      | exact LeO.none _
      | refine LeO.ite ?_ ?_
      | refine LeO.bind ?_ (fun _ => ?_)
set_option maxHeartbeats 8000000 in
set_option maxRecDepth 100000 in
theorem wayfarerlaw08_Right.calls (k : Nat) (a0_0 : Int) (a0_1 : Int) (a0_2 : Int) (a0_3 : Int) (a0_4 : Int) (r : Bool) (w : World) (h : wayfarerlaw08_Right.f k a0_0 a0_1 a0_2 a0_3 a0_4 = some r) :
    Calls Try.prog 36 #[.agg #[.int .u32 a0_0, .int .i64 a0_1, .int .u32 a0_2, .int .u32 a0_3, .int .u16 a0_4]] w fun e w' => e = .returned (.bool r) ∧ Below w.heap.size w w' := by
  have hu62 := Try.underlying62
  have hu29 := Try.underlying29
  have HB := Aside0.mk (Below.refl w.heap.size w)
  have H : ((wayfarerlaw02_Right.f a0_0 a0_1).bind fun t187 => (if t187 = true then (wayfarerlaw08_Right.j0 k (decide (a0_3 > 1073741824)) a0_0 a0_1 a0_2 a0_3 a0_4) else (wayfarerlaw08_Right.j0 k true a0_0 a0_1 a0_2 a0_3 a0_4))) = some r := h
  clear h
  have HC2 := Aside0.mk H
  clear H
  go_enter Try.func36, Try.ntmps36
  go_upto_region 1 with (first | ((with_reducible refine gate_dst (N := 1) rfl ?_); refine box_event ?hg (N := 1) ?hd (cs := #[.int .u32 a0_0, .int .i64 a0_1, .int .u32 a0_2, .int .u32 a0_3, .int .u16 a0_4]) (t := 62) ?hr ?_; (case hd => rfl); (case hg => rfl); (case hr => first | (go_simp; done) | (go_simp; rfl)); intro gb186 hg w3 hbox hb; have n0_ := Aside0.mk (below_step (by repeat (first | (with_reducible first | exact HB.out | apply below_alloc | apply pw_below_drewN | apply below_drew1) | exact HB.out)) hb); have n1_ := Aside0.mk (hbox); have n2_ := Aside0.mk ((by rw [hg]; exact (below_size (by repeat (first | (with_reducible first | exact HB.out | apply below_alloc | apply pw_below_drewN | apply below_drew1) | exact HB.out))) : w.heap.size ≤ gb186)); have n3_ := Aside0.mk ((by rw [hg]; exact (below_size (by repeat (first | (with_reducible first | exact HB.out | apply below_alloc | apply pw_below_drewN | apply below_drew1) | exact HB.out))) : w.heap.size ≤ gb186)); clear HB; have HB := n0_; have BK186 := n1_; have GW186 := n2_; have GE186 := n3_; clear n0_ n1_ n2_ n3_; clear hb hbox hg))
  (try simp only [Act.put, List.setIfInBounds_toArray, List.set_cons_zero, List.set_cons_succ])
  go_cut [12] (fun v12 wc => ∃ (kq : Nat) (x12_1 : Bool), v12 = .bool x12_1 ∧ Aside0 (wayfarerlaw08_Right.j0 kq x12_1 a0_0 a0_1 a0_2 a0_3 a0_4 = some r) ∧ Aside0 (kq ≤ k) ∧ Aside0 (wc.heap[gb186]? = some (.cells #[.int .u32 a0_0, .int .i64 a0_1, .int .u32 a0_2, .int .u32 a0_3, .int .u16 a0_4] 62 (0, 0))) ∧ Aside0 (Below w.heap.size w wc))
  case first =>
    have H := HC2.out
    clear HC2
    replace H := Option.bind_eq_some_iff.mp H
    obtain ⟨t187, A40, H⟩ := H
    replace H : (if t187 = true then (wayfarerlaw08_Right.j0 k (decide (a0_3 > 1073741824)) a0_0 a0_1 a0_2 a0_3 a0_4) else (wayfarerlaw08_Right.j0 k true a0_0 a0_1 a0_2 a0_3 a0_4)) = some r := H
    have A4 := Aside0.mk A40
    clear A40
    by_cases c5 : t187 = true
    case pos =>
      subst c5
      have H1 : (wayfarerlaw08_Right.j0 k (decide (a0_3 > 1073741824)) a0_0 a0_1 a0_2 a0_3 a0_4) = some r := by rw [if_pos rfl] at H; exact H
      clear H
      have H := H1
      clear H1
      have H' := Aside0.mk H
      clear H
      have hcz6_0 : w3.cell? ⟨gb186, 0, none⟩ = some (.int .u32 a0_0) := (blk_cell BK186.out 0).trans rfl
      have hcz6_1 : w3.cell? ⟨gb186, 1, none⟩ = some (.int .i64 a0_1) := (blk_cell BK186.out 1).trans rfl
      have hcz6_2 : w3.cell? ⟨gb186, 2, none⟩ = some (.int .u32 a0_2) := (blk_cell BK186.out 2).trans rfl
      have hcz6_3 : w3.cell? ⟨gb186, 3, none⟩ = some (.int .u32 a0_3) := (blk_cell BK186.out 3).trans rfl
      have hcz6_4 : w3.cell? ⟨gb186, 4, none⟩ = some (.int .u16 a0_4) := (blk_cell BK186.out 4).trans rfl
      have hfz6_0 := blk_frozen BK186.out 0
      have hfz6_1 := blk_frozen BK186.out 1
      have hfz6_2 := blk_frozen BK186.out 2
      have hfz6_3 := blk_frozen BK186.out 3
      have hfz6_4 := blk_frozen BK186.out 4
      go_wp2_with (first | ((with_reducible refine gate_callee (f := 51) rfl ?_); refine goesL_ (some 5) rfl rfl Try.func51 (by kernel_rfl) rfl #[.agg #[.int .u32 a0_0, .int .i64 a0_1]] rfl (by (try simp only [List.map_toArray, List.map_cons, List.map_nil]); first | done | rfl | (simp only [List.length_drop, List.length_take]; rfl)) ?_; (with_reducible refine (wayfarerlaw02_Right.calls a0_0 a0_1 true _ A4.out).mono ?_); rintro e w7 ⟨rfl, hb⟩; refine ⟨_, rfl, ?_⟩; have n0_ := Aside0.mk (blk_below (g := gb186) (o := .cells #[.int .u32 a0_0, .int .i64 a0_1, .int .u32 a0_2, .int .u32 a0_3, .int .u16 a0_4] 62 (0, 0)) (by (with_reducible repeat (first | refine blk_drewN ?_ _ | refine blk_drew ?_ | refine blk_alloc ?_ _)); exact BK186.out) hb); have n1_ := Aside0.mk (below_step (by repeat (first | (with_reducible first | exact HB.out | apply below_alloc | apply pw_below_drewN | apply below_drew1 | refine below_set ?_ GE186.out) | exact HB.out)) hb); clear BK186; clear HB; have BK186 := n0_; have HB := n1_; clear n0_ n1_; (try clear hb); (try clear hb2); (try clear hk); (try clear hi); have hcz8_0 : w7.cell? ⟨gb186, 0, none⟩ = some (.int .u32 a0_0) := (blk_cell BK186.out 0).trans rfl; have hcz8_1 : w7.cell? ⟨gb186, 1, none⟩ = some (.int .i64 a0_1) := (blk_cell BK186.out 1).trans rfl; have hcz8_2 : w7.cell? ⟨gb186, 2, none⟩ = some (.int .u32 a0_2) := (blk_cell BK186.out 2).trans rfl; have hcz8_3 : w7.cell? ⟨gb186, 3, none⟩ = some (.int .u32 a0_3) := (blk_cell BK186.out 3).trans rfl; have hcz8_4 : w7.cell? ⟨gb186, 4, none⟩ = some (.int .u16 a0_4) := (blk_cell BK186.out 4).trans rfl; have hfz8_0 := blk_frozen BK186.out 0; have hfz8_1 := blk_frozen BK186.out 1; have hfz8_2 := blk_frozen BK186.out 2; have hfz8_3 := blk_frozen BK186.out 3; have hfz8_4 := blk_frozen BK186.out 4))
      go_meet
      case rel => exact ⟨_, (decide (a0_3 > 1073741824)), (by first | rfl | (simp; done) | (simp [*]; done)), H', ⟨by first | omega | exact Nat.le_refl _⟩, ⟨by (with_reducible repeat (first | refine blk_drewN ?_ _ | refine blk_drew ?_ | refine blk_alloc ?_ _)); exact BK186.out⟩, ⟨by repeat (first | (with_reducible first | exact HB.out | apply below_alloc | apply pw_below_drewN | apply below_drew1 | refine below_set ?_ GE186.out) | exact HB.out)⟩⟩
    replace c5 := Bool.eq_false_iff.mpr c5
    subst c5
    have H1 : (wayfarerlaw08_Right.j0 k true a0_0 a0_1 a0_2 a0_3 a0_4) = some r := by rw [if_neg (show ¬ (false = true) by decide)] at H; exact H
    clear H
    have H := H1
    clear H1
    have H' := Aside0.mk H
    clear H
    have hcz9_0 : w3.cell? ⟨gb186, 0, none⟩ = some (.int .u32 a0_0) := (blk_cell BK186.out 0).trans rfl
    have hcz9_1 : w3.cell? ⟨gb186, 1, none⟩ = some (.int .i64 a0_1) := (blk_cell BK186.out 1).trans rfl
    have hcz9_2 : w3.cell? ⟨gb186, 2, none⟩ = some (.int .u32 a0_2) := (blk_cell BK186.out 2).trans rfl
    have hcz9_3 : w3.cell? ⟨gb186, 3, none⟩ = some (.int .u32 a0_3) := (blk_cell BK186.out 3).trans rfl
    have hcz9_4 : w3.cell? ⟨gb186, 4, none⟩ = some (.int .u16 a0_4) := (blk_cell BK186.out 4).trans rfl
    have hfz9_0 := blk_frozen BK186.out 0
    have hfz9_1 := blk_frozen BK186.out 1
    have hfz9_2 := blk_frozen BK186.out 2
    have hfz9_3 := blk_frozen BK186.out 3
    have hfz9_4 := blk_frozen BK186.out 4
    go_wp2_with (first | ((with_reducible refine gate_callee (f := 51) rfl ?_); refine goesL_ (some 5) rfl rfl Try.func51 (by kernel_rfl) rfl #[.agg #[.int .u32 a0_0, .int .i64 a0_1]] rfl (by (try simp only [List.map_toArray, List.map_cons, List.map_nil]); first | done | rfl | (simp only [List.length_drop, List.length_take]; rfl)) ?_; (with_reducible refine (wayfarerlaw02_Right.calls a0_0 a0_1 false _ A4.out).mono ?_); rintro e w10 ⟨rfl, hb⟩; refine ⟨_, rfl, ?_⟩; have n0_ := Aside0.mk (blk_below (g := gb186) (o := .cells #[.int .u32 a0_0, .int .i64 a0_1, .int .u32 a0_2, .int .u32 a0_3, .int .u16 a0_4] 62 (0, 0)) (by (with_reducible repeat (first | refine blk_drewN ?_ _ | refine blk_drew ?_ | refine blk_alloc ?_ _)); exact BK186.out) hb); have n1_ := Aside0.mk (below_step (by repeat (first | (with_reducible first | exact HB.out | apply below_alloc | apply pw_below_drewN | apply below_drew1 | refine below_set ?_ GE186.out) | exact HB.out)) hb); clear BK186; clear HB; have BK186 := n0_; have HB := n1_; clear n0_ n1_; (try clear hb); (try clear hb2); (try clear hk); (try clear hi)))
    go_meet
    case rel => exact ⟨_, (true), (by first | rfl | (simp; done) | (simp [*]; done)), H', ⟨by first | omega | exact Nat.le_refl _⟩, ⟨by (with_reducible repeat (first | refine blk_drewN ?_ _ | refine blk_drew ?_ | refine blk_alloc ?_ _)); exact BK186.out⟩, ⟨by repeat (first | (with_reducible first | exact HB.out | apply below_alloc | apply pw_below_drewN | apply below_drew1 | refine below_set ?_ GE186.out) | exact HB.out)⟩⟩
  case rest =>
    clear HC2
    try clear p2; try clear c3; try clear c5; try clear hcz6_0; try clear hcz6_1; try clear hcz6_2; try clear hcz6_3; try clear hcz6_4; try clear hcz8_0; try clear hcz8_1; try clear hcz8_2; try clear hcz8_3; try clear hcz8_4; try clear hcz9_0; try clear hcz9_1; try clear hcz9_2; try clear hcz9_3; try clear hcz9_4; try clear hfz6_0; try clear hfz6_1; try clear hfz6_2; try clear hfz6_3; try clear hfz6_4
    try clear hfz8_0; try clear hfz8_1; try clear hfz8_2; try clear hfz8_3; try clear hfz8_4; try clear hfz9_0; try clear hfz9_1; try clear hfz9_2; try clear hfz9_3; try clear hfz9_4
    obtain ⟨kq, x12_1, rfl, HA, HJ1, BK186, HB⟩ := hcut
    cases kq with
    | zero => exact absurd HA.out (by simp [wayfarerlaw08_Right.j0])
    | succ kj1 =>
      have H := HA.out
      clear HA
      simp only [wayfarerlaw08_Right.j0] at H
      by_cases c11 : x12_1 = true
      case pos =>
        subst c11
        have H1 : (some false) = some r := by rw [if_pos rfl] at H; exact H
        clear H
        have H := H1
        clear H1
        obtain rfl := Option.some.inj H
        go_wp2
        go_ret
        exact ⟨by first | rfl | (simp [errW_none, errW_some] <;> rfl) | (simp [*, errW_none, errW_some] <;> rfl), by repeat (first | (with_reducible first | exact HB.out | apply below_alloc | apply pw_below_drewN | apply below_drew1 | refine below_set ?_ GE186.out) | exact HB.out)⟩
      replace c11 := Bool.eq_false_iff.mpr c11
      subst c11
      have H1 : (if a0_4 = 65535 then (if a0_2 = 0 then (some (a0_3 == 0)) else (some false)) else (some (a0_2 != 0))) = some r := by rw [if_neg (show ¬ (false = true) by decide)] at H; exact H
      clear H
      have H := H1
      clear H1
      by_cases c12 : a0_4 = 65535
      case neg =>
        rw [if_neg c12] at H; have c12b0 : (a0_4 == 65535) = false := beq_eq_false_iff_ne.mpr c12
        have c12b1 : (a0_4 != 65535) = true := bne_iff_ne.mpr c12
        obtain rfl := Option.some.inj H
        have hcz16_0 : wc.cell? ⟨gb186, 0, none⟩ = some (.int .u32 a0_0) := (blk_cell BK186.out 0).trans rfl
        have hcz16_1 : wc.cell? ⟨gb186, 1, none⟩ = some (.int .i64 a0_1) := (blk_cell BK186.out 1).trans rfl
        have hcz16_2 : wc.cell? ⟨gb186, 2, none⟩ = some (.int .u32 a0_2) := (blk_cell BK186.out 2).trans rfl
        have hcz16_3 : wc.cell? ⟨gb186, 3, none⟩ = some (.int .u32 a0_3) := (blk_cell BK186.out 3).trans rfl
        have hcz16_4 : wc.cell? ⟨gb186, 4, none⟩ = some (.int .u16 a0_4) := (blk_cell BK186.out 4).trans rfl
        have hfz16_0 := blk_frozen BK186.out 0
        have hfz16_1 := blk_frozen BK186.out 1
        have hfz16_2 := blk_frozen BK186.out 2
        have hfz16_3 := blk_frozen BK186.out 3
        have hfz16_4 := blk_frozen BK186.out 4
        go_wp2
        go_ret
        exact ⟨by first | rfl | (simp [errW_none, errW_some] <;> rfl) | (simp [*, errW_none, errW_some] <;> rfl), by repeat (first | (with_reducible first | exact HB.out | apply below_alloc | apply pw_below_drewN | apply below_drew1 | refine below_set ?_ GE186.out) | exact HB.out)⟩

      rw [if_pos c12] at H; have c12b0 : (a0_4 == 65535) = true := beq_iff_eq.mpr c12
      have c12b1 : (a0_4 != 65535) = false := bne_eq_false_iff_eq.mpr c12
      clear c12
      by_cases c13 : a0_2 = 0
      case neg =>
        rw [if_neg c13] at H; have c13b0 : (a0_2 == 0) = false := beq_eq_false_iff_ne.mpr c13
        have c13b1 : (a0_2 != 0) = true := bne_iff_ne.mpr c13
        obtain rfl := Option.some.inj H
        have hcz15_0 : wc.cell? ⟨gb186, 0, none⟩ = some (.int .u32 a0_0) := (blk_cell BK186.out 0).trans rfl
        have hcz15_1 : wc.cell? ⟨gb186, 1, none⟩ = some (.int .i64 a0_1) := (blk_cell BK186.out 1).trans rfl
        have hcz15_2 : wc.cell? ⟨gb186, 2, none⟩ = some (.int .u32 a0_2) := (blk_cell BK186.out 2).trans rfl
        have hcz15_3 : wc.cell? ⟨gb186, 3, none⟩ = some (.int .u32 a0_3) := (blk_cell BK186.out 3).trans rfl
        have hcz15_4 : wc.cell? ⟨gb186, 4, none⟩ = some (.int .u16 a0_4) := (blk_cell BK186.out 4).trans rfl
        have hfz15_0 := blk_frozen BK186.out 0
        have hfz15_1 := blk_frozen BK186.out 1
        have hfz15_2 := blk_frozen BK186.out 2
        have hfz15_3 := blk_frozen BK186.out 3
        have hfz15_4 := blk_frozen BK186.out 4
        go_wp2
        go_ret
        exact ⟨by first | rfl | (simp [errW_none, errW_some] <;> rfl) | (simp [*, errW_none, errW_some] <;> rfl), by repeat (first | (with_reducible first | exact HB.out | apply below_alloc | apply pw_below_drewN | apply below_drew1 | refine below_set ?_ GE186.out) | exact HB.out)⟩
      rw [if_pos c13] at H; have c13b0 : (a0_2 == 0) = true := beq_iff_eq.mpr c13
      have c13b1 : (a0_2 != 0) = false := bne_eq_false_iff_eq.mpr c13
      clear c13
      obtain rfl := Option.some.inj H
      have hcz14_0 : wc.cell? ⟨gb186, 0, none⟩ = some (.int .u32 a0_0) := (blk_cell BK186.out 0).trans rfl
      have hcz14_1 : wc.cell? ⟨gb186, 1, none⟩ = some (.int .i64 a0_1) := (blk_cell BK186.out 1).trans rfl
      have hcz14_2 : wc.cell? ⟨gb186, 2, none⟩ = some (.int .u32 a0_2) := (blk_cell BK186.out 2).trans rfl
      have hcz14_3 : wc.cell? ⟨gb186, 3, none⟩ = some (.int .u32 a0_3) := (blk_cell BK186.out 3).trans rfl
      have hcz14_4 : wc.cell? ⟨gb186, 4, none⟩ = some (.int .u16 a0_4) := (blk_cell BK186.out 4).trans rfl
      have hfz14_0 := blk_frozen BK186.out 0
      have hfz14_1 := blk_frozen BK186.out 1
      have hfz14_2 := blk_frozen BK186.out 2
      have hfz14_3 := blk_frozen BK186.out 3
      have hfz14_4 := blk_frozen BK186.out 4
      go_wp2
      go_ret
      exact ⟨by first | rfl | (simp [errW_none, errW_some] <;> rfl) | (simp [*, errW_none, errW_some] <;> rfl), by repeat (first | (with_reducible first | exact HB.out | apply below_alloc | apply pw_below_drewN | apply below_drew1 | refine below_set ?_ GE186.out) | exact HB.out)⟩
/-! ### wayfarerlaw08_four: function 57 -/
def wayfarerlaw08_four.f (a0 : Int) : Option (List Int) := some (([(a0 / 16777216) % 256, (a0 / 65536) % 256, (a0 / 256) % 256, (a0) % 256] : List Int))
set_option maxHeartbeats 8000000 in
set_option maxRecDepth 100000 in
theorem wayfarerlaw08_four.calls (a0 : Int) (r : List Int) (w : World) (h : wayfarerlaw08_four.f a0 = some r) :
    Calls Try.prog 57 #[.int .u32 a0] w fun e w' => ∃ v0_ : Value, e = .returned (v0_) ∧ Kd.R (Kd.int .u8) 5 w' w.heap.size (fun _ => True) v0_ r ∧ Below w.heap.size w w' := by
  have HB := Aside0.mk (Below.refl w.heap.size w)
  have H : (some (([(a0 / 16777216) % 256, (a0 / 65536) % 256, (a0 / 256) % 256, (a0) % 256] : List Int))) = some r := h
  clear h
  obtain ⟨y188, hy188⟩ : ∃ y_ : List Int, y_ = (([(a0 / 16777216) % 256, (a0 / 65536) % 256, (a0 / 256) % 256, (a0) % 256] : List Int)) := ⟨_, rfl⟩
  replace H : (some y188) = some r := by first | (rw [hy188]; with_reducible exact H) | (have H2_ := (Option.bind_some _ _).symm.trans H; rw [hy188]; with_reducible exact H2_) | (have H2_ := (Option.bind_some _ _).symm.trans H; with_reducible exact H2_) | with_reducible exact H | (rw [hy188]; exact H) | exact H
  have Ny188 := Aside0.mk hy188
  clear hy188
  obtain rfl := Option.some.inj H
  go_enter Try.func57, Try.ntmps57
  go_wp2_with (first | ((with_reducible refine gate_dst (N := 14) rfl ?_); refine Kd.R_lit (Kd.int .u8) _ 5 ?hg (N := 14) ?hd (xs := ([(a0 / 16777216) % 256, (a0 / 65536) % 256, (a0 / 256) % 256, (a0) % 256] : List Int)) (inner := [.int .u8 ((a0 / 16777216) % 256), .int .u8 ((a0 / 65536) % 256), .int .u8 ((a0 / 256) % 256), .int .u8 ((a0) % 256)]) (ok := fun _ => True) (okp := fun _ => True) ?hr ?hp (fun _ hk => hk) trivial (Below.refl _ _) (Nat.le_refl _) (by simp) ?_; (case hd => rfl); (case hg => rfl); (case hr => first | (go_simp; done) | (go_simp; rfl)); (case hp => exact (Reps.one (show Kd.M (Kd.int .u8) _ _ _ ((a0 / 16777216) % 256) [.int .u8 ((a0 / 16777216) % 256)] from rfl) (Reps.one (show Kd.M (Kd.int .u8) _ _ _ ((a0 / 65536) % 256) [.int .u8 ((a0 / 65536) % 256)] from rfl) (Reps.one (show Kd.M (Kd.int .u8) _ _ _ ((a0 / 256) % 256) [.int .u8 ((a0 / 256) % 256)] from rfl) (Reps.one (show Kd.M (Kd.int .u8) _ _ _ ((a0) % 256) [.int .u8 ((a0) % 256)] from rfl) (Reps.none _ _)))))); intro v189 w2 ho3 hb hg_ hnew_; clear hg_ hnew_; (first | rw [← Ny188.out] at ho3 | (simp only [Int.reduceToNat] at ho3; rw [← Ny188.out] at ho3)); have n0_ := Aside0.mk (Kd.R_lower ho3 (below_size (by repeat (first | (with_reducible first | exact HB.out | apply below_alloc | apply pw_below_drewN | apply below_drew1) | exact HB.out)))); have n1_ := Aside0.mk (below_step (by repeat (first | (with_reducible first | exact HB.out | apply below_alloc | apply pw_below_drewN | apply below_drew1) | exact HB.out)) hb); clear HB; have HO190 := n0_; have HB := n1_; clear n0_ n1_; clear hb ho3))
  go_ret
  exact ⟨_, by first | rfl | (simp [errW_none, errW_some] <;> rfl) | (simp [*, errW_none, errW_some] <;> rfl), by (with_reducible repeat (first | apply Kd.R_alloc | apply Kd.R_drewN | apply Kd.R_drew)); exact HO190.out, by repeat (first | (with_reducible first | exact HB.out | apply below_alloc | apply pw_below_drewN | apply below_drew1) | exact HB.out)⟩

/-! ### wayfarerlaw08_parts: function 42 -/
mutual
def wayfarerlaw08_parts.j0 : Nat → List Int → Int → Int → Int → Int → Int → Option (List Int)
  | 0, _, _, _, _, _, _ => none
  | k + 1, x5, x192000, x192001, x192002, x192003, x192004 => wayfarerlaw08_parts.l0 k x5 0 x192000 x192001 x192002 x192003 x192004
def wayfarerlaw08_parts.l0 : Nat → List Int → Int → Int → Int → Int → Int → Int → Option (List Int)
  | 0, _, _, _, _, _, _, _ => none
  | k + 1, x5, x6, x192000, x192001, x192002, x192003, x192004 => if (wrap64 (8 * x6)) < x192001 then (wayfarerlaw08_parts.l0 k x5 (wrap64 (x6 + 1)) x192000 x192001 x192002 x192003 x192004) else ((some (([3, (wrap64 (7 + x6)) % 256, (x192001) % 256] : List Int) : List Int)).bind fun y204 => (if x5.length + y204.length < 140737488355328 then ((some (x5 ++ y204 : List Int)).bind fun y207 => ((wayfarerlaw08_four.f x192003).bind fun t210 => (if y207.length + t210.length < 140737488355328 then ((some (y207 ++ t210 : List Int)).bind fun y213 => ((some (([(x192004 / 256) % 256, (x192004) % 256] : List Int) : List Int)).bind fun y216 => (if y213.length + y216.length < 140737488355328 then ((some (y213 ++ y216 : List Int)).bind fun y219 => ((wayfarerlaw08_four.f x192000).bind fun t222 => (if 0 ≤ x6 then (if x6 ≤ (t222.length : Int) then ((some (t222.take (x6 : Int).toNat : List Int)).bind fun y225 => (if y219.length + y225.length < 140737488355328 then (some (y219 ++ y225)) else (none))) else (none)) else (none)))) else (none)))) else (none)))) else (none)))
end
def wayfarerlaw08_parts.f (k : Nat) (a0_0 : Int) (a0_1 : Int) (a0_2 : Int) (a0_3 : Int) (a0_4 : Int) (a1 : Int) : Option (List Int) := if a0_2 = a1 then (wayfarerlaw08_parts.j0 k (([] : List Int)) a0_0 a0_1 a0_2 a0_3 a0_4) else ((some (([2, 4] : List Int) : List Int)).bind fun y195 => ((wayfarerlaw08_four.f a0_2).bind fun t198 => (if y195.length + t198.length < 140737488355328 then (wayfarerlaw08_parts.j0 k (y195 ++ t198) a0_0 a0_1 a0_2 a0_3 a0_4) else (none))))
theorem wayfarerlaw08_parts.mono_l : ∀ k, (∀ y0 y1 y2 y3 y4 y5, LeO (wayfarerlaw08_parts.j0 k y0 y1 y2 y3 y4 y5) (wayfarerlaw08_parts.j0 (k + 1) y0 y1 y2 y3 y4 y5)) ∧ (∀ y0 y1 y2 y3 y4 y5 y6, LeO (wayfarerlaw08_parts.l0 k y0 y1 y2 y3 y4 y5 y6) (wayfarerlaw08_parts.l0 (k + 1) y0 y1 y2 y3 y4 y5 y6))
  | 0 => ⟨fun _ _ _ _ _ _ r h => by simp [wayfarerlaw08_parts.j0] at h, fun _ _ _ _ _ _ _ r h => by simp [wayfarerlaw08_parts.l0] at h⟩
  | k + 1 => by
    obtain ⟨ih0, ih1⟩ := wayfarerlaw08_parts.mono_l k
    refine ⟨?_, ?_⟩
    · intro y0 y1 y2 y3 y4 y5
      unfold wayfarerlaw08_parts.j0
      repeat' first
      | (with_reducible exact ih0 _ _ _ _ _ _)
      | (with_reducible exact ih1 _ _ _ _ _ _ _)
      | (with_reducible exact LeO.refl _)
      | (with_reducible exact LeO.none _)
      | (with_reducible refine LeO.ite ?_ ?_)
      | (with_reducible refine LeO.bind ?_ (fun _ => ?_))
      | exact ih0 _ _ _ _ _ _
      | exact ih1 _ _ _ _ _ _ _
      | exact LeO.none _
      | refine LeO.ite ?_ ?_
      | refine LeO.bind ?_ (fun _ => ?_)
    · intro y0 y1 y2 y3 y4 y5 y6
      unfold wayfarerlaw08_parts.l0
      repeat' first
      | (with_reducible exact ih0 _ _ _ _ _ _)
      | (with_reducible exact ih1 _ _ _ _ _ _ _)
      | (with_reducible exact LeO.refl _)
      | (with_reducible exact LeO.none _)
      | (with_reducible refine LeO.ite ?_ ?_)
      | (with_reducible refine LeO.bind ?_ (fun _ => ?_))
      | exact ih0 _ _ _ _ _ _
      | exact ih1 _ _ _ _ _ _ _
      | exact LeO.none _
      | refine LeO.ite ?_ ?_
      | refine LeO.bind ?_ (fun _ => ?_)
theorem wayfarerlaw08_parts.mono : ∀ a0 a1 a2 a3 a4 a5 k, LeO (wayfarerlaw08_parts.f k a0 a1 a2 a3 a4 a5) (wayfarerlaw08_parts.f (k + 1) a0 a1 a2 a3 a4 a5) := by
  intro a0 a1 a2 a3 a4 a5 k
  obtain ⟨ih0, ih1⟩ := wayfarerlaw08_parts.mono_l k
  unfold wayfarerlaw08_parts.f
  repeat' first
      | (with_reducible exact ih0 _ _ _ _ _ _)
      | (with_reducible exact ih1 _ _ _ _ _ _ _)
      | (with_reducible exact LeO.refl _)
      | (with_reducible exact LeO.none _)
      | (with_reducible refine LeO.ite ?_ ?_)
      | (with_reducible refine LeO.bind ?_ (fun _ => ?_))
      | exact ih0 _ _ _ _ _ _
      | exact ih1 _ _ _ _ _ _ _
      | exact LeO.none _
      | refine LeO.ite ?_ ?_
      | refine LeO.bind ?_ (fun _ => ?_)
set_option maxHeartbeats 8000000 in
set_option maxRecDepth 100000 in
theorem wayfarerlaw08_parts.calls (k : Nat) (a0_0 : Int) (a0_1 : Int) (a0_2 : Int) (a0_3 : Int) (a0_4 : Int) (a1 : Int) (r : List Int) (w : World) (h : wayfarerlaw08_parts.f k a0_0 a0_1 a0_2 a0_3 a0_4 a1 = some r) :
    Calls Try.prog 42 #[.agg #[.int .u32 a0_0, .int .i64 a0_1, .int .u32 a0_2, .int .u32 a0_3, .int .u16 a0_4], .int .u32 a1] w fun e w' => ∃ v0_ : Value, e = .returned (v0_) ∧ Kd.R (Kd.int .u8) 5 w' w.heap.size (fun _ => True) v0_ r ∧ Below w.heap.size w w' := by
  have hu62 := Try.underlying62
  have HB := Aside0.mk (Below.refl w.heap.size w)
  have H : (if a0_2 = a1 then (wayfarerlaw08_parts.j0 k (([] : List Int)) a0_0 a0_1 a0_2 a0_3 a0_4) else ((some (([2, 4] : List Int) : List Int)).bind fun y195 => ((wayfarerlaw08_four.f a0_2).bind fun t198 => (if y195.length + t198.length < 140737488355328 then (wayfarerlaw08_parts.j0 k (y195 ++ t198) a0_0 a0_1 a0_2 a0_3 a0_4) else (none))))) = some r := h
  clear h
  obtain ⟨y192, hy192⟩ : ∃ y_ : List Int, y_ = (([] : List Int)) := ⟨_, rfl⟩
  replace H : (if a0_2 = a1 then (wayfarerlaw08_parts.j0 k y192 a0_0 a0_1 a0_2 a0_3 a0_4) else ((some (([2, 4] : List Int) : List Int)).bind fun y195 => ((wayfarerlaw08_four.f a0_2).bind fun t198 => (if y195.length + t198.length < 140737488355328 then (wayfarerlaw08_parts.j0 k (y195 ++ t198) a0_0 a0_1 a0_2 a0_3 a0_4) else (none))))) = some r := by first | (rw [hy192]; with_reducible exact H) | (have H2_ := (Option.bind_some _ _).symm.trans H; rw [hy192]; with_reducible exact H2_) | (have H2_ := (Option.bind_some _ _).symm.trans H; with_reducible exact H2_) | with_reducible exact H | (rw [hy192]; exact H) | exact H
  have Ny192 := Aside0.mk hy192
  clear hy192
  have HC3 := Aside0.mk H
  clear H
  go_enter Try.func42, Try.ntmps42
  go_upto_if 11 with (first | ((with_reducible refine gate_dst (N := 2) rfl ?_); refine box_event ?hg (N := 2) ?hd (cs := #[.int .u32 a0_0, .int .i64 a0_1, .int .u32 a0_2, .int .u32 a0_3, .int .u16 a0_4]) (t := 62) ?hr ?_; (case hd => rfl); (case hg => rfl); (case hr => first | (go_simp; done) | (go_simp; rfl)); intro gb191 hg w4 hbox hb; have n0_ := Aside0.mk (below_step (by repeat (first | (with_reducible first | exact HB.out | apply below_alloc | apply pw_below_drewN | apply below_drew1) | exact HB.out)) hb); have n1_ := Aside0.mk (hbox); have n2_ := Aside0.mk ((by rw [hg]; exact (below_size (by repeat (first | (with_reducible first | exact HB.out | apply below_alloc | apply pw_below_drewN | apply below_drew1) | exact HB.out))) : w.heap.size ≤ gb191)); have n3_ := Aside0.mk ((by rw [hg]; exact (below_size (by repeat (first | (with_reducible first | exact HB.out | apply below_alloc | apply pw_below_drewN | apply below_drew1) | exact HB.out))) : w.heap.size ≤ gb191)); clear HB; have HB := n0_; have BK191 := n1_; have GW191 := n2_; have GE191 := n3_; clear n0_ n1_ n2_ n3_; clear hb hbox hg) | ((with_reducible refine gate_dst (N := 7) rfl ?_); refine Kd.R_lit (Kd.int .u8) _ 5 ?hg (N := 7) ?hd (xs := ([] : List Int)) (inner := []) (ok := fun _ => True) (okp := fun _ => True) ?hr ?hp (fun _ hk => hk) trivial (Below.refl _ _) (Nat.le_refl _) (by simp) ?_; (case hd => rfl); (case hg => rfl); (case hr => first | (go_simp; done) | (go_simp; rfl)); (case hp => exact (Reps.none _ _)); intro v193 w5 ho6 hb hg_ hnew_; clear hg_ hnew_; (first | rw [← Ny192.out] at ho6 | (simp only [Int.reduceToNat] at ho6; rw [← Ny192.out] at ho6)); have n0_ := Aside0.mk (Kd.R_lower ho6 (below_size (by repeat (first | (with_reducible first | exact HB.out | apply below_alloc | apply pw_below_drewN | apply below_drew1 | refine below_set ?_ GE191.out) | exact HB.out)))); have n1_ := Aside0.mk (blk_below (g := gb191) (o := .cells #[.int .u32 a0_0, .int .i64 a0_1, .int .u32 a0_2, .int .u32 a0_3, .int .u16 a0_4] 62 (0, 0)) (by (with_reducible repeat (first | refine blk_drewN ?_ _ | refine blk_drew ?_ | refine blk_alloc ?_ _)); exact BK191.out) hb); have n2_ := Aside0.mk (below_step (by repeat (first | (with_reducible first | exact HB.out | apply below_alloc | apply pw_below_drewN | apply below_drew1 | refine below_set ?_ GE191.out) | exact HB.out)) hb); clear BK191; clear HB; have HO194 := n0_; have BK191 := n1_; have HB := n2_; clear n0_ n1_ n2_; clear hb ho6; have hcz7_0 : w5.cell? ⟨gb191, 0, none⟩ = some (.int .u32 a0_0) := (blk_cell BK191.out 0).trans rfl; have hcz7_1 : w5.cell? ⟨gb191, 1, none⟩ = some (.int .i64 a0_1) := (blk_cell BK191.out 1).trans rfl; have hcz7_2 : w5.cell? ⟨gb191, 2, none⟩ = some (.int .u32 a0_2) := (blk_cell BK191.out 2).trans rfl; have hcz7_3 : w5.cell? ⟨gb191, 3, none⟩ = some (.int .u32 a0_3) := (blk_cell BK191.out 3).trans rfl; have hcz7_4 : w5.cell? ⟨gb191, 4, none⟩ = some (.int .u16 a0_4) := (blk_cell BK191.out 4).trans rfl; have hfz7_0 := blk_frozen BK191.out 0; have hfz7_1 := blk_frozen BK191.out 1; have hfz7_2 := blk_frozen BK191.out 2; have hfz7_3 := blk_frozen BK191.out 3; have hfz7_4 := blk_frozen BK191.out 4))
  (try simp only [Act.put, List.setIfInBounds_toArray, List.set_cons_zero, List.set_cons_succ])
  go_cut [5] (fun v5 wc => ∃ (kq : Nat) (x5_2 : List Int), Aside0 (wayfarerlaw08_parts.j0 kq x5_2 a0_0 a0_1 a0_2 a0_3 a0_4 = some r) ∧ Aside0 (kq ≤ k) ∧ Aside0 (Kd.R (Kd.int .u8) 5 wc w.heap.size (fun _ => True) v5 x5_2) ∧ Aside0 (wc.heap[gb191]? = some (.cells #[.int .u32 a0_0, .int .i64 a0_1, .int .u32 a0_2, .int .u32 a0_3, .int .u16 a0_4] 62 (0, 0))) ∧ Aside0 (Below w.heap.size w wc))
  case first =>
    have H := HC3.out
    clear HC3
    by_cases c8 : a0_2 = a1
    case pos =>
      rw [if_pos c8] at H; have c8b0 : (a0_2 == a1) = true := beq_iff_eq.mpr c8
      have c8b1 : (a0_2 != a1) = false := bne_eq_false_iff_eq.mpr c8
      clear c8
      (first | rw [c8b0] | (simp only [i64_w, i32_w]; rw [c8b0]) | skip)
      have H' := Aside0.mk H
      clear H
      go_wp2
      go_meet
      case rel => exact ⟨_, (y192), H', ⟨by first | omega | exact Nat.le_refl _⟩, ⟨by (with_reducible repeat (first | apply Kd.R_alloc | apply Kd.R_drewN | apply Kd.R_drew)); exact HO194.out⟩, ⟨by (with_reducible repeat (first | refine blk_drewN ?_ _ | refine blk_drew ?_ | refine blk_alloc ?_ _)); exact BK191.out⟩, ⟨by repeat (first | (with_reducible first | exact HB.out | apply below_alloc | apply pw_below_drewN | apply below_drew1 | refine below_set ?_ GE191.out) | exact HB.out)⟩⟩
    rw [if_neg c8] at H; have c8b0 : (a0_2 == a1) = false := beq_eq_false_iff_ne.mpr c8
    have c8b1 : (a0_2 != a1) = true := bne_iff_ne.mpr c8
    (first | rw [c8b0] | (simp only [i64_w, i32_w]; rw [c8b0]) | skip)
    obtain ⟨y195, hy195⟩ : ∃ y_ : List Int, y_ = (([2, 4] : List Int)) := ⟨_, rfl⟩
    replace H : ((wayfarerlaw08_four.f a0_2).bind fun t198 => (if y195.length + t198.length < 140737488355328 then (wayfarerlaw08_parts.j0 k (y195 ++ t198) a0_0 a0_1 a0_2 a0_3 a0_4) else (none))) = some r := by first | (rw [hy195]; with_reducible exact H) | (have H2_ := (Option.bind_some _ _).symm.trans H; rw [hy195]; with_reducible exact H2_) | (have H2_ := (Option.bind_some _ _).symm.trans H; with_reducible exact H2_) | with_reducible exact H | (rw [hy195]; exact H) | exact H
    have Ny195 := Aside0.mk hy195
    clear hy195
    replace H := Option.bind_eq_some_iff.mp H
    obtain ⟨t198, A90, H⟩ := H
    replace H : (if y195.length + t198.length < 140737488355328 then (wayfarerlaw08_parts.j0 k (y195 ++ t198) a0_0 a0_1 a0_2 a0_3 a0_4) else (none)) = some r := H
    have A9 := Aside0.mk A90
    clear A90
    by_cases c10 : y195.length + t198.length < 140737488355328
    case neg =>
      rw [if_neg c10] at H; exact absurd H (by simp)
    rw [if_pos c10] at H; have LMc10 := Aside0.mk c10
    clear c10
    obtain ⟨y201, hy201⟩ : ∃ y_ : List Int, y_ = (y195 ++ t198) := ⟨_, rfl⟩
    replace H : (wayfarerlaw08_parts.j0 k y201 a0_0 a0_1 a0_2 a0_3 a0_4) = some r := by first | (rw [hy201]; with_reducible exact H) | (have H2_ := (Option.bind_some _ _).symm.trans H; rw [hy201]; with_reducible exact H2_) | (have H2_ := (Option.bind_some _ _).symm.trans H; with_reducible exact H2_) | with_reducible exact H | (rw [hy201]; exact H) | exact H
    have Ny201 := Aside0.mk hy201
    clear hy201
    have H' := Aside0.mk H
    clear H
    go_wp2_with (first | ((with_reducible refine gate_dst (N := 12) rfl ?_); refine Kd.R_lit (Kd.int .u8) _ 5 ?hg (N := 12) ?hd (xs := ([2, 4] : List Int)) (inner := [.int .u8 2, .int .u8 4]) (ok := fun _ => True) (okp := fun _ => True) ?hr ?hp (fun _ hk => hk) trivial (Below.refl _ _) (Nat.le_refl _) (by simp) ?_; (case hd => rfl); (case hg => rfl); (case hr => first | (go_simp; done) | (go_simp; rfl)); (case hp => exact (Reps.one (show Kd.M (Kd.int .u8) _ _ _ 2 [.int .u8 2] from rfl) (Reps.one (show Kd.M (Kd.int .u8) _ _ _ 4 [.int .u8 4] from rfl) (Reps.none _ _)))); intro v196 w11 ho12 hb hg_ hnew_; clear hg_ hnew_; (first | rw [← Ny195.out] at ho12 | (simp only [Int.reduceToNat] at ho12; rw [← Ny195.out] at ho12)); have n0_ := Aside0.mk (Kd.R_elder' (by (with_reducible repeat (first | apply Kd.R_alloc | apply Kd.R_drewN | apply Kd.R_drew)); exact HO194.out) (Kd.R_base ho12) hb); have n1_ := Aside0.mk (Kd.R_lower (Kd.R_new' ho12 (Kd.R_lt (by (with_reducible repeat (first | apply Kd.R_alloc | apply Kd.R_drewN | apply Kd.R_drew)); exact HO194.out))) (below_size (by repeat (first | (with_reducible first | exact HB.out | apply below_alloc | apply pw_below_drewN | apply below_drew1 | refine below_set ?_ GE191.out) | exact HB.out)))); have n2_ := Aside0.mk (blk_below (g := gb191) (o := .cells #[.int .u32 a0_0, .int .i64 a0_1, .int .u32 a0_2, .int .u32 a0_3, .int .u16 a0_4] 62 (0, 0)) (by (with_reducible repeat (first | refine blk_drewN ?_ _ | refine blk_drew ?_ | refine blk_alloc ?_ _)); exact BK191.out) hb); have n3_ := Aside0.mk (below_step (by repeat (first | (with_reducible first | exact HB.out | apply below_alloc | apply pw_below_drewN | apply below_drew1 | refine below_set ?_ GE191.out) | exact HB.out)) hb); clear HO194; clear BK191; clear HB; have HO194 := n0_; have HO197 := n1_; have BK191 := n2_; have HB := n3_; clear n0_ n1_ n2_ n3_; clear hb ho12; have hcz13_0 : w11.cell? ⟨gb191, 0, none⟩ = some (.int .u32 a0_0) := (blk_cell BK191.out 0).trans rfl; have hcz13_1 : w11.cell? ⟨gb191, 1, none⟩ = some (.int .i64 a0_1) := (blk_cell BK191.out 1).trans rfl; have hcz13_2 : w11.cell? ⟨gb191, 2, none⟩ = some (.int .u32 a0_2) := (blk_cell BK191.out 2).trans rfl; have hcz13_3 : w11.cell? ⟨gb191, 3, none⟩ = some (.int .u32 a0_3) := (blk_cell BK191.out 3).trans rfl; have hcz13_4 : w11.cell? ⟨gb191, 4, none⟩ = some (.int .u16 a0_4) := (blk_cell BK191.out 4).trans rfl; have hfz13_0 := blk_frozen BK191.out 0; have hfz13_1 := blk_frozen BK191.out 1; have hfz13_2 := blk_frozen BK191.out 2; have hfz13_3 := blk_frozen BK191.out 3; have hfz13_4 := blk_frozen BK191.out 4) | ((with_reducible refine gate_callee (f := 57) rfl ?_); refine goesL_ (some 15) rfl rfl Try.func57 (by kernel_rfl) rfl #[.int .u32 a0_2] rfl (by (try simp only [List.map_toArray, List.map_cons, List.map_nil]); first | done | rfl | (simp only [List.length_drop, List.length_take]; rfl)) ?_; (with_reducible refine (wayfarerlaw08_four.calls a0_2 t198 _ A9.out).mono ?_); rintro e w14 ⟨v199, rfl, ho0, hb⟩; refine ⟨_, rfl, ?_⟩; have n0_ := Aside0.mk (Kd.R_elder' (by (with_reducible repeat (first | apply Kd.R_alloc | apply Kd.R_drewN | apply Kd.R_drew)); exact HO194.out) (Kd.R_base ho0) hb); have n1_ := Aside0.mk (Kd.R_elder' (by (with_reducible repeat (first | apply Kd.R_alloc | apply Kd.R_drewN | apply Kd.R_drew)); exact HO197.out) (Kd.R_base ho0) hb); have n2_ := Aside0.mk (Kd.R_lower (Kd.R_new' (Kd.R_new' ho0 (Kd.R_lt (by (with_reducible repeat (first | apply Kd.R_alloc | apply Kd.R_drewN | apply Kd.R_drew)); exact HO194.out))) (Kd.R_lt (by (with_reducible repeat (first | apply Kd.R_alloc | apply Kd.R_drewN | apply Kd.R_drew)); exact HO197.out))) (below_size (by repeat (first | (with_reducible first | exact HB.out | apply below_alloc | apply pw_below_drewN | apply below_drew1 | refine below_set ?_ GE191.out) | exact HB.out)))); have n3_ := Aside0.mk (blk_below (g := gb191) (o := .cells #[.int .u32 a0_0, .int .i64 a0_1, .int .u32 a0_2, .int .u32 a0_3, .int .u16 a0_4] 62 (0, 0)) (by (with_reducible repeat (first | refine blk_drewN ?_ _ | refine blk_drew ?_ | refine blk_alloc ?_ _)); exact BK191.out) hb); have n4_ := Aside0.mk (below_step (by repeat (first | (with_reducible first | exact HB.out | apply below_alloc | apply pw_below_drewN | apply below_drew1 | refine below_set ?_ GE191.out) | exact HB.out)) hb); clear HO194; clear HO197; clear BK191; clear HB; have HO194 := n0_; have HO197 := n1_; have HO200 := n2_; have BK191 := n3_; have HB := n4_; clear n0_ n1_ n2_ n3_ n4_; (try clear hb); (try clear hb2); (try clear hk); (try clear hi); (try clear ho0); obtain ⟨Ao16, co16, eo16⟩ := Kd.R_slice HO200.out; subst eo16) | ((with_reducible refine gate_builtin (b := .append) (xs := #[.tmp 12, .tmp 15]) rfl ?_); at_builtin; refine Kd.R_append_rows (Kd.int .u8) (w0 := w) w.heap.size rfl (.tmp 12) (.tmp 15) 22 5 (.int .u8 0) 1 rfl Try.underlying22 info5 rfl (by decide) (by omega) v196 y195 t198 _ _ _ (fun k_ => some k_ ≠ (v193 : Value).ownBlock ∧ some k_ ≠ (.slice Ao16 t198.length co16 : Value).ownBlock) (fun _ => False) rfl rfl ?aO ?aR (fun _ _ h => h) (fun _ h => h.elim) ?aF ?aB ?aS ?aL ?_; (case aR => repeat (first | exact (Kd.R_reads' HO200.out).2.2 | (with_reducible refine Kd.C_alloc ?_ _) | (with_reducible refine Kd.C_drewN ?_ _) | (with_reducible refine Kd.C_drew ?_))); (case aB => exact (by repeat (first | (with_reducible first | exact HB.out | apply below_alloc | apply pw_below_drewN | apply below_drew1 | refine below_set ?_ GE191.out) | exact HB.out))); (case aF => exact (fun k_ hk => ⟨Kd.fresh' (Kd.R_lt (by (with_reducible repeat (first | apply Kd.R_alloc | apply Kd.R_drewN | apply Kd.R_drew)); exact HO194.out)) k_ hk, Kd.fresh' (Kd.R_lt (by (with_reducible repeat (first | apply Kd.R_alloc | apply Kd.R_drewN | apply Kd.R_drew)); exact HO200.out)) k_ hk⟩)); (case aO => exact (by (with_reducible repeat (first | apply Kd.R_alloc | apply Kd.R_drewN | apply Kd.R_drew)); exact Kd.R_mono HO197.out (fun _ hk => ⟨hk.1.2, hk.2⟩))); (case aS => exact (below_size (by repeat (first | (with_reducible first | exact HB.out | apply below_alloc | apply pw_below_drewN | apply below_drew1 | refine below_set ?_ GE191.out) | exact HB.out)))); (case aL => have := LMc10.out; omega); intro v202 w15 ho hb hg hat; rw [← Ny201.out] at ho; have n0_ := Aside0.mk (blk_grown (g := gb191) (o := .cells #[.int .u32 a0_0, .int .i64 a0_1, .int .u32 a0_2, .int .u32 a0_3, .int .u16 a0_4] 62 (0, 0)) (by (with_reducible repeat (first | refine blk_drewN ?_ _ | refine blk_drew ?_ | refine blk_alloc ?_ _)); exact BK191.out) hg (Kd.R_ne HO197.out BK191.out (by decide))); have n1_ := Aside0.mk (Kd.R_after (ok := (fun k_ => some k_ ≠ (.slice Ao16 t198.length co16 : Value).ownBlock)) (by (with_reducible repeat (first | apply Kd.R_alloc | apply Kd.R_drewN | apply Kd.R_drew)); exact Kd.R_mono HO194.out (fun _ hk => ⟨hk.2, hk.1.2⟩)) hg hat); have n2_ := Aside0.mk (Kd.R_after (ok := (fun k_ => some k_ ≠ (v193 : Value).ownBlock)) (by (with_reducible repeat (first | apply Kd.R_alloc | apply Kd.R_drewN | apply Kd.R_drew)); exact Kd.R_mono HO200.out (fun _ hk => ⟨hk.1.2, hk.2⟩)) hg hat); have n3_ := Aside0.mk (hb); have n4_ := Aside0.mk (ho); clear BK191; clear HO194; clear HO200; clear HB; clear HO197; have BK191 := n0_; have HO194 := n1_; have HO200 := n2_; have HB := n3_; have HO203 := n4_; clear n0_ n1_ n2_ n3_ n4_; clear ho hb hg hat))
    go_meet
    case rel => exact ⟨_, (y201), H', ⟨by first | omega | exact Nat.le_refl _⟩, ⟨by (with_reducible repeat (first | apply Kd.R_alloc | apply Kd.R_drewN | apply Kd.R_drew)); exact Kd.R_mono HO203.out (fun _ hk => trivial)⟩, ⟨by (with_reducible repeat (first | refine blk_drewN ?_ _ | refine blk_drew ?_ | refine blk_alloc ?_ _)); exact BK191.out⟩, ⟨by repeat (first | (with_reducible first | exact HB.out | apply below_alloc | apply pw_below_drewN | apply below_drew1 | refine below_set ?_ GE191.out) | exact HB.out)⟩⟩
  case rest =>
    clear HC3
    try clear c1; try clear p2; try clear c4; try clear c5; try clear c8; try clear c8b0; try clear c8b1; try clear c10; try clear hcz13_0; try clear hcz13_1; try clear hcz13_2; try clear hcz13_3; try clear hcz13_4; try clear hcz7_0; try clear hcz7_1; try clear hcz7_2; try clear hcz7_3; try clear hcz7_4; try clear hfz13_0; try clear hfz13_1; try clear hfz13_2; try clear hfz13_3; try clear hfz13_4; try clear hfz7_0
    try clear hfz7_1; try clear hfz7_2; try clear hfz7_3; try clear hfz7_4
    obtain ⟨kq, x5_2, HA, HJ2, HO_5, BK191, HB⟩ := hcut
    cases kq with
    | zero => exact absurd HA.out (by simp [wayfarerlaw08_parts.j0])
    | succ kj2 =>
      have H := HA.out
      clear HA
      simp only [wayfarerlaw08_parts.j0] at H
      have H' := Aside0.mk H
      clear H
      go_wp2
      go_loopg [6] kj2 (fun kq v6 w' => ∃ (x6_2 : Int), v6 = .int .i64 x6_2 ∧ Aside0 (wayfarerlaw08_parts.l0 kq x5_2 x6_2 a0_0 a0_1 a0_2 a0_3 a0_4 = some r) ∧ Aside0 (kq ≤ kj2) ∧ Aside0 (Kd.R (Kd.int .u8) 5 w' w.heap.size (fun _ => True) u5 x5_2) ∧ Aside0 (w'.heap[gb191]? = some (.cells #[.int .u32 a0_0, .int .i64 a0_1, .int .u32 a0_2, .int .u32 a0_3, .int .u16 a0_4] 62 (0, 0))) ∧ Aside0 (Below w.heap.size w w'))
      case atStart => exact ⟨(0), (by first | rfl | (simp; done) | (simp [*]; done)), H', ⟨Nat.le_refl _⟩, ⟨by (with_reducible repeat (first | apply Kd.R_alloc | apply Kd.R_drewN | apply Kd.R_drew)); exact HO_5.out⟩, ⟨by (with_reducible repeat (first | refine blk_drewN ?_ _ | refine blk_drew ?_ | refine blk_alloc ?_ _)); exact BK191.out⟩, ⟨by repeat (first | (with_reducible first | exact HB.out | apply below_alloc | apply pw_below_drewN | apply below_drew1 | refine below_set ?_ GE191.out) | exact HB.out)⟩⟩
      case round =>
        clear H'
        try clear c1; try clear p2; try clear c4; try clear c5; try clear c8; try clear c8b0; try clear c8b1; try clear c10; try clear hcz13_0; try clear hcz13_1; try clear hcz13_2; try clear hcz13_3; try clear hcz13_4; try clear hcz7_0; try clear hcz7_1; try clear hcz7_2; try clear hcz7_3; try clear hcz7_4; try clear hfz13_0; try clear hfz13_1; try clear hfz13_2; try clear hfz13_3; try clear hfz13_4
        try clear hfz7_0; try clear hfz7_1; try clear hfz7_2; try clear hfz7_3; try clear hfz7_4; try clear p2
        obtain ⟨x6_2, rfl, HA, HK2, HO_5, BK191, HB⟩ := hrel
        cases gk with
        | zero => exact absurd HA.out (by simp [wayfarerlaw08_parts.l0])
        | succ k2 =>
          have H := HA.out
          clear HA
          simp only [wayfarerlaw08_parts.l0] at H
          by_cases c17 : (wrap64 (8 * x6_2)) < a0_1
          case pos =>
            rw [if_pos c17] at H; have c17b0 : decide ((wrap64 (8 * x6_2)) < a0_1) = true := decide_eq_true c17
            clear c17
            have H' := Aside0.mk H
            clear H
            have hcz18_0 : wr.cell? ⟨gb191, 0, none⟩ = some (.int .u32 a0_0) := (blk_cell BK191.out 0).trans rfl
            have hcz18_1 : wr.cell? ⟨gb191, 1, none⟩ = some (.int .i64 a0_1) := (blk_cell BK191.out 1).trans rfl
            have hcz18_2 : wr.cell? ⟨gb191, 2, none⟩ = some (.int .u32 a0_2) := (blk_cell BK191.out 2).trans rfl
            have hcz18_3 : wr.cell? ⟨gb191, 3, none⟩ = some (.int .u32 a0_3) := (blk_cell BK191.out 3).trans rfl
            have hcz18_4 : wr.cell? ⟨gb191, 4, none⟩ = some (.int .u16 a0_4) := (blk_cell BK191.out 4).trans rfl
            have hfz18_0 := blk_frozen BK191.out 0
            have hfz18_1 := blk_frozen BK191.out 1
            have hfz18_2 := blk_frozen BK191.out 2
            have hfz18_3 := blk_frozen BK191.out 3
            have hfz18_4 := blk_frozen BK191.out 4
            go_wp2
            go_roundg k2
            case measure => have := HJ2.out; have := HK2.out; omega
            case rel => exact ⟨(wrap64 (x6_2 + 1)), (by first | rfl | (simp; done) | (simp [*]; done)), H', ⟨by have := HJ2.out; have := HK2.out; omega⟩, ⟨by (with_reducible repeat (first | apply Kd.R_alloc | apply Kd.R_drewN | apply Kd.R_drew)); exact HO_5.out⟩, ⟨by (with_reducible repeat (first | refine blk_drewN ?_ _ | refine blk_drew ?_ | refine blk_alloc ?_ _)); exact BK191.out⟩, ⟨by repeat (first | (with_reducible first | exact HB.out | apply below_alloc | apply pw_below_drewN | apply below_drew1 | refine below_set ?_ GE191.out) | exact HB.out)⟩⟩
          rw [if_neg c17] at H; have c17b0 : decide ((wrap64 (8 * x6_2)) < a0_1) = false := decide_eq_false c17
          clear c17
          obtain ⟨y204, hy204⟩ : ∃ y_ : List Int, y_ = (([3, (wrap64 (7 + x6_2)) % 256, (a0_1) % 256] : List Int)) := ⟨_, rfl⟩
          replace H : (if x5_2.length + y204.length < 140737488355328 then ((some (x5_2 ++ y204 : List Int)).bind fun y207 => ((wayfarerlaw08_four.f a0_3).bind fun t210 => (if y207.length + t210.length < 140737488355328 then ((some (y207 ++ t210 : List Int)).bind fun y213 => ((some (([(a0_4 / 256) % 256, (a0_4) % 256] : List Int) : List Int)).bind fun y216 => (if y213.length + y216.length < 140737488355328 then ((some (y213 ++ y216 : List Int)).bind fun y219 => ((wayfarerlaw08_four.f a0_0).bind fun t222 => (if 0 ≤ x6_2 then (if x6_2 ≤ (t222.length : Int) then ((some (t222.take (x6_2 : Int).toNat : List Int)).bind fun y225 => (if y219.length + y225.length < 140737488355328 then (some (y219 ++ y225)) else (none))) else (none)) else (none)))) else (none)))) else (none)))) else (none)) = some r := by first | (rw [hy204]; with_reducible exact H) | (have H2_ := (Option.bind_some _ _).symm.trans H; rw [hy204]; with_reducible exact H2_) | (have H2_ := (Option.bind_some _ _).symm.trans H; with_reducible exact H2_) | with_reducible exact H | (rw [hy204]; exact H) | exact H
          have Ny204 := Aside0.mk hy204
          clear hy204
          by_cases c19 : x5_2.length + y204.length < 140737488355328
          case neg =>
            rw [if_neg c19] at H; exact absurd H (by simp)

          rw [if_pos c19] at H; have LMc19 := Aside0.mk c19
          clear c19
          obtain ⟨y207, hy207⟩ : ∃ y_ : List Int, y_ = (x5_2 ++ y204) := ⟨_, rfl⟩
          replace H : ((wayfarerlaw08_four.f a0_3).bind fun t210 => (if y207.length + t210.length < 140737488355328 then ((some (y207 ++ t210 : List Int)).bind fun y213 => ((some (([(a0_4 / 256) % 256, (a0_4) % 256] : List Int) : List Int)).bind fun y216 => (if y213.length + y216.length < 140737488355328 then ((some (y213 ++ y216 : List Int)).bind fun y219 => ((wayfarerlaw08_four.f a0_0).bind fun t222 => (if 0 ≤ x6_2 then (if x6_2 ≤ (t222.length : Int) then ((some (t222.take (x6_2 : Int).toNat : List Int)).bind fun y225 => (if y219.length + y225.length < 140737488355328 then (some (y219 ++ y225)) else (none))) else (none)) else (none)))) else (none)))) else (none))) = some r := by first | (rw [hy207]; with_reducible exact H) | (have H2_ := (Option.bind_some _ _).symm.trans H; rw [hy207]; with_reducible exact H2_) | (have H2_ := (Option.bind_some _ _).symm.trans H; with_reducible exact H2_) | with_reducible exact H | (rw [hy207]; exact H) | exact H
          have Ny207 := Aside0.mk hy207
          clear hy207
          replace H := Option.bind_eq_some_iff.mp H
          obtain ⟨t210, A200, H⟩ := H
          replace H : (if y207.length + t210.length < 140737488355328 then ((some (y207 ++ t210 : List Int)).bind fun y213 => ((some (([(a0_4 / 256) % 256, (a0_4) % 256] : List Int) : List Int)).bind fun y216 => (if y213.length + y216.length < 140737488355328 then ((some (y213 ++ y216 : List Int)).bind fun y219 => ((wayfarerlaw08_four.f a0_0).bind fun t222 => (if 0 ≤ x6_2 then (if x6_2 ≤ (t222.length : Int) then ((some (t222.take (x6_2 : Int).toNat : List Int)).bind fun y225 => (if y219.length + y225.length < 140737488355328 then (some (y219 ++ y225)) else (none))) else (none)) else (none)))) else (none)))) else (none)) = some r := H
          have A20 := Aside0.mk A200
          clear A200
          by_cases c21 : y207.length + t210.length < 140737488355328
          case neg =>
            rw [if_neg c21] at H; exact absurd H (by simp)
          rw [if_pos c21] at H; have LMc21 := Aside0.mk c21
          clear c21
          obtain ⟨y213, hy213⟩ : ∃ y_ : List Int, y_ = (y207 ++ t210) := ⟨_, rfl⟩
          replace H : ((some (([(a0_4 / 256) % 256, (a0_4) % 256] : List Int) : List Int)).bind fun y216 => (if y213.length + y216.length < 140737488355328 then ((some (y213 ++ y216 : List Int)).bind fun y219 => ((wayfarerlaw08_four.f a0_0).bind fun t222 => (if 0 ≤ x6_2 then (if x6_2 ≤ (t222.length : Int) then ((some (t222.take (x6_2 : Int).toNat : List Int)).bind fun y225 => (if y219.length + y225.length < 140737488355328 then (some (y219 ++ y225)) else (none))) else (none)) else (none)))) else (none))) = some r := by first | (rw [hy213]; with_reducible exact H) | (have H2_ := (Option.bind_some _ _).symm.trans H; rw [hy213]; with_reducible exact H2_) | (have H2_ := (Option.bind_some _ _).symm.trans H; with_reducible exact H2_) | with_reducible exact H | (rw [hy213]; exact H) | exact H
          have Ny213 := Aside0.mk hy213
          clear hy213
          obtain ⟨y216, hy216⟩ : ∃ y_ : List Int, y_ = (([(a0_4 / 256) % 256, (a0_4) % 256] : List Int)) := ⟨_, rfl⟩
          replace H : (if y213.length + y216.length < 140737488355328 then ((some (y213 ++ y216 : List Int)).bind fun y219 => ((wayfarerlaw08_four.f a0_0).bind fun t222 => (if 0 ≤ x6_2 then (if x6_2 ≤ (t222.length : Int) then ((some (t222.take (x6_2 : Int).toNat : List Int)).bind fun y225 => (if y219.length + y225.length < 140737488355328 then (some (y219 ++ y225)) else (none))) else (none)) else (none)))) else (none)) = some r := by first | (rw [hy216]; with_reducible exact H) | (have H2_ := (Option.bind_some _ _).symm.trans H; rw [hy216]; with_reducible exact H2_) | (have H2_ := (Option.bind_some _ _).symm.trans H; with_reducible exact H2_) | with_reducible exact H | (rw [hy216]; exact H) | exact H
          have Ny216 := Aside0.mk hy216
          clear hy216
          by_cases c22 : y213.length + y216.length < 140737488355328
          case neg =>
            rw [if_neg c22] at H; exact absurd H (by simp)
          rw [if_pos c22] at H; have LMc22 := Aside0.mk c22
          clear c22
          obtain ⟨y219, hy219⟩ : ∃ y_ : List Int, y_ = (y213 ++ y216) := ⟨_, rfl⟩
          replace H : ((wayfarerlaw08_four.f a0_0).bind fun t222 => (if 0 ≤ x6_2 then (if x6_2 ≤ (t222.length : Int) then ((some (t222.take (x6_2 : Int).toNat : List Int)).bind fun y225 => (if y219.length + y225.length < 140737488355328 then (some (y219 ++ y225)) else (none))) else (none)) else (none))) = some r := by first | (rw [hy219]; with_reducible exact H) | (have H2_ := (Option.bind_some _ _).symm.trans H; rw [hy219]; with_reducible exact H2_) | (have H2_ := (Option.bind_some _ _).symm.trans H; with_reducible exact H2_) | with_reducible exact H | (rw [hy219]; exact H) | exact H
          have Ny219 := Aside0.mk hy219
          clear hy219
          replace H := Option.bind_eq_some_iff.mp H
          obtain ⟨t222, A230, H⟩ := H
          replace H : (if 0 ≤ x6_2 then (if x6_2 ≤ (t222.length : Int) then ((some (t222.take (x6_2 : Int).toNat : List Int)).bind fun y225 => (if y219.length + y225.length < 140737488355328 then (some (y219 ++ y225)) else (none))) else (none)) else (none)) = some r := H
          have A23 := Aside0.mk A230
          clear A230
          by_cases c24 : 0 ≤ x6_2
          case neg =>
            rw [if_neg c24] at H; exact absurd H (by simp)
          rw [if_pos c24] at H; have c24b0 := eq_true c24
          have c24b1 : decide (0 ≤ x6_2) = true := decide_eq_true c24
          clear c24
          by_cases c25 : x6_2 ≤ (t222.length : Int)
          case neg =>
            rw [if_neg c25] at H; exact absurd H (by simp)
          rw [if_pos c25] at H; have c25b0 := eq_true c25
          have c25b1 : decide (x6_2 ≤ (t222.length : Int)) = true := decide_eq_true c25
          clear c25
          obtain ⟨y225, hy225⟩ : ∃ y_ : List Int, y_ = (t222.take (x6_2 : Int).toNat) := ⟨_, rfl⟩
          replace H : (if y219.length + y225.length < 140737488355328 then (some (y219 ++ y225)) else (none)) = some r := by first | (rw [hy225]; with_reducible exact H) | (have H2_ := (Option.bind_some _ _).symm.trans H; rw [hy225]; with_reducible exact H2_) | (have H2_ := (Option.bind_some _ _).symm.trans H; with_reducible exact H2_) | with_reducible exact H | (rw [hy225]; exact H) | exact H
          have Ny225 := Aside0.mk hy225
          clear hy225
          by_cases c26 : y219.length + y225.length < 140737488355328
          case neg =>
            rw [if_neg c26] at H; exact absurd H (by simp)
          rw [if_pos c26] at H; have LMc26 := Aside0.mk c26
          clear c26
          obtain ⟨y229, hy229⟩ : ∃ y_ : List Int, y_ = (y219 ++ y225) := ⟨_, rfl⟩
          replace H : (some y229) = some r := by first | (rw [hy229]; with_reducible exact H) | (have H2_ := (Option.bind_some _ _).symm.trans H; rw [hy229]; with_reducible exact H2_) | (have H2_ := (Option.bind_some _ _).symm.trans H; with_reducible exact H2_) | with_reducible exact H | (rw [hy229]; exact H) | exact H
          have Ny229 := Aside0.mk hy229
          clear hy229
          obtain rfl := Option.some.inj H
          have hcz27_0 : wr.cell? ⟨gb191, 0, none⟩ = some (.int .u32 a0_0) := (blk_cell BK191.out 0).trans rfl
          have hcz27_1 : wr.cell? ⟨gb191, 1, none⟩ = some (.int .i64 a0_1) := (blk_cell BK191.out 1).trans rfl
          have hcz27_2 : wr.cell? ⟨gb191, 2, none⟩ = some (.int .u32 a0_2) := (blk_cell BK191.out 2).trans rfl
          have hcz27_3 : wr.cell? ⟨gb191, 3, none⟩ = some (.int .u32 a0_3) := (blk_cell BK191.out 3).trans rfl
          have hcz27_4 : wr.cell? ⟨gb191, 4, none⟩ = some (.int .u16 a0_4) := (blk_cell BK191.out 4).trans rfl
          have hfz27_0 := blk_frozen BK191.out 0
          have hfz27_1 := blk_frozen BK191.out 1
          have hfz27_2 := blk_frozen BK191.out 2
          have hfz27_3 := blk_frozen BK191.out 3
          have hfz27_4 := blk_frozen BK191.out 4
          go_wp2_with (first | ((with_reducible refine gate_dst (N := 33) rfl ?_); refine Kd.R_lit (Kd.int .u8) _ 5 ?hg (N := 33) ?hd (xs := ([3, (wrap64 (7 + x6_2)) % 256, (a0_1) % 256] : List Int)) (inner := [.int .u8 3, .int .u8 ((wrap64 (7 + x6_2)) % 256), .int .u8 ((a0_1) % 256)]) (ok := fun _ => True) (okp := fun _ => True) ?hr ?hp (fun _ hk => hk) trivial (Below.refl _ _) (Nat.le_refl _) (by simp) ?_; (case hd => rfl); (case hg => rfl); (case hr => first | (go_simp; done) | (go_simp; rfl)); (case hp => exact (Reps.one (show Kd.M (Kd.int .u8) _ _ _ 3 [.int .u8 3] from rfl) (Reps.one (show Kd.M (Kd.int .u8) _ _ _ ((wrap64 (7 + x6_2)) % 256) [.int .u8 ((wrap64 (7 + x6_2)) % 256)] from rfl) (Reps.one (show Kd.M (Kd.int .u8) _ _ _ ((a0_1) % 256) [.int .u8 ((a0_1) % 256)] from rfl) (Reps.none _ _))))); intro v205 w28 ho29 hb hg_ hnew_; clear hg_ hnew_; (first | rw [← Ny204.out] at ho29 | (simp only [Int.reduceToNat] at ho29; rw [← Ny204.out] at ho29)); have n0_ := Aside0.mk (Kd.R_elder' (by (with_reducible repeat (first | apply Kd.R_alloc | apply Kd.R_drewN | apply Kd.R_drew)); exact HO_5.out) (Kd.R_base ho29) hb); have n1_ := Aside0.mk (Kd.R_lower (Kd.R_new' ho29 (Kd.R_lt (by (with_reducible repeat (first | apply Kd.R_alloc | apply Kd.R_drewN | apply Kd.R_drew)); exact HO_5.out))) (below_size (by repeat (first | (with_reducible first | exact HB.out | apply below_alloc | apply pw_below_drewN | apply below_drew1 | refine below_set ?_ GE191.out) | exact HB.out)))); have n2_ := Aside0.mk (blk_below (g := gb191) (o := .cells #[.int .u32 a0_0, .int .i64 a0_1, .int .u32 a0_2, .int .u32 a0_3, .int .u16 a0_4] 62 (0, 0)) (by (with_reducible repeat (first | refine blk_drewN ?_ _ | refine blk_drew ?_ | refine blk_alloc ?_ _)); exact BK191.out) hb); have n3_ := Aside0.mk (below_step (by repeat (first | (with_reducible first | exact HB.out | apply below_alloc | apply pw_below_drewN | apply below_drew1 | refine below_set ?_ GE191.out) | exact HB.out)) hb); clear HO_5; clear BK191; clear HB; have HO_5 := n0_; have HO206 := n1_; have BK191 := n2_; have HB := n3_; clear n0_ n1_ n2_ n3_; clear hb ho29; obtain ⟨Ao31, co31, eo31⟩ := Kd.R_slice HO206.out; subst eo31) | ((with_reducible refine gate_builtin (b := .append) (xs := #[.tmp 25, .tmp 33]) rfl ?_); at_builtin; refine Kd.R_append_rows (Kd.int .u8) (w0 := w) w.heap.size rfl (.tmp 25) (.tmp 33) 22 5 (.int .u8 0) 1 rfl Try.underlying22 info5 rfl (by decide) (by omega) u5 x5_2 y204 _ _ _ (fun k_ => some k_ ≠ (.slice Ao31 y204.length co31 : Value).ownBlock) (fun _ => False) rfl rfl ?aO ?aR (fun _ _ h => h) (fun _ h => h.elim) ?aF ?aB ?aS ?aL ?_; (case aR => repeat (first | exact (Kd.R_reads' HO206.out).2.2 | (with_reducible refine Kd.C_alloc ?_ _) | (with_reducible refine Kd.C_drewN ?_ _) | (with_reducible refine Kd.C_drew ?_))); (case aB => exact (by repeat (first | (with_reducible first | exact HB.out | apply below_alloc | apply pw_below_drewN | apply below_drew1 | refine below_set ?_ GE191.out) | exact HB.out))); (case aF => exact (fun k_ hk => Kd.fresh' (Kd.R_lt (by (with_reducible repeat (first | apply Kd.R_alloc | apply Kd.R_drewN | apply Kd.R_drew)); exact HO206.out)) k_ hk)); (case aO => exact (by (with_reducible repeat (first | apply Kd.R_alloc | apply Kd.R_drewN | apply Kd.R_drew)); exact Kd.R_mono HO_5.out (fun _ hk => hk.2))); (case aS => exact (below_size (by repeat (first | (with_reducible first | exact HB.out | apply below_alloc | apply pw_below_drewN | apply below_drew1 | refine below_set ?_ GE191.out) | exact HB.out)))); (case aL => have := LMc19.out; omega); intro v208 w30 ho hb hg hat; rw [← Ny207.out] at ho; have n0_ := Aside0.mk (blk_grown (g := gb191) (o := .cells #[.int .u32 a0_0, .int .i64 a0_1, .int .u32 a0_2, .int .u32 a0_3, .int .u16 a0_4] 62 (0, 0)) (by (with_reducible repeat (first | refine blk_drewN ?_ _ | refine blk_drew ?_ | refine blk_alloc ?_ _)); exact BK191.out) hg (Kd.R_ne HO_5.out BK191.out (by decide))); have n1_ := Aside0.mk (Kd.R_after (ok := (fun _ => True)) (by (with_reducible repeat (first | apply Kd.R_alloc | apply Kd.R_drewN | apply Kd.R_drew)); exact HO206.out) hg hat); have n2_ := Aside0.mk (hb); have n3_ := Aside0.mk (ho); clear BK191; clear HO206; clear HB; clear HO_5; have BK191 := n0_; have HO206 := n1_; have HB := n2_; have HO209 := n3_; clear n0_ n1_ n2_ n3_; clear ho hb hg hat; have hcz32_0 : w30.cell? ⟨gb191, 0, none⟩ = some (.int .u32 a0_0) := (blk_cell BK191.out 0).trans rfl; have hcz32_1 : w30.cell? ⟨gb191, 1, none⟩ = some (.int .i64 a0_1) := (blk_cell BK191.out 1).trans rfl; have hcz32_2 : w30.cell? ⟨gb191, 2, none⟩ = some (.int .u32 a0_2) := (blk_cell BK191.out 2).trans rfl; have hcz32_3 : w30.cell? ⟨gb191, 3, none⟩ = some (.int .u32 a0_3) := (blk_cell BK191.out 3).trans rfl; have hcz32_4 : w30.cell? ⟨gb191, 4, none⟩ = some (.int .u16 a0_4) := (blk_cell BK191.out 4).trans rfl; have hfz32_0 := blk_frozen BK191.out 0; have hfz32_1 := blk_frozen BK191.out 1; have hfz32_2 := blk_frozen BK191.out 2; have hfz32_3 := blk_frozen BK191.out 3; have hfz32_4 := blk_frozen BK191.out 4) | ((with_reducible refine gate_callee (f := 57) rfl ?_); refine goesL_ (some 39) rfl rfl Try.func57 (by kernel_rfl) rfl #[.int .u32 a0_3] rfl (by (try simp only [List.map_toArray, List.map_cons, List.map_nil]); first | done | rfl | (simp only [List.length_drop, List.length_take]; rfl)) ?_; (with_reducible refine (wayfarerlaw08_four.calls a0_3 t210 _ A20.out).mono ?_); rintro e w33 ⟨v211, rfl, ho0, hb⟩; refine ⟨_, rfl, ?_⟩; have n0_ := Aside0.mk (Kd.R_elder' (by (with_reducible repeat (first | apply Kd.R_alloc | apply Kd.R_drewN | apply Kd.R_drew)); exact HO206.out) (Kd.R_base ho0) hb); have n1_ := Aside0.mk (Kd.R_elder' (by (with_reducible repeat (first | apply Kd.R_alloc | apply Kd.R_drewN | apply Kd.R_drew)); exact HO209.out) (Kd.R_base ho0) hb); have n2_ := Aside0.mk (Kd.R_lower (Kd.R_new' (Kd.R_new' ho0 (Kd.R_lt (by (with_reducible repeat (first | apply Kd.R_alloc | apply Kd.R_drewN | apply Kd.R_drew)); exact HO206.out))) (Kd.R_lt (by (with_reducible repeat (first | apply Kd.R_alloc | apply Kd.R_drewN | apply Kd.R_drew)); exact HO209.out))) (below_size (by repeat (first | (with_reducible first | exact HB.out | apply below_alloc | apply pw_below_drewN | apply below_drew1 | refine below_set ?_ GE191.out) | exact HB.out)))); have n3_ := Aside0.mk (blk_below (g := gb191) (o := .cells #[.int .u32 a0_0, .int .i64 a0_1, .int .u32 a0_2, .int .u32 a0_3, .int .u16 a0_4] 62 (0, 0)) (by (with_reducible repeat (first | refine blk_drewN ?_ _ | refine blk_drew ?_ | refine blk_alloc ?_ _)); exact BK191.out) hb); have n4_ := Aside0.mk (below_step (by repeat (first | (with_reducible first | exact HB.out | apply below_alloc | apply pw_below_drewN | apply below_drew1 | refine below_set ?_ GE191.out) | exact HB.out)) hb); clear HO206; clear HO209; clear BK191; clear HB; have HO206 := n0_; have HO209 := n1_; have HO212 := n2_; have BK191 := n3_; have HB := n4_; clear n0_ n1_ n2_ n3_ n4_; (try clear hb); (try clear hb2); (try clear hk); (try clear hi); (try clear ho0); obtain ⟨Ao35, co35, eo35⟩ := Kd.R_slice HO212.out; subst eo35) | ((with_reducible refine gate_builtin (b := .append) (xs := #[.tmp 35, .tmp 39]) rfl ?_); at_builtin; refine Kd.R_append_rows (Kd.int .u8) (w0 := w) w.heap.size rfl (.tmp 35) (.tmp 39) 22 5 (.int .u8 0) 1 rfl Try.underlying22 info5 rfl (by decide) (by omega) v208 y207 t210 _ _ _ (fun k_ => some k_ ≠ (.slice Ao31 y204.length co31 : Value).ownBlock ∧ some k_ ≠ (.slice Ao35 t210.length co35 : Value).ownBlock) (fun _ => False) rfl rfl ?aO ?aR (fun _ _ h => h) (fun _ h => h.elim) ?aF ?aB ?aS ?aL ?_; (case aR => repeat (first | exact (Kd.R_reads' HO212.out).2.2 | (with_reducible refine Kd.C_alloc ?_ _) | (with_reducible refine Kd.C_drewN ?_ _) | (with_reducible refine Kd.C_drew ?_))); (case aB => exact (by repeat (first | (with_reducible first | exact HB.out | apply below_alloc | apply pw_below_drewN | apply below_drew1 | refine below_set ?_ GE191.out) | exact HB.out))); (case aF => exact (fun k_ hk => ⟨Kd.fresh' (Kd.R_lt (by (with_reducible repeat (first | apply Kd.R_alloc | apply Kd.R_drewN | apply Kd.R_drew)); exact HO206.out)) k_ hk, Kd.fresh' (Kd.R_lt (by (with_reducible repeat (first | apply Kd.R_alloc | apply Kd.R_drewN | apply Kd.R_drew)); exact HO212.out)) k_ hk⟩)); (case aO => exact (by (with_reducible repeat (first | apply Kd.R_alloc | apply Kd.R_drewN | apply Kd.R_drew)); exact HO209.out)); (case aS => exact (below_size (by repeat (first | (with_reducible first | exact HB.out | apply below_alloc | apply pw_below_drewN | apply below_drew1 | refine below_set ?_ GE191.out) | exact HB.out)))); (case aL => have := LMc21.out; omega); intro v214 w34 ho hb hg hat; rw [← Ny213.out] at ho; have n0_ := Aside0.mk (blk_grown (g := gb191) (o := .cells #[.int .u32 a0_0, .int .i64 a0_1, .int .u32 a0_2, .int .u32 a0_3, .int .u16 a0_4] 62 (0, 0)) (by (with_reducible repeat (first | refine blk_drewN ?_ _ | refine blk_drew ?_ | refine blk_alloc ?_ _)); exact BK191.out) hg (Kd.R_ne HO209.out BK191.out (by decide))); have n1_ := Aside0.mk (Kd.R_after (ok := (fun k_ => some k_ ≠ (.slice Ao35 t210.length co35 : Value).ownBlock)) (by (with_reducible repeat (first | apply Kd.R_alloc | apply Kd.R_drewN | apply Kd.R_drew)); exact Kd.R_mono HO206.out (fun _ hk => ⟨hk.2, hk.1.2⟩)) hg hat); have n2_ := Aside0.mk (Kd.R_after (ok := (fun k_ => some k_ ≠ (.slice Ao31 y204.length co31 : Value).ownBlock)) (by (with_reducible repeat (first | apply Kd.R_alloc | apply Kd.R_drewN | apply Kd.R_drew)); exact Kd.R_mono HO212.out (fun _ hk => ⟨hk.1.2, hk.2⟩)) hg hat); have n3_ := Aside0.mk (hb); have n4_ := Aside0.mk (ho); clear BK191; clear HO206; clear HO212; clear HB; clear HO209; have BK191 := n0_; have HO206 := n1_; have HO212 := n2_; have HB := n3_; have HO215 := n4_; clear n0_ n1_ n2_ n3_ n4_; clear ho hb hg hat; have hcz36_0 : w34.cell? ⟨gb191, 0, none⟩ = some (.int .u32 a0_0) := (blk_cell BK191.out 0).trans rfl; have hcz36_1 : w34.cell? ⟨gb191, 1, none⟩ = some (.int .i64 a0_1) := (blk_cell BK191.out 1).trans rfl; have hcz36_2 : w34.cell? ⟨gb191, 2, none⟩ = some (.int .u32 a0_2) := (blk_cell BK191.out 2).trans rfl; have hcz36_3 : w34.cell? ⟨gb191, 3, none⟩ = some (.int .u32 a0_3) := (blk_cell BK191.out 3).trans rfl; have hcz36_4 : w34.cell? ⟨gb191, 4, none⟩ = some (.int .u16 a0_4) := (blk_cell BK191.out 4).trans rfl; have hfz36_0 := blk_frozen BK191.out 0; have hfz36_1 := blk_frozen BK191.out 1; have hfz36_2 := blk_frozen BK191.out 2; have hfz36_3 := blk_frozen BK191.out 3; have hfz36_4 := blk_frozen BK191.out 4) | ((with_reducible refine gate_dst (N := 51) rfl ?_); refine Kd.R_lit (Kd.int .u8) _ 5 ?hg (N := 51) ?hd (xs := ([(a0_4 / 256) % 256, (a0_4) % 256] : List Int)) (inner := [.int .u8 ((a0_4 / 256) % 256), .int .u8 ((a0_4) % 256)]) (ok := fun _ => True) (okp := fun _ => True) ?hr ?hp (fun _ hk => hk) trivial (Below.refl _ _) (Nat.le_refl _) (by simp) ?_; (case hd => rfl); (case hg => rfl); (case hr => first | (go_simp; done) | (go_simp; rfl)); (case hp => exact (Reps.one (show Kd.M (Kd.int .u8) _ _ _ ((a0_4 / 256) % 256) [.int .u8 ((a0_4 / 256) % 256)] from rfl) (Reps.one (show Kd.M (Kd.int .u8) _ _ _ ((a0_4) % 256) [.int .u8 ((a0_4) % 256)] from rfl) (Reps.none _ _)))); intro v217 w37 ho38 hb hg_ hnew_; clear hg_ hnew_; (first | rw [← Ny216.out] at ho38 | (simp only [Int.reduceToNat] at ho38; rw [← Ny216.out] at ho38)); have n0_ := Aside0.mk (Kd.R_elder' (by (with_reducible repeat (first | apply Kd.R_alloc | apply Kd.R_drewN | apply Kd.R_drew)); exact HO206.out) (Kd.R_base ho38) hb); have n1_ := Aside0.mk (Kd.R_elder' (by (with_reducible repeat (first | apply Kd.R_alloc | apply Kd.R_drewN | apply Kd.R_drew)); exact HO212.out) (Kd.R_base ho38) hb); have n2_ := Aside0.mk (Kd.R_elder' (by (with_reducible repeat (first | apply Kd.R_alloc | apply Kd.R_drewN | apply Kd.R_drew)); exact HO215.out) (Kd.R_base ho38) hb); have n3_ := Aside0.mk (Kd.R_lower (Kd.R_new' (Kd.R_new' (Kd.R_new' ho38 (Kd.R_lt (by (with_reducible repeat (first | apply Kd.R_alloc | apply Kd.R_drewN | apply Kd.R_drew)); exact HO206.out))) (Kd.R_lt (by (with_reducible repeat (first | apply Kd.R_alloc | apply Kd.R_drewN | apply Kd.R_drew)); exact HO212.out))) (Kd.R_lt (by (with_reducible repeat (first | apply Kd.R_alloc | apply Kd.R_drewN | apply Kd.R_drew)); exact HO215.out))) (below_size (by repeat (first | (with_reducible first | exact HB.out | apply below_alloc | apply pw_below_drewN | apply below_drew1 | refine below_set ?_ GE191.out) | exact HB.out)))); have n4_ := Aside0.mk (blk_below (g := gb191) (o := .cells #[.int .u32 a0_0, .int .i64 a0_1, .int .u32 a0_2, .int .u32 a0_3, .int .u16 a0_4] 62 (0, 0)) (by (with_reducible repeat (first | refine blk_drewN ?_ _ | refine blk_drew ?_ | refine blk_alloc ?_ _)); exact BK191.out) hb); have n5_ := Aside0.mk (below_step (by repeat (first | (with_reducible first | exact HB.out | apply below_alloc | apply pw_below_drewN | apply below_drew1 | refine below_set ?_ GE191.out) | exact HB.out)) hb); clear HO206; clear HO212; clear HO215; clear BK191; clear HB; have HO206 := n0_; have HO212 := n1_; have HO215 := n2_; have HO218 := n3_; have BK191 := n4_; have HB := n5_; clear n0_ n1_ n2_ n3_ n4_ n5_; clear hb ho38; obtain ⟨Ao40, co40, eo40⟩ := Kd.R_slice HO218.out; subst eo40) | ((with_reducible refine gate_builtin (b := .append) (xs := #[.tmp 41, .tmp 51]) rfl ?_); at_builtin; refine Kd.R_append_rows (Kd.int .u8) (w0 := w) w.heap.size rfl (.tmp 41) (.tmp 51) 22 5 (.int .u8 0) 1 rfl Try.underlying22 info5 rfl (by decide) (by omega) v214 y213 y216 _ _ _ (fun k_ => some k_ ≠ (.slice Ao31 y204.length co31 : Value).ownBlock ∧ some k_ ≠ (.slice Ao35 t210.length co35 : Value).ownBlock ∧ some k_ ≠ (.slice Ao40 y216.length co40 : Value).ownBlock) (fun _ => False) rfl rfl ?aO ?aR (fun _ _ h => h) (fun _ h => h.elim) ?aF ?aB ?aS ?aL ?_; (case aR => repeat (first | exact (Kd.R_reads' HO218.out).2.2 | (with_reducible refine Kd.C_alloc ?_ _) | (with_reducible refine Kd.C_drewN ?_ _) | (with_reducible refine Kd.C_drew ?_))); (case aB => exact (by repeat (first | (with_reducible first | exact HB.out | apply below_alloc | apply pw_below_drewN | apply below_drew1 | refine below_set ?_ GE191.out) | exact HB.out))); (case aF => exact (fun k_ hk => ⟨Kd.fresh' (Kd.R_lt (by (with_reducible repeat (first | apply Kd.R_alloc | apply Kd.R_drewN | apply Kd.R_drew)); exact HO206.out)) k_ hk, Kd.fresh' (Kd.R_lt (by (with_reducible repeat (first | apply Kd.R_alloc | apply Kd.R_drewN | apply Kd.R_drew)); exact HO212.out)) k_ hk, Kd.fresh' (Kd.R_lt (by (with_reducible repeat (first | apply Kd.R_alloc | apply Kd.R_drewN | apply Kd.R_drew)); exact HO218.out)) k_ hk⟩)); (case aO => exact (by (with_reducible repeat (first | apply Kd.R_alloc | apply Kd.R_drewN | apply Kd.R_drew)); exact Kd.R_mono HO215.out (fun _ hk => ⟨hk.1.1, ⟨hk.1.2, hk.2⟩⟩))); (case aS => exact (below_size (by repeat (first | (with_reducible first | exact HB.out | apply below_alloc | apply pw_below_drewN | apply below_drew1 | refine below_set ?_ GE191.out) | exact HB.out)))); (case aL => have := LMc22.out; omega); intro v220 w39 ho hb hg hat; rw [← Ny219.out] at ho; have n0_ := Aside0.mk (blk_grown (g := gb191) (o := .cells #[.int .u32 a0_0, .int .i64 a0_1, .int .u32 a0_2, .int .u32 a0_3, .int .u16 a0_4] 62 (0, 0)) (by (with_reducible repeat (first | refine blk_drewN ?_ _ | refine blk_drew ?_ | refine blk_alloc ?_ _)); exact BK191.out) hg (Kd.R_ne HO215.out BK191.out (by decide))); have n1_ := Aside0.mk (Kd.R_after (ok := (fun k_ => some k_ ≠ (.slice Ao35 t210.length co35 : Value).ownBlock ∧ some k_ ≠ (.slice Ao40 y216.length co40 : Value).ownBlock)) (by (with_reducible repeat (first | apply Kd.R_alloc | apply Kd.R_drewN | apply Kd.R_drew)); exact Kd.R_mono HO206.out (fun _ hk => ⟨⟨hk.1.1, hk.2⟩, hk.1.2⟩)) hg hat); have n2_ := Aside0.mk (Kd.R_after (ok := (fun k_ => some k_ ≠ (.slice Ao31 y204.length co31 : Value).ownBlock ∧ some k_ ≠ (.slice Ao40 y216.length co40 : Value).ownBlock)) (by (with_reducible repeat (first | apply Kd.R_alloc | apply Kd.R_drewN | apply Kd.R_drew)); exact Kd.R_mono HO212.out (fun _ hk => ⟨⟨hk.1.1, hk.2⟩, hk.1.2⟩)) hg hat); have n3_ := Aside0.mk (Kd.R_after (ok := (fun k_ => some k_ ≠ (.slice Ao31 y204.length co31 : Value).ownBlock ∧ some k_ ≠ (.slice Ao35 t210.length co35 : Value).ownBlock)) (by (with_reducible repeat (first | apply Kd.R_alloc | apply Kd.R_drewN | apply Kd.R_drew)); exact Kd.R_mono HO218.out (fun _ hk => ⟨⟨hk.1.1.2, hk.1.2⟩, hk.2⟩)) hg hat); have n4_ := Aside0.mk (hb); have n5_ := Aside0.mk (ho); clear BK191; clear HO206; clear HO212; clear HO218; clear HB; clear HO215; have BK191 := n0_; have HO206 := n1_; have HO212 := n2_; have HO218 := n3_; have HB := n4_; have HO221 := n5_; clear n0_ n1_ n2_ n3_ n4_ n5_; clear ho hb hg hat; have hcz41_0 : w39.cell? ⟨gb191, 0, none⟩ = some (.int .u32 a0_0) := (blk_cell BK191.out 0).trans rfl; have hcz41_1 : w39.cell? ⟨gb191, 1, none⟩ = some (.int .i64 a0_1) := (blk_cell BK191.out 1).trans rfl; have hcz41_2 : w39.cell? ⟨gb191, 2, none⟩ = some (.int .u32 a0_2) := (blk_cell BK191.out 2).trans rfl; have hcz41_3 : w39.cell? ⟨gb191, 3, none⟩ = some (.int .u32 a0_3) := (blk_cell BK191.out 3).trans rfl; have hcz41_4 : w39.cell? ⟨gb191, 4, none⟩ = some (.int .u16 a0_4) := (blk_cell BK191.out 4).trans rfl; have hfz41_0 := blk_frozen BK191.out 0; have hfz41_1 := blk_frozen BK191.out 1; have hfz41_2 := blk_frozen BK191.out 2; have hfz41_3 := blk_frozen BK191.out 3; have hfz41_4 := blk_frozen BK191.out 4) | ((with_reducible refine gate_callee (f := 57) rfl ?_); refine goesL_ (some 57) rfl rfl Try.func57 (by kernel_rfl) rfl #[.int .u32 a0_0] rfl (by (try simp only [List.map_toArray, List.map_cons, List.map_nil]); first | done | rfl | (simp only [List.length_drop, List.length_take]; rfl)) ?_; (with_reducible refine (wayfarerlaw08_four.calls a0_0 t222 _ A23.out).mono ?_); rintro e w42 ⟨v223, rfl, ho0, hb⟩; refine ⟨_, rfl, ?_⟩; have n0_ := Aside0.mk (Kd.R_elder' (by (with_reducible repeat (first | apply Kd.R_alloc | apply Kd.R_drewN | apply Kd.R_drew)); exact HO206.out) (Kd.R_base ho0) hb); have n1_ := Aside0.mk (Kd.R_elder' (by (with_reducible repeat (first | apply Kd.R_alloc | apply Kd.R_drewN | apply Kd.R_drew)); exact HO212.out) (Kd.R_base ho0) hb); have n2_ := Aside0.mk (Kd.R_elder' (by (with_reducible repeat (first | apply Kd.R_alloc | apply Kd.R_drewN | apply Kd.R_drew)); exact HO218.out) (Kd.R_base ho0) hb); have n3_ := Aside0.mk (Kd.R_elder' (by (with_reducible repeat (first | apply Kd.R_alloc | apply Kd.R_drewN | apply Kd.R_drew)); exact HO221.out) (Kd.R_base ho0) hb); have n4_ := Aside0.mk (Kd.R_lower (Kd.R_new' (Kd.R_new' (Kd.R_new' (Kd.R_new' ho0 (Kd.R_lt (by (with_reducible repeat (first | apply Kd.R_alloc | apply Kd.R_drewN | apply Kd.R_drew)); exact HO206.out))) (Kd.R_lt (by (with_reducible repeat (first | apply Kd.R_alloc | apply Kd.R_drewN | apply Kd.R_drew)); exact HO212.out))) (Kd.R_lt (by (with_reducible repeat (first | apply Kd.R_alloc | apply Kd.R_drewN | apply Kd.R_drew)); exact HO218.out))) (Kd.R_lt (by (with_reducible repeat (first | apply Kd.R_alloc | apply Kd.R_drewN | apply Kd.R_drew)); exact HO221.out))) (below_size (by repeat (first | (with_reducible first | exact HB.out | apply below_alloc | apply pw_below_drewN | apply below_drew1 | refine below_set ?_ GE191.out) | exact HB.out)))); have n5_ := Aside0.mk (blk_below (g := gb191) (o := .cells #[.int .u32 a0_0, .int .i64 a0_1, .int .u32 a0_2, .int .u32 a0_3, .int .u16 a0_4] 62 (0, 0)) (by (with_reducible repeat (first | refine blk_drewN ?_ _ | refine blk_drew ?_ | refine blk_alloc ?_ _)); exact BK191.out) hb); have n6_ := Aside0.mk (below_step (by repeat (first | (with_reducible first | exact HB.out | apply below_alloc | apply pw_below_drewN | apply below_drew1 | refine below_set ?_ GE191.out) | exact HB.out)) hb); clear HO206; clear HO212; clear HO218; clear HO221; clear BK191; clear HB; have HO206 := n0_; have HO212 := n1_; have HO218 := n2_; have HO221 := n3_; have HO224 := n4_; have BK191 := n5_; have HB := n6_; clear n0_ n1_ n2_ n3_ n4_ n5_ n6_; (try clear hb); (try clear hb2); (try clear hk); (try clear hi); (try clear ho0); obtain ⟨Ao44, co44, eo44⟩ := Kd.R_slice HO224.out; subst eo44; have q43 : (x6_2 : Int) ≤ ((t222.length : Int) : Int) := of_decide_eq_true (by first | (with_reducible assumption) | assumption); obtain ⟨i043, hi043, _, hsz43, _⟩ := info_parts info5; have hroom43 : t222.length ≤ co44 := (Kd.R_reads' HO224.out).2.1; have hC43 : Kd.C (Kd.int .u8) _ Ao44 t222.length t222 := (Kd.R_reads' HO224.out).2.2; have hcut43 := cut_to (P := Try.prog) 22 5 .i64 Try.underlying22 hi043 Ao44 t222.length co44 x6_2 (of_decide_eq_true (by first | (with_reducible assumption) | assumption)) q43 hroom43; have hr43 := Kd.C_take (m := (x6_2 : Int).toNat) hC43 (by omega); have hy43 : y225.length = (x6_2 : Int).toNat := (by rw [Ny225.out, List.length_take]; omega); rw [← Ny225.out] at hr43; rw [← hy43] at hcut43; have HR228 := Aside0.mk hr43; have HC228 := Aside0.mk (show y225.length ≤ co44 from by omega); clear hr43 hC43 hroom43 hi043 hsz43; have KY43 := Aside0.mk hy43; clear hy43; have KL43 := Aside0.mk (show (x6_2 : Int).toNat ≤ t222.length from by omega); replace q43 := eq_true q43) | ((with_reducible refine gate_builtin (b := .append) (xs := #[.tmp 53, .tmp 59]) rfl ?_); at_builtin; refine Kd.R_append_rows (Kd.int .u8) (w0 := w) w.heap.size rfl (.tmp 53) (.tmp 59) 22 5 (.int .u8 0) 1 rfl Try.underlying22 info5 rfl (by decide) (by omega) v220 y219 y225 _ _ _ (fun k_ => some k_ ≠ (.slice Ao31 y204.length co31 : Value).ownBlock ∧ some k_ ≠ (.slice Ao35 t210.length co35 : Value).ownBlock ∧ some k_ ≠ (.slice Ao40 y216.length co40 : Value).ownBlock ∧ some k_ ≠ (.slice Ao44 t222.length co44 : Value).ownBlock) (fun _ => False) rfl rfl ?aO ?aR (fun _ _ h => h) (fun _ h => h.elim) ?aF ?aB ?aS ?aL ?_; (case aR => repeat (first | exact (by repeat (first | (with_reducible exact HR228.out) | (with_reducible refine Kd.C_alloc ?_ _) | (with_reducible refine Kd.C_drewN ?_ _) | (with_reducible refine Kd.C_drew ?_) | exact HR228.out)) | (with_reducible refine Kd.C_alloc ?_ _) | (with_reducible refine Kd.C_drewN ?_ _) | (with_reducible refine Kd.C_drew ?_))); (case aB => exact (by repeat (first | (with_reducible first | exact HB.out | apply below_alloc | apply pw_below_drewN | apply below_drew1 | refine below_set ?_ GE191.out) | exact HB.out))); (case aF => exact (fun k_ hk => ⟨Kd.fresh' (Kd.R_lt (by (with_reducible repeat (first | apply Kd.R_alloc | apply Kd.R_drewN | apply Kd.R_drew)); exact HO206.out)) k_ hk, Kd.fresh' (Kd.R_lt (by (with_reducible repeat (first | apply Kd.R_alloc | apply Kd.R_drewN | apply Kd.R_drew)); exact HO212.out)) k_ hk, Kd.fresh' (Kd.R_lt (by (with_reducible repeat (first | apply Kd.R_alloc | apply Kd.R_drewN | apply Kd.R_drew)); exact HO218.out)) k_ hk, Kd.fresh' (Kd.R_lt (by (with_reducible repeat (first | apply Kd.R_alloc | apply Kd.R_drewN | apply Kd.R_drew)); exact HO224.out)) k_ hk⟩)); (case aO => exact (by (with_reducible repeat (first | apply Kd.R_alloc | apply Kd.R_drewN | apply Kd.R_drew)); exact Kd.R_mono HO221.out (fun _ hk => ⟨hk.1.1, ⟨hk.1.2.1, ⟨hk.1.2.2, hk.2⟩⟩⟩))); (case aS => exact (below_size (by repeat (first | (with_reducible first | exact HB.out | apply below_alloc | apply pw_below_drewN | apply below_drew1 | refine below_set ?_ GE191.out) | exact HB.out)))); (case aL => have := LMc26.out; omega); intro v230 w45 ho hb hg hat; rw [← Ny229.out] at ho; have n0_ := Aside0.mk (blk_grown (g := gb191) (o := .cells #[.int .u32 a0_0, .int .i64 a0_1, .int .u32 a0_2, .int .u32 a0_3, .int .u16 a0_4] 62 (0, 0)) (by (with_reducible repeat (first | refine blk_drewN ?_ _ | refine blk_drew ?_ | refine blk_alloc ?_ _)); exact BK191.out) hg (Kd.R_ne HO221.out BK191.out (by decide))); have n1_ := Aside0.mk (Kd.R_after (ok := (fun k_ => some k_ ≠ (.slice Ao35 t210.length co35 : Value).ownBlock ∧ some k_ ≠ (.slice Ao40 y216.length co40 : Value).ownBlock ∧ some k_ ≠ (.slice Ao44 t222.length co44 : Value).ownBlock)) (by (with_reducible repeat (first | apply Kd.R_alloc | apply Kd.R_drewN | apply Kd.R_drew)); exact Kd.R_mono HO206.out (fun _ hk => ⟨⟨hk.1.1.1, ⟨hk.1.1.2, hk.2⟩⟩, hk.1.2⟩)) hg hat); have n2_ := Aside0.mk (Kd.R_after (ok := (fun k_ => some k_ ≠ (.slice Ao31 y204.length co31 : Value).ownBlock ∧ some k_ ≠ (.slice Ao40 y216.length co40 : Value).ownBlock ∧ some k_ ≠ (.slice Ao44 t222.length co44 : Value).ownBlock)) (by (with_reducible repeat (first | apply Kd.R_alloc | apply Kd.R_drewN | apply Kd.R_drew)); exact Kd.R_mono HO212.out (fun _ hk => ⟨⟨hk.1.1.1, ⟨hk.1.1.2, hk.2⟩⟩, hk.1.2⟩)) hg hat); have n3_ := Aside0.mk (Kd.R_after (ok := (fun k_ => some k_ ≠ (.slice Ao31 y204.length co31 : Value).ownBlock ∧ some k_ ≠ (.slice Ao35 t210.length co35 : Value).ownBlock ∧ some k_ ≠ (.slice Ao44 t222.length co44 : Value).ownBlock)) (by (with_reducible repeat (first | apply Kd.R_alloc | apply Kd.R_drewN | apply Kd.R_drew)); exact Kd.R_mono HO218.out (fun _ hk => ⟨⟨hk.1.1.1, ⟨hk.1.1.2, hk.2⟩⟩, hk.1.2⟩)) hg hat); have n4_ := Aside0.mk (Kd.R_after (ok := (fun k_ => some k_ ≠ (.slice Ao31 y204.length co31 : Value).ownBlock ∧ some k_ ≠ (.slice Ao35 t210.length co35 : Value).ownBlock ∧ some k_ ≠ (.slice Ao40 y216.length co40 : Value).ownBlock)) (by (with_reducible repeat (first | apply Kd.R_alloc | apply Kd.R_drewN | apply Kd.R_drew)); exact Kd.R_mono HO224.out (fun _ hk => ⟨⟨hk.1.1.1.2, ⟨hk.1.1.2, hk.1.2⟩⟩, hk.2⟩)) hg hat); have n5_ := Aside0.mk (hb); have n6_ := Aside0.mk ((show Kd.C (Kd.int .u8) w45 Ao44 y225.length y225 from by rw [Ny225.out]; exact Kd.C_take (m := (x6_2 : Int).toNat) ((Kd.R_reads' (Kd.R_after (ok := (fun k_ => some k_ ≠ (.slice Ao31 y204.length co31 : Value).ownBlock ∧ some k_ ≠ (.slice Ao35 t210.length co35 : Value).ownBlock ∧ some k_ ≠ (.slice Ao40 y216.length co40 : Value).ownBlock)) (by (with_reducible repeat (first | apply Kd.R_alloc | apply Kd.R_drewN | apply Kd.R_drew)); exact Kd.R_mono HO224.out (fun _ hk => ⟨⟨hk.1.1.1.2, ⟨hk.1.1.2, hk.1.2⟩⟩, hk.2⟩)) hg hat)).2.2) KL43.out)); have n7_ := Aside0.mk (ho); clear BK191; clear HO206; clear HO212; clear HO218; clear HO224; clear HB; clear HR228; clear HO221; have BK191 := n0_; have HO206 := n1_; have HO212 := n2_; have HO218 := n3_; have HO224 := n4_; have HB := n5_; have HR228 := n6_; have HO231 := n7_; clear n0_ n1_ n2_ n3_ n4_ n5_ n6_ n7_; clear ho hb hg hat))
          go_ret
          exact ⟨_, by first | rfl | (simp [errW_none, errW_some] <;> rfl) | (simp [*, errW_none, errW_some] <;> rfl), by (with_reducible repeat (first | apply Kd.R_alloc | apply Kd.R_drewN | apply Kd.R_drew)); exact Kd.R_mono HO231.out (fun _ hk => trivial), by repeat (first | (with_reducible first | exact HB.out | apply below_alloc | apply pw_below_drewN | apply below_drew1 | refine below_set ?_ GE191.out) | exact HB.out)⟩
end Go.Proofs.YtgmdjhokcipajaaQ.PTlv
