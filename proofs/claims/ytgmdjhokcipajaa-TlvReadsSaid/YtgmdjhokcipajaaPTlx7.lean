-- written by this session's turned copy of the kit's print.py; Lean checks it
import Derived.Test.YtgmdjhokcipajaaPTlx0
import Derived.Test.YtgmdjhokcipajaaPTlx1
import Derived.Test.YtgmdjhokcipajaaPTlx4
import Derived.Test.YtgmdjhokcipajaaPTlx6
namespace Go.Proofs.YtgmdjhokcipajaaQ.PTlx
open Go.RowKit Go.Proofs.YtgmdjhokcipajaaW.PrintWords Go.Proofs.YtgmdjhokcipajaaW.PrintLast Go.Proofs.YtgmdjhokcipajaaW.PrintMore
attribute [local go_sem] max2_int min2_int max_two min_two max_three min_three max_four min_four   -- for this text's walks alone
set_option linter.unusedVariables false
set_option linter.unusedSimpArgs false

attribute [local go_sem high] eqA62
/-! ### wayfarerlaw08_head: function 34 -/
-- EXT wayfarer/wayfarerlaw08.head | making=1 | rounds=0
def wayfarerlaw08_head.f : Option Bool := some true
def wayfarerlaw08_head.pg : List Int := [87, 1, 0, 16, 2, 4, 0, 0, 0, 9, 3, 8, 8, 0, 0, 0, 3, 0, 2, 10]
theorem wayfarerlaw08_head.enc : tlv_Encode.f 12 [⟨⟨167772160, 8⟩, 9, ⟨3, 2⟩⟩] = some [wayfarerlaw08_head.pg] := by kernel_rfl
theorem wayfarerlaw08_head.dec : tlv_Decode.f 40 wayfarerlaw08_head.pg = some ([⟨⟨167772160, 8⟩, 9, ⟨3, 2⟩⟩], true) := by kernel_rfl
open Go.Proofs.Ytgmdjhokcipajaa (draw_start draw_chunk draw_eff draw_done ci_step ci_call ci_off ci_end Later bcell below_dd below_two undrew)
set_option maxHeartbeats 2000000 in
theorem wayfarerlaw08_head.calls (r : Bool) (w : World) (h : wayfarerlaw08_head.f = some r) : Calls Try.prog 34 #[] w fun e w' => e = .returned (.bool r) ∧ Below w.heap.size w w' := by
  obtain rfl := Option.some.inj h
  clear h
  go_enter Try.func34, Try.ntmps34
  have kB := Ytgmdjhokcipajaa.Blk.new w 62 #[.int .u32 167772160, .int .i64 8, .int .u32 9, .int .u32 3, .int .u16 2]
  have kC := Ytgmdjhokcipajaa.Blk.new (w.alloc (.cells #[.int .u32 167772160, .int .i64 8, .int .u32 9, .int .u32 3, .int .u16 2] 62)) 62 #[.int .u32 167772160, .int .i64 8, .int .u32 9, .int .u32 3, .int .u16 2]
  have hb := ((Below.refl w.heap.size w).alloc (Nat.le_refl _) (.cells #[.int .u32 167772160, .int .i64 8, .int .u32 9, .int .u32 3, .int .u16 2] 62)).alloc (by simp) (.cells #[.int .u32 167772160, .int .i64 8, .int .u32 9, .int .u32 3, .int .u16 2] 62)
  replace kB := kB.alloc (.cells #[.int .u32 167772160, .int .i64 8, .int .u32 9, .int .u32 3, .int .u16 2] 62)
  simp only [World.size_alloc] at kC
  go_wp2_with fail
  generalize (w.alloc (.cells #[.int .u32 167772160, .int .i64 8, .int .u32 9, .int .u32 3, .int .u16 2] 62)).alloc (.cells #[.int .u32 167772160, .int .i64 8, .int .u32 9, .int .u32 3, .int .u16 2] 62) = W at *
  have hC : Kd.C k62 W (some ⟨w.heap.size + 1, 0, none⟩) 1 [⟨⟨167772160, 8⟩, 9, ⟨3, 2⟩⟩] := by
    refine ⟨rfl, by decide, fun _ => ⟨_, rfl, fun j p hj => ?_⟩⟩
    have hj0 : j = 0 := by
      cases j with
      | zero => rfl
      | succ j => simp at hj
    subst hj0
    have hp : p = ⟨⟨167772160, 8⟩, 9, ⟨3, 2⟩⟩ := by simpa using hj.symm
    subst hp
    refine ⟨_, rfl, k62_mk W _, fun i u hu => ?_⟩
    have e1 : (⟨w.heap.size + 1, 0, none⟩ : Addr).add (0 * k62.sz + i) = ⟨w.heap.size + 1, i, none⟩ := by rw [Nat.zero_mul, Nat.zero_add, add_plain]
    rw [e1, kC.cell i]
    simpa using hu
  refine (tlv_Encode.calls 12 _ 1 _ _ W hC (Nat.le_refl _) wayfarerlaw08_head.enc).mono ?_
  rintro e w1 ⟨v0, rfl, hS, hb1⟩
  replace kB := kB.below' hb1
  replace hb := below_step hb hb1
  clear hC kC hb1
  obtain ⟨g, cap, rfl, -⟩ := Kd.S_form hS (by decide)
  obtain ⟨oki, c, hcl, ⟨v1, rfl, hR1⟩, hcc, -⟩ := Kd.S_elem hS [] 0 (by decide) (by decide)
  obtain ⟨g1, cap1, rfl, -⟩ := Kd.R_form hR1 (by decide)
  have hx : w1.cell? ⟨g, 0, none⟩ = some (.slice (some ⟨g1, 0, none⟩) 20 cap1) := hcc 0 _ rfl
  obtain ⟨-, hcap, hC1⟩ := Kd.R_reads' hR1
  have hconv := Ytgmdjhokcipajaa.conv_C hC1 cap1
  have hst : strOfNums wayfarerlaw08_head.pg = ⟨#[87, 1, 0, 16, 2, 4, 0, 0, 0, 9, 3, 8, 8, 0, 0, 0, 3, 0, 2, 10]⟩ := by decide +kernel
  change (convert _ _ (.slice (some ⟨g1, 0, none⟩) 20 cap1)).run _ _ = .ok (.string (strOfNums wayfarerlaw08_head.pg)) _ at hconv
  rw [hst] at hconv
  have hV := Ytgmdjhokcipajaa.V_of_C hC1 5 w1.heap.size cap1 hcap
  clear hst hS hR1 hcc hcl
  have HV := Aside0.mk hV
  clear hV hC1
  go_wp2_with fail
  refine (tlv_Decode.calls 40 (fun _ => True) _ _ _ _ _ _ HV.out wayfarerlaw08_head.dec).mono ?_
  rintro e w2 ⟨v2, rfl, hR2, hb2⟩
  replace kB := kB.below' hb2
  replace hb := below_step hb hb2
  clear HV hb2 hx hconv
  obtain ⟨g2, cap2, rfl, -⟩ := Kd.R_form hR2 (by decide)
  obtain ⟨-, -, hC2⟩ := Kd.R_reads' hR2
  obtain ⟨ad, e, x0, x1, x2, x3, x4⟩ := at_T62 hC2 0 (by decide) (by decide)
  cases e
  replace x0 : w2.cell? ⟨g2, 0, none⟩ = some (.int .u32 167772160) := x0
  replace x1 : w2.cell? ⟨g2, 1, none⟩ = some (.int .i64 8) := x1
  replace x2 : w2.cell? ⟨g2, 2, none⟩ = some (.int .u32 9) := x2
  replace x3 : w2.cell? ⟨g2, 3, none⟩ = some (.int .u32 3) := x3
  replace x4 : w2.cell? ⟨g2, 4, none⟩ = some (.int .u16 2) := x4
  have hl2 := World.block_lt_of_cell? _ _ x0
  have hlB := kB.lt
  have z0 := kB.cell 0
  have z1 := kB.cell 1
  have z2 := kB.cell 2
  have z3 := kB.cell 3
  have z4 := kB.cell 4
  simp only [List.getElem?_toArray, List.getElem?_cons_zero, List.getElem?_cons_succ] at z0 z1 z2 z3 z4
  clear hC2 hR2
  go_wp2_with fail
  refine draw_start [] Later (by kernel_rfl) ?_
  refine draw_chunk (n := 41) (by kernel_rfl) (fun _ _ _ _ _ h => h) [0, 1, 2, 3, 4, 5, 6, 7, 8, 9, 10, 11, 12, 13] [] _ #[true, true, true, true, true, true, true, true, true, true, true, true, true, true] (by kernel_rfl) 0 _ ?_ _ rfl ?_ ?_
  rotate_left
  · intro w' hw'
    have hc' : ∀ b o, b < w2.heap.size → w'.cell? ⟨b, o, none⟩ = w2.cell? ⟨b, o, none⟩ := (bcell hw').1
    refine ci_step (i := 0) (v := ?_) rfl (by kernel_rfl) ?_ ?_
    rotate_left
    · first | (go_simp; done) | (go_simp; with_reducible rfl)
    skip
    try simp only [Act.put, List.setIfInBounds_toArray, List.set_cons_zero, List.set_cons_succ]
    refine ci_step (i := 1) (v := ?_) rfl (by kernel_rfl) ?_ ?_
    rotate_left
    · first | (go_simp; done) | (go_simp; with_reducible rfl)
    skip
    try simp only [Act.put, List.setIfInBounds_toArray, List.set_cons_zero, List.set_cons_succ]
    refine ci_step (i := 2) (v := ?_) rfl (by kernel_rfl) ?_ ?_
    rotate_left
    · first | (go_simp; done) | (go_simp; with_reducible rfl)
    skip
    try simp only [Act.put, List.setIfInBounds_toArray, List.set_cons_zero, List.set_cons_succ]
    refine ci_step (i := 3) (v := ?_) rfl (by kernel_rfl) ?_ ?_
    rotate_left
    · first | (go_simp; done) | (go_simp; with_reducible rfl)
    skip
    try simp only [Act.put, List.setIfInBounds_toArray, List.set_cons_zero, List.set_cons_succ]
    refine ci_step (i := 4) (v := ?_) rfl (by kernel_rfl) ?_ ?_
    rotate_left
    · first | (go_simp; done) | (go_simp; with_reducible rfl)
    skip
    try simp only [Act.put, List.setIfInBounds_toArray, List.set_cons_zero, List.set_cons_succ]
    refine ci_step (i := 5) (v := ?_) rfl (by kernel_rfl) ?_ ?_
    rotate_left
    · first | (go_simp; done) | (go_simp; with_reducible rfl)
    skip
    try simp only [Act.put, List.setIfInBounds_toArray, List.set_cons_zero, List.set_cons_succ]
    refine ci_step (i := 6) (v := ?_) rfl (by kernel_rfl) ?_ ?_
    rotate_left
    · first | (go_simp; done) | (go_simp; with_reducible rfl)
    skip
    try simp only [Act.put, List.setIfInBounds_toArray, List.set_cons_zero, List.set_cons_succ]
    refine ci_step (i := 7) (v := ?_) rfl (by kernel_rfl) ?_ ?_
    rotate_left
    · first | (go_simp; done) | (go_simp; with_reducible rfl)
    skip
    try simp only [Act.put, List.setIfInBounds_toArray, List.set_cons_zero, List.set_cons_succ]
    refine ci_step (i := 8) (v := ?_) rfl (by kernel_rfl) ?_ ?_
    rotate_left
    · first | (go_simp; done) | (go_simp; with_reducible rfl)
    skip
    try simp only [Act.put, List.setIfInBounds_toArray, List.set_cons_zero, List.set_cons_succ]
    refine ci_step (i := 9) (v := ?_) rfl (by kernel_rfl) ?_ ?_
    rotate_left
    · first | (go_simp; done) | (go_simp; with_reducible rfl)
    skip
    try simp only [Act.put, List.setIfInBounds_toArray, List.set_cons_zero, List.set_cons_succ]
    refine ci_step (i := 10) (v := ?_) rfl (by kernel_rfl) ?_ ?_
    rotate_left
    · first | (go_simp; done) | (go_simp; with_reducible rfl)
    skip
    try simp only [Act.put, List.setIfInBounds_toArray, List.set_cons_zero, List.set_cons_succ]
    refine ci_step (i := 11) (v := ?_) rfl (by kernel_rfl) ?_ ?_
    rotate_left
    · first | (go_simp; done) | (go_simp; with_reducible rfl)
    skip
    try simp only [Act.put, List.setIfInBounds_toArray, List.set_cons_zero, List.set_cons_succ]
    refine ci_step (i := 12) (v := ?_) rfl (by kernel_rfl) ?_ ?_
    rotate_left
    · first | (go_simp; done) | (go_simp; with_reducible rfl)
    skip
    try simp only [Act.put, List.setIfInBounds_toArray, List.set_cons_zero, List.set_cons_succ]
    refine ci_step (i := 13) (v := ?_) rfl (by kernel_rfl) ?_ ?_
    rotate_left
    · first | (go_simp; done) | (go_simp; with_reducible rfl)
    skip
    try simp only [Act.put, List.setIfInBounds_toArray, List.set_cons_zero, List.set_cons_succ]
    refine ci_end ?_
    rfl
  refine draw_done (by kernel_rfl) ?_ _
  go_wp2
  go_ret
  exact ⟨rfl, below_drew hb⟩

/-! ### wayfarerlaw08_Same: function 40 -/
def wayfarerlaw08_Same.l0 : Nat → List (S62) → List (S62) → Int → Int → Option (Bool)
  | 0, _, _, _, _ => none
  | k + 1, x0, x1, x12, x13 => if x13 < x12 then (if 0 ≤ x13 then (if x13 < (x0.length : Int) then (if x13 < (x1.length : Int) then (if ((!(((rd_T62 x0 x13).f0.f0) == ((rd_T62 x1 x13).f0.f0)) || (!(((rd_T62 x0 x13).f0.f1) == ((rd_T62 x1 x13).f0.f1)))) || (!(((rd_T62 x0 x13).f1) == ((rd_T62 x1 x13).f1)) || ((!(((rd_T62 x0 x13).f2.f0) == ((rd_T62 x1 x13).f2.f0)) || (!(((rd_T62 x0 x13).f2.f1) == ((rd_T62 x1 x13).f2.f1))))))) = true then (some false) else (wayfarerlaw08_Same.l0 k x0 x1 x12 (wrap64 (x13 + 1)))) else (none)) else (none)) else (none)) else (some true)
def wayfarerlaw08_Same.f (k : Nat) (l0 : List (S62)) (l1 : List (S62)) : Option (Bool) := if (l0.length : Int) = (l1.length : Int) then (wayfarerlaw08_Same.l0 k l0 l1 (l0.length : Int) 0) else (some false)
theorem wayfarerlaw08_Same.mono_l : ∀ k, (∀ y0 y1 y2 y3, LeO (wayfarerlaw08_Same.l0 k y0 y1 y2 y3) (wayfarerlaw08_Same.l0 (k + 1) y0 y1 y2 y3))
  | 0 => fun _ _ _ _ r h => by simp [wayfarerlaw08_Same.l0] at h
  | k + 1 => by
    have ih0 := wayfarerlaw08_Same.mono_l k
    · intro y0 y1 y2 y3
      unfold wayfarerlaw08_Same.l0
      repeat' first
      | (with_reducible exact ih0 _ _ _ _)
      | (with_reducible exact LeO.refl _)
      | (with_reducible exact LeO.none _)
      | (with_reducible refine LeO.ite ?_ ?_)
      | (with_reducible refine LeO.bind ?_ (fun _ => ?_))
      | exact ih0 _ _ _ _
      | exact LeO.none _
      | refine LeO.ite ?_ ?_
      | refine LeO.bind ?_ (fun _ => ?_)
theorem wayfarerlaw08_Same.mono : ∀ a0 a1 k, LeO (wayfarerlaw08_Same.f k a0 a1) (wayfarerlaw08_Same.f (k + 1) a0 a1) := by
  intro a0 a1 k
  have ih0 := wayfarerlaw08_Same.mono_l k
  unfold wayfarerlaw08_Same.f
  repeat' first
      | (with_reducible exact ih0 _ _ _ _)
      | (with_reducible exact LeO.refl _)
      | (with_reducible exact LeO.none _)
      | (with_reducible refine LeO.ite ?_ ?_)
      | (with_reducible refine LeO.bind ?_ (fun _ => ?_))
      | exact ih0 _ _ _ _
      | exact LeO.none _
      | refine LeO.ite ?_ ?_
      | refine LeO.bind ?_ (fun _ => ?_)
set_option maxHeartbeats 8000000 in
set_option maxRecDepth 100000 in
theorem wayfarerlaw08_Same.calls (k : Nat) (A0 : Option Addr) (c0 : Nat) (l0 : List (S62)) (A1 : Option Addr) (c1 : Nat) (l1 : List (S62)) (r : Bool) (w : World) (hr0 : Kd.C k62 w A0 l0.length l0) (hc0 : l0.length ≤ c0) (hr1 : Kd.C k62 w A1 l1.length l1) (hc1 : l1.length ≤ c1) (h : wayfarerlaw08_Same.f k l0 l1 = some r) :
    Calls Try.prog 40 #[.slice A0 l0.length c0, .slice A1 l1.length c1] w fun e w' => e = .returned (.bool r) ∧ Drawn0 w w' := by
  have hu62 := Try.underlying62
  have HR0 := Aside0.mk hr0
  have HC0 := Aside0.mk hc0
  clear hr0 hc0
  have HR1 := Aside0.mk hr1
  have HC1 := Aside0.mk hc1
  clear hr1 hc1
  have H : (if (l0.length : Int) = (l1.length : Int) then (wayfarerlaw08_Same.l0 k l0 l1 (l0.length : Int) 0) else (some false)) = some r := h
  clear h
  by_cases c3 : (l0.length : Int) = (l1.length : Int)
  case neg =>
    rw [if_neg c3] at H; have c3b0 : ((l0.length : Int) == (l1.length : Int)) = false := beq_eq_false_iff_ne.mpr c3
    have c3b1 : ((l0.length : Int) != (l1.length : Int)) = true := bne_iff_ne.mpr c3
    have c3b2 : (l0.length == l1.length) = false := by first | simpa using c3 | (simp at c3 ⊢; omega)
    obtain rfl := Option.some.inj H
    go_enter Try.func40, Try.ntmps40
    go_wp2
    repeat (go_quiet (fail); try go_wp2)
    go_ret
    exact ⟨by first | rfl | (simp; done) | (simp [*]; done), by repeat (first | exact Drawn0.refl _ | apply Drawn0.step)⟩

  rw [if_pos c3] at H; have c3b0 : ((l0.length : Int) == (l1.length : Int)) = true := beq_iff_eq.mpr c3
  have c3b1 : ((l0.length : Int) != (l1.length : Int)) = false := bne_eq_false_iff_eq.mpr c3
  have c3b2 : (l0.length == l1.length) = true := by first | simpa using c3 | (simp at c3 ⊢; omega)
  clear c3
  have H' := Aside0.mk H
  clear H
  go_enter Try.func40, Try.ntmps40
  go_wp2
  repeat (go_quiet (fail); try go_wp2)
  go_loopg [13] k (fun kq v13 w' => ∃ (x13_1 : Int), v13 = .int .i64 x13_1 ∧ Aside0 (wayfarerlaw08_Same.l0 kq l0 l1 (l0.length : Int) x13_1 = some r) ∧ Aside0 (kq ≤ k) ∧ Drawn0 w w')
  case atStart => exact ⟨(0), (by first | rfl | (simp; done) | (simp [*]; done)), H', ⟨Nat.le_refl _⟩, by repeat (first | exact Drawn0.refl _ | apply Drawn0.step)⟩
  case round =>
    clear H'
    try clear c1; try clear p2; try clear c3; try clear c3b0; try clear c3b1; try clear c3b2
    obtain ⟨x13_1, rfl, HA, HK1, ⟨m1, rfl⟩⟩ := hrel
    cases gk with
    | zero => exact absurd HA.out (by simp [wayfarerlaw08_Same.l0])
    | succ k1 =>
      have H := HA.out
      clear HA
      simp only [wayfarerlaw08_Same.l0] at H
      by_cases c4 : x13_1 < (l0.length : Int)
      case neg =>
        rw [if_neg c4] at H; have c4b0 : decide (x13_1 < (l0.length : Int)) = false := decide_eq_false c4
        clear c4
        obtain rfl := Option.some.inj H
        go_wp2
        repeat (go_quiet (fail); try go_wp2)
        go_ret
        exact ⟨by first | rfl | (simp; done) | (simp [*]; done), by repeat (first | exact Drawn0.refl _ | apply Drawn0.step)⟩
      rw [if_pos c4] at H; have c4b0 : decide (x13_1 < (l0.length : Int)) = true := decide_eq_true c4
      clear c4
      by_cases c5 : 0 ≤ x13_1
      case neg =>
        rw [if_neg c5] at H; exact absurd H (by simp)
      rw [if_pos c5] at H; have c5b0 : decide (0 ≤ x13_1) = true := decide_eq_true c5
      clear c5
      by_cases c6 : x13_1 < (l0.length : Int)
      case neg =>
        rw [if_neg c6] at H; exact absurd H (by simp)
      rw [if_pos c6] at H; have c6b0 : decide (x13_1 < (l0.length : Int)) = true := decide_eq_true c6
      clear c6
      by_cases c7 : x13_1 < (l1.length : Int)
      case neg =>
        rw [if_neg c7] at H; exact absurd H (by simp)
      rw [if_pos c7] at H; have c7b0 : decide (x13_1 < (l1.length : Int)) = true := decide_eq_true c7
      clear c7
      by_cases c8 : ((!(((rd_T62 l0 x13_1).f0.f0) == ((rd_T62 l1 x13_1).f0.f0)) || (!(((rd_T62 l0 x13_1).f0.f1) == ((rd_T62 l1 x13_1).f0.f1)))) || (!(((rd_T62 l0 x13_1).f1) == ((rd_T62 l1 x13_1).f1)) || ((!(((rd_T62 l0 x13_1).f2.f0) == ((rd_T62 l1 x13_1).f2.f0)) || (!(((rd_T62 l0 x13_1).f2.f1) == ((rd_T62 l1 x13_1).f2.f1))))))) = true
      case pos =>
        rw [if_pos c8] at H; have c8b0 : ((!(((rd_T62 l0 x13_1).f0.f0) == ((rd_T62 l1 x13_1).f0.f0)) || (!(((rd_T62 l0 x13_1).f0.f1) == ((rd_T62 l1 x13_1).f0.f1)))) || (!(((rd_T62 l0 x13_1).f1) == ((rd_T62 l1 x13_1).f1)) || ((!(((rd_T62 l0 x13_1).f2.f0) == ((rd_T62 l1 x13_1).f2.f0)) || (!(((rd_T62 l0 x13_1).f2.f1) == ((rd_T62 l1 x13_1).f2.f1))))))) = true := c8
        clear c8
        obtain rfl := Option.some.inj H
        have p186 : 0 ≤ (x13_1 : Int) := of_decide_eq_true (by first | (with_reducible assumption) | assumption)
        have q186 : x13_1 < (l0.length : Int) := of_decide_eq_true (by first | (with_reducible assumption) | assumption)
        obtain ⟨ad186, e186, hx186_0, hx186_1, hx186_2, hx186_3, hx186_4⟩ := at_T62 HR0.out x13_1 p186 q186
        cases e186
        replace p186 := eq_true p186
        replace q186 := eq_true q186
        have p187 : 0 ≤ (x13_1 : Int) := of_decide_eq_true (by first | (with_reducible assumption) | assumption)
        have q187 : x13_1 < (l1.length : Int) := of_decide_eq_true (by first | (with_reducible assumption) | assumption)
        obtain ⟨ad187, e187, hx187_0, hx187_1, hx187_2, hx187_3, hx187_4⟩ := at_T62 HR1.out x13_1 p187 q187
        cases e187
        replace p187 := eq_true p187
        replace q187 := eq_true q187
        go_wp2
        repeat (go_quiet (fail); try go_wp2)
        go_ret
        exact ⟨by first | rfl | (simp; done) | (simp [*]; done), by repeat (first | exact Drawn0.refl _ | apply Drawn0.step)⟩
      rw [if_neg c8] at H; have c8b0 : ((!(((rd_T62 l0 x13_1).f0.f0) == ((rd_T62 l1 x13_1).f0.f0)) || (!(((rd_T62 l0 x13_1).f0.f1) == ((rd_T62 l1 x13_1).f0.f1)))) || (!(((rd_T62 l0 x13_1).f1) == ((rd_T62 l1 x13_1).f1)) || ((!(((rd_T62 l0 x13_1).f2.f0) == ((rd_T62 l1 x13_1).f2.f0)) || (!(((rd_T62 l0 x13_1).f2.f1) == ((rd_T62 l1 x13_1).f2.f1))))))) = false := by simpa using c8
      clear c8
      have H' := Aside0.mk H
      clear H
      have p186 : 0 ≤ (x13_1 : Int) := of_decide_eq_true (by first | (with_reducible assumption) | assumption)
      have q186 : x13_1 < (l0.length : Int) := of_decide_eq_true (by first | (with_reducible assumption) | assumption)
      obtain ⟨ad186, e186, hx186_0, hx186_1, hx186_2, hx186_3, hx186_4⟩ := at_T62 HR0.out x13_1 p186 q186
      cases e186
      replace p186 := eq_true p186
      replace q186 := eq_true q186
      have p187 : 0 ≤ (x13_1 : Int) := of_decide_eq_true (by first | (with_reducible assumption) | assumption)
      have q187 : x13_1 < (l1.length : Int) := of_decide_eq_true (by first | (with_reducible assumption) | assumption)
      obtain ⟨ad187, e187, hx187_0, hx187_1, hx187_2, hx187_3, hx187_4⟩ := at_T62 HR1.out x13_1 p187 q187
      cases e187
      replace p187 := eq_true p187
      replace q187 := eq_true q187
      go_wp2
      repeat (go_quiet (fail); try go_wp2)
      go_roundg k1
      case measure => have := HK1.out; omega
      case rel => exact ⟨(wrap64 (x13_1 + 1)), (by first | rfl | (simp; done) | (simp [*]; done)), H', ⟨by have := HK1.out; omega⟩, by repeat (first | exact Drawn0.refl _ | apply Drawn0.step)⟩
/-! ### wayfarerlaw02_bit: function 59 -/
def wayfarerlaw02_bit.f (a0 : Int) (a1 : Int) : Option (Bool) := if 0 ≤ (IntKind.u64.wrap (wrap64 (31 - a1))) then (some ((Go.bits .and .u32 (shr .u32 a0 (IntKind.u64.wrap (wrap64 (31 - a1)))) 1) == 1)) else (none)
set_option maxHeartbeats 8000000 in
set_option maxRecDepth 100000 in
theorem wayfarerlaw02_bit.calls (a0 : Int) (a1 : Int) (r : Bool) (w : World) (h : wayfarerlaw02_bit.f a0 a1 = some r) :
    Calls Try.prog 59 #[.int .u32 a0, .int .i64 a1] w fun e w' => e = .returned (.bool r) ∧ Drawn0 w w' := by
  have H : (if 0 ≤ (IntKind.u64.wrap (wrap64 (31 - a1))) then (some ((Go.bits .and .u32 (shr .u32 a0 (IntKind.u64.wrap (wrap64 (31 - a1)))) 1) == 1)) else (none)) = some r := h
  clear h
  obtain ⟨ji3, hji3⟩ : ∃ j_ : Int, (IntKind.u64.wrap (wrap64 (31 - a1))) = j_ := ⟨_, rfl⟩
  replace H : (if 0 ≤ (ji3) then (some ((Go.bits .and .u32 (shr .u32 a0 (ji3)) 1) == 1)) else (none)) = some r := by first | (rw [hji3] at H; exact H) | (simp only [hji3] at H ⊢; exact H)
  by_cases c4 : 0 ≤ (ji3)
  case neg =>
    rw [if_neg c4] at H; exact absurd H (by simp)

  rw [if_pos c4] at H; have c4b0 := eq_true c4
  have c4b1 : decide (0 ≤ (ji3)) = true := decide_eq_true c4
  clear c4
  obtain ⟨ji5, hji5⟩ : ∃ j_ : Int, (shr .u32 a0 (ji3)) = j_ := ⟨_, rfl⟩
  replace H : (some ((Go.bits .and .u32 (ji5) 1) == 1)) = some r := by first | (rw [hji5] at H; exact H) | (simp only [hji5] at H ⊢; exact H)
  have hji5_ : (a0 / 2 ^ min (ji3).toNat 32) = ji5 := hji5
  have hji5z : (ji3) ≤ 32 → (a0 / 2 ^ (ji3).toNat) = ji5 := shr_small hji5
  obtain rfl := Option.some.inj H
  go_enter Try.func59, Try.ntmps59
  go_wp2
  go_ret
  exact ⟨by first | rfl | (simp; done) | (simp only [← hji3, ← hji5] <;> (first | rfl | simp)) | (simp [*]; done), by repeat (first | exact Drawn0.refl _ | apply Drawn0.step)⟩
/-! ### wayfarerlaw02_Right: function 51 -/
-- EXT wayfarer/wayfarerlaw02.Right | making=1 | rounds=0
def wayfarerlaw02_Right.f (a0_0 : Int) (a0_1 : Int) : Option (Bool) := if 0 ≤ a0_0 ∧ a0_0 ≤ 4294967295 then some (Ytgmdjhokcipajaa.rightB a0_0 a0_1) else none
theorem wayfarerlaw02_Right.calls (a0_0 : Int) (a0_1 : Int) (r : Bool) (w : World) (h : wayfarerlaw02_Right.f a0_0 a0_1 = some r) :
    Calls Try.prog 51 #[.agg #[.int .u32 a0_0, .int .i64 a0_1]] w fun e w' => e = .returned (.bool r) ∧ Below w.heap.size w w' := by
  unfold wayfarerlaw02_Right.f at h
  split at h
  · rename_i hc; cases h; exact Ytgmdjhokcipajaa.law02_Right _ _ w hc
  · cases h

/-! ### wayfarerlaw08_Right: function 36 -/
def wayfarerlaw08_Right.j0 : Nat → Bool → Int → Int → Int → Int → Int → Option (Bool)
  | 0, _, _, _, _, _, _ => none
  | k + 1, x12, x189000, x189001, x189002, x189003, x189004 => if x12 = true then (some false) else (if x189004 = 65535 then (if x189002 = 0 then (some (x189003 == 0)) else (some false)) else (some (x189002 != 0)))
def wayfarerlaw08_Right.f (k : Nat) (a0_0 : Int) (a0_1 : Int) (a0_2 : Int) (a0_3 : Int) (a0_4 : Int) : Option (Bool) := (wayfarerlaw02_Right.f a0_0 a0_1).bind fun t189 => (if t189 = true then (wayfarerlaw08_Right.j0 k (decide (a0_3 > 1073741824)) a0_0 a0_1 a0_2 a0_3 a0_4) else (wayfarerlaw08_Right.j0 k true a0_0 a0_1 a0_2 a0_3 a0_4))
theorem wayfarerlaw08_Right.mono_l : ∀ k, (∀ y0 y1 y2 y3 y4 y5, LeO (wayfarerlaw08_Right.j0 k y0 y1 y2 y3 y4 y5) (wayfarerlaw08_Right.j0 (k + 1) y0 y1 y2 y3 y4 y5))
  | 0 => fun _ _ _ _ _ _ r h => by simp [wayfarerlaw08_Right.j0] at h
  | k + 1 => by
    have ih0 := wayfarerlaw08_Right.mono_l k
    · intro y0 y1 y2 y3 y4 y5
      unfold wayfarerlaw08_Right.j0
      repeat' first
      | (with_reducible exact ih0 _ _ _ _ _ _)
      | (with_reducible exact LeO.refl _)
      | (with_reducible exact LeO.none _)
      | (with_reducible refine LeO.ite ?_ ?_)
      | (with_reducible refine LeO.bind ?_ (fun _ => ?_))
      | exact ih0 _ _ _ _ _ _
      | exact LeO.none _
      | refine LeO.ite ?_ ?_
      | refine LeO.bind ?_ (fun _ => ?_)
theorem wayfarerlaw08_Right.mono : ∀ a0 a1 a2 a3 a4 k, LeO (wayfarerlaw08_Right.f k a0 a1 a2 a3 a4) (wayfarerlaw08_Right.f (k + 1) a0 a1 a2 a3 a4) := by
  intro a0 a1 a2 a3 a4 k
  have ih0 := wayfarerlaw08_Right.mono_l k
  unfold wayfarerlaw08_Right.f
  repeat' first
      | (with_reducible exact ih0 _ _ _ _ _ _)
      | (with_reducible exact LeO.refl _)
      | (with_reducible exact LeO.none _)
      | (with_reducible refine LeO.ite ?_ ?_)
      | (with_reducible refine LeO.bind ?_ (fun _ => ?_))
      | exact ih0 _ _ _ _ _ _
      | exact LeO.none _
      | refine LeO.ite ?_ ?_
      | refine LeO.bind ?_ (fun _ => ?_)
set_option maxHeartbeats 8000000 in
set_option maxRecDepth 100000 in
theorem wayfarerlaw08_Right.calls (k : Nat) (a0_0 : Int) (a0_1 : Int) (a0_2 : Int) (a0_3 : Int) (a0_4 : Int) (r : Bool) (w : World) (h : wayfarerlaw08_Right.f k a0_0 a0_1 a0_2 a0_3 a0_4 = some r) :
    Calls Try.prog 36 #[.agg #[.int .u32 a0_0, .int .i64 a0_1, .int .u32 a0_2, .int .u32 a0_3, .int .u16 a0_4]] w fun e w' => e = .returned (.bool r) ∧ Below w.heap.size w w' := by
  have hu62 := Try.underlying62
  have hu29 := Try.underlying29
  have HB := Aside0.mk (Below.refl w.heap.size w)
  have H : ((wayfarerlaw02_Right.f a0_0 a0_1).bind fun t189 => (if t189 = true then (wayfarerlaw08_Right.j0 k (decide (a0_3 > 1073741824)) a0_0 a0_1 a0_2 a0_3 a0_4) else (wayfarerlaw08_Right.j0 k true a0_0 a0_1 a0_2 a0_3 a0_4))) = some r := h
  clear h
  have HC2 := Aside0.mk H
  clear H
  go_enter Try.func36, Try.ntmps36
  go_upto_region 1 with (first | ((with_reducible refine gate_dst (N := 1) rfl ?_); refine box_event ?hg (N := 1) ?hd (cs := #[.int .u32 a0_0, .int .i64 a0_1, .int .u32 a0_2, .int .u32 a0_3, .int .u16 a0_4]) (t := 62) ?hr ?_; (case hd => rfl); (case hg => rfl); (case hr => first | (go_simp; done) | (go_simp; rfl)); intro gb188 hg w3 hbox hb; have n0_ := Aside0.mk (below_step (by repeat (first | (with_reducible first | exact HB.out | apply below_alloc | apply pw_below_drewN | apply below_drew1) | exact HB.out)) hb); have n1_ := Aside0.mk (hbox); have n2_ := Aside0.mk ((by rw [hg]; exact (below_size (by repeat (first | (with_reducible first | exact HB.out | apply below_alloc | apply pw_below_drewN | apply below_drew1) | exact HB.out))) : w.heap.size ≤ gb188)); have n3_ := Aside0.mk ((by rw [hg]; exact (below_size (by repeat (first | (with_reducible first | exact HB.out | apply below_alloc | apply pw_below_drewN | apply below_drew1) | exact HB.out))) : w.heap.size ≤ gb188)); clear HB; have HB := n0_; have BK188 := n1_; have GW188 := n2_; have GE188 := n3_; clear n0_ n1_ n2_ n3_; clear hb hbox hg))
  (try simp only [Act.put, List.setIfInBounds_toArray, List.set_cons_zero, List.set_cons_succ])
  go_cut [12] (fun v12 wc => ∃ (kq : Nat) (x12_1 : Bool), v12 = .bool x12_1 ∧ Aside0 (wayfarerlaw08_Right.j0 kq x12_1 a0_0 a0_1 a0_2 a0_3 a0_4 = some r) ∧ Aside0 (kq ≤ k) ∧ Aside0 (wc.heap[gb188]? = some (.cells #[.int .u32 a0_0, .int .i64 a0_1, .int .u32 a0_2, .int .u32 a0_3, .int .u16 a0_4] 62 (0, 0))) ∧ Aside0 (Below w.heap.size w wc))
  case first =>
    have H := HC2.out
    clear HC2
    replace H := Option.bind_eq_some_iff.mp H
    obtain ⟨t189, A40, H⟩ := H
    replace H : (if t189 = true then (wayfarerlaw08_Right.j0 k (decide (a0_3 > 1073741824)) a0_0 a0_1 a0_2 a0_3 a0_4) else (wayfarerlaw08_Right.j0 k true a0_0 a0_1 a0_2 a0_3 a0_4)) = some r := H
    have A4 := Aside0.mk A40
    clear A40
    by_cases c5 : t189 = true
    case pos =>
      subst c5
      have H1 : (wayfarerlaw08_Right.j0 k (decide (a0_3 > 1073741824)) a0_0 a0_1 a0_2 a0_3 a0_4) = some r := by rw [if_pos rfl] at H; exact H
      clear H
      have H := H1
      clear H1
      have H' := Aside0.mk H
      clear H
      have hcz6_0 : w3.cell? ⟨gb188, 0, none⟩ = some (.int .u32 a0_0) := (blk_cell BK188.out 0).trans rfl
      have hcz6_1 : w3.cell? ⟨gb188, 1, none⟩ = some (.int .i64 a0_1) := (blk_cell BK188.out 1).trans rfl
      have hcz6_2 : w3.cell? ⟨gb188, 2, none⟩ = some (.int .u32 a0_2) := (blk_cell BK188.out 2).trans rfl
      have hcz6_3 : w3.cell? ⟨gb188, 3, none⟩ = some (.int .u32 a0_3) := (blk_cell BK188.out 3).trans rfl
      have hcz6_4 : w3.cell? ⟨gb188, 4, none⟩ = some (.int .u16 a0_4) := (blk_cell BK188.out 4).trans rfl
      have hfz6_0 := blk_frozen BK188.out 0
      have hfz6_1 := blk_frozen BK188.out 1
      have hfz6_2 := blk_frozen BK188.out 2
      have hfz6_3 := blk_frozen BK188.out 3
      have hfz6_4 := blk_frozen BK188.out 4
      go_wp2_with (first | ((with_reducible refine gate_callee (f := 51) rfl ?_); refine goesL_ (some 5) rfl rfl Try.func51 (by kernel_rfl) rfl #[.agg #[.int .u32 a0_0, .int .i64 a0_1]] rfl (by (try simp only [List.map_toArray, List.map_cons, List.map_nil]); first | done | rfl | (simp only [List.length_drop, List.length_take]; rfl)) ?_; (with_reducible refine (wayfarerlaw02_Right.calls a0_0 a0_1 true _ A4.out).mono ?_); rintro e w7 ⟨rfl, hb⟩; refine ⟨_, rfl, ?_⟩; have n0_ := Aside0.mk (blk_below (g := gb188) (o := .cells #[.int .u32 a0_0, .int .i64 a0_1, .int .u32 a0_2, .int .u32 a0_3, .int .u16 a0_4] 62 (0, 0)) (by (with_reducible repeat (first | refine blk_drewN ?_ _ | refine blk_drew ?_ | refine blk_alloc ?_ _)); exact BK188.out) hb); have n1_ := Aside0.mk (below_step (by repeat (first | (with_reducible first | exact HB.out | apply below_alloc | apply pw_below_drewN | apply below_drew1 | refine below_set ?_ GE188.out) | exact HB.out)) hb); clear BK188; clear HB; have BK188 := n0_; have HB := n1_; clear n0_ n1_; (try clear hb); (try clear hb2); (try clear hk); (try clear hi); have hcz8_0 : w7.cell? ⟨gb188, 0, none⟩ = some (.int .u32 a0_0) := (blk_cell BK188.out 0).trans rfl; have hcz8_1 : w7.cell? ⟨gb188, 1, none⟩ = some (.int .i64 a0_1) := (blk_cell BK188.out 1).trans rfl; have hcz8_2 : w7.cell? ⟨gb188, 2, none⟩ = some (.int .u32 a0_2) := (blk_cell BK188.out 2).trans rfl; have hcz8_3 : w7.cell? ⟨gb188, 3, none⟩ = some (.int .u32 a0_3) := (blk_cell BK188.out 3).trans rfl; have hcz8_4 : w7.cell? ⟨gb188, 4, none⟩ = some (.int .u16 a0_4) := (blk_cell BK188.out 4).trans rfl; have hfz8_0 := blk_frozen BK188.out 0; have hfz8_1 := blk_frozen BK188.out 1; have hfz8_2 := blk_frozen BK188.out 2; have hfz8_3 := blk_frozen BK188.out 3; have hfz8_4 := blk_frozen BK188.out 4))
      go_meet
      case rel => exact ⟨_, (decide (a0_3 > 1073741824)), (by first | rfl | (simp; done) | (simp [*]; done)), H', ⟨by first | omega | exact Nat.le_refl _⟩, ⟨by (with_reducible repeat (first | refine blk_drewN ?_ _ | refine blk_drew ?_ | refine blk_alloc ?_ _)); exact BK188.out⟩, ⟨by repeat (first | (with_reducible first | exact HB.out | apply below_alloc | apply pw_below_drewN | apply below_drew1 | refine below_set ?_ GE188.out) | exact HB.out)⟩⟩
    replace c5 := Bool.eq_false_iff.mpr c5
    subst c5
    have H1 : (wayfarerlaw08_Right.j0 k true a0_0 a0_1 a0_2 a0_3 a0_4) = some r := by rw [if_neg (show ¬ (false = true) by decide)] at H; exact H
    clear H
    have H := H1
    clear H1
    have H' := Aside0.mk H
    clear H
    have hcz9_0 : w3.cell? ⟨gb188, 0, none⟩ = some (.int .u32 a0_0) := (blk_cell BK188.out 0).trans rfl
    have hcz9_1 : w3.cell? ⟨gb188, 1, none⟩ = some (.int .i64 a0_1) := (blk_cell BK188.out 1).trans rfl
    have hcz9_2 : w3.cell? ⟨gb188, 2, none⟩ = some (.int .u32 a0_2) := (blk_cell BK188.out 2).trans rfl
    have hcz9_3 : w3.cell? ⟨gb188, 3, none⟩ = some (.int .u32 a0_3) := (blk_cell BK188.out 3).trans rfl
    have hcz9_4 : w3.cell? ⟨gb188, 4, none⟩ = some (.int .u16 a0_4) := (blk_cell BK188.out 4).trans rfl
    have hfz9_0 := blk_frozen BK188.out 0
    have hfz9_1 := blk_frozen BK188.out 1
    have hfz9_2 := blk_frozen BK188.out 2
    have hfz9_3 := blk_frozen BK188.out 3
    have hfz9_4 := blk_frozen BK188.out 4
    go_wp2_with (first | ((with_reducible refine gate_callee (f := 51) rfl ?_); refine goesL_ (some 5) rfl rfl Try.func51 (by kernel_rfl) rfl #[.agg #[.int .u32 a0_0, .int .i64 a0_1]] rfl (by (try simp only [List.map_toArray, List.map_cons, List.map_nil]); first | done | rfl | (simp only [List.length_drop, List.length_take]; rfl)) ?_; (with_reducible refine (wayfarerlaw02_Right.calls a0_0 a0_1 false _ A4.out).mono ?_); rintro e w10 ⟨rfl, hb⟩; refine ⟨_, rfl, ?_⟩; have n0_ := Aside0.mk (blk_below (g := gb188) (o := .cells #[.int .u32 a0_0, .int .i64 a0_1, .int .u32 a0_2, .int .u32 a0_3, .int .u16 a0_4] 62 (0, 0)) (by (with_reducible repeat (first | refine blk_drewN ?_ _ | refine blk_drew ?_ | refine blk_alloc ?_ _)); exact BK188.out) hb); have n1_ := Aside0.mk (below_step (by repeat (first | (with_reducible first | exact HB.out | apply below_alloc | apply pw_below_drewN | apply below_drew1 | refine below_set ?_ GE188.out) | exact HB.out)) hb); clear BK188; clear HB; have BK188 := n0_; have HB := n1_; clear n0_ n1_; (try clear hb); (try clear hb2); (try clear hk); (try clear hi)))
    go_meet
    case rel => exact ⟨_, (true), (by first | rfl | (simp; done) | (simp [*]; done)), H', ⟨by first | omega | exact Nat.le_refl _⟩, ⟨by (with_reducible repeat (first | refine blk_drewN ?_ _ | refine blk_drew ?_ | refine blk_alloc ?_ _)); exact BK188.out⟩, ⟨by repeat (first | (with_reducible first | exact HB.out | apply below_alloc | apply pw_below_drewN | apply below_drew1 | refine below_set ?_ GE188.out) | exact HB.out)⟩⟩
  case rest =>
    clear HC2
    try clear p2; try clear c3; try clear c5; try clear hcz6_0; try clear hcz6_1; try clear hcz6_2; try clear hcz6_3; try clear hcz6_4; try clear hcz8_0; try clear hcz8_1; try clear hcz8_2; try clear hcz8_3; try clear hcz8_4; try clear hcz9_0; try clear hcz9_1; try clear hcz9_2; try clear hcz9_3; try clear hcz9_4; try clear hfz6_0; try clear hfz6_1; try clear hfz6_2; try clear hfz6_3; try clear hfz6_4
    try clear hfz8_0; try clear hfz8_1; try clear hfz8_2; try clear hfz8_3; try clear hfz8_4; try clear hfz9_0; try clear hfz9_1; try clear hfz9_2; try clear hfz9_3; try clear hfz9_4
    obtain ⟨kq, x12_1, rfl, HA, HJ1, BK188, HB⟩ := hcut
    cases kq with
    | zero => exact absurd HA.out (by simp [wayfarerlaw08_Right.j0])
    | succ kj1 =>
      have H := HA.out
      clear HA
      simp only [wayfarerlaw08_Right.j0] at H
      by_cases c11 : x12_1 = true
      case pos =>
        subst c11
        have H1 : (some false) = some r := by rw [if_pos rfl] at H; exact H
        clear H
        have H := H1
        clear H1
        obtain rfl := Option.some.inj H
        go_wp2
        go_ret
        exact ⟨by first | rfl | (simp [errW_none, errW_some] <;> rfl) | (simp [*, errW_none, errW_some] <;> rfl), by repeat (first | (with_reducible first | exact HB.out | apply below_alloc | apply pw_below_drewN | apply below_drew1 | refine below_set ?_ GE188.out) | exact HB.out)⟩
      replace c11 := Bool.eq_false_iff.mpr c11
      subst c11
      have H1 : (if a0_4 = 65535 then (if a0_2 = 0 then (some (a0_3 == 0)) else (some false)) else (some (a0_2 != 0))) = some r := by rw [if_neg (show ¬ (false = true) by decide)] at H; exact H
      clear H
      have H := H1
      clear H1
      by_cases c12 : a0_4 = 65535
      case neg =>
        rw [if_neg c12] at H; have c12b0 : (a0_4 == 65535) = false := beq_eq_false_iff_ne.mpr c12
        have c12b1 : (a0_4 != 65535) = true := bne_iff_ne.mpr c12
        obtain rfl := Option.some.inj H
        have hcz16_0 : wc.cell? ⟨gb188, 0, none⟩ = some (.int .u32 a0_0) := (blk_cell BK188.out 0).trans rfl
        have hcz16_1 : wc.cell? ⟨gb188, 1, none⟩ = some (.int .i64 a0_1) := (blk_cell BK188.out 1).trans rfl
        have hcz16_2 : wc.cell? ⟨gb188, 2, none⟩ = some (.int .u32 a0_2) := (blk_cell BK188.out 2).trans rfl
        have hcz16_3 : wc.cell? ⟨gb188, 3, none⟩ = some (.int .u32 a0_3) := (blk_cell BK188.out 3).trans rfl
        have hcz16_4 : wc.cell? ⟨gb188, 4, none⟩ = some (.int .u16 a0_4) := (blk_cell BK188.out 4).trans rfl
        have hfz16_0 := blk_frozen BK188.out 0
        have hfz16_1 := blk_frozen BK188.out 1
        have hfz16_2 := blk_frozen BK188.out 2
        have hfz16_3 := blk_frozen BK188.out 3
        have hfz16_4 := blk_frozen BK188.out 4
        go_wp2
        go_ret
        exact ⟨by first | rfl | (simp [errW_none, errW_some] <;> rfl) | (simp [*, errW_none, errW_some] <;> rfl), by repeat (first | (with_reducible first | exact HB.out | apply below_alloc | apply pw_below_drewN | apply below_drew1 | refine below_set ?_ GE188.out) | exact HB.out)⟩

      rw [if_pos c12] at H; have c12b0 : (a0_4 == 65535) = true := beq_iff_eq.mpr c12
      have c12b1 : (a0_4 != 65535) = false := bne_eq_false_iff_eq.mpr c12
      clear c12
      by_cases c13 : a0_2 = 0
      case neg =>
        rw [if_neg c13] at H; have c13b0 : (a0_2 == 0) = false := beq_eq_false_iff_ne.mpr c13
        have c13b1 : (a0_2 != 0) = true := bne_iff_ne.mpr c13
        obtain rfl := Option.some.inj H
        have hcz15_0 : wc.cell? ⟨gb188, 0, none⟩ = some (.int .u32 a0_0) := (blk_cell BK188.out 0).trans rfl
        have hcz15_1 : wc.cell? ⟨gb188, 1, none⟩ = some (.int .i64 a0_1) := (blk_cell BK188.out 1).trans rfl
        have hcz15_2 : wc.cell? ⟨gb188, 2, none⟩ = some (.int .u32 a0_2) := (blk_cell BK188.out 2).trans rfl
        have hcz15_3 : wc.cell? ⟨gb188, 3, none⟩ = some (.int .u32 a0_3) := (blk_cell BK188.out 3).trans rfl
        have hcz15_4 : wc.cell? ⟨gb188, 4, none⟩ = some (.int .u16 a0_4) := (blk_cell BK188.out 4).trans rfl
        have hfz15_0 := blk_frozen BK188.out 0
        have hfz15_1 := blk_frozen BK188.out 1
        have hfz15_2 := blk_frozen BK188.out 2
        have hfz15_3 := blk_frozen BK188.out 3
        have hfz15_4 := blk_frozen BK188.out 4
        go_wp2
        go_ret
        exact ⟨by first | rfl | (simp [errW_none, errW_some] <;> rfl) | (simp [*, errW_none, errW_some] <;> rfl), by repeat (first | (with_reducible first | exact HB.out | apply below_alloc | apply pw_below_drewN | apply below_drew1 | refine below_set ?_ GE188.out) | exact HB.out)⟩
      rw [if_pos c13] at H; have c13b0 : (a0_2 == 0) = true := beq_iff_eq.mpr c13
      have c13b1 : (a0_2 != 0) = false := bne_eq_false_iff_eq.mpr c13
      clear c13
      obtain rfl := Option.some.inj H
      have hcz14_0 : wc.cell? ⟨gb188, 0, none⟩ = some (.int .u32 a0_0) := (blk_cell BK188.out 0).trans rfl
      have hcz14_1 : wc.cell? ⟨gb188, 1, none⟩ = some (.int .i64 a0_1) := (blk_cell BK188.out 1).trans rfl
      have hcz14_2 : wc.cell? ⟨gb188, 2, none⟩ = some (.int .u32 a0_2) := (blk_cell BK188.out 2).trans rfl
      have hcz14_3 : wc.cell? ⟨gb188, 3, none⟩ = some (.int .u32 a0_3) := (blk_cell BK188.out 3).trans rfl
      have hcz14_4 : wc.cell? ⟨gb188, 4, none⟩ = some (.int .u16 a0_4) := (blk_cell BK188.out 4).trans rfl
      have hfz14_0 := blk_frozen BK188.out 0
      have hfz14_1 := blk_frozen BK188.out 1
      have hfz14_2 := blk_frozen BK188.out 2
      have hfz14_3 := blk_frozen BK188.out 3
      have hfz14_4 := blk_frozen BK188.out 4
      go_wp2
      go_ret
      exact ⟨by first | rfl | (simp [errW_none, errW_some] <;> rfl) | (simp [*, errW_none, errW_some] <;> rfl), by repeat (first | (with_reducible first | exact HB.out | apply below_alloc | apply pw_below_drewN | apply below_drew1 | refine below_set ?_ GE188.out) | exact HB.out)⟩
/-! ### wayfarerlaw08_decode: function 41 -/
mutual
def wayfarerlaw08_decode.j0 : Nat → List Int → Bool → Option ((List (S62)) × Bool)
  | 0, _, _ => none
  | k + 1, x0, x47 => if x47 = true then (some (([] : List (S62)), false)) else (wayfarerlaw08_decode.l0 k x0 (([] : List (S62))) 0 4)
def wayfarerlaw08_decode.l0 : Nat → List Int → List (S62) → Int → Int → Option ((List (S62)) × Bool)
  | 0, _, _, _, _ => none
  | k + 1, x0, x4, x5, x6 => if x6 < (x0.length : Int) then (if 0 ≤ x6 then (if (rd x0 x6) = 0 then (wayfarerlaw08_decode.l0 k x0 x4 x5 (wrap64 (x6 + 1))) else (if (wrap64 (x6 + 1)) = (x0.length : Int) then (wayfarerlaw08_decode.j2 k x0 x4 x5 x6 true) else (if 0 ≤ (wrap64 (x6 + 1)) then (if (wrap64 (x6 + 1)) < (x0.length : Int) then (wayfarerlaw08_decode.j2 k x0 x4 x5 x6 (decide ((wrap64 ((wrap64 (x6 + 2)) + (wrap64 (rd x0 (wrap64 (x6 + 1)))))) > (x0.length : Int)))) else (none)) else (none)))) else (none)) else (some (x4, true))
def wayfarerlaw08_decode.j2 : Nat → List Int → List (S62) → Int → Int → Bool → Option ((List (S62)) × Bool)
  | 0, _, _, _, _, _ => none
  | k + 1, x0, x4, x5, x6, x78 => if x78 = true then (some (([] : List (S62)), false)) else (if 0 ≤ (wrap64 (x6 + 1)) then (if (wrap64 (x6 + 1)) < (x0.length : Int) then (if 0 ≤ (wrap64 (x6 + 2)) then (if (wrap64 (x6 + 2)) ≤ (wrap64 ((wrap64 (x6 + 2)) + (wrap64 (rd x0 (wrap64 (x6 + 1)))))) then (if (wrap64 ((wrap64 (x6 + 2)) + (wrap64 (rd x0 (wrap64 (x6 + 1)))))) ≤ (x0.length : Int) then (if 0 ≤ x6 then (if x6 < (x0.length : Int) then (if (rd x0 x6) = 2 then (wayfarerlaw08_decode.j3 k x0 x4 x5 (wrap64 (x6 + (wrap64 (2 + (((x0.take ((wrap64 ((wrap64 (x6 + 2)) + (wrap64 (rd x0 (wrap64 (x6 + 1)))))) : Int).toNat).drop ((wrap64 (x6 + 2)) : Int).toNat).length : Int))))) ((x0.take ((wrap64 ((wrap64 (x6 + 2)) + (wrap64 (rd x0 (wrap64 (x6 + 1)))))) : Int).toNat).drop ((wrap64 (x6 + 2)) : Int).toNat) (rd x0 x6) ((((x0.take ((wrap64 ((wrap64 (x6 + 2)) + (wrap64 (rd x0 (wrap64 (x6 + 1)))))) : Int).toNat).drop ((wrap64 (x6 + 2)) : Int).toNat).length : Int) == 4)) else (wayfarerlaw08_decode.j3 k x0 x4 x5 (wrap64 (x6 + (wrap64 (2 + (((x0.take ((wrap64 ((wrap64 (x6 + 2)) + (wrap64 (rd x0 (wrap64 (x6 + 1)))))) : Int).toNat).drop ((wrap64 (x6 + 2)) : Int).toNat).length : Int))))) ((x0.take ((wrap64 ((wrap64 (x6 + 2)) + (wrap64 (rd x0 (wrap64 (x6 + 1)))))) : Int).toNat).drop ((wrap64 (x6 + 2)) : Int).toNat) (rd x0 x6) false)) else (none)) else (none)) else (none)) else (none)) else (none)) else (none)) else (none))
def wayfarerlaw08_decode.j3 : Nat → List Int → List (S62) → Int → Int → List Int → Int → Bool → Option ((List (S62)) × Bool)
  | 0, _, _, _, _, _, _, _ => none
  | k + 1, x0, x4, x5, x6, x7, x8, x107 => if x107 = true then (if 0 < (x7.length : Int) then (if 1 < (x7.length : Int) then (if 2 < (x7.length : Int) then (if 3 < (x7.length : Int) then (wayfarerlaw08_decode.j4 k x0 x4 ((((((((((rd x7 0) % 4294967296) * 16777216) % 4294967296) + ((((rd x7 1) % 4294967296) * 65536) % 4294967296)) % 4294967296) + ((((rd x7 2) % 4294967296) * 256) % 4294967296)) % 4294967296) + ((rd x7 3) % 4294967296)) % 4294967296) x6 x7 x8) else (none)) else (none)) else (none)) else (none)) else (wayfarerlaw08_decode.j4 k x0 x4 x5 x6 x7 x8)
def wayfarerlaw08_decode.j4 : Nat → List Int → List (S62) → Int → Int → List Int → Int → Option ((List (S62)) × Bool)
  | 0, _, _, _, _, _, _ => none
  | k + 1, x0, x4, x5, x6, x7, x8 => if x8 = 3 then (if (x7.length : Int) < 7 then (wayfarerlaw08_decode.j5 k x0 x4 x5 x6 x7 true) else (if 0 < (x7.length : Int) then (if (rd x7 0) > 32 then (wayfarerlaw08_decode.j5 k x0 x4 x5 x6 x7 true) else (wayfarerlaw08_decode.j5 k x0 x4 x5 x6 x7 ((x7.length : Int) != (wrap64 (7 + (wrap64 (Int.tdiv (wrap64 ((wrap64 (rd x7 0)) + 7)) 8))))))) else (none))) else (wayfarerlaw08_decode.j5 k x0 x4 x5 x6 x7 true)
def wayfarerlaw08_decode.j5 : Nat → List Int → List (S62) → Int → Int → List Int → Bool → Option ((List (S62)) × Bool)
  | 0, _, _, _, _, _, _ => none
  | k + 1, x0, x4, x5, x6, x7, x154 => if x154 = true then (wayfarerlaw08_decode.l0 k x0 x4 x5 x6) else (if 0 < (x7.length : Int) then (if 1 < (x7.length : Int) then (if 2 < (x7.length : Int) then (if 3 < (x7.length : Int) then (if 4 < (x7.length : Int) then (if 5 < (x7.length : Int) then (if 6 < (x7.length : Int) then (if 7 ≤ (x7.length : Int) then (wayfarerlaw08_decode.l1 k x0 x4 x5 x6 (x7.drop 7) ((x7.drop 7).length : Int) 0 0 (wrap64 (rd x7 0)) x5 ((((((((((rd x7 1) % 4294967296) * 16777216) % 4294967296) + ((((rd x7 2) % 4294967296) * 65536) % 4294967296)) % 4294967296) + ((((rd x7 3) % 4294967296) * 256) % 4294967296)) % 4294967296) + ((rd x7 4) % 4294967296)) % 4294967296) (IntKind.u16.wrap ((IntKind.u16.wrap ((IntKind.u16.wrap (rd x7 5)) * 256)) + (IntKind.u16.wrap (rd x7 6))))) else (none)) else (none)) else (none)) else (none)) else (none)) else (none)) else (none)) else (none))
def wayfarerlaw08_decode.l1 : Nat → List Int → List (S62) → Int → Int → List Int → Int → Int → Int → Int → Int → Int → Int → Option ((List (S62)) × Bool)
  | 0, _, _, _, _, _, _, _, _, _, _, _, _ => none
  | k + 1, x0, x4, x5, x6, x196, x197, x198, x216000, x216001, x216002, x216003, x216004 => if x198 < x197 then (if 0 ≤ x198 then (if x198 < (x196.length : Int) then (if 0 ≤ (IntKind.u64.wrap (wrap64 (24 - (wrap64 (8 * x198))))) then (wayfarerlaw08_decode.l1 k x0 x4 x5 x6 x196 x197 (wrap64 (x198 + 1)) ((x216000 + (shl .u32 ((rd x196 x198) % 4294967296) (IntKind.u64.wrap (wrap64 (24 - (wrap64 (8 * x198))))))) % 4294967296) x216001 x216002 x216003 x216004) else (none)) else (none)) else (none)) else (if x216004 = 65535 then ((wayfarerlaw08_Right.f k x216000 x216001 0 x216003 x216004).bind fun t218 => (if t218 = true then (if x4.length < 4398046511104 then (wayfarerlaw08_decode.l0 k x0 (x4 ++ [(⟨(⟨x216000, x216001⟩ : S29), 0, (⟨x216003, x216004⟩ : S39)⟩ : S62)]) x5 x6) else (none)) else (wayfarerlaw08_decode.l0 k x0 x4 x5 x6))) else ((wayfarerlaw08_Right.f k x216000 x216001 x216002 x216003 x216004).bind fun t222 => (if t222 = true then (if x4.length < 4398046511104 then (wayfarerlaw08_decode.l0 k x0 (x4 ++ [(⟨(⟨x216000, x216001⟩ : S29), x216002, (⟨x216003, x216004⟩ : S39)⟩ : S62)]) x5 x6) else (none)) else (wayfarerlaw08_decode.l0 k x0 x4 x5 x6))))
end
def wayfarerlaw08_decode.f (k : Nat) (l0 : List Int) : Option ((List (S62)) × Bool) := if (l0.length : Int) < 4 then (wayfarerlaw08_decode.j0 k l0 true) else (if (l0.length : Int) > 1024 then (wayfarerlaw08_decode.j0 k l0 true) else (if 0 < (l0.length : Int) then (if (rd l0 0) = 87 then (if 1 < (l0.length : Int) then (if (rd l0 1) = 1 then (if 2 < (l0.length : Int) then (if 3 < (l0.length : Int) then (wayfarerlaw08_decode.j0 k l0 ((wrap64 ((wrap64 (256 * (wrap64 (rd l0 2)))) + (wrap64 (rd l0 3)))) != (wrap64 ((l0.length : Int) - 4)))) else (none)) else (none)) else (wayfarerlaw08_decode.j0 k l0 true)) else (none)) else (wayfarerlaw08_decode.j0 k l0 true)) else (none)))
theorem wayfarerlaw08_decode.mono_l : ∀ k, (∀ y0 y1, LeO (wayfarerlaw08_decode.j0 k y0 y1) (wayfarerlaw08_decode.j0 (k + 1) y0 y1)) ∧ (∀ y0 y1 y2 y3, LeO (wayfarerlaw08_decode.l0 k y0 y1 y2 y3) (wayfarerlaw08_decode.l0 (k + 1) y0 y1 y2 y3)) ∧ (∀ y0 y1 y2 y3 y4, LeO (wayfarerlaw08_decode.j2 k y0 y1 y2 y3 y4) (wayfarerlaw08_decode.j2 (k + 1) y0 y1 y2 y3 y4)) ∧ (∀ y0 y1 y2 y3 y4 y5 y6, LeO (wayfarerlaw08_decode.j3 k y0 y1 y2 y3 y4 y5 y6) (wayfarerlaw08_decode.j3 (k + 1) y0 y1 y2 y3 y4 y5 y6)) ∧ (∀ y0 y1 y2 y3 y4 y5, LeO (wayfarerlaw08_decode.j4 k y0 y1 y2 y3 y4 y5) (wayfarerlaw08_decode.j4 (k + 1) y0 y1 y2 y3 y4 y5)) ∧ (∀ y0 y1 y2 y3 y4 y5, LeO (wayfarerlaw08_decode.j5 k y0 y1 y2 y3 y4 y5) (wayfarerlaw08_decode.j5 (k + 1) y0 y1 y2 y3 y4 y5)) ∧ (∀ y0 y1 y2 y3 y4 y5 y6 y7 y8 y9 y10 y11, LeO (wayfarerlaw08_decode.l1 k y0 y1 y2 y3 y4 y5 y6 y7 y8 y9 y10 y11) (wayfarerlaw08_decode.l1 (k + 1) y0 y1 y2 y3 y4 y5 y6 y7 y8 y9 y10 y11))
  | 0 => ⟨fun _ _ r h => by simp [wayfarerlaw08_decode.j0] at h, fun _ _ _ _ r h => by simp [wayfarerlaw08_decode.l0] at h, fun _ _ _ _ _ r h => by simp [wayfarerlaw08_decode.j2] at h, fun _ _ _ _ _ _ _ r h => by simp [wayfarerlaw08_decode.j3] at h, fun _ _ _ _ _ _ r h => by simp [wayfarerlaw08_decode.j4] at h, fun _ _ _ _ _ _ r h => by simp [wayfarerlaw08_decode.j5] at h, fun _ _ _ _ _ _ _ _ _ _ _ _ r h => by simp [wayfarerlaw08_decode.l1] at h⟩
  | k + 1 => by
    obtain ⟨ih0, ih1, ih2, ih3, ih4, ih5, ih6⟩ := wayfarerlaw08_decode.mono_l k
    refine ⟨?_, ?_, ?_, ?_, ?_, ?_, ?_⟩
    · intro y0 y1
      unfold wayfarerlaw08_decode.j0
      repeat' first
      | (with_reducible exact ih0 _ _)
      | (with_reducible exact ih1 _ _ _ _)
      | (with_reducible exact ih2 _ _ _ _ _)
      | (with_reducible exact ih3 _ _ _ _ _ _ _)
      | (with_reducible exact ih4 _ _ _ _ _ _)
      | (with_reducible exact ih5 _ _ _ _ _ _)
      | (with_reducible exact ih6 _ _ _ _ _ _ _ _ _ _ _ _)
      | (with_reducible exact wayfarerlaw08_Right.mono _ _ _ _ _ _)
      | (with_reducible exact LeO.refl _)
      | (with_reducible exact LeO.none _)
      | (with_reducible refine LeO.ite ?_ ?_)
      | (with_reducible refine LeO.bind ?_ (fun _ => ?_))
      | exact ih0 _ _
      | exact ih1 _ _ _ _
      | exact ih2 _ _ _ _ _
      | exact ih3 _ _ _ _ _ _ _
      | exact ih4 _ _ _ _ _ _
      | exact ih5 _ _ _ _ _ _
      | exact ih6 _ _ _ _ _ _ _ _ _ _ _ _
      | exact wayfarerlaw08_Right.mono _ _ _ _ _ _
      | exact LeO.none _
      | refine LeO.ite ?_ ?_
      | refine LeO.bind ?_ (fun _ => ?_)
    · intro y0 y1 y2 y3
      unfold wayfarerlaw08_decode.l0
      repeat' first
      | (with_reducible exact ih0 _ _)
      | (with_reducible exact ih1 _ _ _ _)
      | (with_reducible exact ih2 _ _ _ _ _)
      | (with_reducible exact ih3 _ _ _ _ _ _ _)
      | (with_reducible exact ih4 _ _ _ _ _ _)
      | (with_reducible exact ih5 _ _ _ _ _ _)
      | (with_reducible exact ih6 _ _ _ _ _ _ _ _ _ _ _ _)
      | (with_reducible exact wayfarerlaw08_Right.mono _ _ _ _ _ _)
      | (with_reducible exact LeO.refl _)
      | (with_reducible exact LeO.none _)
      | (with_reducible refine LeO.ite ?_ ?_)
      | (with_reducible refine LeO.bind ?_ (fun _ => ?_))
      | exact ih0 _ _
      | exact ih1 _ _ _ _
      | exact ih2 _ _ _ _ _
      | exact ih3 _ _ _ _ _ _ _
      | exact ih4 _ _ _ _ _ _
      | exact ih5 _ _ _ _ _ _
      | exact ih6 _ _ _ _ _ _ _ _ _ _ _ _
      | exact wayfarerlaw08_Right.mono _ _ _ _ _ _
      | exact LeO.none _
      | refine LeO.ite ?_ ?_
      | refine LeO.bind ?_ (fun _ => ?_)
    · intro y0 y1 y2 y3 y4
      unfold wayfarerlaw08_decode.j2
      repeat' first
      | (with_reducible exact ih0 _ _)
      | (with_reducible exact ih1 _ _ _ _)
      | (with_reducible exact ih2 _ _ _ _ _)
      | (with_reducible exact ih3 _ _ _ _ _ _ _)
      | (with_reducible exact ih4 _ _ _ _ _ _)
      | (with_reducible exact ih5 _ _ _ _ _ _)
      | (with_reducible exact ih6 _ _ _ _ _ _ _ _ _ _ _ _)
      | (with_reducible exact wayfarerlaw08_Right.mono _ _ _ _ _ _)
      | (with_reducible exact LeO.refl _)
      | (with_reducible exact LeO.none _)
      | (with_reducible refine LeO.ite ?_ ?_)
      | (with_reducible refine LeO.bind ?_ (fun _ => ?_))
      | exact ih0 _ _
      | exact ih1 _ _ _ _
      | exact ih2 _ _ _ _ _
      | exact ih3 _ _ _ _ _ _ _
      | exact ih4 _ _ _ _ _ _
      | exact ih5 _ _ _ _ _ _
      | exact ih6 _ _ _ _ _ _ _ _ _ _ _ _
      | exact wayfarerlaw08_Right.mono _ _ _ _ _ _
      | exact LeO.none _
      | refine LeO.ite ?_ ?_
      | refine LeO.bind ?_ (fun _ => ?_)
    · intro y0 y1 y2 y3 y4 y5 y6
      unfold wayfarerlaw08_decode.j3
      repeat' first
      | (with_reducible exact ih0 _ _)
      | (with_reducible exact ih1 _ _ _ _)
      | (with_reducible exact ih2 _ _ _ _ _)
      | (with_reducible exact ih3 _ _ _ _ _ _ _)
      | (with_reducible exact ih4 _ _ _ _ _ _)
      | (with_reducible exact ih5 _ _ _ _ _ _)
      | (with_reducible exact ih6 _ _ _ _ _ _ _ _ _ _ _ _)
      | (with_reducible exact wayfarerlaw08_Right.mono _ _ _ _ _ _)
      | (with_reducible exact LeO.refl _)
      | (with_reducible exact LeO.none _)
      | (with_reducible refine LeO.ite ?_ ?_)
      | (with_reducible refine LeO.bind ?_ (fun _ => ?_))
      | exact ih0 _ _
      | exact ih1 _ _ _ _
      | exact ih2 _ _ _ _ _
      | exact ih3 _ _ _ _ _ _ _
      | exact ih4 _ _ _ _ _ _
      | exact ih5 _ _ _ _ _ _
      | exact ih6 _ _ _ _ _ _ _ _ _ _ _ _
      | exact wayfarerlaw08_Right.mono _ _ _ _ _ _
      | exact LeO.none _
      | refine LeO.ite ?_ ?_
      | refine LeO.bind ?_ (fun _ => ?_)
    · intro y0 y1 y2 y3 y4 y5
      unfold wayfarerlaw08_decode.j4
      repeat' first
      | (with_reducible exact ih0 _ _)
      | (with_reducible exact ih1 _ _ _ _)
      | (with_reducible exact ih2 _ _ _ _ _)
      | (with_reducible exact ih3 _ _ _ _ _ _ _)
      | (with_reducible exact ih4 _ _ _ _ _ _)
      | (with_reducible exact ih5 _ _ _ _ _ _)
      | (with_reducible exact ih6 _ _ _ _ _ _ _ _ _ _ _ _)
      | (with_reducible exact wayfarerlaw08_Right.mono _ _ _ _ _ _)
      | (with_reducible exact LeO.refl _)
      | (with_reducible exact LeO.none _)
      | (with_reducible refine LeO.ite ?_ ?_)
      | (with_reducible refine LeO.bind ?_ (fun _ => ?_))
      | exact ih0 _ _
      | exact ih1 _ _ _ _
      | exact ih2 _ _ _ _ _
      | exact ih3 _ _ _ _ _ _ _
      | exact ih4 _ _ _ _ _ _
      | exact ih5 _ _ _ _ _ _
      | exact ih6 _ _ _ _ _ _ _ _ _ _ _ _
      | exact wayfarerlaw08_Right.mono _ _ _ _ _ _
      | exact LeO.none _
      | refine LeO.ite ?_ ?_
      | refine LeO.bind ?_ (fun _ => ?_)
    · intro y0 y1 y2 y3 y4 y5
      unfold wayfarerlaw08_decode.j5
      repeat' first
      | (with_reducible exact ih0 _ _)
      | (with_reducible exact ih1 _ _ _ _)
      | (with_reducible exact ih2 _ _ _ _ _)
      | (with_reducible exact ih3 _ _ _ _ _ _ _)
      | (with_reducible exact ih4 _ _ _ _ _ _)
      | (with_reducible exact ih5 _ _ _ _ _ _)
      | (with_reducible exact ih6 _ _ _ _ _ _ _ _ _ _ _ _)
      | (with_reducible exact wayfarerlaw08_Right.mono _ _ _ _ _ _)
      | (with_reducible exact LeO.refl _)
      | (with_reducible exact LeO.none _)
      | (with_reducible refine LeO.ite ?_ ?_)
      | (with_reducible refine LeO.bind ?_ (fun _ => ?_))
      | exact ih0 _ _
      | exact ih1 _ _ _ _
      | exact ih2 _ _ _ _ _
      | exact ih3 _ _ _ _ _ _ _
      | exact ih4 _ _ _ _ _ _
      | exact ih5 _ _ _ _ _ _
      | exact ih6 _ _ _ _ _ _ _ _ _ _ _ _
      | exact wayfarerlaw08_Right.mono _ _ _ _ _ _
      | exact LeO.none _
      | refine LeO.ite ?_ ?_
      | refine LeO.bind ?_ (fun _ => ?_)
    · intro y0 y1 y2 y3 y4 y5 y6 y7 y8 y9 y10 y11
      unfold wayfarerlaw08_decode.l1
      repeat' first
      | (with_reducible exact ih0 _ _)
      | (with_reducible exact ih1 _ _ _ _)
      | (with_reducible exact ih2 _ _ _ _ _)
      | (with_reducible exact ih3 _ _ _ _ _ _ _)
      | (with_reducible exact ih4 _ _ _ _ _ _)
      | (with_reducible exact ih5 _ _ _ _ _ _)
      | (with_reducible exact ih6 _ _ _ _ _ _ _ _ _ _ _ _)
      | (with_reducible exact wayfarerlaw08_Right.mono _ _ _ _ _ _)
      | (with_reducible exact LeO.refl _)
      | (with_reducible exact LeO.none _)
      | (with_reducible refine LeO.ite ?_ ?_)
      | (with_reducible refine LeO.bind ?_ (fun _ => ?_))
      | exact ih0 _ _
      | exact ih1 _ _ _ _
      | exact ih2 _ _ _ _ _
      | exact ih3 _ _ _ _ _ _ _
      | exact ih4 _ _ _ _ _ _
      | exact ih5 _ _ _ _ _ _
      | exact ih6 _ _ _ _ _ _ _ _ _ _ _ _
      | exact wayfarerlaw08_Right.mono _ _ _ _ _ _
      | exact LeO.none _
      | refine LeO.ite ?_ ?_
      | refine LeO.bind ?_ (fun _ => ?_)
theorem wayfarerlaw08_decode.mono : ∀ a0 k, LeO (wayfarerlaw08_decode.f k a0) (wayfarerlaw08_decode.f (k + 1) a0) := by
  intro a0 k
  obtain ⟨ih0, ih1, ih2, ih3, ih4, ih5, ih6⟩ := wayfarerlaw08_decode.mono_l k
  unfold wayfarerlaw08_decode.f
  repeat' first
      | (with_reducible exact ih0 _ _)
      | (with_reducible exact ih1 _ _ _ _)
      | (with_reducible exact ih2 _ _ _ _ _)
      | (with_reducible exact ih3 _ _ _ _ _ _ _)
      | (with_reducible exact ih4 _ _ _ _ _ _)
      | (with_reducible exact ih5 _ _ _ _ _ _)
      | (with_reducible exact ih6 _ _ _ _ _ _ _ _ _ _ _ _)
      | (with_reducible exact wayfarerlaw08_Right.mono _ _ _ _ _ _)
      | (with_reducible exact LeO.refl _)
      | (with_reducible exact LeO.none _)
      | (with_reducible refine LeO.ite ?_ ?_)
      | (with_reducible refine LeO.bind ?_ (fun _ => ?_))
      | exact ih0 _ _
      | exact ih1 _ _ _ _
      | exact ih2 _ _ _ _ _
      | exact ih3 _ _ _ _ _ _ _
      | exact ih4 _ _ _ _ _ _
      | exact ih5 _ _ _ _ _ _
      | exact ih6 _ _ _ _ _ _ _ _ _ _ _ _
      | exact wayfarerlaw08_Right.mono _ _ _ _ _ _
      | exact LeO.none _
      | refine LeO.ite ?_ ?_
      | refine LeO.bind ?_ (fun _ => ?_)
def wayfarerlaw08_decode.T1 : Bool × List (List Nat × List Nat) := (true, [([], []), ([0], [0]), ([1], [1]), ([2], [2]), ([3], [3]), ([4, 3], [3, 4]), ([5, 3], [3, 5]), ([3, 6], [3, 6]), ([7, 3], [7]), ([8], [8]), ([9, 8], [8, 9]), ([10, 8], [8, 10]), ([11, 8], [8, 11]), ([8, 12], [8, 12]), ([13, 8], [13]), ([14], [14]), ([15, 14], [14, 15]), ([16, 14], [14, 16]), ([17, 14], [14, 17]), ([14, 18], [14, 18]), ([19, 14], [19]), ([20], [20]), ([21, 20], [20, 21]), ([22, 20], [20, 22]), ([23, 20], [20, 23]), ([24, 20], [20, 24]), ([20], [20]), ([26, 20], [20, 26]), ([27, 20], [20, 27]), ([28, 20], [20, 28]), ([25, 29, 20], [20, 25, 29]), ([20], [20]), ([31, 20], [20, 31]), ([32, 20], [20, 32]), ([30, 33, 20], [20, 30, 33]), ([20, 34], [20, 34])])
def wayfarerlaw08_decode.B1 : List Nat := [0, 1, 3, 7, 15, 31, 63, 127, 255, 511, 1023, 2047, 4095, 8191, 16383, 32767, 65535, 131071, 262143, 524287, 1048575, 2097151, 4194303, 8388607, 16777215, 33554431, 2097151, 69206015, 203423743, 471859199, 1073741823, 2097151, 2149580799, 6444548095, 17179869183, 34359738367]
theorem wayfarerlaw08_decode.tab1 : rtab .any (opsOf Try.f41 1) = wayfarerlaw08_decode.T1 := by kernel_rfl
theorem wayfarerlaw08_decode.bits1 : waitsOk wayfarerlaw08_decode.T1.2 wayfarerlaw08_decode.B1 = true := by kernel_rfl
def wayfarerlaw08_decode.T15 : Bool × List (List Nat × List Nat) := (true, [([], []), ([0], [0]), ([1], [1]), ([2], [2]), ([3], [3]), ([], []), ([5], [5]), ([6], [6]), ([7], [7]), ([8], [8]), ([4, 9], [4, 9]), ([], []), ([11], [11]), ([12], [12]), ([13], [13]), ([14], [14]), ([10, 15], [10, 15]), ([], []), ([17], [17]), ([18], [18]), ([19], [19]), ([16, 20], [16, 20]), ([21, 0, 1, 2, 3, 4, 5, 6, 7, 8, 9, 10, 11, 12, 13, 14, 15, 16, 17, 18, 19, 20, 21], [21])])
def wayfarerlaw08_decode.B15 : List Nat := [0, 1, 3, 7, 15, 0, 32, 96, 224, 480, 1023, 0, 2048, 6144, 14336, 30720, 65535, 0, 131072, 393216, 917504, 2097151, 4194303]
theorem wayfarerlaw08_decode.tab15 : rtab .any (opsOf Try.f41 15) = wayfarerlaw08_decode.T15 := by kernel_rfl
theorem wayfarerlaw08_decode.bits15 : waitsOk wayfarerlaw08_decode.T15.2 wayfarerlaw08_decode.B15 = true := by kernel_rfl
def wayfarerlaw08_decode.T17 : Bool × List (List Nat × List Nat) := (true, [([], []), ([0], [0]), ([1], [1]), ([2], [2]), ([3], [3]), ([], []), ([], []), ([6], [6]), ([7], [7]), ([8], [8]), ([9], [9]), ([], []), ([11], [11]), ([12], [12]), ([13], [13]), ([14], [14]), ([10, 15], [10, 15]), ([], []), ([17], [17]), ([18], [18]), ([19], [19]), ([20], [20]), ([16, 21], [16, 21]), ([], []), ([23], [23]), ([24], [24]), ([25], [25]), ([22, 26], [22, 26]), ([], []), ([28], [28]), ([29], [29]), ([30], [30]), ([31], [31]), ([], []), ([33], [33]), ([34], [34]), ([35], [35]), ([32, 36], [32, 36]), ([27, 37], [27, 37]), ([4, 5, 38], [4, 5, 38]), ([], []), ([40, 39, 0, 1, 2, 3, 4, 5, 6, 7, 8, 9, 10, 11, 12, 13, 14, 15, 16, 17, 18, 19, 20, 21, 22, 23, 24, 25, 26, 27, 28, 29, 30, 31, 32, 33, 34, 35, 36, 37, 38, 39, 40], [39, 40])])
def wayfarerlaw08_decode.B17 : List Nat := [0, 1, 3, 7, 15, 0, 0, 64, 192, 448, 960, 0, 2048, 6144, 14336, 30720, 65472, 0, 131072, 393216, 917504, 1966080, 4194240, 0, 8388608, 25165824, 58720256, 134217664, 0, 268435456, 805306368, 1879048192, 4026531840, 0, 8589934592, 25769803776, 60129542144, 137170518016, 274877906880, 549755813887, 0, 2199023255551]
theorem wayfarerlaw08_decode.tab17 : rtab .any (opsOf Try.f41 17) = wayfarerlaw08_decode.T17 := by kernel_rfl
theorem wayfarerlaw08_decode.bits17 : waitsOk wayfarerlaw08_decode.T17.2 wayfarerlaw08_decode.B17 = true := by kernel_rfl

end Go.Proofs.YtgmdjhokcipajaaQ.PTlx
