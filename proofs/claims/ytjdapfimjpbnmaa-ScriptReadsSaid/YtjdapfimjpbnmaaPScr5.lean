-- written by this session's turned copy of the kit's print.py; Lean checks it
import Derived.Test.YtjdapfimjpbnmaaPScr0
import Derived.Test.YtjdapfimjpbnmaaPScr3
import Derived.Test.YtjdapfimjpbnmaaPScr4
namespace Go.Proofs.YtjdapfimjpbnmaaQ.PScr
open Go.RowKit Go.Proofs.YtjdapfimjpbnmaaW.PrintWords Go.Proofs.YtjdapfimjpbnmaaW.PrintLast Go.Proofs.YtjdapfimjpbnmaaW.PrintMore
attribute [local go_sem] max2_int min2_int max_two min_two max_three min_three max_four min_four   -- for this text's walks alone
set_option linter.unusedVariables false
set_option linter.unusedSimpArgs false

/-! ### script_one: function 36 -/
def script_one.j0 : Nat → ByteArray → Bool → Option (Int × Int × Int × Int × Int × Int × ByteArray × Int × Bool)
  | 0, _, _ => none
  | k + 1, x0, x18 => if x18 = true then (some (0, 0, 0, 0, 0, 0, (⟨#[]⟩ : ByteArray), 0, false)) else (if 15 < (x0.size : Int) then (if 0 < (x0.size : Int) then (if 1 ≤ 4 then (if 4 ≤ (x0.size : Int) then ((script_get.f k (x0.extract 1 4)).bind fun t154 => (if 4 ≤ 7 then (if 7 ≤ (x0.size : Int) then ((script_get.f k (x0.extract 4 7)).bind fun t155 => (if 7 ≤ 10 then (if 10 ≤ (x0.size : Int) then ((script_get.f k (x0.extract 7 10)).bind fun t156 => (if 10 ≤ 14 then (if 14 ≤ (x0.size : Int) then ((script_get.f k (x0.extract 10 14)).bind fun t157 => (if 14 < (x0.size : Int) then (if 16 ≤ (wrap64 (16 + (wrap64 (bt x0 15)))) then (if (wrap64 (16 + (wrap64 (bt x0 15)))) ≤ (x0.size : Int) then ((script_Event_Right.f k (wrap64 (bt x0 0)) (wrap64 (t154)) (wrap64 (t155)) (wrap64 (t156)) ((t157) % 4294967296) (wrap64 (bt x0 14)) (x0.extract 16 ((wrap64 (16 + (wrap64 (bt x0 15)))) : Int).toNat)).bind fun t159 => (some (wrap64 (bt x0 0), wrap64 (t154), wrap64 (t155), wrap64 (t156), (t157) % 4294967296, wrap64 (bt x0 14), x0.extract 16 ((wrap64 (16 + (wrap64 (bt x0 15)))) : Int).toNat, wrap64 (16 + (wrap64 (bt x0 15))), t159))) else (none)) else (none)) else (none))) else (none)) else (none))) else (none)) else (none))) else (none)) else (none))) else (none)) else (none)) else (none)) else (none))
def script_one.f (k : Nat) (a0 : ByteArray) : Option (Int × Int × Int × Int × Int × Int × ByteArray × Int × Bool) := if (a0.size : Int) < 16 then (script_one.j0 k a0 true) else (if 15 < (a0.size : Int) then (script_one.j0 k a0 (decide ((a0.size : Int) < (wrap64 (16 + (wrap64 (bt a0 15))))))) else (none))
theorem script_one.mono_l : ∀ k, (∀ y0 y1, LeO (script_one.j0 k y0 y1) (script_one.j0 (k + 1) y0 y1))
  | 0 => fun _ _ r h => by simp [script_one.j0] at h
  | k + 1 => by
    have ih0 := script_one.mono_l k
    · intro y0 y1
      unfold script_one.j0
      repeat' first
      | (with_reducible exact ih0 _ _)
      | (with_reducible exact script_Event_Right.mono _ _ _ _ _ _ _ _)
      | (with_reducible exact script_get.mono _ _)
      | (with_reducible exact LeO.refl _)
      | (with_reducible exact LeO.none _)
      | (with_reducible refine LeO.ite ?_ ?_)
      | (with_reducible refine LeO.bind ?_ (fun _ => ?_))
      | exact ih0 _ _
      | exact script_Event_Right.mono _ _ _ _ _ _ _ _
      | exact script_get.mono _ _
      | exact LeO.none _
      | refine LeO.ite ?_ ?_
      | refine LeO.bind ?_ (fun _ => ?_)
theorem script_one.mono : ∀ a0 k, LeO (script_one.f k a0) (script_one.f (k + 1) a0) := by
  intro a0 k
  have ih0 := script_one.mono_l k
  unfold script_one.f
  repeat' first
      | (with_reducible exact ih0 _ _)
      | (with_reducible exact script_Event_Right.mono _ _ _ _ _ _ _ _)
      | (with_reducible exact script_get.mono _ _)
      | (with_reducible exact LeO.refl _)
      | (with_reducible exact LeO.none _)
      | (with_reducible refine LeO.ite ?_ ?_)
      | (with_reducible refine LeO.bind ?_ (fun _ => ?_))
      | exact ih0 _ _
      | exact script_Event_Right.mono _ _ _ _ _ _ _ _
      | exact script_get.mono _ _
      | exact LeO.none _
      | refine LeO.ite ?_ ?_
      | refine LeO.bind ?_ (fun _ => ?_)
def script_one.T4 : Bool × List (List Nat × List Nat) := (true, [([], []), ([0], [0]), ([1], [1]), ([], []), ([3], [3]), ([4], [4]), ([5], [5]), ([], []), ([7], [7]), ([8, 5], [8]), ([9], [9]), ([], []), ([11], [11]), ([12, 9], [12]), ([13], [13]), ([], []), ([15], [15]), ([16, 13], [16]), ([17], [17]), ([], []), ([19], [19]), ([20], [20]), ([18, 21], [18, 21]), ([], []), ([], []), ([23, 24], [23, 24]), ([2, 6, 10, 14, 22, 25], [2, 6, 10, 14, 22, 25]), ([], []), ([27, 26, 17, 0, 1, 2, 3, 4, 5, 6, 7, 8, 9, 10, 11, 12, 13, 14, 15, 16, 17, 18, 19, 20, 21, 22, 23, 24, 25, 26, 27], [26, 27])])
def script_one.B4 : List Nat := [0, 1, 3, 0, 8, 24, 56, 0, 128, 440, 952, 0, 2048, 7096, 15288, 0, 32768, 113592, 244664, 0, 524288, 1572864, 4176824, 0, 0, 25165824, 67108863, 0, 268435455]
theorem script_one.tab4 : rtab .any (opsOf Try.f36 4) = script_one.T4 := by kernel_rfl
theorem script_one.bits4 : waitsOk script_one.T4.2 script_one.B4 = true := by kernel_rfl
set_option maxHeartbeats 8000000 in
set_option maxRecDepth 100000 in
theorem script_one.calls (k : Nat) (a0 : ByteArray) (r1 : Int) (r2 : Int) (r3 : Int) (r4 : Int) (r5 : Int) (r6 : Int) (r7 : ByteArray) (r8 : Int) (r9 : Bool) (w : World) (h : script_one.f k a0 = some (r1, r2, r3, r4, r5, r6, r7, r8, r9)) :
    Calls Try.prog 36 #[.string a0] w fun e w' => e = .returned (.tuple #[.agg #[.int .i64 r1, .int .i64 r2, .int .i64 r3, .int .i64 r4, .int .u32 r5, .int .i64 r6, .string r7], .int .i64 r8, .bool r9]) ∧ Below w.heap.size w w' := by
  have hu30 := Try.underlying30
  have hu28 := Try.underlying28
  have HB := Aside0.mk (Below.refl w.heap.size w)
  have H : (if (a0.size : Int) < 16 then (script_one.j0 k a0 true) else (if 15 < (a0.size : Int) then (script_one.j0 k a0 (decide ((a0.size : Int) < (wrap64 (16 + (wrap64 (bt a0 15))))))) else (none))) = some (r1, r2, r3, r4, r5, r6, r7, r8, r9) := h
  clear h
  have HC2 := Aside0.mk H
  clear H
  go_enter Try.func36, Try.ntmps36
  go_upto_region 1 with (first | ((with_reducible refine gate_dst (N := 2) rfl ?_); (try (refine gate_guard (by rfl) ?_; dsimp only)); refine box_event ?hg (N := 2) ?hd (cs := #[.int .i64 0, .int .i64 0, .int .i64 0, .int .i64 0, .int .u32 0, .int .i64 0, .string (⟨#[]⟩ : ByteArray)]) (t := 30) ?hr ?_; (case hd => rfl); (case hg => rfl); (case hr => first | (go_simp; done) | (go_simp; rfl)); intro gb153 hg w3 hbox hb; have n0_ := Aside0.mk (below_step (by repeat (first | (with_reducible first | exact HB.out | apply below_alloc | apply pw_below_drewN | apply below_drew1) | exact HB.out)) hb); have n1_ := Aside0.mk (hbox); have n2_ := Aside0.mk ((by rw [hg]; exact (below_size (by repeat (first | (with_reducible first | exact HB.out | apply below_alloc | apply pw_below_drewN | apply below_drew1) | exact HB.out))) : w.heap.size ≤ gb153)); have n3_ := Aside0.mk ((by rw [hg]; exact (below_size (by repeat (first | (with_reducible first | exact HB.out | apply below_alloc | apply pw_below_drewN | apply below_drew1) | exact HB.out))) : w.heap.size ≤ gb153)); clear HB; have HB := n0_; have BK153 := n1_; have GW153 := n2_; have GE153 := n3_; clear n0_ n1_ n2_ n3_; clear hb hbox hg))
  (try simp only [Act.put, List.setIfInBounds_toArray, List.set_cons_zero, List.set_cons_succ])
  go_cut [18] (fun v18 wc => ∃ (kq : Nat) (x18_1 : Bool), v18 = .bool x18_1 ∧ Aside0 (script_one.j0 kq a0 x18_1 = some (r1, r2, r3, r4, r5, r6, r7, r8, r9)) ∧ Aside0 (kq ≤ k) ∧ Aside0 (wc.heap[gb153]? = some (.cells #[.int .i64 0, .int .i64 0, .int .i64 0, .int .i64 0, .int .u32 0, .int .i64 0, .string (⟨#[]⟩ : ByteArray)] 30 (0, 0))) ∧ Aside0 (Below w.heap.size w wc))
  case first =>
    have H := HC2.out
    clear HC2
    by_cases c4 : (a0.size : Int) < 16
    case pos =>
      rw [if_pos c4] at H; have c4b0 : decide ((a0.size : Int) < 16) = true := decide_eq_true c4
      have c4b1 : decide (a0.size < 16) = true := decide_eq_true (by omega)
      clear c4
      (first | rw [c4b0] | (simp only [i64_w, i32_w]; rw [c4b0]) | skip)
      have H' := Aside0.mk H
      clear H
      go_wp2
      go_meet
      case rel => exact ⟨_, (true), (by first | rfl | (simp; done) | (simp [*]; done)), H', ⟨by first | omega | exact Nat.le_refl _⟩, ⟨by (with_reducible repeat (first | refine blk_drewN ?_ _ | refine blk_drew ?_ | refine blk_alloc ?_ _)); exact BK153.out⟩, ⟨by repeat (first | (with_reducible first | exact HB.out | apply below_alloc | apply pw_below_drewN | apply below_drew1 | refine below_set ?_ GE153.out) | exact HB.out)⟩⟩
    rw [if_neg c4] at H; have c4b0 : decide ((a0.size : Int) < 16) = false := decide_eq_false c4
    have c4b1 : decide (a0.size < 16) = false := decide_eq_false (by omega)
    clear c4
    (first | rw [c4b0] | (simp only [i64_w, i32_w]; rw [c4b0]) | skip)
    by_cases c5 : 15 < (a0.size : Int)
    case neg =>
      rw [if_neg c5] at H; exact absurd H (by simp)
    rw [if_pos c5] at H; have c5b0 : decide (15 < (a0.size : Int)) = true := decide_eq_true c5
    have c5b1 : decide (15 < a0.size) = true := decide_eq_true (by omega)
    clear c5
    have H' := Aside0.mk H
    clear H
    have p6 : 0 ≤ (15 : Int) := (by omega)
    have q6 : 15 < a0.size := (by have : (15 : Int) < (a0.size : Int) := of_decide_eq_true (by first | (with_reducible assumption) | assumption); omega)
    have hx6 : ∀ h : 15 < a0.size, ((a0[15]'h).toNat : Int) = bt a0 15 := bt_at a0 15
    clear p6
    have qi6 : (15 < (a0.size : Int)) = True := eq_true (of_decide_eq_true (by first | (with_reducible assumption) | assumption))
    replace q6 := eq_true q6
    go_wp2
    go_meet
    case rel => exact ⟨_, (decide ((a0.size : Int) < (wrap64 (16 + (wrap64 (bt a0 15)))))), (by first | rfl | (simp; done) | (simp [*]; done)), H', ⟨by first | omega | exact Nat.le_refl _⟩, ⟨by (with_reducible repeat (first | refine blk_drewN ?_ _ | refine blk_drew ?_ | refine blk_alloc ?_ _)); exact BK153.out⟩, ⟨by repeat (first | (with_reducible first | exact HB.out | apply below_alloc | apply pw_below_drewN | apply below_drew1 | refine below_set ?_ GE153.out) | exact HB.out)⟩⟩
  case rest =>
    clear HC2
    try clear p2; try clear c3; try clear c4; try clear c4b0; try clear c4b1; try clear c5; try clear c5b0; try clear c5b1; try clear p6; try clear q6; try clear hx6; try clear qi6; try clear p6; try clear q6
    obtain ⟨kq, x18_1, rfl, HA, HJ1, BK153, HB⟩ := hcut
    cases kq with
    | zero => exact absurd HA.out (by simp [script_one.j0])
    | succ kj1 =>
      have H := HA.out
      clear HA
      simp only [script_one.j0] at H
      by_cases c7 : x18_1 = true
      case pos =>
        subst c7
        have H1 : (some (0, 0, 0, 0, 0, 0, (⟨#[]⟩ : ByteArray), 0, false)) = some (r1, r2, r3, r4, r5, r6, r7, r8, r9) := by rw [if_pos rfl] at H; exact H
        clear H
        have H := H1
        clear H1
        simp only [Option.some.injEq, Prod.mk.injEq] at H
        obtain ⟨rfl, rfl, rfl, rfl, rfl, rfl, rfl, rfl, rfl⟩ := H
        have hcz8_0 : wc.cell? ⟨gb153, 0, none⟩ = some (.int .i64 0) := (blk_cell BK153.out 0).trans rfl
        have hcz8_1 : wc.cell? ⟨gb153, 1, none⟩ = some (.int .i64 0) := (blk_cell BK153.out 1).trans rfl
        have hcz8_2 : wc.cell? ⟨gb153, 2, none⟩ = some (.int .i64 0) := (blk_cell BK153.out 2).trans rfl
        have hcz8_3 : wc.cell? ⟨gb153, 3, none⟩ = some (.int .i64 0) := (blk_cell BK153.out 3).trans rfl
        have hcz8_4 : wc.cell? ⟨gb153, 4, none⟩ = some (.int .u32 0) := (blk_cell BK153.out 4).trans rfl
        have hcz8_5 : wc.cell? ⟨gb153, 5, none⟩ = some (.int .i64 0) := (blk_cell BK153.out 5).trans rfl
        have hcz8_6 : wc.cell? ⟨gb153, 6, none⟩ = some (.string (⟨#[]⟩ : ByteArray)) := (blk_cell BK153.out 6).trans rfl
        have hfz8_0 := blk_frozen BK153.out 0
        have hfz8_1 := blk_frozen BK153.out 1
        have hfz8_2 := blk_frozen BK153.out 2
        have hfz8_3 := blk_frozen BK153.out 3
        have hfz8_4 := blk_frozen BK153.out 4
        have hfz8_5 := blk_frozen BK153.out 5
        have hfz8_6 := blk_frozen BK153.out 6
        go_wp2
        refine bodyPost_ret (results_ctt rfl _ _ gb153 30 #[.int .i64 0, .int .i64 0, .int .i64 0, .int .i64 0, .int .u32 0, .int .i64 0, .string (⟨#[]⟩ : ByteArray)] (0, 0) _ rfl (by (with_reducible repeat (first | refine blk_drewN ?_ _ | refine blk_drew ?_ | refine blk_alloc ?_ _)); refine blk_put (cs := #[.int .i64 0, .int .i64 0, .int .i64 0, .int .i64 0, .int .u32 0, .int .i64 0, .string (⟨#[]⟩ : ByteArray)]) ?_ 6 _ rfl; (with_reducible repeat (first | refine blk_drewN ?_ _ | refine blk_drew ?_ | refine blk_alloc ?_ _)); refine blk_put (cs := #[.int .i64 0, .int .i64 0, .int .i64 0, .int .i64 0, .int .u32 0, .int .i64 0, .string (⟨#[]⟩ : ByteArray)]) ?_ 5 _ rfl; (with_reducible repeat (first | refine blk_drewN ?_ _ | refine blk_drew ?_ | refine blk_alloc ?_ _)); refine blk_put (cs := #[.int .i64 0, .int .i64 0, .int .i64 0, .int .i64 0, .int .u32 0, .int .i64 0, .string (⟨#[]⟩ : ByteArray)]) ?_ 4 _ rfl; (with_reducible repeat (first | refine blk_drewN ?_ _ | refine blk_drew ?_ | refine blk_alloc ?_ _)); refine blk_put (cs := #[.int .i64 0, .int .i64 0, .int .i64 0, .int .i64 0, .int .u32 0, .int .i64 0, .string (⟨#[]⟩ : ByteArray)]) ?_ 3 _ rfl; (with_reducible repeat (first | refine blk_drewN ?_ _ | refine blk_drew ?_ | refine blk_alloc ?_ _)); refine blk_put (cs := #[.int .i64 0, .int .i64 0, .int .i64 0, .int .i64 0, .int .u32 0, .int .i64 0, .string (⟨#[]⟩ : ByteArray)]) ?_ 2 _ rfl; (with_reducible repeat (first | refine blk_drewN ?_ _ | refine blk_drew ?_ | refine blk_alloc ?_ _)); refine blk_put (cs := #[.int .i64 0, .int .i64 0, .int .i64 0, .int .i64 0, .int .u32 0, .int .i64 0, .string (⟨#[]⟩ : ByteArray)]) ?_ 1 _ rfl; (with_reducible repeat (first | refine blk_drewN ?_ _ | refine blk_drew ?_ | refine blk_alloc ?_ _)); refine blk_put (cs := #[.int .i64 0, .int .i64 0, .int .i64 0, .int .i64 0, .int .u32 0, .int .i64 0, .string (⟨#[]⟩ : ByteArray)]) ?_ 0 _ rfl; (with_reducible repeat (first | refine blk_drewN ?_ _ | refine blk_drew ?_ | refine blk_alloc ?_ _)); exact BK153.out) Try.underlying30 rfl (by kernel_rfl)) rfl ?_
        exact ⟨by first | rfl | (simp [errW_none, errW_some] <;> rfl) | (simp [*, errW_none, errW_some] <;> rfl), by repeat (first | (with_reducible first | exact HB.out | apply below_alloc | apply pw_below_drewN | apply below_drew1 | refine below_set ?_ GE153.out) | exact HB.out)⟩
      replace c7 := Bool.eq_false_iff.mpr c7
      subst c7
      have H1 : (if 15 < (a0.size : Int) then (if 0 < (a0.size : Int) then (if 1 ≤ 4 then (if 4 ≤ (a0.size : Int) then ((script_get.f kj1 (a0.extract 1 4)).bind fun t154 => (if 4 ≤ 7 then (if 7 ≤ (a0.size : Int) then ((script_get.f kj1 (a0.extract 4 7)).bind fun t155 => (if 7 ≤ 10 then (if 10 ≤ (a0.size : Int) then ((script_get.f kj1 (a0.extract 7 10)).bind fun t156 => (if 10 ≤ 14 then (if 14 ≤ (a0.size : Int) then ((script_get.f kj1 (a0.extract 10 14)).bind fun t157 => (if 14 < (a0.size : Int) then (if 16 ≤ (wrap64 (16 + (wrap64 (bt a0 15)))) then (if (wrap64 (16 + (wrap64 (bt a0 15)))) ≤ (a0.size : Int) then ((script_Event_Right.f kj1 (wrap64 (bt a0 0)) (wrap64 (t154)) (wrap64 (t155)) (wrap64 (t156)) ((t157) % 4294967296) (wrap64 (bt a0 14)) (a0.extract 16 ((wrap64 (16 + (wrap64 (bt a0 15)))) : Int).toNat)).bind fun t159 => (some (wrap64 (bt a0 0), wrap64 (t154), wrap64 (t155), wrap64 (t156), (t157) % 4294967296, wrap64 (bt a0 14), a0.extract 16 ((wrap64 (16 + (wrap64 (bt a0 15)))) : Int).toNat, wrap64 (16 + (wrap64 (bt a0 15))), t159))) else (none)) else (none)) else (none))) else (none)) else (none))) else (none)) else (none))) else (none)) else (none))) else (none)) else (none)) else (none)) else (none)) = some (r1, r2, r3, r4, r5, r6, r7, r8, r9) := by rw [if_neg (show ¬ (false = true) by decide)] at H; exact H
      clear H
      have H := H1
      clear H1
      by_cases c9 : 15 < (a0.size : Int)
      case neg =>
        rw [if_neg c9] at H; exact absurd H (by simp)

      rw [if_pos c9] at H; have c9b0 : decide (15 < (a0.size : Int)) = true := decide_eq_true c9
      have c9b1 : decide (15 < a0.size) = true := decide_eq_true (by omega)
      clear c9
      by_cases c11 : 0 < (a0.size : Int)
      case neg =>
        rw [if_neg c11] at H; exact absurd H (by simp)
      rw [if_pos c11] at H; have c11b0 : decide (0 < (a0.size : Int)) = true := decide_eq_true c11
      have c11b1 : decide (0 < a0.size) = true := decide_eq_true (by omega)
      clear c11
      by_cases c13 : 1 ≤ 4
      case neg =>
        rw [if_neg c13] at H; exact absurd H (by simp)
      rw [if_pos c13] at H; have c13b0 := eq_true c13
      have c13b1 : decide (1 ≤ 4) = true := decide_eq_true c13
      clear c13
      by_cases c14 : 4 ≤ (a0.size : Int)
      case neg =>
        rw [if_neg c14] at H; exact absurd H (by simp)
      rw [if_pos c14] at H; have c14b0 := eq_true c14
      have c14b1 : decide (4 ≤ (a0.size : Int)) = true := decide_eq_true c14
      clear c14
      replace H := Option.bind_eq_some_iff.mp H
      obtain ⟨t154, A150, H⟩ := H
      replace H : (if 4 ≤ 7 then (if 7 ≤ (a0.size : Int) then ((script_get.f kj1 (a0.extract 4 7)).bind fun t155 => (if 7 ≤ 10 then (if 10 ≤ (a0.size : Int) then ((script_get.f kj1 (a0.extract 7 10)).bind fun t156 => (if 10 ≤ 14 then (if 14 ≤ (a0.size : Int) then ((script_get.f kj1 (a0.extract 10 14)).bind fun t157 => (if 14 < (a0.size : Int) then (if 16 ≤ (wrap64 (16 + (wrap64 (bt a0 15)))) then (if (wrap64 (16 + (wrap64 (bt a0 15)))) ≤ (a0.size : Int) then ((script_Event_Right.f kj1 (wrap64 (bt a0 0)) (wrap64 (t154)) (wrap64 (t155)) (wrap64 (t156)) ((t157) % 4294967296) (wrap64 (bt a0 14)) (a0.extract 16 ((wrap64 (16 + (wrap64 (bt a0 15)))) : Int).toNat)).bind fun t159 => (some (wrap64 (bt a0 0), wrap64 (t154), wrap64 (t155), wrap64 (t156), (t157) % 4294967296, wrap64 (bt a0 14), a0.extract 16 ((wrap64 (16 + (wrap64 (bt a0 15)))) : Int).toNat, wrap64 (16 + (wrap64 (bt a0 15))), t159))) else (none)) else (none)) else (none))) else (none)) else (none))) else (none)) else (none))) else (none)) else (none)) = some (r1, r2, r3, r4, r5, r6, r7, r8, r9) := H
      have A15 := Aside0.mk A150
      clear A150
      by_cases c16 : 4 ≤ 7
      case neg =>
        rw [if_neg c16] at H; exact absurd H (by simp)
      rw [if_pos c16] at H; have c16b0 := eq_true c16
      have c16b1 : decide (4 ≤ 7) = true := decide_eq_true c16
      clear c16
      by_cases c17 : 7 ≤ (a0.size : Int)
      case neg =>
        rw [if_neg c17] at H; exact absurd H (by simp)
      rw [if_pos c17] at H; have c17b0 := eq_true c17
      have c17b1 : decide (7 ≤ (a0.size : Int)) = true := decide_eq_true c17
      clear c17
      replace H := Option.bind_eq_some_iff.mp H
      obtain ⟨t155, A180, H⟩ := H
      replace H : (if 7 ≤ 10 then (if 10 ≤ (a0.size : Int) then ((script_get.f kj1 (a0.extract 7 10)).bind fun t156 => (if 10 ≤ 14 then (if 14 ≤ (a0.size : Int) then ((script_get.f kj1 (a0.extract 10 14)).bind fun t157 => (if 14 < (a0.size : Int) then (if 16 ≤ (wrap64 (16 + (wrap64 (bt a0 15)))) then (if (wrap64 (16 + (wrap64 (bt a0 15)))) ≤ (a0.size : Int) then ((script_Event_Right.f kj1 (wrap64 (bt a0 0)) (wrap64 (t154)) (wrap64 (t155)) (wrap64 (t156)) ((t157) % 4294967296) (wrap64 (bt a0 14)) (a0.extract 16 ((wrap64 (16 + (wrap64 (bt a0 15)))) : Int).toNat)).bind fun t159 => (some (wrap64 (bt a0 0), wrap64 (t154), wrap64 (t155), wrap64 (t156), (t157) % 4294967296, wrap64 (bt a0 14), a0.extract 16 ((wrap64 (16 + (wrap64 (bt a0 15)))) : Int).toNat, wrap64 (16 + (wrap64 (bt a0 15))), t159))) else (none)) else (none)) else (none))) else (none)) else (none))) else (none)) else (none)) = some (r1, r2, r3, r4, r5, r6, r7, r8, r9) := H
      have A18 := Aside0.mk A180
      clear A180
      by_cases c19 : 7 ≤ 10
      case neg =>
        rw [if_neg c19] at H; exact absurd H (by simp)
      rw [if_pos c19] at H; have c19b0 := eq_true c19
      have c19b1 : decide (7 ≤ 10) = true := decide_eq_true c19
      clear c19
      by_cases c20 : 10 ≤ (a0.size : Int)
      case neg =>
        rw [if_neg c20] at H; exact absurd H (by simp)
      rw [if_pos c20] at H; have c20b0 := eq_true c20
      have c20b1 : decide (10 ≤ (a0.size : Int)) = true := decide_eq_true c20
      clear c20
      replace H := Option.bind_eq_some_iff.mp H
      obtain ⟨t156, A210, H⟩ := H
      replace H : (if 10 ≤ 14 then (if 14 ≤ (a0.size : Int) then ((script_get.f kj1 (a0.extract 10 14)).bind fun t157 => (if 14 < (a0.size : Int) then (if 16 ≤ (wrap64 (16 + (wrap64 (bt a0 15)))) then (if (wrap64 (16 + (wrap64 (bt a0 15)))) ≤ (a0.size : Int) then ((script_Event_Right.f kj1 (wrap64 (bt a0 0)) (wrap64 (t154)) (wrap64 (t155)) (wrap64 (t156)) ((t157) % 4294967296) (wrap64 (bt a0 14)) (a0.extract 16 ((wrap64 (16 + (wrap64 (bt a0 15)))) : Int).toNat)).bind fun t159 => (some (wrap64 (bt a0 0), wrap64 (t154), wrap64 (t155), wrap64 (t156), (t157) % 4294967296, wrap64 (bt a0 14), a0.extract 16 ((wrap64 (16 + (wrap64 (bt a0 15)))) : Int).toNat, wrap64 (16 + (wrap64 (bt a0 15))), t159))) else (none)) else (none)) else (none))) else (none)) else (none)) = some (r1, r2, r3, r4, r5, r6, r7, r8, r9) := H
      have A21 := Aside0.mk A210
      clear A210
      by_cases c22 : 10 ≤ 14
      case neg =>
        rw [if_neg c22] at H; exact absurd H (by simp)
      rw [if_pos c22] at H; have c22b0 := eq_true c22
      have c22b1 : decide (10 ≤ 14) = true := decide_eq_true c22
      clear c22
      by_cases c23 : 14 ≤ (a0.size : Int)
      case neg =>
        rw [if_neg c23] at H; exact absurd H (by simp)
      rw [if_pos c23] at H; have c23b0 := eq_true c23
      have c23b1 : decide (14 ≤ (a0.size : Int)) = true := decide_eq_true c23
      clear c23
      replace H := Option.bind_eq_some_iff.mp H
      obtain ⟨t157, A240, H⟩ := H
      replace H : (if 14 < (a0.size : Int) then (if 16 ≤ (wrap64 (16 + (wrap64 (bt a0 15)))) then (if (wrap64 (16 + (wrap64 (bt a0 15)))) ≤ (a0.size : Int) then ((script_Event_Right.f kj1 (wrap64 (bt a0 0)) (wrap64 (t154)) (wrap64 (t155)) (wrap64 (t156)) ((t157) % 4294967296) (wrap64 (bt a0 14)) (a0.extract 16 ((wrap64 (16 + (wrap64 (bt a0 15)))) : Int).toNat)).bind fun t159 => (some (wrap64 (bt a0 0), wrap64 (t154), wrap64 (t155), wrap64 (t156), (t157) % 4294967296, wrap64 (bt a0 14), a0.extract 16 ((wrap64 (16 + (wrap64 (bt a0 15)))) : Int).toNat, wrap64 (16 + (wrap64 (bt a0 15))), t159))) else (none)) else (none)) else (none)) = some (r1, r2, r3, r4, r5, r6, r7, r8, r9) := H
      have A24 := Aside0.mk A240
      clear A240
      by_cases c25 : 14 < (a0.size : Int)
      case neg =>
        rw [if_neg c25] at H; exact absurd H (by simp)
      rw [if_pos c25] at H; have c25b0 : decide (14 < (a0.size : Int)) = true := decide_eq_true c25
      have c25b1 : decide (14 < a0.size) = true := decide_eq_true (by omega)
      clear c25
      by_cases c27 : 16 ≤ (wrap64 (16 + (wrap64 (bt a0 15))))
      case neg =>
        rw [if_neg c27] at H; exact absurd H (by simp)
      rw [if_pos c27] at H; have c27b0 := eq_true c27
      have c27b1 : decide (16 ≤ (wrap64 (16 + (wrap64 (bt a0 15))))) = true := decide_eq_true c27
      by_cases c28 : (wrap64 (16 + (wrap64 (bt a0 15)))) ≤ (a0.size : Int)
      case neg =>
        rw [if_neg c28] at H; exact absurd H (by simp)
      rw [if_pos c28] at H; have c28b0 := eq_true c28
      have c28b1 : decide ((wrap64 (16 + (wrap64 (bt a0 15)))) ≤ (a0.size : Int)) = true := decide_eq_true c28
      replace H := Option.bind_eq_some_iff.mp H
      obtain ⟨t159, A290, H⟩ := H
      replace H : (some (wrap64 (bt a0 0), wrap64 (t154), wrap64 (t155), wrap64 (t156), (t157) % 4294967296, wrap64 (bt a0 14), a0.extract 16 ((wrap64 (16 + (wrap64 (bt a0 15)))) : Int).toNat, wrap64 (16 + (wrap64 (bt a0 15))), t159)) = some (r1, r2, r3, r4, r5, r6, r7, r8, r9) := H
      have A29 := Aside0.mk A290
      clear A290
      simp only [Option.some.injEq, Prod.mk.injEq] at H
      obtain ⟨rfl, rfl, rfl, rfl, rfl, rfl, rfl, rfl, rfl⟩ := H
      have p10 : 0 ≤ (15 : Int) := (by omega)
      have q10 : 15 < a0.size := (by have : (15 : Int) < (a0.size : Int) := of_decide_eq_true (by first | (with_reducible assumption) | assumption); omega)
      have hx10 : ∀ h : 15 < a0.size, ((a0[15]'h).toNat : Int) = bt a0 15 := bt_at a0 15
      clear p10
      have qi10 : (15 < (a0.size : Int)) = True := eq_true (of_decide_eq_true (by first | (with_reducible assumption) | assumption))
      replace q10 := eq_true q10
      try go_wp2
      have n0_ := Aside0.mk (blk_drew BK153.out)
      have n1_ := Aside0.mk (below_drew1 HB.out)
      clear BK153
      clear HB
      have BK153 := n0_
      have HB := n1_
      clear n0_ n1_
      have p12 : 0 ≤ (0 : Int) := (by omega)
      have q12 : 0 < a0.size := (by have : (0 : Int) < (a0.size : Int) := of_decide_eq_true (by first | (with_reducible assumption) | assumption); omega)
      have hx12 : ∀ h : 0 < a0.size, ((a0[0]'h).toNat : Int) = bt a0 0 := bt_at a0 0
      clear p12
      have qi12 : (0 < (a0.size : Int)) = True := eq_true (of_decide_eq_true (by first | (with_reducible assumption) | assumption))
      replace q12 := eq_true q12
      have p26 : 0 ≤ (14 : Int) := (by omega)
      have q26 : 14 < a0.size := (by have : (14 : Int) < (a0.size : Int) := of_decide_eq_true (by first | (with_reducible assumption) | assumption); omega)
      have hx26 : ∀ h : 14 < a0.size, ((a0[14]'h).toNat : Int) = bt a0 14 := bt_at a0 14
      clear p26
      have qi26 : (14 < (a0.size : Int)) = True := eq_true (of_decide_eq_true (by first | (with_reducible assumption) | assumption))
      replace q26 := eq_true q26
      refine start_ (n := 29) (S := fun w' => True) (ds := []) (bA 29 0) (by kernel_rfl) rfl rfl trivial (fun hHeld => ?_); refine with_tabW script_one.tab4 script_one.bits4 (fun HT_ HW_ => ?_)
      generalize wc.drew = w30 at BK153 HB hHeld ⊢
      refine pure_ (i := 0) (N := some 24) (v := ?_) (a' := ?_) (bA 29 1) rfl rfl (any_of HT_.out (by kernel_rfl)) (fun _ _ _ h => h) (Or.inl ⟨by rfl, ?_⟩) ?_ ?_; rotate_left
      · intro w'; go_simp; with_reducible rfl
      rotate_left; · simp only [Act.put, List.setIfInBounds_toArray, List.set_cons_zero, List.set_cons_succ, i64_w, i32_w]; rfl
      refine pure_ (i := 3) (N := some 27) (v := ?_) (a' := ?_) (bA 29 9) rfl rfl (any_of HT_.out (by kernel_rfl)) (fun _ _ _ h => h) (Or.inl ⟨by rfl, ?_⟩) ?_ ?_; rotate_left
      · intro w'; go_simp; with_reducible rfl
      rotate_left; · simp only [Act.put, List.setIfInBounds_toArray, List.set_cons_zero, List.set_cons_succ, i64_w, i32_w]; rfl
      refine pure_ (i := 4) (N := some 28) (v := ?_) (a' := ?_) (bA 29 25) rfl rfl (any_of HT_.out (by kernel_rfl)) (fun _ _ _ h => h) (Or.inl ⟨by rfl, ?_⟩) ?_ ?_; rotate_left
      · intro w'; go_simp; with_reducible rfl
      rotate_left; · simp only [Act.put, List.setIfInBounds_toArray, List.set_cons_zero, List.set_cons_succ, i64_w, i32_w]; rfl
      refine pure_ (i := 7) (N := some 31) (v := ?_) (a' := ?_) (bA 29 153) rfl rfl (any_of HT_.out (by kernel_rfl)) (fun _ _ _ h => h) (Or.inl ⟨by rfl, ?_⟩) ?_ ?_; rotate_left
      · intro w'; go_simp; with_reducible rfl
      rotate_left; · simp only [Act.put, List.setIfInBounds_toArray, List.set_cons_zero, List.set_cons_succ, i64_w, i32_w]; rfl
      refine pure_ (i := 8) (N := some 32) (v := ?_) (a' := ?_) (bA 29 409) rfl rfl (any_of HT_.out (by kernel_rfl)) (fun _ _ _ h => h) (Or.inl ⟨by rfl, ?_⟩) ?_ ?_; rotate_left
      · intro w'; go_simp; with_reducible rfl
      rotate_left; · simp only [Act.put, List.setIfInBounds_toArray, List.set_cons_zero, List.set_cons_succ, i64_w, i32_w]; rfl
      refine pure_ (i := 11) (N := some 35) (v := ?_) (a' := ?_) (bA 29 2457) rfl rfl (any_of HT_.out (by kernel_rfl)) (fun _ _ _ h => h) (Or.inl ⟨by rfl, ?_⟩) ?_ ?_; rotate_left
      · intro w'; go_simp; with_reducible rfl
      rotate_left; · simp only [Act.put, List.setIfInBounds_toArray, List.set_cons_zero, List.set_cons_succ, i64_w, i32_w]; rfl
      refine pure_ (i := 12) (N := some 36) (v := ?_) (a' := ?_) (bA 29 6553) rfl rfl (any_of HT_.out (by kernel_rfl)) (fun _ _ _ h => h) (Or.inl ⟨by rfl, ?_⟩) ?_ ?_; rotate_left
      · intro w'; go_simp; with_reducible rfl
      rotate_left; · simp only [Act.put, List.setIfInBounds_toArray, List.set_cons_zero, List.set_cons_succ, i64_w, i32_w]; rfl
      refine pure_ (i := 15) (N := some 39) (v := ?_) (a' := ?_) (bA 29 39321) rfl rfl (any_of HT_.out (by kernel_rfl)) (fun _ _ _ h => h) (Or.inl ⟨by rfl, ?_⟩) ?_ ?_; rotate_left
      · intro w'; go_simp; with_reducible rfl
      rotate_left; · simp only [Act.put, List.setIfInBounds_toArray, List.set_cons_zero, List.set_cons_succ, i64_w, i32_w]; rfl
      refine pure_ (i := 16) (N := some 40) (v := ?_) (a' := ?_) (bA 29 104857) rfl rfl (any_of HT_.out (by kernel_rfl)) (fun _ _ _ h => h) (Or.inl ⟨by rfl, ?_⟩) ?_ ?_; rotate_left
      · intro w'; go_simp; with_reducible rfl
      rotate_left; · simp only [Act.put, List.setIfInBounds_toArray, List.set_cons_zero, List.set_cons_succ, i64_w, i32_w]; rfl
      refine pure_ (i := 19) (N := some 43) (v := ?_) (a' := ?_) (bA 29 629145) rfl rfl (any_of HT_.out (by kernel_rfl)) (fun _ _ _ h => h) (Or.inl ⟨by rfl, ?_⟩) ?_ ?_; rotate_left
      · intro w'; go_simp; with_reducible rfl
      rotate_left; · simp only [Act.put, List.setIfInBounds_toArray, List.set_cons_zero, List.set_cons_succ, i64_w, i32_w]; rfl
      refine pure_ (i := 23) (N := some 47) (v := ?_) (a' := ?_) (bA 29 9017753) rfl rfl (any_of HT_.out (by kernel_rfl)) (fun _ _ _ h => h) (Or.inl ⟨by rfl, ?_⟩) ?_ ?_; rotate_left
      · intro w'; go_simp; with_reducible rfl
      rotate_left; · simp only [Act.put, List.setIfInBounds_toArray, List.set_cons_zero, List.set_cons_succ, i64_w, i32_w]; rfl
      refine pure_ (i := 24) (N := some 48) (v := ?_) (a' := ?_) (bA 29 25794969) rfl rfl (any_of HT_.out (by kernel_rfl)) (fun _ _ _ h => h) (Or.inl ⟨by rfl, ?_⟩) ?_ ?_; rotate_left
      · intro w'; go_simp; with_reducible rfl
      rotate_left; · simp only [Act.put, List.setIfInBounds_toArray, List.set_cons_zero, List.set_cons_succ, i64_w, i32_w]; rfl
      refine pure_ (i := 25) (N := some 49) (v := ?_) (a' := ?_) (bA 29 59349401) rfl rfl (any_of HT_.out (by kernel_rfl)) (fun _ _ _ h => h) (Or.inl ⟨by rfl, ?_⟩) ?_ ?_; rotate_left
      · intro w'; go_simp; with_reducible rfl
      rotate_left; · simp only [Act.put, List.setIfInBounds_toArray, List.set_cons_zero, List.set_cons_succ, i64_w, i32_w]; rfl
      refine take_ (i := 1) (N := some 25) (v := ?_) (a' := ?_) (bA 29 59349403) rfl rfl (take_ofW HT_.out HW_.out (by kernel_rfl)) (fun _ _ _ h => h) (Or.inl ⟨by rfl, ?_⟩) hHeld ?_ ?_; rotate_left
      · intro w' _
        go_simp
        with_reducible rfl
      rotate_left
      · simp only [Act.put, List.setIfInBounds_toArray, List.set_cons_zero, List.set_cons_succ, i64_w, i32_w]; rfl
      refine pure_ (i := 2) (N := some 26) (v := ?_) (a' := ?_) (bA 29 59349407) rfl rfl (any_of HT_.out (by kernel_rfl)) (fun _ _ _ h => h) (Or.inl ⟨by rfl, ?_⟩) ?_ ?_; rotate_left
      · intro w'; go_simp; with_reducible rfl
      rotate_left; · simp only [Act.put, List.setIfInBounds_toArray, List.set_cons_zero, List.set_cons_succ, i64_w, i32_w]; rfl
      refine take_ (i := 20) (N := some 44) (v := ?_) (a' := ?_) (bA 29 60397983) rfl rfl (take_ofW HT_.out HW_.out (by kernel_rfl)) (fun _ _ _ h => h) (Or.inl ⟨by rfl, ?_⟩) hHeld ?_ ?_; rotate_left
      · intro w' _
        go_simp
        with_reducible rfl
      rotate_left
      · simp only [Act.put, List.setIfInBounds_toArray, List.set_cons_zero, List.set_cons_succ, i64_w, i32_w]; rfl
      refine pure_ (i := 21) (N := some 45) (v := ?_) (a' := ?_) (bA 29 62495135) rfl rfl (any_of HT_.out (by kernel_rfl)) (fun _ _ _ h => h) (Or.inl ⟨by rfl, ?_⟩) ?_ ?_; rotate_left
      · intro w'; go_simp; with_reducible rfl
      rotate_left; · simp only [Act.put, List.setIfInBounds_toArray, List.set_cons_zero, List.set_cons_succ, i64_w, i32_w]; rfl
      refine join_ (σ := Nat) 1 (bA 29 268435455) (fun s_ => [(29, .int .u64 t154), (33, .int .u64 t155), (37, .int .u64 t156), (41, .int .u64 t157), (6, .pointer (some ⟨s_, 0, none⟩)), (30, .int .i64 (wrap64 (t154))), (34, .int .i64 (wrap64 (t155))), (38, .int .i64 (wrap64 (t156))), (42, .int .u32 ((t157) % 4294967296)), (46, .agg #[.int .u32 ((t157) % 4294967296), .int .i64 (wrap64 (bt a0 14))]), (50, .agg #[.int .i64 (wrap64 (bt a0 0)), .int .i64 (wrap64 (t154)), .int .i64 (wrap64 (t155)), .int .i64 (wrap64 (t156)), .int .u32 ((t157) % 4294967296), .int .i64 (wrap64 (bt a0 14)), .string (a0.extract 16 ((wrap64 (16 + (wrap64 (bt a0 15)))) : Int).toNat)])]) (fun s_ w' => (w'.heap[gb153]? = some (.cells #[.int .i64 0, .int .i64 0, .int .i64 0, .int .i64 0, .int .u32 0, .int .i64 0, .string (⟨#[]⟩ : ByteArray)] 30 (0, 0))) ∧ (w'.heap[s_]? = some (.cells #[.int .i64 0, .int .i64 0, .int .i64 0, .int .i64 0, .int .u32 0, .int .i64 0, .string (⟨#[]⟩ : ByteArray)] 30 (0, 0))) ∧ (w.heap.size ≤ s_) ∧ (w.heap.size ≤ s_) ∧ (gb153 ≠ s_) ∧ (s_ ≠ gb153) ∧ (Below w.heap.size w w')) ?_ ?_
      rotate_left
      · intro hJ5_9_13_17_27
        refine join_ (σ := Unit) 2 (bA 29 134217727) (fun s_ => [(29, .int .u64 t154), (33, .int .u64 t155), (37, .int .u64 t156), (41, .int .u64 t157), (30, .int .i64 (wrap64 (t154))), (34, .int .i64 (wrap64 (t155))), (38, .int .i64 (wrap64 (t156))), (42, .int .u32 ((t157) % 4294967296)), (46, .agg #[.int .u32 ((t157) % 4294967296), .int .i64 (wrap64 (bt a0 14))]), (50, .agg #[.int .i64 (wrap64 (bt a0 0)), .int .i64 (wrap64 (t154)), .int .i64 (wrap64 (t155)), .int .i64 (wrap64 (t156)), .int .u32 ((t157) % 4294967296), .int .i64 (wrap64 (bt a0 14)), .string (a0.extract 16 ((wrap64 (16 + (wrap64 (bt a0 15)))) : Int).toNat)])]) (fun s_ w' => (w'.heap[gb153]? = some (.cells #[.int .i64 0, .int .i64 0, .int .i64 0, .int .i64 0, .int .u32 0, .int .i64 0, .string (⟨#[]⟩ : ByteArray)] 30 (0, 0))) ∧ (Below w.heap.size w w')) ?_ ?_
        rotate_left
        · intro hJ5_9_13_17
          refine join_ (σ := Nat) 5 (bA 29 196739071) (fun s_ => [(29, .int .u64 t154), (33, .int .u64 t155), (37, .int .u64 t156), (6, .pointer (some ⟨s_, 0, none⟩)), (30, .int .i64 (wrap64 (t154))), (34, .int .i64 (wrap64 (t155))), (38, .int .i64 (wrap64 (t156)))]) (fun s_ w' => (w'.heap[gb153]? = some (.cells #[.int .i64 0, .int .i64 0, .int .i64 0, .int .i64 0, .int .u32 0, .int .i64 0, .string (⟨#[]⟩ : ByteArray)] 30 (0, 0))) ∧ (w'.heap[s_]? = some (.cells #[.int .i64 0, .int .i64 0, .int .i64 0, .int .i64 0, .int .u32 0, .int .i64 0, .string (⟨#[]⟩ : ByteArray)] 30 (0, 0))) ∧ (w.heap.size ≤ s_) ∧ (w.heap.size ≤ s_) ∧ (gb153 ≠ s_) ∧ (s_ ≠ gb153) ∧ (Below w.heap.size w w')) ?_ ?_
          rotate_left
          · intro hJ5_9_13_27
            refine join_ (σ := Unit) 6 (bA 29 62521343) (fun s_ => [(29, .int .u64 t154), (33, .int .u64 t155), (37, .int .u64 t156), (30, .int .i64 (wrap64 (t154))), (34, .int .i64 (wrap64 (t155))), (38, .int .i64 (wrap64 (t156)))]) (fun s_ w' => (w'.heap[gb153]? = some (.cells #[.int .i64 0, .int .i64 0, .int .i64 0, .int .i64 0, .int .u32 0, .int .i64 0, .string (⟨#[]⟩ : ByteArray)] 30 (0, 0))) ∧ (Below w.heap.size w w')) ?_ ?_
            rotate_left
            · intro hJ5_9_13
              refine join_ (σ := Nat) 7 (bA 29 196714495) (fun s_ => [(29, .int .u64 t154), (33, .int .u64 t155), (6, .pointer (some ⟨s_, 0, none⟩)), (30, .int .i64 (wrap64 (t154))), (34, .int .i64 (wrap64 (t155)))]) (fun s_ w' => (w'.heap[gb153]? = some (.cells #[.int .i64 0, .int .i64 0, .int .i64 0, .int .i64 0, .int .u32 0, .int .i64 0, .string (⟨#[]⟩ : ByteArray)] 30 (0, 0))) ∧ (w'.heap[s_]? = some (.cells #[.int .i64 0, .int .i64 0, .int .i64 0, .int .i64 0, .int .u32 0, .int .i64 0, .string (⟨#[]⟩ : ByteArray)] 30 (0, 0))) ∧ (w.heap.size ≤ s_) ∧ (w.heap.size ≤ s_) ∧ (gb153 ≠ s_) ∧ (s_ ≠ gb153) ∧ (Below w.heap.size w w')) ?_ ?_
              rotate_left
              · intro hJ5_9_27
                refine join_ (σ := Unit) 8 (bA 29 62496767) (fun s_ => [(29, .int .u64 t154), (33, .int .u64 t155), (30, .int .i64 (wrap64 (t154))), (34, .int .i64 (wrap64 (t155)))]) (fun s_ w' => (w'.heap[gb153]? = some (.cells #[.int .i64 0, .int .i64 0, .int .i64 0, .int .i64 0, .int .u32 0, .int .i64 0, .string (⟨#[]⟩ : ByteArray)] 30 (0, 0))) ∧ (Below w.heap.size w w')) ?_ ?_
                rotate_left
                · intro hJ5_9
                  refine join_ (σ := Nat) 9 (bA 29 196712959) (fun s_ => [(29, .int .u64 t154), (6, .pointer (some ⟨s_, 0, none⟩)), (30, .int .i64 (wrap64 (t154)))]) (fun s_ w' => (w'.heap[gb153]? = some (.cells #[.int .i64 0, .int .i64 0, .int .i64 0, .int .i64 0, .int .u32 0, .int .i64 0, .string (⟨#[]⟩ : ByteArray)] 30 (0, 0))) ∧ (w'.heap[s_]? = some (.cells #[.int .i64 0, .int .i64 0, .int .i64 0, .int .i64 0, .int .u32 0, .int .i64 0, .string (⟨#[]⟩ : ByteArray)] 30 (0, 0))) ∧ (w.heap.size ≤ s_) ∧ (w.heap.size ≤ s_) ∧ (gb153 ≠ s_) ∧ (s_ ≠ gb153) ∧ (Below w.heap.size w w')) ?_ ?_
                  rotate_left
                  · intro hJ5_27
                    refine join_ (σ := Unit) 10 (bA 29 62495231) (fun s_ => [(29, .int .u64 t154), (30, .int .i64 (wrap64 (t154)))]) (fun s_ w' => (w'.heap[gb153]? = some (.cells #[.int .i64 0, .int .i64 0, .int .i64 0, .int .i64 0, .int .u32 0, .int .i64 0, .string (⟨#[]⟩ : ByteArray)] 30 (0, 0))) ∧ (Below w.heap.size w w')) ?_ ?_
                    rotate_left
                    · intro hJ5
                      refine join_ (σ := Nat) 11 (bA 29 196712863) (fun s_ => [(6, .pointer (some ⟨s_, 0, none⟩))]) (fun s_ w' => (w'.heap[gb153]? = some (.cells #[.int .i64 0, .int .i64 0, .int .i64 0, .int .i64 0, .int .u32 0, .int .i64 0, .string (⟨#[]⟩ : ByteArray)] 30 (0, 0))) ∧ (w'.heap[s_]? = some (.cells #[.int .i64 0, .int .i64 0, .int .i64 0, .int .i64 0, .int .u32 0, .int .i64 0, .string (⟨#[]⟩ : ByteArray)] 30 (0, 0))) ∧ (w.heap.size ≤ s_) ∧ (w.heap.size ≤ s_) ∧ (gb153 ≠ s_) ∧ (s_ ≠ gb153) ∧ (Below w.heap.size w w')) ?_ ?_
                      rotate_left
                      · intro hJ27
                        refine two_ (i := 5) (j := 27) (Ni := some 29) (Nj := some 6) (bA 29 62495167) (bA 29 196712863) rfl rfl rfl rfl (two_of HT_.out (by kernel_rfl)) (by decide) (by decide) (fun K hK => ?_) (fun K hK => ?_)
                        · skip
                          refine goes_ Try.func35 (by kernel_rfl) rfl #[.string (a0.extract 1 4)] (by rfl) rfl rfl (by (try simp only [List.map_toArray, List.map_cons, List.map_nil]); first | done | rfl | (simp only [List.length_drop, List.length_take]; rfl)) ?_
                          with_reducible refine (script_get.calls kj1 (a0.extract 1 4) t154 _ A15.out).mono ?_
                          rintro e w' ⟨rfl, ⟨nd, rfl⟩⟩
                          refine ⟨_, rfl, ?_⟩
                          refine hK.out _ _ trivial (fun hHeld => ?_)
                          clear hK K
                          refine norm_ (a' := ?_) ?_ ?_
                          rotate_left
                          · show Act.put _ (some 29) _ = _
                            simp only [Act.put, List.setIfInBounds_toArray, List.set_cons_zero, List.set_cons_succ, i64_w, i32_w]
                            rfl
                          refine pure_ (i := 6) (N := some 30) (v := ?_) (a' := ?_) (bA 29 62495231) rfl rfl (any_of HT_.out (by kernel_rfl)) (fun _ _ _ h => h) (Or.inl ⟨by rfl, ?_⟩) ?_ ?_; rotate_left
                          · intro w'; go_simp; with_reducible rfl
                          rotate_left; · simp only [Act.put, List.setIfInBounds_toArray, List.set_cons_zero, List.set_cons_succ, i64_w, i32_w]; rfl
                          exact norm_ (by first | (simp only [putAll, Act.put, List.setIfInBounds_toArray, List.set_cons_zero, List.set_cons_succ]; done) | (simp only [putAll, Act.put, List.setIfInBounds_toArray, List.set_cons_zero, List.set_cons_succ]; rfl)) (hJ5 () _ ⟨(by (with_reducible repeat (first | refine blk_drewN ?_ _ | refine blk_drew ?_ | refine blk_alloc ?_ _)); exact BK153.out), (by repeat (first | (with_reducible first | exact HB.out | apply below_alloc | apply pw_below_drewN | apply below_drew1 | refine below_set ?_ GE153.out) | exact HB.out))⟩)
                        · skip
                          refine box_step ?hg (N := 6) ?hd (cs := #[.int .i64 0, .int .i64 0, .int .i64 0, .int .i64 0, .int .u32 0, .int .i64 0, .string (⟨#[]⟩ : ByteArray)]) (t := 30) ?hr ?_; (case hd => rfl); (case hg => rfl); (case hr => first | (go_simp; done) | (go_simp; rfl))
                          intro gb158 hg w31 hbox hb
                          have n0_ := Aside0.mk (blk_below (g := gb153) (o := .cells #[.int .i64 0, .int .i64 0, .int .i64 0, .int .i64 0, .int .u32 0, .int .i64 0, .string (⟨#[]⟩ : ByteArray)] 30 (0, 0)) (by (with_reducible repeat (first | refine blk_drewN ?_ _ | refine blk_drew ?_ | refine blk_alloc ?_ _)); exact BK153.out) hb)
                          have n1_ := Aside0.mk (below_step (by repeat (first | (with_reducible first | exact HB.out | apply below_alloc | apply pw_below_drewN | apply below_drew1 | refine below_set ?_ GE153.out) | exact HB.out)) hb)
                          have n2_ := Aside0.mk (hbox)
                          have n3_ := Aside0.mk ((by rw [hg]; exact (below_size (by repeat (first | (with_reducible first | exact HB.out | apply below_alloc | apply pw_below_drewN | apply below_drew1 | refine below_set ?_ GE153.out) | exact HB.out))) : w.heap.size ≤ gb158))
                          have n4_ := Aside0.mk ((by rw [hg]; exact (below_size (by repeat (first | (with_reducible first | exact HB.out | apply below_alloc | apply pw_below_drewN | apply below_drew1 | refine below_set ?_ GE153.out) | exact HB.out))) : w.heap.size ≤ gb158))
                          have n5_ := Aside0.mk ((by rw [hg]; exact Nat.ne_of_lt (blk_lt (g := gb153) (o := .cells #[.int .i64 0, .int .i64 0, .int .i64 0, .int .i64 0, .int .u32 0, .int .i64 0, .string (⟨#[]⟩ : ByteArray)] 30 (0, 0)) (by (with_reducible repeat (first | refine blk_drewN ?_ _ | refine blk_drew ?_ | refine blk_alloc ?_ _)); exact BK153.out)) : gb153 ≠ gb158))
                          have n6_ := Aside0.mk ((by rw [hg]; exact Nat.ne_of_gt (blk_lt (g := gb153) (o := .cells #[.int .i64 0, .int .i64 0, .int .i64 0, .int .i64 0, .int .u32 0, .int .i64 0, .string (⟨#[]⟩ : ByteArray)] 30 (0, 0)) (by (with_reducible repeat (first | refine blk_drewN ?_ _ | refine blk_drew ?_ | refine blk_alloc ?_ _)); exact BK153.out)) : gb158 ≠ gb153))
                          clear BK153
                          clear HB
                          have BK153 := n0_
                          have HB := n1_
                          have BK158 := n2_
                          have GW158 := n3_
                          have GE158 := n4_
                          have NB153_158 := n5_
                          have NB158_153 := n6_
                          clear n0_ n1_ n2_ n3_ n4_ n5_ n6_
                          clear hb hbox hg
                          refine hK.out _ _ trivial (fun hHeld => ?_)
                          clear hK K
                          refine norm_ (a' := ?_) ?_ ?_
                          rotate_left
                          · show Act.put _ (some 6) _ = _
                            simp only [Act.put, List.setIfInBounds_toArray, List.set_cons_zero, List.set_cons_succ, i64_w, i32_w]
                            rfl
                          exact norm_ (by first | (simp only [putAll, Act.put, List.setIfInBounds_toArray, List.set_cons_zero, List.set_cons_succ]; done) | (simp only [putAll, Act.put, List.setIfInBounds_toArray, List.set_cons_zero, List.set_cons_succ]; rfl)) (hJ27 (gb158) _ ⟨(by (with_reducible repeat (first | refine blk_drewN ?_ _ | refine blk_drew ?_ | refine blk_alloc ?_ _)); exact BK153.out), (by (with_reducible repeat (first | refine blk_drewN ?_ _ | refine blk_drew ?_ | refine blk_alloc ?_ _)); exact BK158.out), GW158.out, GE158.out, NB153_158.out, NB158_153.out, (by repeat (first | (with_reducible first | exact HB.out | apply below_alloc | apply pw_below_drewN | apply below_drew1 | refine below_set ?_ GE153.out | refine below_set ?_ GE158.out) | exact HB.out))⟩)
                      · skip
                        rintro gb158 w32 ⟨h0_, h1_, h2_, h3_, h4_, h5_, h6_⟩
                        have n0_ : Aside0 (w32.heap[gb153]? = some (.cells #[.int .i64 0, .int .i64 0, .int .i64 0, .int .i64 0, .int .u32 0, .int .i64 0, .string (⟨#[]⟩ : ByteArray)] 30 (0, 0))) := ⟨h0_⟩
                        have n1_ : Aside0 (w32.heap[gb158]? = some (.cells #[.int .i64 0, .int .i64 0, .int .i64 0, .int .i64 0, .int .u32 0, .int .i64 0, .string (⟨#[]⟩ : ByteArray)] 30 (0, 0))) := ⟨h1_⟩
                        have n2_ : Aside0 (w.heap.size ≤ gb158) := ⟨h2_⟩
                        have n3_ : Aside0 (w.heap.size ≤ gb158) := ⟨h3_⟩
                        have n4_ : Aside0 (gb153 ≠ gb158) := ⟨h4_⟩
                        have n5_ : Aside0 (gb158 ≠ gb153) := ⟨h5_⟩
                        have n6_ : Aside0 (Below w.heap.size w w32) := ⟨h6_⟩
                        clear BK153
                        clear HB
                        clear h0_ h1_ h2_ h3_ h4_ h5_ h6_
                        have BK153 := n0_
                        have BK158 := n1_
                        have GW158 := n2_
                        have GE158 := n3_
                        have NB153_158 := n4_
                        have NB158_153 := n5_
                        have HB := n6_
                        clear n0_ n1_ n2_ n3_ n4_ n5_ n6_
                        have hHeld := trivial
                        refine norm_ (a' := ?_) ?_ ?_
                        rotate_left
                        · simp only [putAll, Act.put, List.setIfInBounds_toArray, List.set_cons_zero, List.set_cons_succ]
                          rfl
                        refine one_ (i := 5) (N := some 29) (bA 29 196712895) rfl rfl (one_of HT_.out (by kernel_rfl)) (by decide) (fun K hK => ?_)
                        refine goes_ Try.func35 (by kernel_rfl) rfl #[.string (a0.extract 1 4)] (by rfl) rfl rfl (by (try simp only [List.map_toArray, List.map_cons, List.map_nil]); first | done | rfl | (simp only [List.length_drop, List.length_take]; rfl)) ?_
                        with_reducible refine (script_get.calls kj1 (a0.extract 1 4) t154 _ A15.out).mono ?_
                        rintro e w' ⟨rfl, ⟨nd, rfl⟩⟩
                        refine ⟨_, rfl, ?_⟩
                        refine hK.out _ _ trivial (fun hHeld => ?_)
                        clear hK K
                        refine norm_ (a' := ?_) ?_ ?_
                        rotate_left
                        · show Act.put _ (some 29) _ = _
                          simp only [Act.put, List.setIfInBounds_toArray, List.set_cons_zero, List.set_cons_succ, i64_w, i32_w]
                          rfl
                        refine pure_ (i := 6) (N := some 30) (v := ?_) (a' := ?_) (bA 29 196712959) rfl rfl (any_of HT_.out (by kernel_rfl)) (fun _ _ _ h => h) (Or.inl ⟨by rfl, ?_⟩) ?_ ?_; rotate_left
                        · intro w'; go_simp; with_reducible rfl
                        rotate_left; · simp only [Act.put, List.setIfInBounds_toArray, List.set_cons_zero, List.set_cons_succ, i64_w, i32_w]; rfl
                        exact norm_ (by first | (simp only [putAll, Act.put, List.setIfInBounds_toArray, List.set_cons_zero, List.set_cons_succ]; done) | (simp only [putAll, Act.put, List.setIfInBounds_toArray, List.set_cons_zero, List.set_cons_succ]; rfl)) (hJ5_27 (gb158) _ ⟨(by (with_reducible repeat (first | refine blk_drewN ?_ _ | refine blk_drew ?_ | refine blk_alloc ?_ _)); exact BK153.out), (by (with_reducible repeat (first | refine blk_drewN ?_ _ | refine blk_drew ?_ | refine blk_alloc ?_ _)); exact BK158.out), GW158.out, GE158.out, NB153_158.out, NB158_153.out, (by repeat (first | (with_reducible first | exact HB.out | apply below_alloc | apply pw_below_drewN | apply below_drew1 | refine below_set ?_ GE153.out | refine below_set ?_ GE158.out) | exact HB.out))⟩)
                    · skip
                      rintro _ w31 ⟨h0_, h1_⟩
                      have n0_ : Aside0 (w31.heap[gb153]? = some (.cells #[.int .i64 0, .int .i64 0, .int .i64 0, .int .i64 0, .int .u32 0, .int .i64 0, .string (⟨#[]⟩ : ByteArray)] 30 (0, 0))) := ⟨h0_⟩
                      have n1_ : Aside0 (Below w.heap.size w w31) := ⟨h1_⟩
                      clear BK153
                      clear HB
                      clear h0_ h1_
                      have BK153 := n0_
                      have HB := n1_
                      clear n0_ n1_
                      have hHeld := trivial
                      refine norm_ (a' := ?_) ?_ ?_
                      rotate_left
                      · simp only [putAll, Act.put, List.setIfInBounds_toArray, List.set_cons_zero, List.set_cons_succ]
                        rfl
                      refine two_ (i := 9) (j := 27) (Ni := some 33) (Nj := some 6) (bA 29 62495743) (bA 29 196712959) rfl rfl rfl rfl (two_of HT_.out (by kernel_rfl)) (by decide) (by decide) (fun K hK => ?_) (fun K hK => ?_)
                      · skip
                        refine goes_ Try.func35 (by kernel_rfl) rfl #[.string (a0.extract 4 7)] (by rfl) rfl rfl (by (try simp only [List.map_toArray, List.map_cons, List.map_nil]); first | done | rfl | (simp only [List.length_drop, List.length_take]; rfl)) ?_
                        with_reducible refine (script_get.calls kj1 (a0.extract 4 7) t155 _ A18.out).mono ?_
                        rintro e w' ⟨rfl, ⟨nd, rfl⟩⟩
                        refine ⟨_, rfl, ?_⟩
                        refine hK.out _ _ trivial (fun hHeld => ?_)
                        clear hK K
                        refine norm_ (a' := ?_) ?_ ?_
                        rotate_left
                        · show Act.put _ (some 33) _ = _
                          simp only [Act.put, List.setIfInBounds_toArray, List.set_cons_zero, List.set_cons_succ, i64_w, i32_w]
                          rfl
                        refine pure_ (i := 10) (N := some 34) (v := ?_) (a' := ?_) (bA 29 62496767) rfl rfl (any_of HT_.out (by kernel_rfl)) (fun _ _ _ h => h) (Or.inl ⟨by rfl, ?_⟩) ?_ ?_; rotate_left
                        · intro w'; go_simp; with_reducible rfl
                        rotate_left; · simp only [Act.put, List.setIfInBounds_toArray, List.set_cons_zero, List.set_cons_succ, i64_w, i32_w]; rfl
                        exact norm_ (by first | (simp only [putAll, Act.put, List.setIfInBounds_toArray, List.set_cons_zero, List.set_cons_succ]; done) | (simp only [putAll, Act.put, List.setIfInBounds_toArray, List.set_cons_zero, List.set_cons_succ]; rfl)) (hJ5_9 () _ ⟨(by (with_reducible repeat (first | refine blk_drewN ?_ _ | refine blk_drew ?_ | refine blk_alloc ?_ _)); exact BK153.out), (by repeat (first | (with_reducible first | exact HB.out | apply below_alloc | apply pw_below_drewN | apply below_drew1 | refine below_set ?_ GE153.out) | exact HB.out))⟩)
                      · skip
                        refine box_step ?hg (N := 6) ?hd (cs := #[.int .i64 0, .int .i64 0, .int .i64 0, .int .i64 0, .int .u32 0, .int .i64 0, .string (⟨#[]⟩ : ByteArray)]) (t := 30) ?hr ?_; (case hd => rfl); (case hg => rfl); (case hr => first | (go_simp; done) | (go_simp; rfl))
                        intro gb158 hg w32 hbox hb
                        have n0_ := Aside0.mk (blk_below (g := gb153) (o := .cells #[.int .i64 0, .int .i64 0, .int .i64 0, .int .i64 0, .int .u32 0, .int .i64 0, .string (⟨#[]⟩ : ByteArray)] 30 (0, 0)) (by (with_reducible repeat (first | refine blk_drewN ?_ _ | refine blk_drew ?_ | refine blk_alloc ?_ _)); exact BK153.out) hb)
                        have n1_ := Aside0.mk (below_step (by repeat (first | (with_reducible first | exact HB.out | apply below_alloc | apply pw_below_drewN | apply below_drew1 | refine below_set ?_ GE153.out) | exact HB.out)) hb)
                        have n2_ := Aside0.mk (hbox)
                        have n3_ := Aside0.mk ((by rw [hg]; exact (below_size (by repeat (first | (with_reducible first | exact HB.out | apply below_alloc | apply pw_below_drewN | apply below_drew1 | refine below_set ?_ GE153.out) | exact HB.out))) : w.heap.size ≤ gb158))
                        have n4_ := Aside0.mk ((by rw [hg]; exact (below_size (by repeat (first | (with_reducible first | exact HB.out | apply below_alloc | apply pw_below_drewN | apply below_drew1 | refine below_set ?_ GE153.out) | exact HB.out))) : w.heap.size ≤ gb158))
                        have n5_ := Aside0.mk ((by rw [hg]; exact Nat.ne_of_lt (blk_lt (g := gb153) (o := .cells #[.int .i64 0, .int .i64 0, .int .i64 0, .int .i64 0, .int .u32 0, .int .i64 0, .string (⟨#[]⟩ : ByteArray)] 30 (0, 0)) (by (with_reducible repeat (first | refine blk_drewN ?_ _ | refine blk_drew ?_ | refine blk_alloc ?_ _)); exact BK153.out)) : gb153 ≠ gb158))
                        have n6_ := Aside0.mk ((by rw [hg]; exact Nat.ne_of_gt (blk_lt (g := gb153) (o := .cells #[.int .i64 0, .int .i64 0, .int .i64 0, .int .i64 0, .int .u32 0, .int .i64 0, .string (⟨#[]⟩ : ByteArray)] 30 (0, 0)) (by (with_reducible repeat (first | refine blk_drewN ?_ _ | refine blk_drew ?_ | refine blk_alloc ?_ _)); exact BK153.out)) : gb158 ≠ gb153))
                        clear BK153
                        clear HB
                        have BK153 := n0_
                        have HB := n1_
                        have BK158 := n2_
                        have GW158 := n3_
                        have GE158 := n4_
                        have NB153_158 := n5_
                        have NB158_153 := n6_
                        clear n0_ n1_ n2_ n3_ n4_ n5_ n6_
                        clear hb hbox hg
                        refine hK.out _ _ trivial (fun hHeld => ?_)
                        clear hK K
                        refine norm_ (a' := ?_) ?_ ?_
                        rotate_left
                        · show Act.put _ (some 6) _ = _
                          simp only [Act.put, List.setIfInBounds_toArray, List.set_cons_zero, List.set_cons_succ, i64_w, i32_w]
                          rfl
                        exact norm_ (by first | (simp only [putAll, Act.put, List.setIfInBounds_toArray, List.set_cons_zero, List.set_cons_succ]; done) | (simp only [putAll, Act.put, List.setIfInBounds_toArray, List.set_cons_zero, List.set_cons_succ]; rfl)) (hJ5_27 (gb158) _ ⟨(by (with_reducible repeat (first | refine blk_drewN ?_ _ | refine blk_drew ?_ | refine blk_alloc ?_ _)); exact BK153.out), (by (with_reducible repeat (first | refine blk_drewN ?_ _ | refine blk_drew ?_ | refine blk_alloc ?_ _)); exact BK158.out), GW158.out, GE158.out, NB153_158.out, NB158_153.out, (by repeat (first | (with_reducible first | exact HB.out | apply below_alloc | apply pw_below_drewN | apply below_drew1 | refine below_set ?_ GE153.out | refine below_set ?_ GE158.out) | exact HB.out))⟩)
                  · skip
                    rintro gb158 w32 ⟨h0_, h1_, h2_, h3_, h4_, h5_, h6_⟩
                    have n0_ : Aside0 (w32.heap[gb153]? = some (.cells #[.int .i64 0, .int .i64 0, .int .i64 0, .int .i64 0, .int .u32 0, .int .i64 0, .string (⟨#[]⟩ : ByteArray)] 30 (0, 0))) := ⟨h0_⟩
                    have n1_ : Aside0 (w32.heap[gb158]? = some (.cells #[.int .i64 0, .int .i64 0, .int .i64 0, .int .i64 0, .int .u32 0, .int .i64 0, .string (⟨#[]⟩ : ByteArray)] 30 (0, 0))) := ⟨h1_⟩
                    have n2_ : Aside0 (w.heap.size ≤ gb158) := ⟨h2_⟩
                    have n3_ : Aside0 (w.heap.size ≤ gb158) := ⟨h3_⟩
                    have n4_ : Aside0 (gb153 ≠ gb158) := ⟨h4_⟩
                    have n5_ : Aside0 (gb158 ≠ gb153) := ⟨h5_⟩
                    have n6_ : Aside0 (Below w.heap.size w w32) := ⟨h6_⟩
                    clear BK153
                    clear HB
                    clear h0_ h1_ h2_ h3_ h4_ h5_ h6_
                    have BK153 := n0_
                    have BK158 := n1_
                    have GW158 := n2_
                    have GE158 := n3_
                    have NB153_158 := n4_
                    have NB158_153 := n5_
                    have HB := n6_
                    clear n0_ n1_ n2_ n3_ n4_ n5_ n6_
                    have hHeld := trivial
                    refine norm_ (a' := ?_) ?_ ?_
                    rotate_left
                    · simp only [putAll, Act.put, List.setIfInBounds_toArray, List.set_cons_zero, List.set_cons_succ]
                      rfl
                    refine one_ (i := 9) (N := some 33) (bA 29 196713471) rfl rfl (one_of HT_.out (by kernel_rfl)) (by decide) (fun K hK => ?_)
                    refine goes_ Try.func35 (by kernel_rfl) rfl #[.string (a0.extract 4 7)] (by rfl) rfl rfl (by (try simp only [List.map_toArray, List.map_cons, List.map_nil]); first | done | rfl | (simp only [List.length_drop, List.length_take]; rfl)) ?_
                    with_reducible refine (script_get.calls kj1 (a0.extract 4 7) t155 _ A18.out).mono ?_
                    rintro e w' ⟨rfl, ⟨nd, rfl⟩⟩
                    refine ⟨_, rfl, ?_⟩
                    refine hK.out _ _ trivial (fun hHeld => ?_)
                    clear hK K
                    refine norm_ (a' := ?_) ?_ ?_
                    rotate_left
                    · show Act.put _ (some 33) _ = _
                      simp only [Act.put, List.setIfInBounds_toArray, List.set_cons_zero, List.set_cons_succ, i64_w, i32_w]
                      rfl
                    refine pure_ (i := 10) (N := some 34) (v := ?_) (a' := ?_) (bA 29 196714495) rfl rfl (any_of HT_.out (by kernel_rfl)) (fun _ _ _ h => h) (Or.inl ⟨by rfl, ?_⟩) ?_ ?_; rotate_left
                    · intro w'; go_simp; with_reducible rfl
                    rotate_left; · simp only [Act.put, List.setIfInBounds_toArray, List.set_cons_zero, List.set_cons_succ, i64_w, i32_w]; rfl
                    exact norm_ (by first | (simp only [putAll, Act.put, List.setIfInBounds_toArray, List.set_cons_zero, List.set_cons_succ]; done) | (simp only [putAll, Act.put, List.setIfInBounds_toArray, List.set_cons_zero, List.set_cons_succ]; rfl)) (hJ5_9_27 (gb158) _ ⟨(by (with_reducible repeat (first | refine blk_drewN ?_ _ | refine blk_drew ?_ | refine blk_alloc ?_ _)); exact BK153.out), (by (with_reducible repeat (first | refine blk_drewN ?_ _ | refine blk_drew ?_ | refine blk_alloc ?_ _)); exact BK158.out), GW158.out, GE158.out, NB153_158.out, NB158_153.out, (by repeat (first | (with_reducible first | exact HB.out | apply below_alloc | apply pw_below_drewN | apply below_drew1 | refine below_set ?_ GE153.out | refine below_set ?_ GE158.out) | exact HB.out))⟩)
                · skip
                  rintro _ w31 ⟨h0_, h1_⟩
                  have n0_ : Aside0 (w31.heap[gb153]? = some (.cells #[.int .i64 0, .int .i64 0, .int .i64 0, .int .i64 0, .int .u32 0, .int .i64 0, .string (⟨#[]⟩ : ByteArray)] 30 (0, 0))) := ⟨h0_⟩
                  have n1_ : Aside0 (Below w.heap.size w w31) := ⟨h1_⟩
                  clear BK153
                  clear HB
                  clear h0_ h1_
                  have BK153 := n0_
                  have HB := n1_
                  clear n0_ n1_
                  have hHeld := trivial
                  refine norm_ (a' := ?_) ?_ ?_
                  rotate_left
                  · simp only [putAll, Act.put, List.setIfInBounds_toArray, List.set_cons_zero, List.set_cons_succ]
                    rfl
                  refine two_ (i := 13) (j := 27) (Ni := some 37) (Nj := some 6) (bA 29 62504959) (bA 29 196714495) rfl rfl rfl rfl (two_of HT_.out (by kernel_rfl)) (by decide) (by decide) (fun K hK => ?_) (fun K hK => ?_)
                  · skip
                    refine goes_ Try.func35 (by kernel_rfl) rfl #[.string (a0.extract 7 10)] (by rfl) rfl rfl (by (try simp only [List.map_toArray, List.map_cons, List.map_nil]); first | done | rfl | (simp only [List.length_drop, List.length_take]; rfl)) ?_
                    with_reducible refine (script_get.calls kj1 (a0.extract 7 10) t156 _ A21.out).mono ?_
                    rintro e w' ⟨rfl, ⟨nd, rfl⟩⟩
                    refine ⟨_, rfl, ?_⟩
                    refine hK.out _ _ trivial (fun hHeld => ?_)
                    clear hK K
                    refine norm_ (a' := ?_) ?_ ?_
                    rotate_left
                    · show Act.put _ (some 37) _ = _
                      simp only [Act.put, List.setIfInBounds_toArray, List.set_cons_zero, List.set_cons_succ, i64_w, i32_w]
                      rfl
                    refine pure_ (i := 14) (N := some 38) (v := ?_) (a' := ?_) (bA 29 62521343) rfl rfl (any_of HT_.out (by kernel_rfl)) (fun _ _ _ h => h) (Or.inl ⟨by rfl, ?_⟩) ?_ ?_; rotate_left
                    · intro w'; go_simp; with_reducible rfl
                    rotate_left; · simp only [Act.put, List.setIfInBounds_toArray, List.set_cons_zero, List.set_cons_succ, i64_w, i32_w]; rfl
                    exact norm_ (by first | (simp only [putAll, Act.put, List.setIfInBounds_toArray, List.set_cons_zero, List.set_cons_succ]; done) | (simp only [putAll, Act.put, List.setIfInBounds_toArray, List.set_cons_zero, List.set_cons_succ]; rfl)) (hJ5_9_13 () _ ⟨(by (with_reducible repeat (first | refine blk_drewN ?_ _ | refine blk_drew ?_ | refine blk_alloc ?_ _)); exact BK153.out), (by repeat (first | (with_reducible first | exact HB.out | apply below_alloc | apply pw_below_drewN | apply below_drew1 | refine below_set ?_ GE153.out) | exact HB.out))⟩)
                  · skip
                    refine box_step ?hg (N := 6) ?hd (cs := #[.int .i64 0, .int .i64 0, .int .i64 0, .int .i64 0, .int .u32 0, .int .i64 0, .string (⟨#[]⟩ : ByteArray)]) (t := 30) ?hr ?_; (case hd => rfl); (case hg => rfl); (case hr => first | (go_simp; done) | (go_simp; rfl))
                    intro gb158 hg w32 hbox hb
                    have n0_ := Aside0.mk (blk_below (g := gb153) (o := .cells #[.int .i64 0, .int .i64 0, .int .i64 0, .int .i64 0, .int .u32 0, .int .i64 0, .string (⟨#[]⟩ : ByteArray)] 30 (0, 0)) (by (with_reducible repeat (first | refine blk_drewN ?_ _ | refine blk_drew ?_ | refine blk_alloc ?_ _)); exact BK153.out) hb)
                    have n1_ := Aside0.mk (below_step (by repeat (first | (with_reducible first | exact HB.out | apply below_alloc | apply pw_below_drewN | apply below_drew1 | refine below_set ?_ GE153.out) | exact HB.out)) hb)
                    have n2_ := Aside0.mk (hbox)
                    have n3_ := Aside0.mk ((by rw [hg]; exact (below_size (by repeat (first | (with_reducible first | exact HB.out | apply below_alloc | apply pw_below_drewN | apply below_drew1 | refine below_set ?_ GE153.out) | exact HB.out))) : w.heap.size ≤ gb158))
                    have n4_ := Aside0.mk ((by rw [hg]; exact (below_size (by repeat (first | (with_reducible first | exact HB.out | apply below_alloc | apply pw_below_drewN | apply below_drew1 | refine below_set ?_ GE153.out) | exact HB.out))) : w.heap.size ≤ gb158))
                    have n5_ := Aside0.mk ((by rw [hg]; exact Nat.ne_of_lt (blk_lt (g := gb153) (o := .cells #[.int .i64 0, .int .i64 0, .int .i64 0, .int .i64 0, .int .u32 0, .int .i64 0, .string (⟨#[]⟩ : ByteArray)] 30 (0, 0)) (by (with_reducible repeat (first | refine blk_drewN ?_ _ | refine blk_drew ?_ | refine blk_alloc ?_ _)); exact BK153.out)) : gb153 ≠ gb158))
                    have n6_ := Aside0.mk ((by rw [hg]; exact Nat.ne_of_gt (blk_lt (g := gb153) (o := .cells #[.int .i64 0, .int .i64 0, .int .i64 0, .int .i64 0, .int .u32 0, .int .i64 0, .string (⟨#[]⟩ : ByteArray)] 30 (0, 0)) (by (with_reducible repeat (first | refine blk_drewN ?_ _ | refine blk_drew ?_ | refine blk_alloc ?_ _)); exact BK153.out)) : gb158 ≠ gb153))
                    clear BK153
                    clear HB
                    have BK153 := n0_
                    have HB := n1_
                    have BK158 := n2_
                    have GW158 := n3_
                    have GE158 := n4_
                    have NB153_158 := n5_
                    have NB158_153 := n6_
                    clear n0_ n1_ n2_ n3_ n4_ n5_ n6_
                    clear hb hbox hg
                    refine hK.out _ _ trivial (fun hHeld => ?_)
                    clear hK K
                    refine norm_ (a' := ?_) ?_ ?_
                    rotate_left
                    · show Act.put _ (some 6) _ = _
                      simp only [Act.put, List.setIfInBounds_toArray, List.set_cons_zero, List.set_cons_succ, i64_w, i32_w]
                      rfl
                    exact norm_ (by first | (simp only [putAll, Act.put, List.setIfInBounds_toArray, List.set_cons_zero, List.set_cons_succ]; done) | (simp only [putAll, Act.put, List.setIfInBounds_toArray, List.set_cons_zero, List.set_cons_succ]; rfl)) (hJ5_9_27 (gb158) _ ⟨(by (with_reducible repeat (first | refine blk_drewN ?_ _ | refine blk_drew ?_ | refine blk_alloc ?_ _)); exact BK153.out), (by (with_reducible repeat (first | refine blk_drewN ?_ _ | refine blk_drew ?_ | refine blk_alloc ?_ _)); exact BK158.out), GW158.out, GE158.out, NB153_158.out, NB158_153.out, (by repeat (first | (with_reducible first | exact HB.out | apply below_alloc | apply pw_below_drewN | apply below_drew1 | refine below_set ?_ GE153.out | refine below_set ?_ GE158.out) | exact HB.out))⟩)
              · skip
                rintro gb158 w32 ⟨h0_, h1_, h2_, h3_, h4_, h5_, h6_⟩
                have n0_ : Aside0 (w32.heap[gb153]? = some (.cells #[.int .i64 0, .int .i64 0, .int .i64 0, .int .i64 0, .int .u32 0, .int .i64 0, .string (⟨#[]⟩ : ByteArray)] 30 (0, 0))) := ⟨h0_⟩
                have n1_ : Aside0 (w32.heap[gb158]? = some (.cells #[.int .i64 0, .int .i64 0, .int .i64 0, .int .i64 0, .int .u32 0, .int .i64 0, .string (⟨#[]⟩ : ByteArray)] 30 (0, 0))) := ⟨h1_⟩
                have n2_ : Aside0 (w.heap.size ≤ gb158) := ⟨h2_⟩
                have n3_ : Aside0 (w.heap.size ≤ gb158) := ⟨h3_⟩
                have n4_ : Aside0 (gb153 ≠ gb158) := ⟨h4_⟩
                have n5_ : Aside0 (gb158 ≠ gb153) := ⟨h5_⟩
                have n6_ : Aside0 (Below w.heap.size w w32) := ⟨h6_⟩
                clear BK153
                clear HB
                clear h0_ h1_ h2_ h3_ h4_ h5_ h6_
                have BK153 := n0_
                have BK158 := n1_
                have GW158 := n2_
                have GE158 := n3_
                have NB153_158 := n4_
                have NB158_153 := n5_
                have HB := n6_
                clear n0_ n1_ n2_ n3_ n4_ n5_ n6_
                have hHeld := trivial
                refine norm_ (a' := ?_) ?_ ?_
                rotate_left
                · simp only [putAll, Act.put, List.setIfInBounds_toArray, List.set_cons_zero, List.set_cons_succ]
                  rfl
                refine one_ (i := 13) (N := some 37) (bA 29 196722687) rfl rfl (one_of HT_.out (by kernel_rfl)) (by decide) (fun K hK => ?_)
                refine goes_ Try.func35 (by kernel_rfl) rfl #[.string (a0.extract 7 10)] (by rfl) rfl rfl (by (try simp only [List.map_toArray, List.map_cons, List.map_nil]); first | done | rfl | (simp only [List.length_drop, List.length_take]; rfl)) ?_
                with_reducible refine (script_get.calls kj1 (a0.extract 7 10) t156 _ A21.out).mono ?_
                rintro e w' ⟨rfl, ⟨nd, rfl⟩⟩
                refine ⟨_, rfl, ?_⟩
                refine hK.out _ _ trivial (fun hHeld => ?_)
                clear hK K
                refine norm_ (a' := ?_) ?_ ?_
                rotate_left
                · show Act.put _ (some 37) _ = _
                  simp only [Act.put, List.setIfInBounds_toArray, List.set_cons_zero, List.set_cons_succ, i64_w, i32_w]
                  rfl
                refine pure_ (i := 14) (N := some 38) (v := ?_) (a' := ?_) (bA 29 196739071) rfl rfl (any_of HT_.out (by kernel_rfl)) (fun _ _ _ h => h) (Or.inl ⟨by rfl, ?_⟩) ?_ ?_; rotate_left
                · intro w'; go_simp; with_reducible rfl
                rotate_left; · simp only [Act.put, List.setIfInBounds_toArray, List.set_cons_zero, List.set_cons_succ, i64_w, i32_w]; rfl
                exact norm_ (by first | (simp only [putAll, Act.put, List.setIfInBounds_toArray, List.set_cons_zero, List.set_cons_succ]; done) | (simp only [putAll, Act.put, List.setIfInBounds_toArray, List.set_cons_zero, List.set_cons_succ]; rfl)) (hJ5_9_13_27 (gb158) _ ⟨(by (with_reducible repeat (first | refine blk_drewN ?_ _ | refine blk_drew ?_ | refine blk_alloc ?_ _)); exact BK153.out), (by (with_reducible repeat (first | refine blk_drewN ?_ _ | refine blk_drew ?_ | refine blk_alloc ?_ _)); exact BK158.out), GW158.out, GE158.out, NB153_158.out, NB158_153.out, (by repeat (first | (with_reducible first | exact HB.out | apply below_alloc | apply pw_below_drewN | apply below_drew1 | refine below_set ?_ GE153.out | refine below_set ?_ GE158.out) | exact HB.out))⟩)
            · skip
              rintro _ w31 ⟨h0_, h1_⟩
              have n0_ : Aside0 (w31.heap[gb153]? = some (.cells #[.int .i64 0, .int .i64 0, .int .i64 0, .int .i64 0, .int .u32 0, .int .i64 0, .string (⟨#[]⟩ : ByteArray)] 30 (0, 0))) := ⟨h0_⟩
              have n1_ : Aside0 (Below w.heap.size w w31) := ⟨h1_⟩
              clear BK153
              clear HB
              clear h0_ h1_
              have BK153 := n0_
              have HB := n1_
              clear n0_ n1_
              have hHeld := trivial
              refine norm_ (a' := ?_) ?_ ?_
              rotate_left
              · simp only [putAll, Act.put, List.setIfInBounds_toArray, List.set_cons_zero, List.set_cons_succ]
                rfl
              refine two_ (i := 17) (j := 27) (Ni := some 41) (Nj := some 6) (bA 29 62652415) (bA 29 196739071) rfl rfl rfl rfl (two_of HT_.out (by kernel_rfl)) (by decide) (by decide) (fun K hK => ?_) (fun K hK => ?_)
              · skip
                refine goes_ Try.func35 (by kernel_rfl) rfl #[.string (a0.extract 10 14)] (by rfl) rfl rfl (by (try simp only [List.map_toArray, List.map_cons, List.map_nil]); first | done | rfl | (simp only [List.length_drop, List.length_take]; rfl)) ?_
                with_reducible refine (script_get.calls kj1 (a0.extract 10 14) t157 _ A24.out).mono ?_
                rintro e w' ⟨rfl, ⟨nd, rfl⟩⟩
                refine ⟨_, rfl, ?_⟩
                refine hK.out _ _ trivial (fun hHeld => ?_)
                clear hK K
                refine norm_ (a' := ?_) ?_ ?_
                rotate_left
                · show Act.put _ (some 41) _ = _
                  simp only [Act.put, List.setIfInBounds_toArray, List.set_cons_zero, List.set_cons_succ, i64_w, i32_w]
                  rfl
                refine pure_ (i := 18) (N := some 42) (v := ?_) (a' := ?_) (bA 29 62914559) rfl rfl (any_of HT_.out (by kernel_rfl)) (fun _ _ _ h => h) (Or.inl ⟨by rfl, ?_⟩) ?_ ?_; rotate_left
                · intro w'; go_simp; with_reducible rfl
                rotate_left; · simp only [Act.put, List.setIfInBounds_toArray, List.set_cons_zero, List.set_cons_succ, i64_w, i32_w]; rfl
                refine pure_ (i := 22) (N := some 46) (v := ?_) (a' := ?_) (bA 29 67108863) rfl rfl (any_of HT_.out (by kernel_rfl)) (fun _ _ _ h => h) (Or.inl ⟨by rfl, ?_⟩) ?_ ?_; rotate_left
                · intro w'; go_simp; with_reducible rfl
                rotate_left; · simp only [Act.put, List.setIfInBounds_toArray, List.set_cons_zero, List.set_cons_succ, i64_w, i32_w]; rfl
                refine pure_ (i := 26) (N := some 50) (v := ?_) (a' := ?_) (bA 29 134217727) rfl rfl (any_of HT_.out (by kernel_rfl)) (fun _ _ _ h => h) (Or.inl ⟨by rfl, ?_⟩) ?_ ?_; rotate_left
                · intro w'; go_simp; with_reducible rfl
                rotate_left; · simp only [Act.put, List.setIfInBounds_toArray, List.set_cons_zero, List.set_cons_succ, i64_w, i32_w]; rfl
                exact norm_ (by first | (simp only [putAll, Act.put, List.setIfInBounds_toArray, List.set_cons_zero, List.set_cons_succ]; done) | (simp only [putAll, Act.put, List.setIfInBounds_toArray, List.set_cons_zero, List.set_cons_succ]; rfl)) (hJ5_9_13_17 () _ ⟨(by (with_reducible repeat (first | refine blk_drewN ?_ _ | refine blk_drew ?_ | refine blk_alloc ?_ _)); exact BK153.out), (by repeat (first | (with_reducible first | exact HB.out | apply below_alloc | apply pw_below_drewN | apply below_drew1 | refine below_set ?_ GE153.out) | exact HB.out))⟩)
              · skip
                refine box_step ?hg (N := 6) ?hd (cs := #[.int .i64 0, .int .i64 0, .int .i64 0, .int .i64 0, .int .u32 0, .int .i64 0, .string (⟨#[]⟩ : ByteArray)]) (t := 30) ?hr ?_; (case hd => rfl); (case hg => rfl); (case hr => first | (go_simp; done) | (go_simp; rfl))
                intro gb158 hg w32 hbox hb
                have n0_ := Aside0.mk (blk_below (g := gb153) (o := .cells #[.int .i64 0, .int .i64 0, .int .i64 0, .int .i64 0, .int .u32 0, .int .i64 0, .string (⟨#[]⟩ : ByteArray)] 30 (0, 0)) (by (with_reducible repeat (first | refine blk_drewN ?_ _ | refine blk_drew ?_ | refine blk_alloc ?_ _)); exact BK153.out) hb)
                have n1_ := Aside0.mk (below_step (by repeat (first | (with_reducible first | exact HB.out | apply below_alloc | apply pw_below_drewN | apply below_drew1 | refine below_set ?_ GE153.out) | exact HB.out)) hb)
                have n2_ := Aside0.mk (hbox)
                have n3_ := Aside0.mk ((by rw [hg]; exact (below_size (by repeat (first | (with_reducible first | exact HB.out | apply below_alloc | apply pw_below_drewN | apply below_drew1 | refine below_set ?_ GE153.out) | exact HB.out))) : w.heap.size ≤ gb158))
                have n4_ := Aside0.mk ((by rw [hg]; exact (below_size (by repeat (first | (with_reducible first | exact HB.out | apply below_alloc | apply pw_below_drewN | apply below_drew1 | refine below_set ?_ GE153.out) | exact HB.out))) : w.heap.size ≤ gb158))
                have n5_ := Aside0.mk ((by rw [hg]; exact Nat.ne_of_lt (blk_lt (g := gb153) (o := .cells #[.int .i64 0, .int .i64 0, .int .i64 0, .int .i64 0, .int .u32 0, .int .i64 0, .string (⟨#[]⟩ : ByteArray)] 30 (0, 0)) (by (with_reducible repeat (first | refine blk_drewN ?_ _ | refine blk_drew ?_ | refine blk_alloc ?_ _)); exact BK153.out)) : gb153 ≠ gb158))
                have n6_ := Aside0.mk ((by rw [hg]; exact Nat.ne_of_gt (blk_lt (g := gb153) (o := .cells #[.int .i64 0, .int .i64 0, .int .i64 0, .int .i64 0, .int .u32 0, .int .i64 0, .string (⟨#[]⟩ : ByteArray)] 30 (0, 0)) (by (with_reducible repeat (first | refine blk_drewN ?_ _ | refine blk_drew ?_ | refine blk_alloc ?_ _)); exact BK153.out)) : gb158 ≠ gb153))
                clear BK153
                clear HB
                have BK153 := n0_
                have HB := n1_
                have BK158 := n2_
                have GW158 := n3_
                have GE158 := n4_
                have NB153_158 := n5_
                have NB158_153 := n6_
                clear n0_ n1_ n2_ n3_ n4_ n5_ n6_
                clear hb hbox hg
                refine hK.out _ _ trivial (fun hHeld => ?_)
                clear hK K
                refine norm_ (a' := ?_) ?_ ?_
                rotate_left
                · show Act.put _ (some 6) _ = _
                  simp only [Act.put, List.setIfInBounds_toArray, List.set_cons_zero, List.set_cons_succ, i64_w, i32_w]
                  rfl
                exact norm_ (by first | (simp only [putAll, Act.put, List.setIfInBounds_toArray, List.set_cons_zero, List.set_cons_succ]; done) | (simp only [putAll, Act.put, List.setIfInBounds_toArray, List.set_cons_zero, List.set_cons_succ]; rfl)) (hJ5_9_13_27 (gb158) _ ⟨(by (with_reducible repeat (first | refine blk_drewN ?_ _ | refine blk_drew ?_ | refine blk_alloc ?_ _)); exact BK153.out), (by (with_reducible repeat (first | refine blk_drewN ?_ _ | refine blk_drew ?_ | refine blk_alloc ?_ _)); exact BK158.out), GW158.out, GE158.out, NB153_158.out, NB158_153.out, (by repeat (first | (with_reducible first | exact HB.out | apply below_alloc | apply pw_below_drewN | apply below_drew1 | refine below_set ?_ GE153.out | refine below_set ?_ GE158.out) | exact HB.out))⟩)
          · skip
            rintro gb158 w32 ⟨h0_, h1_, h2_, h3_, h4_, h5_, h6_⟩
            have n0_ : Aside0 (w32.heap[gb153]? = some (.cells #[.int .i64 0, .int .i64 0, .int .i64 0, .int .i64 0, .int .u32 0, .int .i64 0, .string (⟨#[]⟩ : ByteArray)] 30 (0, 0))) := ⟨h0_⟩
            have n1_ : Aside0 (w32.heap[gb158]? = some (.cells #[.int .i64 0, .int .i64 0, .int .i64 0, .int .i64 0, .int .u32 0, .int .i64 0, .string (⟨#[]⟩ : ByteArray)] 30 (0, 0))) := ⟨h1_⟩
            have n2_ : Aside0 (w.heap.size ≤ gb158) := ⟨h2_⟩
            have n3_ : Aside0 (w.heap.size ≤ gb158) := ⟨h3_⟩
            have n4_ : Aside0 (gb153 ≠ gb158) := ⟨h4_⟩
            have n5_ : Aside0 (gb158 ≠ gb153) := ⟨h5_⟩
            have n6_ : Aside0 (Below w.heap.size w w32) := ⟨h6_⟩
            clear BK153
            clear HB
            clear h0_ h1_ h2_ h3_ h4_ h5_ h6_
            have BK153 := n0_
            have BK158 := n1_
            have GW158 := n2_
            have GE158 := n3_
            have NB153_158 := n4_
            have NB158_153 := n5_
            have HB := n6_
            clear n0_ n1_ n2_ n3_ n4_ n5_ n6_
            have hHeld := trivial
            refine norm_ (a' := ?_) ?_ ?_
            rotate_left
            · simp only [putAll, Act.put, List.setIfInBounds_toArray, List.set_cons_zero, List.set_cons_succ]
              rfl
            refine one_ (i := 17) (N := some 41) (bA 29 196870143) rfl rfl (one_of HT_.out (by kernel_rfl)) (by decide) (fun K hK => ?_)
            refine goes_ Try.func35 (by kernel_rfl) rfl #[.string (a0.extract 10 14)] (by rfl) rfl rfl (by (try simp only [List.map_toArray, List.map_cons, List.map_nil]); first | done | rfl | (simp only [List.length_drop, List.length_take]; rfl)) ?_
            with_reducible refine (script_get.calls kj1 (a0.extract 10 14) t157 _ A24.out).mono ?_
            rintro e w' ⟨rfl, ⟨nd, rfl⟩⟩
            refine ⟨_, rfl, ?_⟩
            refine hK.out _ _ trivial (fun hHeld => ?_)
            clear hK K
            refine norm_ (a' := ?_) ?_ ?_
            rotate_left
            · show Act.put _ (some 41) _ = _
              simp only [Act.put, List.setIfInBounds_toArray, List.set_cons_zero, List.set_cons_succ, i64_w, i32_w]
              rfl
            refine pure_ (i := 18) (N := some 42) (v := ?_) (a' := ?_) (bA 29 197132287) rfl rfl (any_of HT_.out (by kernel_rfl)) (fun _ _ _ h => h) (Or.inl ⟨by rfl, ?_⟩) ?_ ?_; rotate_left
            · intro w'; go_simp; with_reducible rfl
            rotate_left; · simp only [Act.put, List.setIfInBounds_toArray, List.set_cons_zero, List.set_cons_succ, i64_w, i32_w]; rfl
            refine pure_ (i := 22) (N := some 46) (v := ?_) (a' := ?_) (bA 29 201326591) rfl rfl (any_of HT_.out (by kernel_rfl)) (fun _ _ _ h => h) (Or.inl ⟨by rfl, ?_⟩) ?_ ?_; rotate_left
            · intro w'; go_simp; with_reducible rfl
            rotate_left; · simp only [Act.put, List.setIfInBounds_toArray, List.set_cons_zero, List.set_cons_succ, i64_w, i32_w]; rfl
            refine pure_ (i := 26) (N := some 50) (v := ?_) (a' := ?_) (bA 29 268435455) rfl rfl (any_of HT_.out (by kernel_rfl)) (fun _ _ _ h => h) (Or.inl ⟨by rfl, ?_⟩) ?_ ?_; rotate_left
            · intro w'; go_simp; with_reducible rfl
            rotate_left; · simp only [Act.put, List.setIfInBounds_toArray, List.set_cons_zero, List.set_cons_succ, i64_w, i32_w]; rfl
            exact norm_ (by first | (simp only [putAll, Act.put, List.setIfInBounds_toArray, List.set_cons_zero, List.set_cons_succ]; done) | (simp only [putAll, Act.put, List.setIfInBounds_toArray, List.set_cons_zero, List.set_cons_succ]; rfl)) (hJ5_9_13_17_27 (gb158) _ ⟨(by (with_reducible repeat (first | refine blk_drewN ?_ _ | refine blk_drew ?_ | refine blk_alloc ?_ _)); exact BK153.out), (by (with_reducible repeat (first | refine blk_drewN ?_ _ | refine blk_drew ?_ | refine blk_alloc ?_ _)); exact BK158.out), GW158.out, GE158.out, NB153_158.out, NB158_153.out, (by repeat (first | (with_reducible first | exact HB.out | apply below_alloc | apply pw_below_drewN | apply below_drew1 | refine below_set ?_ GE153.out | refine below_set ?_ GE158.out) | exact HB.out))⟩)
        · skip
          rintro _ w31 ⟨h0_, h1_⟩
          have n0_ : Aside0 (w31.heap[gb153]? = some (.cells #[.int .i64 0, .int .i64 0, .int .i64 0, .int .i64 0, .int .u32 0, .int .i64 0, .string (⟨#[]⟩ : ByteArray)] 30 (0, 0))) := ⟨h0_⟩
          have n1_ : Aside0 (Below w.heap.size w w31) := ⟨h1_⟩
          clear BK153
          clear HB
          clear h0_ h1_
          have BK153 := n0_
          have HB := n1_
          clear n0_ n1_
          have hHeld := trivial
          refine norm_ (a' := ?_) ?_ ?_
          rotate_left
          · simp only [putAll, Act.put, List.setIfInBounds_toArray, List.set_cons_zero, List.set_cons_succ]
            rfl
          refine one_ (i := 27) (N := some 6) (bA 29 268435455) rfl rfl (one_of HT_.out (by kernel_rfl)) (by decide) (fun K hK => ?_)
          refine box_step ?hg (N := 6) ?hd (cs := #[.int .i64 0, .int .i64 0, .int .i64 0, .int .i64 0, .int .u32 0, .int .i64 0, .string (⟨#[]⟩ : ByteArray)]) (t := 30) ?hr ?_; (case hd => rfl); (case hg => rfl); (case hr => first | (go_simp; done) | (go_simp; rfl))
          intro gb158 hg w32 hbox hb
          have n0_ := Aside0.mk (blk_below (g := gb153) (o := .cells #[.int .i64 0, .int .i64 0, .int .i64 0, .int .i64 0, .int .u32 0, .int .i64 0, .string (⟨#[]⟩ : ByteArray)] 30 (0, 0)) (by (with_reducible repeat (first | refine blk_drewN ?_ _ | refine blk_drew ?_ | refine blk_alloc ?_ _)); exact BK153.out) hb)
          have n1_ := Aside0.mk (below_step (by repeat (first | (with_reducible first | exact HB.out | apply below_alloc | apply pw_below_drewN | apply below_drew1 | refine below_set ?_ GE153.out) | exact HB.out)) hb)
          have n2_ := Aside0.mk (hbox)
          have n3_ := Aside0.mk ((by rw [hg]; exact (below_size (by repeat (first | (with_reducible first | exact HB.out | apply below_alloc | apply pw_below_drewN | apply below_drew1 | refine below_set ?_ GE153.out) | exact HB.out))) : w.heap.size ≤ gb158))
          have n4_ := Aside0.mk ((by rw [hg]; exact (below_size (by repeat (first | (with_reducible first | exact HB.out | apply below_alloc | apply pw_below_drewN | apply below_drew1 | refine below_set ?_ GE153.out) | exact HB.out))) : w.heap.size ≤ gb158))
          have n5_ := Aside0.mk ((by rw [hg]; exact Nat.ne_of_lt (blk_lt (g := gb153) (o := .cells #[.int .i64 0, .int .i64 0, .int .i64 0, .int .i64 0, .int .u32 0, .int .i64 0, .string (⟨#[]⟩ : ByteArray)] 30 (0, 0)) (by (with_reducible repeat (first | refine blk_drewN ?_ _ | refine blk_drew ?_ | refine blk_alloc ?_ _)); exact BK153.out)) : gb153 ≠ gb158))
          have n6_ := Aside0.mk ((by rw [hg]; exact Nat.ne_of_gt (blk_lt (g := gb153) (o := .cells #[.int .i64 0, .int .i64 0, .int .i64 0, .int .i64 0, .int .u32 0, .int .i64 0, .string (⟨#[]⟩ : ByteArray)] 30 (0, 0)) (by (with_reducible repeat (first | refine blk_drewN ?_ _ | refine blk_drew ?_ | refine blk_alloc ?_ _)); exact BK153.out)) : gb158 ≠ gb153))
          clear BK153
          clear HB
          have BK153 := n0_
          have HB := n1_
          have BK158 := n2_
          have GW158 := n3_
          have GE158 := n4_
          have NB153_158 := n5_
          have NB158_153 := n6_
          clear n0_ n1_ n2_ n3_ n4_ n5_ n6_
          clear hb hbox hg
          refine hK.out _ _ trivial (fun hHeld => ?_)
          clear hK K
          refine norm_ (a' := ?_) ?_ ?_
          rotate_left
          · show Act.put _ (some 6) _ = _
            simp only [Act.put, List.setIfInBounds_toArray, List.set_cons_zero, List.set_cons_succ, i64_w, i32_w]
            rfl
          exact norm_ (by first | (simp only [putAll, Act.put, List.setIfInBounds_toArray, List.set_cons_zero, List.set_cons_succ]; done) | (simp only [putAll, Act.put, List.setIfInBounds_toArray, List.set_cons_zero, List.set_cons_succ]; rfl)) (hJ5_9_13_17_27 (gb158) _ ⟨(by (with_reducible repeat (first | refine blk_drewN ?_ _ | refine blk_drew ?_ | refine blk_alloc ?_ _)); exact BK153.out), (by (with_reducible repeat (first | refine blk_drewN ?_ _ | refine blk_drew ?_ | refine blk_alloc ?_ _)); exact BK158.out), GW158.out, GE158.out, NB153_158.out, NB158_153.out, (by repeat (first | (with_reducible first | exact HB.out | apply below_alloc | apply pw_below_drewN | apply below_drew1 | refine below_set ?_ GE153.out | refine below_set ?_ GE158.out) | exact HB.out))⟩)
      rintro gb158 w32 ⟨h0_, h1_, h2_, h3_, h4_, h5_, h6_⟩
      have n0_ : Aside0 (w32.heap[gb153]? = some (.cells #[.int .i64 0, .int .i64 0, .int .i64 0, .int .i64 0, .int .u32 0, .int .i64 0, .string (⟨#[]⟩ : ByteArray)] 30 (0, 0))) := ⟨h0_⟩
      have n1_ : Aside0 (w32.heap[gb158]? = some (.cells #[.int .i64 0, .int .i64 0, .int .i64 0, .int .i64 0, .int .u32 0, .int .i64 0, .string (⟨#[]⟩ : ByteArray)] 30 (0, 0))) := ⟨h1_⟩
      have n2_ : Aside0 (w.heap.size ≤ gb158) := ⟨h2_⟩
      have n3_ : Aside0 (w.heap.size ≤ gb158) := ⟨h3_⟩
      have n4_ : Aside0 (gb153 ≠ gb158) := ⟨h4_⟩
      have n5_ : Aside0 (gb158 ≠ gb153) := ⟨h5_⟩
      have n6_ : Aside0 (Below w.heap.size w w32) := ⟨h6_⟩
      clear BK153
      clear HB
      clear h0_ h1_ h2_ h3_ h4_ h5_ h6_
      have BK153 := n0_
      have BK158 := n1_
      have GW158 := n2_
      have GE158 := n3_
      have NB153_158 := n4_
      have NB158_153 := n5_
      have HB := n6_
      clear n0_ n1_ n2_ n3_ n4_ n5_ n6_
      have hHeld := trivial
      refine norm_ (a' := ?_) ?_ ?_
      rotate_left
      · simp only [putAll, Act.put, List.setIfInBounds_toArray, List.set_cons_zero, List.set_cons_succ]
        rfl
      refine one_ (i := 28) (N := none) (bA 29 536870911) rfl rfl (one_of HT_.out (by kernel_rfl)) (by decide) (fun K hK => ?_)
      have hs33 : w32.cell? ⟨gb158, 0, none⟩ = some (.int .i64 0) := (blk_cell BK158.out 0).trans rfl
      have hfs33 := blk_frozen BK158.out 0
      have hns33_0 := NB153_158.out
      have hms33_0 := NB158_153.out
      have hs34 : w32.cell? ⟨gb158, 1, none⟩ = some (.int .i64 0) := (blk_cell BK158.out 1).trans rfl
      have hfs34 := blk_frozen BK158.out 1
      have hns34_0 := NB153_158.out
      have hms34_0 := NB158_153.out
      have hs35 : w32.cell? ⟨gb158, 2, none⟩ = some (.int .i64 0) := (blk_cell BK158.out 2).trans rfl
      have hfs35 := blk_frozen BK158.out 2
      have hns35_0 := NB153_158.out
      have hms35_0 := NB158_153.out
      have hs36 : w32.cell? ⟨gb158, 3, none⟩ = some (.int .i64 0) := (blk_cell BK158.out 3).trans rfl
      have hfs36 := blk_frozen BK158.out 3
      have hns36_0 := NB153_158.out
      have hms36_0 := NB158_153.out
      have hs37 : w32.cell? ⟨gb158, 4, none⟩ = some (.int .u32 0) := (blk_cell BK158.out 4).trans rfl
      have hfs37 := blk_frozen BK158.out 4
      have hns37_0 := NB153_158.out
      have hms37_0 := NB158_153.out
      have hs38 : w32.cell? ⟨gb158, 5, none⟩ = some (.int .i64 0) := (blk_cell BK158.out 5).trans rfl
      have hfs38 := blk_frozen BK158.out 5
      have hns38_0 := NB153_158.out
      have hms38_0 := NB158_153.out
      have hs39 : w32.cell? ⟨gb158, 6, none⟩ = some (.string (⟨#[]⟩ : ByteArray)) := (blk_cell BK158.out 6).trans rfl
      have hfs39 := blk_frozen BK158.out 6
      have hns39_0 := NB153_158.out
      have hms39_0 := NB158_153.out
      refine skip_ (w1 := ?_) (by rfl) rfl ?_ ?_
      rotate_left
      · go_simp
        rfl
      refine hK.out _ _ trivial (fun hHeld => ?_)
      clear hK K
      refine done_ (done_of HT_.out (by kernel_rfl)) ?_
      try go_wp2
      have n0_ : Aside0 ((((((((w32.setCell ⟨gb158, 0, none⟩ (.int .i64 (wrap64 (bt a0 0)))).setCell ⟨gb158, 1, none⟩ (.int .i64 (wrap64 (t154)))).setCell ⟨gb158, 2, none⟩ (.int .i64 (wrap64 (t155)))).setCell ⟨gb158, 3, none⟩ (.int .i64 (wrap64 (t156)))).setCell ⟨gb158, 4, none⟩ (.int .u32 ((t157) % 4294967296))).setCell ⟨gb158, 5, none⟩ (.int .i64 (wrap64 (bt a0 14)))).setCell ⟨gb158, 6, none⟩ (.string (a0.extract 16 ((wrap64 (16 + (wrap64 (bt a0 15)))) : Int).toNat))).heap[gb153]? = some (.cells #[.int .i64 0, .int .i64 0, .int .i64 0, .int .i64 0, .int .u32 0, .int .i64 0, .string (⟨#[]⟩ : ByteArray)] 30 (0, 0))) := ⟨by (with_reducible repeat (first | refine blk_drewN ?_ _ | refine blk_drew ?_ | refine blk_alloc ?_ _)); refine blk_far ?_ NB153_158.out _; (with_reducible repeat (first | refine blk_drewN ?_ _ | refine blk_drew ?_ | refine blk_alloc ?_ _)); refine blk_far ?_ NB153_158.out _; (with_reducible repeat (first | refine blk_drewN ?_ _ | refine blk_drew ?_ | refine blk_alloc ?_ _)); refine blk_far ?_ NB153_158.out _; (with_reducible repeat (first | refine blk_drewN ?_ _ | refine blk_drew ?_ | refine blk_alloc ?_ _)); refine blk_far ?_ NB153_158.out _; (with_reducible repeat (first | refine blk_drewN ?_ _ | refine blk_drew ?_ | refine blk_alloc ?_ _)); refine blk_far ?_ NB153_158.out _; (with_reducible repeat (first | refine blk_drewN ?_ _ | refine blk_drew ?_ | refine blk_alloc ?_ _)); refine blk_far ?_ NB153_158.out _; (with_reducible repeat (first | refine blk_drewN ?_ _ | refine blk_drew ?_ | refine blk_alloc ?_ _)); refine blk_far ?_ NB153_158.out _; (with_reducible repeat (first | refine blk_drewN ?_ _ | refine blk_drew ?_ | refine blk_alloc ?_ _)); exact BK153.out⟩
      have n1_ : Aside0 ((((((((w32.setCell ⟨gb158, 0, none⟩ (.int .i64 (wrap64 (bt a0 0)))).setCell ⟨gb158, 1, none⟩ (.int .i64 (wrap64 (t154)))).setCell ⟨gb158, 2, none⟩ (.int .i64 (wrap64 (t155)))).setCell ⟨gb158, 3, none⟩ (.int .i64 (wrap64 (t156)))).setCell ⟨gb158, 4, none⟩ (.int .u32 ((t157) % 4294967296))).setCell ⟨gb158, 5, none⟩ (.int .i64 (wrap64 (bt a0 14)))).setCell ⟨gb158, 6, none⟩ (.string (a0.extract 16 ((wrap64 (16 + (wrap64 (bt a0 15)))) : Int).toNat))).heap[gb158]? = some (.cells #[.int .i64 (wrap64 (bt a0 0)), .int .i64 (wrap64 (t154)), .int .i64 (wrap64 (t155)), .int .i64 (wrap64 (t156)), .int .u32 ((t157) % 4294967296), .int .i64 (wrap64 (bt a0 14)), .string (a0.extract 16 ((wrap64 (16 + (wrap64 (bt a0 15)))) : Int).toNat)] 30 (0, 0))) := ⟨by (with_reducible repeat (first | refine blk_drewN ?_ _ | refine blk_drew ?_ | refine blk_alloc ?_ _)); refine blk_put (cs := #[.int .i64 (wrap64 (bt a0 0)), .int .i64 (wrap64 (t154)), .int .i64 (wrap64 (t155)), .int .i64 (wrap64 (t156)), .int .u32 ((t157) % 4294967296), .int .i64 (wrap64 (bt a0 14)), .string (⟨#[]⟩ : ByteArray)]) ?_ 6 _ rfl; (with_reducible repeat (first | refine blk_drewN ?_ _ | refine blk_drew ?_ | refine blk_alloc ?_ _)); refine blk_put (cs := #[.int .i64 (wrap64 (bt a0 0)), .int .i64 (wrap64 (t154)), .int .i64 (wrap64 (t155)), .int .i64 (wrap64 (t156)), .int .u32 ((t157) % 4294967296), .int .i64 0, .string (⟨#[]⟩ : ByteArray)]) ?_ 5 _ rfl; (with_reducible repeat (first | refine blk_drewN ?_ _ | refine blk_drew ?_ | refine blk_alloc ?_ _)); refine blk_put (cs := #[.int .i64 (wrap64 (bt a0 0)), .int .i64 (wrap64 (t154)), .int .i64 (wrap64 (t155)), .int .i64 (wrap64 (t156)), .int .u32 0, .int .i64 0, .string (⟨#[]⟩ : ByteArray)]) ?_ 4 _ rfl; (with_reducible repeat (first | refine blk_drewN ?_ _ | refine blk_drew ?_ | refine blk_alloc ?_ _)); refine blk_put (cs := #[.int .i64 (wrap64 (bt a0 0)), .int .i64 (wrap64 (t154)), .int .i64 (wrap64 (t155)), .int .i64 0, .int .u32 0, .int .i64 0, .string (⟨#[]⟩ : ByteArray)]) ?_ 3 _ rfl; (with_reducible repeat (first | refine blk_drewN ?_ _ | refine blk_drew ?_ | refine blk_alloc ?_ _)); refine blk_put (cs := #[.int .i64 (wrap64 (bt a0 0)), .int .i64 (wrap64 (t154)), .int .i64 0, .int .i64 0, .int .u32 0, .int .i64 0, .string (⟨#[]⟩ : ByteArray)]) ?_ 2 _ rfl; (with_reducible repeat (first | refine blk_drewN ?_ _ | refine blk_drew ?_ | refine blk_alloc ?_ _)); refine blk_put (cs := #[.int .i64 (wrap64 (bt a0 0)), .int .i64 0, .int .i64 0, .int .i64 0, .int .u32 0, .int .i64 0, .string (⟨#[]⟩ : ByteArray)]) ?_ 1 _ rfl; (with_reducible repeat (first | refine blk_drewN ?_ _ | refine blk_drew ?_ | refine blk_alloc ?_ _)); refine blk_put (cs := #[.int .i64 0, .int .i64 0, .int .i64 0, .int .i64 0, .int .u32 0, .int .i64 0, .string (⟨#[]⟩ : ByteArray)]) ?_ 0 _ rfl; (with_reducible repeat (first | refine blk_drewN ?_ _ | refine blk_drew ?_ | refine blk_alloc ?_ _)); exact BK158.out⟩
      have n2_ : Aside0 (Below w.heap.size w (((((((w32.setCell ⟨gb158, 0, none⟩ (.int .i64 (wrap64 (bt a0 0)))).setCell ⟨gb158, 1, none⟩ (.int .i64 (wrap64 (t154)))).setCell ⟨gb158, 2, none⟩ (.int .i64 (wrap64 (t155)))).setCell ⟨gb158, 3, none⟩ (.int .i64 (wrap64 (t156)))).setCell ⟨gb158, 4, none⟩ (.int .u32 ((t157) % 4294967296))).setCell ⟨gb158, 5, none⟩ (.int .i64 (wrap64 (bt a0 14)))).setCell ⟨gb158, 6, none⟩ (.string (a0.extract 16 ((wrap64 (16 + (wrap64 (bt a0 15)))) : Int).toNat)))) := ⟨by repeat (first | (with_reducible first | exact HB.out | apply below_alloc | apply pw_below_drewN | apply below_drew1 | refine below_set ?_ GE153.out | refine below_set ?_ GE158.out) | exact HB.out)⟩
      (try clear BK153)
      (try clear BK158)
      (try clear HB)
      generalize (((((((w32.setCell ⟨gb158, 0, none⟩ (.int .i64 (wrap64 (bt a0 0)))).setCell ⟨gb158, 1, none⟩ (.int .i64 (wrap64 (t154)))).setCell ⟨gb158, 2, none⟩ (.int .i64 (wrap64 (t155)))).setCell ⟨gb158, 3, none⟩ (.int .i64 (wrap64 (t156)))).setCell ⟨gb158, 4, none⟩ (.int .u32 ((t157) % 4294967296))).setCell ⟨gb158, 5, none⟩ (.int .i64 (wrap64 (bt a0 14)))).setCell ⟨gb158, 6, none⟩ (.string (a0.extract 16 ((wrap64 (16 + (wrap64 (bt a0 15)))) : Int).toNat))) = w40 at n0_ n1_ n2_ ⊢
      have BK153 := n0_
      have BK158 := n1_
      have HB := n2_
      clear n0_ n1_ n2_
      have n0_ := Aside0.mk (blk_drew BK153.out)
      have n1_ := Aside0.mk (blk_drew BK158.out)
      have n2_ := Aside0.mk (below_drew1 HB.out)
      clear BK153
      clear BK158
      clear HB
      have BK153 := n0_
      have BK158 := n1_
      have HB := n2_
      clear n0_ n1_ n2_
      refine start_ (n := 7) (S := fun w' => w'.cell? ⟨gb158, 0, none⟩ = some (.int .i64 (wrap64 (bt a0 0))) ∧ w'.cell? ⟨gb158, 1, none⟩ = some (.int .i64 (wrap64 (t154))) ∧ w'.cell? ⟨gb158, 2, none⟩ = some (.int .i64 (wrap64 (t155))) ∧ w'.cell? ⟨gb158, 3, none⟩ = some (.int .i64 (wrap64 (t156))) ∧ w'.cell? ⟨gb158, 4, none⟩ = some (.int .u32 ((t157) % 4294967296)) ∧ w'.cell? ⟨gb158, 5, none⟩ = some (.int .i64 (wrap64 (bt a0 14))) ∧ w'.cell? ⟨gb158, 6, none⟩ = some (.string (a0.extract 16 ((wrap64 (16 + (wrap64 (bt a0 15)))) : Int).toNat))) (ds := []) #[false, false, false, false, false, false, false] (by kernel_rfl) rfl rfl ⟨(blk_cell BK158.out 0).trans rfl, (blk_cell BK158.out 1).trans rfl, (blk_cell BK158.out 2).trans rfl, (blk_cell BK158.out 3).trans rfl, (blk_cell BK158.out 4).trans rfl, (blk_cell BK158.out 5).trans rfl, (blk_cell BK158.out 6).trans rfl⟩ (fun hHeld => ?_)
      generalize w40.drew = w41 at BK153 BK158 HB hHeld ⊢
      refine pure_ (i := 1) (N := some 52) (v := ?_) (a' := ?_) #[false, true, false, false, false, false, false] rfl rfl (by kernel_rfl) (fun _ _ _ h => h) (Or.inl ⟨by rfl, ?_⟩) ?_ ?_; rotate_left
      · intro w'; go_simp; with_reducible rfl
      rotate_left; · simp only [Act.put, List.setIfInBounds_toArray, List.set_cons_zero, List.set_cons_succ, i64_w, i32_w]; rfl
      refine take_ (i := 0) (N := some 51) (v := ?_) (a' := ?_) #[true, true, false, false, false, false, false] rfl rfl (by kernel_rfl) (fun _ _ _ h => h) (Or.inl ⟨by rfl, ?_⟩) hHeld ?_ ?_; rotate_left
      · rintro w' ⟨s0, s1, s2, s3, s4, s5, s6⟩
        go_simp
        with_reducible rfl
      rotate_left
      · simp only [Act.put, List.setIfInBounds_toArray, List.set_cons_zero, List.set_cons_succ, i64_w, i32_w]; rfl
      refine take_ (i := 2) (N := some 53) (v := ?_) (a' := ?_) #[true, true, true, false, false, false, false] rfl rfl (by kernel_rfl) (fun _ _ _ h => h) (Or.inl ⟨by rfl, ?_⟩) hHeld ?_ ?_; rotate_left
      · rintro w' ⟨s0, s1, s2, s3, s4, s5, s6⟩
        go_simp
        with_reducible rfl
      rotate_left
      · simp only [Act.put, List.setIfInBounds_toArray, List.set_cons_zero, List.set_cons_succ, i64_w, i32_w]; rfl
      refine one_ (i := 3) (N := some 54) #[true, true, true, true, false, false, false] rfl rfl (by kernel_rfl) (by decide) (fun K hK => ?_)
      refine goes_ Try.func12 (by kernel_rfl) rfl #[.agg #[.int .i64 (wrap64 (bt a0 0)), .int .i64 (wrap64 (t154)), .int .i64 (wrap64 (t155)), .int .i64 (wrap64 (t156)), .int .u32 ((t157) % 4294967296), .int .i64 (wrap64 (bt a0 14)), .string (a0.extract 16 ((wrap64 (16 + (wrap64 (bt a0 15)))) : Int).toNat)]] (by rfl) rfl rfl (by (try simp only [List.map_toArray, List.map_cons, List.map_nil]); first | done | rfl | (simp only [List.length_drop, List.length_take]; rfl)) ?_
      with_reducible refine (script_Event_Right.calls kj1 (wrap64 (bt a0 0)) (wrap64 (t154)) (wrap64 (t155)) (wrap64 (t156)) ((t157) % 4294967296) (wrap64 (bt a0 14)) (a0.extract 16 ((wrap64 (16 + (wrap64 (bt a0 15)))) : Int).toNat) t159 _ A29.out).mono ?_
      rintro e w42 ⟨rfl, hb⟩
      refine ⟨_, rfl, ?_⟩
      have n0_ := Aside0.mk (blk_below (g := gb153) (o := .cells #[.int .i64 0, .int .i64 0, .int .i64 0, .int .i64 0, .int .u32 0, .int .i64 0, .string (⟨#[]⟩ : ByteArray)] 30 (0, 0)) (by (with_reducible repeat (first | refine blk_drewN ?_ _ | refine blk_drew ?_ | refine blk_alloc ?_ _)); exact BK153.out) hb)
      have n1_ := Aside0.mk (blk_below (g := gb158) (o := .cells #[.int .i64 (wrap64 (bt a0 0)), .int .i64 (wrap64 (t154)), .int .i64 (wrap64 (t155)), .int .i64 (wrap64 (t156)), .int .u32 ((t157) % 4294967296), .int .i64 (wrap64 (bt a0 14)), .string (a0.extract 16 ((wrap64 (16 + (wrap64 (bt a0 15)))) : Int).toNat)] 30 (0, 0)) (by (with_reducible repeat (first | refine blk_drewN ?_ _ | refine blk_drew ?_ | refine blk_alloc ?_ _)); exact BK158.out) hb)
      have n2_ := Aside0.mk (below_step (by repeat (first | (with_reducible first | exact HB.out | apply below_alloc | apply pw_below_drewN | apply below_drew1 | refine below_set ?_ GE153.out | refine below_set ?_ GE158.out) | exact HB.out)) hb)
      clear BK153
      clear BK158
      clear HB
      have BK153 := n0_
      have BK158 := n1_
      have HB := n2_
      clear n0_ n1_ n2_
      (try clear hb)
      (try clear hb2)
      (try clear hk)
      (try clear hi)
      refine hK.out _ _ ⟨(blk_cell BK158.out 0).trans rfl, (blk_cell BK158.out 1).trans rfl, (blk_cell BK158.out 2).trans rfl, (blk_cell BK158.out 3).trans rfl, (blk_cell BK158.out 4).trans rfl, (blk_cell BK158.out 5).trans rfl, (blk_cell BK158.out 6).trans rfl⟩ (fun hHeld => ?_)
      clear hK K
      refine norm_ (a' := ?_) ?_ ?_
      rotate_left
      · show Act.put _ (some 54) _ = _
        simp only [Act.put, List.setIfInBounds_toArray, List.set_cons_zero, List.set_cons_succ, i64_w, i32_w]
        rfl
      refine one_ (i := 4) (N := none) #[true, true, true, true, true, false, false] rfl rfl (by kernel_rfl) (by decide) (fun K hK => ?_)
      have hs43 : w42.cell? ⟨gb153, 0, none⟩ = some (.int .i64 0) := (blk_cell BK153.out 0).trans rfl
      have hfs43 := blk_frozen BK153.out 0
      have hns43_1 := NB158_153.out
      have hms43_1 := NB153_158.out
      have hs44 : w42.cell? ⟨gb153, 1, none⟩ = some (.int .i64 0) := (blk_cell BK153.out 1).trans rfl
      have hfs44 := blk_frozen BK153.out 1
      have hns44_1 := NB158_153.out
      have hms44_1 := NB153_158.out
      have hs45 : w42.cell? ⟨gb153, 2, none⟩ = some (.int .i64 0) := (blk_cell BK153.out 2).trans rfl
      have hfs45 := blk_frozen BK153.out 2
      have hns45_1 := NB158_153.out
      have hms45_1 := NB153_158.out
      have hs46 : w42.cell? ⟨gb153, 3, none⟩ = some (.int .i64 0) := (blk_cell BK153.out 3).trans rfl
      have hfs46 := blk_frozen BK153.out 3
      have hns46_1 := NB158_153.out
      have hms46_1 := NB153_158.out
      have hs47 : w42.cell? ⟨gb153, 4, none⟩ = some (.int .u32 0) := (blk_cell BK153.out 4).trans rfl
      have hfs47 := blk_frozen BK153.out 4
      have hns47_1 := NB158_153.out
      have hms47_1 := NB153_158.out
      have hs48 : w42.cell? ⟨gb153, 5, none⟩ = some (.int .i64 0) := (blk_cell BK153.out 5).trans rfl
      have hfs48 := blk_frozen BK153.out 5
      have hns48_1 := NB158_153.out
      have hms48_1 := NB153_158.out
      have hs49 : w42.cell? ⟨gb153, 6, none⟩ = some (.string (⟨#[]⟩ : ByteArray)) := (blk_cell BK153.out 6).trans rfl
      have hfs49 := blk_frozen BK153.out 6
      have hns49_1 := NB158_153.out
      have hms49_1 := NB153_158.out
      refine skip_ (w1 := ?_) (by rfl) rfl ?_ ?_
      rotate_left
      · go_simp
        rfl
      refine hK.out _ _ ⟨((cell_far (p := ⟨gb153, _, none⟩) NB158_153.out _).trans (((cell_far (p := ⟨gb153, _, none⟩) NB158_153.out _).trans (((cell_far (p := ⟨gb153, _, none⟩) NB158_153.out _).trans (((cell_far (p := ⟨gb153, _, none⟩) NB158_153.out _).trans (((cell_far (p := ⟨gb153, _, none⟩) NB158_153.out _).trans (((cell_far (p := ⟨gb153, _, none⟩) NB158_153.out _).trans (((cell_far (p := ⟨gb153, _, none⟩) NB158_153.out _).trans (hHeld.1)))))))))))))), ((cell_far (p := ⟨gb153, _, none⟩) NB158_153.out _).trans (((cell_far (p := ⟨gb153, _, none⟩) NB158_153.out _).trans (((cell_far (p := ⟨gb153, _, none⟩) NB158_153.out _).trans (((cell_far (p := ⟨gb153, _, none⟩) NB158_153.out _).trans (((cell_far (p := ⟨gb153, _, none⟩) NB158_153.out _).trans (((cell_far (p := ⟨gb153, _, none⟩) NB158_153.out _).trans (((cell_far (p := ⟨gb153, _, none⟩) NB158_153.out _).trans (hHeld.2.1)))))))))))))), ((cell_far (p := ⟨gb153, _, none⟩) NB158_153.out _).trans (((cell_far (p := ⟨gb153, _, none⟩) NB158_153.out _).trans (((cell_far (p := ⟨gb153, _, none⟩) NB158_153.out _).trans (((cell_far (p := ⟨gb153, _, none⟩) NB158_153.out _).trans (((cell_far (p := ⟨gb153, _, none⟩) NB158_153.out _).trans (((cell_far (p := ⟨gb153, _, none⟩) NB158_153.out _).trans (((cell_far (p := ⟨gb153, _, none⟩) NB158_153.out _).trans (hHeld.2.2.1)))))))))))))), ((cell_far (p := ⟨gb153, _, none⟩) NB158_153.out _).trans (((cell_far (p := ⟨gb153, _, none⟩) NB158_153.out _).trans (((cell_far (p := ⟨gb153, _, none⟩) NB158_153.out _).trans (((cell_far (p := ⟨gb153, _, none⟩) NB158_153.out _).trans (((cell_far (p := ⟨gb153, _, none⟩) NB158_153.out _).trans (((cell_far (p := ⟨gb153, _, none⟩) NB158_153.out _).trans (((cell_far (p := ⟨gb153, _, none⟩) NB158_153.out _).trans (hHeld.2.2.2.1)))))))))))))), ((cell_far (p := ⟨gb153, _, none⟩) NB158_153.out _).trans (((cell_far (p := ⟨gb153, _, none⟩) NB158_153.out _).trans (((cell_far (p := ⟨gb153, _, none⟩) NB158_153.out _).trans (((cell_far (p := ⟨gb153, _, none⟩) NB158_153.out _).trans (((cell_far (p := ⟨gb153, _, none⟩) NB158_153.out _).trans (((cell_far (p := ⟨gb153, _, none⟩) NB158_153.out _).trans (((cell_far (p := ⟨gb153, _, none⟩) NB158_153.out _).trans (hHeld.2.2.2.2.1)))))))))))))), ((cell_far (p := ⟨gb153, _, none⟩) NB158_153.out _).trans (((cell_far (p := ⟨gb153, _, none⟩) NB158_153.out _).trans (((cell_far (p := ⟨gb153, _, none⟩) NB158_153.out _).trans (((cell_far (p := ⟨gb153, _, none⟩) NB158_153.out _).trans (((cell_far (p := ⟨gb153, _, none⟩) NB158_153.out _).trans (((cell_far (p := ⟨gb153, _, none⟩) NB158_153.out _).trans (((cell_far (p := ⟨gb153, _, none⟩) NB158_153.out _).trans (hHeld.2.2.2.2.2.1)))))))))))))), ((cell_far (p := ⟨gb153, _, none⟩) NB158_153.out _).trans (((cell_far (p := ⟨gb153, _, none⟩) NB158_153.out _).trans (((cell_far (p := ⟨gb153, _, none⟩) NB158_153.out _).trans (((cell_far (p := ⟨gb153, _, none⟩) NB158_153.out _).trans (((cell_far (p := ⟨gb153, _, none⟩) NB158_153.out _).trans (((cell_far (p := ⟨gb153, _, none⟩) NB158_153.out _).trans (((cell_far (p := ⟨gb153, _, none⟩) NB158_153.out _).trans (hHeld.2.2.2.2.2.2))))))))))))))⟩ (fun hHeld => ?_)
      clear hK K
      refine pure_ (i := 5) (N := some 3) (v := ?_) (a' := ?_) #[true, true, true, true, true, true, false] rfl rfl (by kernel_rfl) (fun _ _ _ h => h) (Or.inl ⟨by rfl, ?_⟩) ?_ ?_; rotate_left
      · intro w'; go_simp; with_reducible rfl
      rotate_left; · simp only [Act.put, List.setIfInBounds_toArray, List.set_cons_zero, List.set_cons_succ, i64_w, i32_w]; rfl
      refine pure_ (i := 6) (N := some 4) (v := ?_) (a' := ?_) #[true, true, true, true, true, true, true] rfl rfl (by kernel_rfl) (fun _ _ _ h => h) (Or.inl ⟨by rfl, ?_⟩) ?_ ?_; rotate_left
      · intro w'; go_simp; with_reducible rfl
      rotate_left; · simp only [Act.put, List.setIfInBounds_toArray, List.set_cons_zero, List.set_cons_succ, i64_w, i32_w]; rfl
      refine done_ (by kernel_rfl) ?_
      try go_wp2
      refine bodyPost_ret (results_ctt rfl _ _ gb153 30 #[.int .i64 (wrap64 (bt a0 0)), .int .i64 (wrap64 (t154)), .int .i64 (wrap64 (t155)), .int .i64 (wrap64 (t156)), .int .u32 ((t157) % 4294967296), .int .i64 (wrap64 (bt a0 14)), .string (a0.extract 16 ((wrap64 (16 + (wrap64 (bt a0 15)))) : Int).toNat)] (0, 0) _ rfl (by (with_reducible repeat (first | refine blk_drewN ?_ _ | refine blk_drew ?_ | refine blk_alloc ?_ _)); refine blk_put (cs := #[.int .i64 (wrap64 (bt a0 0)), .int .i64 (wrap64 (t154)), .int .i64 (wrap64 (t155)), .int .i64 (wrap64 (t156)), .int .u32 ((t157) % 4294967296), .int .i64 (wrap64 (bt a0 14)), .string (⟨#[]⟩ : ByteArray)]) ?_ 6 _ rfl; (with_reducible repeat (first | refine blk_drewN ?_ _ | refine blk_drew ?_ | refine blk_alloc ?_ _)); refine blk_put (cs := #[.int .i64 (wrap64 (bt a0 0)), .int .i64 (wrap64 (t154)), .int .i64 (wrap64 (t155)), .int .i64 (wrap64 (t156)), .int .u32 ((t157) % 4294967296), .int .i64 0, .string (⟨#[]⟩ : ByteArray)]) ?_ 5 _ rfl; (with_reducible repeat (first | refine blk_drewN ?_ _ | refine blk_drew ?_ | refine blk_alloc ?_ _)); refine blk_put (cs := #[.int .i64 (wrap64 (bt a0 0)), .int .i64 (wrap64 (t154)), .int .i64 (wrap64 (t155)), .int .i64 (wrap64 (t156)), .int .u32 0, .int .i64 0, .string (⟨#[]⟩ : ByteArray)]) ?_ 4 _ rfl; (with_reducible repeat (first | refine blk_drewN ?_ _ | refine blk_drew ?_ | refine blk_alloc ?_ _)); refine blk_put (cs := #[.int .i64 (wrap64 (bt a0 0)), .int .i64 (wrap64 (t154)), .int .i64 (wrap64 (t155)), .int .i64 0, .int .u32 0, .int .i64 0, .string (⟨#[]⟩ : ByteArray)]) ?_ 3 _ rfl; (with_reducible repeat (first | refine blk_drewN ?_ _ | refine blk_drew ?_ | refine blk_alloc ?_ _)); refine blk_put (cs := #[.int .i64 (wrap64 (bt a0 0)), .int .i64 (wrap64 (t154)), .int .i64 0, .int .i64 0, .int .u32 0, .int .i64 0, .string (⟨#[]⟩ : ByteArray)]) ?_ 2 _ rfl; (with_reducible repeat (first | refine blk_drewN ?_ _ | refine blk_drew ?_ | refine blk_alloc ?_ _)); refine blk_put (cs := #[.int .i64 (wrap64 (bt a0 0)), .int .i64 0, .int .i64 0, .int .i64 0, .int .u32 0, .int .i64 0, .string (⟨#[]⟩ : ByteArray)]) ?_ 1 _ rfl; (with_reducible repeat (first | refine blk_drewN ?_ _ | refine blk_drew ?_ | refine blk_alloc ?_ _)); refine blk_put (cs := #[.int .i64 0, .int .i64 0, .int .i64 0, .int .i64 0, .int .u32 0, .int .i64 0, .string (⟨#[]⟩ : ByteArray)]) ?_ 0 _ rfl; (with_reducible repeat (first | refine blk_drewN ?_ _ | refine blk_drew ?_ | refine blk_alloc ?_ _)); exact BK153.out) Try.underlying30 rfl (by kernel_rfl)) rfl ?_
      exact ⟨by first | rfl | (simp [errW_none, errW_some] <;> rfl) | (simp [*, errW_none, errW_some] <;> rfl), by repeat (first | (with_reducible first | exact HB.out | apply below_alloc | apply pw_below_drewN | apply below_drew1 | refine below_set ?_ GE153.out | refine below_set ?_ GE158.out) | exact HB.out)⟩
end Go.Proofs.YtjdapfimjpbnmaaQ.PScr
