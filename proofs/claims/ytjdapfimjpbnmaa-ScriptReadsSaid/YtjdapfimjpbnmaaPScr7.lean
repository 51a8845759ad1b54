-- written by this session's turned copy of the kit's print.py; Lean checks it
import Derived.Test.YtjdapfimjpbnmaaPScr0
import Derived.Test.YtjdapfimjpbnmaaPScr1
import Derived.Test.YtjdapfimjpbnmaaPScr3
import Derived.Test.YtjdapfimjpbnmaaPScr4
import Derived.Test.YtjdapfimjpbnmaaPScr6
namespace Go.Proofs.YtjdapfimjpbnmaaQ.PScr
open Go.RowKit Go.Proofs.YtjdapfimjpbnmaaW.PrintWords Go.Proofs.YtjdapfimjpbnmaaW.PrintLast Go.Proofs.YtjdapfimjpbnmaaW.PrintMore
attribute [local go_sem] max2_int min2_int max_two min_two max_three min_three max_four min_four   -- for this text's walks alone
set_option linter.unusedVariables false
set_option linter.unusedSimpArgs false

attribute [local go_sem high] eqA30
/-! ### wayfarerlaw14_Bytes: function 16 -/
mutual
def wayfarerlaw14_Bytes.l0 : Nat → List Int → List (S30) → Int → Int → Option (List Int)
  | 0, _, _, _, _ => none
  | k + 1, x7, x22, x23, x24 => if x24 < x23 then (if 0 ≤ x24 then (if x24 < (x22.length : Int) then (if x7.length < 140737488355328 then ((some (([(rd_T30 x22 x24).f1, (rd_T30 x22 x24).f2, (rd_T30 x22 x24).f3] : List Int) : List Int)).bind fun y204 => (wayfarerlaw14_Bytes.l1 k (x7 ++ [((rd_T30 x22 x24).f0) % 256]) x22 x23 x24 y204 (y204.length : Int) 0 ((rd_T30 x22 x24).f0) ((rd_T30 x22 x24).f1) ((rd_T30 x22 x24).f2) ((rd_T30 x22 x24).f3) ((rd_T30 x22 x24).f4.f0) ((rd_T30 x22 x24).f4.f1) ((rd_T30 x22 x24).f5))) else (none)) else (none)) else (none)) else (some x7)
def wayfarerlaw14_Bytes.l1 : Nat → List Int → List (S30) → Int → Int → List Int → Int → Int → Int → Int → Int → Int → Int → Int → ByteArray → Option (List Int)
  | 0, _, _, _, _, _, _, _, _, _, _, _, _, _, _ => none
  | k + 1, x7, x22, x23, x24, x40, x41, x42, x201000, x201001, x201002, x201003, x201004, x201005, x201006 => if x42 < x41 then (if 0 ≤ x42 then (if x42 < (x40.length : Int) then ((some (([(wrap64 (Int.tdiv (rd x40 x42) 65536)) % 256, (Int.tmod (wrap64 (Int.tdiv (rd x40 x42) 256)) 256) % 256, (Int.tmod (rd x40 x42) 256) % 256] : List Int) : List Int)).bind fun y208 => (if x7.length + y208.length < 140737488355328 then (wayfarerlaw14_Bytes.l1 k (x7 ++ y208) x22 x23 x24 x40 x41 (wrap64 (x42 + 1)) x201000 x201001 x201002 x201003 x201004 x201005 x201006) else (none))) else (none)) else (none)) else ((some (([(x201004 / 16777216) % 256, (x201004 / 65536) % 256, (x201004 / 256) % 256, (x201004) % 256, (x201005) % 256, ((x201006.size : Int)) % 256] : List Int) : List Int)).bind fun y214 => (if x7.length + y214.length < 140737488355328 then ((some (x7 ++ y214 : List Int)).bind fun y217 => (if y217.length + x201006.size < 140737488355328 then (wayfarerlaw14_Bytes.l0 k (y217 ++ bytesOf x201006) x22 x23 (wrap64 (x24 + 1))) else (none))) else (none)))
end
def wayfarerlaw14_Bytes.f (k : Nat) (a0 : Int) (a1 : Int) (l2 : List (S30)) : Option (List Int) := wayfarerlaw14_Bytes.l0 k (([(a0) % 256, (wrap64 (Int.tdiv a1 256)) % 256, (Int.tmod a1 256) % 256] : List Int)) l2 (l2.length : Int) 0
theorem wayfarerlaw14_Bytes.mono_l : ∀ k, (∀ y0 y1 y2 y3, LeO (wayfarerlaw14_Bytes.l0 k y0 y1 y2 y3) (wayfarerlaw14_Bytes.l0 (k + 1) y0 y1 y2 y3)) ∧ (∀ y0 y1 y2 y3 y4 y5 y6 y7 y8 y9 y10 y11 y12 y13, LeO (wayfarerlaw14_Bytes.l1 k y0 y1 y2 y3 y4 y5 y6 y7 y8 y9 y10 y11 y12 y13) (wayfarerlaw14_Bytes.l1 (k + 1) y0 y1 y2 y3 y4 y5 y6 y7 y8 y9 y10 y11 y12 y13))
  | 0 => ⟨fun _ _ _ _ r h => by simp [wayfarerlaw14_Bytes.l0] at h, fun _ _ _ _ _ _ _ _ _ _ _ _ _ _ r h => by simp [wayfarerlaw14_Bytes.l1] at h⟩
  | k + 1 => by
    obtain ⟨ih0, ih1⟩ := wayfarerlaw14_Bytes.mono_l k
    refine ⟨?_, ?_⟩
    · intro y0 y1 y2 y3
      unfold wayfarerlaw14_Bytes.l0
      repeat' first
      | (with_reducible exact ih0 _ _ _ _)
      | (with_reducible exact ih1 _ _ _ _ _ _ _ _ _ _ _ _ _ _)
      | (with_reducible exact LeO.refl _)
      | (with_reducible exact LeO.none _)
      | (with_reducible refine LeO.ite ?_ ?_)
      | (with_reducible refine LeO.bind ?_ (fun _ => ?_))
      | exact ih0 _ _ _ _
      | exact ih1 _ _ _ _ _ _ _ _ _ _ _ _ _ _
      | exact LeO.none _
      | refine LeO.ite ?_ ?_
      | refine LeO.bind ?_ (fun _ => ?_)
    · intro y0 y1 y2 y3 y4 y5 y6 y7 y8 y9 y10 y11 y12 y13
      unfold wayfarerlaw14_Bytes.l1
      repeat' first
      | (with_reducible exact ih0 _ _ _ _)
      | (with_reducible exact ih1 _ _ _ _ _ _ _ _ _ _ _ _ _ _)
      | (with_reducible exact LeO.refl _)
      | (with_reducible exact LeO.none _)
      | (with_reducible refine LeO.ite ?_ ?_)
      | (with_reducible refine LeO.bind ?_ (fun _ => ?_))
      | exact ih0 _ _ _ _
      | exact ih1 _ _ _ _ _ _ _ _ _ _ _ _ _ _
      | exact LeO.none _
      | refine LeO.ite ?_ ?_
      | refine LeO.bind ?_ (fun _ => ?_)
theorem wayfarerlaw14_Bytes.mono : ∀ a0 a1 a2 k, LeO (wayfarerlaw14_Bytes.f k a0 a1 a2) (wayfarerlaw14_Bytes.f (k + 1) a0 a1 a2) := by
  intro a0 a1 a2 k
  obtain ⟨ih0, ih1⟩ := wayfarerlaw14_Bytes.mono_l k
  unfold wayfarerlaw14_Bytes.f
  repeat' first
      | (with_reducible exact ih0 _ _ _ _)
      | (with_reducible exact ih1 _ _ _ _ _ _ _ _ _ _ _ _ _ _)
      | (with_reducible exact LeO.refl _)
      | (with_reducible exact LeO.none _)
      | (with_reducible refine LeO.ite ?_ ?_)
      | (with_reducible refine LeO.bind ?_ (fun _ => ?_))
      | exact ih0 _ _ _ _
      | exact ih1 _ _ _ _ _ _ _ _ _ _ _ _ _ _
      | exact LeO.none _
      | refine LeO.ite ?_ ?_
      | refine LeO.bind ?_ (fun _ => ?_)
set_option maxHeartbeats 8000000 in
set_option maxRecDepth 100000 in
theorem wayfarerlaw14_Bytes.calls (k : Nat) (a0 : Int) (a1 : Int) (A2 : Option Addr) (c2 : Nat) (l2 : List (S30)) (r : List Int) (w : World) (hr2 : Kd.C k30 w A2 l2.length l2) (hc2 : l2.length ≤ c2) (h : wayfarerlaw14_Bytes.f k a0 a1 l2 = some r) :
    Calls Try.prog 16 #[.int .i64 a0, .int .i64 a1, .slice A2 l2.length c2] w fun e w' => ∃ v0_ : Value, e = .returned (v0_) ∧ Kd.R (Kd.int .u8) 5 w' w.heap.size (fun _ => True) v0_ r ∧ Below w.heap.size w w' := by
  have hu30 := Try.underlying30
  have HR2 := Aside0.mk hr2
  have HC2 := Aside0.mk hc2
  clear hr2 hc2
  have HB := Aside0.mk (Below.refl w.heap.size w)
  have H : (wayfarerlaw14_Bytes.l0 k (([(a0) % 256, (wrap64 (Int.tdiv a1 256)) % 256, (Int.tmod a1 256) % 256] : List Int)) l2 (l2.length : Int) 0) = some r := h
  clear h
  obtain ⟨y196, hy196⟩ : ∃ y_ : List Int, y_ = (([(a0) % 256, (wrap64 (Int.tdiv a1 256)) % 256, (Int.tmod a1 256) % 256] : List Int)) := ⟨_, rfl⟩
  replace H : (wayfarerlaw14_Bytes.l0 k y196 l2 (l2.length : Int) 0) = some r := by first | (rw [hy196]; with_reducible exact H) | (have H2_ := (Option.bind_some _ _).symm.trans H; rw [hy196]; with_reducible exact H2_) | (have H2_ := (Option.bind_some _ _).symm.trans H; with_reducible exact H2_) | with_reducible exact H | (rw [hy196]; exact H) | exact H
  have Ny196 := Aside0.mk hy196
  clear hy196
  have H' := Aside0.mk H
  clear H
  go_enter Try.func16, Try.ntmps16
  go_wp2_with (first | ((with_reducible refine gate_dst (N := 21) rfl ?_); refine Kd.R_lit (Kd.int .u8) _ 5 ?hg (N := 21) ?hd (xs := ([(a0) % 256, (wrap64 (Int.tdiv a1 256)) % 256, (Int.tmod a1 256) % 256] : List Int)) (inner := [.int .u8 ((a0) % 256), .int .u8 ((wrap64 (Int.tdiv a1 256)) % 256), .int .u8 ((Int.tmod a1 256) % 256)]) (ok := fun _ => True) (okp := fun _ => True) ?hr ?hp (fun _ hk => hk) trivial (Below.refl _ _) (Nat.le_refl _) (by simp) ?_; (case hd => rfl); (case hg => rfl); (case hr => first | (go_simp; done) | (go_simp; rfl)); (case hp => exact (Reps.one (show Kd.M (Kd.int .u8) _ _ _ ((a0) % 256) [.int .u8 ((a0) % 256)] from rfl) (Reps.one (show Kd.M (Kd.int .u8) _ _ _ ((wrap64 (Int.tdiv a1 256)) % 256) [.int .u8 ((wrap64 (Int.tdiv a1 256)) % 256)] from rfl) (Reps.one (show Kd.M (Kd.int .u8) _ _ _ ((Int.tmod a1 256) % 256) [.int .u8 ((Int.tmod a1 256) % 256)] from rfl) (Reps.none _ _))))); intro v197 w4 ho5 hb hg_ hnew_; clear hg_ hnew_; (first | rw [← Ny196.out] at ho5 | (simp only [Int.reduceToNat] at ho5; rw [← Ny196.out] at ho5)); have n0_ := Aside0.mk (Kd.R_lower ho5 (below_size (by repeat (first | (with_reducible first | exact HB.out | apply below_alloc | apply pw_below_drewN | apply below_drew1) | exact HB.out)))); have n1_ := Aside0.mk (below_step (by repeat (first | (with_reducible first | exact HB.out | apply below_alloc | apply pw_below_drewN | apply below_drew1) | exact HB.out)) hb); clear HB; have HO198 := n0_; have HB := n1_; clear n0_ n1_; clear hb ho5))
  go_loopg [7, 24] k (fun kq v7 v24 w' => ∃ (x7_1 : List Int) (x24_1 : Int), v24 = .int .i64 x24_1 ∧ Aside0 (wayfarerlaw14_Bytes.l0 kq x7_1 l2 (l2.length : Int) x24_1 = some r) ∧ Aside0 (kq ≤ k) ∧ Aside0 (Kd.R (Kd.int .u8) 5 w' w.heap.size (fun _ => True) v7 x7_1) ∧ Aside0 (Below w.heap.size w w'))
  case atStart => exact ⟨(y196), (0), (by first | rfl | (simp; done) | (simp [*]; done)), H', ⟨Nat.le_refl _⟩, ⟨by (with_reducible repeat (first | apply Kd.R_alloc | apply Kd.R_drewN | apply Kd.R_drew)); exact HO198.out⟩, ⟨by repeat (first | (with_reducible first | exact HB.out | apply below_alloc | apply pw_below_drewN | apply below_drew1) | exact HB.out)⟩⟩
  case round =>
    clear H'
    try clear c1; try clear c2; try clear p2
    obtain ⟨x7_1, x24_1, rfl, HA, HK1, HO_7, HB⟩ := hrel
    cases gk with
    | zero => exact absurd HA.out (by simp [wayfarerlaw14_Bytes.l0])
    | succ k1 =>
      have H := HA.out
      clear HA
      simp only [wayfarerlaw14_Bytes.l0] at H
      by_cases c6 : x24_1 < (l2.length : Int)
      case neg =>
        rw [if_neg c6] at H; have c6b0 : decide (x24_1 < (l2.length : Int)) = false := decide_eq_false c6
        clear c6
        obtain rfl := Option.some.inj H
        go_wp2
        go_ret
        exact ⟨_, by first | rfl | (simp [errW_none, errW_some] <;> rfl) | (simp [*, errW_none, errW_some] <;> rfl), by (with_reducible repeat (first | apply Kd.R_alloc | apply Kd.R_drewN | apply Kd.R_drew)); exact HO_7.out, by repeat (first | (with_reducible first | exact HB.out | apply below_alloc | apply pw_below_drewN | apply below_drew1) | exact HB.out)⟩

      rw [if_pos c6] at H; have c6b0 : decide (x24_1 < (l2.length : Int)) = true := decide_eq_true c6
      clear c6
      by_cases c7 : 0 ≤ x24_1
      case neg =>
        rw [if_neg c7] at H; exact absurd H (by simp)
      rw [if_pos c7] at H; have c7b0 : decide (0 ≤ x24_1) = true := decide_eq_true c7
      clear c7
      by_cases c8 : x24_1 < (l2.length : Int)
      case neg =>
        rw [if_neg c8] at H; exact absurd H (by simp)
      rw [if_pos c8] at H; have c8b0 : decide (x24_1 < (l2.length : Int)) = true := decide_eq_true c8
      clear c8
      by_cases c9 : x7_1.length < 140737488355328
      case neg =>
        rw [if_neg c9] at H; exact absurd H (by simp)
      rw [if_pos c9] at H; have LMc9 := Aside0.mk c9
      clear c9
      obtain ⟨y201, hy201⟩ : ∃ y_ : List Int, y_ = (x7_1 ++ [((rd_T30 l2 x24_1).f0) % 256]) := ⟨_, rfl⟩
      replace H : ((some (([(rd_T30 l2 x24_1).f1, (rd_T30 l2 x24_1).f2, (rd_T30 l2 x24_1).f3] : List Int) : List Int)).bind fun y204 => (wayfarerlaw14_Bytes.l1 k1 y201 l2 (l2.length : Int) x24_1 y204 (y204.length : Int) 0 ((rd_T30 l2 x24_1).f0) ((rd_T30 l2 x24_1).f1) ((rd_T30 l2 x24_1).f2) ((rd_T30 l2 x24_1).f3) ((rd_T30 l2 x24_1).f4.f0) ((rd_T30 l2 x24_1).f4.f1) ((rd_T30 l2 x24_1).f5))) = some r := by first | (rw [hy201]; with_reducible exact H) | (have H2_ := (Option.bind_some _ _).symm.trans H; rw [hy201]; with_reducible exact H2_) | (have H2_ := (Option.bind_some _ _).symm.trans H; with_reducible exact H2_) | with_reducible exact H | (rw [hy201]; exact H) | exact H
      have Ny201 := Aside0.mk hy201
      clear hy201
      obtain ⟨y204, hy204⟩ : ∃ y_ : List Int, y_ = (([(rd_T30 l2 x24_1).f1, (rd_T30 l2 x24_1).f2, (rd_T30 l2 x24_1).f3] : List Int)) := ⟨_, rfl⟩
      replace H : (wayfarerlaw14_Bytes.l1 k1 y201 l2 (l2.length : Int) x24_1 y204 (y204.length : Int) 0 ((rd_T30 l2 x24_1).f0) ((rd_T30 l2 x24_1).f1) ((rd_T30 l2 x24_1).f2) ((rd_T30 l2 x24_1).f3) ((rd_T30 l2 x24_1).f4.f0) ((rd_T30 l2 x24_1).f4.f1) ((rd_T30 l2 x24_1).f5)) = some r := by first | (rw [hy204]; with_reducible exact H) | (have H2_ := (Option.bind_some _ _).symm.trans H; rw [hy204]; with_reducible exact H2_) | (have H2_ := (Option.bind_some _ _).symm.trans H; with_reducible exact H2_) | with_reducible exact H | (rw [hy204]; exact H) | exact H
      have Ny204 := Aside0.mk hy204
      clear hy204
      have H' := Aside0.mk H
      clear H
      have p199 : 0 ≤ (x24_1 : Int) := of_decide_eq_true (by first | (with_reducible assumption) | assumption)
      have q199 : x24_1 < (l2.length : Int) := of_decide_eq_true (by first | (with_reducible assumption) | assumption)
      obtain ⟨ad199, e199, hx199_0, hx199_1, hx199_2, hx199_3, hx199_4, hx199_5, hx199_6⟩ := at_T30 HR2.out x24_1 p199 q199
      cases e199
      replace hx199_0 := (HB.out.cell (World.block_lt_of_cell? w _ hx199_0)).trans hx199_0
      replace hx199_1 := (HB.out.cell (World.block_lt_of_cell? w _ hx199_1)).trans hx199_1
      replace hx199_2 := (HB.out.cell (World.block_lt_of_cell? w _ hx199_2)).trans hx199_2
      replace hx199_3 := (HB.out.cell (World.block_lt_of_cell? w _ hx199_3)).trans hx199_3
      replace hx199_4 := (HB.out.cell (World.block_lt_of_cell? w _ hx199_4)).trans hx199_4
      replace hx199_5 := (HB.out.cell (World.block_lt_of_cell? w _ hx199_5)).trans hx199_5
      replace hx199_6 := (HB.out.cell (World.block_lt_of_cell? w _ hx199_6)).trans hx199_6
      replace p199 := eq_true p199
      replace q199 := eq_true q199
      go_wp2_with (first | ((with_reducible refine gate_dst (N := 9) rfl ?_); refine box_event ?hg (N := 9) ?hd (cs := #[.int .i64 0, .int .i64 0, .int .i64 0, .int .i64 0, .int .u32 0, .int .i64 0, .string (⟨#[]⟩ : ByteArray)]) (t := 30) ?hr ?_; (case hd => rfl); (case hg => rfl); (case hr => first | (go_simp; done) | (go_simp; rfl)); intro gb200 hg w10 hbox hb; have n0_ := Aside0.mk (Kd.R_below (by (with_reducible repeat (first | apply Kd.R_alloc | apply Kd.R_drewN | apply Kd.R_drew)); exact HO_7.out) hb); have n1_ := Aside0.mk (below_step (by repeat (first | (with_reducible first | exact HB.out | apply below_alloc | apply pw_below_drewN | apply below_drew1) | exact HB.out)) hb); have n2_ := Aside0.mk (hbox); have n3_ := Aside0.mk ((by rw [hg]; exact (below_size (by repeat (first | (with_reducible first | exact HB.out | apply below_alloc | apply pw_below_drewN | apply below_drew1) | exact HB.out))) : w.heap.size ≤ gb200)); have n4_ := Aside0.mk ((by rw [hg]; exact (below_size (by repeat (first | (with_reducible first | exact HB.out | apply below_alloc | apply pw_below_drewN | apply below_drew1) | exact HB.out))) : w.heap.size ≤ gb200)); clear HO_7; clear HB; have HO_7 := n0_; have HB := n1_; have BK200 := n2_; have GW200 := n3_; have GE200 := n4_; clear n0_ n1_ n2_ n3_ n4_; clear hb hbox hg; have hcz11_0 : w10.cell? ⟨gb200, 0, none⟩ = some (.int .i64 0) := (blk_cell BK200.out 0).trans rfl; have hcz11_1 : w10.cell? ⟨gb200, 1, none⟩ = some (.int .i64 0) := (blk_cell BK200.out 1).trans rfl; have hcz11_2 : w10.cell? ⟨gb200, 2, none⟩ = some (.int .i64 0) := (blk_cell BK200.out 2).trans rfl; have hcz11_3 : w10.cell? ⟨gb200, 3, none⟩ = some (.int .i64 0) := (blk_cell BK200.out 3).trans rfl; have hcz11_4 : w10.cell? ⟨gb200, 4, none⟩ = some (.int .u32 0) := (blk_cell BK200.out 4).trans rfl; have hcz11_5 : w10.cell? ⟨gb200, 5, none⟩ = some (.int .i64 0) := (blk_cell BK200.out 5).trans rfl; have hcz11_6 : w10.cell? ⟨gb200, 6, none⟩ = some (.string (⟨#[]⟩ : ByteArray)) := (blk_cell BK200.out 6).trans rfl; have hfz11_0 := blk_frozen BK200.out 0; have hfz11_1 := blk_frozen BK200.out 1; have hfz11_2 := blk_frozen BK200.out 2; have hfz11_3 := blk_frozen BK200.out 3; have hfz11_4 := blk_frozen BK200.out 4; have hfz11_5 := blk_frozen BK200.out 5; have hfz11_6 := blk_frozen BK200.out 6) | ((with_reducible refine gate_builtin (b := .append) (xs := #[.tmp 28, .tmp 32]) rfl ?_); at_builtin; refine Kd.R_append (Kd.int .u8) (w0 := w) w.heap.size rfl (.tmp 28) (.tmp 32) 32 5 (.int .u8 0) 1 rfl Try.underlying32 info5 rfl (by decide) (by omega) u7 x7_1 (((rd_T30 l2 x24_1).f0) % 256) [.int .u8 (((rd_T30 l2 x24_1).f0) % 256)] (fun _ => True) (fun _ => False) rfl (by first | (go_simp; done) | (go_simp; rfl)) ?aP (fun _ hk => hk.elim) ?aF ?aO ?aB ?aS ?aL ?_; (case aP => exact rfl); (case aB => exact (by repeat (first | (with_reducible first | exact HB.out | apply below_alloc | apply pw_below_drewN | apply below_drew1 | refine below_set ?_ GE200.out) | exact HB.out))); (case aF => exact (fun _ _ => trivial)); (case aO => exact (by (with_reducible repeat (first | apply Kd.R_alloc | apply Kd.R_drewN | apply Kd.R_drew)); exact Kd.R_mono (Kd.R_far (p := ⟨gb200, 6, none⟩) (Kd.R_far (p := ⟨gb200, 5, none⟩) (Kd.R_far (p := ⟨gb200, 4, none⟩) (Kd.R_far (p := ⟨gb200, 3, none⟩) (Kd.R_far (p := ⟨gb200, 2, none⟩) (Kd.R_far (p := ⟨gb200, 1, none⟩) (Kd.R_far (p := ⟨gb200, 0, none⟩) (Kd.R_types HO_7.out BK200.out (by decide)) (fun _ hk => hk.2) (.int .i64 ((rd_T30 l2 x24_1).f0))) (fun _ hk => hk.2) (.int .i64 ((rd_T30 l2 x24_1).f1))) (fun _ hk => hk.2) (.int .i64 ((rd_T30 l2 x24_1).f2))) (fun _ hk => hk.2) (.int .i64 ((rd_T30 l2 x24_1).f3))) (fun _ hk => hk.2) (.int .u32 ((rd_T30 l2 x24_1).f4.f0))) (fun _ hk => hk.2) (.int .i64 ((rd_T30 l2 x24_1).f4.f1))) (fun _ hk => hk.2) (.string ((rd_T30 l2 x24_1).f5))) (fun _ hk => trivial))); (case aS => exact (below_size (by repeat (first | (with_reducible first | exact HB.out | apply below_alloc | apply pw_below_drewN | apply below_drew1 | refine below_set ?_ GE200.out) | exact HB.out)))); (case aL => have := LMc9.out; omega); intro v202 w12 ho hb hg hat; rw [← Ny201.out] at ho; have n0_ := Aside0.mk (blk_grown (g := gb200) (o := .cells #[.int .i64 ((rd_T30 l2 x24_1).f0), .int .i64 ((rd_T30 l2 x24_1).f1), .int .i64 ((rd_T30 l2 x24_1).f2), .int .i64 ((rd_T30 l2 x24_1).f3), .int .u32 ((rd_T30 l2 x24_1).f4.f0), .int .i64 ((rd_T30 l2 x24_1).f4.f1), .string ((rd_T30 l2 x24_1).f5)] 30 (0, 0)) (by (with_reducible repeat (first | refine blk_drewN ?_ _ | refine blk_drew ?_ | refine blk_alloc ?_ _)); refine blk_put (cs := #[.int .i64 ((rd_T30 l2 x24_1).f0), .int .i64 ((rd_T30 l2 x24_1).f1), .int .i64 ((rd_T30 l2 x24_1).f2), .int .i64 ((rd_T30 l2 x24_1).f3), .int .u32 ((rd_T30 l2 x24_1).f4.f0), .int .i64 ((rd_T30 l2 x24_1).f4.f1), .string (⟨#[]⟩ : ByteArray)]) ?_ 6 _ rfl; (with_reducible repeat (first | refine blk_drewN ?_ _ | refine blk_drew ?_ | refine blk_alloc ?_ _)); refine blk_put (cs := #[.int .i64 ((rd_T30 l2 x24_1).f0), .int .i64 ((rd_T30 l2 x24_1).f1), .int .i64 ((rd_T30 l2 x24_1).f2), .int .i64 ((rd_T30 l2 x24_1).f3), .int .u32 ((rd_T30 l2 x24_1).f4.f0), .int .i64 0, .string (⟨#[]⟩ : ByteArray)]) ?_ 5 _ rfl; (with_reducible repeat (first | refine blk_drewN ?_ _ | refine blk_drew ?_ | refine blk_alloc ?_ _)); refine blk_put (cs := #[.int .i64 ((rd_T30 l2 x24_1).f0), .int .i64 ((rd_T30 l2 x24_1).f1), .int .i64 ((rd_T30 l2 x24_1).f2), .int .i64 ((rd_T30 l2 x24_1).f3), .int .u32 0, .int .i64 0, .string (⟨#[]⟩ : ByteArray)]) ?_ 4 _ rfl; (with_reducible repeat (first | refine blk_drewN ?_ _ | refine blk_drew ?_ | refine blk_alloc ?_ _)); refine blk_put (cs := #[.int .i64 ((rd_T30 l2 x24_1).f0), .int .i64 ((rd_T30 l2 x24_1).f1), .int .i64 ((rd_T30 l2 x24_1).f2), .int .i64 0, .int .u32 0, .int .i64 0, .string (⟨#[]⟩ : ByteArray)]) ?_ 3 _ rfl; (with_reducible repeat (first | refine blk_drewN ?_ _ | refine blk_drew ?_ | refine blk_alloc ?_ _)); refine blk_put (cs := #[.int .i64 ((rd_T30 l2 x24_1).f0), .int .i64 ((rd_T30 l2 x24_1).f1), .int .i64 0, .int .i64 0, .int .u32 0, .int .i64 0, .string (⟨#[]⟩ : ByteArray)]) ?_ 2 _ rfl; (with_reducible repeat (first | refine blk_drewN ?_ _ | refine blk_drew ?_ | refine blk_alloc ?_ _)); refine blk_put (cs := #[.int .i64 ((rd_T30 l2 x24_1).f0), .int .i64 0, .int .i64 0, .int .i64 0, .int .u32 0, .int .i64 0, .string (⟨#[]⟩ : ByteArray)]) ?_ 1 _ rfl; (with_reducible repeat (first | refine blk_drewN ?_ _ | refine blk_drew ?_ | refine blk_alloc ?_ _)); refine blk_put (cs := #[.int .i64 0, .int .i64 0, .int .i64 0, .int .i64 0, .int .u32 0, .int .i64 0, .string (⟨#[]⟩ : ByteArray)]) ?_ 0 _ rfl; (with_reducible repeat (first | refine blk_drewN ?_ _ | refine blk_drew ?_ | refine blk_alloc ?_ _)); exact BK200.out) hg (Kd.R_ne HO_7.out BK200.out (by decide))); have n1_ := Aside0.mk (hb); have n2_ := Aside0.mk (ho); clear BK200; clear HB; clear HO_7; have BK200 := n0_; have HB := n1_; have HO203 := n2_; clear n0_ n1_ n2_; clear ho hb hg hat; have hcz13_0 : w12.cell? ⟨gb200, 0, none⟩ = some (.int .i64 ((rd_T30 l2 x24_1).f0)) := (blk_cell BK200.out 0).trans rfl; have hcz13_1 : w12.cell? ⟨gb200, 1, none⟩ = some (.int .i64 ((rd_T30 l2 x24_1).f1)) := (blk_cell BK200.out 1).trans rfl; have hcz13_2 : w12.cell? ⟨gb200, 2, none⟩ = some (.int .i64 ((rd_T30 l2 x24_1).f2)) := (blk_cell BK200.out 2).trans rfl; have hcz13_3 : w12.cell? ⟨gb200, 3, none⟩ = some (.int .i64 ((rd_T30 l2 x24_1).f3)) := (blk_cell BK200.out 3).trans rfl; have hcz13_4 : w12.cell? ⟨gb200, 4, none⟩ = some (.int .u32 ((rd_T30 l2 x24_1).f4.f0)) := (blk_cell BK200.out 4).trans rfl; have hcz13_5 : w12.cell? ⟨gb200, 5, none⟩ = some (.int .i64 ((rd_T30 l2 x24_1).f4.f1)) := (blk_cell BK200.out 5).trans rfl; have hcz13_6 : w12.cell? ⟨gb200, 6, none⟩ = some (.string ((rd_T30 l2 x24_1).f5)) := (blk_cell BK200.out 6).trans rfl; have hfz13_0 := blk_frozen BK200.out 0; have hfz13_1 := blk_frozen BK200.out 1; have hfz13_2 := blk_frozen BK200.out 2; have hfz13_3 := blk_frozen BK200.out 3; have hfz13_4 := blk_frozen BK200.out 4; have hfz13_5 := blk_frozen BK200.out 5; have hfz13_6 := blk_frozen BK200.out 6) | ((with_reducible refine gate_dst (N := 40) rfl ?_); refine Kd.R_lit (Kd.int .i64) _ 3 ?hg (N := 40) ?hd (xs := ([(rd_T30 l2 x24_1).f1, (rd_T30 l2 x24_1).f2, (rd_T30 l2 x24_1).f3] : List Int)) (inner := [.int .i64 ((rd_T30 l2 x24_1).f1), .int .i64 ((rd_T30 l2 x24_1).f2), .int .i64 ((rd_T30 l2 x24_1).f3)]) (ok := fun _ => True) (okp := fun _ => True) ?hr ?hp (fun _ hk => hk) trivial (Below.refl _ _) (Nat.le_refl _) (by simp) ?_; (case hd => rfl); (case hg => rfl); (case hr => first | (go_simp; done) | (go_simp; rfl)); (case hp => exact (Reps.one (show Kd.M (Kd.int .i64) _ _ _ ((rd_T30 l2 x24_1).f1) [.int .i64 ((rd_T30 l2 x24_1).f1)] from rfl) (Reps.one (show Kd.M (Kd.int .i64) _ _ _ ((rd_T30 l2 x24_1).f2) [.int .i64 ((rd_T30 l2 x24_1).f2)] from rfl) (Reps.one (show Kd.M (Kd.int .i64) _ _ _ ((rd_T30 l2 x24_1).f3) [.int .i64 ((rd_T30 l2 x24_1).f3)] from rfl) (Reps.none _ _))))); intro v205 w14 ho15 hb hg_ hnew_; clear hg_ hnew_; (first | rw [← Ny204.out] at ho15 | (simp only [Int.reduceToNat] at ho15; rw [← Ny204.out] at ho15)); have n0_ := Aside0.mk (Kd.R_below (by (with_reducible repeat (first | apply Kd.R_alloc | apply Kd.R_drewN | apply Kd.R_drew)); exact HO203.out) hb); have n1_ := Aside0.mk (Kd.R_lower ho15 (below_size (by repeat (first | (with_reducible first | exact HB.out | apply below_alloc | apply pw_below_drewN | apply below_drew1 | refine below_set ?_ GE200.out) | exact HB.out)))); have n2_ := Aside0.mk (blk_below (g := gb200) (o := .cells #[.int .i64 ((rd_T30 l2 x24_1).f0), .int .i64 ((rd_T30 l2 x24_1).f1), .int .i64 ((rd_T30 l2 x24_1).f2), .int .i64 ((rd_T30 l2 x24_1).f3), .int .u32 ((rd_T30 l2 x24_1).f4.f0), .int .i64 ((rd_T30 l2 x24_1).f4.f1), .string ((rd_T30 l2 x24_1).f5)] 30 (0, 0)) (by (with_reducible repeat (first | refine blk_drewN ?_ _ | refine blk_drew ?_ | refine blk_alloc ?_ _)); exact BK200.out) hb); have n3_ := Aside0.mk (below_step (by repeat (first | (with_reducible first | exact HB.out | apply below_alloc | apply pw_below_drewN | apply below_drew1 | refine below_set ?_ GE200.out) | exact HB.out)) hb); clear HO203; clear BK200; clear HB; have HO203 := n0_; have HO206 := n1_; have BK200 := n2_; have HB := n3_; clear n0_ n1_ n2_ n3_; clear hb ho15; obtain ⟨Ao16, co16, eo16⟩ := Kd.R_slice HO206.out; subst eo16))
      go_loopg [7, 42] k1 (fun kq v7 v42 w' => ∃ (x7_2 : List Int) (x42_2 : Int), v42 = .int .i64 x42_2 ∧ Aside0 (wayfarerlaw14_Bytes.l1 kq x7_2 l2 (l2.length : Int) x24_1 y204 (y204.length : Int) x42_2 ((rd_T30 l2 x24_1).f0) ((rd_T30 l2 x24_1).f1) ((rd_T30 l2 x24_1).f2) ((rd_T30 l2 x24_1).f3) ((rd_T30 l2 x24_1).f4.f0) ((rd_T30 l2 x24_1).f4.f1) ((rd_T30 l2 x24_1).f5) = some r) ∧ Aside0 (kq ≤ k1) ∧ Aside0 (Kd.R (Kd.int .u8) 5 w' w.heap.size (fun _ => True) v7 x7_2) ∧ Aside0 (Kd.R (Kd.int .i64) 3 w' w.heap.size (fun _ => True) (.slice Ao16 y204.length co16) y204) ∧ Aside0 (w'.heap[gb200]? = some (.cells #[.int .i64 ((rd_T30 l2 x24_1).f0), .int .i64 ((rd_T30 l2 x24_1).f1), .int .i64 ((rd_T30 l2 x24_1).f2), .int .i64 ((rd_T30 l2 x24_1).f3), .int .u32 ((rd_T30 l2 x24_1).f4.f0), .int .i64 ((rd_T30 l2 x24_1).f4.f1), .string ((rd_T30 l2 x24_1).f5)] 30 (0, 0))) ∧ Aside0 (Below w.heap.size w w'))
      case atStart => exact ⟨(y201), (0), (by first | rfl | (simp; done) | (simp [*]; done)), H', ⟨Nat.le_refl _⟩, ⟨by (with_reducible repeat (first | apply Kd.R_alloc | apply Kd.R_drewN | apply Kd.R_drew)); exact HO203.out⟩, ⟨by (with_reducible repeat (first | apply Kd.R_alloc | apply Kd.R_drewN | apply Kd.R_drew)); exact HO206.out⟩, ⟨by (with_reducible repeat (first | refine blk_drewN ?_ _ | refine blk_drew ?_ | refine blk_alloc ?_ _)); exact BK200.out⟩, ⟨by repeat (first | (with_reducible first | exact HB.out | apply below_alloc | apply pw_below_drewN | apply below_drew1 | refine below_set ?_ GE200.out) | exact HB.out)⟩⟩
      case round =>
        clear H'
        try clear c1; try clear p1; try clear q1; try clear hx1; try clear c2; try clear p2; try clear c6; try clear c6b0; try clear p6; try clear c7; try clear c7b0; try clear c8; try clear c8b0; try clear c9; try clear c16; try clear hcz11_0; try clear hcz11_1; try clear hcz11_2; try clear hcz11_3; try clear hcz11_4; try clear hcz11_5; try clear hcz11_6; try clear hcz13_0; try clear hcz13_1
        try clear hcz13_2; try clear hcz13_3; try clear hcz13_4; try clear hcz13_5; try clear hcz13_6; try clear hfz11_0; try clear hfz11_1; try clear hfz11_2; try clear hfz11_3; try clear hfz11_4; try clear hfz11_5; try clear hfz11_6; try clear hfz13_0; try clear hfz13_1; try clear hfz13_2; try clear hfz13_3; try clear hfz13_4; try clear hfz13_5; try clear hfz13_6; try clear hx199_0; try clear hx199_1
        try clear hx199_2; try clear hx199_3; try clear hx199_4; try clear hx199_5; try clear hx199_6; try clear p199; try clear p2; try clear q199
        obtain ⟨x7_2, x42_2, rfl, HA, HK2, HO_7, HO_40, BK200, HB⟩ := hrel
        cases gk with
        | zero => exact absurd HA.out (by simp [wayfarerlaw14_Bytes.l1])
        | succ k2 =>
          have H := HA.out
          clear HA
          simp only [wayfarerlaw14_Bytes.l1] at H
          by_cases c17 : x42_2 < (y204.length : Int)
          case pos =>
            rw [if_pos c17] at H; have c17b0 : decide (x42_2 < (y204.length : Int)) = true := decide_eq_true c17
            clear c17
            by_cases c18 : 0 ≤ x42_2
            case neg =>
              rw [if_neg c18] at H; exact absurd H (by simp)
            rw [if_pos c18] at H; have c18b0 : decide (0 ≤ x42_2) = true := decide_eq_true c18
            clear c18
            by_cases c19 : x42_2 < (y204.length : Int)
            case neg =>
              rw [if_neg c19] at H; exact absurd H (by simp)
            rw [if_pos c19] at H; have c19b0 : decide (x42_2 < (y204.length : Int)) = true := decide_eq_true c19
            clear c19
            obtain ⟨y208, hy208⟩ : ∃ y_ : List Int, y_ = (([(wrap64 (Int.tdiv (rd y204 x42_2) 65536)) % 256, (Int.tmod (wrap64 (Int.tdiv (rd y204 x42_2) 256)) 256) % 256, (Int.tmod (rd y204 x42_2) 256) % 256] : List Int)) := ⟨_, rfl⟩
            replace H : (if x7_2.length + y208.length < 140737488355328 then (wayfarerlaw14_Bytes.l1 k2 (x7_2 ++ y208) l2 (l2.length : Int) x24_1 y204 (y204.length : Int) (wrap64 (x42_2 + 1)) ((rd_T30 l2 x24_1).f0) ((rd_T30 l2 x24_1).f1) ((rd_T30 l2 x24_1).f2) ((rd_T30 l2 x24_1).f3) ((rd_T30 l2 x24_1).f4.f0) ((rd_T30 l2 x24_1).f4.f1) ((rd_T30 l2 x24_1).f5)) else (none)) = some r := by first | (rw [hy208]; with_reducible exact H) | (have H2_ := (Option.bind_some _ _).symm.trans H; rw [hy208]; with_reducible exact H2_) | (have H2_ := (Option.bind_some _ _).symm.trans H; with_reducible exact H2_) | with_reducible exact H | (rw [hy208]; exact H) | exact H
            have Ny208 := Aside0.mk hy208
            clear hy208
            by_cases c20 : x7_2.length + y208.length < 140737488355328
            case neg =>
              rw [if_neg c20] at H; exact absurd H (by simp)
            rw [if_pos c20] at H; have LMc20 := Aside0.mk c20
            clear c20
            obtain ⟨y211, hy211⟩ : ∃ y_ : List Int, y_ = (x7_2 ++ y208) := ⟨_, rfl⟩
            replace H : (wayfarerlaw14_Bytes.l1 k2 y211 l2 (l2.length : Int) x24_1 y204 (y204.length : Int) (wrap64 (x42_2 + 1)) ((rd_T30 l2 x24_1).f0) ((rd_T30 l2 x24_1).f1) ((rd_T30 l2 x24_1).f2) ((rd_T30 l2 x24_1).f3) ((rd_T30 l2 x24_1).f4.f0) ((rd_T30 l2 x24_1).f4.f1) ((rd_T30 l2 x24_1).f5)) = some r := by first | (rw [hy211]; with_reducible exact H) | (have H2_ := (Option.bind_some _ _).symm.trans H; rw [hy211]; with_reducible exact H2_) | (have H2_ := (Option.bind_some _ _).symm.trans H; with_reducible exact H2_) | with_reducible exact H | (rw [hy211]; exact H) | exact H
            have Ny211 := Aside0.mk hy211
            clear hy211
            have H' := Aside0.mk H
            clear H
            have p207 : 0 ≤ (x42_2 : Int) := of_decide_eq_true (by first | (with_reducible assumption) | assumption)
            have q207 : x42_2 < (y204.length : Int) := of_decide_eq_true (by first | (with_reducible assumption) | assumption)
            obtain ⟨ad207, e207, hx207_0⟩ := Kd.at_int (Kd.R_reads' HO_40.out).2.2 x42_2 p207 q207
            cases e207
            replace p207 := eq_true p207
            replace q207 := eq_true q207
            go_wp2_with (first | ((with_reducible refine gate_dst (N := 57) rfl ?_); refine Kd.R_lit (Kd.int .u8) _ 5 ?hg (N := 57) ?hd (xs := ([(wrap64 (Int.tdiv (rd y204 x42_2) 65536)) % 256, (Int.tmod (wrap64 (Int.tdiv (rd y204 x42_2) 256)) 256) % 256, (Int.tmod (rd y204 x42_2) 256) % 256] : List Int)) (inner := [.int .u8 ((wrap64 (Int.tdiv (rd y204 x42_2) 65536)) % 256), .int .u8 ((Int.tmod (wrap64 (Int.tdiv (rd y204 x42_2) 256)) 256) % 256), .int .u8 ((Int.tmod (rd y204 x42_2) 256) % 256)]) (ok := fun _ => True) (okp := fun _ => True) ?hr ?hp (fun _ hk => hk) trivial (Below.refl _ _) (Nat.le_refl _) (by simp) ?_; (case hd => rfl); (case hg => rfl); (case hr => first | (go_simp; done) | (go_simp; rfl)); (case hp => exact (Reps.one (show Kd.M (Kd.int .u8) _ _ _ ((wrap64 (Int.tdiv (rd y204 x42_2) 65536)) % 256) [.int .u8 ((wrap64 (Int.tdiv (rd y204 x42_2) 65536)) % 256)] from rfl) (Reps.one (show Kd.M (Kd.int .u8) _ _ _ ((Int.tmod (wrap64 (Int.tdiv (rd y204 x42_2) 256)) 256) % 256) [.int .u8 ((Int.tmod (wrap64 (Int.tdiv (rd y204 x42_2) 256)) 256) % 256)] from rfl) (Reps.one (show Kd.M (Kd.int .u8) _ _ _ ((Int.tmod (rd y204 x42_2) 256) % 256) [.int .u8 ((Int.tmod (rd y204 x42_2) 256) % 256)] from rfl) (Reps.none _ _))))); intro v209 w21 ho22 hb hg_ hnew_; clear hg_ hnew_; (first | rw [← Ny208.out] at ho22 | (simp only [Int.reduceToNat] at ho22; rw [← Ny208.out] at ho22)); have n0_ := Aside0.mk (Kd.R_elder' (by (with_reducible repeat (first | apply Kd.R_alloc | apply Kd.R_drewN | apply Kd.R_drew)); exact HO_7.out) (Kd.R_base ho22) hb); have n1_ := Aside0.mk (Kd.R_below (by (with_reducible repeat (first | apply Kd.R_alloc | apply Kd.R_drewN | apply Kd.R_drew)); exact HO_40.out) hb); have n2_ := Aside0.mk (Kd.R_lower (Kd.R_new' ho22 (Kd.R_lt (by (with_reducible repeat (first | apply Kd.R_alloc | apply Kd.R_drewN | apply Kd.R_drew)); exact HO_7.out))) (below_size (by repeat (first | (with_reducible first | exact HB.out | apply below_alloc | apply pw_below_drewN | apply below_drew1 | refine below_set ?_ GE200.out) | exact HB.out)))); have n3_ := Aside0.mk (blk_below (g := gb200) (o := .cells #[.int .i64 ((rd_T30 l2 x24_1).f0), .int .i64 ((rd_T30 l2 x24_1).f1), .int .i64 ((rd_T30 l2 x24_1).f2), .int .i64 ((rd_T30 l2 x24_1).f3), .int .u32 ((rd_T30 l2 x24_1).f4.f0), .int .i64 ((rd_T30 l2 x24_1).f4.f1), .string ((rd_T30 l2 x24_1).f5)] 30 (0, 0)) (by (with_reducible repeat (first | refine blk_drewN ?_ _ | refine blk_drew ?_ | refine blk_alloc ?_ _)); exact BK200.out) hb); have n4_ := Aside0.mk (below_step (by repeat (first | (with_reducible first | exact HB.out | apply below_alloc | apply pw_below_drewN | apply below_drew1 | refine below_set ?_ GE200.out) | exact HB.out)) hb); clear HO_7; clear HO_40; clear BK200; clear HB; have HO_7 := n0_; have HO_40 := n1_; have HO210 := n2_; have BK200 := n3_; have HB := n4_; clear n0_ n1_ n2_ n3_ n4_; clear hb ho22; obtain ⟨Ao24, co24, eo24⟩ := Kd.R_slice HO210.out; subst eo24) | ((with_reducible refine gate_builtin (b := .append) (xs := #[.tmp 46, .tmp 57]) rfl ?_); at_builtin; refine Kd.R_append_rows (Kd.int .u8) (w0 := w) w.heap.size rfl (.tmp 46) (.tmp 57) 32 5 (.int .u8 0) 1 rfl Try.underlying32 info5 rfl (by decide) (by omega) u7 x7_2 y208 _ _ _ (fun k_ => some k_ ≠ (.slice Ao24 y208.length co24 : Value).ownBlock) (fun _ => False) rfl rfl ?aO ?aR (fun _ _ h => h) (fun _ h => h.elim) ?aF ?aB ?aS ?aL ?_; (case aR => repeat (first | exact (Kd.R_reads' HO210.out).2.2 | (with_reducible refine Kd.C_alloc ?_ _) | (with_reducible refine Kd.C_drewN ?_ _) | (with_reducible refine Kd.C_drew ?_))); (case aB => exact (by repeat (first | (with_reducible first | exact HB.out | apply below_alloc | apply pw_below_drewN | apply below_drew1 | refine below_set ?_ GE200.out) | exact HB.out))); (case aF => exact (fun k_ hk => Kd.fresh' (Kd.R_lt (by (with_reducible repeat (first | apply Kd.R_alloc | apply Kd.R_drewN | apply Kd.R_drew)); exact HO210.out)) k_ hk)); (case aO => exact (by (with_reducible repeat (first | apply Kd.R_alloc | apply Kd.R_drewN | apply Kd.R_drew)); exact Kd.R_mono HO_7.out (fun _ hk => hk.2))); (case aS => exact (below_size (by repeat (first | (with_reducible first | exact HB.out | apply below_alloc | apply pw_below_drewN | apply below_drew1 | refine below_set ?_ GE200.out) | exact HB.out)))); (case aL => have := LMc20.out; omega); intro v212 w23 ho hb hg hat; rw [← Ny211.out] at ho; have n0_ := Aside0.mk (Kd.R_over' (by (with_reducible repeat (first | apply Kd.R_alloc | apply Kd.R_drewN | apply Kd.R_drew)); exact HO_40.out) (Kd.R_typed (by (with_reducible repeat (first | apply Kd.R_alloc | apply Kd.R_drewN | apply Kd.R_drew)); exact HO_7.out)) (by decide) hg); have n1_ := Aside0.mk (blk_grown (g := gb200) (o := .cells #[.int .i64 ((rd_T30 l2 x24_1).f0), .int .i64 ((rd_T30 l2 x24_1).f1), .int .i64 ((rd_T30 l2 x24_1).f2), .int .i64 ((rd_T30 l2 x24_1).f3), .int .u32 ((rd_T30 l2 x24_1).f4.f0), .int .i64 ((rd_T30 l2 x24_1).f4.f1), .string ((rd_T30 l2 x24_1).f5)] 30 (0, 0)) (by (with_reducible repeat (first | refine blk_drewN ?_ _ | refine blk_drew ?_ | refine blk_alloc ?_ _)); exact BK200.out) hg (Kd.R_ne HO_7.out BK200.out (by decide))); have n2_ := Aside0.mk (Kd.R_after (ok := (fun _ => True)) (by (with_reducible repeat (first | apply Kd.R_alloc | apply Kd.R_drewN | apply Kd.R_drew)); exact HO210.out) hg hat); have n3_ := Aside0.mk (hb); have n4_ := Aside0.mk (ho); clear HO_40; clear BK200; clear HO210; clear HB; clear HO_7; have HO_40 := n0_; have BK200 := n1_; have HO210 := n2_; have HB := n3_; have HO213 := n4_; clear n0_ n1_ n2_ n3_ n4_; clear ho hb hg hat))
            go_roundg k2
            case measure => have := HK1.out; have := HK2.out; omega
            case rel => exact ⟨(y211), (wrap64 (x42_2 + 1)), (by first | rfl | (simp; done) | (simp [*]; done)), H', ⟨by have := HK1.out; have := HK2.out; omega⟩, ⟨by (with_reducible repeat (first | apply Kd.R_alloc | apply Kd.R_drewN | apply Kd.R_drew)); exact Kd.R_mono HO213.out (fun _ hk => trivial)⟩, ⟨by (with_reducible repeat (first | apply Kd.R_alloc | apply Kd.R_drewN | apply Kd.R_drew)); exact HO_40.out⟩, ⟨by (with_reducible repeat (first | refine blk_drewN ?_ _ | refine blk_drew ?_ | refine blk_alloc ?_ _)); exact BK200.out⟩, ⟨by repeat (first | (with_reducible first | exact HB.out | apply below_alloc | apply pw_below_drewN | apply below_drew1 | refine below_set ?_ GE200.out) | exact HB.out)⟩⟩
          rw [if_neg c17] at H; have c17b0 : decide (x42_2 < (y204.length : Int)) = false := decide_eq_false c17
          clear c17
          obtain ⟨y214, hy214⟩ : ∃ y_ : List Int, y_ = (([(((rd_T30 l2 x24_1).f4.f0) / 16777216) % 256, (((rd_T30 l2 x24_1).f4.f0) / 65536) % 256, (((rd_T30 l2 x24_1).f4.f0) / 256) % 256, (((rd_T30 l2 x24_1).f4.f0)) % 256, (((rd_T30 l2 x24_1).f4.f1)) % 256, ((((rd_T30 l2 x24_1).f5).size : Int)) % 256] : List Int)) := ⟨_, rfl⟩
          replace H : (if x7_2.length + y214.length < 140737488355328 then ((some (x7_2 ++ y214 : List Int)).bind fun y217 => (if y217.length + ((rd_T30 l2 x24_1).f5).size < 140737488355328 then (wayfarerlaw14_Bytes.l0 k2 (y217 ++ bytesOf ((rd_T30 l2 x24_1).f5)) l2 (l2.length : Int) (wrap64 (x24_1 + 1))) else (none))) else (none)) = some r := by first | (rw [hy214]; with_reducible exact H) | (have H2_ := (Option.bind_some _ _).symm.trans H; rw [hy214]; with_reducible exact H2_) | (have H2_ := (Option.bind_some _ _).symm.trans H; with_reducible exact H2_) | with_reducible exact H | (rw [hy214]; exact H) | exact H
          have Ny214 := Aside0.mk hy214
          clear hy214
          by_cases c25 : x7_2.length + y214.length < 140737488355328
          case neg =>
            rw [if_neg c25] at H; exact absurd H (by simp)
          rw [if_pos c25] at H; have LMc25 := Aside0.mk c25
          clear c25
          obtain ⟨y217, hy217⟩ : ∃ y_ : List Int, y_ = (x7_2 ++ y214) := ⟨_, rfl⟩
          replace H : (if y217.length + ((rd_T30 l2 x24_1).f5).size < 140737488355328 then (wayfarerlaw14_Bytes.l0 k2 (y217 ++ bytesOf ((rd_T30 l2 x24_1).f5)) l2 (l2.length : Int) (wrap64 (x24_1 + 1))) else (none)) = some r := by first | (rw [hy217]; with_reducible exact H) | (have H2_ := (Option.bind_some _ _).symm.trans H; rw [hy217]; with_reducible exact H2_) | (have H2_ := (Option.bind_some _ _).symm.trans H; with_reducible exact H2_) | with_reducible exact H | (rw [hy217]; exact H) | exact H
          have Ny217 := Aside0.mk hy217
          clear hy217
          by_cases c26 : y217.length + ((rd_T30 l2 x24_1).f5).size < 140737488355328
          case neg =>
            rw [if_neg c26] at H; exact absurd H (by simp)
          rw [if_pos c26] at H; have LMc26 := Aside0.mk c26
          clear c26
          obtain ⟨y220, hy220⟩ : ∃ y_ : List Int, y_ = (y217 ++ bytesOf ((rd_T30 l2 x24_1).f5)) := ⟨_, rfl⟩
          replace H : (wayfarerlaw14_Bytes.l0 k2 y220 l2 (l2.length : Int) (wrap64 (x24_1 + 1))) = some r := by first | (rw [hy220]; with_reducible exact H) | (have H2_ := (Option.bind_some _ _).symm.trans H; rw [hy220]; with_reducible exact H2_) | (have H2_ := (Option.bind_some _ _).symm.trans H; with_reducible exact H2_) | with_reducible exact H | (rw [hy220]; exact H) | exact H
          have Ny220 := Aside0.mk hy220
          clear hy220
          have H' := Aside0.mk H
          clear H
          have hcz27_0 : wr.cell? ⟨gb200, 0, none⟩ = some (.int .i64 ((rd_T30 l2 x24_1).f0)) := (blk_cell BK200.out 0).trans rfl
          have hcz27_1 : wr.cell? ⟨gb200, 1, none⟩ = some (.int .i64 ((rd_T30 l2 x24_1).f1)) := (blk_cell BK200.out 1).trans rfl
          have hcz27_2 : wr.cell? ⟨gb200, 2, none⟩ = some (.int .i64 ((rd_T30 l2 x24_1).f2)) := (blk_cell BK200.out 2).trans rfl
          have hcz27_3 : wr.cell? ⟨gb200, 3, none⟩ = some (.int .i64 ((rd_T30 l2 x24_1).f3)) := (blk_cell BK200.out 3).trans rfl
          have hcz27_4 : wr.cell? ⟨gb200, 4, none⟩ = some (.int .u32 ((rd_T30 l2 x24_1).f4.f0)) := (blk_cell BK200.out 4).trans rfl
          have hcz27_5 : wr.cell? ⟨gb200, 5, none⟩ = some (.int .i64 ((rd_T30 l2 x24_1).f4.f1)) := (blk_cell BK200.out 5).trans rfl
          have hcz27_6 : wr.cell? ⟨gb200, 6, none⟩ = some (.string ((rd_T30 l2 x24_1).f5)) := (blk_cell BK200.out 6).trans rfl
          have hfz27_0 := blk_frozen BK200.out 0
          have hfz27_1 := blk_frozen BK200.out 1
          have hfz27_2 := blk_frozen BK200.out 2
          have hfz27_3 := blk_frozen BK200.out 3
          have hfz27_4 := blk_frozen BK200.out 4
          have hfz27_5 := blk_frozen BK200.out 5
          have hfz27_6 := blk_frozen BK200.out 6
          go_wp2_with (first | ((with_reducible refine gate_dst (N := 83) rfl ?_); refine Kd.R_lit (Kd.int .u8) _ 5 ?hg (N := 83) ?hd (xs := ([(((rd_T30 l2 x24_1).f4.f0) / 16777216) % 256, (((rd_T30 l2 x24_1).f4.f0) / 65536) % 256, (((rd_T30 l2 x24_1).f4.f0) / 256) % 256, (((rd_T30 l2 x24_1).f4.f0)) % 256, (((rd_T30 l2 x24_1).f4.f1)) % 256, ((((rd_T30 l2 x24_1).f5).size : Int)) % 256] : List Int)) (inner := [.int .u8 ((((rd_T30 l2 x24_1).f4.f0) / 16777216) % 256), .int .u8 ((((rd_T30 l2 x24_1).f4.f0) / 65536) % 256), .int .u8 ((((rd_T30 l2 x24_1).f4.f0) / 256) % 256), .int .u8 ((((rd_T30 l2 x24_1).f4.f0)) % 256), .int .u8 ((((rd_T30 l2 x24_1).f4.f1)) % 256), .int .u8 (((((rd_T30 l2 x24_1).f5).size : Int)) % 256)]) (ok := fun _ => True) (okp := fun _ => True) ?hr ?hp (fun _ hk => hk) trivial (Below.refl _ _) (Nat.le_refl _) (by simp) ?_; (case hd => rfl); (case hg => rfl); (case hr => first | (go_simp; done) | (go_simp; rfl)); (case hp => exact (Reps.one (show Kd.M (Kd.int .u8) _ _ _ ((((rd_T30 l2 x24_1).f4.f0) / 16777216) % 256) [.int .u8 ((((rd_T30 l2 x24_1).f4.f0) / 16777216) % 256)] from rfl) (Reps.one (show Kd.M (Kd.int .u8) _ _ _ ((((rd_T30 l2 x24_1).f4.f0) / 65536) % 256) [.int .u8 ((((rd_T30 l2 x24_1).f4.f0) / 65536) % 256)] from rfl) (Reps.one (show Kd.M (Kd.int .u8) _ _ _ ((((rd_T30 l2 x24_1).f4.f0) / 256) % 256) [.int .u8 ((((rd_T30 l2 x24_1).f4.f0) / 256) % 256)] from rfl) (Reps.one (show Kd.M (Kd.int .u8) _ _ _ ((((rd_T30 l2 x24_1).f4.f0)) % 256) [.int .u8 ((((rd_T30 l2 x24_1).f4.f0)) % 256)] from rfl) (Reps.one (show Kd.M (Kd.int .u8) _ _ _ ((((rd_T30 l2 x24_1).f4.f1)) % 256) [.int .u8 ((((rd_T30 l2 x24_1).f4.f1)) % 256)] from rfl) (Reps.one (show Kd.M (Kd.int .u8) _ _ _ (((((rd_T30 l2 x24_1).f5).size : Int)) % 256) [.int .u8 (((((rd_T30 l2 x24_1).f5).size : Int)) % 256)] from rfl) (Reps.none _ _)))))))); intro v215 w28 ho29 hb hg_ hnew_; clear hg_ hnew_; (first | rw [← Ny214.out] at ho29 | (simp only [Int.reduceToNat] at ho29; rw [← Ny214.out] at ho29)); have n0_ := Aside0.mk (Kd.R_elder' (by (with_reducible repeat (first | apply Kd.R_alloc | apply Kd.R_drewN | apply Kd.R_drew)); exact HO_7.out) (Kd.R_base ho29) hb); have n1_ := Aside0.mk (Kd.R_below (by (with_reducible repeat (first | apply Kd.R_alloc | apply Kd.R_drewN | apply Kd.R_drew)); exact HO_40.out) hb); have n2_ := Aside0.mk (Kd.R_lower (Kd.R_new' ho29 (Kd.R_lt (by (with_reducible repeat (first | apply Kd.R_alloc | apply Kd.R_drewN | apply Kd.R_drew)); exact HO_7.out))) (below_size (by repeat (first | (with_reducible first | exact HB.out | apply below_alloc | apply pw_below_drewN | apply below_drew1 | refine below_set ?_ GE200.out) | exact HB.out)))); have n3_ := Aside0.mk (blk_below (g := gb200) (o := .cells #[.int .i64 ((rd_T30 l2 x24_1).f0), .int .i64 ((rd_T30 l2 x24_1).f1), .int .i64 ((rd_T30 l2 x24_1).f2), .int .i64 ((rd_T30 l2 x24_1).f3), .int .u32 ((rd_T30 l2 x24_1).f4.f0), .int .i64 ((rd_T30 l2 x24_1).f4.f1), .string ((rd_T30 l2 x24_1).f5)] 30 (0, 0)) (by (with_reducible repeat (first | refine blk_drewN ?_ _ | refine blk_drew ?_ | refine blk_alloc ?_ _)); exact BK200.out) hb); have n4_ := Aside0.mk (below_step (by repeat (first | (with_reducible first | exact HB.out | apply below_alloc | apply pw_below_drewN | apply below_drew1 | refine below_set ?_ GE200.out) | exact HB.out)) hb); clear HO_7; clear HO_40; clear BK200; clear HB; have HO_7 := n0_; have HO_40 := n1_; have HO216 := n2_; have BK200 := n3_; have HB := n4_; clear n0_ n1_ n2_ n3_ n4_; clear hb ho29; obtain ⟨Ao31, co31, eo31⟩ := Kd.R_slice HO216.out; subst eo31) | ((with_reducible refine gate_builtin (b := .append) (xs := #[.tmp 63, .tmp 83]) rfl ?_); at_builtin; refine Kd.R_append_rows (Kd.int .u8) (w0 := w) w.heap.size rfl (.tmp 63) (.tmp 83) 32 5 (.int .u8 0) 1 rfl Try.underlying32 info5 rfl (by decide) (by omega) u7 x7_2 y214 _ _ _ (fun k_ => some k_ ≠ (.slice Ao31 y214.length co31 : Value).ownBlock) (fun _ => False) rfl rfl ?aO ?aR (fun _ _ h => h) (fun _ h => h.elim) ?aF ?aB ?aS ?aL ?_; (case aR => repeat (first | exact (Kd.R_reads' HO216.out).2.2 | (with_reducible refine Kd.C_alloc ?_ _) | (with_reducible refine Kd.C_drewN ?_ _) | (with_reducible refine Kd.C_drew ?_))); (case aB => exact (by repeat (first | (with_reducible first | exact HB.out | apply below_alloc | apply pw_below_drewN | apply below_drew1 | refine below_set ?_ GE200.out) | exact HB.out))); (case aF => exact (fun k_ hk => Kd.fresh' (Kd.R_lt (by (with_reducible repeat (first | apply Kd.R_alloc | apply Kd.R_drewN | apply Kd.R_drew)); exact HO216.out)) k_ hk)); (case aO => exact (by (with_reducible repeat (first | apply Kd.R_alloc | apply Kd.R_drewN | apply Kd.R_drew)); exact Kd.R_mono HO_7.out (fun _ hk => hk.2))); (case aS => exact (below_size (by repeat (first | (with_reducible first | exact HB.out | apply below_alloc | apply pw_below_drewN | apply below_drew1 | refine below_set ?_ GE200.out) | exact HB.out)))); (case aL => have := LMc25.out; omega); intro v218 w30 ho hb hg hat; rw [← Ny217.out] at ho; have n0_ := Aside0.mk (Kd.R_over' (by (with_reducible repeat (first | apply Kd.R_alloc | apply Kd.R_drewN | apply Kd.R_drew)); exact HO_40.out) (Kd.R_typed (by (with_reducible repeat (first | apply Kd.R_alloc | apply Kd.R_drewN | apply Kd.R_drew)); exact HO_7.out)) (by decide) hg); have n1_ := Aside0.mk (blk_grown (g := gb200) (o := .cells #[.int .i64 ((rd_T30 l2 x24_1).f0), .int .i64 ((rd_T30 l2 x24_1).f1), .int .i64 ((rd_T30 l2 x24_1).f2), .int .i64 ((rd_T30 l2 x24_1).f3), .int .u32 ((rd_T30 l2 x24_1).f4.f0), .int .i64 ((rd_T30 l2 x24_1).f4.f1), .string ((rd_T30 l2 x24_1).f5)] 30 (0, 0)) (by (with_reducible repeat (first | refine blk_drewN ?_ _ | refine blk_drew ?_ | refine blk_alloc ?_ _)); exact BK200.out) hg (Kd.R_ne HO_7.out BK200.out (by decide))); have n2_ := Aside0.mk (Kd.R_after (ok := (fun _ => True)) (by (with_reducible repeat (first | apply Kd.R_alloc | apply Kd.R_drewN | apply Kd.R_drew)); exact HO216.out) hg hat); have n3_ := Aside0.mk (hb); have n4_ := Aside0.mk (ho); clear HO_40; clear BK200; clear HO216; clear HB; clear HO_7; have HO_40 := n0_; have BK200 := n1_; have HO216 := n2_; have HB := n3_; have HO219 := n4_; clear n0_ n1_ n2_ n3_ n4_; clear ho hb hg hat; have hcz32_0 : w30.cell? ⟨gb200, 0, none⟩ = some (.int .i64 ((rd_T30 l2 x24_1).f0)) := (blk_cell BK200.out 0).trans rfl; have hcz32_1 : w30.cell? ⟨gb200, 1, none⟩ = some (.int .i64 ((rd_T30 l2 x24_1).f1)) := (blk_cell BK200.out 1).trans rfl; have hcz32_2 : w30.cell? ⟨gb200, 2, none⟩ = some (.int .i64 ((rd_T30 l2 x24_1).f2)) := (blk_cell BK200.out 2).trans rfl; have hcz32_3 : w30.cell? ⟨gb200, 3, none⟩ = some (.int .i64 ((rd_T30 l2 x24_1).f3)) := (blk_cell BK200.out 3).trans rfl; have hcz32_4 : w30.cell? ⟨gb200, 4, none⟩ = some (.int .u32 ((rd_T30 l2 x24_1).f4.f0)) := (blk_cell BK200.out 4).trans rfl; have hcz32_5 : w30.cell? ⟨gb200, 5, none⟩ = some (.int .i64 ((rd_T30 l2 x24_1).f4.f1)) := (blk_cell BK200.out 5).trans rfl; have hcz32_6 : w30.cell? ⟨gb200, 6, none⟩ = some (.string ((rd_T30 l2 x24_1).f5)) := (blk_cell BK200.out 6).trans rfl; have hfz32_0 := blk_frozen BK200.out 0; have hfz32_1 := blk_frozen BK200.out 1; have hfz32_2 := blk_frozen BK200.out 2; have hfz32_3 := blk_frozen BK200.out 3; have hfz32_4 := blk_frozen BK200.out 4; have hfz32_5 := blk_frozen BK200.out 5; have hfz32_6 := blk_frozen BK200.out 6) | (at_builtin; refine Go.Proofs.Ytjdapfimjpbnmaa.R_append_str (w0 := w) w.heap.size rfl (.tmp 85) _ 32 9 5 rfl Try.underlying32 Try.underlying9 info5 v218 y217 ((rd_T30 l2 x24_1).f5) (fun k_ => some k_ ≠ (.slice Ao31 y214.length co31 : Value).ownBlock) rfl rfl ?aO ?aF ?aB ?aS ?aL ?_; (case aB => exact (by repeat (first | (with_reducible first | exact HB.out | apply below_alloc | apply pw_below_drewN | apply below_drew1 | refine below_set ?_ GE200.out) | exact HB.out))); (case aF => exact (fun k_ hk => Kd.fresh' (Kd.R_lt (by (with_reducible repeat (first | apply Kd.R_alloc | apply Kd.R_drewN | apply Kd.R_drew)); exact HO216.out)) k_ hk)); (case aO => exact (by (with_reducible repeat (first | apply Kd.R_alloc | apply Kd.R_drewN | apply Kd.R_drew)); exact HO219.out)); (case aS => exact (below_size (by repeat (first | (with_reducible first | exact HB.out | apply below_alloc | apply pw_below_drewN | apply below_drew1 | refine below_set ?_ GE200.out) | exact HB.out)))); (case aL => have := LMc26.out; omega); intro v221 w33 ho hb hg hat; rw [← Ny220.out] at ho; change Kd.R (Kd.int .u8) 5 w33 w.heap.size (fun k_ => some k_ ≠ (.slice Ao31 y214.length co31 : Value).ownBlock) v221 y220 at ho; have n0_ := Aside0.mk (Kd.R_over' (by (with_reducible repeat (first | apply Kd.R_alloc | apply Kd.R_drewN | apply Kd.R_drew)); exact HO_40.out) (Kd.R_typed (by (with_reducible repeat (first | apply Kd.R_alloc | apply Kd.R_drewN | apply Kd.R_drew)); exact HO219.out)) (by decide) hg); have n1_ := Aside0.mk (blk_grown (g := gb200) (o := .cells #[.int .i64 ((rd_T30 l2 x24_1).f0), .int .i64 ((rd_T30 l2 x24_1).f1), .int .i64 ((rd_T30 l2 x24_1).f2), .int .i64 ((rd_T30 l2 x24_1).f3), .int .u32 ((rd_T30 l2 x24_1).f4.f0), .int .i64 ((rd_T30 l2 x24_1).f4.f1), .string ((rd_T30 l2 x24_1).f5)] 30 (0, 0)) (by (with_reducible repeat (first | refine blk_drewN ?_ _ | refine blk_drew ?_ | refine blk_alloc ?_ _)); exact BK200.out) hg (Kd.R_ne HO219.out BK200.out (by decide))); have n2_ := Aside0.mk (Kd.R_after (ok := (fun _ => True)) (by (with_reducible repeat (first | apply Kd.R_alloc | apply Kd.R_drewN | apply Kd.R_drew)); exact HO216.out) hg hat); have n3_ := Aside0.mk (hb); have n4_ := Aside0.mk (ho); clear HO_40; clear BK200; clear HO216; clear HB; clear HO219; have HO_40 := n0_; have BK200 := n1_; have HO216 := n2_; have HB := n3_; have HO222 := n4_; clear n0_ n1_ n2_ n3_ n4_; clear ho hb hg hat))
          go_roundg k2
          case measure => have := HK1.out; have := HK2.out; omega
          case rel => exact ⟨(y220), (wrap64 (x24_1 + 1)), (by first | rfl | (simp; done) | (simp [*]; done)), H', ⟨by have := HK1.out; have := HK2.out; omega⟩, ⟨by (with_reducible repeat (first | apply Kd.R_alloc | apply Kd.R_drewN | apply Kd.R_drew)); exact Kd.R_mono HO222.out (fun _ hk => trivial)⟩, ⟨by repeat (first | (with_reducible first | exact HB.out | apply below_alloc | apply pw_below_drewN | apply below_drew1 | refine below_set ?_ GE200.out) | exact HB.out)⟩⟩
/-! ### wayfarerlaw14_Same: function 17 -/
def wayfarerlaw14_Same.l0 : Nat → List (S30) → List (S30) → Int → Int → Option (Bool)
  | 0, _, _, _, _ => none
  | k + 1, x0, x1, x12, x13 => if x13 < x12 then (if 0 ≤ x13 then (if x13 < (x0.length : Int) then (if x13 < (x1.length : Int) then (if (!(((rd_T30 x0 x13).f0) == ((rd_T30 x1 x13).f0)) || (!(((rd_T30 x0 x13).f1) == ((rd_T30 x1 x13).f1)) || (!(((rd_T30 x0 x13).f2) == ((rd_T30 x1 x13).f2)) || (!(((rd_T30 x0 x13).f3) == ((rd_T30 x1 x13).f3)) || ((!(((rd_T30 x0 x13).f4.f0) == ((rd_T30 x1 x13).f4.f0)) || (!(((rd_T30 x0 x13).f4.f1) == ((rd_T30 x1 x13).f4.f1)))) || (!((((rd_T30 x0 x13).f5).toList) == (((rd_T30 x1 x13).f5).toList)))))))) = true then (some false) else (wayfarerlaw14_Same.l0 k x0 x1 x12 (wrap64 (x13 + 1)))) else (none)) else (none)) else (none)) else (some true)
def wayfarerlaw14_Same.f (k : Nat) (l0 : List (S30)) (l1 : List (S30)) : Option (Bool) := if (l0.length : Int) = (l1.length : Int) then (wayfarerlaw14_Same.l0 k l0 l1 (l0.length : Int) 0) else (some false)
theorem wayfarerlaw14_Same.mono_l : ∀ k, (∀ y0 y1 y2 y3, LeO (wayfarerlaw14_Same.l0 k y0 y1 y2 y3) (wayfarerlaw14_Same.l0 (k + 1) y0 y1 y2 y3))
  | 0 => fun _ _ _ _ r h => by simp [wayfarerlaw14_Same.l0] at h
  | k + 1 => by
    have ih0 := wayfarerlaw14_Same.mono_l k
    · intro y0 y1 y2 y3
      unfold wayfarerlaw14_Same.l0
      repeat' first
      | (with_reducible exact ih0 _ _ _ _)
      | (with_reducible exact LeO.refl _)
      | (with_reducible exact LeO.none _)
      | (with_reducible refine LeO.ite ?_ ?_)
      | (with_reducible refine LeO.bind ?_ (fun _ => ?_))
      | exact ih0 _ _ _ _
      | exact LeO.none _
      | refine LeO.ite ?_ ?_
      | refine LeO.bind ?_ (fun _ => ?_)
theorem wayfarerlaw14_Same.mono : ∀ a0 a1 k, LeO (wayfarerlaw14_Same.f k a0 a1) (wayfarerlaw14_Same.f (k + 1) a0 a1) := by
  intro a0 a1 k
  have ih0 := wayfarerlaw14_Same.mono_l k
  unfold wayfarerlaw14_Same.f
  repeat' first
      | (with_reducible exact ih0 _ _ _ _)
      | (with_reducible exact LeO.refl _)
      | (with_reducible exact LeO.none _)
      | (with_reducible refine LeO.ite ?_ ?_)
      | (with_reducible refine LeO.bind ?_ (fun _ => ?_))
      | exact ih0 _ _ _ _
      | exact LeO.none _
      | refine LeO.ite ?_ ?_
      | refine LeO.bind ?_ (fun _ => ?_)
set_option maxHeartbeats 8000000 in
set_option maxRecDepth 100000 in
theorem wayfarerlaw14_Same.calls (k : Nat) (A0 : Option Addr) (c0 : Nat) (l0 : List (S30)) (A1 : Option Addr) (c1 : Nat) (l1 : List (S30)) (r : Bool) (w : World) (hr0 : Kd.C k30 w A0 l0.length l0) (hc0 : l0.length ≤ c0) (hr1 : Kd.C k30 w A1 l1.length l1) (hc1 : l1.length ≤ c1) (h : wayfarerlaw14_Same.f k l0 l1 = some r) :
    Calls Try.prog 17 #[.slice A0 l0.length c0, .slice A1 l1.length c1] w fun e w' => e = .returned (.bool r) ∧ Drawn0 w w' := by
  have hu30 := Try.underlying30
  have HR0 := Aside0.mk hr0
  have HC0 := Aside0.mk hc0
  clear hr0 hc0
  have HR1 := Aside0.mk hr1
  have HC1 := Aside0.mk hc1
  clear hr1 hc1
  have H : (if (l0.length : Int) = (l1.length : Int) then (wayfarerlaw14_Same.l0 k l0 l1 (l0.length : Int) 0) else (some false)) = some r := h
  clear h
  by_cases c3 : (l0.length : Int) = (l1.length : Int)
  case neg =>
    rw [if_neg c3] at H; have c3b0 : ((l0.length : Int) == (l1.length : Int)) = false := beq_eq_false_iff_ne.mpr c3
    have c3b1 : ((l0.length : Int) != (l1.length : Int)) = true := bne_iff_ne.mpr c3
    have c3b2 : (l0.length == l1.length) = false := by first | simpa using c3 | (simp at c3 ⊢; omega)
    obtain rfl := Option.some.inj H
    go_enter Try.func17, Try.ntmps17
    go_wp2
    repeat (go_quiet (fail); try go_wp2)
    go_ret
    exact ⟨by first | rfl | (simp; done) | (simp [*]; done), by repeat (first | exact Drawn0.refl _ | apply Drawn0.step)⟩

  rw [if_pos c3] at H; have c3b0 : ((l0.length : Int) == (l1.length : Int)) = true := beq_iff_eq.mpr c3
  have c3b1 : ((l0.length : Int) != (l1.length : Int)) = false := bne_eq_false_iff_eq.mpr c3
  have c3b2 : (l0.length == l1.length) = true := by first | simpa using c3 | (simp at c3 ⊢; omega)
  clear c3
  have H' := Aside0.mk H
  clear H
  go_enter Try.func17, Try.ntmps17
  go_wp2
  repeat (go_quiet (fail); try go_wp2)
  go_loopg [13] k (fun kq v13 w' => ∃ (x13_1 : Int), v13 = .int .i64 x13_1 ∧ Aside0 (wayfarerlaw14_Same.l0 kq l0 l1 (l0.length : Int) x13_1 = some r) ∧ Aside0 (kq ≤ k) ∧ Drawn0 w w')
  case atStart => exact ⟨(0), (by first | rfl | (simp; done) | (simp [*]; done)), H', ⟨Nat.le_refl _⟩, by repeat (first | exact Drawn0.refl _ | apply Drawn0.step)⟩
  case round =>
    clear H'
    try clear c1; try clear p2; try clear c3; try clear c3b0; try clear c3b1; try clear c3b2
    obtain ⟨x13_1, rfl, HA, HK1, ⟨m1, rfl⟩⟩ := hrel
    cases gk with
    | zero => exact absurd HA.out (by simp [wayfarerlaw14_Same.l0])
    | succ k1 =>
      have H := HA.out
      clear HA
      simp only [wayfarerlaw14_Same.l0] at H
      by_cases c4 : x13_1 < (l0.length : Int)
      case neg =>
        rw [if_neg c4] at H; have c4b0 : decide (x13_1 < (l0.length : Int)) = false := decide_eq_false c4
        clear c4
        obtain rfl := Option.some.inj H
        go_wp2
        repeat (go_quiet (fail); try go_wp2)
        go_ret
        exact ⟨by first | rfl | (simp; done) | (simp [*]; done), by repeat (first | exact Drawn0.refl _ | apply Drawn0.step)⟩
      rw [if_pos c4] at H; have c4b0 : decide (x13_1 < (l0.length : Int)) = true := decide_eq_true c4
      clear c4
      by_cases c5 : 0 ≤ x13_1
      case neg =>
        rw [if_neg c5] at H; exact absurd H (by simp)
      rw [if_pos c5] at H; have c5b0 : decide (0 ≤ x13_1) = true := decide_eq_true c5
      clear c5
      by_cases c6 : x13_1 < (l0.length : Int)
      case neg =>
        rw [if_neg c6] at H; exact absurd H (by simp)
      rw [if_pos c6] at H; have c6b0 : decide (x13_1 < (l0.length : Int)) = true := decide_eq_true c6
      clear c6
      by_cases c7 : x13_1 < (l1.length : Int)
      case neg =>
        rw [if_neg c7] at H; exact absurd H (by simp)
      rw [if_pos c7] at H; have c7b0 : decide (x13_1 < (l1.length : Int)) = true := decide_eq_true c7
      clear c7
      by_cases c8 : (!(((rd_T30 l0 x13_1).f0) == ((rd_T30 l1 x13_1).f0)) || (!(((rd_T30 l0 x13_1).f1) == ((rd_T30 l1 x13_1).f1)) || (!(((rd_T30 l0 x13_1).f2) == ((rd_T30 l1 x13_1).f2)) || (!(((rd_T30 l0 x13_1).f3) == ((rd_T30 l1 x13_1).f3)) || ((!(((rd_T30 l0 x13_1).f4.f0) == ((rd_T30 l1 x13_1).f4.f0)) || (!(((rd_T30 l0 x13_1).f4.f1) == ((rd_T30 l1 x13_1).f4.f1)))) || (!((((rd_T30 l0 x13_1).f5).toList) == (((rd_T30 l1 x13_1).f5).toList)))))))) = true
      case pos =>
        rw [if_pos c8] at H; have c8b0 : (!(((rd_T30 l0 x13_1).f0) == ((rd_T30 l1 x13_1).f0)) || (!(((rd_T30 l0 x13_1).f1) == ((rd_T30 l1 x13_1).f1)) || (!(((rd_T30 l0 x13_1).f2) == ((rd_T30 l1 x13_1).f2)) || (!(((rd_T30 l0 x13_1).f3) == ((rd_T30 l1 x13_1).f3)) || ((!(((rd_T30 l0 x13_1).f4.f0) == ((rd_T30 l1 x13_1).f4.f0)) || (!(((rd_T30 l0 x13_1).f4.f1) == ((rd_T30 l1 x13_1).f4.f1)))) || (!((((rd_T30 l0 x13_1).f5).toList) == (((rd_T30 l1 x13_1).f5).toList)))))))) = true := c8
        clear c8
        obtain rfl := Option.some.inj H
        have p223 : 0 ≤ (x13_1 : Int) := of_decide_eq_true (by first | (with_reducible assumption) | assumption)
        have q223 : x13_1 < (l0.length : Int) := of_decide_eq_true (by first | (with_reducible assumption) | assumption)
        obtain ⟨ad223, e223, hx223_0, hx223_1, hx223_2, hx223_3, hx223_4, hx223_5, hx223_6⟩ := at_T30 HR0.out x13_1 p223 q223
        cases e223
        replace p223 := eq_true p223
        replace q223 := eq_true q223
        have p224 : 0 ≤ (x13_1 : Int) := of_decide_eq_true (by first | (with_reducible assumption) | assumption)
        have q224 : x13_1 < (l1.length : Int) := of_decide_eq_true (by first | (with_reducible assumption) | assumption)
        obtain ⟨ad224, e224, hx224_0, hx224_1, hx224_2, hx224_3, hx224_4, hx224_5, hx224_6⟩ := at_T30 HR1.out x13_1 p224 q224
        cases e224
        replace p224 := eq_true p224
        replace q224 := eq_true q224
        go_wp2
        repeat (go_quiet (fail); try go_wp2)
        go_ret
        exact ⟨by first | rfl | (simp; done) | (simp [*]; done), by repeat (first | exact Drawn0.refl _ | apply Drawn0.step)⟩
      rw [if_neg c8] at H; have c8b0 : (!(((rd_T30 l0 x13_1).f0) == ((rd_T30 l1 x13_1).f0)) || (!(((rd_T30 l0 x13_1).f1) == ((rd_T30 l1 x13_1).f1)) || (!(((rd_T30 l0 x13_1).f2) == ((rd_T30 l1 x13_1).f2)) || (!(((rd_T30 l0 x13_1).f3) == ((rd_T30 l1 x13_1).f3)) || ((!(((rd_T30 l0 x13_1).f4.f0) == ((rd_T30 l1 x13_1).f4.f0)) || (!(((rd_T30 l0 x13_1).f4.f1) == ((rd_T30 l1 x13_1).f4.f1)))) || (!((((rd_T30 l0 x13_1).f5).toList) == (((rd_T30 l1 x13_1).f5).toList)))))))) = false := by simpa using c8
      clear c8
      have H' := Aside0.mk H
      clear H
      have p223 : 0 ≤ (x13_1 : Int) := of_decide_eq_true (by first | (with_reducible assumption) | assumption)
      have q223 : x13_1 < (l0.length : Int) := of_decide_eq_true (by first | (with_reducible assumption) | assumption)
      obtain ⟨ad223, e223, hx223_0, hx223_1, hx223_2, hx223_3, hx223_4, hx223_5, hx223_6⟩ := at_T30 HR0.out x13_1 p223 q223
      cases e223
      replace p223 := eq_true p223
      replace q223 := eq_true q223
      have p224 : 0 ≤ (x13_1 : Int) := of_decide_eq_true (by first | (with_reducible assumption) | assumption)
      have q224 : x13_1 < (l1.length : Int) := of_decide_eq_true (by first | (with_reducible assumption) | assumption)
      obtain ⟨ad224, e224, hx224_0, hx224_1, hx224_2, hx224_3, hx224_4, hx224_5, hx224_6⟩ := at_T30 HR1.out x13_1 p224 q224
      cases e224
      replace p224 := eq_true p224
      replace q224 := eq_true q224
      go_wp2
      repeat (go_quiet (fail); try go_wp2)
      go_roundg k1
      case measure => have := HK1.out; omega
      case rel => exact ⟨(wrap64 (x13_1 + 1)), (by first | rfl | (simp; done) | (simp [*]; done)), H', ⟨by have := HK1.out; omega⟩, by repeat (first | exact Drawn0.refl _ | apply Drawn0.step)⟩
/-! ### wayfarerlaw14_ScriptBytes: function 3 -/
mutual
def wayfarerlaw14_ScriptBytes.j0 : Nat → Int → Int → List (S30) → Bool → Option (Bool)
  | 0, _, _, _, _ => none
  | k + 1, x0, x1, x2, x7 => wayfarerlaw14_ScriptBytes.l0 k x0 x1 x2 x7 x2 (x2.length : Int) 0
def wayfarerlaw14_ScriptBytes.l0 : Nat → Int → Int → List (S30) → Bool → List (S30) → Int → Int → Option (Bool)
  | 0, _, _, _, _, _, _, _ => none
  | k + 1, x0, x1, x2, x7, x36, x37, x38 => if x38 < x37 then (if 0 ≤ x38 then (if x38 < (x36.length : Int) then ((script_Event_Right.f k ((rd_T30 x36 x38).f0) ((rd_T30 x36 x38).f1) ((rd_T30 x36 x38).f2) ((rd_T30 x36 x38).f3) ((rd_T30 x36 x38).f4.f0) ((rd_T30 x36 x38).f4.f1) ((rd_T30 x36 x38).f5)).bind fun t229 => ((wayfarerlaw14_Right.f ((rd_T30 x36 x38).f0) ((rd_T30 x36 x38).f1) ((rd_T30 x36 x38).f2) ((rd_T30 x36 x38).f3) ((rd_T30 x36 x38).f4.f0) ((rd_T30 x36 x38).f4.f1) ((rd_T30 x36 x38).f5)).bind fun t230 => (if (t229 != t230) = true then (some false) else (if x7 = true then ((wayfarerlaw14_Right.f ((rd_T30 x36 x38).f0) ((rd_T30 x36 x38).f1) ((rd_T30 x36 x38).f2) ((rd_T30 x36 x38).f3) ((rd_T30 x36 x38).f4.f0) ((rd_T30 x36 x38).f4.f1) ((rd_T30 x36 x38).f5)).bind fun t231 => (wayfarerlaw14_ScriptBytes.l0 k x0 x1 x2 t231 x36 x37 (wrap64 (x38 + 1)))) else (wayfarerlaw14_ScriptBytes.l0 k x0 x1 x2 false x36 x37 (wrap64 (x38 + 1))))))) else (none)) else (none)) else ((script_Encode.f k x0 x1 x2).bind fun bt232 => (if x7 = true then ((script_Decode.f k bt232.1).bind fun bt236 => (if bt232.2 = 0 then ((wayfarerlaw14_Bytes.f k x0 x1 x2).bind fun t243 => (if (strOfNums bt232.1).toList = (strOfNums t243).toList then (if bt236.2.2.2.2 = 0 then (if bt236.1 = x0 then (if bt236.2.1 = x1 then (if bt236.2.2.2.1 = (bt232.1.length : Int) then ((wayfarerlaw14_Same.f k bt236.2.2.1 x2).bind fun t246 => (some t246)) else (some false)) else (some false)) else (some false)) else (some false)) else (some false))) else (some false))) else (if bt232.2 = 1 then (some ((bt232.1.length : Int) == 0)) else (some false))))
end
def wayfarerlaw14_ScriptBytes.f (k : Nat) (a0 : Int) (a1 : Int) (l2 : List (S30)) : Option (Bool) := (wayfarerlaw14_head.f k).bind fun t225 => (if t225 = true then ((wayfarerlaw14_Few.f k l2).bind fun t226 => (if t226 = true then (if a0 ≥ 1 then (if a0 ≤ 8 then (if a1 ≥ 1 then (wayfarerlaw14_ScriptBytes.j0 k a0 a1 l2 (decide (a1 ≤ 512))) else (wayfarerlaw14_ScriptBytes.j0 k a0 a1 l2 false)) else (wayfarerlaw14_ScriptBytes.j0 k a0 a1 l2 false)) else (wayfarerlaw14_ScriptBytes.j0 k a0 a1 l2 false)) else (some true))) else (some false))
theorem wayfarerlaw14_ScriptBytes.mono_l : ∀ k, (∀ y0 y1 y2 y3, LeO (wayfarerlaw14_ScriptBytes.j0 k y0 y1 y2 y3) (wayfarerlaw14_ScriptBytes.j0 (k + 1) y0 y1 y2 y3)) ∧ (∀ y0 y1 y2 y3 y4 y5 y6, LeO (wayfarerlaw14_ScriptBytes.l0 k y0 y1 y2 y3 y4 y5 y6) (wayfarerlaw14_ScriptBytes.l0 (k + 1) y0 y1 y2 y3 y4 y5 y6))
  | 0 => ⟨fun _ _ _ _ r h => by simp [wayfarerlaw14_ScriptBytes.j0] at h, fun _ _ _ _ _ _ _ r h => by simp [wayfarerlaw14_ScriptBytes.l0] at h⟩
  | k + 1 => by
    obtain ⟨ih0, ih1⟩ := wayfarerlaw14_ScriptBytes.mono_l k
    refine ⟨?_, ?_⟩
    · intro y0 y1 y2 y3
      unfold wayfarerlaw14_ScriptBytes.j0
      repeat' first
      | (with_reducible exact ih0 _ _ _ _)
      | (with_reducible exact ih1 _ _ _ _ _ _ _)
      | (with_reducible exact script_Decode.mono _ _)
      | (with_reducible exact script_Encode.mono _ _ _ _)
      | (with_reducible exact script_Event_Right.mono _ _ _ _ _ _ _ _)
      | (with_reducible exact wayfarerlaw14_Bytes.mono _ _ _ _)
      | (with_reducible exact wayfarerlaw14_Few.mono _ _)
      | (with_reducible exact wayfarerlaw14_Same.mono _ _ _)
      | (with_reducible exact wayfarerlaw14_head.mono _)
      | (with_reducible exact LeO.refl _)
      | (with_reducible exact LeO.none _)
      | (with_reducible refine LeO.ite ?_ ?_)
      | (with_reducible refine LeO.bind ?_ (fun _ => ?_))
      | exact ih0 _ _ _ _
      | exact ih1 _ _ _ _ _ _ _
      | exact script_Decode.mono _ _
      | exact script_Encode.mono _ _ _ _
      | exact script_Event_Right.mono _ _ _ _ _ _ _ _
      | exact wayfarerlaw14_Bytes.mono _ _ _ _
      | exact wayfarerlaw14_Few.mono _ _
      | exact wayfarerlaw14_Same.mono _ _ _
      | exact wayfarerlaw14_head.mono _
      | exact LeO.none _
      | refine LeO.ite ?_ ?_
      | refine LeO.bind ?_ (fun _ => ?_)
    · intro y0 y1 y2 y3 y4 y5 y6
      unfold wayfarerlaw14_ScriptBytes.l0
      repeat' first
      | (with_reducible exact ih0 _ _ _ _)
      | (with_reducible exact ih1 _ _ _ _ _ _ _)
      | (with_reducible exact script_Decode.mono _ _)
      | (with_reducible exact script_Encode.mono _ _ _ _)
      | (with_reducible exact script_Event_Right.mono _ _ _ _ _ _ _ _)
      | (with_reducible exact wayfarerlaw14_Bytes.mono _ _ _ _)
      | (with_reducible exact wayfarerlaw14_Few.mono _ _)
      | (with_reducible exact wayfarerlaw14_Same.mono _ _ _)
      | (with_reducible exact wayfarerlaw14_head.mono _)
      | (with_reducible exact LeO.refl _)
      | (with_reducible exact LeO.none _)
      | (with_reducible refine LeO.ite ?_ ?_)
      | (with_reducible refine LeO.bind ?_ (fun _ => ?_))
      | exact ih0 _ _ _ _
      | exact ih1 _ _ _ _ _ _ _
      | exact script_Decode.mono _ _
      | exact script_Encode.mono _ _ _ _
      | exact script_Event_Right.mono _ _ _ _ _ _ _ _
      | exact wayfarerlaw14_Bytes.mono _ _ _ _
      | exact wayfarerlaw14_Few.mono _ _
      | exact wayfarerlaw14_Same.mono _ _ _
      | exact wayfarerlaw14_head.mono _
      | exact LeO.none _
      | refine LeO.ite ?_ ?_
      | refine LeO.bind ?_ (fun _ => ?_)
theorem wayfarerlaw14_ScriptBytes.mono : ∀ a0 a1 a2 k, LeO (wayfarerlaw14_ScriptBytes.f k a0 a1 a2) (wayfarerlaw14_ScriptBytes.f (k + 1) a0 a1 a2) := by
  intro a0 a1 a2 k
  obtain ⟨ih0, ih1⟩ := wayfarerlaw14_ScriptBytes.mono_l k
  unfold wayfarerlaw14_ScriptBytes.f
  repeat' first
      | (with_reducible exact ih0 _ _ _ _)
      | (with_reducible exact ih1 _ _ _ _ _ _ _)
      | (with_reducible exact script_Decode.mono _ _)
      | (with_reducible exact script_Encode.mono _ _ _ _)
      | (with_reducible exact script_Event_Right.mono _ _ _ _ _ _ _ _)
      | (with_reducible exact wayfarerlaw14_Bytes.mono _ _ _ _)
      | (with_reducible exact wayfarerlaw14_Few.mono _ _)
      | (with_reducible exact wayfarerlaw14_Same.mono _ _ _)
      | (with_reducible exact wayfarerlaw14_head.mono _)
      | (with_reducible exact LeO.refl _)
      | (with_reducible exact LeO.none _)
      | (with_reducible refine LeO.ite ?_ ?_)
      | (with_reducible refine LeO.bind ?_ (fun _ => ?_))
      | exact ih0 _ _ _ _
      | exact ih1 _ _ _ _ _ _ _
      | exact script_Decode.mono _ _
      | exact script_Encode.mono _ _ _ _
      | exact script_Event_Right.mono _ _ _ _ _ _ _ _
      | exact wayfarerlaw14_Bytes.mono _ _ _ _
      | exact wayfarerlaw14_Few.mono _ _
      | exact wayfarerlaw14_Same.mono _ _ _
      | exact wayfarerlaw14_head.mono _
      | exact LeO.none _
      | refine LeO.ite ?_ ?_
      | refine LeO.bind ?_ (fun _ => ?_)
def wayfarerlaw14_ScriptBytes.T17 : Bool × List (List Nat × List Nat) := (true, [([], []), ([0], [0]), ([1], [1]), ([2], [2]), ([3, 2], [2, 3]), ([2], [2]), ([2], [2]), ([2], [2]), ([5, 6, 7, 2, 2], [2, 5, 6, 7]), ([8, 2], [2, 8]), ([4, 9, 2], [2, 4, 9]), ([2, 10], [2, 10]), ([11, 8], [11]), ([12], [12]), ([13, 12], [12, 13]), ([12, 14], [12, 14]), ([15, 12], [15]), ([16], [16]), ([16], [16]), ([17, 18, 16], [16, 17, 18]), ([16, 19], [16, 19]), ([20, 16], [20]), ([21], [21]), ([21], [21]), ([22, 23, 21], [21, 22, 23]), ([21, 24], [21, 24]), ([25, 21], [25]), ([26], [26]), ([26], [26]), ([28, 26], [26, 28]), ([27, 29, 26], [26, 27, 29]), ([26, 30], [26, 30]), ([31, 26], [31]), ([32], [32]), ([32], [32]), ([33, 34, 32, 32], [32, 33, 34]), ([32, 35], [32, 35]), ([36, 35, 0, 1, 2, 3, 4, 5, 6, 7, 8, 9, 10, 11, 12, 13, 14, 15, 16, 17, 18, 19, 20, 21, 22, 23, 24, 25, 26, 27, 28, 29, 30, 31, 32, 33, 34, 35, 36], [36])])
def wayfarerlaw14_ScriptBytes.B17 : List Nat := [0, 1, 3, 7, 15, 7, 7, 7, 231, 487, 1023, 2047, 4095, 8191, 16383, 32767, 65535, 131071, 131071, 524287, 1048575, 2097151, 4194303, 4194303, 16777215, 33554431, 67108863, 134217727, 134217727, 402653183, 1073741823, 2147483647, 4294967295, 8589934591, 8589934591, 34359738367, 68719476735, 137438953471]
theorem wayfarerlaw14_ScriptBytes.tab17 : rtab .any (opsOf Try.f3 17) = wayfarerlaw14_ScriptBytes.T17 := by kernel_rfl
theorem wayfarerlaw14_ScriptBytes.bits17 : waitsOk wayfarerlaw14_ScriptBytes.T17.2 wayfarerlaw14_ScriptBytes.B17 = true := by kernel_rfl

end Go.Proofs.YtjdapfimjpbnmaaQ.PScr
