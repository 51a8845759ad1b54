-- written by this session's turned copy of the kit's print.py; Lean checks it
import Derived.Test.YtgmdjhokcipajaaPRec0
import Derived.Test.YtgmdjhokcipajaaPRec1
import Derived.Test.YtgmdjhokcipajaaPRec2
import Derived.Test.YtgmdjhokcipajaaPRec3
import Derived.Test.YtgmdjhokcipajaaPRec4
namespace Go.Proofs.YtgmdjhokcipajaaQ.PRec
open Go.RowKit Go.Proofs.YtgmdjhokcipajaaW.PrintWords Go.Proofs.YtgmdjhokcipajaaW.PrintLast Go.Proofs.YtgmdjhokcipajaaW.PrintMore
attribute [local go_sem] max2_int min2_int max_two min_two max_three min_three max_four min_four   -- for this text's walks alone
set_option linter.unusedVariables false
set_option linter.unusedSimpArgs false

attribute [local go_sem high] eqA50
/-! ### wayfarerlaw05_RecSectors: function 8 -/
def wayfarerlaw05_RecSectors.f (k : Nat) (a0_0 : Int) (a0_1 : Int) (a0_2 : Int) (a0_3 : Int) (a0_4 : Int) (a0_5 : Int) (a0_6 : Bool) (a0_7 : Int) (a0_8 : Int) : Option (Bool) := (wayfarerlaw05_head.f k).bind fun t186 => (if t186 = true then ((rec_Rec_Sector.f a0_0 a0_1 a0_2 a0_3 a0_4 a0_5 a0_6 a0_7 a0_8).bind fun t187 => ((rec_Rec_Right.f a0_0 a0_1 a0_2 a0_3 a0_4 a0_5 a0_6 a0_7 a0_8).bind fun t190 => ((wayfarerlaw05_Right.f a0_0 a0_1 a0_2 a0_3 a0_4 a0_5 a0_6 a0_7 a0_8).bind fun t191 => (if (t190 != t191) = true then (some false) else ((wayfarerlaw05_Right.f a0_0 a0_1 a0_2 a0_3 a0_4 a0_5 a0_6 a0_7 a0_8).bind fun t192 => (if t192 = true then ((rec_Of.f k t187).bind fun bt193 => ((wayfarerlaw05_Bytes.f k a0_0 a0_1 a0_2 a0_3 a0_4 a0_5 a0_6 a0_7 a0_8).bind fun t204 => (if (strOfNums t187).toList = (strOfNums t204).toList then (if bt193.2.2.2.2.2.2.2.2.2 = true then (some (bt193.1 == a0_0 && (bt193.2.1 == a0_1 && (bt193.2.2.1 == a0_2 && (bt193.2.2.2.1 == a0_3 && ((bt193.2.2.2.2.1 == a0_4 && (bt193.2.2.2.2.2.1 == a0_5)) && (bt193.2.2.2.2.2.2.1 == a0_6 && ((bt193.2.2.2.2.2.2.2.1 == a0_7 && (bt193.2.2.2.2.2.2.2.2.1 == a0_8)))))))))) else (some false)) else (some false)))) else (some ((t187.length : Int) == 0)))))))) else (some false))
theorem wayfarerlaw05_RecSectors.mono : ∀ a0 a1 a2 a3 a4 a5 a6 a7 a8 k, LeO (wayfarerlaw05_RecSectors.f k a0 a1 a2 a3 a4 a5 a6 a7 a8) (wayfarerlaw05_RecSectors.f (k + 1) a0 a1 a2 a3 a4 a5 a6 a7 a8) := by
  intro a0 a1 a2 a3 a4 a5 a6 a7 a8 k
  unfold wayfarerlaw05_RecSectors.f
  repeat' first
      | (with_reducible exact rec_Of.mono _ _)
      | (with_reducible exact wayfarerlaw05_Bytes.mono _ _ _ _ _ _ _ _ _ _)
      | (with_reducible exact wayfarerlaw05_head.mono _)
      | (with_reducible exact LeO.refl _)
      | (with_reducible exact LeO.none _)
      | (with_reducible refine LeO.ite ?_ ?_)
      | (with_reducible refine LeO.bind ?_ (fun _ => ?_))
      | exact rec_Of.mono _ _
      | exact wayfarerlaw05_Bytes.mono _ _ _ _ _ _ _ _ _ _
      | exact wayfarerlaw05_head.mono _
      | exact LeO.none _
      | refine LeO.ite ?_ ?_
      | refine LeO.bind ?_ (fun _ => ?_)
def wayfarerlaw05_RecSectors.T9 : Bool × List (List Nat × List Nat) := (true, [([], []), ([0], [0]), ([], []), ([2], [2]), ([3], [3]), ([1, 4], [1, 4]), ([5, 3], [5]), ([6], [6]), ([6, 7], [6, 7]), ([8, 6], [8]), ([9], [9]), ([9], [9]), ([10, 11, 9], [9, 10, 11]), ([9, 12], [9, 12]), ([13, 9, 0, 1, 2, 3, 4, 5, 6, 7, 8, 9, 10, 11, 12, 13], [13])])
def wayfarerlaw05_RecSectors.B9 : List Nat := [0, 1, 0, 4, 12, 31, 63, 127, 255, 511, 1023, 1023, 4095, 8191, 16383]
theorem wayfarerlaw05_RecSectors.tab9 : rtab .any (opsOf Try.f8 9) = wayfarerlaw05_RecSectors.T9 := by kernel_rfl
theorem wayfarerlaw05_RecSectors.bits9 : waitsOk wayfarerlaw05_RecSectors.T9.2 wayfarerlaw05_RecSectors.B9 = true := by kernel_rfl
set_option maxHeartbeats 8000000 in
set_option maxRecDepth 100000 in
theorem wayfarerlaw05_RecSectors.calls (k : Nat) (a0_0 : Int) (a0_1 : Int) (a0_2 : Int) (a0_3 : Int) (a0_4 : Int) (a0_5 : Int) (a0_6 : Bool) (a0_7 : Int) (a0_8 : Int) (r : Bool) (w : World) (h : wayfarerlaw05_RecSectors.f k a0_0 a0_1 a0_2 a0_3 a0_4 a0_5 a0_6 a0_7 a0_8 = some r) :
    Calls Try.prog 8 #[.agg #[.int .i64 a0_0, .int .u32 a0_1, .int .u32 a0_2, .int .u32 a0_3, .int .u32 a0_4, .int .i64 a0_5, .bool a0_6, .int .u32 a0_7, .int .u16 a0_8]] w fun e w' => e = .returned (.bool r) ∧ Below w.heap.size w w' := by
  have hu50 := Try.underlying50
  have HB := Aside0.mk (Below.refl w.heap.size w)
  have H : ((wayfarerlaw05_head.f k).bind fun t186 => (if t186 = true then ((rec_Rec_Sector.f a0_0 a0_1 a0_2 a0_3 a0_4 a0_5 a0_6 a0_7 a0_8).bind fun t187 => ((rec_Rec_Right.f a0_0 a0_1 a0_2 a0_3 a0_4 a0_5 a0_6 a0_7 a0_8).bind fun t190 => ((wayfarerlaw05_Right.f a0_0 a0_1 a0_2 a0_3 a0_4 a0_5 a0_6 a0_7 a0_8).bind fun t191 => (if (t190 != t191) = true then (some false) else ((wayfarerlaw05_Right.f a0_0 a0_1 a0_2 a0_3 a0_4 a0_5 a0_6 a0_7 a0_8).bind fun t192 => (if t192 = true then ((rec_Of.f k t187).bind fun bt193 => ((wayfarerlaw05_Bytes.f k a0_0 a0_1 a0_2 a0_3 a0_4 a0_5 a0_6 a0_7 a0_8).bind fun t204 => (if (strOfNums t187).toList = (strOfNums t204).toList then (if bt193.2.2.2.2.2.2.2.2.2 = true then (some (bt193.1 == a0_0 && (bt193.2.1 == a0_1 && (bt193.2.2.1 == a0_2 && (bt193.2.2.2.1 == a0_3 && ((bt193.2.2.2.2.1 == a0_4 && (bt193.2.2.2.2.2.1 == a0_5)) && (bt193.2.2.2.2.2.2.1 == a0_6 && ((bt193.2.2.2.2.2.2.2.1 == a0_7 && (bt193.2.2.2.2.2.2.2.2.1 == a0_8)))))))))) else (some false)) else (some false)))) else (some ((t187.length : Int) == 0)))))))) else (some false))) = some r := h
  clear h
  replace H := Option.bind_eq_some_iff.mp H
  obtain ⟨t186, A20, H⟩ := H
  replace H : (if t186 = true then ((rec_Rec_Sector.f a0_0 a0_1 a0_2 a0_3 a0_4 a0_5 a0_6 a0_7 a0_8).bind fun t187 => ((rec_Rec_Right.f a0_0 a0_1 a0_2 a0_3 a0_4 a0_5 a0_6 a0_7 a0_8).bind fun t190 => ((wayfarerlaw05_Right.f a0_0 a0_1 a0_2 a0_3 a0_4 a0_5 a0_6 a0_7 a0_8).bind fun t191 => (if (t190 != t191) = true then (some false) else ((wayfarerlaw05_Right.f a0_0 a0_1 a0_2 a0_3 a0_4 a0_5 a0_6 a0_7 a0_8).bind fun t192 => (if t192 = true then ((rec_Of.f k t187).bind fun bt193 => ((wayfarerlaw05_Bytes.f k a0_0 a0_1 a0_2 a0_3 a0_4 a0_5 a0_6 a0_7 a0_8).bind fun t204 => (if (strOfNums t187).toList = (strOfNums t204).toList then (if bt193.2.2.2.2.2.2.2.2.2 = true then (some (bt193.1 == a0_0 && (bt193.2.1 == a0_1 && (bt193.2.2.1 == a0_2 && (bt193.2.2.2.1 == a0_3 && ((bt193.2.2.2.2.1 == a0_4 && (bt193.2.2.2.2.2.1 == a0_5)) && (bt193.2.2.2.2.2.2.1 == a0_6 && ((bt193.2.2.2.2.2.2.2.1 == a0_7 && (bt193.2.2.2.2.2.2.2.2.1 == a0_8)))))))))) else (some false)) else (some false)))) else (some ((t187.length : Int) == 0)))))))) else (some false)) = some r := H
  have A2 := Aside0.mk A20
  clear A20
  by_cases c3 : t186 = true
  case neg =>
    replace c3 := Bool.eq_false_iff.mpr c3
    subst c3
    have H1 : (some false) = some r := by rw [if_neg (show ¬ (false = true) by decide)] at H; exact H
    clear H
    have H := H1
    clear H1
    obtain rfl := Option.some.inj H
    go_enter Try.func8, Try.ntmps8
    go_wp2_with (first | ((with_reducible refine gate_dst (N := 1) rfl ?_); refine box_event ?hg (N := 1) ?hd (cs := #[.int .i64 a0_0, .int .u32 a0_1, .int .u32 a0_2, .int .u32 a0_3, .int .u32 a0_4, .int .i64 a0_5, .bool a0_6, .int .u32 a0_7, .int .u16 a0_8]) (t := 50) ?hr ?_; (case hd => rfl); (case hg => rfl); (case hr => first | (go_simp; done) | (go_simp; rfl)); intro gb185 hg w88 hbox hb; have n0_ := Aside0.mk (below_step (by repeat (first | (with_reducible first | exact HB.out | apply below_alloc | apply pw_below_drewN | apply below_drew1) | exact HB.out)) hb); have n1_ := Aside0.mk (hbox); have n2_ := Aside0.mk ((by rw [hg]; exact (below_size (by repeat (first | (with_reducible first | exact HB.out | apply below_alloc | apply pw_below_drewN | apply below_drew1) | exact HB.out))) : w.heap.size ≤ gb185)); have n3_ := Aside0.mk ((by rw [hg]; exact (below_size (by repeat (first | (with_reducible first | exact HB.out | apply below_alloc | apply pw_below_drewN | apply below_drew1) | exact HB.out))) : w.heap.size ≤ gb185)); clear HB; have HB := n0_; have BK185 := n1_; have GW185 := n2_; have GE185 := n3_; clear n0_ n1_ n2_ n3_; clear hb hbox hg) | ((with_reducible refine gate_callee (f := 26) rfl ?_); refine goesL_ (some 6) rfl rfl Try.func26 (by kernel_rfl) rfl #[] rfl (by (try simp only [List.map_toArray, List.map_cons, List.map_nil]); first | done | rfl | (simp only [List.length_drop, List.length_take]; rfl)) ?_; (with_reducible refine (wayfarerlaw05_head.calls k  false _ A2.out).mono ?_); rintro e w89 ⟨rfl, hb⟩; refine ⟨_, rfl, ?_⟩; have n0_ := Aside0.mk (blk_below (g := gb185) (o := .cells #[.int .i64 a0_0, .int .u32 a0_1, .int .u32 a0_2, .int .u32 a0_3, .int .u32 a0_4, .int .i64 a0_5, .bool a0_6, .int .u32 a0_7, .int .u16 a0_8] 50 (0, 0)) (by (with_reducible repeat (first | refine blk_drewN ?_ _ | refine blk_drew ?_ | refine blk_alloc ?_ _)); exact BK185.out) hb); have n1_ := Aside0.mk (below_step (by repeat (first | (with_reducible first | exact HB.out | apply below_alloc | apply pw_below_drewN | apply below_drew1 | refine below_set ?_ GE185.out) | exact HB.out)) hb); clear BK185; clear HB; have BK185 := n0_; have HB := n1_; clear n0_ n1_; (try clear hb); (try clear hb2); (try clear hk); (try clear hi)))
    go_ret
    exact ⟨by first | rfl | (simp [errW_none, errW_some] <;> rfl) | (simp [*, errW_none, errW_some] <;> rfl), by repeat (first | (with_reducible first | exact HB.out | apply below_alloc | apply pw_below_drewN | apply below_drew1 | refine below_set ?_ GE185.out) | exact HB.out)⟩

  subst c3
  have H1 : ((rec_Rec_Sector.f a0_0 a0_1 a0_2 a0_3 a0_4 a0_5 a0_6 a0_7 a0_8).bind fun t187 => ((rec_Rec_Right.f a0_0 a0_1 a0_2 a0_3 a0_4 a0_5 a0_6 a0_7 a0_8).bind fun t190 => ((wayfarerlaw05_Right.f a0_0 a0_1 a0_2 a0_3 a0_4 a0_5 a0_6 a0_7 a0_8).bind fun t191 => (if (t190 != t191) = true then (some false) else ((wayfarerlaw05_Right.f a0_0 a0_1 a0_2 a0_3 a0_4 a0_5 a0_6 a0_7 a0_8).bind fun t192 => (if t192 = true then ((rec_Of.f k t187).bind fun bt193 => ((wayfarerlaw05_Bytes.f k a0_0 a0_1 a0_2 a0_3 a0_4 a0_5 a0_6 a0_7 a0_8).bind fun t204 => (if (strOfNums t187).toList = (strOfNums t204).toList then (if bt193.2.2.2.2.2.2.2.2.2 = true then (some (bt193.1 == a0_0 && (bt193.2.1 == a0_1 && (bt193.2.2.1 == a0_2 && (bt193.2.2.2.1 == a0_3 && ((bt193.2.2.2.2.1 == a0_4 && (bt193.2.2.2.2.2.1 == a0_5)) && (bt193.2.2.2.2.2.2.1 == a0_6 && ((bt193.2.2.2.2.2.2.2.1 == a0_7 && (bt193.2.2.2.2.2.2.2.2.1 == a0_8)))))))))) else (some false)) else (some false)))) else (some ((t187.length : Int) == 0)))))))) = some r := by rw [if_pos rfl] at H; exact H
  clear H
  have H := H1
  clear H1
  replace H := Option.bind_eq_some_iff.mp H
  obtain ⟨t187, A40, H⟩ := H
  replace H : ((rec_Rec_Right.f a0_0 a0_1 a0_2 a0_3 a0_4 a0_5 a0_6 a0_7 a0_8).bind fun t190 => ((wayfarerlaw05_Right.f a0_0 a0_1 a0_2 a0_3 a0_4 a0_5 a0_6 a0_7 a0_8).bind fun t191 => (if (t190 != t191) = true then (some false) else ((wayfarerlaw05_Right.f a0_0 a0_1 a0_2 a0_3 a0_4 a0_5 a0_6 a0_7 a0_8).bind fun t192 => (if t192 = true then ((rec_Of.f k t187).bind fun bt193 => ((wayfarerlaw05_Bytes.f k a0_0 a0_1 a0_2 a0_3 a0_4 a0_5 a0_6 a0_7 a0_8).bind fun t204 => (if (strOfNums t187).toList = (strOfNums t204).toList then (if bt193.2.2.2.2.2.2.2.2.2 = true then (some (bt193.1 == a0_0 && (bt193.2.1 == a0_1 && (bt193.2.2.1 == a0_2 && (bt193.2.2.2.1 == a0_3 && ((bt193.2.2.2.2.1 == a0_4 && (bt193.2.2.2.2.2.1 == a0_5)) && (bt193.2.2.2.2.2.2.1 == a0_6 && ((bt193.2.2.2.2.2.2.2.1 == a0_7 && (bt193.2.2.2.2.2.2.2.2.1 == a0_8)))))))))) else (some false)) else (some false)))) else (some ((t187.length : Int) == 0))))))) = some r := H
  have A4 := Aside0.mk A40
  clear A40
  replace H := Option.bind_eq_some_iff.mp H
  obtain ⟨t190, A50, H⟩ := H
  replace H : ((wayfarerlaw05_Right.f a0_0 a0_1 a0_2 a0_3 a0_4 a0_5 a0_6 a0_7 a0_8).bind fun t191 => (if (t190 != t191) = true then (some false) else ((wayfarerlaw05_Right.f a0_0 a0_1 a0_2 a0_3 a0_4 a0_5 a0_6 a0_7 a0_8).bind fun t192 => (if t192 = true then ((rec_Of.f k t187).bind fun bt193 => ((wayfarerlaw05_Bytes.f k a0_0 a0_1 a0_2 a0_3 a0_4 a0_5 a0_6 a0_7 a0_8).bind fun t204 => (if (strOfNums t187).toList = (strOfNums t204).toList then (if bt193.2.2.2.2.2.2.2.2.2 = true then (some (bt193.1 == a0_0 && (bt193.2.1 == a0_1 && (bt193.2.2.1 == a0_2 && (bt193.2.2.2.1 == a0_3 && ((bt193.2.2.2.2.1 == a0_4 && (bt193.2.2.2.2.2.1 == a0_5)) && (bt193.2.2.2.2.2.2.1 == a0_6 && ((bt193.2.2.2.2.2.2.2.1 == a0_7 && (bt193.2.2.2.2.2.2.2.2.1 == a0_8)))))))))) else (some false)) else (some false)))) else (some ((t187.length : Int) == 0)))))) = some r := H
  have A5 := Aside0.mk A50
  clear A50
  replace H := Option.bind_eq_some_iff.mp H
  obtain ⟨t191, A60, H⟩ := H
  replace H : (if (t190 != t191) = true then (some false) else ((wayfarerlaw05_Right.f a0_0 a0_1 a0_2 a0_3 a0_4 a0_5 a0_6 a0_7 a0_8).bind fun t192 => (if t192 = true then ((rec_Of.f k t187).bind fun bt193 => ((wayfarerlaw05_Bytes.f k a0_0 a0_1 a0_2 a0_3 a0_4 a0_5 a0_6 a0_7 a0_8).bind fun t204 => (if (strOfNums t187).toList = (strOfNums t204).toList then (if bt193.2.2.2.2.2.2.2.2.2 = true then (some (bt193.1 == a0_0 && (bt193.2.1 == a0_1 && (bt193.2.2.1 == a0_2 && (bt193.2.2.2.1 == a0_3 && ((bt193.2.2.2.2.1 == a0_4 && (bt193.2.2.2.2.2.1 == a0_5)) && (bt193.2.2.2.2.2.2.1 == a0_6 && ((bt193.2.2.2.2.2.2.2.1 == a0_7 && (bt193.2.2.2.2.2.2.2.2.1 == a0_8)))))))))) else (some false)) else (some false)))) else (some ((t187.length : Int) == 0))))) = some r := H
  have A6 := Aside0.mk A60
  clear A60
  by_cases c7 : (t190 != t191) = true
  case pos =>
    rw [if_pos c7] at H; have c7b0 : (t190 != t191) = true := c7
    (try (have c7b1 : decide (t190 = t191) = false := by simpa using c7))
    (try (have c7b2 : (t190 == t191) = false := by simpa using c7))
    (try (have c7b3 : ¬ (t190 = t191) := by simpa using c7))
    clear c7
    obtain rfl := Option.some.inj H
    go_enter Try.func8, Try.ntmps8
    try go_wp2_with (first | ((with_reducible refine gate_dst (N := 1) rfl ?_); refine box_event ?hg (N := 1) ?hd (cs := #[.int .i64 a0_0, .int .u32 a0_1, .int .u32 a0_2, .int .u32 a0_3, .int .u32 a0_4, .int .i64 a0_5, .bool a0_6, .int .u32 a0_7, .int .u16 a0_8]) (t := 50) ?hr ?_; (case hd => rfl); (case hg => rfl); (case hr => first | (go_simp; done) | (go_simp; rfl)); intro gb185 hg w8 hbox hb; have n0_ := Aside0.mk (below_step (by repeat (first | (with_reducible first | exact HB.out | apply below_alloc | apply pw_below_drewN | apply below_drew1) | exact HB.out)) hb); have n1_ := Aside0.mk (hbox); have n2_ := Aside0.mk ((by rw [hg]; exact (below_size (by repeat (first | (with_reducible first | exact HB.out | apply below_alloc | apply pw_below_drewN | apply below_drew1) | exact HB.out))) : w.heap.size ≤ gb185)); have n3_ := Aside0.mk ((by rw [hg]; exact (below_size (by repeat (first | (with_reducible first | exact HB.out | apply below_alloc | apply pw_below_drewN | apply below_drew1) | exact HB.out))) : w.heap.size ≤ gb185)); clear HB; have HB := n0_; have BK185 := n1_; have GW185 := n2_; have GE185 := n3_; clear n0_ n1_ n2_ n3_; clear hb hbox hg) | ((with_reducible refine gate_callee (f := 26) rfl ?_); refine goesL_ (some 6) rfl rfl Try.func26 (by kernel_rfl) rfl #[] rfl (by (try simp only [List.map_toArray, List.map_cons, List.map_nil]); first | done | rfl | (simp only [List.length_drop, List.length_take]; rfl)) ?_; (with_reducible refine (wayfarerlaw05_head.calls k  true _ A2.out).mono ?_); rintro e w9 ⟨rfl, hb⟩; refine ⟨_, rfl, ?_⟩; have n0_ := Aside0.mk (blk_below (g := gb185) (o := .cells #[.int .i64 a0_0, .int .u32 a0_1, .int .u32 a0_2, .int .u32 a0_3, .int .u32 a0_4, .int .i64 a0_5, .bool a0_6, .int .u32 a0_7, .int .u16 a0_8] 50 (0, 0)) (by (with_reducible repeat (first | refine blk_drewN ?_ _ | refine blk_drew ?_ | refine blk_alloc ?_ _)); exact BK185.out) hb); have n1_ := Aside0.mk (below_step (by repeat (first | (with_reducible first | exact HB.out | apply below_alloc | apply pw_below_drewN | apply below_drew1 | refine below_set ?_ GE185.out) | exact HB.out)) hb); clear BK185; clear HB; have BK185 := n0_; have HB := n1_; clear n0_ n1_; (try clear hb); (try clear hb2); (try clear hk); (try clear hi); have hcz10_0 : w9.cell? ⟨gb185, 0, none⟩ = some (.int .i64 a0_0) := (blk_cell BK185.out 0).trans rfl; have hcz10_1 : w9.cell? ⟨gb185, 1, none⟩ = some (.int .u32 a0_1) := (blk_cell BK185.out 1).trans rfl; have hcz10_2 : w9.cell? ⟨gb185, 2, none⟩ = some (.int .u32 a0_2) := (blk_cell BK185.out 2).trans rfl; have hcz10_3 : w9.cell? ⟨gb185, 3, none⟩ = some (.int .u32 a0_3) := (blk_cell BK185.out 3).trans rfl; have hcz10_4 : w9.cell? ⟨gb185, 4, none⟩ = some (.int .u32 a0_4) := (blk_cell BK185.out 4).trans rfl; have hcz10_5 : w9.cell? ⟨gb185, 5, none⟩ = some (.int .i64 a0_5) := (blk_cell BK185.out 5).trans rfl; have hcz10_6 : w9.cell? ⟨gb185, 6, none⟩ = some (.bool a0_6) := (blk_cell BK185.out 6).trans rfl; have hcz10_7 : w9.cell? ⟨gb185, 7, none⟩ = some (.int .u32 a0_7) := (blk_cell BK185.out 7).trans rfl; have hcz10_8 : w9.cell? ⟨gb185, 8, none⟩ = some (.int .u16 a0_8) := (blk_cell BK185.out 8).trans rfl; have hfz10_0 := blk_frozen BK185.out 0; have hfz10_1 := blk_frozen BK185.out 1; have hfz10_2 := blk_frozen BK185.out 2; have hfz10_3 := blk_frozen BK185.out 3; have hfz10_4 := blk_frozen BK185.out 4; have hfz10_5 := blk_frozen BK185.out 5; have hfz10_6 := blk_frozen BK185.out 6; have hfz10_7 := blk_frozen BK185.out 7; have hfz10_8 := blk_frozen BK185.out 8) | ((with_reducible refine gate_callee (f := 27) rfl ?_); refine goesL_ (some 9) rfl rfl Try.func27 (by kernel_rfl) rfl #[.agg #[.int .i64 a0_0, .int .u32 a0_1, .int .u32 a0_2, .int .u32 a0_3, .int .u32 a0_4, .int .i64 a0_5, .bool a0_6, .int .u32 a0_7, .int .u16 a0_8]] rfl (by (try simp only [List.map_toArray, List.map_cons, List.map_nil]); first | done | rfl | (simp only [List.length_drop, List.length_take]; rfl)) ?_; (with_reducible refine (rec_Rec_Sector.calls a0_0 a0_1 a0_2 a0_3 a0_4 a0_5 a0_6 a0_7 a0_8 t187 _ A4.out).mono ?_); rintro e w11 ⟨v188, rfl, ho0, hb⟩; refine ⟨_, rfl, ?_⟩; have n0_ := Aside0.mk (Kd.R_lower ho0 (below_size (by repeat (first | (with_reducible first | exact HB.out | apply below_alloc | apply pw_below_drewN | apply below_drew1 | refine below_set ?_ GE185.out) | exact HB.out)))); have n1_ := Aside0.mk (blk_below (g := gb185) (o := .cells #[.int .i64 a0_0, .int .u32 a0_1, .int .u32 a0_2, .int .u32 a0_3, .int .u32 a0_4, .int .i64 a0_5, .bool a0_6, .int .u32 a0_7, .int .u16 a0_8] 50 (0, 0)) (by (with_reducible repeat (first | refine blk_drewN ?_ _ | refine blk_drew ?_ | refine blk_alloc ?_ _)); exact BK185.out) hb); have n2_ := Aside0.mk (below_step (by repeat (first | (with_reducible first | exact HB.out | apply below_alloc | apply pw_below_drewN | apply below_drew1 | refine below_set ?_ GE185.out) | exact HB.out)) hb); clear BK185; clear HB; have HO189 := n0_; have BK185 := n1_; have HB := n2_; clear n0_ n1_ n2_; (try clear hb); (try clear hb2); (try clear hk); (try clear hi); (try clear ho0)))
    have n0_ := Aside0.mk (Kd.R_drew HO189.out)
    have n1_ := Aside0.mk (blk_drew BK185.out)
    have n2_ := Aside0.mk (below_drew1 HB.out)
    clear HO189
    clear BK185
    clear HB
    have HO189 := n0_
    have BK185 := n1_
    have HB := n2_
    clear n0_ n1_ n2_
    refine start_ (n := 5) (S := fun w' => w'.cell? ⟨gb185, 0, none⟩ = some (.int .i64 a0_0) ∧ w'.cell? ⟨gb185, 1, none⟩ = some (.int .u32 a0_1) ∧ w'.cell? ⟨gb185, 2, none⟩ = some (.int .u32 a0_2) ∧ w'.cell? ⟨gb185, 3, none⟩ = some (.int .u32 a0_3) ∧ w'.cell? ⟨gb185, 4, none⟩ = some (.int .u32 a0_4) ∧ w'.cell? ⟨gb185, 5, none⟩ = some (.int .i64 a0_5) ∧ w'.cell? ⟨gb185, 6, none⟩ = some (.bool a0_6) ∧ w'.cell? ⟨gb185, 7, none⟩ = some (.int .u32 a0_7) ∧ w'.cell? ⟨gb185, 8, none⟩ = some (.int .u16 a0_8)) (ds := []) #[false, false, false, false, false] (by kernel_rfl) rfl rfl ⟨(blk_cell BK185.out 0).trans rfl, (blk_cell BK185.out 1).trans rfl, (blk_cell BK185.out 2).trans rfl, (blk_cell BK185.out 3).trans rfl, (blk_cell BK185.out 4).trans rfl, (blk_cell BK185.out 5).trans rfl, (blk_cell BK185.out 6).trans rfl, (blk_cell BK185.out 7).trans rfl, (blk_cell BK185.out 8).trans rfl⟩ (fun hHeld => ?_)
    generalize w11.drew = w12 at HO189 BK185 HB hHeld ⊢
    refine take_ (i := 0) (N := some 10) (v := ?_) (a' := ?_) #[true, false, false, false, false] rfl rfl (by kernel_rfl) (fun _ _ _ h => h) (Or.inl ⟨by rfl, ?_⟩) hHeld ?_ ?_; rotate_left
    · rintro w' ⟨s0, s1, s2, s3, s4, s5, s6, s7, s8⟩
      go_simp
      with_reducible rfl
    rotate_left
    · simp only [Act.put, List.setIfInBounds_toArray, List.set_cons_zero, List.set_cons_succ, i64_w, i32_w]; rfl
    refine take_ (i := 2) (N := some 12) (v := ?_) (a' := ?_) #[true, false, true, false, false] rfl rfl (by kernel_rfl) (fun _ _ _ h => h) (Or.inl ⟨by rfl, ?_⟩) hHeld ?_ ?_; rotate_left
    · rintro w' ⟨s0, s1, s2, s3, s4, s5, s6, s7, s8⟩
      go_simp
      with_reducible rfl
    rotate_left
    · simp only [Act.put, List.setIfInBounds_toArray, List.set_cons_zero, List.set_cons_succ, i64_w, i32_w]; rfl
    refine one_ (i := 1) (N := some 11) #[true, true, true, false, false] rfl rfl (by kernel_rfl) (by decide) (fun K hK => ?_)
    refine goes_ Try.func28 (by kernel_rfl) rfl #[.agg #[.int .i64 a0_0, .int .u32 a0_1, .int .u32 a0_2, .int .u32 a0_3, .int .u32 a0_4, .int .i64 a0_5, .bool a0_6, .int .u32 a0_7, .int .u16 a0_8]] (by rfl) rfl rfl (by (try simp only [List.map_toArray, List.map_cons, List.map_nil]); first | done | rfl | (simp only [List.length_drop, List.length_take]; rfl)) ?_
    with_reducible refine (rec_Rec_Right.calls a0_0 a0_1 a0_2 a0_3 a0_4 a0_5 a0_6 a0_7 a0_8 t190 _ A5.out).mono ?_
    rintro e w13 ⟨rfl, hb⟩
    refine ⟨_, rfl, ?_⟩
    have n0_ := Aside0.mk (Kd.R_below (by (with_reducible repeat (first | apply Kd.R_alloc | apply Kd.R_drewN | apply Kd.R_drew)); exact HO189.out) hb)
    have n1_ := Aside0.mk (blk_below (g := gb185) (o := .cells #[.int .i64 a0_0, .int .u32 a0_1, .int .u32 a0_2, .int .u32 a0_3, .int .u32 a0_4, .int .i64 a0_5, .bool a0_6, .int .u32 a0_7, .int .u16 a0_8] 50 (0, 0)) (by (with_reducible repeat (first | refine blk_drewN ?_ _ | refine blk_drew ?_ | refine blk_alloc ?_ _)); exact BK185.out) hb)
    have n2_ := Aside0.mk (below_step (by repeat (first | (with_reducible first | exact HB.out | apply below_alloc | apply pw_below_drewN | apply below_drew1 | refine below_set ?_ GE185.out) | exact HB.out)) hb)
    clear HO189
    clear BK185
    clear HB
    have HO189 := n0_
    have BK185 := n1_
    have HB := n2_
    clear n0_ n1_ n2_
    (try clear hb)
    (try clear hb2)
    (try clear hk)
    (try clear hi)
    refine hK.out _ _ ⟨(blk_cell BK185.out 0).trans rfl, (blk_cell BK185.out 1).trans rfl, (blk_cell BK185.out 2).trans rfl, (blk_cell BK185.out 3).trans rfl, (blk_cell BK185.out 4).trans rfl, (blk_cell BK185.out 5).trans rfl, (blk_cell BK185.out 6).trans rfl, (blk_cell BK185.out 7).trans rfl, (blk_cell BK185.out 8).trans rfl⟩ (fun hHeld => ?_)
    clear hK K
    refine norm_ (a' := ?_) ?_ ?_
    rotate_left
    · show Act.put _ (some 11) _ = _
      simp only [Act.put, List.setIfInBounds_toArray, List.set_cons_zero, List.set_cons_succ, i64_w, i32_w]
      rfl
    refine one_ (i := 3) (N := some 13) #[true, true, true, true, false] rfl rfl (by kernel_rfl) (by decide) (fun K hK => ?_)
    refine goes_ Try.func29 (by kernel_rfl) rfl #[.agg #[.int .i64 a0_0, .int .u32 a0_1, .int .u32 a0_2, .int .u32 a0_3, .int .u32 a0_4, .int .i64 a0_5, .bool a0_6, .int .u32 a0_7, .int .u16 a0_8]] (by rfl) rfl rfl (by (try simp only [List.map_toArray, List.map_cons, List.map_nil]); first | done | rfl | (simp only [List.length_drop, List.length_take]; rfl)) ?_
    with_reducible refine (wayfarerlaw05_Right.calls a0_0 a0_1 a0_2 a0_3 a0_4 a0_5 a0_6 a0_7 a0_8 t191 _ A6.out).mono ?_
    rintro e w14 ⟨rfl, hb⟩
    refine ⟨_, rfl, ?_⟩
    have n0_ := Aside0.mk (Kd.R_below (by (with_reducible repeat (first | apply Kd.R_alloc | apply Kd.R_drewN | apply Kd.R_drew)); exact HO189.out) hb)
    have n1_ := Aside0.mk (blk_below (g := gb185) (o := .cells #[.int .i64 a0_0, .int .u32 a0_1, .int .u32 a0_2, .int .u32 a0_3, .int .u32 a0_4, .int .i64 a0_5, .bool a0_6, .int .u32 a0_7, .int .u16 a0_8] 50 (0, 0)) (by (with_reducible repeat (first | refine blk_drewN ?_ _ | refine blk_drew ?_ | refine blk_alloc ?_ _)); exact BK185.out) hb)
    have n2_ := Aside0.mk (below_step (by repeat (first | (with_reducible first | exact HB.out | apply below_alloc | apply pw_below_drewN | apply below_drew1 | refine below_set ?_ GE185.out) | exact HB.out)) hb)
    clear HO189
    clear BK185
    clear HB
    have HO189 := n0_
    have BK185 := n1_
    have HB := n2_
    clear n0_ n1_ n2_
    (try clear hb)
    (try clear hb2)
    (try clear hk)
    (try clear hi)
    refine hK.out _ _ ⟨(blk_cell BK185.out 0).trans rfl, (blk_cell BK185.out 1).trans rfl, (blk_cell BK185.out 2).trans rfl, (blk_cell BK185.out 3).trans rfl, (blk_cell BK185.out 4).trans rfl, (blk_cell BK185.out 5).trans rfl, (blk_cell BK185.out 6).trans rfl, (blk_cell BK185.out 7).trans rfl, (blk_cell BK185.out 8).trans rfl⟩ (fun hHeld => ?_)
    clear hK K
    refine norm_ (a' := ?_) ?_ ?_
    rotate_left
    · show Act.put _ (some 13) _ = _
      simp only [Act.put, List.setIfInBounds_toArray, List.set_cons_zero, List.set_cons_succ, i64_w, i32_w]
      rfl
    refine pure_ (i := 4) (N := some 14) (v := ?_) (a' := ?_) #[true, true, true, true, true] rfl rfl (by kernel_rfl) (fun _ _ _ h => h) (Or.inl ⟨by rfl, ?_⟩) ?_ ?_; rotate_left
    · intro w'; go_simp; with_reducible rfl
    rotate_left; · simp only [Act.put, List.setIfInBounds_toArray, List.set_cons_zero, List.set_cons_succ, i64_w, i32_w]; rfl
    refine done_ (by kernel_rfl) ?_
    try go_wp2
    go_ret
    exact ⟨by first | rfl | (simp [errW_none, errW_some] <;> rfl) | (simp [*, errW_none, errW_some] <;> rfl), by repeat (first | (with_reducible first | exact HB.out | apply below_alloc | apply pw_below_drewN | apply below_drew1 | refine below_set ?_ GE185.out) | exact HB.out)⟩
  rw [if_neg c7] at H; have c7b0 : (t190 != t191) = false := by simpa using c7
  (try (have c7b1 : decide (t190 = t191) = true := by simpa using c7))
  (try (have c7b2 : (t190 == t191) = true := by simpa using c7))
  clear c7
  replace H := Option.bind_eq_some_iff.mp H
  obtain ⟨t192, A150, H⟩ := H
  replace H : (if t192 = true then ((rec_Of.f k t187).bind fun bt193 => ((wayfarerlaw05_Bytes.f k a0_0 a0_1 a0_2 a0_3 a0_4 a0_5 a0_6 a0_7 a0_8).bind fun t204 => (if (strOfNums t187).toList = (strOfNums t204).toList then (if bt193.2.2.2.2.2.2.2.2.2 = true then (some (bt193.1 == a0_0 && (bt193.2.1 == a0_1 && (bt193.2.2.1 == a0_2 && (bt193.2.2.2.1 == a0_3 && ((bt193.2.2.2.2.1 == a0_4 && (bt193.2.2.2.2.2.1 == a0_5)) && (bt193.2.2.2.2.2.2.1 == a0_6 && ((bt193.2.2.2.2.2.2.2.1 == a0_7 && (bt193.2.2.2.2.2.2.2.2.1 == a0_8)))))))))) else (some false)) else (some false)))) else (some ((t187.length : Int) == 0))) = some r := H
  have A15 := Aside0.mk A150
  clear A150
  by_cases c16 : t192 = true
  case neg =>
    replace c16 := Bool.eq_false_iff.mpr c16
    subst c16
    have H1 : (some ((t187.length : Int) == 0)) = some r := by rw [if_neg (show ¬ (false = true) by decide)] at H; exact H
    clear H
    have H := H1
    clear H1
    obtain rfl := Option.some.inj H
    go_enter Try.func8, Try.ntmps8
    try go_wp2_with (first | ((with_reducible refine gate_dst (N := 1) rfl ?_); refine box_event ?hg (N := 1) ?hd (cs := #[.int .i64 a0_0, .int .u32 a0_1, .int .u32 a0_2, .int .u32 a0_3, .int .u32 a0_4, .int .i64 a0_5, .bool a0_6, .int .u32 a0_7, .int .u16 a0_8]) (t := 50) ?hr ?_; (case hd => rfl); (case hg => rfl); (case hr => first | (go_simp; done) | (go_simp; rfl)); intro gb185 hg w78 hbox hb; have n0_ := Aside0.mk (below_step (by repeat (first | (with_reducible first | exact HB.out | apply below_alloc | apply pw_below_drewN | apply below_drew1) | exact HB.out)) hb); have n1_ := Aside0.mk (hbox); have n2_ := Aside0.mk ((by rw [hg]; exact (below_size (by repeat (first | (with_reducible first | exact HB.out | apply below_alloc | apply pw_below_drewN | apply below_drew1) | exact HB.out))) : w.heap.size ≤ gb185)); have n3_ := Aside0.mk ((by rw [hg]; exact (below_size (by repeat (first | (with_reducible first | exact HB.out | apply below_alloc | apply pw_below_drewN | apply below_drew1) | exact HB.out))) : w.heap.size ≤ gb185)); clear HB; have HB := n0_; have BK185 := n1_; have GW185 := n2_; have GE185 := n3_; clear n0_ n1_ n2_ n3_; clear hb hbox hg) | ((with_reducible refine gate_callee (f := 26) rfl ?_); refine goesL_ (some 6) rfl rfl Try.func26 (by kernel_rfl) rfl #[] rfl (by (try simp only [List.map_toArray, List.map_cons, List.map_nil]); first | done | rfl | (simp only [List.length_drop, List.length_take]; rfl)) ?_; (with_reducible refine (wayfarerlaw05_head.calls k  true _ A2.out).mono ?_); rintro e w79 ⟨rfl, hb⟩; refine ⟨_, rfl, ?_⟩; have n0_ := Aside0.mk (blk_below (g := gb185) (o := .cells #[.int .i64 a0_0, .int .u32 a0_1, .int .u32 a0_2, .int .u32 a0_3, .int .u32 a0_4, .int .i64 a0_5, .bool a0_6, .int .u32 a0_7, .int .u16 a0_8] 50 (0, 0)) (by (with_reducible repeat (first | refine blk_drewN ?_ _ | refine blk_drew ?_ | refine blk_alloc ?_ _)); exact BK185.out) hb); have n1_ := Aside0.mk (below_step (by repeat (first | (with_reducible first | exact HB.out | apply below_alloc | apply pw_below_drewN | apply below_drew1 | refine below_set ?_ GE185.out) | exact HB.out)) hb); clear BK185; clear HB; have BK185 := n0_; have HB := n1_; clear n0_ n1_; (try clear hb); (try clear hb2); (try clear hk); (try clear hi); have hcz80_0 : w79.cell? ⟨gb185, 0, none⟩ = some (.int .i64 a0_0) := (blk_cell BK185.out 0).trans rfl; have hcz80_1 : w79.cell? ⟨gb185, 1, none⟩ = some (.int .u32 a0_1) := (blk_cell BK185.out 1).trans rfl; have hcz80_2 : w79.cell? ⟨gb185, 2, none⟩ = some (.int .u32 a0_2) := (blk_cell BK185.out 2).trans rfl; have hcz80_3 : w79.cell? ⟨gb185, 3, none⟩ = some (.int .u32 a0_3) := (blk_cell BK185.out 3).trans rfl; have hcz80_4 : w79.cell? ⟨gb185, 4, none⟩ = some (.int .u32 a0_4) := (blk_cell BK185.out 4).trans rfl; have hcz80_5 : w79.cell? ⟨gb185, 5, none⟩ = some (.int .i64 a0_5) := (blk_cell BK185.out 5).trans rfl; have hcz80_6 : w79.cell? ⟨gb185, 6, none⟩ = some (.bool a0_6) := (blk_cell BK185.out 6).trans rfl; have hcz80_7 : w79.cell? ⟨gb185, 7, none⟩ = some (.int .u32 a0_7) := (blk_cell BK185.out 7).trans rfl; have hcz80_8 : w79.cell? ⟨gb185, 8, none⟩ = some (.int .u16 a0_8) := (blk_cell BK185.out 8).trans rfl; have hfz80_0 := blk_frozen BK185.out 0; have hfz80_1 := blk_frozen BK185.out 1; have hfz80_2 := blk_frozen BK185.out 2; have hfz80_3 := blk_frozen BK185.out 3; have hfz80_4 := blk_frozen BK185.out 4; have hfz80_5 := blk_frozen BK185.out 5; have hfz80_6 := blk_frozen BK185.out 6; have hfz80_7 := blk_frozen BK185.out 7; have hfz80_8 := blk_frozen BK185.out 8) | ((with_reducible refine gate_callee (f := 27) rfl ?_); refine goesL_ (some 9) rfl rfl Try.func27 (by kernel_rfl) rfl #[.agg #[.int .i64 a0_0, .int .u32 a0_1, .int .u32 a0_2, .int .u32 a0_3, .int .u32 a0_4, .int .i64 a0_5, .bool a0_6, .int .u32 a0_7, .int .u16 a0_8]] rfl (by (try simp only [List.map_toArray, List.map_cons, List.map_nil]); first | done | rfl | (simp only [List.length_drop, List.length_take]; rfl)) ?_; (with_reducible refine (rec_Rec_Sector.calls a0_0 a0_1 a0_2 a0_3 a0_4 a0_5 a0_6 a0_7 a0_8 t187 _ A4.out).mono ?_); rintro e w81 ⟨v188, rfl, ho0, hb⟩; refine ⟨_, rfl, ?_⟩; have n0_ := Aside0.mk (Kd.R_lower ho0 (below_size (by repeat (first | (with_reducible first | exact HB.out | apply below_alloc | apply pw_below_drewN | apply below_drew1 | refine below_set ?_ GE185.out) | exact HB.out)))); have n1_ := Aside0.mk (blk_below (g := gb185) (o := .cells #[.int .i64 a0_0, .int .u32 a0_1, .int .u32 a0_2, .int .u32 a0_3, .int .u32 a0_4, .int .i64 a0_5, .bool a0_6, .int .u32 a0_7, .int .u16 a0_8] 50 (0, 0)) (by (with_reducible repeat (first | refine blk_drewN ?_ _ | refine blk_drew ?_ | refine blk_alloc ?_ _)); exact BK185.out) hb); have n2_ := Aside0.mk (below_step (by repeat (first | (with_reducible first | exact HB.out | apply below_alloc | apply pw_below_drewN | apply below_drew1 | refine below_set ?_ GE185.out) | exact HB.out)) hb); clear BK185; clear HB; have HO189 := n0_; have BK185 := n1_; have HB := n2_; clear n0_ n1_ n2_; (try clear hb); (try clear hb2); (try clear hk); (try clear hi); (try clear ho0)))
    have n0_ := Aside0.mk (Kd.R_drew HO189.out)
    have n1_ := Aside0.mk (blk_drew BK185.out)
    have n2_ := Aside0.mk (below_drew1 HB.out)
    clear HO189
    clear BK185
    clear HB
    have HO189 := n0_
    have BK185 := n1_
    have HB := n2_
    clear n0_ n1_ n2_
    refine start_ (n := 5) (S := fun w' => w'.cell? ⟨gb185, 0, none⟩ = some (.int .i64 a0_0) ∧ w'.cell? ⟨gb185, 1, none⟩ = some (.int .u32 a0_1) ∧ w'.cell? ⟨gb185, 2, none⟩ = some (.int .u32 a0_2) ∧ w'.cell? ⟨gb185, 3, none⟩ = some (.int .u32 a0_3) ∧ w'.cell? ⟨gb185, 4, none⟩ = some (.int .u32 a0_4) ∧ w'.cell? ⟨gb185, 5, none⟩ = some (.int .i64 a0_5) ∧ w'.cell? ⟨gb185, 6, none⟩ = some (.bool a0_6) ∧ w'.cell? ⟨gb185, 7, none⟩ = some (.int .u32 a0_7) ∧ w'.cell? ⟨gb185, 8, none⟩ = some (.int .u16 a0_8)) (ds := []) #[false, false, false, false, false] (by kernel_rfl) rfl rfl ⟨(blk_cell BK185.out 0).trans rfl, (blk_cell BK185.out 1).trans rfl, (blk_cell BK185.out 2).trans rfl, (blk_cell BK185.out 3).trans rfl, (blk_cell BK185.out 4).trans rfl, (blk_cell BK185.out 5).trans rfl, (blk_cell BK185.out 6).trans rfl, (blk_cell BK185.out 7).trans rfl, (blk_cell BK185.out 8).trans rfl⟩ (fun hHeld => ?_)
    generalize w81.drew = w82 at HO189 BK185 HB hHeld ⊢
    refine take_ (i := 0) (N := some 10) (v := ?_) (a' := ?_) #[true, false, false, false, false] rfl rfl (by kernel_rfl) (fun _ _ _ h => h) (Or.inl ⟨by rfl, ?_⟩) hHeld ?_ ?_; rotate_left
    · rintro w' ⟨s0, s1, s2, s3, s4, s5, s6, s7, s8⟩
      go_simp
      with_reducible rfl
    rotate_left
    · simp only [Act.put, List.setIfInBounds_toArray, List.set_cons_zero, List.set_cons_succ, i64_w, i32_w]; rfl
    refine take_ (i := 2) (N := some 12) (v := ?_) (a' := ?_) #[true, false, true, false, false] rfl rfl (by kernel_rfl) (fun _ _ _ h => h) (Or.inl ⟨by rfl, ?_⟩) hHeld ?_ ?_; rotate_left
    · rintro w' ⟨s0, s1, s2, s3, s4, s5, s6, s7, s8⟩
      go_simp
      with_reducible rfl
    rotate_left
    · simp only [Act.put, List.setIfInBounds_toArray, List.set_cons_zero, List.set_cons_succ, i64_w, i32_w]; rfl
    refine one_ (i := 1) (N := some 11) #[true, true, true, false, false] rfl rfl (by kernel_rfl) (by decide) (fun K hK => ?_)
    refine goes_ Try.func28 (by kernel_rfl) rfl #[.agg #[.int .i64 a0_0, .int .u32 a0_1, .int .u32 a0_2, .int .u32 a0_3, .int .u32 a0_4, .int .i64 a0_5, .bool a0_6, .int .u32 a0_7, .int .u16 a0_8]] (by rfl) rfl rfl (by (try simp only [List.map_toArray, List.map_cons, List.map_nil]); first | done | rfl | (simp only [List.length_drop, List.length_take]; rfl)) ?_
    with_reducible refine (rec_Rec_Right.calls a0_0 a0_1 a0_2 a0_3 a0_4 a0_5 a0_6 a0_7 a0_8 t190 _ A5.out).mono ?_
    rintro e w83 ⟨rfl, hb⟩
    refine ⟨_, rfl, ?_⟩
    have n0_ := Aside0.mk (Kd.R_below (by (with_reducible repeat (first | apply Kd.R_alloc | apply Kd.R_drewN | apply Kd.R_drew)); exact HO189.out) hb)
    have n1_ := Aside0.mk (blk_below (g := gb185) (o := .cells #[.int .i64 a0_0, .int .u32 a0_1, .int .u32 a0_2, .int .u32 a0_3, .int .u32 a0_4, .int .i64 a0_5, .bool a0_6, .int .u32 a0_7, .int .u16 a0_8] 50 (0, 0)) (by (with_reducible repeat (first | refine blk_drewN ?_ _ | refine blk_drew ?_ | refine blk_alloc ?_ _)); exact BK185.out) hb)
    have n2_ := Aside0.mk (below_step (by repeat (first | (with_reducible first | exact HB.out | apply below_alloc | apply pw_below_drewN | apply below_drew1 | refine below_set ?_ GE185.out) | exact HB.out)) hb)
    clear HO189
    clear BK185
    clear HB
    have HO189 := n0_
    have BK185 := n1_
    have HB := n2_
    clear n0_ n1_ n2_
    (try clear hb)
    (try clear hb2)
    (try clear hk)
    (try clear hi)
    refine hK.out _ _ ⟨(blk_cell BK185.out 0).trans rfl, (blk_cell BK185.out 1).trans rfl, (blk_cell BK185.out 2).trans rfl, (blk_cell BK185.out 3).trans rfl, (blk_cell BK185.out 4).trans rfl, (blk_cell BK185.out 5).trans rfl, (blk_cell BK185.out 6).trans rfl, (blk_cell BK185.out 7).trans rfl, (blk_cell BK185.out 8).trans rfl⟩ (fun hHeld => ?_)
    clear hK K
    refine norm_ (a' := ?_) ?_ ?_
    rotate_left
    · show Act.put _ (some 11) _ = _
      simp only [Act.put, List.setIfInBounds_toArray, List.set_cons_zero, List.set_cons_succ, i64_w, i32_w]
      rfl
    refine one_ (i := 3) (N := some 13) #[true, true, true, true, false] rfl rfl (by kernel_rfl) (by decide) (fun K hK => ?_)
    refine goes_ Try.func29 (by kernel_rfl) rfl #[.agg #[.int .i64 a0_0, .int .u32 a0_1, .int .u32 a0_2, .int .u32 a0_3, .int .u32 a0_4, .int .i64 a0_5, .bool a0_6, .int .u32 a0_7, .int .u16 a0_8]] (by rfl) rfl rfl (by (try simp only [List.map_toArray, List.map_cons, List.map_nil]); first | done | rfl | (simp only [List.length_drop, List.length_take]; rfl)) ?_
    with_reducible refine (wayfarerlaw05_Right.calls a0_0 a0_1 a0_2 a0_3 a0_4 a0_5 a0_6 a0_7 a0_8 t191 _ A6.out).mono ?_
    rintro e w84 ⟨rfl, hb⟩
    refine ⟨_, rfl, ?_⟩
    have n0_ := Aside0.mk (Kd.R_below (by (with_reducible repeat (first | apply Kd.R_alloc | apply Kd.R_drewN | apply Kd.R_drew)); exact HO189.out) hb)
    have n1_ := Aside0.mk (blk_below (g := gb185) (o := .cells #[.int .i64 a0_0, .int .u32 a0_1, .int .u32 a0_2, .int .u32 a0_3, .int .u32 a0_4, .int .i64 a0_5, .bool a0_6, .int .u32 a0_7, .int .u16 a0_8] 50 (0, 0)) (by (with_reducible repeat (first | refine blk_drewN ?_ _ | refine blk_drew ?_ | refine blk_alloc ?_ _)); exact BK185.out) hb)
    have n2_ := Aside0.mk (below_step (by repeat (first | (with_reducible first | exact HB.out | apply below_alloc | apply pw_below_drewN | apply below_drew1 | refine below_set ?_ GE185.out) | exact HB.out)) hb)
    clear HO189
    clear BK185
    clear HB
    have HO189 := n0_
    have BK185 := n1_
    have HB := n2_
    clear n0_ n1_ n2_
    (try clear hb)
    (try clear hb2)
    (try clear hk)
    (try clear hi)
    refine hK.out _ _ ⟨(blk_cell BK185.out 0).trans rfl, (blk_cell BK185.out 1).trans rfl, (blk_cell BK185.out 2).trans rfl, (blk_cell BK185.out 3).trans rfl, (blk_cell BK185.out 4).trans rfl, (blk_cell BK185.out 5).trans rfl, (blk_cell BK185.out 6).trans rfl, (blk_cell BK185.out 7).trans rfl, (blk_cell BK185.out 8).trans rfl⟩ (fun hHeld => ?_)
    clear hK K
    refine norm_ (a' := ?_) ?_ ?_
    rotate_left
    · show Act.put _ (some 13) _ = _
      simp only [Act.put, List.setIfInBounds_toArray, List.set_cons_zero, List.set_cons_succ, i64_w, i32_w]
      rfl
    refine pure_ (i := 4) (N := some 14) (v := ?_) (a' := ?_) #[true, true, true, true, true] rfl rfl (by kernel_rfl) (fun _ _ _ h => h) (Or.inl ⟨by rfl, ?_⟩) ?_ ?_; rotate_left
    · intro w'; go_simp; with_reducible rfl
    rotate_left; · simp only [Act.put, List.setIfInBounds_toArray, List.set_cons_zero, List.set_cons_succ, i64_w, i32_w]; rfl
    refine done_ (by kernel_rfl) ?_
    have hcz85_0 : w84.cell? ⟨gb185, 0, none⟩ = some (.int .i64 a0_0) := (blk_cell BK185.out 0).trans rfl
    have hcz85_1 : w84.cell? ⟨gb185, 1, none⟩ = some (.int .u32 a0_1) := (blk_cell BK185.out 1).trans rfl
    have hcz85_2 : w84.cell? ⟨gb185, 2, none⟩ = some (.int .u32 a0_2) := (blk_cell BK185.out 2).trans rfl
    have hcz85_3 : w84.cell? ⟨gb185, 3, none⟩ = some (.int .u32 a0_3) := (blk_cell BK185.out 3).trans rfl
    have hcz85_4 : w84.cell? ⟨gb185, 4, none⟩ = some (.int .u32 a0_4) := (blk_cell BK185.out 4).trans rfl
    have hcz85_5 : w84.cell? ⟨gb185, 5, none⟩ = some (.int .i64 a0_5) := (blk_cell BK185.out 5).trans rfl
    have hcz85_6 : w84.cell? ⟨gb185, 6, none⟩ = some (.bool a0_6) := (blk_cell BK185.out 6).trans rfl
    have hcz85_7 : w84.cell? ⟨gb185, 7, none⟩ = some (.int .u32 a0_7) := (blk_cell BK185.out 7).trans rfl
    have hcz85_8 : w84.cell? ⟨gb185, 8, none⟩ = some (.int .u16 a0_8) := (blk_cell BK185.out 8).trans rfl
    have hfz85_0 := blk_frozen BK185.out 0
    have hfz85_1 := blk_frozen BK185.out 1
    have hfz85_2 := blk_frozen BK185.out 2
    have hfz85_3 := blk_frozen BK185.out 3
    have hfz85_4 := blk_frozen BK185.out 4
    have hfz85_5 := blk_frozen BK185.out 5
    have hfz85_6 := blk_frozen BK185.out 6
    have hfz85_7 := blk_frozen BK185.out 7
    have hfz85_8 := blk_frozen BK185.out 8
    try go_wp2_with (first | ((with_reducible refine gate_callee (f := 29) rfl ?_); refine goesL_ (some 16) rfl rfl Try.func29 (by kernel_rfl) rfl #[.agg #[.int .i64 a0_0, .int .u32 a0_1, .int .u32 a0_2, .int .u32 a0_3, .int .u32 a0_4, .int .i64 a0_5, .bool a0_6, .int .u32 a0_7, .int .u16 a0_8]] rfl (by (try simp only [List.map_toArray, List.map_cons, List.map_nil]); first | done | rfl | (simp only [List.length_drop, List.length_take]; rfl)) ?_; (with_reducible refine (wayfarerlaw05_Right.calls a0_0 a0_1 a0_2 a0_3 a0_4 a0_5 a0_6 a0_7 a0_8 false _ A15.out).mono ?_); rintro e w86 ⟨rfl, hb⟩; refine ⟨_, rfl, ?_⟩; have n0_ := Aside0.mk (Kd.R_below (by (with_reducible repeat (first | apply Kd.R_alloc | apply Kd.R_drewN | apply Kd.R_drew)); exact HO189.out) hb); have n1_ := Aside0.mk (blk_below (g := gb185) (o := .cells #[.int .i64 a0_0, .int .u32 a0_1, .int .u32 a0_2, .int .u32 a0_3, .int .u32 a0_4, .int .i64 a0_5, .bool a0_6, .int .u32 a0_7, .int .u16 a0_8] 50 (0, 0)) (by (with_reducible repeat (first | refine blk_drewN ?_ _ | refine blk_drew ?_ | refine blk_alloc ?_ _)); exact BK185.out) hb); have n2_ := Aside0.mk (below_step (by repeat (first | (with_reducible first | exact HB.out | apply below_alloc | apply pw_below_drewN | apply below_drew1 | refine below_set ?_ GE185.out) | exact HB.out)) hb); clear HO189; clear BK185; clear HB; have HO189 := n0_; have BK185 := n1_; have HB := n2_; clear n0_ n1_ n2_; (try clear hb); (try clear hb2); (try clear hk); (try clear hi); obtain ⟨Ao87, co87, eo87⟩ := Kd.R_slice HO189.out; subst eo87))
    go_ret
    exact ⟨by first | rfl | (simp [errW_none, errW_some] <;> rfl) | (simp [*, errW_none, errW_some] <;> rfl), by repeat (first | (with_reducible first | exact HB.out | apply below_alloc | apply pw_below_drewN | apply below_drew1 | refine below_set ?_ GE185.out) | exact HB.out)⟩
  subst c16
  have H1 : ((rec_Of.f k t187).bind fun bt193 => ((wayfarerlaw05_Bytes.f k a0_0 a0_1 a0_2 a0_3 a0_4 a0_5 a0_6 a0_7 a0_8).bind fun t204 => (if (strOfNums t187).toList = (strOfNums t204).toList then (if bt193.2.2.2.2.2.2.2.2.2 = true then (some (bt193.1 == a0_0 && (bt193.2.1 == a0_1 && (bt193.2.2.1 == a0_2 && (bt193.2.2.2.1 == a0_3 && ((bt193.2.2.2.2.1 == a0_4 && (bt193.2.2.2.2.2.1 == a0_5)) && (bt193.2.2.2.2.2.2.1 == a0_6 && ((bt193.2.2.2.2.2.2.2.1 == a0_7 && (bt193.2.2.2.2.2.2.2.2.1 == a0_8)))))))))) else (some false)) else (some false)))) = some r := by rw [if_pos rfl] at H; exact H
  clear H
  have H := H1
  clear H1
  replace H := Option.bind_eq_some_iff.mp H
  obtain ⟨⟨t193, t194, t195, t196, t197, t198, t199, t200, t201, t202⟩, A170, H⟩ := H
  replace H : ((wayfarerlaw05_Bytes.f k a0_0 a0_1 a0_2 a0_3 a0_4 a0_5 a0_6 a0_7 a0_8).bind fun t204 => (if (strOfNums t187).toList = (strOfNums t204).toList then (if t202 = true then (some (t193 == a0_0 && (t194 == a0_1 && (t195 == a0_2 && (t196 == a0_3 && ((t197 == a0_4 && (t198 == a0_5)) && (t199 == a0_6 && ((t200 == a0_7 && (t201 == a0_8)))))))))) else (some false)) else (some false))) = some r := H
  have A17 := Aside0.mk A170
  clear A170
  replace H := Option.bind_eq_some_iff.mp H
  obtain ⟨t204, A180, H⟩ := H
  replace H : (if (strOfNums t187).toList = (strOfNums t204).toList then (if t202 = true then (some (t193 == a0_0 && (t194 == a0_1 && (t195 == a0_2 && (t196 == a0_3 && ((t197 == a0_4 && (t198 == a0_5)) && (t199 == a0_6 && ((t200 == a0_7 && (t201 == a0_8)))))))))) else (some false)) else (some false)) = some r := H
  have A18 := Aside0.mk A180
  clear A180
  by_cases c19 : (strOfNums t187).toList = (strOfNums t204).toList
  case neg =>
    rw [if_neg c19] at H; have c19b0 : ((strOfNums t187).toList == (strOfNums t204).toList) = false := beq_eq_false_iff_ne.mpr c19
    have c19b1 : ((strOfNums t187).toList != (strOfNums t204).toList) = true := bne_iff_ne.mpr c19
    obtain rfl := Option.some.inj H
    go_enter Try.func8, Try.ntmps8
    try go_wp2_with (first | ((with_reducible refine gate_dst (N := 1) rfl ?_); refine box_event ?hg (N := 1) ?hd (cs := #[.int .i64 a0_0, .int .u32 a0_1, .int .u32 a0_2, .int .u32 a0_3, .int .u32 a0_4, .int .i64 a0_5, .bool a0_6, .int .u32 a0_7, .int .u16 a0_8]) (t := 50) ?hr ?_; (case hd => rfl); (case hg => rfl); (case hr => first | (go_simp; done) | (go_simp; rfl)); intro gb185 hg w59 hbox hb; have n0_ := Aside0.mk (below_step (by repeat (first | (with_reducible first | exact HB.out | apply below_alloc | apply pw_below_drewN | apply below_drew1) | exact HB.out)) hb); have n1_ := Aside0.mk (hbox); have n2_ := Aside0.mk ((by rw [hg]; exact (below_size (by repeat (first | (with_reducible first | exact HB.out | apply below_alloc | apply pw_below_drewN | apply below_drew1) | exact HB.out))) : w.heap.size ≤ gb185)); have n3_ := Aside0.mk ((by rw [hg]; exact (below_size (by repeat (first | (with_reducible first | exact HB.out | apply below_alloc | apply pw_below_drewN | apply below_drew1) | exact HB.out))) : w.heap.size ≤ gb185)); clear HB; have HB := n0_; have BK185 := n1_; have GW185 := n2_; have GE185 := n3_; clear n0_ n1_ n2_ n3_; clear hb hbox hg) | ((with_reducible refine gate_callee (f := 26) rfl ?_); refine goesL_ (some 6) rfl rfl Try.func26 (by kernel_rfl) rfl #[] rfl (by (try simp only [List.map_toArray, List.map_cons, List.map_nil]); first | done | rfl | (simp only [List.length_drop, List.length_take]; rfl)) ?_; (with_reducible refine (wayfarerlaw05_head.calls k  true _ A2.out).mono ?_); rintro e w60 ⟨rfl, hb⟩; refine ⟨_, rfl, ?_⟩; have n0_ := Aside0.mk (blk_below (g := gb185) (o := .cells #[.int .i64 a0_0, .int .u32 a0_1, .int .u32 a0_2, .int .u32 a0_3, .int .u32 a0_4, .int .i64 a0_5, .bool a0_6, .int .u32 a0_7, .int .u16 a0_8] 50 (0, 0)) (by (with_reducible repeat (first | refine blk_drewN ?_ _ | refine blk_drew ?_ | refine blk_alloc ?_ _)); exact BK185.out) hb); have n1_ := Aside0.mk (below_step (by repeat (first | (with_reducible first | exact HB.out | apply below_alloc | apply pw_below_drewN | apply below_drew1 | refine below_set ?_ GE185.out) | exact HB.out)) hb); clear BK185; clear HB; have BK185 := n0_; have HB := n1_; clear n0_ n1_; (try clear hb); (try clear hb2); (try clear hk); (try clear hi); have hcz61_0 : w60.cell? ⟨gb185, 0, none⟩ = some (.int .i64 a0_0) := (blk_cell BK185.out 0).trans rfl; have hcz61_1 : w60.cell? ⟨gb185, 1, none⟩ = some (.int .u32 a0_1) := (blk_cell BK185.out 1).trans rfl; have hcz61_2 : w60.cell? ⟨gb185, 2, none⟩ = some (.int .u32 a0_2) := (blk_cell BK185.out 2).trans rfl; have hcz61_3 : w60.cell? ⟨gb185, 3, none⟩ = some (.int .u32 a0_3) := (blk_cell BK185.out 3).trans rfl; have hcz61_4 : w60.cell? ⟨gb185, 4, none⟩ = some (.int .u32 a0_4) := (blk_cell BK185.out 4).trans rfl; have hcz61_5 : w60.cell? ⟨gb185, 5, none⟩ = some (.int .i64 a0_5) := (blk_cell BK185.out 5).trans rfl; have hcz61_6 : w60.cell? ⟨gb185, 6, none⟩ = some (.bool a0_6) := (blk_cell BK185.out 6).trans rfl; have hcz61_7 : w60.cell? ⟨gb185, 7, none⟩ = some (.int .u32 a0_7) := (blk_cell BK185.out 7).trans rfl; have hcz61_8 : w60.cell? ⟨gb185, 8, none⟩ = some (.int .u16 a0_8) := (blk_cell BK185.out 8).trans rfl; have hfz61_0 := blk_frozen BK185.out 0; have hfz61_1 := blk_frozen BK185.out 1; have hfz61_2 := blk_frozen BK185.out 2; have hfz61_3 := blk_frozen BK185.out 3; have hfz61_4 := blk_frozen BK185.out 4; have hfz61_5 := blk_frozen BK185.out 5; have hfz61_6 := blk_frozen BK185.out 6; have hfz61_7 := blk_frozen BK185.out 7; have hfz61_8 := blk_frozen BK185.out 8) | ((with_reducible refine gate_callee (f := 27) rfl ?_); refine goesL_ (some 9) rfl rfl Try.func27 (by kernel_rfl) rfl #[.agg #[.int .i64 a0_0, .int .u32 a0_1, .int .u32 a0_2, .int .u32 a0_3, .int .u32 a0_4, .int .i64 a0_5, .bool a0_6, .int .u32 a0_7, .int .u16 a0_8]] rfl (by (try simp only [List.map_toArray, List.map_cons, List.map_nil]); first | done | rfl | (simp only [List.length_drop, List.length_take]; rfl)) ?_; (with_reducible refine (rec_Rec_Sector.calls a0_0 a0_1 a0_2 a0_3 a0_4 a0_5 a0_6 a0_7 a0_8 t187 _ A4.out).mono ?_); rintro e w62 ⟨v188, rfl, ho0, hb⟩; refine ⟨_, rfl, ?_⟩; have n0_ := Aside0.mk (Kd.R_lower ho0 (below_size (by repeat (first | (with_reducible first | exact HB.out | apply below_alloc | apply pw_below_drewN | apply below_drew1 | refine below_set ?_ GE185.out) | exact HB.out)))); have n1_ := Aside0.mk (blk_below (g := gb185) (o := .cells #[.int .i64 a0_0, .int .u32 a0_1, .int .u32 a0_2, .int .u32 a0_3, .int .u32 a0_4, .int .i64 a0_5, .bool a0_6, .int .u32 a0_7, .int .u16 a0_8] 50 (0, 0)) (by (with_reducible repeat (first | refine blk_drewN ?_ _ | refine blk_drew ?_ | refine blk_alloc ?_ _)); exact BK185.out) hb); have n2_ := Aside0.mk (below_step (by repeat (first | (with_reducible first | exact HB.out | apply below_alloc | apply pw_below_drewN | apply below_drew1 | refine below_set ?_ GE185.out) | exact HB.out)) hb); clear BK185; clear HB; have HO189 := n0_; have BK185 := n1_; have HB := n2_; clear n0_ n1_ n2_; (try clear hb); (try clear hb2); (try clear hk); (try clear hi); (try clear ho0)))
    have n0_ := Aside0.mk (Kd.R_drew HO189.out)
    have n1_ := Aside0.mk (blk_drew BK185.out)
    have n2_ := Aside0.mk (below_drew1 HB.out)
    clear HO189
    clear BK185
    clear HB
    have HO189 := n0_
    have BK185 := n1_
    have HB := n2_
    clear n0_ n1_ n2_
    refine start_ (n := 5) (S := fun w' => w'.cell? ⟨gb185, 0, none⟩ = some (.int .i64 a0_0) ∧ w'.cell? ⟨gb185, 1, none⟩ = some (.int .u32 a0_1) ∧ w'.cell? ⟨gb185, 2, none⟩ = some (.int .u32 a0_2) ∧ w'.cell? ⟨gb185, 3, none⟩ = some (.int .u32 a0_3) ∧ w'.cell? ⟨gb185, 4, none⟩ = some (.int .u32 a0_4) ∧ w'.cell? ⟨gb185, 5, none⟩ = some (.int .i64 a0_5) ∧ w'.cell? ⟨gb185, 6, none⟩ = some (.bool a0_6) ∧ w'.cell? ⟨gb185, 7, none⟩ = some (.int .u32 a0_7) ∧ w'.cell? ⟨gb185, 8, none⟩ = some (.int .u16 a0_8)) (ds := []) #[false, false, false, false, false] (by kernel_rfl) rfl rfl ⟨(blk_cell BK185.out 0).trans rfl, (blk_cell BK185.out 1).trans rfl, (blk_cell BK185.out 2).trans rfl, (blk_cell BK185.out 3).trans rfl, (blk_cell BK185.out 4).trans rfl, (blk_cell BK185.out 5).trans rfl, (blk_cell BK185.out 6).trans rfl, (blk_cell BK185.out 7).trans rfl, (blk_cell BK185.out 8).trans rfl⟩ (fun hHeld => ?_)
    generalize w62.drew = w63 at HO189 BK185 HB hHeld ⊢
    refine take_ (i := 0) (N := some 10) (v := ?_) (a' := ?_) #[true, false, false, false, false] rfl rfl (by kernel_rfl) (fun _ _ _ h => h) (Or.inl ⟨by rfl, ?_⟩) hHeld ?_ ?_; rotate_left
    · rintro w' ⟨s0, s1, s2, s3, s4, s5, s6, s7, s8⟩
      go_simp
      with_reducible rfl
    rotate_left
    · simp only [Act.put, List.setIfInBounds_toArray, List.set_cons_zero, List.set_cons_succ, i64_w, i32_w]; rfl
    refine take_ (i := 2) (N := some 12) (v := ?_) (a' := ?_) #[true, false, true, false, false] rfl rfl (by kernel_rfl) (fun _ _ _ h => h) (Or.inl ⟨by rfl, ?_⟩) hHeld ?_ ?_; rotate_left
    · rintro w' ⟨s0, s1, s2, s3, s4, s5, s6, s7, s8⟩
      go_simp
      with_reducible rfl
    rotate_left
    · simp only [Act.put, List.setIfInBounds_toArray, List.set_cons_zero, List.set_cons_succ, i64_w, i32_w]; rfl
    refine one_ (i := 1) (N := some 11) #[true, true, true, false, false] rfl rfl (by kernel_rfl) (by decide) (fun K hK => ?_)
    refine goes_ Try.func28 (by kernel_rfl) rfl #[.agg #[.int .i64 a0_0, .int .u32 a0_1, .int .u32 a0_2, .int .u32 a0_3, .int .u32 a0_4, .int .i64 a0_5, .bool a0_6, .int .u32 a0_7, .int .u16 a0_8]] (by rfl) rfl rfl (by (try simp only [List.map_toArray, List.map_cons, List.map_nil]); first | done | rfl | (simp only [List.length_drop, List.length_take]; rfl)) ?_
    with_reducible refine (rec_Rec_Right.calls a0_0 a0_1 a0_2 a0_3 a0_4 a0_5 a0_6 a0_7 a0_8 t190 _ A5.out).mono ?_
    rintro e w64 ⟨rfl, hb⟩
    refine ⟨_, rfl, ?_⟩
    have n0_ := Aside0.mk (Kd.R_below (by (with_reducible repeat (first | apply Kd.R_alloc | apply Kd.R_drewN | apply Kd.R_drew)); exact HO189.out) hb)
    have n1_ := Aside0.mk (blk_below (g := gb185) (o := .cells #[.int .i64 a0_0, .int .u32 a0_1, .int .u32 a0_2, .int .u32 a0_3, .int .u32 a0_4, .int .i64 a0_5, .bool a0_6, .int .u32 a0_7, .int .u16 a0_8] 50 (0, 0)) (by (with_reducible repeat (first | refine blk_drewN ?_ _ | refine blk_drew ?_ | refine blk_alloc ?_ _)); exact BK185.out) hb)
    have n2_ := Aside0.mk (below_step (by repeat (first | (with_reducible first | exact HB.out | apply below_alloc | apply pw_below_drewN | apply below_drew1 | refine below_set ?_ GE185.out) | exact HB.out)) hb)
    clear HO189
    clear BK185
    clear HB
    have HO189 := n0_
    have BK185 := n1_
    have HB := n2_
    clear n0_ n1_ n2_
    (try clear hb)
    (try clear hb2)
    (try clear hk)
    (try clear hi)
    refine hK.out _ _ ⟨(blk_cell BK185.out 0).trans rfl, (blk_cell BK185.out 1).trans rfl, (blk_cell BK185.out 2).trans rfl, (blk_cell BK185.out 3).trans rfl, (blk_cell BK185.out 4).trans rfl, (blk_cell BK185.out 5).trans rfl, (blk_cell BK185.out 6).trans rfl, (blk_cell BK185.out 7).trans rfl, (blk_cell BK185.out 8).trans rfl⟩ (fun hHeld => ?_)
    clear hK K
    refine norm_ (a' := ?_) ?_ ?_
    rotate_left
    · show Act.put _ (some 11) _ = _
      simp only [Act.put, List.setIfInBounds_toArray, List.set_cons_zero, List.set_cons_succ, i64_w, i32_w]
      rfl
    refine one_ (i := 3) (N := some 13) #[true, true, true, true, false] rfl rfl (by kernel_rfl) (by decide) (fun K hK => ?_)
    refine goes_ Try.func29 (by kernel_rfl) rfl #[.agg #[.int .i64 a0_0, .int .u32 a0_1, .int .u32 a0_2, .int .u32 a0_3, .int .u32 a0_4, .int .i64 a0_5, .bool a0_6, .int .u32 a0_7, .int .u16 a0_8]] (by rfl) rfl rfl (by (try simp only [List.map_toArray, List.map_cons, List.map_nil]); first | done | rfl | (simp only [List.length_drop, List.length_take]; rfl)) ?_
    with_reducible refine (wayfarerlaw05_Right.calls a0_0 a0_1 a0_2 a0_3 a0_4 a0_5 a0_6 a0_7 a0_8 t191 _ A6.out).mono ?_
    rintro e w65 ⟨rfl, hb⟩
    refine ⟨_, rfl, ?_⟩
    have n0_ := Aside0.mk (Kd.R_below (by (with_reducible repeat (first | apply Kd.R_alloc | apply Kd.R_drewN | apply Kd.R_drew)); exact HO189.out) hb)
    have n1_ := Aside0.mk (blk_below (g := gb185) (o := .cells #[.int .i64 a0_0, .int .u32 a0_1, .int .u32 a0_2, .int .u32 a0_3, .int .u32 a0_4, .int .i64 a0_5, .bool a0_6, .int .u32 a0_7, .int .u16 a0_8] 50 (0, 0)) (by (with_reducible repeat (first | refine blk_drewN ?_ _ | refine blk_drew ?_ | refine blk_alloc ?_ _)); exact BK185.out) hb)
    have n2_ := Aside0.mk (below_step (by repeat (first | (with_reducible first | exact HB.out | apply below_alloc | apply pw_below_drewN | apply below_drew1 | refine below_set ?_ GE185.out) | exact HB.out)) hb)
    clear HO189
    clear BK185
    clear HB
    have HO189 := n0_
    have BK185 := n1_
    have HB := n2_
    clear n0_ n1_ n2_
    (try clear hb)
    (try clear hb2)
    (try clear hk)
    (try clear hi)
    refine hK.out _ _ ⟨(blk_cell BK185.out 0).trans rfl, (blk_cell BK185.out 1).trans rfl, (blk_cell BK185.out 2).trans rfl, (blk_cell BK185.out 3).trans rfl, (blk_cell BK185.out 4).trans rfl, (blk_cell BK185.out 5).trans rfl, (blk_cell BK185.out 6).trans rfl, (blk_cell BK185.out 7).trans rfl, (blk_cell BK185.out 8).trans rfl⟩ (fun hHeld => ?_)
    clear hK K
    refine norm_ (a' := ?_) ?_ ?_
    rotate_left
    · show Act.put _ (some 13) _ = _
      simp only [Act.put, List.setIfInBounds_toArray, List.set_cons_zero, List.set_cons_succ, i64_w, i32_w]
      rfl
    refine pure_ (i := 4) (N := some 14) (v := ?_) (a' := ?_) #[true, true, true, true, true] rfl rfl (by kernel_rfl) (fun _ _ _ h => h) (Or.inl ⟨by rfl, ?_⟩) ?_ ?_; rotate_left
    · intro w'; go_simp; with_reducible rfl
    rotate_left; · simp only [Act.put, List.setIfInBounds_toArray, List.set_cons_zero, List.set_cons_succ, i64_w, i32_w]; rfl
    refine done_ (by kernel_rfl) ?_
    have hcz66_0 : w65.cell? ⟨gb185, 0, none⟩ = some (.int .i64 a0_0) := (blk_cell BK185.out 0).trans rfl
    have hcz66_1 : w65.cell? ⟨gb185, 1, none⟩ = some (.int .u32 a0_1) := (blk_cell BK185.out 1).trans rfl
    have hcz66_2 : w65.cell? ⟨gb185, 2, none⟩ = some (.int .u32 a0_2) := (blk_cell BK185.out 2).trans rfl
    have hcz66_3 : w65.cell? ⟨gb185, 3, none⟩ = some (.int .u32 a0_3) := (blk_cell BK185.out 3).trans rfl
    have hcz66_4 : w65.cell? ⟨gb185, 4, none⟩ = some (.int .u32 a0_4) := (blk_cell BK185.out 4).trans rfl
    have hcz66_5 : w65.cell? ⟨gb185, 5, none⟩ = some (.int .i64 a0_5) := (blk_cell BK185.out 5).trans rfl
    have hcz66_6 : w65.cell? ⟨gb185, 6, none⟩ = some (.bool a0_6) := (blk_cell BK185.out 6).trans rfl
    have hcz66_7 : w65.cell? ⟨gb185, 7, none⟩ = some (.int .u32 a0_7) := (blk_cell BK185.out 7).trans rfl
    have hcz66_8 : w65.cell? ⟨gb185, 8, none⟩ = some (.int .u16 a0_8) := (blk_cell BK185.out 8).trans rfl
    have hfz66_0 := blk_frozen BK185.out 0
    have hfz66_1 := blk_frozen BK185.out 1
    have hfz66_2 := blk_frozen BK185.out 2
    have hfz66_3 := blk_frozen BK185.out 3
    have hfz66_4 := blk_frozen BK185.out 4
    have hfz66_5 := blk_frozen BK185.out 5
    have hfz66_6 := blk_frozen BK185.out 6
    have hfz66_7 := blk_frozen BK185.out 7
    have hfz66_8 := blk_frozen BK185.out 8
    try go_wp2_with (first | ((with_reducible refine gate_callee (f := 29) rfl ?_); refine goesL_ (some 16) rfl rfl Try.func29 (by kernel_rfl) rfl #[.agg #[.int .i64 a0_0, .int .u32 a0_1, .int .u32 a0_2, .int .u32 a0_3, .int .u32 a0_4, .int .i64 a0_5, .bool a0_6, .int .u32 a0_7, .int .u16 a0_8]] rfl (by (try simp only [List.map_toArray, List.map_cons, List.map_nil]); first | done | rfl | (simp only [List.length_drop, List.length_take]; rfl)) ?_; (with_reducible refine (wayfarerlaw05_Right.calls a0_0 a0_1 a0_2 a0_3 a0_4 a0_5 a0_6 a0_7 a0_8 true _ A15.out).mono ?_); rintro e w67 ⟨rfl, hb⟩; refine ⟨_, rfl, ?_⟩; have n0_ := Aside0.mk (Kd.R_below (by (with_reducible repeat (first | apply Kd.R_alloc | apply Kd.R_drewN | apply Kd.R_drew)); exact HO189.out) hb); have n1_ := Aside0.mk (blk_below (g := gb185) (o := .cells #[.int .i64 a0_0, .int .u32 a0_1, .int .u32 a0_2, .int .u32 a0_3, .int .u32 a0_4, .int .i64 a0_5, .bool a0_6, .int .u32 a0_7, .int .u16 a0_8] 50 (0, 0)) (by (with_reducible repeat (first | refine blk_drewN ?_ _ | refine blk_drew ?_ | refine blk_alloc ?_ _)); exact BK185.out) hb); have n2_ := Aside0.mk (below_step (by repeat (first | (with_reducible first | exact HB.out | apply below_alloc | apply pw_below_drewN | apply below_drew1 | refine below_set ?_ GE185.out) | exact HB.out)) hb); clear HO189; clear BK185; clear HB; have HO189 := n0_; have BK185 := n1_; have HB := n2_; clear n0_ n1_ n2_; (try clear hb); (try clear hb2); (try clear hk); (try clear hi); obtain ⟨Ao68, co68, eo68⟩ := Kd.R_slice HO189.out; subst eo68) | ((with_reducible refine gate_callee (f := 30) rfl ?_); refine goesL_ (some 23) rfl rfl Try.func30 (by kernel_rfl) rfl #[.slice Ao68 t187.length co68] rfl (by (try simp only [List.map_toArray, List.map_cons, List.map_nil]); first | done | rfl | (simp only [List.length_drop, List.length_take]; rfl)) ?_; (with_reducible refine (rec_Of.calls k _ _ t187 t193 t194 t195 t196 t197 t198 t199 t200 t201 t202 _ ?side1 ?side2 A17.out).mono ?_); (case side1 => repeat (first | exact (Kd.R_reads' HO189.out).2.2 | (with_reducible refine Kd.C_alloc ?_ _) | (with_reducible refine Kd.C_drewN ?_ _) | (with_reducible refine Kd.C_drew ?_))); (case side2 => exact (Kd.R_reads' HO189.out).2.1); rintro e w69 ⟨rfl, hb⟩; refine ⟨_, rfl, ?_⟩; have n0_ := Aside0.mk (Kd.R_below (by (with_reducible repeat (first | apply Kd.R_alloc | apply Kd.R_drewN | apply Kd.R_drew)); exact HO189.out) hb); have n1_ := Aside0.mk (blk_below (g := gb185) (o := .cells #[.int .i64 a0_0, .int .u32 a0_1, .int .u32 a0_2, .int .u32 a0_3, .int .u32 a0_4, .int .i64 a0_5, .bool a0_6, .int .u32 a0_7, .int .u16 a0_8] 50 (0, 0)) (by (with_reducible repeat (first | refine blk_drewN ?_ _ | refine blk_drew ?_ | refine blk_alloc ?_ _)); exact BK185.out) hb); have n2_ := Aside0.mk (below_step (by repeat (first | (with_reducible first | exact HB.out | apply below_alloc | apply pw_below_drewN | apply below_drew1 | refine below_set ?_ GE185.out) | exact HB.out)) hb); clear HO189; clear BK185; clear HB; have HO189 := n0_; have BK185 := n1_; have HB := n2_; clear n0_ n1_ n2_; (try clear hb); (try clear hb2); (try clear hk); (try clear hi)) | ((with_reducible refine gate_dst (N := 4) rfl ?_); refine box_event ?hg (N := 4) ?hd (cs := #[.int .i64 0, .int .u32 0, .int .u32 0, .int .u32 0, .int .u32 0, .int .i64 0, .bool false, .int .u32 0, .int .u16 0]) (t := 50) ?hr ?_; (case hd => rfl); (case hg => rfl); (case hr => first | (go_simp; done) | (go_simp; rfl)); intro gb203 hg w70 hbox hb; have n0_ := Aside0.mk (Kd.R_below (by (with_reducible repeat (first | apply Kd.R_alloc | apply Kd.R_drewN | apply Kd.R_drew)); exact HO189.out) hb); have n1_ := Aside0.mk (blk_below (g := gb185) (o := .cells #[.int .i64 a0_0, .int .u32 a0_1, .int .u32 a0_2, .int .u32 a0_3, .int .u32 a0_4, .int .i64 a0_5, .bool a0_6, .int .u32 a0_7, .int .u16 a0_8] 50 (0, 0)) (by (with_reducible repeat (first | refine blk_drewN ?_ _ | refine blk_drew ?_ | refine blk_alloc ?_ _)); exact BK185.out) hb); have n2_ := Aside0.mk (below_step (by repeat (first | (with_reducible first | exact HB.out | apply below_alloc | apply pw_below_drewN | apply below_drew1 | refine below_set ?_ GE185.out) | exact HB.out)) hb); have n3_ := Aside0.mk (hbox); have n4_ := Aside0.mk ((by rw [hg]; exact (below_size (by repeat (first | (with_reducible first | exact HB.out | apply below_alloc | apply pw_below_drewN | apply below_drew1 | refine below_set ?_ GE185.out) | exact HB.out))) : w.heap.size ≤ gb203)); have n5_ := Aside0.mk ((by rw [hg]; exact (below_size (by repeat (first | (with_reducible first | exact HB.out | apply below_alloc | apply pw_below_drewN | apply below_drew1 | refine below_set ?_ GE185.out) | exact HB.out))) : w.heap.size ≤ gb203)); have n6_ := Aside0.mk ((by rw [hg]; exact Nat.ne_of_lt (blk_lt (g := gb185) (o := .cells #[.int .i64 a0_0, .int .u32 a0_1, .int .u32 a0_2, .int .u32 a0_3, .int .u32 a0_4, .int .i64 a0_5, .bool a0_6, .int .u32 a0_7, .int .u16 a0_8] 50 (0, 0)) (by (with_reducible repeat (first | refine blk_drewN ?_ _ | refine blk_drew ?_ | refine blk_alloc ?_ _)); exact BK185.out)) : gb185 ≠ gb203)); have n7_ := Aside0.mk ((by rw [hg]; exact Nat.ne_of_gt (blk_lt (g := gb185) (o := .cells #[.int .i64 a0_0, .int .u32 a0_1, .int .u32 a0_2, .int .u32 a0_3, .int .u32 a0_4, .int .i64 a0_5, .bool a0_6, .int .u32 a0_7, .int .u16 a0_8] 50 (0, 0)) (by (with_reducible repeat (first | refine blk_drewN ?_ _ | refine blk_drew ?_ | refine blk_alloc ?_ _)); exact BK185.out)) : gb203 ≠ gb185)); clear HO189; clear BK185; clear HB; have HO189 := n0_; have BK185 := n1_; have HB := n2_; have BK203 := n3_; have GW203 := n4_; have GE203 := n5_; have NB185_203 := n6_; have NB203_185 := n7_; clear n0_ n1_ n2_ n3_ n4_ n5_ n6_ n7_; clear hb hbox hg; have hnb71 := NB203_185.out; have hnc71 := NB185_203.out; have hcz72_0 : w70.cell? ⟨gb203, 0, none⟩ = some (.int .i64 0) := (blk_cell BK203.out 0).trans rfl; have hcz72_1 : w70.cell? ⟨gb203, 1, none⟩ = some (.int .u32 0) := (blk_cell BK203.out 1).trans rfl; have hcz72_2 : w70.cell? ⟨gb203, 2, none⟩ = some (.int .u32 0) := (blk_cell BK203.out 2).trans rfl; have hcz72_3 : w70.cell? ⟨gb203, 3, none⟩ = some (.int .u32 0) := (blk_cell BK203.out 3).trans rfl; have hcz72_4 : w70.cell? ⟨gb203, 4, none⟩ = some (.int .u32 0) := (blk_cell BK203.out 4).trans rfl; have hcz72_5 : w70.cell? ⟨gb203, 5, none⟩ = some (.int .i64 0) := (blk_cell BK203.out 5).trans rfl; have hcz72_6 : w70.cell? ⟨gb203, 6, none⟩ = some (.bool false) := (blk_cell BK203.out 6).trans rfl; have hcz72_7 : w70.cell? ⟨gb203, 7, none⟩ = some (.int .u32 0) := (blk_cell BK203.out 7).trans rfl; have hcz72_8 : w70.cell? ⟨gb203, 8, none⟩ = some (.int .u16 0) := (blk_cell BK203.out 8).trans rfl; have hfz72_0 := blk_frozen BK203.out 0; have hfz72_1 := blk_frozen BK203.out 1; have hfz72_2 := blk_frozen BK203.out 2; have hfz72_3 := blk_frozen BK203.out 3; have hfz72_4 := blk_frozen BK203.out 4; have hfz72_5 := blk_frozen BK203.out 5; have hfz72_6 := blk_frozen BK203.out 6; have hfz72_7 := blk_frozen BK203.out 7; have hfz72_8 := blk_frozen BK203.out 8))
    have n0_ : Aside0 (Kd.R (Kd.int .u8) 5 (((((((((w70.setCell ⟨gb203, 0, none⟩ (.int .i64 t193)).setCell ⟨gb203, 1, none⟩ (.int .u32 t194)).setCell ⟨gb203, 2, none⟩ (.int .u32 t195)).setCell ⟨gb203, 3, none⟩ (.int .u32 t196)).setCell ⟨gb203, 4, none⟩ (.int .u32 t197)).setCell ⟨gb203, 5, none⟩ (.int .i64 t198)).setCell ⟨gb203, 6, none⟩ (.bool t199)).setCell ⟨gb203, 7, none⟩ (.int .u32 t200)).setCell ⟨gb203, 8, none⟩ (.int .u16 t201)) w.heap.size (fun _ => True) (.slice Ao68 t187.length co68) t187) := ⟨by (with_reducible repeat (first | apply Kd.R_alloc | apply Kd.R_drewN | apply Kd.R_drew)); exact Kd.R_mono (Kd.R_far (p := ⟨gb203, 8, none⟩) (Kd.R_far (p := ⟨gb203, 7, none⟩) (Kd.R_far (p := ⟨gb203, 6, none⟩) (Kd.R_far (p := ⟨gb203, 5, none⟩) (Kd.R_far (p := ⟨gb203, 4, none⟩) (Kd.R_far (p := ⟨gb203, 3, none⟩) (Kd.R_far (p := ⟨gb203, 2, none⟩) (Kd.R_far (p := ⟨gb203, 1, none⟩) (Kd.R_far (p := ⟨gb203, 0, none⟩) (Kd.R_types HO189.out BK203.out (by decide)) (fun _ hk => hk.2) (.int .i64 t193)) (fun _ hk => hk.2) (.int .u32 t194)) (fun _ hk => hk.2) (.int .u32 t195)) (fun _ hk => hk.2) (.int .u32 t196)) (fun _ hk => hk.2) (.int .u32 t197)) (fun _ hk => hk.2) (.int .i64 t198)) (fun _ hk => hk.2) (.bool t199)) (fun _ hk => hk.2) (.int .u32 t200)) (fun _ hk => hk.2) (.int .u16 t201)) (fun _ hk => trivial)⟩
    have n1_ : Aside0 ((((((((((w70.setCell ⟨gb203, 0, none⟩ (.int .i64 t193)).setCell ⟨gb203, 1, none⟩ (.int .u32 t194)).setCell ⟨gb203, 2, none⟩ (.int .u32 t195)).setCell ⟨gb203, 3, none⟩ (.int .u32 t196)).setCell ⟨gb203, 4, none⟩ (.int .u32 t197)).setCell ⟨gb203, 5, none⟩ (.int .i64 t198)).setCell ⟨gb203, 6, none⟩ (.bool t199)).setCell ⟨gb203, 7, none⟩ (.int .u32 t200)).setCell ⟨gb203, 8, none⟩ (.int .u16 t201)).heap[gb185]? = some (.cells #[.int .i64 a0_0, .int .u32 a0_1, .int .u32 a0_2, .int .u32 a0_3, .int .u32 a0_4, .int .i64 a0_5, .bool a0_6, .int .u32 a0_7, .int .u16 a0_8] 50 (0, 0))) := ⟨by (with_reducible repeat (first | refine blk_drewN ?_ _ | refine blk_drew ?_ | refine blk_alloc ?_ _)); refine blk_far ?_ NB185_203.out _; (with_reducible repeat (first | refine blk_drewN ?_ _ | refine blk_drew ?_ | refine blk_alloc ?_ _)); refine blk_far ?_ NB185_203.out _; (with_reducible repeat (first | refine blk_drewN ?_ _ | refine blk_drew ?_ | refine blk_alloc ?_ _)); refine blk_far ?_ NB185_203.out _; (with_reducible repeat (first | refine blk_drewN ?_ _ | refine blk_drew ?_ | refine blk_alloc ?_ _)); refine blk_far ?_ NB185_203.out _; (with_reducible repeat (first | refine blk_drewN ?_ _ | refine blk_drew ?_ | refine blk_alloc ?_ _)); refine blk_far ?_ NB185_203.out _; (with_reducible repeat (first | refine blk_drewN ?_ _ | refine blk_drew ?_ | refine blk_alloc ?_ _)); refine blk_far ?_ NB185_203.out _; (with_reducible repeat (first | refine blk_drewN ?_ _ | refine blk_drew ?_ | refine blk_alloc ?_ _)); refine blk_far ?_ NB185_203.out _; (with_reducible repeat (first | refine blk_drewN ?_ _ | refine blk_drew ?_ | refine blk_alloc ?_ _)); refine blk_far ?_ NB185_203.out _; (with_reducible repeat (first | refine blk_drewN ?_ _ | refine blk_drew ?_ | refine blk_alloc ?_ _)); refine blk_far ?_ NB185_203.out _; (with_reducible repeat (first | refine blk_drewN ?_ _ | refine blk_drew ?_ | refine blk_alloc ?_ _)); exact BK185.out⟩
    have n2_ : Aside0 ((((((((((w70.setCell ⟨gb203, 0, none⟩ (.int .i64 t193)).setCell ⟨gb203, 1, none⟩ (.int .u32 t194)).setCell ⟨gb203, 2, none⟩ (.int .u32 t195)).setCell ⟨gb203, 3, none⟩ (.int .u32 t196)).setCell ⟨gb203, 4, none⟩ (.int .u32 t197)).setCell ⟨gb203, 5, none⟩ (.int .i64 t198)).setCell ⟨gb203, 6, none⟩ (.bool t199)).setCell ⟨gb203, 7, none⟩ (.int .u32 t200)).setCell ⟨gb203, 8, none⟩ (.int .u16 t201)).heap[gb203]? = some (.cells #[.int .i64 t193, .int .u32 t194, .int .u32 t195, .int .u32 t196, .int .u32 t197, .int .i64 t198, .bool t199, .int .u32 t200, .int .u16 t201] 50 (0, 0))) := ⟨by (with_reducible repeat (first | refine blk_drewN ?_ _ | refine blk_drew ?_ | refine blk_alloc ?_ _)); refine blk_put (cs := #[.int .i64 t193, .int .u32 t194, .int .u32 t195, .int .u32 t196, .int .u32 t197, .int .i64 t198, .bool t199, .int .u32 t200, .int .u16 0]) ?_ 8 _ rfl; (with_reducible repeat (first | refine blk_drewN ?_ _ | refine blk_drew ?_ | refine blk_alloc ?_ _)); refine blk_put (cs := #[.int .i64 t193, .int .u32 t194, .int .u32 t195, .int .u32 t196, .int .u32 t197, .int .i64 t198, .bool t199, .int .u32 0, .int .u16 0]) ?_ 7 _ rfl; (with_reducible repeat (first | refine blk_drewN ?_ _ | refine blk_drew ?_ | refine blk_alloc ?_ _)); refine blk_put (cs := #[.int .i64 t193, .int .u32 t194, .int .u32 t195, .int .u32 t196, .int .u32 t197, .int .i64 t198, .bool false, .int .u32 0, .int .u16 0]) ?_ 6 _ rfl; (with_reducible repeat (first | refine blk_drewN ?_ _ | refine blk_drew ?_ | refine blk_alloc ?_ _)); refine blk_put (cs := #[.int .i64 t193, .int .u32 t194, .int .u32 t195, .int .u32 t196, .int .u32 t197, .int .i64 0, .bool false, .int .u32 0, .int .u16 0]) ?_ 5 _ rfl; (with_reducible repeat (first | refine blk_drewN ?_ _ | refine blk_drew ?_ | refine blk_alloc ?_ _)); refine blk_put (cs := #[.int .i64 t193, .int .u32 t194, .int .u32 t195, .int .u32 t196, .int .u32 0, .int .i64 0, .bool false, .int .u32 0, .int .u16 0]) ?_ 4 _ rfl; (with_reducible repeat (first | refine blk_drewN ?_ _ | refine blk_drew ?_ | refine blk_alloc ?_ _)); refine blk_put (cs := #[.int .i64 t193, .int .u32 t194, .int .u32 t195, .int .u32 0, .int .u32 0, .int .i64 0, .bool false, .int .u32 0, .int .u16 0]) ?_ 3 _ rfl; (with_reducible repeat (first | refine blk_drewN ?_ _ | refine blk_drew ?_ | refine blk_alloc ?_ _)); refine blk_put (cs := #[.int .i64 t193, .int .u32 t194, .int .u32 0, .int .u32 0, .int .u32 0, .int .i64 0, .bool false, .int .u32 0, .int .u16 0]) ?_ 2 _ rfl; (with_reducible repeat (first | refine blk_drewN ?_ _ | refine blk_drew ?_ | refine blk_alloc ?_ _)); refine blk_put (cs := #[.int .i64 t193, .int .u32 0, .int .u32 0, .int .u32 0, .int .u32 0, .int .i64 0, .bool false, .int .u32 0, .int .u16 0]) ?_ 1 _ rfl; (with_reducible repeat (first | refine blk_drewN ?_ _ | refine blk_drew ?_ | refine blk_alloc ?_ _)); refine blk_put (cs := #[.int .i64 0, .int .u32 0, .int .u32 0, .int .u32 0, .int .u32 0, .int .i64 0, .bool false, .int .u32 0, .int .u16 0]) ?_ 0 _ rfl; (with_reducible repeat (first | refine blk_drewN ?_ _ | refine blk_drew ?_ | refine blk_alloc ?_ _)); exact BK203.out⟩
    have n3_ : Aside0 (Below w.heap.size w (((((((((w70.setCell ⟨gb203, 0, none⟩ (.int .i64 t193)).setCell ⟨gb203, 1, none⟩ (.int .u32 t194)).setCell ⟨gb203, 2, none⟩ (.int .u32 t195)).setCell ⟨gb203, 3, none⟩ (.int .u32 t196)).setCell ⟨gb203, 4, none⟩ (.int .u32 t197)).setCell ⟨gb203, 5, none⟩ (.int .i64 t198)).setCell ⟨gb203, 6, none⟩ (.bool t199)).setCell ⟨gb203, 7, none⟩ (.int .u32 t200)).setCell ⟨gb203, 8, none⟩ (.int .u16 t201))) := ⟨by repeat (first | (with_reducible first | exact HB.out | apply below_alloc | apply pw_below_drewN | apply below_drew1 | refine below_set ?_ GE185.out | refine below_set ?_ GE203.out) | exact HB.out)⟩
    (try clear HO189)
    (try clear BK185)
    (try clear BK203)
    (try clear HB)
    generalize (((((((((w70.setCell ⟨gb203, 0, none⟩ (.int .i64 t193)).setCell ⟨gb203, 1, none⟩ (.int .u32 t194)).setCell ⟨gb203, 2, none⟩ (.int .u32 t195)).setCell ⟨gb203, 3, none⟩ (.int .u32 t196)).setCell ⟨gb203, 4, none⟩ (.int .u32 t197)).setCell ⟨gb203, 5, none⟩ (.int .i64 t198)).setCell ⟨gb203, 6, none⟩ (.bool t199)).setCell ⟨gb203, 7, none⟩ (.int .u32 t200)).setCell ⟨gb203, 8, none⟩ (.int .u16 t201)) = w73 at n0_ n1_ n2_ n3_ ⊢
    have HO189 := n0_
    have BK185 := n1_
    have BK203 := n2_
    have HB := n3_
    clear n0_ n1_ n2_ n3_
    have n0_ := Aside0.mk (Kd.R_drew HO189.out)
    have n1_ := Aside0.mk (blk_drew BK185.out)
    have n2_ := Aside0.mk (blk_drew BK203.out)
    have n3_ := Aside0.mk (below_drew1 HB.out)
    clear HO189
    clear BK185
    clear BK203
    clear HB
    have HO189 := n0_
    have BK185 := n1_
    have BK203 := n2_
    have HB := n3_
    clear n0_ n1_ n2_ n3_
    refine start_ (n := 15) (S := fun w' => w'.cell? ⟨gb185, 0, none⟩ = some (.int .i64 a0_0) ∧ w'.cell? ⟨gb185, 1, none⟩ = some (.int .u32 a0_1) ∧ w'.cell? ⟨gb185, 2, none⟩ = some (.int .u32 a0_2) ∧ w'.cell? ⟨gb185, 3, none⟩ = some (.int .u32 a0_3) ∧ w'.cell? ⟨gb185, 4, none⟩ = some (.int .u32 a0_4) ∧ w'.cell? ⟨gb185, 5, none⟩ = some (.int .i64 a0_5) ∧ w'.cell? ⟨gb185, 6, none⟩ = some (.bool a0_6) ∧ w'.cell? ⟨gb185, 7, none⟩ = some (.int .u32 a0_7) ∧ w'.cell? ⟨gb185, 8, none⟩ = some (.int .u16 a0_8) ∧ (convert 22 9 (.slice Ao68 t187.length co68)).run Try.prog w' = .ok (.string (strOfNums t187)) w') (ds := []) (bA 15 0) (by kernel_rfl) rfl rfl ⟨(blk_cell BK185.out 0).trans rfl, (blk_cell BK185.out 1).trans rfl, (blk_cell BK185.out 2).trans rfl, (blk_cell BK185.out 3).trans rfl, (blk_cell BK185.out 4).trans rfl, (blk_cell BK185.out 5).trans rfl, (blk_cell BK185.out 6).trans rfl, (blk_cell BK185.out 7).trans rfl, (blk_cell BK185.out 8).trans rfl, own_string (P := Try.prog) Try.underlying22 Try.underlying5 Try.underlying9 (Kd.own_of_R (by (with_reducible repeat (first | apply Kd.R_alloc | apply Kd.R_drewN | apply Kd.R_drew)); exact HO189.out))⟩ (fun hHeld => ?_); refine with_tabW wayfarerlaw05_RecSectors.tab9 wayfarerlaw05_RecSectors.bits9 (fun HT_ HW_ => ?_)
    generalize w73.drew = w74 at HO189 BK185 BK203 HB hHeld ⊢
    refine pure_ (i := 0) (N := some 26) (v := ?_) (a' := ?_) (bA 15 1) rfl rfl (any_of HT_.out (by kernel_rfl)) (fun _ _ _ h => h) (Or.inl ⟨by rfl, ?_⟩) ?_ ?_; rotate_left
    · intro w'; go_simp; with_reducible rfl
    rotate_left; · simp only [Act.put, List.setIfInBounds_toArray, List.set_cons_zero, List.set_cons_succ, i64_w, i32_w]; rfl
    refine take_ (i := 1) (N := some 27) (v := ?_) (a' := ?_) (bA 15 3) rfl rfl (take_ofW HT_.out HW_.out (by kernel_rfl)) (fun _ _ _ h => h) (Or.inl ⟨by rfl, ?_⟩) hHeld ?_ ?_; rotate_left
    · rintro w' ⟨s0, s1, s2, s3, s4, s5, s6, s7, s8, s9⟩
      go_simp
      with_reducible rfl
    rotate_left
    · simp only [Act.put, List.setIfInBounds_toArray, List.set_cons_zero, List.set_cons_succ, i64_w, i32_w]; rfl
    refine take_ (i := 2) (N := some 28) (v := ?_) (a' := ?_) (bA 15 7) rfl rfl (take_ofW HT_.out HW_.out (by kernel_rfl)) (fun _ _ _ h => h) (Or.inl ⟨by rfl, ?_⟩) hHeld ?_ ?_; rotate_left
    · rintro w' ⟨s0, s1, s2, s3, s4, s5, s6, s7, s8, s9⟩
      go_simp
      with_reducible rfl
    rotate_left
    · simp only [Act.put, List.setIfInBounds_toArray, List.set_cons_zero, List.set_cons_succ, i64_w, i32_w]; rfl
    refine one_ (i := 3) (N := some 29) (bA 15 15) rfl rfl (one_of HT_.out (by kernel_rfl)) (by decide) (fun K hK => ?_)
    refine goes_ Try.func31 (by kernel_rfl) rfl #[.agg #[.int .i64 a0_0, .int .u32 a0_1, .int .u32 a0_2, .int .u32 a0_3, .int .u32 a0_4, .int .i64 a0_5, .bool a0_6, .int .u32 a0_7, .int .u16 a0_8]] (by rfl) rfl rfl (by (try simp only [List.map_toArray, List.map_cons, List.map_nil]); first | done | rfl | (simp only [List.length_drop, List.length_take]; rfl)) ?_
    with_reducible refine (wayfarerlaw05_Bytes.calls k a0_0 a0_1 a0_2 a0_3 a0_4 a0_5 a0_6 a0_7 a0_8 t204 _ A18.out).mono ?_
    rintro e w75 ⟨v205, rfl, ho0, hb⟩
    refine ⟨_, rfl, ?_⟩
    have n0_ := Aside0.mk (Kd.R_elder' (by (with_reducible repeat (first | apply Kd.R_alloc | apply Kd.R_drewN | apply Kd.R_drew)); exact HO189.out) (Kd.R_base ho0) hb)
    have n1_ := Aside0.mk (Kd.R_lower (Kd.R_new' ho0 (Kd.R_lt (by (with_reducible repeat (first | apply Kd.R_alloc | apply Kd.R_drewN | apply Kd.R_drew)); exact HO189.out))) (below_size (by repeat (first | (with_reducible first | exact HB.out | apply below_alloc | apply pw_below_drewN | apply below_drew1 | refine below_set ?_ GE185.out | refine below_set ?_ GE203.out) | exact HB.out))))
    have n2_ := Aside0.mk (blk_below (g := gb185) (o := .cells #[.int .i64 a0_0, .int .u32 a0_1, .int .u32 a0_2, .int .u32 a0_3, .int .u32 a0_4, .int .i64 a0_5, .bool a0_6, .int .u32 a0_7, .int .u16 a0_8] 50 (0, 0)) (by (with_reducible repeat (first | refine blk_drewN ?_ _ | refine blk_drew ?_ | refine blk_alloc ?_ _)); exact BK185.out) hb)
    have n3_ := Aside0.mk (blk_below (g := gb203) (o := .cells #[.int .i64 t193, .int .u32 t194, .int .u32 t195, .int .u32 t196, .int .u32 t197, .int .i64 t198, .bool t199, .int .u32 t200, .int .u16 t201] 50 (0, 0)) (by (with_reducible repeat (first | refine blk_drewN ?_ _ | refine blk_drew ?_ | refine blk_alloc ?_ _)); exact BK203.out) hb)
    have n4_ := Aside0.mk (below_step (by repeat (first | (with_reducible first | exact HB.out | apply below_alloc | apply pw_below_drewN | apply below_drew1 | refine below_set ?_ GE185.out | refine below_set ?_ GE203.out) | exact HB.out)) hb)
    clear HO189
    clear BK185
    clear BK203
    clear HB
    have HO189 := n0_
    have HO206 := n1_
    have BK185 := n2_
    have BK203 := n3_
    have HB := n4_
    clear n0_ n1_ n2_ n3_ n4_
    (try clear hb)
    (try clear hb2)
    (try clear hk)
    (try clear hi)
    (try clear ho0)
    refine hK.out _ _ ⟨(blk_cell BK185.out 0).trans rfl, (blk_cell BK185.out 1).trans rfl, (blk_cell BK185.out 2).trans rfl, (blk_cell BK185.out 3).trans rfl, (blk_cell BK185.out 4).trans rfl, (blk_cell BK185.out 5).trans rfl, (blk_cell BK185.out 6).trans rfl, (blk_cell BK185.out 7).trans rfl, (blk_cell BK185.out 8).trans rfl, own_string (P := Try.prog) Try.underlying22 Try.underlying5 Try.underlying9 (Kd.own_of_R (by (with_reducible repeat (first | apply Kd.R_alloc | apply Kd.R_drewN | apply Kd.R_drew)); exact HO189.out))⟩ (fun hHeld => ?_)
    clear hK K
    refine norm_ (a' := ?_) ?_ ?_
    rotate_left
    · show Act.put _ (some 29) _ = _
      simp only [Act.put, List.setIfInBounds_toArray, List.set_cons_zero, List.set_cons_succ, i64_w, i32_w]
      rfl
    refine one_ (i := 4) (N := some 30) (bA 15 31) rfl rfl (one_of HT_.out (by kernel_rfl)) (by decide) (fun K hK => ?_)
    have hcv76 := own_string (P := Try.prog) Try.underlying22 Try.underlying5 Try.underlying9 (Kd.own_of_R HO206.out)
    refine value_ (w1 := ?_) (v := ?_) (by rfl) rfl ?_ ?_
    rotate_left 2
    · go_simp
      constructor
      · rfl
      · rfl
    clear hcv76
    refine hK.out _ _ ⟨(blk_cell BK185.out 0).trans rfl, (blk_cell BK185.out 1).trans rfl, (blk_cell BK185.out 2).trans rfl, (blk_cell BK185.out 3).trans rfl, (blk_cell BK185.out 4).trans rfl, (blk_cell BK185.out 5).trans rfl, (blk_cell BK185.out 6).trans rfl, (blk_cell BK185.out 7).trans rfl, (blk_cell BK185.out 8).trans rfl, own_string (P := Try.prog) Try.underlying22 Try.underlying5 Try.underlying9 (Kd.own_of_R (by (with_reducible repeat (first | apply Kd.R_alloc | apply Kd.R_drewN | apply Kd.R_drew)); exact HO189.out))⟩ (fun hHeld => ?_)
    clear hK K
    refine norm_ (a' := ?_) ?_ ?_
    rotate_left
    · show Act.put _ (some 30) _ = _
      simp only [Act.put, List.setIfInBounds_toArray, List.set_cons_zero, List.set_cons_succ, i64_w, i32_w]
      rfl
    refine pure_ (i := 5) (N := some 31) (v := ?_) (a' := ?_) (bA 15 63) rfl rfl (any_of HT_.out (by kernel_rfl)) (fun _ _ _ h => h) (Or.inl ⟨by rfl, ?_⟩) ?_ ?_; rotate_left
    · intro w'; go_simp; with_reducible rfl
    rotate_left; · simp only [Act.put, List.setIfInBounds_toArray, List.set_cons_zero, List.set_cons_succ, i64_w, i32_w]; rfl
    refine pure_ (i := 6) (N := some 32) (v := ?_) (a' := ?_) (bA 15 127) rfl rfl (any_of HT_.out (by kernel_rfl)) (fun _ _ _ h => h) (Or.inl ⟨by rfl, ?_⟩) ?_ ?_; rotate_left
    · intro w'; go_simp; with_reducible rfl
    rotate_left; · simp only [Act.put, List.setIfInBounds_toArray, List.set_cons_zero, List.set_cons_succ, i64_w, i32_w]; rfl
    refine pure_ (i := 7) (N := some 33) (v := undef) (a' := ?_) (bA 15 255) rfl rfl (any_of HT_.out (by kernel_rfl)) (fun _ _ _ h => h) (Or.inr ⟨by rfl, rfl⟩) ?_ ?_; rotate_left
    · simp only [Act.put, List.setIfInBounds_toArray, List.set_cons_zero, List.set_cons_succ, i64_w, i32_w]; rfl
    refine pure_ (i := 8) (N := some 34) (v := ?_) (a' := ?_) (bA 15 511) rfl rfl (any_of HT_.out (by kernel_rfl)) (fun _ _ _ h => h) (Or.inl ⟨by rfl, ?_⟩) ?_ ?_; rotate_left
    · intro w'; go_simp; with_reducible rfl
    rotate_left; · simp only [Act.put, List.setIfInBounds_toArray, List.set_cons_zero, List.set_cons_succ, i64_w, i32_w]; rfl
    refine pure_ (i := 9) (N := some 35) (v := ?_) (a' := ?_) (bA 15 1023) rfl rfl (any_of HT_.out (by kernel_rfl)) (fun _ _ _ h => h) (Or.inl ⟨by rfl, ?_⟩) ?_ ?_; rotate_left
    · intro w'; go_simp; with_reducible rfl
    rotate_left; · simp only [Act.put, List.setIfInBounds_toArray, List.set_cons_zero, List.set_cons_succ, i64_w, i32_w]; rfl
    refine pure_ (i := 10) (N := some 36) (v := undef) (a' := ?_) (bA 15 2047) rfl rfl (any_of HT_.out (by kernel_rfl)) (fun _ _ _ h => h) (Or.inr ⟨by rfl, rfl⟩) ?_ ?_; rotate_left
    · simp only [Act.put, List.setIfInBounds_toArray, List.set_cons_zero, List.set_cons_succ, i64_w, i32_w]; rfl
    refine pure_ (i := 11) (N := some 37) (v := undef) (a' := ?_) (bA 15 4095) rfl rfl (any_of HT_.out (by kernel_rfl)) (fun _ _ _ h => h) (Or.inr ⟨by rfl, rfl⟩) ?_ ?_; rotate_left
    · simp only [Act.put, List.setIfInBounds_toArray, List.set_cons_zero, List.set_cons_succ, i64_w, i32_w]; rfl
    refine pure_ (i := 12) (N := some 38) (v := undef) (a' := ?_) (bA 15 8191) rfl rfl (any_of HT_.out (by kernel_rfl)) (fun _ _ _ h => h) (Or.inr ⟨by rfl, rfl⟩) ?_ ?_; rotate_left
    · simp only [Act.put, List.setIfInBounds_toArray, List.set_cons_zero, List.set_cons_succ, i64_w, i32_w]; rfl
    refine pure_ (i := 13) (N := some 39) (v := ?_) (a' := ?_) (bA 15 16383) rfl rfl (any_of HT_.out (by kernel_rfl)) (fun _ _ _ h => h) (Or.inl ⟨by rfl, ?_⟩) ?_ ?_; rotate_left
    · intro w'; go_simp; with_reducible rfl
    rotate_left; · simp only [Act.put, List.setIfInBounds_toArray, List.set_cons_zero, List.set_cons_succ, i64_w, i32_w]; rfl
    refine pure_ (i := 14) (N := some 2) (v := ?_) (a' := ?_) (bA 15 32767) rfl rfl (any_of HT_.out (by kernel_rfl)) (fun _ _ _ h => h) (Or.inl ⟨by rfl, ?_⟩) ?_ ?_; rotate_left
    · intro w'; go_simp; with_reducible rfl
    rotate_left; · simp only [Act.put, List.setIfInBounds_toArray, List.set_cons_zero, List.set_cons_succ, i64_w, i32_w]; rfl
    refine done_ (done_of HT_.out (by kernel_rfl)) ?_
    try go_wp2
    go_ret
    exact ⟨by first | rfl | (simp [errW_none, errW_some] <;> rfl) | (simp [*, errW_none, errW_some] <;> rfl), by repeat (first | (with_reducible first | exact HB.out | apply below_alloc | apply pw_below_drewN | apply below_drew1 | refine below_set ?_ GE185.out | refine below_set ?_ GE203.out) | exact HB.out)⟩
  rw [if_pos c19] at H; have c19b0 : ((strOfNums t187).toList == (strOfNums t204).toList) = true := beq_iff_eq.mpr c19
  have c19b1 : ((strOfNums t187).toList != (strOfNums t204).toList) = false := bne_eq_false_iff_eq.mpr c19
  clear c19
  go_enter Try.func8, Try.ntmps8
  try go_wp2_with (first | ((with_reducible refine gate_dst (N := 1) rfl ?_); refine box_event ?hg (N := 1) ?hd (cs := #[.int .i64 a0_0, .int .u32 a0_1, .int .u32 a0_2, .int .u32 a0_3, .int .u32 a0_4, .int .i64 a0_5, .bool a0_6, .int .u32 a0_7, .int .u16 a0_8]) (t := 50) ?hr ?_; (case hd => rfl); (case hg => rfl); (case hr => first | (go_simp; done) | (go_simp; rfl)); intro gb185 hg w40 hbox hb; have n0_ := Aside0.mk (below_step (by repeat (first | (with_reducible first | exact HB.out | apply below_alloc | apply pw_below_drewN | apply below_drew1) | exact HB.out)) hb); have n1_ := Aside0.mk (hbox); have n2_ := Aside0.mk ((by rw [hg]; exact (below_size (by repeat (first | (with_reducible first | exact HB.out | apply below_alloc | apply pw_below_drewN | apply below_drew1) | exact HB.out))) : w.heap.size ≤ gb185)); have n3_ := Aside0.mk ((by rw [hg]; exact (below_size (by repeat (first | (with_reducible first | exact HB.out | apply below_alloc | apply pw_below_drewN | apply below_drew1) | exact HB.out))) : w.heap.size ≤ gb185)); clear HB; have HB := n0_; have BK185 := n1_; have GW185 := n2_; have GE185 := n3_; clear n0_ n1_ n2_ n3_; clear hb hbox hg) | ((with_reducible refine gate_callee (f := 26) rfl ?_); refine goesL_ (some 6) rfl rfl Try.func26 (by kernel_rfl) rfl #[] rfl (by (try simp only [List.map_toArray, List.map_cons, List.map_nil]); first | done | rfl | (simp only [List.length_drop, List.length_take]; rfl)) ?_; (with_reducible refine (wayfarerlaw05_head.calls k  true _ A2.out).mono ?_); rintro e w41 ⟨rfl, hb⟩; refine ⟨_, rfl, ?_⟩; have n0_ := Aside0.mk (blk_below (g := gb185) (o := .cells #[.int .i64 a0_0, .int .u32 a0_1, .int .u32 a0_2, .int .u32 a0_3, .int .u32 a0_4, .int .i64 a0_5, .bool a0_6, .int .u32 a0_7, .int .u16 a0_8] 50 (0, 0)) (by (with_reducible repeat (first | refine blk_drewN ?_ _ | refine blk_drew ?_ | refine blk_alloc ?_ _)); exact BK185.out) hb); have n1_ := Aside0.mk (below_step (by repeat (first | (with_reducible first | exact HB.out | apply below_alloc | apply pw_below_drewN | apply below_drew1 | refine below_set ?_ GE185.out) | exact HB.out)) hb); clear BK185; clear HB; have BK185 := n0_; have HB := n1_; clear n0_ n1_; (try clear hb); (try clear hb2); (try clear hk); (try clear hi); have hcz42_0 : w41.cell? ⟨gb185, 0, none⟩ = some (.int .i64 a0_0) := (blk_cell BK185.out 0).trans rfl; have hcz42_1 : w41.cell? ⟨gb185, 1, none⟩ = some (.int .u32 a0_1) := (blk_cell BK185.out 1).trans rfl; have hcz42_2 : w41.cell? ⟨gb185, 2, none⟩ = some (.int .u32 a0_2) := (blk_cell BK185.out 2).trans rfl; have hcz42_3 : w41.cell? ⟨gb185, 3, none⟩ = some (.int .u32 a0_3) := (blk_cell BK185.out 3).trans rfl; have hcz42_4 : w41.cell? ⟨gb185, 4, none⟩ = some (.int .u32 a0_4) := (blk_cell BK185.out 4).trans rfl; have hcz42_5 : w41.cell? ⟨gb185, 5, none⟩ = some (.int .i64 a0_5) := (blk_cell BK185.out 5).trans rfl; have hcz42_6 : w41.cell? ⟨gb185, 6, none⟩ = some (.bool a0_6) := (blk_cell BK185.out 6).trans rfl; have hcz42_7 : w41.cell? ⟨gb185, 7, none⟩ = some (.int .u32 a0_7) := (blk_cell BK185.out 7).trans rfl; have hcz42_8 : w41.cell? ⟨gb185, 8, none⟩ = some (.int .u16 a0_8) := (blk_cell BK185.out 8).trans rfl; have hfz42_0 := blk_frozen BK185.out 0; have hfz42_1 := blk_frozen BK185.out 1; have hfz42_2 := blk_frozen BK185.out 2; have hfz42_3 := blk_frozen BK185.out 3; have hfz42_4 := blk_frozen BK185.out 4; have hfz42_5 := blk_frozen BK185.out 5; have hfz42_6 := blk_frozen BK185.out 6; have hfz42_7 := blk_frozen BK185.out 7; have hfz42_8 := blk_frozen BK185.out 8) | ((with_reducible refine gate_callee (f := 27) rfl ?_); refine goesL_ (some 9) rfl rfl Try.func27 (by kernel_rfl) rfl #[.agg #[.int .i64 a0_0, .int .u32 a0_1, .int .u32 a0_2, .int .u32 a0_3, .int .u32 a0_4, .int .i64 a0_5, .bool a0_6, .int .u32 a0_7, .int .u16 a0_8]] rfl (by (try simp only [List.map_toArray, List.map_cons, List.map_nil]); first | done | rfl | (simp only [List.length_drop, List.length_take]; rfl)) ?_; (with_reducible refine (rec_Rec_Sector.calls a0_0 a0_1 a0_2 a0_3 a0_4 a0_5 a0_6 a0_7 a0_8 t187 _ A4.out).mono ?_); rintro e w43 ⟨v188, rfl, ho0, hb⟩; refine ⟨_, rfl, ?_⟩; have n0_ := Aside0.mk (Kd.R_lower ho0 (below_size (by repeat (first | (with_reducible first | exact HB.out | apply below_alloc | apply pw_below_drewN | apply below_drew1 | refine below_set ?_ GE185.out) | exact HB.out)))); have n1_ := Aside0.mk (blk_below (g := gb185) (o := .cells #[.int .i64 a0_0, .int .u32 a0_1, .int .u32 a0_2, .int .u32 a0_3, .int .u32 a0_4, .int .i64 a0_5, .bool a0_6, .int .u32 a0_7, .int .u16 a0_8] 50 (0, 0)) (by (with_reducible repeat (first | refine blk_drewN ?_ _ | refine blk_drew ?_ | refine blk_alloc ?_ _)); exact BK185.out) hb); have n2_ := Aside0.mk (below_step (by repeat (first | (with_reducible first | exact HB.out | apply below_alloc | apply pw_below_drewN | apply below_drew1 | refine below_set ?_ GE185.out) | exact HB.out)) hb); clear BK185; clear HB; have HO189 := n0_; have BK185 := n1_; have HB := n2_; clear n0_ n1_ n2_; (try clear hb); (try clear hb2); (try clear hk); (try clear hi); (try clear ho0)))
  have n0_ := Aside0.mk (Kd.R_drew HO189.out)
  have n1_ := Aside0.mk (blk_drew BK185.out)
  have n2_ := Aside0.mk (below_drew1 HB.out)
  clear HO189
  clear BK185
  clear HB
  have HO189 := n0_
  have BK185 := n1_
  have HB := n2_
  clear n0_ n1_ n2_
  refine start_ (n := 5) (S := fun w' => w'.cell? ⟨gb185, 0, none⟩ = some (.int .i64 a0_0) ∧ w'.cell? ⟨gb185, 1, none⟩ = some (.int .u32 a0_1) ∧ w'.cell? ⟨gb185, 2, none⟩ = some (.int .u32 a0_2) ∧ w'.cell? ⟨gb185, 3, none⟩ = some (.int .u32 a0_3) ∧ w'.cell? ⟨gb185, 4, none⟩ = some (.int .u32 a0_4) ∧ w'.cell? ⟨gb185, 5, none⟩ = some (.int .i64 a0_5) ∧ w'.cell? ⟨gb185, 6, none⟩ = some (.bool a0_6) ∧ w'.cell? ⟨gb185, 7, none⟩ = some (.int .u32 a0_7) ∧ w'.cell? ⟨gb185, 8, none⟩ = some (.int .u16 a0_8)) (ds := []) #[false, false, false, false, false] (by kernel_rfl) rfl rfl ⟨(blk_cell BK185.out 0).trans rfl, (blk_cell BK185.out 1).trans rfl, (blk_cell BK185.out 2).trans rfl, (blk_cell BK185.out 3).trans rfl, (blk_cell BK185.out 4).trans rfl, (blk_cell BK185.out 5).trans rfl, (blk_cell BK185.out 6).trans rfl, (blk_cell BK185.out 7).trans rfl, (blk_cell BK185.out 8).trans rfl⟩ (fun hHeld => ?_)
  generalize w43.drew = w44 at HO189 BK185 HB hHeld ⊢
  refine take_ (i := 0) (N := some 10) (v := ?_) (a' := ?_) #[true, false, false, false, false] rfl rfl (by kernel_rfl) (fun _ _ _ h => h) (Or.inl ⟨by rfl, ?_⟩) hHeld ?_ ?_; rotate_left
  · rintro w' ⟨s0, s1, s2, s3, s4, s5, s6, s7, s8⟩
    go_simp
    with_reducible rfl
  rotate_left
  · simp only [Act.put, List.setIfInBounds_toArray, List.set_cons_zero, List.set_cons_succ, i64_w, i32_w]; rfl
  refine take_ (i := 2) (N := some 12) (v := ?_) (a' := ?_) #[true, false, true, false, false] rfl rfl (by kernel_rfl) (fun _ _ _ h => h) (Or.inl ⟨by rfl, ?_⟩) hHeld ?_ ?_; rotate_left
  · rintro w' ⟨s0, s1, s2, s3, s4, s5, s6, s7, s8⟩
    go_simp
    with_reducible rfl
  rotate_left
  · simp only [Act.put, List.setIfInBounds_toArray, List.set_cons_zero, List.set_cons_succ, i64_w, i32_w]; rfl
  refine one_ (i := 1) (N := some 11) #[true, true, true, false, false] rfl rfl (by kernel_rfl) (by decide) (fun K hK => ?_)
  refine goes_ Try.func28 (by kernel_rfl) rfl #[.agg #[.int .i64 a0_0, .int .u32 a0_1, .int .u32 a0_2, .int .u32 a0_3, .int .u32 a0_4, .int .i64 a0_5, .bool a0_6, .int .u32 a0_7, .int .u16 a0_8]] (by rfl) rfl rfl (by (try simp only [List.map_toArray, List.map_cons, List.map_nil]); first | done | rfl | (simp only [List.length_drop, List.length_take]; rfl)) ?_
  with_reducible refine (rec_Rec_Right.calls a0_0 a0_1 a0_2 a0_3 a0_4 a0_5 a0_6 a0_7 a0_8 t190 _ A5.out).mono ?_
  rintro e w45 ⟨rfl, hb⟩
  refine ⟨_, rfl, ?_⟩
  have n0_ := Aside0.mk (Kd.R_below (by (with_reducible repeat (first | apply Kd.R_alloc | apply Kd.R_drewN | apply Kd.R_drew)); exact HO189.out) hb)
  have n1_ := Aside0.mk (blk_below (g := gb185) (o := .cells #[.int .i64 a0_0, .int .u32 a0_1, .int .u32 a0_2, .int .u32 a0_3, .int .u32 a0_4, .int .i64 a0_5, .bool a0_6, .int .u32 a0_7, .int .u16 a0_8] 50 (0, 0)) (by (with_reducible repeat (first | refine blk_drewN ?_ _ | refine blk_drew ?_ | refine blk_alloc ?_ _)); exact BK185.out) hb)
  have n2_ := Aside0.mk (below_step (by repeat (first | (with_reducible first | exact HB.out | apply below_alloc | apply pw_below_drewN | apply below_drew1 | refine below_set ?_ GE185.out) | exact HB.out)) hb)
  clear HO189
  clear BK185
  clear HB
  have HO189 := n0_
  have BK185 := n1_
  have HB := n2_
  clear n0_ n1_ n2_
  (try clear hb)
  (try clear hb2)
  (try clear hk)
  (try clear hi)
  refine hK.out _ _ ⟨(blk_cell BK185.out 0).trans rfl, (blk_cell BK185.out 1).trans rfl, (blk_cell BK185.out 2).trans rfl, (blk_cell BK185.out 3).trans rfl, (blk_cell BK185.out 4).trans rfl, (blk_cell BK185.out 5).trans rfl, (blk_cell BK185.out 6).trans rfl, (blk_cell BK185.out 7).trans rfl, (blk_cell BK185.out 8).trans rfl⟩ (fun hHeld => ?_)
  clear hK K
  refine norm_ (a' := ?_) ?_ ?_
  rotate_left
  · show Act.put _ (some 11) _ = _
    simp only [Act.put, List.setIfInBounds_toArray, List.set_cons_zero, List.set_cons_succ, i64_w, i32_w]
    rfl
  refine one_ (i := 3) (N := some 13) #[true, true, true, true, false] rfl rfl (by kernel_rfl) (by decide) (fun K hK => ?_)
  refine goes_ Try.func29 (by kernel_rfl) rfl #[.agg #[.int .i64 a0_0, .int .u32 a0_1, .int .u32 a0_2, .int .u32 a0_3, .int .u32 a0_4, .int .i64 a0_5, .bool a0_6, .int .u32 a0_7, .int .u16 a0_8]] (by rfl) rfl rfl (by (try simp only [List.map_toArray, List.map_cons, List.map_nil]); first | done | rfl | (simp only [List.length_drop, List.length_take]; rfl)) ?_
  with_reducible refine (wayfarerlaw05_Right.calls a0_0 a0_1 a0_2 a0_3 a0_4 a0_5 a0_6 a0_7 a0_8 t191 _ A6.out).mono ?_
  rintro e w46 ⟨rfl, hb⟩
  refine ⟨_, rfl, ?_⟩
  have n0_ := Aside0.mk (Kd.R_below (by (with_reducible repeat (first | apply Kd.R_alloc | apply Kd.R_drewN | apply Kd.R_drew)); exact HO189.out) hb)
  have n1_ := Aside0.mk (blk_below (g := gb185) (o := .cells #[.int .i64 a0_0, .int .u32 a0_1, .int .u32 a0_2, .int .u32 a0_3, .int .u32 a0_4, .int .i64 a0_5, .bool a0_6, .int .u32 a0_7, .int .u16 a0_8] 50 (0, 0)) (by (with_reducible repeat (first | refine blk_drewN ?_ _ | refine blk_drew ?_ | refine blk_alloc ?_ _)); exact BK185.out) hb)
  have n2_ := Aside0.mk (below_step (by repeat (first | (with_reducible first | exact HB.out | apply below_alloc | apply pw_below_drewN | apply below_drew1 | refine below_set ?_ GE185.out) | exact HB.out)) hb)
  clear HO189
  clear BK185
  clear HB
  have HO189 := n0_
  have BK185 := n1_
  have HB := n2_
  clear n0_ n1_ n2_
  (try clear hb)
  (try clear hb2)
  (try clear hk)
  (try clear hi)
  refine hK.out _ _ ⟨(blk_cell BK185.out 0).trans rfl, (blk_cell BK185.out 1).trans rfl, (blk_cell BK185.out 2).trans rfl, (blk_cell BK185.out 3).trans rfl, (blk_cell BK185.out 4).trans rfl, (blk_cell BK185.out 5).trans rfl, (blk_cell BK185.out 6).trans rfl, (blk_cell BK185.out 7).trans rfl, (blk_cell BK185.out 8).trans rfl⟩ (fun hHeld => ?_)
  clear hK K
  refine norm_ (a' := ?_) ?_ ?_
  rotate_left
  · show Act.put _ (some 13) _ = _
    simp only [Act.put, List.setIfInBounds_toArray, List.set_cons_zero, List.set_cons_succ, i64_w, i32_w]
    rfl
  refine pure_ (i := 4) (N := some 14) (v := ?_) (a' := ?_) #[true, true, true, true, true] rfl rfl (by kernel_rfl) (fun _ _ _ h => h) (Or.inl ⟨by rfl, ?_⟩) ?_ ?_; rotate_left
  · intro w'; go_simp; with_reducible rfl
  rotate_left; · simp only [Act.put, List.setIfInBounds_toArray, List.set_cons_zero, List.set_cons_succ, i64_w, i32_w]; rfl
  refine done_ (by kernel_rfl) ?_
  have hcz47_0 : w46.cell? ⟨gb185, 0, none⟩ = some (.int .i64 a0_0) := (blk_cell BK185.out 0).trans rfl
  have hcz47_1 : w46.cell? ⟨gb185, 1, none⟩ = some (.int .u32 a0_1) := (blk_cell BK185.out 1).trans rfl
  have hcz47_2 : w46.cell? ⟨gb185, 2, none⟩ = some (.int .u32 a0_2) := (blk_cell BK185.out 2).trans rfl
  have hcz47_3 : w46.cell? ⟨gb185, 3, none⟩ = some (.int .u32 a0_3) := (blk_cell BK185.out 3).trans rfl
  have hcz47_4 : w46.cell? ⟨gb185, 4, none⟩ = some (.int .u32 a0_4) := (blk_cell BK185.out 4).trans rfl
  have hcz47_5 : w46.cell? ⟨gb185, 5, none⟩ = some (.int .i64 a0_5) := (blk_cell BK185.out 5).trans rfl
  have hcz47_6 : w46.cell? ⟨gb185, 6, none⟩ = some (.bool a0_6) := (blk_cell BK185.out 6).trans rfl
  have hcz47_7 : w46.cell? ⟨gb185, 7, none⟩ = some (.int .u32 a0_7) := (blk_cell BK185.out 7).trans rfl
  have hcz47_8 : w46.cell? ⟨gb185, 8, none⟩ = some (.int .u16 a0_8) := (blk_cell BK185.out 8).trans rfl
  have hfz47_0 := blk_frozen BK185.out 0
  have hfz47_1 := blk_frozen BK185.out 1
  have hfz47_2 := blk_frozen BK185.out 2
  have hfz47_3 := blk_frozen BK185.out 3
  have hfz47_4 := blk_frozen BK185.out 4
  have hfz47_5 := blk_frozen BK185.out 5
  have hfz47_6 := blk_frozen BK185.out 6
  have hfz47_7 := blk_frozen BK185.out 7
  have hfz47_8 := blk_frozen BK185.out 8
  by_cases c20 : t202 = true
  case neg =>
    replace c20 := Bool.eq_false_iff.mpr c20
    subst c20
    have H1 : (some false) = some r := by rw [if_neg (show ¬ (false = true) by decide)] at H; exact H
    clear H
    have H := H1
    clear H1
    obtain rfl := Option.some.inj H
    try go_wp2_with (first | ((with_reducible refine gate_callee (f := 29) rfl ?_); refine goesL_ (some 16) rfl rfl Try.func29 (by kernel_rfl) rfl #[.agg #[.int .i64 a0_0, .int .u32 a0_1, .int .u32 a0_2, .int .u32 a0_3, .int .u32 a0_4, .int .i64 a0_5, .bool a0_6, .int .u32 a0_7, .int .u16 a0_8]] rfl (by (try simp only [List.map_toArray, List.map_cons, List.map_nil]); first | done | rfl | (simp only [List.length_drop, List.length_take]; rfl)) ?_; (with_reducible refine (wayfarerlaw05_Right.calls a0_0 a0_1 a0_2 a0_3 a0_4 a0_5 a0_6 a0_7 a0_8 true _ A15.out).mono ?_); rintro e w48 ⟨rfl, hb⟩; refine ⟨_, rfl, ?_⟩; have n0_ := Aside0.mk (Kd.R_below (by (with_reducible repeat (first | apply Kd.R_alloc | apply Kd.R_drewN | apply Kd.R_drew)); exact HO189.out) hb); have n1_ := Aside0.mk (blk_below (g := gb185) (o := .cells #[.int .i64 a0_0, .int .u32 a0_1, .int .u32 a0_2, .int .u32 a0_3, .int .u32 a0_4, .int .i64 a0_5, .bool a0_6, .int .u32 a0_7, .int .u16 a0_8] 50 (0, 0)) (by (with_reducible repeat (first | refine blk_drewN ?_ _ | refine blk_drew ?_ | refine blk_alloc ?_ _)); exact BK185.out) hb); have n2_ := Aside0.mk (below_step (by repeat (first | (with_reducible first | exact HB.out | apply below_alloc | apply pw_below_drewN | apply below_drew1 | refine below_set ?_ GE185.out) | exact HB.out)) hb); clear HO189; clear BK185; clear HB; have HO189 := n0_; have BK185 := n1_; have HB := n2_; clear n0_ n1_ n2_; (try clear hb); (try clear hb2); (try clear hk); (try clear hi); obtain ⟨Ao49, co49, eo49⟩ := Kd.R_slice HO189.out; subst eo49) | ((with_reducible refine gate_callee (f := 30) rfl ?_); refine goesL_ (some 23) rfl rfl Try.func30 (by kernel_rfl) rfl #[.slice Ao49 t187.length co49] rfl (by (try simp only [List.map_toArray, List.map_cons, List.map_nil]); first | done | rfl | (simp only [List.length_drop, List.length_take]; rfl)) ?_; (with_reducible refine (rec_Of.calls k _ _ t187 t193 t194 t195 t196 t197 t198 t199 t200 t201 false _ ?side1 ?side2 A17.out).mono ?_); (case side1 => repeat (first | exact (Kd.R_reads' HO189.out).2.2 | (with_reducible refine Kd.C_alloc ?_ _) | (with_reducible refine Kd.C_drewN ?_ _) | (with_reducible refine Kd.C_drew ?_))); (case side2 => exact (Kd.R_reads' HO189.out).2.1); rintro e w50 ⟨rfl, hb⟩; refine ⟨_, rfl, ?_⟩; have n0_ := Aside0.mk (Kd.R_below (by (with_reducible repeat (first | apply Kd.R_alloc | apply Kd.R_drewN | apply Kd.R_drew)); exact HO189.out) hb); have n1_ := Aside0.mk (blk_below (g := gb185) (o := .cells #[.int .i64 a0_0, .int .u32 a0_1, .int .u32 a0_2, .int .u32 a0_3, .int .u32 a0_4, .int .i64 a0_5, .bool a0_6, .int .u32 a0_7, .int .u16 a0_8] 50 (0, 0)) (by (with_reducible repeat (first | refine blk_drewN ?_ _ | refine blk_drew ?_ | refine blk_alloc ?_ _)); exact BK185.out) hb); have n2_ := Aside0.mk (below_step (by repeat (first | (with_reducible first | exact HB.out | apply below_alloc | apply pw_below_drewN | apply below_drew1 | refine below_set ?_ GE185.out) | exact HB.out)) hb); clear HO189; clear BK185; clear HB; have HO189 := n0_; have BK185 := n1_; have HB := n2_; clear n0_ n1_ n2_; (try clear hb); (try clear hb2); (try clear hk); (try clear hi)) | ((with_reducible refine gate_dst (N := 4) rfl ?_); refine box_event ?hg (N := 4) ?hd (cs := #[.int .i64 0, .int .u32 0, .int .u32 0, .int .u32 0, .int .u32 0, .int .i64 0, .bool false, .int .u32 0, .int .u16 0]) (t := 50) ?hr ?_; (case hd => rfl); (case hg => rfl); (case hr => first | (go_simp; done) | (go_simp; rfl)); intro gb203 hg w51 hbox hb; have n0_ := Aside0.mk (Kd.R_below (by (with_reducible repeat (first | apply Kd.R_alloc | apply Kd.R_drewN | apply Kd.R_drew)); exact HO189.out) hb); have n1_ := Aside0.mk (blk_below (g := gb185) (o := .cells #[.int .i64 a0_0, .int .u32 a0_1, .int .u32 a0_2, .int .u32 a0_3, .int .u32 a0_4, .int .i64 a0_5, .bool a0_6, .int .u32 a0_7, .int .u16 a0_8] 50 (0, 0)) (by (with_reducible repeat (first | refine blk_drewN ?_ _ | refine blk_drew ?_ | refine blk_alloc ?_ _)); exact BK185.out) hb); have n2_ := Aside0.mk (below_step (by repeat (first | (with_reducible first | exact HB.out | apply below_alloc | apply pw_below_drewN | apply below_drew1 | refine below_set ?_ GE185.out) | exact HB.out)) hb); have n3_ := Aside0.mk (hbox); have n4_ := Aside0.mk ((by rw [hg]; exact (below_size (by repeat (first | (with_reducible first | exact HB.out | apply below_alloc | apply pw_below_drewN | apply below_drew1 | refine below_set ?_ GE185.out) | exact HB.out))) : w.heap.size ≤ gb203)); have n5_ := Aside0.mk ((by rw [hg]; exact (below_size (by repeat (first | (with_reducible first | exact HB.out | apply below_alloc | apply pw_below_drewN | apply below_drew1 | refine below_set ?_ GE185.out) | exact HB.out))) : w.heap.size ≤ gb203)); have n6_ := Aside0.mk ((by rw [hg]; exact Nat.ne_of_lt (blk_lt (g := gb185) (o := .cells #[.int .i64 a0_0, .int .u32 a0_1, .int .u32 a0_2, .int .u32 a0_3, .int .u32 a0_4, .int .i64 a0_5, .bool a0_6, .int .u32 a0_7, .int .u16 a0_8] 50 (0, 0)) (by (with_reducible repeat (first | refine blk_drewN ?_ _ | refine blk_drew ?_ | refine blk_alloc ?_ _)); exact BK185.out)) : gb185 ≠ gb203)); have n7_ := Aside0.mk ((by rw [hg]; exact Nat.ne_of_gt (blk_lt (g := gb185) (o := .cells #[.int .i64 a0_0, .int .u32 a0_1, .int .u32 a0_2, .int .u32 a0_3, .int .u32 a0_4, .int .i64 a0_5, .bool a0_6, .int .u32 a0_7, .int .u16 a0_8] 50 (0, 0)) (by (with_reducible repeat (first | refine blk_drewN ?_ _ | refine blk_drew ?_ | refine blk_alloc ?_ _)); exact BK185.out)) : gb203 ≠ gb185)); clear HO189; clear BK185; clear HB; have HO189 := n0_; have BK185 := n1_; have HB := n2_; have BK203 := n3_; have GW203 := n4_; have GE203 := n5_; have NB185_203 := n6_; have NB203_185 := n7_; clear n0_ n1_ n2_ n3_ n4_ n5_ n6_ n7_; clear hb hbox hg; have hnb52 := NB203_185.out; have hnc52 := NB185_203.out; have hcz53_0 : w51.cell? ⟨gb203, 0, none⟩ = some (.int .i64 0) := (blk_cell BK203.out 0).trans rfl; have hcz53_1 : w51.cell? ⟨gb203, 1, none⟩ = some (.int .u32 0) := (blk_cell BK203.out 1).trans rfl; have hcz53_2 : w51.cell? ⟨gb203, 2, none⟩ = some (.int .u32 0) := (blk_cell BK203.out 2).trans rfl; have hcz53_3 : w51.cell? ⟨gb203, 3, none⟩ = some (.int .u32 0) := (blk_cell BK203.out 3).trans rfl; have hcz53_4 : w51.cell? ⟨gb203, 4, none⟩ = some (.int .u32 0) := (blk_cell BK203.out 4).trans rfl; have hcz53_5 : w51.cell? ⟨gb203, 5, none⟩ = some (.int .i64 0) := (blk_cell BK203.out 5).trans rfl; have hcz53_6 : w51.cell? ⟨gb203, 6, none⟩ = some (.bool false) := (blk_cell BK203.out 6).trans rfl; have hcz53_7 : w51.cell? ⟨gb203, 7, none⟩ = some (.int .u32 0) := (blk_cell BK203.out 7).trans rfl; have hcz53_8 : w51.cell? ⟨gb203, 8, none⟩ = some (.int .u16 0) := (blk_cell BK203.out 8).trans rfl; have hfz53_0 := blk_frozen BK203.out 0; have hfz53_1 := blk_frozen BK203.out 1; have hfz53_2 := blk_frozen BK203.out 2; have hfz53_3 := blk_frozen BK203.out 3; have hfz53_4 := blk_frozen BK203.out 4; have hfz53_5 := blk_frozen BK203.out 5; have hfz53_6 := blk_frozen BK203.out 6; have hfz53_7 := blk_frozen BK203.out 7; have hfz53_8 := blk_frozen BK203.out 8))
    have n0_ : Aside0 (Kd.R (Kd.int .u8) 5 (((((((((w51.setCell ⟨gb203, 0, none⟩ (.int .i64 t193)).setCell ⟨gb203, 1, none⟩ (.int .u32 t194)).setCell ⟨gb203, 2, none⟩ (.int .u32 t195)).setCell ⟨gb203, 3, none⟩ (.int .u32 t196)).setCell ⟨gb203, 4, none⟩ (.int .u32 t197)).setCell ⟨gb203, 5, none⟩ (.int .i64 t198)).setCell ⟨gb203, 6, none⟩ (.bool t199)).setCell ⟨gb203, 7, none⟩ (.int .u32 t200)).setCell ⟨gb203, 8, none⟩ (.int .u16 t201)) w.heap.size (fun _ => True) (.slice Ao49 t187.length co49) t187) := ⟨by (with_reducible repeat (first | apply Kd.R_alloc | apply Kd.R_drewN | apply Kd.R_drew)); exact Kd.R_mono (Kd.R_far (p := ⟨gb203, 8, none⟩) (Kd.R_far (p := ⟨gb203, 7, none⟩) (Kd.R_far (p := ⟨gb203, 6, none⟩) (Kd.R_far (p := ⟨gb203, 5, none⟩) (Kd.R_far (p := ⟨gb203, 4, none⟩) (Kd.R_far (p := ⟨gb203, 3, none⟩) (Kd.R_far (p := ⟨gb203, 2, none⟩) (Kd.R_far (p := ⟨gb203, 1, none⟩) (Kd.R_far (p := ⟨gb203, 0, none⟩) (Kd.R_types HO189.out BK203.out (by decide)) (fun _ hk => hk.2) (.int .i64 t193)) (fun _ hk => hk.2) (.int .u32 t194)) (fun _ hk => hk.2) (.int .u32 t195)) (fun _ hk => hk.2) (.int .u32 t196)) (fun _ hk => hk.2) (.int .u32 t197)) (fun _ hk => hk.2) (.int .i64 t198)) (fun _ hk => hk.2) (.bool t199)) (fun _ hk => hk.2) (.int .u32 t200)) (fun _ hk => hk.2) (.int .u16 t201)) (fun _ hk => trivial)⟩
    have n1_ : Aside0 ((((((((((w51.setCell ⟨gb203, 0, none⟩ (.int .i64 t193)).setCell ⟨gb203, 1, none⟩ (.int .u32 t194)).setCell ⟨gb203, 2, none⟩ (.int .u32 t195)).setCell ⟨gb203, 3, none⟩ (.int .u32 t196)).setCell ⟨gb203, 4, none⟩ (.int .u32 t197)).setCell ⟨gb203, 5, none⟩ (.int .i64 t198)).setCell ⟨gb203, 6, none⟩ (.bool t199)).setCell ⟨gb203, 7, none⟩ (.int .u32 t200)).setCell ⟨gb203, 8, none⟩ (.int .u16 t201)).heap[gb185]? = some (.cells #[.int .i64 a0_0, .int .u32 a0_1, .int .u32 a0_2, .int .u32 a0_3, .int .u32 a0_4, .int .i64 a0_5, .bool a0_6, .int .u32 a0_7, .int .u16 a0_8] 50 (0, 0))) := ⟨by (with_reducible repeat (first | refine blk_drewN ?_ _ | refine blk_drew ?_ | refine blk_alloc ?_ _)); refine blk_far ?_ NB185_203.out _; (with_reducible repeat (first | refine blk_drewN ?_ _ | refine blk_drew ?_ | refine blk_alloc ?_ _)); refine blk_far ?_ NB185_203.out _; (with_reducible repeat (first | refine blk_drewN ?_ _ | refine blk_drew ?_ | refine blk_alloc ?_ _)); refine blk_far ?_ NB185_203.out _; (with_reducible repeat (first | refine blk_drewN ?_ _ | refine blk_drew ?_ | refine blk_alloc ?_ _)); refine blk_far ?_ NB185_203.out _; (with_reducible repeat (first | refine blk_drewN ?_ _ | refine blk_drew ?_ | refine blk_alloc ?_ _)); refine blk_far ?_ NB185_203.out _; (with_reducible repeat (first | refine blk_drewN ?_ _ | refine blk_drew ?_ | refine blk_alloc ?_ _)); refine blk_far ?_ NB185_203.out _; (with_reducible repeat (first | refine blk_drewN ?_ _ | refine blk_drew ?_ | refine blk_alloc ?_ _)); refine blk_far ?_ NB185_203.out _; (with_reducible repeat (first | refine blk_drewN ?_ _ | refine blk_drew ?_ | refine blk_alloc ?_ _)); refine blk_far ?_ NB185_203.out _; (with_reducible repeat (first | refine blk_drewN ?_ _ | refine blk_drew ?_ | refine blk_alloc ?_ _)); refine blk_far ?_ NB185_203.out _; (with_reducible repeat (first | refine blk_drewN ?_ _ | refine blk_drew ?_ | refine blk_alloc ?_ _)); exact BK185.out⟩
    have n2_ : Aside0 ((((((((((w51.setCell ⟨gb203, 0, none⟩ (.int .i64 t193)).setCell ⟨gb203, 1, none⟩ (.int .u32 t194)).setCell ⟨gb203, 2, none⟩ (.int .u32 t195)).setCell ⟨gb203, 3, none⟩ (.int .u32 t196)).setCell ⟨gb203, 4, none⟩ (.int .u32 t197)).setCell ⟨gb203, 5, none⟩ (.int .i64 t198)).setCell ⟨gb203, 6, none⟩ (.bool t199)).setCell ⟨gb203, 7, none⟩ (.int .u32 t200)).setCell ⟨gb203, 8, none⟩ (.int .u16 t201)).heap[gb203]? = some (.cells #[.int .i64 t193, .int .u32 t194, .int .u32 t195, .int .u32 t196, .int .u32 t197, .int .i64 t198, .bool t199, .int .u32 t200, .int .u16 t201] 50 (0, 0))) := ⟨by (with_reducible repeat (first | refine blk_drewN ?_ _ | refine blk_drew ?_ | refine blk_alloc ?_ _)); refine blk_put (cs := #[.int .i64 t193, .int .u32 t194, .int .u32 t195, .int .u32 t196, .int .u32 t197, .int .i64 t198, .bool t199, .int .u32 t200, .int .u16 0]) ?_ 8 _ rfl; (with_reducible repeat (first | refine blk_drewN ?_ _ | refine blk_drew ?_ | refine blk_alloc ?_ _)); refine blk_put (cs := #[.int .i64 t193, .int .u32 t194, .int .u32 t195, .int .u32 t196, .int .u32 t197, .int .i64 t198, .bool t199, .int .u32 0, .int .u16 0]) ?_ 7 _ rfl; (with_reducible repeat (first | refine blk_drewN ?_ _ | refine blk_drew ?_ | refine blk_alloc ?_ _)); refine blk_put (cs := #[.int .i64 t193, .int .u32 t194, .int .u32 t195, .int .u32 t196, .int .u32 t197, .int .i64 t198, .bool false, .int .u32 0, .int .u16 0]) ?_ 6 _ rfl; (with_reducible repeat (first | refine blk_drewN ?_ _ | refine blk_drew ?_ | refine blk_alloc ?_ _)); refine blk_put (cs := #[.int .i64 t193, .int .u32 t194, .int .u32 t195, .int .u32 t196, .int .u32 t197, .int .i64 0, .bool false, .int .u32 0, .int .u16 0]) ?_ 5 _ rfl; (with_reducible repeat (first | refine blk_drewN ?_ _ | refine blk_drew ?_ | refine blk_alloc ?_ _)); refine blk_put (cs := #[.int .i64 t193, .int .u32 t194, .int .u32 t195, .int .u32 t196, .int .u32 0, .int .i64 0, .bool false, .int .u32 0, .int .u16 0]) ?_ 4 _ rfl; (with_reducible repeat (first | refine blk_drewN ?_ _ | refine blk_drew ?_ | refine blk_alloc ?_ _)); refine blk_put (cs := #[.int .i64 t193, .int .u32 t194, .int .u32 t195, .int .u32 0, .int .u32 0, .int .i64 0, .bool false, .int .u32 0, .int .u16 0]) ?_ 3 _ rfl; (with_reducible repeat (first | refine blk_drewN ?_ _ | refine blk_drew ?_ | refine blk_alloc ?_ _)); refine blk_put (cs := #[.int .i64 t193, .int .u32 t194, .int .u32 0, .int .u32 0, .int .u32 0, .int .i64 0, .bool false, .int .u32 0, .int .u16 0]) ?_ 2 _ rfl; (with_reducible repeat (first | refine blk_drewN ?_ _ | refine blk_drew ?_ | refine blk_alloc ?_ _)); refine blk_put (cs := #[.int .i64 t193, .int .u32 0, .int .u32 0, .int .u32 0, .int .u32 0, .int .i64 0, .bool false, .int .u32 0, .int .u16 0]) ?_ 1 _ rfl; (with_reducible repeat (first | refine blk_drewN ?_ _ | refine blk_drew ?_ | refine blk_alloc ?_ _)); refine blk_put (cs := #[.int .i64 0, .int .u32 0, .int .u32 0, .int .u32 0, .int .u32 0, .int .i64 0, .bool false, .int .u32 0, .int .u16 0]) ?_ 0 _ rfl; (with_reducible repeat (first | refine blk_drewN ?_ _ | refine blk_drew ?_ | refine blk_alloc ?_ _)); exact BK203.out⟩
    have n3_ : Aside0 (Below w.heap.size w (((((((((w51.setCell ⟨gb203, 0, none⟩ (.int .i64 t193)).setCell ⟨gb203, 1, none⟩ (.int .u32 t194)).setCell ⟨gb203, 2, none⟩ (.int .u32 t195)).setCell ⟨gb203, 3, none⟩ (.int .u32 t196)).setCell ⟨gb203, 4, none⟩ (.int .u32 t197)).setCell ⟨gb203, 5, none⟩ (.int .i64 t198)).setCell ⟨gb203, 6, none⟩ (.bool t199)).setCell ⟨gb203, 7, none⟩ (.int .u32 t200)).setCell ⟨gb203, 8, none⟩ (.int .u16 t201))) := ⟨by repeat (first | (with_reducible first | exact HB.out | apply below_alloc | apply pw_below_drewN | apply below_drew1 | refine below_set ?_ GE185.out | refine below_set ?_ GE203.out) | exact HB.out)⟩
    (try clear HO189)
    (try clear BK185)
    (try clear BK203)
    (try clear HB)
    generalize (((((((((w51.setCell ⟨gb203, 0, none⟩ (.int .i64 t193)).setCell ⟨gb203, 1, none⟩ (.int .u32 t194)).setCell ⟨gb203, 2, none⟩ (.int .u32 t195)).setCell ⟨gb203, 3, none⟩ (.int .u32 t196)).setCell ⟨gb203, 4, none⟩ (.int .u32 t197)).setCell ⟨gb203, 5, none⟩ (.int .i64 t198)).setCell ⟨gb203, 6, none⟩ (.bool t199)).setCell ⟨gb203, 7, none⟩ (.int .u32 t200)).setCell ⟨gb203, 8, none⟩ (.int .u16 t201)) = w54 at n0_ n1_ n2_ n3_ ⊢
    have HO189 := n0_
    have BK185 := n1_
    have BK203 := n2_
    have HB := n3_
    clear n0_ n1_ n2_ n3_
    have n0_ := Aside0.mk (Kd.R_drew HO189.out)
    have n1_ := Aside0.mk (blk_drew BK185.out)
    have n2_ := Aside0.mk (blk_drew BK203.out)
    have n3_ := Aside0.mk (below_drew1 HB.out)
    clear HO189
    clear BK185
    clear BK203
    clear HB
    have HO189 := n0_
    have BK185 := n1_
    have BK203 := n2_
    have HB := n3_
    clear n0_ n1_ n2_ n3_
    refine start_ (n := 15) (S := fun w' => w'.cell? ⟨gb185, 0, none⟩ = some (.int .i64 a0_0) ∧ w'.cell? ⟨gb185, 1, none⟩ = some (.int .u32 a0_1) ∧ w'.cell? ⟨gb185, 2, none⟩ = some (.int .u32 a0_2) ∧ w'.cell? ⟨gb185, 3, none⟩ = some (.int .u32 a0_3) ∧ w'.cell? ⟨gb185, 4, none⟩ = some (.int .u32 a0_4) ∧ w'.cell? ⟨gb185, 5, none⟩ = some (.int .i64 a0_5) ∧ w'.cell? ⟨gb185, 6, none⟩ = some (.bool a0_6) ∧ w'.cell? ⟨gb185, 7, none⟩ = some (.int .u32 a0_7) ∧ w'.cell? ⟨gb185, 8, none⟩ = some (.int .u16 a0_8) ∧ (convert 22 9 (.slice Ao49 t187.length co49)).run Try.prog w' = .ok (.string (strOfNums t187)) w') (ds := []) (bA 15 0) (by kernel_rfl) rfl rfl ⟨(blk_cell BK185.out 0).trans rfl, (blk_cell BK185.out 1).trans rfl, (blk_cell BK185.out 2).trans rfl, (blk_cell BK185.out 3).trans rfl, (blk_cell BK185.out 4).trans rfl, (blk_cell BK185.out 5).trans rfl, (blk_cell BK185.out 6).trans rfl, (blk_cell BK185.out 7).trans rfl, (blk_cell BK185.out 8).trans rfl, own_string (P := Try.prog) Try.underlying22 Try.underlying5 Try.underlying9 (Kd.own_of_R (by (with_reducible repeat (first | apply Kd.R_alloc | apply Kd.R_drewN | apply Kd.R_drew)); exact HO189.out))⟩ (fun hHeld => ?_); refine with_tabW wayfarerlaw05_RecSectors.tab9 wayfarerlaw05_RecSectors.bits9 (fun HT_ HW_ => ?_)
    generalize w54.drew = w55 at HO189 BK185 BK203 HB hHeld ⊢
    refine pure_ (i := 0) (N := some 26) (v := ?_) (a' := ?_) (bA 15 1) rfl rfl (any_of HT_.out (by kernel_rfl)) (fun _ _ _ h => h) (Or.inl ⟨by rfl, ?_⟩) ?_ ?_; rotate_left
    · intro w'; go_simp; with_reducible rfl
    rotate_left; · simp only [Act.put, List.setIfInBounds_toArray, List.set_cons_zero, List.set_cons_succ, i64_w, i32_w]; rfl
    refine take_ (i := 1) (N := some 27) (v := ?_) (a' := ?_) (bA 15 3) rfl rfl (take_ofW HT_.out HW_.out (by kernel_rfl)) (fun _ _ _ h => h) (Or.inl ⟨by rfl, ?_⟩) hHeld ?_ ?_; rotate_left
    · rintro w' ⟨s0, s1, s2, s3, s4, s5, s6, s7, s8, s9⟩
      go_simp
      with_reducible rfl
    rotate_left
    · simp only [Act.put, List.setIfInBounds_toArray, List.set_cons_zero, List.set_cons_succ, i64_w, i32_w]; rfl
    refine take_ (i := 2) (N := some 28) (v := ?_) (a' := ?_) (bA 15 7) rfl rfl (take_ofW HT_.out HW_.out (by kernel_rfl)) (fun _ _ _ h => h) (Or.inl ⟨by rfl, ?_⟩) hHeld ?_ ?_; rotate_left
    · rintro w' ⟨s0, s1, s2, s3, s4, s5, s6, s7, s8, s9⟩
      go_simp
      with_reducible rfl
    rotate_left
    · simp only [Act.put, List.setIfInBounds_toArray, List.set_cons_zero, List.set_cons_succ, i64_w, i32_w]; rfl
    refine one_ (i := 3) (N := some 29) (bA 15 15) rfl rfl (one_of HT_.out (by kernel_rfl)) (by decide) (fun K hK => ?_)
    refine goes_ Try.func31 (by kernel_rfl) rfl #[.agg #[.int .i64 a0_0, .int .u32 a0_1, .int .u32 a0_2, .int .u32 a0_3, .int .u32 a0_4, .int .i64 a0_5, .bool a0_6, .int .u32 a0_7, .int .u16 a0_8]] (by rfl) rfl rfl (by (try simp only [List.map_toArray, List.map_cons, List.map_nil]); first | done | rfl | (simp only [List.length_drop, List.length_take]; rfl)) ?_
    with_reducible refine (wayfarerlaw05_Bytes.calls k a0_0 a0_1 a0_2 a0_3 a0_4 a0_5 a0_6 a0_7 a0_8 t204 _ A18.out).mono ?_
    rintro e w56 ⟨v205, rfl, ho0, hb⟩
    refine ⟨_, rfl, ?_⟩
    have n0_ := Aside0.mk (Kd.R_elder' (by (with_reducible repeat (first | apply Kd.R_alloc | apply Kd.R_drewN | apply Kd.R_drew)); exact HO189.out) (Kd.R_base ho0) hb)
    have n1_ := Aside0.mk (Kd.R_lower (Kd.R_new' ho0 (Kd.R_lt (by (with_reducible repeat (first | apply Kd.R_alloc | apply Kd.R_drewN | apply Kd.R_drew)); exact HO189.out))) (below_size (by repeat (first | (with_reducible first | exact HB.out | apply below_alloc | apply pw_below_drewN | apply below_drew1 | refine below_set ?_ GE185.out | refine below_set ?_ GE203.out) | exact HB.out))))
    have n2_ := Aside0.mk (blk_below (g := gb185) (o := .cells #[.int .i64 a0_0, .int .u32 a0_1, .int .u32 a0_2, .int .u32 a0_3, .int .u32 a0_4, .int .i64 a0_5, .bool a0_6, .int .u32 a0_7, .int .u16 a0_8] 50 (0, 0)) (by (with_reducible repeat (first | refine blk_drewN ?_ _ | refine blk_drew ?_ | refine blk_alloc ?_ _)); exact BK185.out) hb)
    have n3_ := Aside0.mk (blk_below (g := gb203) (o := .cells #[.int .i64 t193, .int .u32 t194, .int .u32 t195, .int .u32 t196, .int .u32 t197, .int .i64 t198, .bool t199, .int .u32 t200, .int .u16 t201] 50 (0, 0)) (by (with_reducible repeat (first | refine blk_drewN ?_ _ | refine blk_drew ?_ | refine blk_alloc ?_ _)); exact BK203.out) hb)
    have n4_ := Aside0.mk (below_step (by repeat (first | (with_reducible first | exact HB.out | apply below_alloc | apply pw_below_drewN | apply below_drew1 | refine below_set ?_ GE185.out | refine below_set ?_ GE203.out) | exact HB.out)) hb)
    clear HO189
    clear BK185
    clear BK203
    clear HB
    have HO189 := n0_
    have HO206 := n1_
    have BK185 := n2_
    have BK203 := n3_
    have HB := n4_
    clear n0_ n1_ n2_ n3_ n4_
    (try clear hb)
    (try clear hb2)
    (try clear hk)
    (try clear hi)
    (try clear ho0)
    refine hK.out _ _ ⟨(blk_cell BK185.out 0).trans rfl, (blk_cell BK185.out 1).trans rfl, (blk_cell BK185.out 2).trans rfl, (blk_cell BK185.out 3).trans rfl, (blk_cell BK185.out 4).trans rfl, (blk_cell BK185.out 5).trans rfl, (blk_cell BK185.out 6).trans rfl, (blk_cell BK185.out 7).trans rfl, (blk_cell BK185.out 8).trans rfl, own_string (P := Try.prog) Try.underlying22 Try.underlying5 Try.underlying9 (Kd.own_of_R (by (with_reducible repeat (first | apply Kd.R_alloc | apply Kd.R_drewN | apply Kd.R_drew)); exact HO189.out))⟩ (fun hHeld => ?_)
    clear hK K
    refine norm_ (a' := ?_) ?_ ?_
    rotate_left
    · show Act.put _ (some 29) _ = _
      simp only [Act.put, List.setIfInBounds_toArray, List.set_cons_zero, List.set_cons_succ, i64_w, i32_w]
      rfl
    refine one_ (i := 4) (N := some 30) (bA 15 31) rfl rfl (one_of HT_.out (by kernel_rfl)) (by decide) (fun K hK => ?_)
    have hcv57 := own_string (P := Try.prog) Try.underlying22 Try.underlying5 Try.underlying9 (Kd.own_of_R HO206.out)
    refine value_ (w1 := ?_) (v := ?_) (by rfl) rfl ?_ ?_
    rotate_left 2
    · go_simp
      constructor
      · rfl
      · rfl
    clear hcv57
    refine hK.out _ _ ⟨(blk_cell BK185.out 0).trans rfl, (blk_cell BK185.out 1).trans rfl, (blk_cell BK185.out 2).trans rfl, (blk_cell BK185.out 3).trans rfl, (blk_cell BK185.out 4).trans rfl, (blk_cell BK185.out 5).trans rfl, (blk_cell BK185.out 6).trans rfl, (blk_cell BK185.out 7).trans rfl, (blk_cell BK185.out 8).trans rfl, own_string (P := Try.prog) Try.underlying22 Try.underlying5 Try.underlying9 (Kd.own_of_R (by (with_reducible repeat (first | apply Kd.R_alloc | apply Kd.R_drewN | apply Kd.R_drew)); exact HO189.out))⟩ (fun hHeld => ?_)
    clear hK K
    refine norm_ (a' := ?_) ?_ ?_
    rotate_left
    · show Act.put _ (some 30) _ = _
      simp only [Act.put, List.setIfInBounds_toArray, List.set_cons_zero, List.set_cons_succ, i64_w, i32_w]
      rfl
    refine pure_ (i := 5) (N := some 31) (v := ?_) (a' := ?_) (bA 15 63) rfl rfl (any_of HT_.out (by kernel_rfl)) (fun _ _ _ h => h) (Or.inl ⟨by rfl, ?_⟩) ?_ ?_; rotate_left
    · intro w'; go_simp; with_reducible rfl
    rotate_left; · simp only [Act.put, List.setIfInBounds_toArray, List.set_cons_zero, List.set_cons_succ, i64_w, i32_w]; rfl
    refine pure_ (i := 6) (N := some 32) (v := ?_) (a' := ?_) (bA 15 127) rfl rfl (any_of HT_.out (by kernel_rfl)) (fun _ _ _ h => h) (Or.inl ⟨by rfl, ?_⟩) ?_ ?_; rotate_left
    · intro w'; go_simp; with_reducible rfl
    rotate_left; · simp only [Act.put, List.setIfInBounds_toArray, List.set_cons_zero, List.set_cons_succ, i64_w, i32_w]; rfl
    refine pure_ (i := 7) (N := some 33) (v := ?_) (a' := ?_) (bA 15 255) rfl rfl (any_of HT_.out (by kernel_rfl)) (fun _ _ _ h => h) (Or.inl ⟨by rfl, ?_⟩) ?_ ?_; rotate_left
    · intro w'; go_simp; with_reducible rfl
    rotate_left; · simp only [Act.put, List.setIfInBounds_toArray, List.set_cons_zero, List.set_cons_succ, i64_w, i32_w]; rfl
    refine pure_ (i := 8) (N := some 34) (v := ?_) (a' := ?_) (bA 15 511) rfl rfl (any_of HT_.out (by kernel_rfl)) (fun _ _ _ h => h) (Or.inl ⟨by rfl, ?_⟩) ?_ ?_; rotate_left
    · intro w'; go_simp; with_reducible rfl
    rotate_left; · simp only [Act.put, List.setIfInBounds_toArray, List.set_cons_zero, List.set_cons_succ, i64_w, i32_w]; rfl
    refine pure_ (i := 9) (N := some 35) (v := ?_) (a' := ?_) (bA 15 1023) rfl rfl (any_of HT_.out (by kernel_rfl)) (fun _ _ _ h => h) (Or.inl ⟨by rfl, ?_⟩) ?_ ?_; rotate_left
    · intro w'; go_simp; with_reducible rfl
    rotate_left; · simp only [Act.put, List.setIfInBounds_toArray, List.set_cons_zero, List.set_cons_succ, i64_w, i32_w]; rfl
    refine pure_ (i := 10) (N := some 36) (v := undef) (a' := ?_) (bA 15 2047) rfl rfl (any_of HT_.out (by kernel_rfl)) (fun _ _ _ h => h) (Or.inr ⟨by rfl, rfl⟩) ?_ ?_; rotate_left
    · simp only [Act.put, List.setIfInBounds_toArray, List.set_cons_zero, List.set_cons_succ, i64_w, i32_w]; rfl
    refine pure_ (i := 11) (N := some 37) (v := undef) (a' := ?_) (bA 15 4095) rfl rfl (any_of HT_.out (by kernel_rfl)) (fun _ _ _ h => h) (Or.inr ⟨by rfl, rfl⟩) ?_ ?_; rotate_left
    · simp only [Act.put, List.setIfInBounds_toArray, List.set_cons_zero, List.set_cons_succ, i64_w, i32_w]; rfl
    refine pure_ (i := 12) (N := some 38) (v := undef) (a' := ?_) (bA 15 8191) rfl rfl (any_of HT_.out (by kernel_rfl)) (fun _ _ _ h => h) (Or.inr ⟨by rfl, rfl⟩) ?_ ?_; rotate_left
    · simp only [Act.put, List.setIfInBounds_toArray, List.set_cons_zero, List.set_cons_succ, i64_w, i32_w]; rfl
    refine pure_ (i := 13) (N := some 39) (v := ?_) (a' := ?_) (bA 15 16383) rfl rfl (any_of HT_.out (by kernel_rfl)) (fun _ _ _ h => h) (Or.inl ⟨by rfl, ?_⟩) ?_ ?_; rotate_left
    · intro w'; go_simp; with_reducible rfl
    rotate_left; · simp only [Act.put, List.setIfInBounds_toArray, List.set_cons_zero, List.set_cons_succ, i64_w, i32_w]; rfl
    refine pure_ (i := 14) (N := some 2) (v := ?_) (a' := ?_) (bA 15 32767) rfl rfl (any_of HT_.out (by kernel_rfl)) (fun _ _ _ h => h) (Or.inl ⟨by rfl, ?_⟩) ?_ ?_; rotate_left
    · intro w'; go_simp; with_reducible rfl
    rotate_left; · simp only [Act.put, List.setIfInBounds_toArray, List.set_cons_zero, List.set_cons_succ, i64_w, i32_w]; rfl
    refine done_ (done_of HT_.out (by kernel_rfl)) ?_
    try go_wp2
    go_ret
    exact ⟨by first | rfl | (simp [errW_none, errW_some] <;> rfl) | (simp [*, errW_none, errW_some] <;> rfl), by repeat (first | (with_reducible first | exact HB.out | apply below_alloc | apply pw_below_drewN | apply below_drew1 | refine below_set ?_ GE185.out | refine below_set ?_ GE203.out) | exact HB.out)⟩
  subst c20
  have H1 : (some (t193 == a0_0 && (t194 == a0_1 && (t195 == a0_2 && (t196 == a0_3 && ((t197 == a0_4 && (t198 == a0_5)) && (t199 == a0_6 && ((t200 == a0_7 && (t201 == a0_8)))))))))) = some r := by rw [if_pos rfl] at H; exact H
  clear H
  have H := H1
  clear H1
  obtain rfl := Option.some.inj H
  try go_wp2_with (first | ((with_reducible refine gate_callee (f := 29) rfl ?_); refine goesL_ (some 16) rfl rfl Try.func29 (by kernel_rfl) rfl #[.agg #[.int .i64 a0_0, .int .u32 a0_1, .int .u32 a0_2, .int .u32 a0_3, .int .u32 a0_4, .int .i64 a0_5, .bool a0_6, .int .u32 a0_7, .int .u16 a0_8]] rfl (by (try simp only [List.map_toArray, List.map_cons, List.map_nil]); first | done | rfl | (simp only [List.length_drop, List.length_take]; rfl)) ?_; (with_reducible refine (wayfarerlaw05_Right.calls a0_0 a0_1 a0_2 a0_3 a0_4 a0_5 a0_6 a0_7 a0_8 true _ A15.out).mono ?_); rintro e w29 ⟨rfl, hb⟩; refine ⟨_, rfl, ?_⟩; have n0_ := Aside0.mk (Kd.R_below (by (with_reducible repeat (first | apply Kd.R_alloc | apply Kd.R_drewN | apply Kd.R_drew)); exact HO189.out) hb); have n1_ := Aside0.mk (blk_below (g := gb185) (o := .cells #[.int .i64 a0_0, .int .u32 a0_1, .int .u32 a0_2, .int .u32 a0_3, .int .u32 a0_4, .int .i64 a0_5, .bool a0_6, .int .u32 a0_7, .int .u16 a0_8] 50 (0, 0)) (by (with_reducible repeat (first | refine blk_drewN ?_ _ | refine blk_drew ?_ | refine blk_alloc ?_ _)); exact BK185.out) hb); have n2_ := Aside0.mk (below_step (by repeat (first | (with_reducible first | exact HB.out | apply below_alloc | apply pw_below_drewN | apply below_drew1 | refine below_set ?_ GE185.out) | exact HB.out)) hb); clear HO189; clear BK185; clear HB; have HO189 := n0_; have BK185 := n1_; have HB := n2_; clear n0_ n1_ n2_; (try clear hb); (try clear hb2); (try clear hk); (try clear hi); obtain ⟨Ao30, co30, eo30⟩ := Kd.R_slice HO189.out; subst eo30) | ((with_reducible refine gate_callee (f := 30) rfl ?_); refine goesL_ (some 23) rfl rfl Try.func30 (by kernel_rfl) rfl #[.slice Ao30 t187.length co30] rfl (by (try simp only [List.map_toArray, List.map_cons, List.map_nil]); first | done | rfl | (simp only [List.length_drop, List.length_take]; rfl)) ?_; (with_reducible refine (rec_Of.calls k _ _ t187 t193 t194 t195 t196 t197 t198 t199 t200 t201 true _ ?side1 ?side2 A17.out).mono ?_); (case side1 => repeat (first | exact (Kd.R_reads' HO189.out).2.2 | (with_reducible refine Kd.C_alloc ?_ _) | (with_reducible refine Kd.C_drewN ?_ _) | (with_reducible refine Kd.C_drew ?_))); (case side2 => exact (Kd.R_reads' HO189.out).2.1); rintro e w31 ⟨rfl, hb⟩; refine ⟨_, rfl, ?_⟩; have n0_ := Aside0.mk (Kd.R_below (by (with_reducible repeat (first | apply Kd.R_alloc | apply Kd.R_drewN | apply Kd.R_drew)); exact HO189.out) hb); have n1_ := Aside0.mk (blk_below (g := gb185) (o := .cells #[.int .i64 a0_0, .int .u32 a0_1, .int .u32 a0_2, .int .u32 a0_3, .int .u32 a0_4, .int .i64 a0_5, .bool a0_6, .int .u32 a0_7, .int .u16 a0_8] 50 (0, 0)) (by (with_reducible repeat (first | refine blk_drewN ?_ _ | refine blk_drew ?_ | refine blk_alloc ?_ _)); exact BK185.out) hb); have n2_ := Aside0.mk (below_step (by repeat (first | (with_reducible first | exact HB.out | apply below_alloc | apply pw_below_drewN | apply below_drew1 | refine below_set ?_ GE185.out) | exact HB.out)) hb); clear HO189; clear BK185; clear HB; have HO189 := n0_; have BK185 := n1_; have HB := n2_; clear n0_ n1_ n2_; (try clear hb); (try clear hb2); (try clear hk); (try clear hi)) | ((with_reducible refine gate_dst (N := 4) rfl ?_); refine box_event ?hg (N := 4) ?hd (cs := #[.int .i64 0, .int .u32 0, .int .u32 0, .int .u32 0, .int .u32 0, .int .i64 0, .bool false, .int .u32 0, .int .u16 0]) (t := 50) ?hr ?_; (case hd => rfl); (case hg => rfl); (case hr => first | (go_simp; done) | (go_simp; rfl)); intro gb203 hg w32 hbox hb; have n0_ := Aside0.mk (Kd.R_below (by (with_reducible repeat (first | apply Kd.R_alloc | apply Kd.R_drewN | apply Kd.R_drew)); exact HO189.out) hb); have n1_ := Aside0.mk (blk_below (g := gb185) (o := .cells #[.int .i64 a0_0, .int .u32 a0_1, .int .u32 a0_2, .int .u32 a0_3, .int .u32 a0_4, .int .i64 a0_5, .bool a0_6, .int .u32 a0_7, .int .u16 a0_8] 50 (0, 0)) (by (with_reducible repeat (first | refine blk_drewN ?_ _ | refine blk_drew ?_ | refine blk_alloc ?_ _)); exact BK185.out) hb); have n2_ := Aside0.mk (below_step (by repeat (first | (with_reducible first | exact HB.out | apply below_alloc | apply pw_below_drewN | apply below_drew1 | refine below_set ?_ GE185.out) | exact HB.out)) hb); have n3_ := Aside0.mk (hbox); have n4_ := Aside0.mk ((by rw [hg]; exact (below_size (by repeat (first | (with_reducible first | exact HB.out | apply below_alloc | apply pw_below_drewN | apply below_drew1 | refine below_set ?_ GE185.out) | exact HB.out))) : w.heap.size ≤ gb203)); have n5_ := Aside0.mk ((by rw [hg]; exact (below_size (by repeat (first | (with_reducible first | exact HB.out | apply below_alloc | apply pw_below_drewN | apply below_drew1 | refine below_set ?_ GE185.out) | exact HB.out))) : w.heap.size ≤ gb203)); have n6_ := Aside0.mk ((by rw [hg]; exact Nat.ne_of_lt (blk_lt (g := gb185) (o := .cells #[.int .i64 a0_0, .int .u32 a0_1, .int .u32 a0_2, .int .u32 a0_3, .int .u32 a0_4, .int .i64 a0_5, .bool a0_6, .int .u32 a0_7, .int .u16 a0_8] 50 (0, 0)) (by (with_reducible repeat (first | refine blk_drewN ?_ _ | refine blk_drew ?_ | refine blk_alloc ?_ _)); exact BK185.out)) : gb185 ≠ gb203)); have n7_ := Aside0.mk ((by rw [hg]; exact Nat.ne_of_gt (blk_lt (g := gb185) (o := .cells #[.int .i64 a0_0, .int .u32 a0_1, .int .u32 a0_2, .int .u32 a0_3, .int .u32 a0_4, .int .i64 a0_5, .bool a0_6, .int .u32 a0_7, .int .u16 a0_8] 50 (0, 0)) (by (with_reducible repeat (first | refine blk_drewN ?_ _ | refine blk_drew ?_ | refine blk_alloc ?_ _)); exact BK185.out)) : gb203 ≠ gb185)); clear HO189; clear BK185; clear HB; have HO189 := n0_; have BK185 := n1_; have HB := n2_; have BK203 := n3_; have GW203 := n4_; have GE203 := n5_; have NB185_203 := n6_; have NB203_185 := n7_; clear n0_ n1_ n2_ n3_ n4_ n5_ n6_ n7_; clear hb hbox hg; have hnb33 := NB203_185.out; have hnc33 := NB185_203.out; have hcz34_0 : w32.cell? ⟨gb203, 0, none⟩ = some (.int .i64 0) := (blk_cell BK203.out 0).trans rfl; have hcz34_1 : w32.cell? ⟨gb203, 1, none⟩ = some (.int .u32 0) := (blk_cell BK203.out 1).trans rfl; have hcz34_2 : w32.cell? ⟨gb203, 2, none⟩ = some (.int .u32 0) := (blk_cell BK203.out 2).trans rfl; have hcz34_3 : w32.cell? ⟨gb203, 3, none⟩ = some (.int .u32 0) := (blk_cell BK203.out 3).trans rfl; have hcz34_4 : w32.cell? ⟨gb203, 4, none⟩ = some (.int .u32 0) := (blk_cell BK203.out 4).trans rfl; have hcz34_5 : w32.cell? ⟨gb203, 5, none⟩ = some (.int .i64 0) := (blk_cell BK203.out 5).trans rfl; have hcz34_6 : w32.cell? ⟨gb203, 6, none⟩ = some (.bool false) := (blk_cell BK203.out 6).trans rfl; have hcz34_7 : w32.cell? ⟨gb203, 7, none⟩ = some (.int .u32 0) := (blk_cell BK203.out 7).trans rfl; have hcz34_8 : w32.cell? ⟨gb203, 8, none⟩ = some (.int .u16 0) := (blk_cell BK203.out 8).trans rfl; have hfz34_0 := blk_frozen BK203.out 0; have hfz34_1 := blk_frozen BK203.out 1; have hfz34_2 := blk_frozen BK203.out 2; have hfz34_3 := blk_frozen BK203.out 3; have hfz34_4 := blk_frozen BK203.out 4; have hfz34_5 := blk_frozen BK203.out 5; have hfz34_6 := blk_frozen BK203.out 6; have hfz34_7 := blk_frozen BK203.out 7; have hfz34_8 := blk_frozen BK203.out 8))
  have n0_ : Aside0 (Kd.R (Kd.int .u8) 5 (((((((((w32.setCell ⟨gb203, 0, none⟩ (.int .i64 t193)).setCell ⟨gb203, 1, none⟩ (.int .u32 t194)).setCell ⟨gb203, 2, none⟩ (.int .u32 t195)).setCell ⟨gb203, 3, none⟩ (.int .u32 t196)).setCell ⟨gb203, 4, none⟩ (.int .u32 t197)).setCell ⟨gb203, 5, none⟩ (.int .i64 t198)).setCell ⟨gb203, 6, none⟩ (.bool t199)).setCell ⟨gb203, 7, none⟩ (.int .u32 t200)).setCell ⟨gb203, 8, none⟩ (.int .u16 t201)) w.heap.size (fun _ => True) (.slice Ao30 t187.length co30) t187) := ⟨by (with_reducible repeat (first | apply Kd.R_alloc | apply Kd.R_drewN | apply Kd.R_drew)); exact Kd.R_mono (Kd.R_far (p := ⟨gb203, 8, none⟩) (Kd.R_far (p := ⟨gb203, 7, none⟩) (Kd.R_far (p := ⟨gb203, 6, none⟩) (Kd.R_far (p := ⟨gb203, 5, none⟩) (Kd.R_far (p := ⟨gb203, 4, none⟩) (Kd.R_far (p := ⟨gb203, 3, none⟩) (Kd.R_far (p := ⟨gb203, 2, none⟩) (Kd.R_far (p := ⟨gb203, 1, none⟩) (Kd.R_far (p := ⟨gb203, 0, none⟩) (Kd.R_types HO189.out BK203.out (by decide)) (fun _ hk => hk.2) (.int .i64 t193)) (fun _ hk => hk.2) (.int .u32 t194)) (fun _ hk => hk.2) (.int .u32 t195)) (fun _ hk => hk.2) (.int .u32 t196)) (fun _ hk => hk.2) (.int .u32 t197)) (fun _ hk => hk.2) (.int .i64 t198)) (fun _ hk => hk.2) (.bool t199)) (fun _ hk => hk.2) (.int .u32 t200)) (fun _ hk => hk.2) (.int .u16 t201)) (fun _ hk => trivial)⟩
  have n1_ : Aside0 ((((((((((w32.setCell ⟨gb203, 0, none⟩ (.int .i64 t193)).setCell ⟨gb203, 1, none⟩ (.int .u32 t194)).setCell ⟨gb203, 2, none⟩ (.int .u32 t195)).setCell ⟨gb203, 3, none⟩ (.int .u32 t196)).setCell ⟨gb203, 4, none⟩ (.int .u32 t197)).setCell ⟨gb203, 5, none⟩ (.int .i64 t198)).setCell ⟨gb203, 6, none⟩ (.bool t199)).setCell ⟨gb203, 7, none⟩ (.int .u32 t200)).setCell ⟨gb203, 8, none⟩ (.int .u16 t201)).heap[gb185]? = some (.cells #[.int .i64 a0_0, .int .u32 a0_1, .int .u32 a0_2, .int .u32 a0_3, .int .u32 a0_4, .int .i64 a0_5, .bool a0_6, .int .u32 a0_7, .int .u16 a0_8] 50 (0, 0))) := ⟨by (with_reducible repeat (first | refine blk_drewN ?_ _ | refine blk_drew ?_ | refine blk_alloc ?_ _)); refine blk_far ?_ NB185_203.out _; (with_reducible repeat (first | refine blk_drewN ?_ _ | refine blk_drew ?_ | refine blk_alloc ?_ _)); refine blk_far ?_ NB185_203.out _; (with_reducible repeat (first | refine blk_drewN ?_ _ | refine blk_drew ?_ | refine blk_alloc ?_ _)); refine blk_far ?_ NB185_203.out _; (with_reducible repeat (first | refine blk_drewN ?_ _ | refine blk_drew ?_ | refine blk_alloc ?_ _)); refine blk_far ?_ NB185_203.out _; (with_reducible repeat (first | refine blk_drewN ?_ _ | refine blk_drew ?_ | refine blk_alloc ?_ _)); refine blk_far ?_ NB185_203.out _; (with_reducible repeat (first | refine blk_drewN ?_ _ | refine blk_drew ?_ | refine blk_alloc ?_ _)); refine blk_far ?_ NB185_203.out _; (with_reducible repeat (first | refine blk_drewN ?_ _ | refine blk_drew ?_ | refine blk_alloc ?_ _)); refine blk_far ?_ NB185_203.out _; (with_reducible repeat (first | refine blk_drewN ?_ _ | refine blk_drew ?_ | refine blk_alloc ?_ _)); refine blk_far ?_ NB185_203.out _; (with_reducible repeat (first | refine blk_drewN ?_ _ | refine blk_drew ?_ | refine blk_alloc ?_ _)); refine blk_far ?_ NB185_203.out _; (with_reducible repeat (first | refine blk_drewN ?_ _ | refine blk_drew ?_ | refine blk_alloc ?_ _)); exact BK185.out⟩
  have n2_ : Aside0 ((((((((((w32.setCell ⟨gb203, 0, none⟩ (.int .i64 t193)).setCell ⟨gb203, 1, none⟩ (.int .u32 t194)).setCell ⟨gb203, 2, none⟩ (.int .u32 t195)).setCell ⟨gb203, 3, none⟩ (.int .u32 t196)).setCell ⟨gb203, 4, none⟩ (.int .u32 t197)).setCell ⟨gb203, 5, none⟩ (.int .i64 t198)).setCell ⟨gb203, 6, none⟩ (.bool t199)).setCell ⟨gb203, 7, none⟩ (.int .u32 t200)).setCell ⟨gb203, 8, none⟩ (.int .u16 t201)).heap[gb203]? = some (.cells #[.int .i64 t193, .int .u32 t194, .int .u32 t195, .int .u32 t196, .int .u32 t197, .int .i64 t198, .bool t199, .int .u32 t200, .int .u16 t201] 50 (0, 0))) := ⟨by (with_reducible repeat (first | refine blk_drewN ?_ _ | refine blk_drew ?_ | refine blk_alloc ?_ _)); refine blk_put (cs := #[.int .i64 t193, .int .u32 t194, .int .u32 t195, .int .u32 t196, .int .u32 t197, .int .i64 t198, .bool t199, .int .u32 t200, .int .u16 0]) ?_ 8 _ rfl; (with_reducible repeat (first | refine blk_drewN ?_ _ | refine blk_drew ?_ | refine blk_alloc ?_ _)); refine blk_put (cs := #[.int .i64 t193, .int .u32 t194, .int .u32 t195, .int .u32 t196, .int .u32 t197, .int .i64 t198, .bool t199, .int .u32 0, .int .u16 0]) ?_ 7 _ rfl; (with_reducible repeat (first | refine blk_drewN ?_ _ | refine blk_drew ?_ | refine blk_alloc ?_ _)); refine blk_put (cs := #[.int .i64 t193, .int .u32 t194, .int .u32 t195, .int .u32 t196, .int .u32 t197, .int .i64 t198, .bool false, .int .u32 0, .int .u16 0]) ?_ 6 _ rfl; (with_reducible repeat (first | refine blk_drewN ?_ _ | refine blk_drew ?_ | refine blk_alloc ?_ _)); refine blk_put (cs := #[.int .i64 t193, .int .u32 t194, .int .u32 t195, .int .u32 t196, .int .u32 t197, .int .i64 0, .bool false, .int .u32 0, .int .u16 0]) ?_ 5 _ rfl; (with_reducible repeat (first | refine blk_drewN ?_ _ | refine blk_drew ?_ | refine blk_alloc ?_ _)); refine blk_put (cs := #[.int .i64 t193, .int .u32 t194, .int .u32 t195, .int .u32 t196, .int .u32 0, .int .i64 0, .bool false, .int .u32 0, .int .u16 0]) ?_ 4 _ rfl; (with_reducible repeat (first | refine blk_drewN ?_ _ | refine blk_drew ?_ | refine blk_alloc ?_ _)); refine blk_put (cs := #[.int .i64 t193, .int .u32 t194, .int .u32 t195, .int .u32 0, .int .u32 0, .int .i64 0, .bool false, .int .u32 0, .int .u16 0]) ?_ 3 _ rfl; (with_reducible repeat (first | refine blk_drewN ?_ _ | refine blk_drew ?_ | refine blk_alloc ?_ _)); refine blk_put (cs := #[.int .i64 t193, .int .u32 t194, .int .u32 0, .int .u32 0, .int .u32 0, .int .i64 0, .bool false, .int .u32 0, .int .u16 0]) ?_ 2 _ rfl; (with_reducible repeat (first | refine blk_drewN ?_ _ | refine blk_drew ?_ | refine blk_alloc ?_ _)); refine blk_put (cs := #[.int .i64 t193, .int .u32 0, .int .u32 0, .int .u32 0, .int .u32 0, .int .i64 0, .bool false, .int .u32 0, .int .u16 0]) ?_ 1 _ rfl; (with_reducible repeat (first | refine blk_drewN ?_ _ | refine blk_drew ?_ | refine blk_alloc ?_ _)); refine blk_put (cs := #[.int .i64 0, .int .u32 0, .int .u32 0, .int .u32 0, .int .u32 0, .int .i64 0, .bool false, .int .u32 0, .int .u16 0]) ?_ 0 _ rfl; (with_reducible repeat (first | refine blk_drewN ?_ _ | refine blk_drew ?_ | refine blk_alloc ?_ _)); exact BK203.out⟩
  have n3_ : Aside0 (Below w.heap.size w (((((((((w32.setCell ⟨gb203, 0, none⟩ (.int .i64 t193)).setCell ⟨gb203, 1, none⟩ (.int .u32 t194)).setCell ⟨gb203, 2, none⟩ (.int .u32 t195)).setCell ⟨gb203, 3, none⟩ (.int .u32 t196)).setCell ⟨gb203, 4, none⟩ (.int .u32 t197)).setCell ⟨gb203, 5, none⟩ (.int .i64 t198)).setCell ⟨gb203, 6, none⟩ (.bool t199)).setCell ⟨gb203, 7, none⟩ (.int .u32 t200)).setCell ⟨gb203, 8, none⟩ (.int .u16 t201))) := ⟨by repeat (first | (with_reducible first | exact HB.out | apply below_alloc | apply pw_below_drewN | apply below_drew1 | refine below_set ?_ GE185.out | refine below_set ?_ GE203.out) | exact HB.out)⟩
  (try clear HO189)
  (try clear BK185)
  (try clear BK203)
  (try clear HB)
  generalize (((((((((w32.setCell ⟨gb203, 0, none⟩ (.int .i64 t193)).setCell ⟨gb203, 1, none⟩ (.int .u32 t194)).setCell ⟨gb203, 2, none⟩ (.int .u32 t195)).setCell ⟨gb203, 3, none⟩ (.int .u32 t196)).setCell ⟨gb203, 4, none⟩ (.int .u32 t197)).setCell ⟨gb203, 5, none⟩ (.int .i64 t198)).setCell ⟨gb203, 6, none⟩ (.bool t199)).setCell ⟨gb203, 7, none⟩ (.int .u32 t200)).setCell ⟨gb203, 8, none⟩ (.int .u16 t201)) = w35 at n0_ n1_ n2_ n3_ ⊢
  have HO189 := n0_
  have BK185 := n1_
  have BK203 := n2_
  have HB := n3_
  clear n0_ n1_ n2_ n3_
  have n0_ := Aside0.mk (Kd.R_drew HO189.out)
  have n1_ := Aside0.mk (blk_drew BK185.out)
  have n2_ := Aside0.mk (blk_drew BK203.out)
  have n3_ := Aside0.mk (below_drew1 HB.out)
  clear HO189
  clear BK185
  clear BK203
  clear HB
  have HO189 := n0_
  have BK185 := n1_
  have BK203 := n2_
  have HB := n3_
  clear n0_ n1_ n2_ n3_
  refine start_ (n := 15) (S := fun w' => w'.cell? ⟨gb185, 0, none⟩ = some (.int .i64 a0_0) ∧ w'.cell? ⟨gb185, 1, none⟩ = some (.int .u32 a0_1) ∧ w'.cell? ⟨gb185, 2, none⟩ = some (.int .u32 a0_2) ∧ w'.cell? ⟨gb185, 3, none⟩ = some (.int .u32 a0_3) ∧ w'.cell? ⟨gb185, 4, none⟩ = some (.int .u32 a0_4) ∧ w'.cell? ⟨gb185, 5, none⟩ = some (.int .i64 a0_5) ∧ w'.cell? ⟨gb185, 6, none⟩ = some (.bool a0_6) ∧ w'.cell? ⟨gb185, 7, none⟩ = some (.int .u32 a0_7) ∧ w'.cell? ⟨gb185, 8, none⟩ = some (.int .u16 a0_8) ∧ w'.cell? ⟨gb203, 0, none⟩ = some (.int .i64 t193) ∧ w'.cell? ⟨gb203, 1, none⟩ = some (.int .u32 t194) ∧ w'.cell? ⟨gb203, 2, none⟩ = some (.int .u32 t195) ∧ w'.cell? ⟨gb203, 3, none⟩ = some (.int .u32 t196) ∧ w'.cell? ⟨gb203, 4, none⟩ = some (.int .u32 t197) ∧ w'.cell? ⟨gb203, 5, none⟩ = some (.int .i64 t198) ∧ w'.cell? ⟨gb203, 6, none⟩ = some (.bool t199) ∧ w'.cell? ⟨gb203, 7, none⟩ = some (.int .u32 t200) ∧ w'.cell? ⟨gb203, 8, none⟩ = some (.int .u16 t201) ∧ (convert 22 9 (.slice Ao30 t187.length co30)).run Try.prog w' = .ok (.string (strOfNums t187)) w') (ds := []) (bA 15 0) (by kernel_rfl) rfl rfl ⟨(blk_cell BK185.out 0).trans rfl, (blk_cell BK185.out 1).trans rfl, (blk_cell BK185.out 2).trans rfl, (blk_cell BK185.out 3).trans rfl, (blk_cell BK185.out 4).trans rfl, (blk_cell BK185.out 5).trans rfl, (blk_cell BK185.out 6).trans rfl, (blk_cell BK185.out 7).trans rfl, (blk_cell BK185.out 8).trans rfl, (blk_cell BK203.out 0).trans rfl, (blk_cell BK203.out 1).trans rfl, (blk_cell BK203.out 2).trans rfl, (blk_cell BK203.out 3).trans rfl, (blk_cell BK203.out 4).trans rfl, (blk_cell BK203.out 5).trans rfl, (blk_cell BK203.out 6).trans rfl, (blk_cell BK203.out 7).trans rfl, (blk_cell BK203.out 8).trans rfl, own_string (P := Try.prog) Try.underlying22 Try.underlying5 Try.underlying9 (Kd.own_of_R (by (with_reducible repeat (first | apply Kd.R_alloc | apply Kd.R_drewN | apply Kd.R_drew)); exact HO189.out))⟩ (fun hHeld => ?_); refine with_tabW wayfarerlaw05_RecSectors.tab9 wayfarerlaw05_RecSectors.bits9 (fun HT_ HW_ => ?_)
  generalize w35.drew = w36 at HO189 BK185 BK203 HB hHeld ⊢
  refine pure_ (i := 0) (N := some 26) (v := ?_) (a' := ?_) (bA 15 1) rfl rfl (any_of HT_.out (by kernel_rfl)) (fun _ _ _ h => h) (Or.inl ⟨by rfl, ?_⟩) ?_ ?_; rotate_left
  · intro w'; go_simp; with_reducible rfl
  rotate_left; · simp only [Act.put, List.setIfInBounds_toArray, List.set_cons_zero, List.set_cons_succ, i64_w, i32_w]; rfl
  refine take_ (i := 1) (N := some 27) (v := ?_) (a' := ?_) (bA 15 3) rfl rfl (take_ofW HT_.out HW_.out (by kernel_rfl)) (fun _ _ _ h => h) (Or.inl ⟨by rfl, ?_⟩) hHeld ?_ ?_; rotate_left
  · rintro w' ⟨s0, s1, s2, s3, s4, s5, s6, s7, s8, s9, s10, s11, s12, s13, s14, s15, s16, s17, s18⟩
    go_simp
    with_reducible rfl
  rotate_left
  · simp only [Act.put, List.setIfInBounds_toArray, List.set_cons_zero, List.set_cons_succ, i64_w, i32_w]; rfl
  refine take_ (i := 2) (N := some 28) (v := ?_) (a' := ?_) (bA 15 7) rfl rfl (take_ofW HT_.out HW_.out (by kernel_rfl)) (fun _ _ _ h => h) (Or.inl ⟨by rfl, ?_⟩) hHeld ?_ ?_; rotate_left
  · rintro w' ⟨s0, s1, s2, s3, s4, s5, s6, s7, s8, s9, s10, s11, s12, s13, s14, s15, s16, s17, s18⟩
    go_simp
    with_reducible rfl
  rotate_left
  · simp only [Act.put, List.setIfInBounds_toArray, List.set_cons_zero, List.set_cons_succ, i64_w, i32_w]; rfl
  refine one_ (i := 3) (N := some 29) (bA 15 15) rfl rfl (one_of HT_.out (by kernel_rfl)) (by decide) (fun K hK => ?_)
  refine goes_ Try.func31 (by kernel_rfl) rfl #[.agg #[.int .i64 a0_0, .int .u32 a0_1, .int .u32 a0_2, .int .u32 a0_3, .int .u32 a0_4, .int .i64 a0_5, .bool a0_6, .int .u32 a0_7, .int .u16 a0_8]] (by rfl) rfl rfl (by (try simp only [List.map_toArray, List.map_cons, List.map_nil]); first | done | rfl | (simp only [List.length_drop, List.length_take]; rfl)) ?_
  with_reducible refine (wayfarerlaw05_Bytes.calls k a0_0 a0_1 a0_2 a0_3 a0_4 a0_5 a0_6 a0_7 a0_8 t204 _ A18.out).mono ?_
  rintro e w37 ⟨v205, rfl, ho0, hb⟩
  refine ⟨_, rfl, ?_⟩
  have n0_ := Aside0.mk (Kd.R_elder' (by (with_reducible repeat (first | apply Kd.R_alloc | apply Kd.R_drewN | apply Kd.R_drew)); exact HO189.out) (Kd.R_base ho0) hb)
  have n1_ := Aside0.mk (Kd.R_lower (Kd.R_new' ho0 (Kd.R_lt (by (with_reducible repeat (first | apply Kd.R_alloc | apply Kd.R_drewN | apply Kd.R_drew)); exact HO189.out))) (below_size (by repeat (first | (with_reducible first | exact HB.out | apply below_alloc | apply pw_below_drewN | apply below_drew1 | refine below_set ?_ GE185.out | refine below_set ?_ GE203.out) | exact HB.out))))
  have n2_ := Aside0.mk (blk_below (g := gb185) (o := .cells #[.int .i64 a0_0, .int .u32 a0_1, .int .u32 a0_2, .int .u32 a0_3, .int .u32 a0_4, .int .i64 a0_5, .bool a0_6, .int .u32 a0_7, .int .u16 a0_8] 50 (0, 0)) (by (with_reducible repeat (first | refine blk_drewN ?_ _ | refine blk_drew ?_ | refine blk_alloc ?_ _)); exact BK185.out) hb)
  have n3_ := Aside0.mk (blk_below (g := gb203) (o := .cells #[.int .i64 t193, .int .u32 t194, .int .u32 t195, .int .u32 t196, .int .u32 t197, .int .i64 t198, .bool t199, .int .u32 t200, .int .u16 t201] 50 (0, 0)) (by (with_reducible repeat (first | refine blk_drewN ?_ _ | refine blk_drew ?_ | refine blk_alloc ?_ _)); exact BK203.out) hb)
  have n4_ := Aside0.mk (below_step (by repeat (first | (with_reducible first | exact HB.out | apply below_alloc | apply pw_below_drewN | apply below_drew1 | refine below_set ?_ GE185.out | refine below_set ?_ GE203.out) | exact HB.out)) hb)
  clear HO189
  clear BK185
  clear BK203
  clear HB
  have HO189 := n0_
  have HO206 := n1_
  have BK185 := n2_
  have BK203 := n3_
  have HB := n4_
  clear n0_ n1_ n2_ n3_ n4_
  (try clear hb)
  (try clear hb2)
  (try clear hk)
  (try clear hi)
  (try clear ho0)
  refine hK.out _ _ ⟨(blk_cell BK185.out 0).trans rfl, (blk_cell BK185.out 1).trans rfl, (blk_cell BK185.out 2).trans rfl, (blk_cell BK185.out 3).trans rfl, (blk_cell BK185.out 4).trans rfl, (blk_cell BK185.out 5).trans rfl, (blk_cell BK185.out 6).trans rfl, (blk_cell BK185.out 7).trans rfl, (blk_cell BK185.out 8).trans rfl, (blk_cell BK203.out 0).trans rfl, (blk_cell BK203.out 1).trans rfl, (blk_cell BK203.out 2).trans rfl, (blk_cell BK203.out 3).trans rfl, (blk_cell BK203.out 4).trans rfl, (blk_cell BK203.out 5).trans rfl, (blk_cell BK203.out 6).trans rfl, (blk_cell BK203.out 7).trans rfl, (blk_cell BK203.out 8).trans rfl, own_string (P := Try.prog) Try.underlying22 Try.underlying5 Try.underlying9 (Kd.own_of_R (by (with_reducible repeat (first | apply Kd.R_alloc | apply Kd.R_drewN | apply Kd.R_drew)); exact HO189.out))⟩ (fun hHeld => ?_)
  clear hK K
  refine norm_ (a' := ?_) ?_ ?_
  rotate_left
  · show Act.put _ (some 29) _ = _
    simp only [Act.put, List.setIfInBounds_toArray, List.set_cons_zero, List.set_cons_succ, i64_w, i32_w]
    rfl
  refine one_ (i := 4) (N := some 30) (bA 15 31) rfl rfl (one_of HT_.out (by kernel_rfl)) (by decide) (fun K hK => ?_)
  have hcv38 := own_string (P := Try.prog) Try.underlying22 Try.underlying5 Try.underlying9 (Kd.own_of_R HO206.out)
  refine value_ (w1 := ?_) (v := ?_) (by rfl) rfl ?_ ?_
  rotate_left 2
  · go_simp
    constructor
    · rfl
    · rfl
  clear hcv38
  refine hK.out _ _ ⟨(blk_cell BK185.out 0).trans rfl, (blk_cell BK185.out 1).trans rfl, (blk_cell BK185.out 2).trans rfl, (blk_cell BK185.out 3).trans rfl, (blk_cell BK185.out 4).trans rfl, (blk_cell BK185.out 5).trans rfl, (blk_cell BK185.out 6).trans rfl, (blk_cell BK185.out 7).trans rfl, (blk_cell BK185.out 8).trans rfl, (blk_cell BK203.out 0).trans rfl, (blk_cell BK203.out 1).trans rfl, (blk_cell BK203.out 2).trans rfl, (blk_cell BK203.out 3).trans rfl, (blk_cell BK203.out 4).trans rfl, (blk_cell BK203.out 5).trans rfl, (blk_cell BK203.out 6).trans rfl, (blk_cell BK203.out 7).trans rfl, (blk_cell BK203.out 8).trans rfl, own_string (P := Try.prog) Try.underlying22 Try.underlying5 Try.underlying9 (Kd.own_of_R (by (with_reducible repeat (first | apply Kd.R_alloc | apply Kd.R_drewN | apply Kd.R_drew)); exact HO189.out))⟩ (fun hHeld => ?_)
  clear hK K
  refine norm_ (a' := ?_) ?_ ?_
  rotate_left
  · show Act.put _ (some 30) _ = _
    simp only [Act.put, List.setIfInBounds_toArray, List.set_cons_zero, List.set_cons_succ, i64_w, i32_w]
    rfl
  refine pure_ (i := 5) (N := some 31) (v := ?_) (a' := ?_) (bA 15 63) rfl rfl (any_of HT_.out (by kernel_rfl)) (fun _ _ _ h => h) (Or.inl ⟨by rfl, ?_⟩) ?_ ?_; rotate_left
  · intro w'; go_simp; with_reducible rfl
  rotate_left; · simp only [Act.put, List.setIfInBounds_toArray, List.set_cons_zero, List.set_cons_succ, i64_w, i32_w]; rfl
  refine pure_ (i := 6) (N := some 32) (v := ?_) (a' := ?_) (bA 15 127) rfl rfl (any_of HT_.out (by kernel_rfl)) (fun _ _ _ h => h) (Or.inl ⟨by rfl, ?_⟩) ?_ ?_; rotate_left
  · intro w'; go_simp; with_reducible rfl
  rotate_left; · simp only [Act.put, List.setIfInBounds_toArray, List.set_cons_zero, List.set_cons_succ, i64_w, i32_w]; rfl
  refine pure_ (i := 7) (N := some 33) (v := ?_) (a' := ?_) (bA 15 255) rfl rfl (any_of HT_.out (by kernel_rfl)) (fun _ _ _ h => h) (Or.inl ⟨by rfl, ?_⟩) ?_ ?_; rotate_left
  · intro w'; go_simp; with_reducible rfl
  rotate_left; · simp only [Act.put, List.setIfInBounds_toArray, List.set_cons_zero, List.set_cons_succ, i64_w, i32_w]; rfl
  refine pure_ (i := 8) (N := some 34) (v := ?_) (a' := ?_) (bA 15 511) rfl rfl (any_of HT_.out (by kernel_rfl)) (fun _ _ _ h => h) (Or.inl ⟨by rfl, ?_⟩) ?_ ?_; rotate_left
  · intro w'; go_simp; with_reducible rfl
  rotate_left; · simp only [Act.put, List.setIfInBounds_toArray, List.set_cons_zero, List.set_cons_succ, i64_w, i32_w]; rfl
  refine pure_ (i := 9) (N := some 35) (v := ?_) (a' := ?_) (bA 15 1023) rfl rfl (any_of HT_.out (by kernel_rfl)) (fun _ _ _ h => h) (Or.inl ⟨by rfl, ?_⟩) ?_ ?_; rotate_left
  · intro w'; go_simp; with_reducible rfl
  rotate_left; · simp only [Act.put, List.setIfInBounds_toArray, List.set_cons_zero, List.set_cons_succ, i64_w, i32_w]; rfl
  refine take_ (i := 10) (N := some 36) (v := ?_) (a' := ?_) (bA 15 2047) rfl rfl (take_ofW HT_.out HW_.out (by kernel_rfl)) (fun _ _ _ h => h) (Or.inl ⟨by rfl, ?_⟩) hHeld ?_ ?_; rotate_left
  · rintro w' ⟨s0, s1, s2, s3, s4, s5, s6, s7, s8, s9, s10, s11, s12, s13, s14, s15, s16, s17, s18⟩
    go_simp
    with_reducible rfl
  rotate_left
  · simp only [Act.put, List.setIfInBounds_toArray, List.set_cons_zero, List.set_cons_succ, i64_w, i32_w]; rfl
  refine take_ (i := 11) (N := some 37) (v := ?_) (a' := ?_) (bA 15 4095) rfl rfl (take_ofW HT_.out HW_.out (by kernel_rfl)) (fun _ _ _ h => h) (Or.inl ⟨by rfl, ?_⟩) hHeld ?_ ?_; rotate_left
  · rintro w' ⟨s0, s1, s2, s3, s4, s5, s6, s7, s8, s9, s10, s11, s12, s13, s14, s15, s16, s17, s18⟩
    go_simp
    with_reducible rfl
  rotate_left
  · simp only [Act.put, List.setIfInBounds_toArray, List.set_cons_zero, List.set_cons_succ, i64_w, i32_w]; rfl
  refine pure_ (i := 12) (N := some 38) (v := ?_) (a' := ?_) (bA 15 8191) rfl rfl (any_of HT_.out (by kernel_rfl)) (fun _ _ _ h => h) (Or.inl ⟨by rfl, ?_⟩) ?_ ?_; rotate_left
  · intro w'; go_simp; with_reducible rfl
  rotate_left; · simp only [Act.put, List.setIfInBounds_toArray, List.set_cons_zero, List.set_cons_succ, i64_w, i32_w]; rfl
  refine pure_ (i := 13) (N := some 39) (v := ?_) (a' := ?_) (bA 15 16383) rfl rfl (any_of HT_.out (by kernel_rfl)) (fun _ _ _ h => h) (Or.inl ⟨by rfl, ?_⟩) ?_ ?_; rotate_left
  · intro w'; go_simp; with_reducible rfl
  rotate_left; · simp only [Act.put, List.setIfInBounds_toArray, List.set_cons_zero, List.set_cons_succ, i64_w, i32_w]; rfl
  refine pure_ (i := 14) (N := some 2) (v := ?_) (a' := ?_) (bA 15 32767) rfl rfl (any_of HT_.out (by kernel_rfl)) (fun _ _ _ h => h) (Or.inl ⟨by rfl, ?_⟩) ?_ ?_; rotate_left
  · intro w'; go_simp; with_reducible rfl
  rotate_left; · simp only [Act.put, List.setIfInBounds_toArray, List.set_cons_zero, List.set_cons_succ, i64_w, i32_w]; rfl
  refine done_ (done_of HT_.out (by kernel_rfl)) ?_
  try go_wp2
  go_ret
  exact ⟨by first | rfl | (simp [errW_none, errW_some] <;> rfl) | (simp [*, errW_none, errW_some] <;> rfl), by repeat (first | (with_reducible first | exact HB.out | apply below_alloc | apply pw_below_drewN | apply below_drew1 | refine below_set ?_ GE185.out | refine below_set ?_ GE203.out) | exact HB.out)⟩
end Go.Proofs.YtgmdjhokcipajaaQ.PRec
