-- written by this session's turned copy of the kit's print.py; Lean checks it
import Derived.Test.YtgmdjhokcipajaaPRec0
import Derived.Test.YtgmdjhokcipajaaPRec2
namespace Go.Proofs.YtgmdjhokcipajaaQ.PRec
open Go.RowKit Go.Proofs.YtgmdjhokcipajaaW.PrintWords Go.Proofs.YtgmdjhokcipajaaW.PrintLast Go.Proofs.YtgmdjhokcipajaaW.PrintMore
attribute [local go_sem] max2_int min2_int max_two min_two max_three min_three max_four min_four   -- for this text's walks alone
set_option linter.unusedVariables false
set_option linter.unusedSimpArgs false

/-! ### rec_Of: function 30 -/
set_option maxHeartbeats 8000000 in
set_option maxRecDepth 100000 in
theorem rec_Of.calls (k : Nat) (A0 : Option Addr) (c0 : Nat) (l0 : List Int) (r1 : Int) (r2 : Int) (r3 : Int) (r4 : Int) (r5 : Int) (r6 : Int) (r7 : Bool) (r8 : Int) (r9 : Int) (r10 : Bool) (w : World) (hr0 : Kd.C (Kd.int .u8) w A0 l0.length l0) (hc0 : l0.length ≤ c0) (h : rec_Of.f k l0 = some (r1, r2, r3, r4, r5, r6, r7, r8, r9, r10)) :
    Calls Try.prog 30 #[.slice A0 l0.length c0] w fun e w' => e = .returned (.tuple #[.agg #[.int .i64 r1, .int .u32 r2, .int .u32 r3, .int .u32 r4, .int .u32 r5, .int .i64 r6, .bool r7, .int .u32 r8, .int .u16 r9], .bool r10]) ∧ Below w.heap.size w w' := by
  have hu50 := Try.underlying50
  have hu29 := Try.underlying29
  have hu39 := Try.underlying39
  have HR0 := Aside0.mk hr0
  have HC0 := Aside0.mk hc0
  clear hr0 hc0
  have HB := Aside0.mk (Below.refl w.heap.size w)
  have H : (if (l0.length : Int) = 48 then (if 44 ≤ (l0.length : Int) then ((rec_get.f (l0.drop 44)).bind fun t104 => ((sum_Of.f k (l0.take 44)).bind fun t106 => (rec_Of.j0 k l0 (t104 != t106)))) else (none)) else (rec_Of.j0 k l0 true)) = some (r1, r2, r3, r4, r5, r6, r7, r8, r9, r10) := h
  clear h
  have HC2 := Aside0.mk H
  clear H
  go_enter Try.func30, Try.ntmps30
  go_upto_region 1 with (first | ((with_reducible refine gate_dst (N := 2) rfl ?_); refine box_event ?hg (N := 2) ?hd (cs := #[.int .i64 0, .int .u32 0, .int .u32 0, .int .u32 0, .int .u32 0, .int .i64 0, .bool false, .int .u32 0, .int .u16 0]) (t := 50) ?hr ?_; (case hd => rfl); (case hg => rfl); (case hr => first | (go_simp; done) | (go_simp; rfl)); intro gb102 hg w3 hbox hb; have n0_ := Aside0.mk (below_step (by repeat (first | (with_reducible first | exact HB.out | apply below_alloc | apply pw_below_drewN | apply below_drew1) | exact HB.out)) hb); have n1_ := Aside0.mk (hbox); have n2_ := Aside0.mk ((by rw [hg]; exact (below_size (by repeat (first | (with_reducible first | exact HB.out | apply below_alloc | apply pw_below_drewN | apply below_drew1) | exact HB.out))) : w.heap.size ≤ gb102)); have n3_ := Aside0.mk ((by rw [hg]; exact (below_size (by repeat (first | (with_reducible first | exact HB.out | apply below_alloc | apply pw_below_drewN | apply below_drew1) | exact HB.out))) : w.heap.size ≤ gb102)); clear HB; have HB := n0_; have BK102 := n1_; have GW102 := n2_; have GE102 := n3_; clear n0_ n1_ n2_ n3_; clear hb hbox hg))
  (try simp only [Act.put, List.setIfInBounds_toArray, List.set_cons_zero, List.set_cons_succ])
  go_cut [16] (fun v16 wc => ∃ (kq : Nat) (x16_1 : Bool), v16 = .bool x16_1 ∧ Aside0 (rec_Of.j0 kq l0 x16_1 = some (r1, r2, r3, r4, r5, r6, r7, r8, r9, r10)) ∧ Aside0 (kq ≤ k) ∧ Aside0 (wc.heap[gb102]? = some (.cells #[.int .i64 0, .int .u32 0, .int .u32 0, .int .u32 0, .int .u32 0, .int .i64 0, .bool false, .int .u32 0, .int .u16 0] 50 (0, 0))) ∧ Aside0 (Below w.heap.size w wc))
  case first =>
    have H := HC2.out
    clear HC2
    by_cases c4 : (l0.length : Int) = 48
    case neg =>
      rw [if_neg c4] at H; have c4b0 : ((l0.length : Int) == 48) = false := beq_eq_false_iff_ne.mpr c4
      have c4b1 : ((l0.length : Int) != 48) = true := bne_iff_ne.mpr c4
      (first | rw [c4b0] | (simp only [i64_w, i32_w]; rw [c4b0]) | skip)
      have H' := Aside0.mk H
      clear H
      try go_wp2
      have n0_ := Aside0.mk (blk_drew BK102.out)
      have n1_ := Aside0.mk (below_drew1 HB.out)
      clear BK102
      clear HB
      have BK102 := n0_
      have HB := n1_
      clear n0_ n1_
      refine start_ (n := 12) (S := fun w' => True) (ds := []) (bA 12 0) (by kernel_rfl) rfl rfl trivial (fun hHeld => ?_); refine with_tabW rec_Of.tab1 rec_Of.bits1 (fun HT_ HW_ => ?_)
      generalize w3.drew = w12 at BK102 HB hHeld ⊢
      refine pure_ (i := 0) (N := some 5) (v := ?_) (a' := ?_) (bA 12 1) rfl rfl (any_of HT_.out (by kernel_rfl)) (fun _ _ _ h => h) (Or.inl ⟨by rfl, ?_⟩) ?_ ?_; rotate_left
      · intro w'; go_simp; with_reducible rfl
      rotate_left; · simp only [Act.put, List.setIfInBounds_toArray, List.set_cons_zero, List.set_cons_succ, i64_w, i32_w]; rfl
      refine pure_ (i := 1) (N := some 6) (v := ?_) (a' := ?_) (bA 12 3) rfl rfl (any_of HT_.out (by kernel_rfl)) (fun _ _ _ h => h) (Or.inl ⟨by rfl, ?_⟩) ?_ ?_; rotate_left
      · intro w'; go_simp; with_reducible rfl
      rotate_left; · simp only [Act.put, List.setIfInBounds_toArray, List.set_cons_zero, List.set_cons_succ, i64_w, i32_w]; rfl
      refine pure_ (i := 2) (N := some 7) (v := ?_) (a' := ?_) (bA 12 7) rfl rfl (any_of HT_.out (by kernel_rfl)) (fun _ _ _ h => h) (Or.inl ⟨by rfl, ?_⟩) ?_ ?_; rotate_left
      · intro w'; go_simp; with_reducible rfl
      rotate_left; · simp only [Act.put, List.setIfInBounds_toArray, List.set_cons_zero, List.set_cons_succ, i64_w, i32_w]; rfl
      refine pure_ (i := 3) (N := some 8) (v := ?_) (a' := ?_) (bA 12 15) rfl rfl (any_of HT_.out (by kernel_rfl)) (fun _ _ _ h => h) (Or.inl ⟨by rfl, ?_⟩) ?_ ?_; rotate_left
      · intro w'; go_simp; with_reducible rfl
      rotate_left; · simp only [Act.put, List.setIfInBounds_toArray, List.set_cons_zero, List.set_cons_succ, i64_w, i32_w]; rfl
      refine pure_ (i := 4) (N := some 9) (v := undef) (a' := ?_) (bA 12 31) rfl rfl (any_of HT_.out (by kernel_rfl)) (fun _ _ _ h => h) (Or.inr ⟨by rfl, rfl⟩) ?_ ?_; rotate_left
      · simp only [Act.put, List.setIfInBounds_toArray, List.set_cons_zero, List.set_cons_succ, i64_w, i32_w]; rfl
      refine pure_ (i := 5) (N := some 10) (v := undef) (a' := ?_) (bA 12 63) rfl rfl (any_of HT_.out (by kernel_rfl)) (fun _ _ _ h => h) (Or.inr ⟨by rfl, rfl⟩) ?_ ?_; rotate_left
      · simp only [Act.put, List.setIfInBounds_toArray, List.set_cons_zero, List.set_cons_succ, i64_w, i32_w]; rfl
      refine pure_ (i := 6) (N := some 11) (v := undef) (a' := ?_) (bA 12 127) rfl rfl (any_of HT_.out (by kernel_rfl)) (fun _ _ _ h => h) (Or.inr ⟨by rfl, rfl⟩) ?_ ?_; rotate_left
      · simp only [Act.put, List.setIfInBounds_toArray, List.set_cons_zero, List.set_cons_succ, i64_w, i32_w]; rfl
      refine pure_ (i := 7) (N := some 12) (v := undef) (a' := ?_) (bA 12 255) rfl rfl (any_of HT_.out (by kernel_rfl)) (fun _ _ _ h => h) (Or.inr ⟨by rfl, rfl⟩) ?_ ?_; rotate_left
      · simp only [Act.put, List.setIfInBounds_toArray, List.set_cons_zero, List.set_cons_succ, i64_w, i32_w]; rfl
      refine pure_ (i := 8) (N := some 13) (v := undef) (a' := ?_) (bA 12 511) rfl rfl (any_of HT_.out (by kernel_rfl)) (fun _ _ _ h => h) (Or.inr ⟨by rfl, rfl⟩) ?_ ?_; rotate_left
      · simp only [Act.put, List.setIfInBounds_toArray, List.set_cons_zero, List.set_cons_succ, i64_w, i32_w]; rfl
      refine pure_ (i := 9) (N := some 14) (v := undef) (a' := ?_) (bA 12 1023) rfl rfl (any_of HT_.out (by kernel_rfl)) (fun _ _ _ h => h) (Or.inr ⟨by rfl, rfl⟩) ?_ ?_; rotate_left
      · simp only [Act.put, List.setIfInBounds_toArray, List.set_cons_zero, List.set_cons_succ, i64_w, i32_w]; rfl
      refine pure_ (i := 10) (N := some 15) (v := undef) (a' := ?_) (bA 12 2047) rfl rfl (any_of HT_.out (by kernel_rfl)) (fun _ _ _ h => h) (Or.inr ⟨by rfl, rfl⟩) ?_ ?_; rotate_left
      · simp only [Act.put, List.setIfInBounds_toArray, List.set_cons_zero, List.set_cons_succ, i64_w, i32_w]; rfl
      refine pure_ (i := 11) (N := some 16) (v := ?_) (a' := ?_) (bA 12 4095) rfl rfl (any_of HT_.out (by kernel_rfl)) (fun _ _ _ h => h) (Or.inl ⟨by rfl, ?_⟩) ?_ ?_; rotate_left
      · intro w'; go_simp; with_reducible rfl
      rotate_left; · simp only [Act.put, List.setIfInBounds_toArray, List.set_cons_zero, List.set_cons_succ, i64_w, i32_w]; rfl
      refine done_ (done_of HT_.out (by kernel_rfl)) ?_
      try go_wp2
      go_meet
      case rel => exact ⟨_, (true), (by first | rfl | (simp; done) | (simp [*]; done)), H', ⟨by first | omega | exact Nat.le_refl _⟩, ⟨by (with_reducible repeat (first | refine blk_drewN ?_ _ | refine blk_drew ?_ | refine blk_alloc ?_ _)); exact BK102.out⟩, ⟨by repeat (first | (with_reducible first | exact HB.out | apply below_alloc | apply pw_below_drewN | apply below_drew1 | refine below_set ?_ GE102.out) | exact HB.out)⟩⟩
    rw [if_pos c4] at H; have c4b0 : ((l0.length : Int) == 48) = true := beq_iff_eq.mpr c4
    have c4b1 : ((l0.length : Int) != 48) = false := bne_eq_false_iff_eq.mpr c4
    clear c4
    (first | rw [c4b0] | (simp only [i64_w, i32_w]; rw [c4b0]) | skip)
    by_cases c5 : 44 ≤ (l0.length : Int)
    case neg =>
      rw [if_neg c5] at H; exact absurd H (by simp)
    rw [if_pos c5] at H; have c5b0 := eq_true c5
    have c5b1 : decide (44 ≤ (l0.length : Int)) = true := decide_eq_true c5
    clear c5
    replace H := Option.bind_eq_some_iff.mp H
    obtain ⟨t104, A60, H⟩ := H
    replace H : ((sum_Of.f k (l0.take 44)).bind fun t106 => (rec_Of.j0 k l0 (t104 != t106))) = some (r1, r2, r3, r4, r5, r6, r7, r8, r9, r10) := H
    have A6 := Aside0.mk A60
    clear A60
    have c7b0 := eq_true (of_decide_eq_true (by first | (with_reducible assumption) | assumption) : 44 ≤ (l0.length : Int))
    replace H := Option.bind_eq_some_iff.mp H
    obtain ⟨t106, A80, H⟩ := H
    replace H : (rec_Of.j0 k l0 (t104 != t106)) = some (r1, r2, r3, r4, r5, r6, r7, r8, r9, r10) := H
    have A8 := Aside0.mk A80
    clear A80
    have H' := Aside0.mk H
    clear H
    try go_wp2
    have n0_ := Aside0.mk (blk_drew BK102.out)
    have n1_ := Aside0.mk (below_drew1 HB.out)
    clear BK102
    clear HB
    have BK102 := n0_
    have HB := n1_
    clear n0_ n1_
    obtain ⟨i010, hi010, _, hsz10, _⟩ := info_parts info5
    obtain ⟨A10, hcut10, hA10, hC10⟩ := print_drop_of (P := Try.prog) (Value.int .u8) 0 22 5 .i64 Try.underlying22 hi010 hsz10 A0 c0 l0 44 (by omega) (of_decide_eq_true (by first | (with_reducible assumption) | assumption)) HC0.out
    have HR103 := Aside0.mk (Kd.C_of_reads (h1 := fun _ => rfl) (hA10 _ (Kd.reads_of_C HR0.out)))
    have HC103 := Aside0.mk hC10
    clear hA10 hC10 hi010 hsz10
    obtain ⟨i011, hi011, _, hsz11, _⟩ := info_parts info5
    obtain ⟨hcut11, hA11, hC11⟩ := print_take_of (P := Try.prog) (Value.int .u8) 0 22 5 .i64 Try.underlying22 hi011 hsz11 A0 c0 l0 44 (by omega) (of_decide_eq_true (by first | (with_reducible assumption) | assumption)) HC0.out
    have HR105 := Aside0.mk (Kd.C_of_reads (h1 := fun _ => rfl) (hA11 _ (Kd.reads_of_C HR0.out)))
    have HC105 := Aside0.mk hC11
    clear hA11 hC11 hi011 hsz11
    refine start_ (n := 12) (S := fun w' => True) (ds := []) (bA 12 0) (by kernel_rfl) rfl rfl trivial (fun hHeld => ?_); refine with_tabW rec_Of.tab1 rec_Of.bits1 (fun HT_ HW_ => ?_)
    generalize w3.drew = w9 at BK102 HB HR103 HR105 hHeld ⊢
    refine pure_ (i := 0) (N := some 5) (v := ?_) (a' := ?_) (bA 12 1) rfl rfl (any_of HT_.out (by kernel_rfl)) (fun _ _ _ h => h) (Or.inl ⟨by rfl, ?_⟩) ?_ ?_; rotate_left
    · intro w'; go_simp; with_reducible rfl
    rotate_left; · simp only [Act.put, List.setIfInBounds_toArray, List.set_cons_zero, List.set_cons_succ, i64_w, i32_w]; rfl
    refine pure_ (i := 1) (N := some 6) (v := ?_) (a' := ?_) (bA 12 3) rfl rfl (any_of HT_.out (by kernel_rfl)) (fun _ _ _ h => h) (Or.inl ⟨by rfl, ?_⟩) ?_ ?_; rotate_left
    · intro w'; go_simp; with_reducible rfl
    rotate_left; · simp only [Act.put, List.setIfInBounds_toArray, List.set_cons_zero, List.set_cons_succ, i64_w, i32_w]; rfl
    refine pure_ (i := 2) (N := some 7) (v := ?_) (a' := ?_) (bA 12 7) rfl rfl (any_of HT_.out (by kernel_rfl)) (fun _ _ _ h => h) (Or.inl ⟨by rfl, ?_⟩) ?_ ?_; rotate_left
    · intro w'; go_simp; with_reducible rfl
    rotate_left; · simp only [Act.put, List.setIfInBounds_toArray, List.set_cons_zero, List.set_cons_succ, i64_w, i32_w]; rfl
    refine pure_ (i := 3) (N := some 8) (v := ?_) (a' := ?_) (bA 12 15) rfl rfl (any_of HT_.out (by kernel_rfl)) (fun _ _ _ h => h) (Or.inl ⟨by rfl, ?_⟩) ?_ ?_; rotate_left
    · intro w'; go_simp; with_reducible rfl
    rotate_left; · simp only [Act.put, List.setIfInBounds_toArray, List.set_cons_zero, List.set_cons_succ, i64_w, i32_w]; rfl
    refine pure_ (i := 4) (N := some 9) (v := ?_) (a' := ?_) (bA 12 31) rfl rfl (any_of HT_.out (by kernel_rfl)) (fun _ _ _ h => h) (Or.inl ⟨by rfl, ?_⟩) ?_ ?_; rotate_left
    · intro w'; go_simp; with_reducible rfl
    rotate_left; · simp only [Act.put, List.setIfInBounds_toArray, List.set_cons_zero, List.set_cons_succ, i64_w, i32_w]; rfl
    refine pure_ (i := 5) (N := some 10) (v := ?_) (a' := ?_) (bA 12 63) rfl rfl (any_of HT_.out (by kernel_rfl)) (fun _ _ _ h => h) (Or.inl ⟨by rfl, ?_⟩) ?_ ?_; rotate_left
    · intro w'; go_simp; with_reducible rfl
    rotate_left; · simp only [Act.put, List.setIfInBounds_toArray, List.set_cons_zero, List.set_cons_succ, i64_w, i32_w]; rfl
    refine pure_ (i := 7) (N := some 12) (v := ?_) (a' := ?_) (bA 12 191) rfl rfl (any_of HT_.out (by kernel_rfl)) (fun _ _ _ h => h) (Or.inl ⟨by rfl, ?_⟩) ?_ ?_; rotate_left
    · intro w'; go_simp; with_reducible rfl
    rotate_left; · simp only [Act.put, List.setIfInBounds_toArray, List.set_cons_zero, List.set_cons_succ, i64_w, i32_w]; rfl
    refine pure_ (i := 8) (N := some 13) (v := ?_) (a' := ?_) (bA 12 447) rfl rfl (any_of HT_.out (by kernel_rfl)) (fun _ _ _ h => h) (Or.inl ⟨by rfl, ?_⟩) ?_ ?_; rotate_left
    · intro w'; go_simp; with_reducible rfl
    rotate_left; · simp only [Act.put, List.setIfInBounds_toArray, List.set_cons_zero, List.set_cons_succ, i64_w, i32_w]; rfl
    refine one_ (i := 6) (N := some 11) (bA 12 511) rfl rfl (one_of HT_.out (by kernel_rfl)) (by decide) (fun K hK => ?_)
    refine goes_ Try.func52 (by kernel_rfl) rfl #[.slice A10 (l0.drop 44).length (c0 - 44)] (by rfl) rfl rfl (by (try simp only [List.map_toArray, List.map_cons, List.map_nil]); first | done | (rw [show (l0.drop 44).length = (l0.length - 44) from List.length_drop] <;> rfl) | rfl | (simp only [List.length_drop, List.length_take]; rfl)) ?_
    with_reducible refine (rec_get.calls0 _ _ (l0.drop 44) t104 _ ?side1 ?side2 A6.out).mono ?_
    (case side1 => repeat (first | exact (Kd.C_below HR103.out HB.out) | (with_reducible refine Kd.C_alloc ?_ _) | (with_reducible refine Kd.C_drewN ?_ _) | (with_reducible refine Kd.C_drew ?_)))
    (case side2 => exact HC103.out)
    rintro e w' ⟨rfl, rfl⟩
    refine ⟨_, rfl, ?_⟩
    refine hK.out _ _ trivial (fun hHeld => ?_)
    clear hK K
    refine norm_ (a' := ?_) ?_ ?_
    rotate_left
    · show Act.put _ (some 11) _ = _
      simp only [Act.put, List.setIfInBounds_toArray, List.set_cons_zero, List.set_cons_succ, i64_w, i32_w]
      rfl
    refine one_ (i := 9) (N := some 14) (bA 12 1023) rfl rfl (one_of HT_.out (by kernel_rfl)) (by decide) (fun K hK => ?_)
    refine goes_ Try.func15 (by kernel_rfl) rfl #[.slice A0 (l0.take 44).length c0] (by rfl) rfl rfl (by (try simp only [List.map_toArray, List.map_cons, List.map_nil]); first | done | (rw [show (l0.take 44).length = 44 from (by rw [List.length_take]; have h_ : (44 : Int) ≤ (l0.length : Int) := of_decide_eq_true (by first | (with_reducible assumption) | assumption); omega)] <;> rfl) | rfl | (simp only [List.length_drop, List.length_take]; rfl)) ?_
    with_reducible refine (sum_Of.calls k _ _ (l0.take 44) t106 _ ?side1 ?side2 A8.out).mono ?_
    (case side1 => repeat (first | exact (Kd.C_below HR105.out (by repeat (first | (with_reducible first | exact HB.out | apply below_alloc | apply pw_below_drewN | apply below_drew1 | refine below_set ?_ GE102.out) | exact HB.out))) | (with_reducible refine Kd.C_alloc ?_ _) | (with_reducible refine Kd.C_drewN ?_ _) | (with_reducible refine Kd.C_drew ?_)))
    (case side2 => exact HC105.out)
    rintro e w' ⟨rfl, ⟨nd, rfl⟩⟩
    refine ⟨_, rfl, ?_⟩
    refine hK.out _ _ trivial (fun hHeld => ?_)
    clear hK K
    refine norm_ (a' := ?_) ?_ ?_
    rotate_left
    · show Act.put _ (some 14) _ = _
      simp only [Act.put, List.setIfInBounds_toArray, List.set_cons_zero, List.set_cons_succ, i64_w, i32_w]
      rfl
    refine pure_ (i := 10) (N := some 15) (v := ?_) (a' := ?_) (bA 12 2047) rfl rfl (any_of HT_.out (by kernel_rfl)) (fun _ _ _ h => h) (Or.inl ⟨by rfl, ?_⟩) ?_ ?_; rotate_left
    · intro w'; go_simp; with_reducible rfl
    rotate_left; · simp only [Act.put, List.setIfInBounds_toArray, List.set_cons_zero, List.set_cons_succ, i64_w, i32_w]; rfl
    refine pure_ (i := 11) (N := some 16) (v := ?_) (a' := ?_) (bA 12 4095) rfl rfl (any_of HT_.out (by kernel_rfl)) (fun _ _ _ h => h) (Or.inl ⟨by rfl, ?_⟩) ?_ ?_; rotate_left
    · intro w'; go_simp; with_reducible rfl
    rotate_left; · simp only [Act.put, List.setIfInBounds_toArray, List.set_cons_zero, List.set_cons_succ, i64_w, i32_w]; rfl
    refine done_ (done_of HT_.out (by kernel_rfl)) ?_
    try go_wp2
    go_meet
    case rel => exact ⟨_, ((t104 != t106)), (by first | rfl | (simp; done) | (simp [*]; done)), H', ⟨by first | omega | exact Nat.le_refl _⟩, ⟨by (with_reducible repeat (first | refine blk_drewN ?_ _ | refine blk_drew ?_ | refine blk_alloc ?_ _)); exact BK102.out⟩, ⟨by repeat (first | (with_reducible first | exact HB.out | apply below_alloc | apply pw_below_drewN | apply below_drew1 | refine below_set ?_ GE102.out) | exact HB.out)⟩⟩
  case rest =>
    clear HC2
    try clear c1; try clear p2; try clear c3; try clear c4; try clear c4b0; try clear c4b1; try clear c5; try clear c5b0; try clear c5b1; try clear c7; try clear c7b0
    obtain ⟨kq, x16_1, rfl, HA, HJ1, BK102, HB⟩ := hcut
    cases kq with
    | zero => exact absurd HA.out (by simp [rec_Of.j0])
    | succ kj1 =>
      have H := HA.out
      clear HA
      simp only [rec_Of.j0] at H
      by_cases c13 : x16_1 = true
      case pos =>
        subst c13
        have H1 : (some (0, 0, 0, 0, 0, 0, false, 0, 0, false)) = some (r1, r2, r3, r4, r5, r6, r7, r8, r9, r10) := by rw [if_pos rfl] at H; exact H
        clear H
        have H := H1
        clear H1
        simp only [Option.some.injEq, Prod.mk.injEq] at H
        obtain ⟨rfl, rfl, rfl, rfl, rfl, rfl, rfl, rfl, rfl, rfl⟩ := H
        have hcz14_0 : wc.cell? ⟨gb102, 0, none⟩ = some (.int .i64 0) := (blk_cell BK102.out 0).trans rfl
        have hcz14_1 : wc.cell? ⟨gb102, 1, none⟩ = some (.int .u32 0) := (blk_cell BK102.out 1).trans rfl
        have hcz14_2 : wc.cell? ⟨gb102, 2, none⟩ = some (.int .u32 0) := (blk_cell BK102.out 2).trans rfl
        have hcz14_3 : wc.cell? ⟨gb102, 3, none⟩ = some (.int .u32 0) := (blk_cell BK102.out 3).trans rfl
        have hcz14_4 : wc.cell? ⟨gb102, 4, none⟩ = some (.int .u32 0) := (blk_cell BK102.out 4).trans rfl
        have hcz14_5 : wc.cell? ⟨gb102, 5, none⟩ = some (.int .i64 0) := (blk_cell BK102.out 5).trans rfl
        have hcz14_6 : wc.cell? ⟨gb102, 6, none⟩ = some (.bool false) := (blk_cell BK102.out 6).trans rfl
        have hcz14_7 : wc.cell? ⟨gb102, 7, none⟩ = some (.int .u32 0) := (blk_cell BK102.out 7).trans rfl
        have hcz14_8 : wc.cell? ⟨gb102, 8, none⟩ = some (.int .u16 0) := (blk_cell BK102.out 8).trans rfl
        have hfz14_0 := blk_frozen BK102.out 0
        have hfz14_1 := blk_frozen BK102.out 1
        have hfz14_2 := blk_frozen BK102.out 2
        have hfz14_3 := blk_frozen BK102.out 3
        have hfz14_4 := blk_frozen BK102.out 4
        have hfz14_5 := blk_frozen BK102.out 5
        have hfz14_6 := blk_frozen BK102.out 6
        have hfz14_7 := blk_frozen BK102.out 7
        have hfz14_8 := blk_frozen BK102.out 8
        go_wp2
        refine bodyPost_ret (results_ct rfl _ _ gb102 50 #[.int .i64 0, .int .u32 0, .int .u32 0, .int .u32 0, .int .u32 0, .int .i64 0, .bool false, .int .u32 0, .int .u16 0] (0, 0) _ rfl (by (with_reducible repeat (first | refine blk_drewN ?_ _ | refine blk_drew ?_ | refine blk_alloc ?_ _)); refine blk_put (cs := #[.int .i64 0, .int .u32 0, .int .u32 0, .int .u32 0, .int .u32 0, .int .i64 0, .bool false, .int .u32 0, .int .u16 0]) ?_ 8 _ rfl; (with_reducible repeat (first | refine blk_drewN ?_ _ | refine blk_drew ?_ | refine blk_alloc ?_ _)); refine blk_put (cs := #[.int .i64 0, .int .u32 0, .int .u32 0, .int .u32 0, .int .u32 0, .int .i64 0, .bool false, .int .u32 0, .int .u16 0]) ?_ 7 _ rfl; (with_reducible repeat (first | refine blk_drewN ?_ _ | refine blk_drew ?_ | refine blk_alloc ?_ _)); refine blk_put (cs := #[.int .i64 0, .int .u32 0, .int .u32 0, .int .u32 0, .int .u32 0, .int .i64 0, .bool false, .int .u32 0, .int .u16 0]) ?_ 6 _ rfl; (with_reducible repeat (first | refine blk_drewN ?_ _ | refine blk_drew ?_ | refine blk_alloc ?_ _)); refine blk_put (cs := #[.int .i64 0, .int .u32 0, .int .u32 0, .int .u32 0, .int .u32 0, .int .i64 0, .bool false, .int .u32 0, .int .u16 0]) ?_ 5 _ rfl; (with_reducible repeat (first | refine blk_drewN ?_ _ | refine blk_drew ?_ | refine blk_alloc ?_ _)); refine blk_put (cs := #[.int .i64 0, .int .u32 0, .int .u32 0, .int .u32 0, .int .u32 0, .int .i64 0, .bool false, .int .u32 0, .int .u16 0]) ?_ 4 _ rfl; (with_reducible repeat (first | refine blk_drewN ?_ _ | refine blk_drew ?_ | refine blk_alloc ?_ _)); refine blk_put (cs := #[.int .i64 0, .int .u32 0, .int .u32 0, .int .u32 0, .int .u32 0, .int .i64 0, .bool false, .int .u32 0, .int .u16 0]) ?_ 3 _ rfl; (with_reducible repeat (first | refine blk_drewN ?_ _ | refine blk_drew ?_ | refine blk_alloc ?_ _)); refine blk_put (cs := #[.int .i64 0, .int .u32 0, .int .u32 0, .int .u32 0, .int .u32 0, .int .i64 0, .bool false, .int .u32 0, .int .u16 0]) ?_ 2 _ rfl; (with_reducible repeat (first | refine blk_drewN ?_ _ | refine blk_drew ?_ | refine blk_alloc ?_ _)); refine blk_put (cs := #[.int .i64 0, .int .u32 0, .int .u32 0, .int .u32 0, .int .u32 0, .int .i64 0, .bool false, .int .u32 0, .int .u16 0]) ?_ 1 _ rfl; (with_reducible repeat (first | refine blk_drewN ?_ _ | refine blk_drew ?_ | refine blk_alloc ?_ _)); refine blk_put (cs := #[.int .i64 0, .int .u32 0, .int .u32 0, .int .u32 0, .int .u32 0, .int .i64 0, .bool false, .int .u32 0, .int .u16 0]) ?_ 0 _ rfl; (with_reducible repeat (first | refine blk_drewN ?_ _ | refine blk_drew ?_ | refine blk_alloc ?_ _)); exact BK102.out) Try.underlying50 rfl (by kernel_rfl)) rfl ?_
        exact ⟨by first | rfl | (simp [errW_none, errW_some] <;> rfl) | (simp [*, errW_none, errW_some] <;> rfl), by repeat (first | (with_reducible first | exact HB.out | apply below_alloc | apply pw_below_drewN | apply below_drew1 | refine below_set ?_ GE102.out) | exact HB.out)⟩
      replace c13 := Bool.eq_false_iff.mpr c13
      subst c13
      have H1 : (if 0 < (l0.length : Int) then (if 4 ≤ (l0.length : Int) then ((rec_get.f (l0.drop 4)).bind fun t109 => (if 8 ≤ (l0.length : Int) then ((rec_get.f (l0.drop 8)).bind fun t111 => (if 12 ≤ (l0.length : Int) then ((rec_get.f (l0.drop 12)).bind fun t113 => (if 16 ≤ (l0.length : Int) then ((rec_get.f (l0.drop 16)).bind fun t115 => (if 20 < (l0.length : Int) then (if 1 < (l0.length : Int) then (if 24 ≤ (l0.length : Int) then ((rec_get.f (l0.drop 24)).bind fun t120 => (if 2 < (l0.length : Int) then (if 3 < (l0.length : Int) then ((rec_Rec_Right.f (wrap64 (rd l0 0)) t109 t111 t113 t115 (wrap64 (rd l0 20)) ((rd l0 1) == 1) t120 (Go.bits .or .u16 (IntKind.u16.wrap ((IntKind.u16.wrap (rd l0 2)) * 256)) (IntKind.u16.wrap (rd l0 3)))).bind fun t123 => (if t123 = true then ((rec_Rec_Sector.f (wrap64 (rd l0 0)) t109 t111 t113 t115 (wrap64 (rd l0 20)) ((rd l0 1) == 1) t120 (Go.bits .or .u16 (IntKind.u16.wrap ((IntKind.u16.wrap (rd l0 2)) * 256)) (IntKind.u16.wrap (rd l0 3)))).bind fun t124 => (if (strOfNums t124).toList = (strOfNums l0).toList then (some (wrap64 (rd l0 0), t109, t111, t113, t115, wrap64 (rd l0 20), ((rd l0 1) == 1), t120, Go.bits .or .u16 (IntKind.u16.wrap ((IntKind.u16.wrap (rd l0 2)) * 256)) (IntKind.u16.wrap (rd l0 3)), true)) else (some (0, 0, 0, 0, 0, 0, false, 0, 0, false)))) else (some (0, 0, 0, 0, 0, 0, false, 0, 0, false)))) else (none)) else (none))) else (none)) else (none)) else (none))) else (none))) else (none))) else (none))) else (none)) else (none)) = some (r1, r2, r3, r4, r5, r6, r7, r8, r9, r10) := by rw [if_neg (show ¬ (false = true) by decide)] at H; exact H
      clear H
      have H := H1
      clear H1
      by_cases c15 : 0 < (l0.length : Int)
      case neg =>
        rw [if_neg c15] at H; exact absurd H (by simp)

      rw [if_pos c15] at H; have c15b0 : decide (0 < (l0.length : Int)) = true := decide_eq_true c15
      have c15b1 : decide (0 < l0.length) = true := decide_eq_true (by omega)
      clear c15
      by_cases c16 : 4 ≤ (l0.length : Int)
      case neg =>
        rw [if_neg c16] at H; exact absurd H (by simp)
      rw [if_pos c16] at H; have c16b0 := eq_true c16
      have c16b1 : decide (4 ≤ (l0.length : Int)) = true := decide_eq_true c16
      clear c16
      replace H := Option.bind_eq_some_iff.mp H
      obtain ⟨t109, A170, H⟩ := H
      replace H : (if 8 ≤ (l0.length : Int) then ((rec_get.f (l0.drop 8)).bind fun t111 => (if 12 ≤ (l0.length : Int) then ((rec_get.f (l0.drop 12)).bind fun t113 => (if 16 ≤ (l0.length : Int) then ((rec_get.f (l0.drop 16)).bind fun t115 => (if 20 < (l0.length : Int) then (if 1 < (l0.length : Int) then (if 24 ≤ (l0.length : Int) then ((rec_get.f (l0.drop 24)).bind fun t120 => (if 2 < (l0.length : Int) then (if 3 < (l0.length : Int) then ((rec_Rec_Right.f (wrap64 (rd l0 0)) t109 t111 t113 t115 (wrap64 (rd l0 20)) ((rd l0 1) == 1) t120 (Go.bits .or .u16 (IntKind.u16.wrap ((IntKind.u16.wrap (rd l0 2)) * 256)) (IntKind.u16.wrap (rd l0 3)))).bind fun t123 => (if t123 = true then ((rec_Rec_Sector.f (wrap64 (rd l0 0)) t109 t111 t113 t115 (wrap64 (rd l0 20)) ((rd l0 1) == 1) t120 (Go.bits .or .u16 (IntKind.u16.wrap ((IntKind.u16.wrap (rd l0 2)) * 256)) (IntKind.u16.wrap (rd l0 3)))).bind fun t124 => (if (strOfNums t124).toList = (strOfNums l0).toList then (some (wrap64 (rd l0 0), t109, t111, t113, t115, wrap64 (rd l0 20), ((rd l0 1) == 1), t120, Go.bits .or .u16 (IntKind.u16.wrap ((IntKind.u16.wrap (rd l0 2)) * 256)) (IntKind.u16.wrap (rd l0 3)), true)) else (some (0, 0, 0, 0, 0, 0, false, 0, 0, false)))) else (some (0, 0, 0, 0, 0, 0, false, 0, 0, false)))) else (none)) else (none))) else (none)) else (none)) else (none))) else (none))) else (none))) else (none)) = some (r1, r2, r3, r4, r5, r6, r7, r8, r9, r10) := H
      have A17 := Aside0.mk A170
      clear A170
      by_cases c18 : 8 ≤ (l0.length : Int)
      case neg =>
        rw [if_neg c18] at H; exact absurd H (by simp)
      rw [if_pos c18] at H; have c18b0 := eq_true c18
      have c18b1 : decide (8 ≤ (l0.length : Int)) = true := decide_eq_true c18
      clear c18
      replace H := Option.bind_eq_some_iff.mp H
      obtain ⟨t111, A190, H⟩ := H
      replace H : (if 12 ≤ (l0.length : Int) then ((rec_get.f (l0.drop 12)).bind fun t113 => (if 16 ≤ (l0.length : Int) then ((rec_get.f (l0.drop 16)).bind fun t115 => (if 20 < (l0.length : Int) then (if 1 < (l0.length : Int) then (if 24 ≤ (l0.length : Int) then ((rec_get.f (l0.drop 24)).bind fun t120 => (if 2 < (l0.length : Int) then (if 3 < (l0.length : Int) then ((rec_Rec_Right.f (wrap64 (rd l0 0)) t109 t111 t113 t115 (wrap64 (rd l0 20)) ((rd l0 1) == 1) t120 (Go.bits .or .u16 (IntKind.u16.wrap ((IntKind.u16.wrap (rd l0 2)) * 256)) (IntKind.u16.wrap (rd l0 3)))).bind fun t123 => (if t123 = true then ((rec_Rec_Sector.f (wrap64 (rd l0 0)) t109 t111 t113 t115 (wrap64 (rd l0 20)) ((rd l0 1) == 1) t120 (Go.bits .or .u16 (IntKind.u16.wrap ((IntKind.u16.wrap (rd l0 2)) * 256)) (IntKind.u16.wrap (rd l0 3)))).bind fun t124 => (if (strOfNums t124).toList = (strOfNums l0).toList then (some (wrap64 (rd l0 0), t109, t111, t113, t115, wrap64 (rd l0 20), ((rd l0 1) == 1), t120, Go.bits .or .u16 (IntKind.u16.wrap ((IntKind.u16.wrap (rd l0 2)) * 256)) (IntKind.u16.wrap (rd l0 3)), true)) else (some (0, 0, 0, 0, 0, 0, false, 0, 0, false)))) else (some (0, 0, 0, 0, 0, 0, false, 0, 0, false)))) else (none)) else (none))) else (none)) else (none)) else (none))) else (none))) else (none)) = some (r1, r2, r3, r4, r5, r6, r7, r8, r9, r10) := H
      have A19 := Aside0.mk A190
      clear A190
      by_cases c20 : 12 ≤ (l0.length : Int)
      case neg =>
        rw [if_neg c20] at H; exact absurd H (by simp)
      rw [if_pos c20] at H; have c20b0 := eq_true c20
      have c20b1 : decide (12 ≤ (l0.length : Int)) = true := decide_eq_true c20
      clear c20
      replace H := Option.bind_eq_some_iff.mp H
      obtain ⟨t113, A210, H⟩ := H
      replace H : (if 16 ≤ (l0.length : Int) then ((rec_get.f (l0.drop 16)).bind fun t115 => (if 20 < (l0.length : Int) then (if 1 < (l0.length : Int) then (if 24 ≤ (l0.length : Int) then ((rec_get.f (l0.drop 24)).bind fun t120 => (if 2 < (l0.length : Int) then (if 3 < (l0.length : Int) then ((rec_Rec_Right.f (wrap64 (rd l0 0)) t109 t111 t113 t115 (wrap64 (rd l0 20)) ((rd l0 1) == 1) t120 (Go.bits .or .u16 (IntKind.u16.wrap ((IntKind.u16.wrap (rd l0 2)) * 256)) (IntKind.u16.wrap (rd l0 3)))).bind fun t123 => (if t123 = true then ((rec_Rec_Sector.f (wrap64 (rd l0 0)) t109 t111 t113 t115 (wrap64 (rd l0 20)) ((rd l0 1) == 1) t120 (Go.bits .or .u16 (IntKind.u16.wrap ((IntKind.u16.wrap (rd l0 2)) * 256)) (IntKind.u16.wrap (rd l0 3)))).bind fun t124 => (if (strOfNums t124).toList = (strOfNums l0).toList then (some (wrap64 (rd l0 0), t109, t111, t113, t115, wrap64 (rd l0 20), ((rd l0 1) == 1), t120, Go.bits .or .u16 (IntKind.u16.wrap ((IntKind.u16.wrap (rd l0 2)) * 256)) (IntKind.u16.wrap (rd l0 3)), true)) else (some (0, 0, 0, 0, 0, 0, false, 0, 0, false)))) else (some (0, 0, 0, 0, 0, 0, false, 0, 0, false)))) else (none)) else (none))) else (none)) else (none)) else (none))) else (none)) = some (r1, r2, r3, r4, r5, r6, r7, r8, r9, r10) := H
      have A21 := Aside0.mk A210
      clear A210
      by_cases c22 : 16 ≤ (l0.length : Int)
      case neg =>
        rw [if_neg c22] at H; exact absurd H (by simp)
      rw [if_pos c22] at H; have c22b0 := eq_true c22
      have c22b1 : decide (16 ≤ (l0.length : Int)) = true := decide_eq_true c22
      clear c22
      replace H := Option.bind_eq_some_iff.mp H
      obtain ⟨t115, A230, H⟩ := H
      replace H : (if 20 < (l0.length : Int) then (if 1 < (l0.length : Int) then (if 24 ≤ (l0.length : Int) then ((rec_get.f (l0.drop 24)).bind fun t120 => (if 2 < (l0.length : Int) then (if 3 < (l0.length : Int) then ((rec_Rec_Right.f (wrap64 (rd l0 0)) t109 t111 t113 t115 (wrap64 (rd l0 20)) ((rd l0 1) == 1) t120 (Go.bits .or .u16 (IntKind.u16.wrap ((IntKind.u16.wrap (rd l0 2)) * 256)) (IntKind.u16.wrap (rd l0 3)))).bind fun t123 => (if t123 = true then ((rec_Rec_Sector.f (wrap64 (rd l0 0)) t109 t111 t113 t115 (wrap64 (rd l0 20)) ((rd l0 1) == 1) t120 (Go.bits .or .u16 (IntKind.u16.wrap ((IntKind.u16.wrap (rd l0 2)) * 256)) (IntKind.u16.wrap (rd l0 3)))).bind fun t124 => (if (strOfNums t124).toList = (strOfNums l0).toList then (some (wrap64 (rd l0 0), t109, t111, t113, t115, wrap64 (rd l0 20), ((rd l0 1) == 1), t120, Go.bits .or .u16 (IntKind.u16.wrap ((IntKind.u16.wrap (rd l0 2)) * 256)) (IntKind.u16.wrap (rd l0 3)), true)) else (some (0, 0, 0, 0, 0, 0, false, 0, 0, false)))) else (some (0, 0, 0, 0, 0, 0, false, 0, 0, false)))) else (none)) else (none))) else (none)) else (none)) else (none)) = some (r1, r2, r3, r4, r5, r6, r7, r8, r9, r10) := H
      have A23 := Aside0.mk A230
      clear A230
      by_cases c24 : 20 < (l0.length : Int)
      case neg =>
        rw [if_neg c24] at H; exact absurd H (by simp)
      rw [if_pos c24] at H; have c24b0 : decide (20 < (l0.length : Int)) = true := decide_eq_true c24
      have c24b1 : decide (20 < l0.length) = true := decide_eq_true (by omega)
      clear c24
      by_cases c25 : 1 < (l0.length : Int)
      case neg =>
        rw [if_neg c25] at H; exact absurd H (by simp)
      rw [if_pos c25] at H; have c25b0 : decide (1 < (l0.length : Int)) = true := decide_eq_true c25
      have c25b1 : decide (1 < l0.length) = true := decide_eq_true (by omega)
      clear c25
      by_cases c26 : 24 ≤ (l0.length : Int)
      case neg =>
        rw [if_neg c26] at H; exact absurd H (by simp)
      rw [if_pos c26] at H; have c26b0 := eq_true c26
      have c26b1 : decide (24 ≤ (l0.length : Int)) = true := decide_eq_true c26
      clear c26
      replace H := Option.bind_eq_some_iff.mp H
      obtain ⟨t120, A270, H⟩ := H
      replace H : (if 2 < (l0.length : Int) then (if 3 < (l0.length : Int) then ((rec_Rec_Right.f (wrap64 (rd l0 0)) t109 t111 t113 t115 (wrap64 (rd l0 20)) ((rd l0 1) == 1) t120 (Go.bits .or .u16 (IntKind.u16.wrap ((IntKind.u16.wrap (rd l0 2)) * 256)) (IntKind.u16.wrap (rd l0 3)))).bind fun t123 => (if t123 = true then ((rec_Rec_Sector.f (wrap64 (rd l0 0)) t109 t111 t113 t115 (wrap64 (rd l0 20)) ((rd l0 1) == 1) t120 (Go.bits .or .u16 (IntKind.u16.wrap ((IntKind.u16.wrap (rd l0 2)) * 256)) (IntKind.u16.wrap (rd l0 3)))).bind fun t124 => (if (strOfNums t124).toList = (strOfNums l0).toList then (some (wrap64 (rd l0 0), t109, t111, t113, t115, wrap64 (rd l0 20), ((rd l0 1) == 1), t120, Go.bits .or .u16 (IntKind.u16.wrap ((IntKind.u16.wrap (rd l0 2)) * 256)) (IntKind.u16.wrap (rd l0 3)), true)) else (some (0, 0, 0, 0, 0, 0, false, 0, 0, false)))) else (some (0, 0, 0, 0, 0, 0, false, 0, 0, false)))) else (none)) else (none)) = some (r1, r2, r3, r4, r5, r6, r7, r8, r9, r10) := H
      have A27 := Aside0.mk A270
      clear A270
      by_cases c28 : 2 < (l0.length : Int)
      case neg =>
        rw [if_neg c28] at H; exact absurd H (by simp)
      rw [if_pos c28] at H; have c28b0 : decide (2 < (l0.length : Int)) = true := decide_eq_true c28
      have c28b1 : decide (2 < l0.length) = true := decide_eq_true (by omega)
      clear c28
      by_cases c29 : 3 < (l0.length : Int)
      case neg =>
        rw [if_neg c29] at H; exact absurd H (by simp)
      rw [if_pos c29] at H; have c29b0 : decide (3 < (l0.length : Int)) = true := decide_eq_true c29
      have c29b1 : decide (3 < l0.length) = true := decide_eq_true (by omega)
      clear c29
      replace H := Option.bind_eq_some_iff.mp H
      obtain ⟨t123, A300, H⟩ := H
      replace H : (if t123 = true then ((rec_Rec_Sector.f (wrap64 (rd l0 0)) t109 t111 t113 t115 (wrap64 (rd l0 20)) ((rd l0 1) == 1) t120 (Go.bits .or .u16 (IntKind.u16.wrap ((IntKind.u16.wrap (rd l0 2)) * 256)) (IntKind.u16.wrap (rd l0 3)))).bind fun t124 => (if (strOfNums t124).toList = (strOfNums l0).toList then (some (wrap64 (rd l0 0), t109, t111, t113, t115, wrap64 (rd l0 20), ((rd l0 1) == 1), t120, Go.bits .or .u16 (IntKind.u16.wrap ((IntKind.u16.wrap (rd l0 2)) * 256)) (IntKind.u16.wrap (rd l0 3)), true)) else (some (0, 0, 0, 0, 0, 0, false, 0, 0, false)))) else (some (0, 0, 0, 0, 0, 0, false, 0, 0, false))) = some (r1, r2, r3, r4, r5, r6, r7, r8, r9, r10) := H
      have A30 := Aside0.mk A300
      clear A300
      try go_wp2
      have n0_ := Aside0.mk (blk_drew BK102.out)
      have n1_ := Aside0.mk (below_drew1 HB.out)
      clear BK102
      clear HB
      have BK102 := n0_
      have HB := n1_
      clear n0_ n1_
      have p107 : 0 ≤ (0 : Int) := (by omega)
      have q107 : 0 < (l0.length : Int) := of_decide_eq_true (by first | (with_reducible assumption) | assumption)
      obtain ⟨ad107, e107, hx107_0⟩ := Kd.at_int HR0.out 0 p107 q107
      have hw107_0 := hx107_0
      (try rw [show ((0 : Int)).toNat = 0 from rfl] at hw107_0)
      (try rw [show 0 * 1 = 0 from rfl] at hw107_0)
      (try rw [Addr.add_zero'] at hw107_0)
      cases e107
      have qi107 : (0 < l0.length) = True := eq_true (by omega)
      (try rw [show ((0 : Int)).toNat = 0 from rfl] at hx107_0)
      (try rw [Addr.add_zero'] at hx107_0)
      replace hx107_0 := (HB.out.cell (World.block_lt_of_cell? w _ hx107_0)).trans hx107_0
      replace p107 := eq_true p107
      replace q107 := eq_true q107
      obtain ⟨i094, hi094, _, hsz94, _⟩ := info_parts info5
      obtain ⟨A94, hcut94, hA94, hC94⟩ := print_drop_of (P := Try.prog) (Value.int .u8) 0 22 5 .i64 Try.underlying22 hi094 hsz94 (some ad107) c0 l0 4 (by omega) (of_decide_eq_true (by first | (with_reducible assumption) | assumption)) HC0.out
      have HR108 := Aside0.mk (Kd.C_of_reads (h1 := fun _ => rfl) (hA94 _ (Kd.reads_of_C HR0.out)))
      have HC108 := Aside0.mk hC94
      clear hA94 hC94 hi094 hsz94
      obtain ⟨i095, hi095, _, hsz95, _⟩ := info_parts info5
      obtain ⟨A95, hcut95, hA95, hC95⟩ := print_drop_of (P := Try.prog) (Value.int .u8) 0 22 5 .i64 Try.underlying22 hi095 hsz95 (some ad107) c0 l0 8 (by omega) (of_decide_eq_true (by first | (with_reducible assumption) | assumption)) HC0.out
      have HR110 := Aside0.mk (Kd.C_of_reads (h1 := fun _ => rfl) (hA95 _ (Kd.reads_of_C HR0.out)))
      have HC110 := Aside0.mk hC95
      clear hA95 hC95 hi095 hsz95
      obtain ⟨i096, hi096, _, hsz96, _⟩ := info_parts info5
      obtain ⟨A96, hcut96, hA96, hC96⟩ := print_drop_of (P := Try.prog) (Value.int .u8) 0 22 5 .i64 Try.underlying22 hi096 hsz96 (some ad107) c0 l0 12 (by omega) (of_decide_eq_true (by first | (with_reducible assumption) | assumption)) HC0.out
      have HR112 := Aside0.mk (Kd.C_of_reads (h1 := fun _ => rfl) (hA96 _ (Kd.reads_of_C HR0.out)))
      have HC112 := Aside0.mk hC96
      clear hA96 hC96 hi096 hsz96
      obtain ⟨i097, hi097, _, hsz97, _⟩ := info_parts info5
      obtain ⟨A97, hcut97, hA97, hC97⟩ := print_drop_of (P := Try.prog) (Value.int .u8) 0 22 5 .i64 Try.underlying22 hi097 hsz97 (some ad107) c0 l0 16 (by omega) (of_decide_eq_true (by first | (with_reducible assumption) | assumption)) HC0.out
      have HR114 := Aside0.mk (Kd.C_of_reads (h1 := fun _ => rfl) (hA97 _ (Kd.reads_of_C HR0.out)))
      have HC114 := Aside0.mk hC97
      clear hA97 hC97 hi097 hsz97
      have p116 : 0 ≤ (20 : Int) := (by omega)
      have q116 : 20 < (l0.length : Int) := of_decide_eq_true (by first | (with_reducible assumption) | assumption)
      obtain ⟨ad116, e116, hx116_0⟩ := Kd.at_int HR0.out 20 p116 q116
      have hw116_0 := hx116_0
      (try rw [show ((20 : Int)).toNat = 20 from rfl] at hw116_0)
      (try rw [show 20 * 1 = 20 from rfl] at hw116_0)
      (try simp only [Nat.reduceMul, Nat.reduceEqDiff, Go.Addr.add, ↓reduceIte] at hw116_0)
      obtain rfl : ad107 = ad116 := (by injection e116)
      (try simp only [show (20 : Int).toNat = 20 from rfl, Nat.reduceMul, Nat.reduceEqDiff, Go.Addr.add, ↓reduceIte] at hx116_0)
      have qi116 : (20 < l0.length) = True := eq_true (by omega)
      (try rw [show ((20 : Int)).toNat = 20 from rfl] at hx116_0)
      replace hx116_0 := (HB.out.cell (World.block_lt_of_cell? w _ hx116_0)).trans hx116_0
      replace p116 := eq_true p116
      replace q116 := eq_true q116
      have p117 : 0 ≤ (1 : Int) := (by omega)
      have q117 : 1 < (l0.length : Int) := of_decide_eq_true (by first | (with_reducible assumption) | assumption)
      obtain ⟨ad117, e117, hx117_0⟩ := Kd.at_int HR0.out 1 p117 q117
      have hw117_0 := hx117_0
      (try rw [show ((1 : Int)).toNat = 1 from rfl] at hw117_0)
      (try rw [show 1 * 1 = 1 from rfl] at hw117_0)
      (try simp only [Nat.reduceMul, Nat.reduceEqDiff, Go.Addr.add, ↓reduceIte] at hw117_0)
      obtain rfl : ad107 = ad117 := (by injection e117)
      (try simp only [show (1 : Int).toNat = 1 from rfl, Nat.reduceMul, Nat.reduceEqDiff, Go.Addr.add, ↓reduceIte] at hx117_0)
      have qi117 : (1 < l0.length) = True := eq_true (by omega)
      (try rw [show ((1 : Int)).toNat = 1 from rfl] at hx117_0)
      replace hx117_0 := (HB.out.cell (World.block_lt_of_cell? w _ hx117_0)).trans hx117_0
      replace p117 := eq_true p117
      replace q117 := eq_true q117
      refine start_ (n := 28) (S := fun w' => w'.cell? ad107 = some (.int .u8 (rd l0 0)) ∧ w'.cell? ⟨ad107.block, ad107.off + 20, none⟩ = some (.int .u8 (rd l0 20)) ∧ w'.cell? ⟨ad107.block, ad107.off + 1, none⟩ = some (.int .u8 (rd l0 1))) (ds := []) (bA 28 0) (by kernel_rfl) rfl rfl ⟨((HB.out.cell (World.block_lt_of_cell? w _ hw107_0)).trans hw107_0), ((HB.out.cell (World.block_lt_of_cell? w _ hw116_0)).trans hw116_0), ((HB.out.cell (World.block_lt_of_cell? w _ hw117_0)).trans hw117_0)⟩ (fun hHeld => ?_); refine with_tabW rec_Of.tab3 rec_Of.bits3 (fun HT_ HW_ => ?_)
      generalize wc.drew = w93 at BK102 HB HR108 HR110 HR112 HR114 hx107_0 hx116_0 hx117_0 hHeld ⊢
      refine pure_ (i := 0) (N := some 18) (v := ?_) (a' := ?_) (bA 28 1) rfl rfl (any_of HT_.out (by kernel_rfl)) (fun _ _ _ h => h) (Or.inl ⟨by rfl, ?_⟩) ?_ ?_; rotate_left
      · intro w'; go_simp; with_reducible rfl
      rotate_left; · simp only [Act.put, List.setIfInBounds_toArray, List.set_cons_zero, List.set_cons_succ, i64_w, i32_w]; rfl
      refine pure_ (i := 1) (N := some 19) (v := ?_) (a' := ?_) (bA 28 3) rfl rfl (any_of HT_.out (by kernel_rfl)) (fun _ _ _ h => h) (Or.inl ⟨by rfl, ?_⟩) ?_ ?_; rotate_left
      · intro w'; go_simp; with_reducible rfl
      rotate_left; · simp only [Act.put, List.setIfInBounds_toArray, List.set_cons_zero, List.set_cons_succ, i64_w, i32_w]; rfl
      refine pure_ (i := 4) (N := some 22) (v := ?_) (a' := ?_) (bA 28 19) rfl rfl (any_of HT_.out (by kernel_rfl)) (fun _ _ _ h => h) (Or.inl ⟨by rfl, ?_⟩) ?_ ?_; rotate_left
      · intro w'; go_simp; with_reducible rfl
      rotate_left; · simp only [Act.put, List.setIfInBounds_toArray, List.set_cons_zero, List.set_cons_succ, i64_w, i32_w]; rfl
      refine pure_ (i := 5) (N := some 23) (v := ?_) (a' := ?_) (bA 28 51) rfl rfl (any_of HT_.out (by kernel_rfl)) (fun _ _ _ h => h) (Or.inl ⟨by rfl, ?_⟩) ?_ ?_; rotate_left
      · intro w'; go_simp; with_reducible rfl
      rotate_left; · simp only [Act.put, List.setIfInBounds_toArray, List.set_cons_zero, List.set_cons_succ, i64_w, i32_w]; rfl
      refine pure_ (i := 7) (N := some 25) (v := ?_) (a' := ?_) (bA 28 179) rfl rfl (any_of HT_.out (by kernel_rfl)) (fun _ _ _ h => h) (Or.inl ⟨by rfl, ?_⟩) ?_ ?_; rotate_left
      · intro w'; go_simp; with_reducible rfl
      rotate_left; · simp only [Act.put, List.setIfInBounds_toArray, List.set_cons_zero, List.set_cons_succ, i64_w, i32_w]; rfl
      refine pure_ (i := 8) (N := some 26) (v := ?_) (a' := ?_) (bA 28 435) rfl rfl (any_of HT_.out (by kernel_rfl)) (fun _ _ _ h => h) (Or.inl ⟨by rfl, ?_⟩) ?_ ?_; rotate_left
      · intro w'; go_simp; with_reducible rfl
      rotate_left; · simp only [Act.put, List.setIfInBounds_toArray, List.set_cons_zero, List.set_cons_succ, i64_w, i32_w]; rfl
      refine pure_ (i := 10) (N := some 28) (v := ?_) (a' := ?_) (bA 28 1459) rfl rfl (any_of HT_.out (by kernel_rfl)) (fun _ _ _ h => h) (Or.inl ⟨by rfl, ?_⟩) ?_ ?_; rotate_left
      · intro w'; go_simp; with_reducible rfl
      rotate_left; · simp only [Act.put, List.setIfInBounds_toArray, List.set_cons_zero, List.set_cons_succ, i64_w, i32_w]; rfl
      refine pure_ (i := 11) (N := some 29) (v := ?_) (a' := ?_) (bA 28 3507) rfl rfl (any_of HT_.out (by kernel_rfl)) (fun _ _ _ h => h) (Or.inl ⟨by rfl, ?_⟩) ?_ ?_; rotate_left
      · intro w'; go_simp; with_reducible rfl
      rotate_left; · simp only [Act.put, List.setIfInBounds_toArray, List.set_cons_zero, List.set_cons_succ, i64_w, i32_w]; rfl
      refine pure_ (i := 13) (N := some 31) (v := ?_) (a' := ?_) (bA 28 11699) rfl rfl (any_of HT_.out (by kernel_rfl)) (fun _ _ _ h => h) (Or.inl ⟨by rfl, ?_⟩) ?_ ?_; rotate_left
      · intro w'; go_simp; with_reducible rfl
      rotate_left; · simp only [Act.put, List.setIfInBounds_toArray, List.set_cons_zero, List.set_cons_succ, i64_w, i32_w]; rfl
      refine pure_ (i := 14) (N := some 32) (v := ?_) (a' := ?_) (bA 28 28083) rfl rfl (any_of HT_.out (by kernel_rfl)) (fun _ _ _ h => h) (Or.inl ⟨by rfl, ?_⟩) ?_ ?_; rotate_left
      · intro w'; go_simp; with_reducible rfl
      rotate_left; · simp only [Act.put, List.setIfInBounds_toArray, List.set_cons_zero, List.set_cons_succ, i64_w, i32_w]; rfl
      refine pure_ (i := 16) (N := some 34) (v := ?_) (a' := ?_) (bA 28 93619) rfl rfl (any_of HT_.out (by kernel_rfl)) (fun _ _ _ h => h) (Or.inl ⟨by rfl, ?_⟩) ?_ ?_; rotate_left
      · intro w'; go_simp; with_reducible rfl
      rotate_left; · simp only [Act.put, List.setIfInBounds_toArray, List.set_cons_zero, List.set_cons_succ, i64_w, i32_w]; rfl
      refine pure_ (i := 17) (N := some 35) (v := ?_) (a' := ?_) (bA 28 224691) rfl rfl (any_of HT_.out (by kernel_rfl)) (fun _ _ _ h => h) (Or.inl ⟨by rfl, ?_⟩) ?_ ?_; rotate_left
      · intro w'; go_simp; with_reducible rfl
      rotate_left; · simp only [Act.put, List.setIfInBounds_toArray, List.set_cons_zero, List.set_cons_succ, i64_w, i32_w]; rfl
      refine pure_ (i := 21) (N := some 39) (v := ?_) (a' := ?_) (bA 28 2321843) rfl rfl (any_of HT_.out (by kernel_rfl)) (fun _ _ _ h => h) (Or.inl ⟨by rfl, ?_⟩) ?_ ?_; rotate_left
      · intro w'; go_simp; with_reducible rfl
      rotate_left; · simp only [Act.put, List.setIfInBounds_toArray, List.set_cons_zero, List.set_cons_succ, i64_w, i32_w]; rfl
      refine pure_ (i := 22) (N := some 40) (v := ?_) (a' := ?_) (bA 28 6516147) rfl rfl (any_of HT_.out (by kernel_rfl)) (fun _ _ _ h => h) (Or.inl ⟨by rfl, ?_⟩) ?_ ?_; rotate_left
      · intro w'; go_simp; with_reducible rfl
      rotate_left; · simp only [Act.put, List.setIfInBounds_toArray, List.set_cons_zero, List.set_cons_succ, i64_w, i32_w]; rfl
      refine take_ (i := 2) (N := some 20) (v := ?_) (a' := ?_) (bA 28 6516151) rfl rfl (take_ofW HT_.out HW_.out (by kernel_rfl)) (fun _ _ _ h => h) (Or.inl ⟨by rfl, ?_⟩) hHeld ?_ ?_; rotate_left
      · rintro w' ⟨s0, s1, s2⟩
        go_simp
        with_reducible rfl
      rotate_left
      · simp only [Act.put, List.setIfInBounds_toArray, List.set_cons_zero, List.set_cons_succ, i64_w, i32_w]; rfl
      refine pure_ (i := 3) (N := some 21) (v := ?_) (a' := ?_) (bA 28 6516159) rfl rfl (any_of HT_.out (by kernel_rfl)) (fun _ _ _ h => h) (Or.inl ⟨by rfl, ?_⟩) ?_ ?_; rotate_left
      · intro w'; go_simp; with_reducible rfl
      rotate_left; · simp only [Act.put, List.setIfInBounds_toArray, List.set_cons_zero, List.set_cons_succ, i64_w, i32_w]; rfl
      refine take_ (i := 18) (N := some 36) (v := ?_) (a' := ?_) (bA 28 6778303) rfl rfl (take_ofW HT_.out HW_.out (by kernel_rfl)) (fun _ _ _ h => h) (Or.inl ⟨by rfl, ?_⟩) hHeld ?_ ?_; rotate_left
      · rintro w' ⟨s0, s1, s2⟩
        go_simp
        with_reducible rfl
      rotate_left
      · simp only [Act.put, List.setIfInBounds_toArray, List.set_cons_zero, List.set_cons_succ, i64_w, i32_w]; rfl
      refine pure_ (i := 19) (N := some 37) (v := ?_) (a' := ?_) (bA 28 7302591) rfl rfl (any_of HT_.out (by kernel_rfl)) (fun _ _ _ h => h) (Or.inl ⟨by rfl, ?_⟩) ?_ ?_; rotate_left
      · intro w'; go_simp; with_reducible rfl
      rotate_left; · simp only [Act.put, List.setIfInBounds_toArray, List.set_cons_zero, List.set_cons_succ, i64_w, i32_w]; rfl
      refine take_ (i := 23) (N := some 41) (v := ?_) (a' := ?_) (bA 28 15691199) rfl rfl (take_ofW HT_.out HW_.out (by kernel_rfl)) (fun _ _ _ h => h) (Or.inl ⟨by rfl, ?_⟩) hHeld ?_ ?_; rotate_left
      · rintro w' ⟨s0, s1, s2⟩
        go_simp
        with_reducible rfl
      rotate_left
      · simp only [Act.put, List.setIfInBounds_toArray, List.set_cons_zero, List.set_cons_succ, i64_w, i32_w]; rfl
      refine pure_ (i := 24) (N := some 42) (v := ?_) (a' := ?_) (bA 28 32468415) rfl rfl (any_of HT_.out (by kernel_rfl)) (fun _ _ _ h => h) (Or.inl ⟨by rfl, ?_⟩) ?_ ?_; rotate_left
      · intro w'; go_simp; with_reducible rfl
      rotate_left; · simp only [Act.put, List.setIfInBounds_toArray, List.set_cons_zero, List.set_cons_succ, i64_w, i32_w]; rfl
      refine join_ (σ := Nat) 1 (bA 28 134217727) (fun s_ => [(24, .int .u32 t109), (27, .int .u32 t111), (30, .int .u32 t113), (33, .int .u32 t115), (4, .pointer (some ⟨s_, 0, none⟩)), (38, .agg #[.int .u32 t115, .int .i64 (wrap64 (rd l0 20))]), (43, .agg #[.int .i64 (wrap64 (rd l0 0)), .int .u32 t109, .int .u32 t111, .int .u32 t113, .int .u32 t115, .int .i64 (wrap64 (rd l0 20)), .bool ((rd l0 1) == 1), .int .u32 0, .int .u16 0])]) (fun s_ w' => (w'.cell? ad107 = some (.int .u8 (rd l0 0)) ∧ w'.cell? ⟨ad107.block, ad107.off + 20, none⟩ = some (.int .u8 (rd l0 20)) ∧ w'.cell? ⟨ad107.block, ad107.off + 1, none⟩ = some (.int .u8 (rd l0 1))) ∧ (w'.heap[gb102]? = some (.cells #[.int .i64 0, .int .u32 0, .int .u32 0, .int .u32 0, .int .u32 0, .int .i64 0, .bool false, .int .u32 0, .int .u16 0] 50 (0, 0))) ∧ (w'.heap[s_]? = some (.cells #[.int .i64 0, .int .u32 0, .int .u32 0, .int .u32 0, .int .u32 0, .int .i64 0, .bool false, .int .u32 0, .int .u16 0] 50 (0, 0))) ∧ (w.heap.size ≤ s_) ∧ (w.heap.size ≤ s_) ∧ (gb102 ≠ s_) ∧ (s_ ≠ gb102) ∧ (Below w.heap.size w w')) ?_ ?_
      rotate_left
      · intro hJ6_9_12_15_26
        refine join_ (σ := Unit) 2 (bA 28 67108863) (fun s_ => [(24, .int .u32 t109), (27, .int .u32 t111), (30, .int .u32 t113), (33, .int .u32 t115), (38, .agg #[.int .u32 t115, .int .i64 (wrap64 (rd l0 20))]), (43, .agg #[.int .i64 (wrap64 (rd l0 0)), .int .u32 t109, .int .u32 t111, .int .u32 t113, .int .u32 t115, .int .i64 (wrap64 (rd l0 20)), .bool ((rd l0 1) == 1), .int .u32 0, .int .u16 0])]) (fun s_ w' => (w'.cell? ad107 = some (.int .u8 (rd l0 0)) ∧ w'.cell? ⟨ad107.block, ad107.off + 20, none⟩ = some (.int .u8 (rd l0 20)) ∧ w'.cell? ⟨ad107.block, ad107.off + 1, none⟩ = some (.int .u8 (rd l0 1))) ∧ (w'.heap[gb102]? = some (.cells #[.int .i64 0, .int .u32 0, .int .u32 0, .int .u32 0, .int .u32 0, .int .i64 0, .bool false, .int .u32 0, .int .u16 0] 50 (0, 0))) ∧ (Below w.heap.size w w')) ?_ ?_
        rotate_left
        · intro hJ6_9_12_15
          refine join_ (σ := Nat) 4 (bA 28 99581951) (fun s_ => [(24, .int .u32 t109), (27, .int .u32 t111), (30, .int .u32 t113), (4, .pointer (some ⟨s_, 0, none⟩))]) (fun s_ w' => (w'.cell? ad107 = some (.int .u8 (rd l0 0)) ∧ w'.cell? ⟨ad107.block, ad107.off + 20, none⟩ = some (.int .u8 (rd l0 20)) ∧ w'.cell? ⟨ad107.block, ad107.off + 1, none⟩ = some (.int .u8 (rd l0 1))) ∧ (w'.heap[gb102]? = some (.cells #[.int .i64 0, .int .u32 0, .int .u32 0, .int .u32 0, .int .u32 0, .int .i64 0, .bool false, .int .u32 0, .int .u16 0] 50 (0, 0))) ∧ (w'.heap[s_]? = some (.cells #[.int .i64 0, .int .u32 0, .int .u32 0, .int .u32 0, .int .u32 0, .int .i64 0, .bool false, .int .u32 0, .int .u16 0] 50 (0, 0))) ∧ (w.heap.size ≤ s_) ∧ (w.heap.size ≤ s_) ∧ (gb102 ≠ s_) ∧ (s_ ≠ gb102) ∧ (Below w.heap.size w w')) ?_ ?_
          rotate_left
          · intro hJ6_9_12_26
            refine join_ (σ := Unit) 5 (bA 28 32473087) (fun s_ => [(24, .int .u32 t109), (27, .int .u32 t111), (30, .int .u32 t113)]) (fun s_ w' => (w'.cell? ad107 = some (.int .u8 (rd l0 0)) ∧ w'.cell? ⟨ad107.block, ad107.off + 20, none⟩ = some (.int .u8 (rd l0 20)) ∧ w'.cell? ⟨ad107.block, ad107.off + 1, none⟩ = some (.int .u8 (rd l0 1))) ∧ (w'.heap[gb102]? = some (.cells #[.int .i64 0, .int .u32 0, .int .u32 0, .int .u32 0, .int .u32 0, .int .i64 0, .bool false, .int .u32 0, .int .u16 0] 50 (0, 0))) ∧ (Below w.heap.size w w')) ?_ ?_
            rotate_left
            · intro hJ6_9_12
              refine join_ (σ := Nat) 5 (bA 28 99577855) (fun s_ => [(24, .int .u32 t109), (27, .int .u32 t111), (4, .pointer (some ⟨s_, 0, none⟩))]) (fun s_ w' => (w'.cell? ad107 = some (.int .u8 (rd l0 0)) ∧ w'.cell? ⟨ad107.block, ad107.off + 20, none⟩ = some (.int .u8 (rd l0 20)) ∧ w'.cell? ⟨ad107.block, ad107.off + 1, none⟩ = some (.int .u8 (rd l0 1))) ∧ (w'.heap[gb102]? = some (.cells #[.int .i64 0, .int .u32 0, .int .u32 0, .int .u32 0, .int .u32 0, .int .i64 0, .bool false, .int .u32 0, .int .u16 0] 50 (0, 0))) ∧ (w'.heap[s_]? = some (.cells #[.int .i64 0, .int .u32 0, .int .u32 0, .int .u32 0, .int .u32 0, .int .i64 0, .bool false, .int .u32 0, .int .u16 0] 50 (0, 0))) ∧ (w.heap.size ≤ s_) ∧ (w.heap.size ≤ s_) ∧ (gb102 ≠ s_) ∧ (s_ ≠ gb102) ∧ (Below w.heap.size w w')) ?_ ?_
              rotate_left
              · intro hJ6_9_26
                refine join_ (σ := Unit) 6 (bA 28 32468991) (fun s_ => [(24, .int .u32 t109), (27, .int .u32 t111)]) (fun s_ w' => (w'.cell? ad107 = some (.int .u8 (rd l0 0)) ∧ w'.cell? ⟨ad107.block, ad107.off + 20, none⟩ = some (.int .u8 (rd l0 20)) ∧ w'.cell? ⟨ad107.block, ad107.off + 1, none⟩ = some (.int .u8 (rd l0 1))) ∧ (w'.heap[gb102]? = some (.cells #[.int .i64 0, .int .u32 0, .int .u32 0, .int .u32 0, .int .u32 0, .int .i64 0, .bool false, .int .u32 0, .int .u16 0] 50 (0, 0))) ∧ (Below w.heap.size w w')) ?_ ?_
                rotate_left
                · intro hJ6_9
                  refine join_ (σ := Nat) 6 (bA 28 99577343) (fun s_ => [(24, .int .u32 t109), (4, .pointer (some ⟨s_, 0, none⟩))]) (fun s_ w' => (w'.cell? ad107 = some (.int .u8 (rd l0 0)) ∧ w'.cell? ⟨ad107.block, ad107.off + 20, none⟩ = some (.int .u8 (rd l0 20)) ∧ w'.cell? ⟨ad107.block, ad107.off + 1, none⟩ = some (.int .u8 (rd l0 1))) ∧ (w'.heap[gb102]? = some (.cells #[.int .i64 0, .int .u32 0, .int .u32 0, .int .u32 0, .int .u32 0, .int .i64 0, .bool false, .int .u32 0, .int .u16 0] 50 (0, 0))) ∧ (w'.heap[s_]? = some (.cells #[.int .i64 0, .int .u32 0, .int .u32 0, .int .u32 0, .int .u32 0, .int .i64 0, .bool false, .int .u32 0, .int .u16 0] 50 (0, 0))) ∧ (w.heap.size ≤ s_) ∧ (w.heap.size ≤ s_) ∧ (gb102 ≠ s_) ∧ (s_ ≠ gb102) ∧ (Below w.heap.size w w')) ?_ ?_
                  rotate_left
                  · intro hJ6_26
                    refine join_ (σ := Unit) 7 (bA 28 32468479) (fun s_ => [(24, .int .u32 t109)]) (fun s_ w' => (w'.cell? ad107 = some (.int .u8 (rd l0 0)) ∧ w'.cell? ⟨ad107.block, ad107.off + 20, none⟩ = some (.int .u8 (rd l0 20)) ∧ w'.cell? ⟨ad107.block, ad107.off + 1, none⟩ = some (.int .u8 (rd l0 1))) ∧ (w'.heap[gb102]? = some (.cells #[.int .i64 0, .int .u32 0, .int .u32 0, .int .u32 0, .int .u32 0, .int .i64 0, .bool false, .int .u32 0, .int .u16 0] 50 (0, 0))) ∧ (Below w.heap.size w w')) ?_ ?_
                    rotate_left
                    · intro hJ6
                      refine join_ (σ := Nat) 7 (bA 28 99577279) (fun s_ => [(4, .pointer (some ⟨s_, 0, none⟩))]) (fun s_ w' => (w'.cell? ad107 = some (.int .u8 (rd l0 0)) ∧ w'.cell? ⟨ad107.block, ad107.off + 20, none⟩ = some (.int .u8 (rd l0 20)) ∧ w'.cell? ⟨ad107.block, ad107.off + 1, none⟩ = some (.int .u8 (rd l0 1))) ∧ (w'.heap[gb102]? = some (.cells #[.int .i64 0, .int .u32 0, .int .u32 0, .int .u32 0, .int .u32 0, .int .i64 0, .bool false, .int .u32 0, .int .u16 0] 50 (0, 0))) ∧ (w'.heap[s_]? = some (.cells #[.int .i64 0, .int .u32 0, .int .u32 0, .int .u32 0, .int .u32 0, .int .i64 0, .bool false, .int .u32 0, .int .u16 0] 50 (0, 0))) ∧ (w.heap.size ≤ s_) ∧ (w.heap.size ≤ s_) ∧ (gb102 ≠ s_) ∧ (s_ ≠ gb102) ∧ (Below w.heap.size w w')) ?_ ?_
                      rotate_left
                      · intro hJ26
                        refine two_ (i := 6) (j := 26) (Ni := some 24) (Nj := some 4) (bA 28 32468479) (bA 28 99577279) rfl rfl rfl rfl (two_of HT_.out (by kernel_rfl)) (by decide) (by decide) (fun K hK => ?_) (fun K hK => ?_)
                        · skip
                          refine goes_ Try.func52 (by kernel_rfl) rfl #[.slice A94 (l0.drop 4).length (c0 - 4)] (by rfl) rfl rfl (by (try simp only [List.map_toArray, List.map_cons, List.map_nil]); first | done | (rw [show (l0.drop 4).length = (l0.length - 4) from List.length_drop] <;> rfl) | rfl | (simp only [List.length_drop, List.length_take]; rfl)) ?_
                          with_reducible refine (rec_get.calls0 _ _ (l0.drop 4) t109 _ ?side1 ?side2 A17.out).mono ?_
                          (case side1 => repeat (first | exact (Kd.C_below HR108.out HB.out) | (with_reducible refine Kd.C_alloc ?_ _) | (with_reducible refine Kd.C_drewN ?_ _) | (with_reducible refine Kd.C_drew ?_)))
                          (case side2 => exact HC108.out)
                          rintro e w' ⟨rfl, rfl⟩
                          refine ⟨_, rfl, ?_⟩
                          refine hK.out _ _ ⟨((HB.out.cell (World.block_lt_of_cell? w _ hw107_0)).trans hw107_0), ((HB.out.cell (World.block_lt_of_cell? w _ hw116_0)).trans hw116_0), ((HB.out.cell (World.block_lt_of_cell? w _ hw117_0)).trans hw117_0)⟩ (fun hHeld => ?_)
                          clear hK K
                          refine norm_ (a' := ?_) ?_ ?_
                          rotate_left
                          · show Act.put _ (some 24) _ = _
                            simp only [Act.put, List.setIfInBounds_toArray, List.set_cons_zero, List.set_cons_succ, i64_w, i32_w]
                            rfl
                          exact norm_ (by first | (simp only [putAll, Act.put, List.setIfInBounds_toArray, List.set_cons_zero, List.set_cons_succ]; done) | (simp only [putAll, Act.put, List.setIfInBounds_toArray, List.set_cons_zero, List.set_cons_succ]; rfl)) (hJ6 () _ ⟨hHeld, (by (with_reducible repeat (first | refine blk_drewN ?_ _ | refine blk_drew ?_ | refine blk_alloc ?_ _)); exact BK102.out), (by repeat (first | (with_reducible first | exact HB.out | apply below_alloc | apply pw_below_drewN | apply below_drew1 | refine below_set ?_ GE102.out) | exact HB.out))⟩)
                        · skip
                          refine box_step ?hg (N := 4) ?hd (cs := #[.int .i64 0, .int .u32 0, .int .u32 0, .int .u32 0, .int .u32 0, .int .i64 0, .bool false, .int .u32 0, .int .u16 0]) (t := 50) ?hr ?_; (case hd => rfl); (case hg => rfl); (case hr => first | (go_simp; done) | (go_simp; rfl))
                          intro gb118 hg w98 hbox hb
                          have n0_ := Aside0.mk (blk_below (g := gb102) (o := .cells #[.int .i64 0, .int .u32 0, .int .u32 0, .int .u32 0, .int .u32 0, .int .i64 0, .bool false, .int .u32 0, .int .u16 0] 50 (0, 0)) (by (with_reducible repeat (first | refine blk_drewN ?_ _ | refine blk_drew ?_ | refine blk_alloc ?_ _)); exact BK102.out) hb)
                          have n1_ := Aside0.mk (below_step (by repeat (first | (with_reducible first | exact HB.out | apply below_alloc | apply pw_below_drewN | apply below_drew1 | refine below_set ?_ GE102.out) | exact HB.out)) hb)
                          have n2_ := Aside0.mk (hbox)
                          have n3_ := Aside0.mk ((by rw [hg]; exact (below_size (by repeat (first | (with_reducible first | exact HB.out | apply below_alloc | apply pw_below_drewN | apply below_drew1 | refine below_set ?_ GE102.out) | exact HB.out))) : w.heap.size ≤ gb118))
                          have n4_ := Aside0.mk ((by rw [hg]; exact (below_size (by repeat (first | (with_reducible first | exact HB.out | apply below_alloc | apply pw_below_drewN | apply below_drew1 | refine below_set ?_ GE102.out) | exact HB.out))) : w.heap.size ≤ gb118))
                          have n5_ := Aside0.mk ((by rw [hg]; exact Nat.ne_of_lt (blk_lt (g := gb102) (o := .cells #[.int .i64 0, .int .u32 0, .int .u32 0, .int .u32 0, .int .u32 0, .int .i64 0, .bool false, .int .u32 0, .int .u16 0] 50 (0, 0)) (by (with_reducible repeat (first | refine blk_drewN ?_ _ | refine blk_drew ?_ | refine blk_alloc ?_ _)); exact BK102.out)) : gb102 ≠ gb118))
                          have n6_ := Aside0.mk ((by rw [hg]; exact Nat.ne_of_gt (blk_lt (g := gb102) (o := .cells #[.int .i64 0, .int .u32 0, .int .u32 0, .int .u32 0, .int .u32 0, .int .i64 0, .bool false, .int .u32 0, .int .u16 0] 50 (0, 0)) (by (with_reducible repeat (first | refine blk_drewN ?_ _ | refine blk_drew ?_ | refine blk_alloc ?_ _)); exact BK102.out)) : gb118 ≠ gb102))
                          clear BK102
                          clear HB
                          have BK102 := n0_
                          have HB := n1_
                          have BK118 := n2_
                          have GW118 := n3_
                          have GE118 := n4_
                          have NB102_118 := n5_
                          have NB118_102 := n6_
                          clear n0_ n1_ n2_ n3_ n4_ n5_ n6_
                          clear hb hbox hg
                          refine hK.out _ _ ⟨((HB.out.cell (World.block_lt_of_cell? w _ hw107_0)).trans hw107_0), ((HB.out.cell (World.block_lt_of_cell? w _ hw116_0)).trans hw116_0), ((HB.out.cell (World.block_lt_of_cell? w _ hw117_0)).trans hw117_0)⟩ (fun hHeld => ?_)
                          clear hK K
                          refine norm_ (a' := ?_) ?_ ?_
                          rotate_left
                          · show Act.put _ (some 4) _ = _
                            simp only [Act.put, List.setIfInBounds_toArray, List.set_cons_zero, List.set_cons_succ, i64_w, i32_w]
                            rfl
                          exact norm_ (by first | (simp only [putAll, Act.put, List.setIfInBounds_toArray, List.set_cons_zero, List.set_cons_succ]; done) | (simp only [putAll, Act.put, List.setIfInBounds_toArray, List.set_cons_zero, List.set_cons_succ]; rfl)) (hJ26 (gb118) _ ⟨hHeld, (by (with_reducible repeat (first | refine blk_drewN ?_ _ | refine blk_drew ?_ | refine blk_alloc ?_ _)); exact BK102.out), (by (with_reducible repeat (first | refine blk_drewN ?_ _ | refine blk_drew ?_ | refine blk_alloc ?_ _)); exact BK118.out), GW118.out, GE118.out, NB102_118.out, NB118_102.out, (by repeat (first | (with_reducible first | exact HB.out | apply below_alloc | apply pw_below_drewN | apply below_drew1 | refine below_set ?_ GE102.out | refine below_set ?_ GE118.out) | exact HB.out))⟩)
                      · skip
                        rintro gb118 w99 ⟨hS_, h0_, h1_, h2_, h3_, h4_, h5_, h6_⟩
                        have n0_ : Aside0 (w99.heap[gb102]? = some (.cells #[.int .i64 0, .int .u32 0, .int .u32 0, .int .u32 0, .int .u32 0, .int .i64 0, .bool false, .int .u32 0, .int .u16 0] 50 (0, 0))) := ⟨h0_⟩
                        have n1_ : Aside0 (w99.heap[gb118]? = some (.cells #[.int .i64 0, .int .u32 0, .int .u32 0, .int .u32 0, .int .u32 0, .int .i64 0, .bool false, .int .u32 0, .int .u16 0] 50 (0, 0))) := ⟨h1_⟩
                        have n2_ : Aside0 (w.heap.size ≤ gb118) := ⟨h2_⟩
                        have n3_ : Aside0 (w.heap.size ≤ gb118) := ⟨h3_⟩
                        have n4_ : Aside0 (gb102 ≠ gb118) := ⟨h4_⟩
                        have n5_ : Aside0 (gb118 ≠ gb102) := ⟨h5_⟩
                        have n6_ : Aside0 (Below w.heap.size w w99) := ⟨h6_⟩
                        clear BK102
                        clear HB
                        clear h0_ h1_ h2_ h3_ h4_ h5_ h6_
                        have BK102 := n0_
                        have BK118 := n1_
                        have GW118 := n2_
                        have GE118 := n3_
                        have NB102_118 := n4_
                        have NB118_102 := n5_
                        have HB := n6_
                        clear n0_ n1_ n2_ n3_ n4_ n5_ n6_
                        have hHeld : w99.cell? ad107 = some (.int .u8 (rd l0 0)) ∧ w99.cell? ⟨ad107.block, ad107.off + 20, none⟩ = some (.int .u8 (rd l0 20)) ∧ w99.cell? ⟨ad107.block, ad107.off + 1, none⟩ = some (.int .u8 (rd l0 1)) := hS_
                        refine norm_ (a' := ?_) ?_ ?_
                        rotate_left
                        · simp only [putAll, Act.put, List.setIfInBounds_toArray, List.set_cons_zero, List.set_cons_succ]
                          rfl
                        refine one_ (i := 6) (N := some 24) (bA 28 99577343) rfl rfl (one_of HT_.out (by kernel_rfl)) (by decide) (fun K hK => ?_)
                        refine goes_ Try.func52 (by kernel_rfl) rfl #[.slice A94 (l0.drop 4).length (c0 - 4)] (by rfl) rfl rfl (by (try simp only [List.map_toArray, List.map_cons, List.map_nil]); first | done | (rw [show (l0.drop 4).length = (l0.length - 4) from List.length_drop] <;> rfl) | rfl | (simp only [List.length_drop, List.length_take]; rfl)) ?_
                        with_reducible refine (rec_get.calls0 _ _ (l0.drop 4) t109 _ ?side1 ?side2 A17.out).mono ?_
                        (case side1 => repeat (first | exact (Kd.C_below HR108.out HB.out) | (with_reducible refine Kd.C_alloc ?_ _) | (with_reducible refine Kd.C_drewN ?_ _) | (with_reducible refine Kd.C_drew ?_)))
                        (case side2 => exact HC108.out)
                        rintro e w' ⟨rfl, rfl⟩
                        refine ⟨_, rfl, ?_⟩
                        refine hK.out _ _ ⟨((HB.out.cell (World.block_lt_of_cell? w _ hw107_0)).trans hw107_0), ((HB.out.cell (World.block_lt_of_cell? w _ hw116_0)).trans hw116_0), ((HB.out.cell (World.block_lt_of_cell? w _ hw117_0)).trans hw117_0)⟩ (fun hHeld => ?_)
                        clear hK K
                        refine norm_ (a' := ?_) ?_ ?_
                        rotate_left
                        · show Act.put _ (some 24) _ = _
                          simp only [Act.put, List.setIfInBounds_toArray, List.set_cons_zero, List.set_cons_succ, i64_w, i32_w]
                          rfl
                        exact norm_ (by first | (simp only [putAll, Act.put, List.setIfInBounds_toArray, List.set_cons_zero, List.set_cons_succ]; done) | (simp only [putAll, Act.put, List.setIfInBounds_toArray, List.set_cons_zero, List.set_cons_succ]; rfl)) (hJ6_26 (gb118) _ ⟨hHeld, (by (with_reducible repeat (first | refine blk_drewN ?_ _ | refine blk_drew ?_ | refine blk_alloc ?_ _)); exact BK102.out), (by (with_reducible repeat (first | refine blk_drewN ?_ _ | refine blk_drew ?_ | refine blk_alloc ?_ _)); exact BK118.out), GW118.out, GE118.out, NB102_118.out, NB118_102.out, (by repeat (first | (with_reducible first | exact HB.out | apply below_alloc | apply pw_below_drewN | apply below_drew1 | refine below_set ?_ GE102.out | refine below_set ?_ GE118.out) | exact HB.out))⟩)
                    · skip
                      rintro _ w98 ⟨hS_, h0_, h1_⟩
                      have n0_ : Aside0 (w98.heap[gb102]? = some (.cells #[.int .i64 0, .int .u32 0, .int .u32 0, .int .u32 0, .int .u32 0, .int .i64 0, .bool false, .int .u32 0, .int .u16 0] 50 (0, 0))) := ⟨h0_⟩
                      have n1_ : Aside0 (Below w.heap.size w w98) := ⟨h1_⟩
                      clear BK102
                      clear HB
                      clear h0_ h1_
                      have BK102 := n0_
                      have HB := n1_
                      clear n0_ n1_
                      have hHeld : w98.cell? ad107 = some (.int .u8 (rd l0 0)) ∧ w98.cell? ⟨ad107.block, ad107.off + 20, none⟩ = some (.int .u8 (rd l0 20)) ∧ w98.cell? ⟨ad107.block, ad107.off + 1, none⟩ = some (.int .u8 (rd l0 1)) := hS_
                      refine norm_ (a' := ?_) ?_ ?_
                      rotate_left
                      · simp only [putAll, Act.put, List.setIfInBounds_toArray, List.set_cons_zero, List.set_cons_succ]
                        rfl
                      refine two_ (i := 9) (j := 26) (Ni := some 27) (Nj := some 4) (bA 28 32468991) (bA 28 99577343) rfl rfl rfl rfl (two_of HT_.out (by kernel_rfl)) (by decide) (by decide) (fun K hK => ?_) (fun K hK => ?_)
                      · skip
                        refine goes_ Try.func52 (by kernel_rfl) rfl #[.slice A95 (l0.drop 8).length (c0 - 8)] (by rfl) rfl rfl (by (try simp only [List.map_toArray, List.map_cons, List.map_nil]); first | done | (rw [show (l0.drop 8).length = (l0.length - 8) from List.length_drop] <;> rfl) | rfl | (simp only [List.length_drop, List.length_take]; rfl)) ?_
                        with_reducible refine (rec_get.calls0 _ _ (l0.drop 8) t111 _ ?side1 ?side2 A19.out).mono ?_
                        (case side1 => repeat (first | exact (Kd.C_below HR110.out HB.out) | (with_reducible refine Kd.C_alloc ?_ _) | (with_reducible refine Kd.C_drewN ?_ _) | (with_reducible refine Kd.C_drew ?_)))
                        (case side2 => exact HC110.out)
                        rintro e w' ⟨rfl, rfl⟩
                        refine ⟨_, rfl, ?_⟩
                        refine hK.out _ _ ⟨((HB.out.cell (World.block_lt_of_cell? w _ hw107_0)).trans hw107_0), ((HB.out.cell (World.block_lt_of_cell? w _ hw116_0)).trans hw116_0), ((HB.out.cell (World.block_lt_of_cell? w _ hw117_0)).trans hw117_0)⟩ (fun hHeld => ?_)
                        clear hK K
                        refine norm_ (a' := ?_) ?_ ?_
                        rotate_left
                        · show Act.put _ (some 27) _ = _
                          simp only [Act.put, List.setIfInBounds_toArray, List.set_cons_zero, List.set_cons_succ, i64_w, i32_w]
                          rfl
                        exact norm_ (by first | (simp only [putAll, Act.put, List.setIfInBounds_toArray, List.set_cons_zero, List.set_cons_succ]; done) | (simp only [putAll, Act.put, List.setIfInBounds_toArray, List.set_cons_zero, List.set_cons_succ]; rfl)) (hJ6_9 () _ ⟨hHeld, (by (with_reducible repeat (first | refine blk_drewN ?_ _ | refine blk_drew ?_ | refine blk_alloc ?_ _)); exact BK102.out), (by repeat (first | (with_reducible first | exact HB.out | apply below_alloc | apply pw_below_drewN | apply below_drew1 | refine below_set ?_ GE102.out) | exact HB.out))⟩)
                      · skip
                        refine box_step ?hg (N := 4) ?hd (cs := #[.int .i64 0, .int .u32 0, .int .u32 0, .int .u32 0, .int .u32 0, .int .i64 0, .bool false, .int .u32 0, .int .u16 0]) (t := 50) ?hr ?_; (case hd => rfl); (case hg => rfl); (case hr => first | (go_simp; done) | (go_simp; rfl))
                        intro gb118 hg w99 hbox hb
                        have n0_ := Aside0.mk (blk_below (g := gb102) (o := .cells #[.int .i64 0, .int .u32 0, .int .u32 0, .int .u32 0, .int .u32 0, .int .i64 0, .bool false, .int .u32 0, .int .u16 0] 50 (0, 0)) (by (with_reducible repeat (first | refine blk_drewN ?_ _ | refine blk_drew ?_ | refine blk_alloc ?_ _)); exact BK102.out) hb)
                        have n1_ := Aside0.mk (below_step (by repeat (first | (with_reducible first | exact HB.out | apply below_alloc | apply pw_below_drewN | apply below_drew1 | refine below_set ?_ GE102.out) | exact HB.out)) hb)
                        have n2_ := Aside0.mk (hbox)
                        have n3_ := Aside0.mk ((by rw [hg]; exact (below_size (by repeat (first | (with_reducible first | exact HB.out | apply below_alloc | apply pw_below_drewN | apply below_drew1 | refine below_set ?_ GE102.out) | exact HB.out))) : w.heap.size ≤ gb118))
                        have n4_ := Aside0.mk ((by rw [hg]; exact (below_size (by repeat (first | (with_reducible first | exact HB.out | apply below_alloc | apply pw_below_drewN | apply below_drew1 | refine below_set ?_ GE102.out) | exact HB.out))) : w.heap.size ≤ gb118))
                        have n5_ := Aside0.mk ((by rw [hg]; exact Nat.ne_of_lt (blk_lt (g := gb102) (o := .cells #[.int .i64 0, .int .u32 0, .int .u32 0, .int .u32 0, .int .u32 0, .int .i64 0, .bool false, .int .u32 0, .int .u16 0] 50 (0, 0)) (by (with_reducible repeat (first | refine blk_drewN ?_ _ | refine blk_drew ?_ | refine blk_alloc ?_ _)); exact BK102.out)) : gb102 ≠ gb118))
                        have n6_ := Aside0.mk ((by rw [hg]; exact Nat.ne_of_gt (blk_lt (g := gb102) (o := .cells #[.int .i64 0, .int .u32 0, .int .u32 0, .int .u32 0, .int .u32 0, .int .i64 0, .bool false, .int .u32 0, .int .u16 0] 50 (0, 0)) (by (with_reducible repeat (first | refine blk_drewN ?_ _ | refine blk_drew ?_ | refine blk_alloc ?_ _)); exact BK102.out)) : gb118 ≠ gb102))
                        clear BK102
                        clear HB
                        have BK102 := n0_
                        have HB := n1_
                        have BK118 := n2_
                        have GW118 := n3_
                        have GE118 := n4_
                        have NB102_118 := n5_
                        have NB118_102 := n6_
                        clear n0_ n1_ n2_ n3_ n4_ n5_ n6_
                        clear hb hbox hg
                        refine hK.out _ _ ⟨((HB.out.cell (World.block_lt_of_cell? w _ hw107_0)).trans hw107_0), ((HB.out.cell (World.block_lt_of_cell? w _ hw116_0)).trans hw116_0), ((HB.out.cell (World.block_lt_of_cell? w _ hw117_0)).trans hw117_0)⟩ (fun hHeld => ?_)
                        clear hK K
                        refine norm_ (a' := ?_) ?_ ?_
                        rotate_left
                        · show Act.put _ (some 4) _ = _
                          simp only [Act.put, List.setIfInBounds_toArray, List.set_cons_zero, List.set_cons_succ, i64_w, i32_w]
                          rfl
                        exact norm_ (by first | (simp only [putAll, Act.put, List.setIfInBounds_toArray, List.set_cons_zero, List.set_cons_succ]; done) | (simp only [putAll, Act.put, List.setIfInBounds_toArray, List.set_cons_zero, List.set_cons_succ]; rfl)) (hJ6_26 (gb118) _ ⟨hHeld, (by (with_reducible repeat (first | refine blk_drewN ?_ _ | refine blk_drew ?_ | refine blk_alloc ?_ _)); exact BK102.out), (by (with_reducible repeat (first | refine blk_drewN ?_ _ | refine blk_drew ?_ | refine blk_alloc ?_ _)); exact BK118.out), GW118.out, GE118.out, NB102_118.out, NB118_102.out, (by repeat (first | (with_reducible first | exact HB.out | apply below_alloc | apply pw_below_drewN | apply below_drew1 | refine below_set ?_ GE102.out | refine below_set ?_ GE118.out) | exact HB.out))⟩)
                  · skip
                    rintro gb118 w99 ⟨hS_, h0_, h1_, h2_, h3_, h4_, h5_, h6_⟩
                    have n0_ : Aside0 (w99.heap[gb102]? = some (.cells #[.int .i64 0, .int .u32 0, .int .u32 0, .int .u32 0, .int .u32 0, .int .i64 0, .bool false, .int .u32 0, .int .u16 0] 50 (0, 0))) := ⟨h0_⟩
                    have n1_ : Aside0 (w99.heap[gb118]? = some (.cells #[.int .i64 0, .int .u32 0, .int .u32 0, .int .u32 0, .int .u32 0, .int .i64 0, .bool false, .int .u32 0, .int .u16 0] 50 (0, 0))) := ⟨h1_⟩
                    have n2_ : Aside0 (w.heap.size ≤ gb118) := ⟨h2_⟩
                    have n3_ : Aside0 (w.heap.size ≤ gb118) := ⟨h3_⟩
                    have n4_ : Aside0 (gb102 ≠ gb118) := ⟨h4_⟩
                    have n5_ : Aside0 (gb118 ≠ gb102) := ⟨h5_⟩
                    have n6_ : Aside0 (Below w.heap.size w w99) := ⟨h6_⟩
                    clear BK102
                    clear HB
                    clear h0_ h1_ h2_ h3_ h4_ h5_ h6_
                    have BK102 := n0_
                    have BK118 := n1_
                    have GW118 := n2_
                    have GE118 := n3_
                    have NB102_118 := n4_
                    have NB118_102 := n5_
                    have HB := n6_
                    clear n0_ n1_ n2_ n3_ n4_ n5_ n6_
                    have hHeld : w99.cell? ad107 = some (.int .u8 (rd l0 0)) ∧ w99.cell? ⟨ad107.block, ad107.off + 20, none⟩ = some (.int .u8 (rd l0 20)) ∧ w99.cell? ⟨ad107.block, ad107.off + 1, none⟩ = some (.int .u8 (rd l0 1)) := hS_
                    refine norm_ (a' := ?_) ?_ ?_
                    rotate_left
                    · simp only [putAll, Act.put, List.setIfInBounds_toArray, List.set_cons_zero, List.set_cons_succ]
                      rfl
                    refine one_ (i := 9) (N := some 27) (bA 28 99577855) rfl rfl (one_of HT_.out (by kernel_rfl)) (by decide) (fun K hK => ?_)
                    refine goes_ Try.func52 (by kernel_rfl) rfl #[.slice A95 (l0.drop 8).length (c0 - 8)] (by rfl) rfl rfl (by (try simp only [List.map_toArray, List.map_cons, List.map_nil]); first | done | (rw [show (l0.drop 8).length = (l0.length - 8) from List.length_drop] <;> rfl) | rfl | (simp only [List.length_drop, List.length_take]; rfl)) ?_
                    with_reducible refine (rec_get.calls0 _ _ (l0.drop 8) t111 _ ?side1 ?side2 A19.out).mono ?_
                    (case side1 => repeat (first | exact (Kd.C_below HR110.out HB.out) | (with_reducible refine Kd.C_alloc ?_ _) | (with_reducible refine Kd.C_drewN ?_ _) | (with_reducible refine Kd.C_drew ?_)))
                    (case side2 => exact HC110.out)
                    rintro e w' ⟨rfl, rfl⟩
                    refine ⟨_, rfl, ?_⟩
                    refine hK.out _ _ ⟨((HB.out.cell (World.block_lt_of_cell? w _ hw107_0)).trans hw107_0), ((HB.out.cell (World.block_lt_of_cell? w _ hw116_0)).trans hw116_0), ((HB.out.cell (World.block_lt_of_cell? w _ hw117_0)).trans hw117_0)⟩ (fun hHeld => ?_)
                    clear hK K
                    refine norm_ (a' := ?_) ?_ ?_
                    rotate_left
                    · show Act.put _ (some 27) _ = _
                      simp only [Act.put, List.setIfInBounds_toArray, List.set_cons_zero, List.set_cons_succ, i64_w, i32_w]
                      rfl
                    exact norm_ (by first | (simp only [putAll, Act.put, List.setIfInBounds_toArray, List.set_cons_zero, List.set_cons_succ]; done) | (simp only [putAll, Act.put, List.setIfInBounds_toArray, List.set_cons_zero, List.set_cons_succ]; rfl)) (hJ6_9_26 (gb118) _ ⟨hHeld, (by (with_reducible repeat (first | refine blk_drewN ?_ _ | refine blk_drew ?_ | refine blk_alloc ?_ _)); exact BK102.out), (by (with_reducible repeat (first | refine blk_drewN ?_ _ | refine blk_drew ?_ | refine blk_alloc ?_ _)); exact BK118.out), GW118.out, GE118.out, NB102_118.out, NB118_102.out, (by repeat (first | (with_reducible first | exact HB.out | apply below_alloc | apply pw_below_drewN | apply below_drew1 | refine below_set ?_ GE102.out | refine below_set ?_ GE118.out) | exact HB.out))⟩)
                · skip
                  rintro _ w98 ⟨hS_, h0_, h1_⟩
                  have n0_ : Aside0 (w98.heap[gb102]? = some (.cells #[.int .i64 0, .int .u32 0, .int .u32 0, .int .u32 0, .int .u32 0, .int .i64 0, .bool false, .int .u32 0, .int .u16 0] 50 (0, 0))) := ⟨h0_⟩
                  have n1_ : Aside0 (Below w.heap.size w w98) := ⟨h1_⟩
                  clear BK102
                  clear HB
                  clear h0_ h1_
                  have BK102 := n0_
                  have HB := n1_
                  clear n0_ n1_
                  have hHeld : w98.cell? ad107 = some (.int .u8 (rd l0 0)) ∧ w98.cell? ⟨ad107.block, ad107.off + 20, none⟩ = some (.int .u8 (rd l0 20)) ∧ w98.cell? ⟨ad107.block, ad107.off + 1, none⟩ = some (.int .u8 (rd l0 1)) := hS_
                  refine norm_ (a' := ?_) ?_ ?_
                  rotate_left
                  · simp only [putAll, Act.put, List.setIfInBounds_toArray, List.set_cons_zero, List.set_cons_succ]
                    rfl
                  refine two_ (i := 12) (j := 26) (Ni := some 30) (Nj := some 4) (bA 28 32473087) (bA 28 99577855) rfl rfl rfl rfl (two_of HT_.out (by kernel_rfl)) (by decide) (by decide) (fun K hK => ?_) (fun K hK => ?_)
                  · skip
                    refine goes_ Try.func52 (by kernel_rfl) rfl #[.slice A96 (l0.drop 12).length (c0 - 12)] (by rfl) rfl rfl (by (try simp only [List.map_toArray, List.map_cons, List.map_nil]); first | done | (rw [show (l0.drop 12).length = (l0.length - 12) from List.length_drop] <;> rfl) | rfl | (simp only [List.length_drop, List.length_take]; rfl)) ?_
                    with_reducible refine (rec_get.calls0 _ _ (l0.drop 12) t113 _ ?side1 ?side2 A21.out).mono ?_
                    (case side1 => repeat (first | exact (Kd.C_below HR112.out HB.out) | (with_reducible refine Kd.C_alloc ?_ _) | (with_reducible refine Kd.C_drewN ?_ _) | (with_reducible refine Kd.C_drew ?_)))
                    (case side2 => exact HC112.out)
                    rintro e w' ⟨rfl, rfl⟩
                    refine ⟨_, rfl, ?_⟩
                    refine hK.out _ _ ⟨((HB.out.cell (World.block_lt_of_cell? w _ hw107_0)).trans hw107_0), ((HB.out.cell (World.block_lt_of_cell? w _ hw116_0)).trans hw116_0), ((HB.out.cell (World.block_lt_of_cell? w _ hw117_0)).trans hw117_0)⟩ (fun hHeld => ?_)
                    clear hK K
                    refine norm_ (a' := ?_) ?_ ?_
                    rotate_left
                    · show Act.put _ (some 30) _ = _
                      simp only [Act.put, List.setIfInBounds_toArray, List.set_cons_zero, List.set_cons_succ, i64_w, i32_w]
                      rfl
                    exact norm_ (by first | (simp only [putAll, Act.put, List.setIfInBounds_toArray, List.set_cons_zero, List.set_cons_succ]; done) | (simp only [putAll, Act.put, List.setIfInBounds_toArray, List.set_cons_zero, List.set_cons_succ]; rfl)) (hJ6_9_12 () _ ⟨hHeld, (by (with_reducible repeat (first | refine blk_drewN ?_ _ | refine blk_drew ?_ | refine blk_alloc ?_ _)); exact BK102.out), (by repeat (first | (with_reducible first | exact HB.out | apply below_alloc | apply pw_below_drewN | apply below_drew1 | refine below_set ?_ GE102.out) | exact HB.out))⟩)
                  · skip
                    refine box_step ?hg (N := 4) ?hd (cs := #[.int .i64 0, .int .u32 0, .int .u32 0, .int .u32 0, .int .u32 0, .int .i64 0, .bool false, .int .u32 0, .int .u16 0]) (t := 50) ?hr ?_; (case hd => rfl); (case hg => rfl); (case hr => first | (go_simp; done) | (go_simp; rfl))
                    intro gb118 hg w99 hbox hb
                    have n0_ := Aside0.mk (blk_below (g := gb102) (o := .cells #[.int .i64 0, .int .u32 0, .int .u32 0, .int .u32 0, .int .u32 0, .int .i64 0, .bool false, .int .u32 0, .int .u16 0] 50 (0, 0)) (by (with_reducible repeat (first | refine blk_drewN ?_ _ | refine blk_drew ?_ | refine blk_alloc ?_ _)); exact BK102.out) hb)
                    have n1_ := Aside0.mk (below_step (by repeat (first | (with_reducible first | exact HB.out | apply below_alloc | apply pw_below_drewN | apply below_drew1 | refine below_set ?_ GE102.out) | exact HB.out)) hb)
                    have n2_ := Aside0.mk (hbox)
                    have n3_ := Aside0.mk ((by rw [hg]; exact (below_size (by repeat (first | (with_reducible first | exact HB.out | apply below_alloc | apply pw_below_drewN | apply below_drew1 | refine below_set ?_ GE102.out) | exact HB.out))) : w.heap.size ≤ gb118))
                    have n4_ := Aside0.mk ((by rw [hg]; exact (below_size (by repeat (first | (with_reducible first | exact HB.out | apply below_alloc | apply pw_below_drewN | apply below_drew1 | refine below_set ?_ GE102.out) | exact HB.out))) : w.heap.size ≤ gb118))
                    have n5_ := Aside0.mk ((by rw [hg]; exact Nat.ne_of_lt (blk_lt (g := gb102) (o := .cells #[.int .i64 0, .int .u32 0, .int .u32 0, .int .u32 0, .int .u32 0, .int .i64 0, .bool false, .int .u32 0, .int .u16 0] 50 (0, 0)) (by (with_reducible repeat (first | refine blk_drewN ?_ _ | refine blk_drew ?_ | refine blk_alloc ?_ _)); exact BK102.out)) : gb102 ≠ gb118))
                    have n6_ := Aside0.mk ((by rw [hg]; exact Nat.ne_of_gt (blk_lt (g := gb102) (o := .cells #[.int .i64 0, .int .u32 0, .int .u32 0, .int .u32 0, .int .u32 0, .int .i64 0, .bool false, .int .u32 0, .int .u16 0] 50 (0, 0)) (by (with_reducible repeat (first | refine blk_drewN ?_ _ | refine blk_drew ?_ | refine blk_alloc ?_ _)); exact BK102.out)) : gb118 ≠ gb102))
                    clear BK102
                    clear HB
                    have BK102 := n0_
                    have HB := n1_
                    have BK118 := n2_
                    have GW118 := n3_
                    have GE118 := n4_
                    have NB102_118 := n5_
                    have NB118_102 := n6_
                    clear n0_ n1_ n2_ n3_ n4_ n5_ n6_
                    clear hb hbox hg
                    refine hK.out _ _ ⟨((HB.out.cell (World.block_lt_of_cell? w _ hw107_0)).trans hw107_0), ((HB.out.cell (World.block_lt_of_cell? w _ hw116_0)).trans hw116_0), ((HB.out.cell (World.block_lt_of_cell? w _ hw117_0)).trans hw117_0)⟩ (fun hHeld => ?_)
                    clear hK K
                    refine norm_ (a' := ?_) ?_ ?_
                    rotate_left
                    · show Act.put _ (some 4) _ = _
                      simp only [Act.put, List.setIfInBounds_toArray, List.set_cons_zero, List.set_cons_succ, i64_w, i32_w]
                      rfl
                    exact norm_ (by first | (simp only [putAll, Act.put, List.setIfInBounds_toArray, List.set_cons_zero, List.set_cons_succ]; done) | (simp only [putAll, Act.put, List.setIfInBounds_toArray, List.set_cons_zero, List.set_cons_succ]; rfl)) (hJ6_9_26 (gb118) _ ⟨hHeld, (by (with_reducible repeat (first | refine blk_drewN ?_ _ | refine blk_drew ?_ | refine blk_alloc ?_ _)); exact BK102.out), (by (with_reducible repeat (first | refine blk_drewN ?_ _ | refine blk_drew ?_ | refine blk_alloc ?_ _)); exact BK118.out), GW118.out, GE118.out, NB102_118.out, NB118_102.out, (by repeat (first | (with_reducible first | exact HB.out | apply below_alloc | apply pw_below_drewN | apply below_drew1 | refine below_set ?_ GE102.out | refine below_set ?_ GE118.out) | exact HB.out))⟩)
              · skip
                rintro gb118 w99 ⟨hS_, h0_, h1_, h2_, h3_, h4_, h5_, h6_⟩
                have n0_ : Aside0 (w99.heap[gb102]? = some (.cells #[.int .i64 0, .int .u32 0, .int .u32 0, .int .u32 0, .int .u32 0, .int .i64 0, .bool false, .int .u32 0, .int .u16 0] 50 (0, 0))) := ⟨h0_⟩
                have n1_ : Aside0 (w99.heap[gb118]? = some (.cells #[.int .i64 0, .int .u32 0, .int .u32 0, .int .u32 0, .int .u32 0, .int .i64 0, .bool false, .int .u32 0, .int .u16 0] 50 (0, 0))) := ⟨h1_⟩
                have n2_ : Aside0 (w.heap.size ≤ gb118) := ⟨h2_⟩
                have n3_ : Aside0 (w.heap.size ≤ gb118) := ⟨h3_⟩
                have n4_ : Aside0 (gb102 ≠ gb118) := ⟨h4_⟩
                have n5_ : Aside0 (gb118 ≠ gb102) := ⟨h5_⟩
                have n6_ : Aside0 (Below w.heap.size w w99) := ⟨h6_⟩
                clear BK102
                clear HB
                clear h0_ h1_ h2_ h3_ h4_ h5_ h6_
                have BK102 := n0_
                have BK118 := n1_
                have GW118 := n2_
                have GE118 := n3_
                have NB102_118 := n4_
                have NB118_102 := n5_
                have HB := n6_
                clear n0_ n1_ n2_ n3_ n4_ n5_ n6_
                have hHeld : w99.cell? ad107 = some (.int .u8 (rd l0 0)) ∧ w99.cell? ⟨ad107.block, ad107.off + 20, none⟩ = some (.int .u8 (rd l0 20)) ∧ w99.cell? ⟨ad107.block, ad107.off + 1, none⟩ = some (.int .u8 (rd l0 1)) := hS_
                refine norm_ (a' := ?_) ?_ ?_
                rotate_left
                · simp only [putAll, Act.put, List.setIfInBounds_toArray, List.set_cons_zero, List.set_cons_succ]
                  rfl
                refine one_ (i := 12) (N := some 30) (bA 28 99581951) rfl rfl (one_of HT_.out (by kernel_rfl)) (by decide) (fun K hK => ?_)
                refine goes_ Try.func52 (by kernel_rfl) rfl #[.slice A96 (l0.drop 12).length (c0 - 12)] (by rfl) rfl rfl (by (try simp only [List.map_toArray, List.map_cons, List.map_nil]); first | done | (rw [show (l0.drop 12).length = (l0.length - 12) from List.length_drop] <;> rfl) | rfl | (simp only [List.length_drop, List.length_take]; rfl)) ?_
                with_reducible refine (rec_get.calls0 _ _ (l0.drop 12) t113 _ ?side1 ?side2 A21.out).mono ?_
                (case side1 => repeat (first | exact (Kd.C_below HR112.out HB.out) | (with_reducible refine Kd.C_alloc ?_ _) | (with_reducible refine Kd.C_drewN ?_ _) | (with_reducible refine Kd.C_drew ?_)))
                (case side2 => exact HC112.out)
                rintro e w' ⟨rfl, rfl⟩
                refine ⟨_, rfl, ?_⟩
                refine hK.out _ _ ⟨((HB.out.cell (World.block_lt_of_cell? w _ hw107_0)).trans hw107_0), ((HB.out.cell (World.block_lt_of_cell? w _ hw116_0)).trans hw116_0), ((HB.out.cell (World.block_lt_of_cell? w _ hw117_0)).trans hw117_0)⟩ (fun hHeld => ?_)
                clear hK K
                refine norm_ (a' := ?_) ?_ ?_
                rotate_left
                · show Act.put _ (some 30) _ = _
                  simp only [Act.put, List.setIfInBounds_toArray, List.set_cons_zero, List.set_cons_succ, i64_w, i32_w]
                  rfl
                exact norm_ (by first | (simp only [putAll, Act.put, List.setIfInBounds_toArray, List.set_cons_zero, List.set_cons_succ]; done) | (simp only [putAll, Act.put, List.setIfInBounds_toArray, List.set_cons_zero, List.set_cons_succ]; rfl)) (hJ6_9_12_26 (gb118) _ ⟨hHeld, (by (with_reducible repeat (first | refine blk_drewN ?_ _ | refine blk_drew ?_ | refine blk_alloc ?_ _)); exact BK102.out), (by (with_reducible repeat (first | refine blk_drewN ?_ _ | refine blk_drew ?_ | refine blk_alloc ?_ _)); exact BK118.out), GW118.out, GE118.out, NB102_118.out, NB118_102.out, (by repeat (first | (with_reducible first | exact HB.out | apply below_alloc | apply pw_below_drewN | apply below_drew1 | refine below_set ?_ GE102.out | refine below_set ?_ GE118.out) | exact HB.out))⟩)
            · skip
              rintro _ w98 ⟨hS_, h0_, h1_⟩
              have n0_ : Aside0 (w98.heap[gb102]? = some (.cells #[.int .i64 0, .int .u32 0, .int .u32 0, .int .u32 0, .int .u32 0, .int .i64 0, .bool false, .int .u32 0, .int .u16 0] 50 (0, 0))) := ⟨h0_⟩
              have n1_ : Aside0 (Below w.heap.size w w98) := ⟨h1_⟩
              clear BK102
              clear HB
              clear h0_ h1_
              have BK102 := n0_
              have HB := n1_
              clear n0_ n1_
              have hHeld : w98.cell? ad107 = some (.int .u8 (rd l0 0)) ∧ w98.cell? ⟨ad107.block, ad107.off + 20, none⟩ = some (.int .u8 (rd l0 20)) ∧ w98.cell? ⟨ad107.block, ad107.off + 1, none⟩ = some (.int .u8 (rd l0 1)) := hS_
              refine norm_ (a' := ?_) ?_ ?_
              rotate_left
              · simp only [putAll, Act.put, List.setIfInBounds_toArray, List.set_cons_zero, List.set_cons_succ]
                rfl
              refine two_ (i := 15) (j := 26) (Ni := some 33) (Nj := some 4) (bA 28 32505855) (bA 28 99581951) rfl rfl rfl rfl (two_of HT_.out (by kernel_rfl)) (by decide) (by decide) (fun K hK => ?_) (fun K hK => ?_)
              · skip
                refine goes_ Try.func52 (by kernel_rfl) rfl #[.slice A97 (l0.drop 16).length (c0 - 16)] (by rfl) rfl rfl (by (try simp only [List.map_toArray, List.map_cons, List.map_nil]); first | done | (rw [show (l0.drop 16).length = (l0.length - 16) from List.length_drop] <;> rfl) | rfl | (simp only [List.length_drop, List.length_take]; rfl)) ?_
                with_reducible refine (rec_get.calls0 _ _ (l0.drop 16) t115 _ ?side1 ?side2 A23.out).mono ?_
                (case side1 => repeat (first | exact (Kd.C_below HR114.out HB.out) | (with_reducible refine Kd.C_alloc ?_ _) | (with_reducible refine Kd.C_drewN ?_ _) | (with_reducible refine Kd.C_drew ?_)))
                (case side2 => exact HC114.out)
                rintro e w' ⟨rfl, rfl⟩
                refine ⟨_, rfl, ?_⟩
                refine hK.out _ _ ⟨((HB.out.cell (World.block_lt_of_cell? w _ hw107_0)).trans hw107_0), ((HB.out.cell (World.block_lt_of_cell? w _ hw116_0)).trans hw116_0), ((HB.out.cell (World.block_lt_of_cell? w _ hw117_0)).trans hw117_0)⟩ (fun hHeld => ?_)
                clear hK K
                refine norm_ (a' := ?_) ?_ ?_
                rotate_left
                · show Act.put _ (some 33) _ = _
                  simp only [Act.put, List.setIfInBounds_toArray, List.set_cons_zero, List.set_cons_succ, i64_w, i32_w]
                  rfl
                refine pure_ (i := 20) (N := some 38) (v := ?_) (a' := ?_) (bA 28 33554431) rfl rfl (any_of HT_.out (by kernel_rfl)) (fun _ _ _ h => h) (Or.inl ⟨by rfl, ?_⟩) ?_ ?_; rotate_left
                · intro w'; go_simp; with_reducible rfl
                rotate_left; · simp only [Act.put, List.setIfInBounds_toArray, List.set_cons_zero, List.set_cons_succ, i64_w, i32_w]; rfl
                refine pure_ (i := 25) (N := some 43) (v := ?_) (a' := ?_) (bA 28 67108863) rfl rfl (any_of HT_.out (by kernel_rfl)) (fun _ _ _ h => h) (Or.inl ⟨by rfl, ?_⟩) ?_ ?_; rotate_left
                · intro w'; go_simp; with_reducible rfl
                rotate_left; · simp only [Act.put, List.setIfInBounds_toArray, List.set_cons_zero, List.set_cons_succ, i64_w, i32_w]; rfl
                exact norm_ (by first | (simp only [putAll, Act.put, List.setIfInBounds_toArray, List.set_cons_zero, List.set_cons_succ]; done) | (simp only [putAll, Act.put, List.setIfInBounds_toArray, List.set_cons_zero, List.set_cons_succ]; rfl)) (hJ6_9_12_15 () _ ⟨hHeld, (by (with_reducible repeat (first | refine blk_drewN ?_ _ | refine blk_drew ?_ | refine blk_alloc ?_ _)); exact BK102.out), (by repeat (first | (with_reducible first | exact HB.out | apply below_alloc | apply pw_below_drewN | apply below_drew1 | refine below_set ?_ GE102.out) | exact HB.out))⟩)
              · skip
                refine box_step ?hg (N := 4) ?hd (cs := #[.int .i64 0, .int .u32 0, .int .u32 0, .int .u32 0, .int .u32 0, .int .i64 0, .bool false, .int .u32 0, .int .u16 0]) (t := 50) ?hr ?_; (case hd => rfl); (case hg => rfl); (case hr => first | (go_simp; done) | (go_simp; rfl))
                intro gb118 hg w99 hbox hb
                have n0_ := Aside0.mk (blk_below (g := gb102) (o := .cells #[.int .i64 0, .int .u32 0, .int .u32 0, .int .u32 0, .int .u32 0, .int .i64 0, .bool false, .int .u32 0, .int .u16 0] 50 (0, 0)) (by (with_reducible repeat (first | refine blk_drewN ?_ _ | refine blk_drew ?_ | refine blk_alloc ?_ _)); exact BK102.out) hb)
                have n1_ := Aside0.mk (below_step (by repeat (first | (with_reducible first | exact HB.out | apply below_alloc | apply pw_below_drewN | apply below_drew1 | refine below_set ?_ GE102.out) | exact HB.out)) hb)
                have n2_ := Aside0.mk (hbox)
                have n3_ := Aside0.mk ((by rw [hg]; exact (below_size (by repeat (first | (with_reducible first | exact HB.out | apply below_alloc | apply pw_below_drewN | apply below_drew1 | refine below_set ?_ GE102.out) | exact HB.out))) : w.heap.size ≤ gb118))
                have n4_ := Aside0.mk ((by rw [hg]; exact (below_size (by repeat (first | (with_reducible first | exact HB.out | apply below_alloc | apply pw_below_drewN | apply below_drew1 | refine below_set ?_ GE102.out) | exact HB.out))) : w.heap.size ≤ gb118))
                have n5_ := Aside0.mk ((by rw [hg]; exact Nat.ne_of_lt (blk_lt (g := gb102) (o := .cells #[.int .i64 0, .int .u32 0, .int .u32 0, .int .u32 0, .int .u32 0, .int .i64 0, .bool false, .int .u32 0, .int .u16 0] 50 (0, 0)) (by (with_reducible repeat (first | refine blk_drewN ?_ _ | refine blk_drew ?_ | refine blk_alloc ?_ _)); exact BK102.out)) : gb102 ≠ gb118))
                have n6_ := Aside0.mk ((by rw [hg]; exact Nat.ne_of_gt (blk_lt (g := gb102) (o := .cells #[.int .i64 0, .int .u32 0, .int .u32 0, .int .u32 0, .int .u32 0, .int .i64 0, .bool false, .int .u32 0, .int .u16 0] 50 (0, 0)) (by (with_reducible repeat (first | refine blk_drewN ?_ _ | refine blk_drew ?_ | refine blk_alloc ?_ _)); exact BK102.out)) : gb118 ≠ gb102))
                clear BK102
                clear HB
                have BK102 := n0_
                have HB := n1_
                have BK118 := n2_
                have GW118 := n3_
                have GE118 := n4_
                have NB102_118 := n5_
                have NB118_102 := n6_
                clear n0_ n1_ n2_ n3_ n4_ n5_ n6_
                clear hb hbox hg
                refine hK.out _ _ ⟨((HB.out.cell (World.block_lt_of_cell? w _ hw107_0)).trans hw107_0), ((HB.out.cell (World.block_lt_of_cell? w _ hw116_0)).trans hw116_0), ((HB.out.cell (World.block_lt_of_cell? w _ hw117_0)).trans hw117_0)⟩ (fun hHeld => ?_)
                clear hK K
                refine norm_ (a' := ?_) ?_ ?_
                rotate_left
                · show Act.put _ (some 4) _ = _
                  simp only [Act.put, List.setIfInBounds_toArray, List.set_cons_zero, List.set_cons_succ, i64_w, i32_w]
                  rfl
                exact norm_ (by first | (simp only [putAll, Act.put, List.setIfInBounds_toArray, List.set_cons_zero, List.set_cons_succ]; done) | (simp only [putAll, Act.put, List.setIfInBounds_toArray, List.set_cons_zero, List.set_cons_succ]; rfl)) (hJ6_9_12_26 (gb118) _ ⟨hHeld, (by (with_reducible repeat (first | refine blk_drewN ?_ _ | refine blk_drew ?_ | refine blk_alloc ?_ _)); exact BK102.out), (by (with_reducible repeat (first | refine blk_drewN ?_ _ | refine blk_drew ?_ | refine blk_alloc ?_ _)); exact BK118.out), GW118.out, GE118.out, NB102_118.out, NB118_102.out, (by repeat (first | (with_reducible first | exact HB.out | apply below_alloc | apply pw_below_drewN | apply below_drew1 | refine below_set ?_ GE102.out | refine below_set ?_ GE118.out) | exact HB.out))⟩)
          · skip
            rintro gb118 w99 ⟨hS_, h0_, h1_, h2_, h3_, h4_, h5_, h6_⟩
            have n0_ : Aside0 (w99.heap[gb102]? = some (.cells #[.int .i64 0, .int .u32 0, .int .u32 0, .int .u32 0, .int .u32 0, .int .i64 0, .bool false, .int .u32 0, .int .u16 0] 50 (0, 0))) := ⟨h0_⟩
            have n1_ : Aside0 (w99.heap[gb118]? = some (.cells #[.int .i64 0, .int .u32 0, .int .u32 0, .int .u32 0, .int .u32 0, .int .i64 0, .bool false, .int .u32 0, .int .u16 0] 50 (0, 0))) := ⟨h1_⟩
            have n2_ : Aside0 (w.heap.size ≤ gb118) := ⟨h2_⟩
            have n3_ : Aside0 (w.heap.size ≤ gb118) := ⟨h3_⟩
            have n4_ : Aside0 (gb102 ≠ gb118) := ⟨h4_⟩
            have n5_ : Aside0 (gb118 ≠ gb102) := ⟨h5_⟩
            have n6_ : Aside0 (Below w.heap.size w w99) := ⟨h6_⟩
            clear BK102
            clear HB
            clear h0_ h1_ h2_ h3_ h4_ h5_ h6_
            have BK102 := n0_
            have BK118 := n1_
            have GW118 := n2_
            have GE118 := n3_
            have NB102_118 := n4_
            have NB118_102 := n5_
            have HB := n6_
            clear n0_ n1_ n2_ n3_ n4_ n5_ n6_
            have hHeld : w99.cell? ad107 = some (.int .u8 (rd l0 0)) ∧ w99.cell? ⟨ad107.block, ad107.off + 20, none⟩ = some (.int .u8 (rd l0 20)) ∧ w99.cell? ⟨ad107.block, ad107.off + 1, none⟩ = some (.int .u8 (rd l0 1)) := hS_
            refine norm_ (a' := ?_) ?_ ?_
            rotate_left
            · simp only [putAll, Act.put, List.setIfInBounds_toArray, List.set_cons_zero, List.set_cons_succ]
              rfl
            refine one_ (i := 15) (N := some 33) (bA 28 99614719) rfl rfl (one_of HT_.out (by kernel_rfl)) (by decide) (fun K hK => ?_)
            refine goes_ Try.func52 (by kernel_rfl) rfl #[.slice A97 (l0.drop 16).length (c0 - 16)] (by rfl) rfl rfl (by (try simp only [List.map_toArray, List.map_cons, List.map_nil]); first | done | (rw [show (l0.drop 16).length = (l0.length - 16) from List.length_drop] <;> rfl) | rfl | (simp only [List.length_drop, List.length_take]; rfl)) ?_
            with_reducible refine (rec_get.calls0 _ _ (l0.drop 16) t115 _ ?side1 ?side2 A23.out).mono ?_
            (case side1 => repeat (first | exact (Kd.C_below HR114.out HB.out) | (with_reducible refine Kd.C_alloc ?_ _) | (with_reducible refine Kd.C_drewN ?_ _) | (with_reducible refine Kd.C_drew ?_)))
            (case side2 => exact HC114.out)
            rintro e w' ⟨rfl, rfl⟩
            refine ⟨_, rfl, ?_⟩
            refine hK.out _ _ ⟨((HB.out.cell (World.block_lt_of_cell? w _ hw107_0)).trans hw107_0), ((HB.out.cell (World.block_lt_of_cell? w _ hw116_0)).trans hw116_0), ((HB.out.cell (World.block_lt_of_cell? w _ hw117_0)).trans hw117_0)⟩ (fun hHeld => ?_)
            clear hK K
            refine norm_ (a' := ?_) ?_ ?_
            rotate_left
            · show Act.put _ (some 33) _ = _
              simp only [Act.put, List.setIfInBounds_toArray, List.set_cons_zero, List.set_cons_succ, i64_w, i32_w]
              rfl
            refine pure_ (i := 20) (N := some 38) (v := ?_) (a' := ?_) (bA 28 100663295) rfl rfl (any_of HT_.out (by kernel_rfl)) (fun _ _ _ h => h) (Or.inl ⟨by rfl, ?_⟩) ?_ ?_; rotate_left
            · intro w'; go_simp; with_reducible rfl
            rotate_left; · simp only [Act.put, List.setIfInBounds_toArray, List.set_cons_zero, List.set_cons_succ, i64_w, i32_w]; rfl
            refine pure_ (i := 25) (N := some 43) (v := ?_) (a' := ?_) (bA 28 134217727) rfl rfl (any_of HT_.out (by kernel_rfl)) (fun _ _ _ h => h) (Or.inl ⟨by rfl, ?_⟩) ?_ ?_; rotate_left
            · intro w'; go_simp; with_reducible rfl
            rotate_left; · simp only [Act.put, List.setIfInBounds_toArray, List.set_cons_zero, List.set_cons_succ, i64_w, i32_w]; rfl
            exact norm_ (by first | (simp only [putAll, Act.put, List.setIfInBounds_toArray, List.set_cons_zero, List.set_cons_succ]; done) | (simp only [putAll, Act.put, List.setIfInBounds_toArray, List.set_cons_zero, List.set_cons_succ]; rfl)) (hJ6_9_12_15_26 (gb118) _ ⟨hHeld, (by (with_reducible repeat (first | refine blk_drewN ?_ _ | refine blk_drew ?_ | refine blk_alloc ?_ _)); exact BK102.out), (by (with_reducible repeat (first | refine blk_drewN ?_ _ | refine blk_drew ?_ | refine blk_alloc ?_ _)); exact BK118.out), GW118.out, GE118.out, NB102_118.out, NB118_102.out, (by repeat (first | (with_reducible first | exact HB.out | apply below_alloc | apply pw_below_drewN | apply below_drew1 | refine below_set ?_ GE102.out | refine below_set ?_ GE118.out) | exact HB.out))⟩)
        · skip
          rintro _ w98 ⟨hS_, h0_, h1_⟩
          have n0_ : Aside0 (w98.heap[gb102]? = some (.cells #[.int .i64 0, .int .u32 0, .int .u32 0, .int .u32 0, .int .u32 0, .int .i64 0, .bool false, .int .u32 0, .int .u16 0] 50 (0, 0))) := ⟨h0_⟩
          have n1_ : Aside0 (Below w.heap.size w w98) := ⟨h1_⟩
          clear BK102
          clear HB
          clear h0_ h1_
          have BK102 := n0_
          have HB := n1_
          clear n0_ n1_
          have hHeld : w98.cell? ad107 = some (.int .u8 (rd l0 0)) ∧ w98.cell? ⟨ad107.block, ad107.off + 20, none⟩ = some (.int .u8 (rd l0 20)) ∧ w98.cell? ⟨ad107.block, ad107.off + 1, none⟩ = some (.int .u8 (rd l0 1)) := hS_
          refine norm_ (a' := ?_) ?_ ?_
          rotate_left
          · simp only [putAll, Act.put, List.setIfInBounds_toArray, List.set_cons_zero, List.set_cons_succ]
            rfl
          refine one_ (i := 26) (N := some 4) (bA 28 134217727) rfl rfl (one_of HT_.out (by kernel_rfl)) (by decide) (fun K hK => ?_)
          refine box_step ?hg (N := 4) ?hd (cs := #[.int .i64 0, .int .u32 0, .int .u32 0, .int .u32 0, .int .u32 0, .int .i64 0, .bool false, .int .u32 0, .int .u16 0]) (t := 50) ?hr ?_; (case hd => rfl); (case hg => rfl); (case hr => first | (go_simp; done) | (go_simp; rfl))
          intro gb118 hg w99 hbox hb
          have n0_ := Aside0.mk (blk_below (g := gb102) (o := .cells #[.int .i64 0, .int .u32 0, .int .u32 0, .int .u32 0, .int .u32 0, .int .i64 0, .bool false, .int .u32 0, .int .u16 0] 50 (0, 0)) (by (with_reducible repeat (first | refine blk_drewN ?_ _ | refine blk_drew ?_ | refine blk_alloc ?_ _)); exact BK102.out) hb)
          have n1_ := Aside0.mk (below_step (by repeat (first | (with_reducible first | exact HB.out | apply below_alloc | apply pw_below_drewN | apply below_drew1 | refine below_set ?_ GE102.out) | exact HB.out)) hb)
          have n2_ := Aside0.mk (hbox)
          have n3_ := Aside0.mk ((by rw [hg]; exact (below_size (by repeat (first | (with_reducible first | exact HB.out | apply below_alloc | apply pw_below_drewN | apply below_drew1 | refine below_set ?_ GE102.out) | exact HB.out))) : w.heap.size ≤ gb118))
          have n4_ := Aside0.mk ((by rw [hg]; exact (below_size (by repeat (first | (with_reducible first | exact HB.out | apply below_alloc | apply pw_below_drewN | apply below_drew1 | refine below_set ?_ GE102.out) | exact HB.out))) : w.heap.size ≤ gb118))
          have n5_ := Aside0.mk ((by rw [hg]; exact Nat.ne_of_lt (blk_lt (g := gb102) (o := .cells #[.int .i64 0, .int .u32 0, .int .u32 0, .int .u32 0, .int .u32 0, .int .i64 0, .bool false, .int .u32 0, .int .u16 0] 50 (0, 0)) (by (with_reducible repeat (first | refine blk_drewN ?_ _ | refine blk_drew ?_ | refine blk_alloc ?_ _)); exact BK102.out)) : gb102 ≠ gb118))
          have n6_ := Aside0.mk ((by rw [hg]; exact Nat.ne_of_gt (blk_lt (g := gb102) (o := .cells #[.int .i64 0, .int .u32 0, .int .u32 0, .int .u32 0, .int .u32 0, .int .i64 0, .bool false, .int .u32 0, .int .u16 0] 50 (0, 0)) (by (with_reducible repeat (first | refine blk_drewN ?_ _ | refine blk_drew ?_ | refine blk_alloc ?_ _)); exact BK102.out)) : gb118 ≠ gb102))
          clear BK102
          clear HB
          have BK102 := n0_
          have HB := n1_
          have BK118 := n2_
          have GW118 := n3_
          have GE118 := n4_
          have NB102_118 := n5_
          have NB118_102 := n6_
          clear n0_ n1_ n2_ n3_ n4_ n5_ n6_
          clear hb hbox hg
          refine hK.out _ _ ⟨((HB.out.cell (World.block_lt_of_cell? w _ hw107_0)).trans hw107_0), ((HB.out.cell (World.block_lt_of_cell? w _ hw116_0)).trans hw116_0), ((HB.out.cell (World.block_lt_of_cell? w _ hw117_0)).trans hw117_0)⟩ (fun hHeld => ?_)
          clear hK K
          refine norm_ (a' := ?_) ?_ ?_
          rotate_left
          · show Act.put _ (some 4) _ = _
            simp only [Act.put, List.setIfInBounds_toArray, List.set_cons_zero, List.set_cons_succ, i64_w, i32_w]
            rfl
          exact norm_ (by first | (simp only [putAll, Act.put, List.setIfInBounds_toArray, List.set_cons_zero, List.set_cons_succ]; done) | (simp only [putAll, Act.put, List.setIfInBounds_toArray, List.set_cons_zero, List.set_cons_succ]; rfl)) (hJ6_9_12_15_26 (gb118) _ ⟨hHeld, (by (with_reducible repeat (first | refine blk_drewN ?_ _ | refine blk_drew ?_ | refine blk_alloc ?_ _)); exact BK102.out), (by (with_reducible repeat (first | refine blk_drewN ?_ _ | refine blk_drew ?_ | refine blk_alloc ?_ _)); exact BK118.out), GW118.out, GE118.out, NB102_118.out, NB118_102.out, (by repeat (first | (with_reducible first | exact HB.out | apply below_alloc | apply pw_below_drewN | apply below_drew1 | refine below_set ?_ GE102.out | refine below_set ?_ GE118.out) | exact HB.out))⟩)
      rintro gb118 w99 ⟨hS_, h0_, h1_, h2_, h3_, h4_, h5_, h6_⟩
      have n0_ : Aside0 (w99.heap[gb102]? = some (.cells #[.int .i64 0, .int .u32 0, .int .u32 0, .int .u32 0, .int .u32 0, .int .i64 0, .bool false, .int .u32 0, .int .u16 0] 50 (0, 0))) := ⟨h0_⟩
      have n1_ : Aside0 (w99.heap[gb118]? = some (.cells #[.int .i64 0, .int .u32 0, .int .u32 0, .int .u32 0, .int .u32 0, .int .i64 0, .bool false, .int .u32 0, .int .u16 0] 50 (0, 0))) := ⟨h1_⟩
      have n2_ : Aside0 (w.heap.size ≤ gb118) := ⟨h2_⟩
      have n3_ : Aside0 (w.heap.size ≤ gb118) := ⟨h3_⟩
      have n4_ : Aside0 (gb102 ≠ gb118) := ⟨h4_⟩
      have n5_ : Aside0 (gb118 ≠ gb102) := ⟨h5_⟩
      have n6_ : Aside0 (Below w.heap.size w w99) := ⟨h6_⟩
      clear BK102
      clear HB
      clear h0_ h1_ h2_ h3_ h4_ h5_ h6_
      have BK102 := n0_
      have BK118 := n1_
      have GW118 := n2_
      have GE118 := n3_
      have NB102_118 := n4_
      have NB118_102 := n5_
      have HB := n6_
      clear n0_ n1_ n2_ n3_ n4_ n5_ n6_
      have hHeld : w99.cell? ad107 = some (.int .u8 (rd l0 0)) ∧ w99.cell? ⟨ad107.block, ad107.off + 20, none⟩ = some (.int .u8 (rd l0 20)) ∧ w99.cell? ⟨ad107.block, ad107.off + 1, none⟩ = some (.int .u8 (rd l0 1)) := hS_
      refine norm_ (a' := ?_) ?_ ?_
      rotate_left
      · simp only [putAll, Act.put, List.setIfInBounds_toArray, List.set_cons_zero, List.set_cons_succ]
        rfl
      refine one_ (i := 27) (N := none) (bA 28 268435455) rfl rfl (one_of HT_.out (by kernel_rfl)) (by decide) (fun K hK => ?_)
      have hs100 : w99.cell? ⟨gb118, 0, none⟩ = some (.int .i64 0) := (blk_cell BK118.out 0).trans rfl
      have hfs100 := blk_frozen BK118.out 0
      have hns100_0 := NB102_118.out
      have hms100_0 := NB118_102.out
      have hs101 : w99.cell? ⟨gb118, 1, none⟩ = some (.int .u32 0) := (blk_cell BK118.out 1).trans rfl
      have hfs101 := blk_frozen BK118.out 1
      have hns101_0 := NB102_118.out
      have hms101_0 := NB118_102.out
      have hs102 : w99.cell? ⟨gb118, 2, none⟩ = some (.int .u32 0) := (blk_cell BK118.out 2).trans rfl
      have hfs102 := blk_frozen BK118.out 2
      have hns102_0 := NB102_118.out
      have hms102_0 := NB118_102.out
      have hs103 : w99.cell? ⟨gb118, 3, none⟩ = some (.int .u32 0) := (blk_cell BK118.out 3).trans rfl
      have hfs103 := blk_frozen BK118.out 3
      have hns103_0 := NB102_118.out
      have hms103_0 := NB118_102.out
      have hs104 : w99.cell? ⟨gb118, 4, none⟩ = some (.int .u32 0) := (blk_cell BK118.out 4).trans rfl
      have hfs104 := blk_frozen BK118.out 4
      have hns104_0 := NB102_118.out
      have hms104_0 := NB118_102.out
      have hs105 : w99.cell? ⟨gb118, 5, none⟩ = some (.int .i64 0) := (blk_cell BK118.out 5).trans rfl
      have hfs105 := blk_frozen BK118.out 5
      have hns105_0 := NB102_118.out
      have hms105_0 := NB118_102.out
      have hs106 : w99.cell? ⟨gb118, 6, none⟩ = some (.bool false) := (blk_cell BK118.out 6).trans rfl
      have hfs106 := blk_frozen BK118.out 6
      have hns106_0 := NB102_118.out
      have hms106_0 := NB118_102.out
      have hs107 : w99.cell? ⟨gb118, 7, none⟩ = some (.int .u32 0) := (blk_cell BK118.out 7).trans rfl
      have hfs107 := blk_frozen BK118.out 7
      have hns107_0 := NB102_118.out
      have hms107_0 := NB118_102.out
      have hs108 : w99.cell? ⟨gb118, 8, none⟩ = some (.int .u16 0) := (blk_cell BK118.out 8).trans rfl
      have hfs108 := blk_frozen BK118.out 8
      have hns108_0 := NB102_118.out
      have hms108_0 := NB118_102.out
      refine skip_ (w1 := ?_) (by rfl) rfl ?_ ?_
      rotate_left
      · go_simp
        rfl
      refine hK.out _ _ ⟨((cell_far (p := ⟨gb118, _, none⟩) (by first | first | exact nb2 hw107_0 GW118.out | exact nb1 hw107_0 GW118.out | (rw [add_block]; first | exact nb2 hw107_0 GW118.out | exact nb1 hw107_0 GW118.out) | (show (Addr.add _ _).block ≠ _; rw [add_block]; first | exact nb2 hw107_0 GW118.out | exact nb1 hw107_0 GW118.out) | (dsimp only; first | exact nb2 hw107_0 GW118.out | exact nb1 hw107_0 GW118.out)) _).trans (((cell_far (p := ⟨gb118, _, none⟩) (by first | first | exact nb2 hw107_0 GW118.out | exact nb1 hw107_0 GW118.out | (rw [add_block]; first | exact nb2 hw107_0 GW118.out | exact nb1 hw107_0 GW118.out) | (show (Addr.add _ _).block ≠ _; rw [add_block]; first | exact nb2 hw107_0 GW118.out | exact nb1 hw107_0 GW118.out) | (dsimp only; first | exact nb2 hw107_0 GW118.out | exact nb1 hw107_0 GW118.out)) _).trans (((cell_far (p := ⟨gb118, _, none⟩) (by first | first | exact nb2 hw107_0 GW118.out | exact nb1 hw107_0 GW118.out | (rw [add_block]; first | exact nb2 hw107_0 GW118.out | exact nb1 hw107_0 GW118.out) | (show (Addr.add _ _).block ≠ _; rw [add_block]; first | exact nb2 hw107_0 GW118.out | exact nb1 hw107_0 GW118.out) | (dsimp only; first | exact nb2 hw107_0 GW118.out | exact nb1 hw107_0 GW118.out)) _).trans (((cell_far (p := ⟨gb118, _, none⟩) (by first | first | exact nb2 hw107_0 GW118.out | exact nb1 hw107_0 GW118.out | (rw [add_block]; first | exact nb2 hw107_0 GW118.out | exact nb1 hw107_0 GW118.out) | (show (Addr.add _ _).block ≠ _; rw [add_block]; first | exact nb2 hw107_0 GW118.out | exact nb1 hw107_0 GW118.out) | (dsimp only; first | exact nb2 hw107_0 GW118.out | exact nb1 hw107_0 GW118.out)) _).trans (((cell_far (p := ⟨gb118, _, none⟩) (by first | first | exact nb2 hw107_0 GW118.out | exact nb1 hw107_0 GW118.out | (rw [add_block]; first | exact nb2 hw107_0 GW118.out | exact nb1 hw107_0 GW118.out) | (show (Addr.add _ _).block ≠ _; rw [add_block]; first | exact nb2 hw107_0 GW118.out | exact nb1 hw107_0 GW118.out) | (dsimp only; first | exact nb2 hw107_0 GW118.out | exact nb1 hw107_0 GW118.out)) _).trans (((cell_far (p := ⟨gb118, _, none⟩) (by first | first | exact nb2 hw107_0 GW118.out | exact nb1 hw107_0 GW118.out | (rw [add_block]; first | exact nb2 hw107_0 GW118.out | exact nb1 hw107_0 GW118.out) | (show (Addr.add _ _).block ≠ _; rw [add_block]; first | exact nb2 hw107_0 GW118.out | exact nb1 hw107_0 GW118.out) | (dsimp only; first | exact nb2 hw107_0 GW118.out | exact nb1 hw107_0 GW118.out)) _).trans (((cell_far (p := ⟨gb118, _, none⟩) (by first | first | exact nb2 hw107_0 GW118.out | exact nb1 hw107_0 GW118.out | (rw [add_block]; first | exact nb2 hw107_0 GW118.out | exact nb1 hw107_0 GW118.out) | (show (Addr.add _ _).block ≠ _; rw [add_block]; first | exact nb2 hw107_0 GW118.out | exact nb1 hw107_0 GW118.out) | (dsimp only; first | exact nb2 hw107_0 GW118.out | exact nb1 hw107_0 GW118.out)) _).trans (((cell_far (p := ⟨gb118, _, none⟩) (by first | first | exact nb2 hw107_0 GW118.out | exact nb1 hw107_0 GW118.out | (rw [add_block]; first | exact nb2 hw107_0 GW118.out | exact nb1 hw107_0 GW118.out) | (show (Addr.add _ _).block ≠ _; rw [add_block]; first | exact nb2 hw107_0 GW118.out | exact nb1 hw107_0 GW118.out) | (dsimp only; first | exact nb2 hw107_0 GW118.out | exact nb1 hw107_0 GW118.out)) _).trans (((cell_far (p := ⟨gb118, _, none⟩) (by first | first | exact nb2 hw107_0 GW118.out | exact nb1 hw107_0 GW118.out | (rw [add_block]; first | exact nb2 hw107_0 GW118.out | exact nb1 hw107_0 GW118.out) | (show (Addr.add _ _).block ≠ _; rw [add_block]; first | exact nb2 hw107_0 GW118.out | exact nb1 hw107_0 GW118.out) | (dsimp only; first | exact nb2 hw107_0 GW118.out | exact nb1 hw107_0 GW118.out)) _).trans (hHeld.1)))))))))))))))))), ((cell_far (p := ⟨gb118, _, none⟩) (by first | first | exact nb2 hw116_0 GW118.out | exact nb1 hw116_0 GW118.out | (rw [add_block]; first | exact nb2 hw116_0 GW118.out | exact nb1 hw116_0 GW118.out) | (show (Addr.add _ _).block ≠ _; rw [add_block]; first | exact nb2 hw116_0 GW118.out | exact nb1 hw116_0 GW118.out) | (dsimp only; first | exact nb2 hw116_0 GW118.out | exact nb1 hw116_0 GW118.out)) _).trans (((cell_far (p := ⟨gb118, _, none⟩) (by first | first | exact nb2 hw116_0 GW118.out | exact nb1 hw116_0 GW118.out | (rw [add_block]; first | exact nb2 hw116_0 GW118.out | exact nb1 hw116_0 GW118.out) | (show (Addr.add _ _).block ≠ _; rw [add_block]; first | exact nb2 hw116_0 GW118.out | exact nb1 hw116_0 GW118.out) | (dsimp only; first | exact nb2 hw116_0 GW118.out | exact nb1 hw116_0 GW118.out)) _).trans (((cell_far (p := ⟨gb118, _, none⟩) (by first | first | exact nb2 hw116_0 GW118.out | exact nb1 hw116_0 GW118.out | (rw [add_block]; first | exact nb2 hw116_0 GW118.out | exact nb1 hw116_0 GW118.out) | (show (Addr.add _ _).block ≠ _; rw [add_block]; first | exact nb2 hw116_0 GW118.out | exact nb1 hw116_0 GW118.out) | (dsimp only; first | exact nb2 hw116_0 GW118.out | exact nb1 hw116_0 GW118.out)) _).trans (((cell_far (p := ⟨gb118, _, none⟩) (by first | first | exact nb2 hw116_0 GW118.out | exact nb1 hw116_0 GW118.out | (rw [add_block]; first | exact nb2 hw116_0 GW118.out | exact nb1 hw116_0 GW118.out) | (show (Addr.add _ _).block ≠ _; rw [add_block]; first | exact nb2 hw116_0 GW118.out | exact nb1 hw116_0 GW118.out) | (dsimp only; first | exact nb2 hw116_0 GW118.out | exact nb1 hw116_0 GW118.out)) _).trans (((cell_far (p := ⟨gb118, _, none⟩) (by first | first | exact nb2 hw116_0 GW118.out | exact nb1 hw116_0 GW118.out | (rw [add_block]; first | exact nb2 hw116_0 GW118.out | exact nb1 hw116_0 GW118.out) | (show (Addr.add _ _).block ≠ _; rw [add_block]; first | exact nb2 hw116_0 GW118.out | exact nb1 hw116_0 GW118.out) | (dsimp only; first | exact nb2 hw116_0 GW118.out | exact nb1 hw116_0 GW118.out)) _).trans (((cell_far (p := ⟨gb118, _, none⟩) (by first | first | exact nb2 hw116_0 GW118.out | exact nb1 hw116_0 GW118.out | (rw [add_block]; first | exact nb2 hw116_0 GW118.out | exact nb1 hw116_0 GW118.out) | (show (Addr.add _ _).block ≠ _; rw [add_block]; first | exact nb2 hw116_0 GW118.out | exact nb1 hw116_0 GW118.out) | (dsimp only; first | exact nb2 hw116_0 GW118.out | exact nb1 hw116_0 GW118.out)) _).trans (((cell_far (p := ⟨gb118, _, none⟩) (by first | first | exact nb2 hw116_0 GW118.out | exact nb1 hw116_0 GW118.out | (rw [add_block]; first | exact nb2 hw116_0 GW118.out | exact nb1 hw116_0 GW118.out) | (show (Addr.add _ _).block ≠ _; rw [add_block]; first | exact nb2 hw116_0 GW118.out | exact nb1 hw116_0 GW118.out) | (dsimp only; first | exact nb2 hw116_0 GW118.out | exact nb1 hw116_0 GW118.out)) _).trans (((cell_far (p := ⟨gb118, _, none⟩) (by first | first | exact nb2 hw116_0 GW118.out | exact nb1 hw116_0 GW118.out | (rw [add_block]; first | exact nb2 hw116_0 GW118.out | exact nb1 hw116_0 GW118.out) | (show (Addr.add _ _).block ≠ _; rw [add_block]; first | exact nb2 hw116_0 GW118.out | exact nb1 hw116_0 GW118.out) | (dsimp only; first | exact nb2 hw116_0 GW118.out | exact nb1 hw116_0 GW118.out)) _).trans (((cell_far (p := ⟨gb118, _, none⟩) (by first | first | exact nb2 hw116_0 GW118.out | exact nb1 hw116_0 GW118.out | (rw [add_block]; first | exact nb2 hw116_0 GW118.out | exact nb1 hw116_0 GW118.out) | (show (Addr.add _ _).block ≠ _; rw [add_block]; first | exact nb2 hw116_0 GW118.out | exact nb1 hw116_0 GW118.out) | (dsimp only; first | exact nb2 hw116_0 GW118.out | exact nb1 hw116_0 GW118.out)) _).trans (hHeld.2.1)))))))))))))))))), ((cell_far (p := ⟨gb118, _, none⟩) (by first | first | exact nb2 hw117_0 GW118.out | exact nb1 hw117_0 GW118.out | (rw [add_block]; first | exact nb2 hw117_0 GW118.out | exact nb1 hw117_0 GW118.out) | (show (Addr.add _ _).block ≠ _; rw [add_block]; first | exact nb2 hw117_0 GW118.out | exact nb1 hw117_0 GW118.out) | (dsimp only; first | exact nb2 hw117_0 GW118.out | exact nb1 hw117_0 GW118.out)) _).trans (((cell_far (p := ⟨gb118, _, none⟩) (by first | first | exact nb2 hw117_0 GW118.out | exact nb1 hw117_0 GW118.out | (rw [add_block]; first | exact nb2 hw117_0 GW118.out | exact nb1 hw117_0 GW118.out) | (show (Addr.add _ _).block ≠ _; rw [add_block]; first | exact nb2 hw117_0 GW118.out | exact nb1 hw117_0 GW118.out) | (dsimp only; first | exact nb2 hw117_0 GW118.out | exact nb1 hw117_0 GW118.out)) _).trans (((cell_far (p := ⟨gb118, _, none⟩) (by first | first | exact nb2 hw117_0 GW118.out | exact nb1 hw117_0 GW118.out | (rw [add_block]; first | exact nb2 hw117_0 GW118.out | exact nb1 hw117_0 GW118.out) | (show (Addr.add _ _).block ≠ _; rw [add_block]; first | exact nb2 hw117_0 GW118.out | exact nb1 hw117_0 GW118.out) | (dsimp only; first | exact nb2 hw117_0 GW118.out | exact nb1 hw117_0 GW118.out)) _).trans (((cell_far (p := ⟨gb118, _, none⟩) (by first | first | exact nb2 hw117_0 GW118.out | exact nb1 hw117_0 GW118.out | (rw [add_block]; first | exact nb2 hw117_0 GW118.out | exact nb1 hw117_0 GW118.out) | (show (Addr.add _ _).block ≠ _; rw [add_block]; first | exact nb2 hw117_0 GW118.out | exact nb1 hw117_0 GW118.out) | (dsimp only; first | exact nb2 hw117_0 GW118.out | exact nb1 hw117_0 GW118.out)) _).trans (((cell_far (p := ⟨gb118, _, none⟩) (by first | first | exact nb2 hw117_0 GW118.out | exact nb1 hw117_0 GW118.out | (rw [add_block]; first | exact nb2 hw117_0 GW118.out | exact nb1 hw117_0 GW118.out) | (show (Addr.add _ _).block ≠ _; rw [add_block]; first | exact nb2 hw117_0 GW118.out | exact nb1 hw117_0 GW118.out) | (dsimp only; first | exact nb2 hw117_0 GW118.out | exact nb1 hw117_0 GW118.out)) _).trans (((cell_far (p := ⟨gb118, _, none⟩) (by first | first | exact nb2 hw117_0 GW118.out | exact nb1 hw117_0 GW118.out | (rw [add_block]; first | exact nb2 hw117_0 GW118.out | exact nb1 hw117_0 GW118.out) | (show (Addr.add _ _).block ≠ _; rw [add_block]; first | exact nb2 hw117_0 GW118.out | exact nb1 hw117_0 GW118.out) | (dsimp only; first | exact nb2 hw117_0 GW118.out | exact nb1 hw117_0 GW118.out)) _).trans (((cell_far (p := ⟨gb118, _, none⟩) (by first | first | exact nb2 hw117_0 GW118.out | exact nb1 hw117_0 GW118.out | (rw [add_block]; first | exact nb2 hw117_0 GW118.out | exact nb1 hw117_0 GW118.out) | (show (Addr.add _ _).block ≠ _; rw [add_block]; first | exact nb2 hw117_0 GW118.out | exact nb1 hw117_0 GW118.out) | (dsimp only; first | exact nb2 hw117_0 GW118.out | exact nb1 hw117_0 GW118.out)) _).trans (((cell_far (p := ⟨gb118, _, none⟩) (by first | first | exact nb2 hw117_0 GW118.out | exact nb1 hw117_0 GW118.out | (rw [add_block]; first | exact nb2 hw117_0 GW118.out | exact nb1 hw117_0 GW118.out) | (show (Addr.add _ _).block ≠ _; rw [add_block]; first | exact nb2 hw117_0 GW118.out | exact nb1 hw117_0 GW118.out) | (dsimp only; first | exact nb2 hw117_0 GW118.out | exact nb1 hw117_0 GW118.out)) _).trans (((cell_far (p := ⟨gb118, _, none⟩) (by first | first | exact nb2 hw117_0 GW118.out | exact nb1 hw117_0 GW118.out | (rw [add_block]; first | exact nb2 hw117_0 GW118.out | exact nb1 hw117_0 GW118.out) | (show (Addr.add _ _).block ≠ _; rw [add_block]; first | exact nb2 hw117_0 GW118.out | exact nb1 hw117_0 GW118.out) | (dsimp only; first | exact nb2 hw117_0 GW118.out | exact nb1 hw117_0 GW118.out)) _).trans (hHeld.2.2))))))))))))))))))⟩ (fun hHeld => ?_)
      clear hK K
      refine done_ (done_of HT_.out (by kernel_rfl)) ?_
      try go_wp2
      have n0_ : Aside0 ((((((((((w99.setCell ⟨gb118, 0, none⟩ (.int .i64 (wrap64 (rd l0 0)))).setCell ⟨gb118, 1, none⟩ (.int .u32 t109)).setCell ⟨gb118, 2, none⟩ (.int .u32 t111)).setCell ⟨gb118, 3, none⟩ (.int .u32 t113)).setCell ⟨gb118, 4, none⟩ (.int .u32 t115)).setCell ⟨gb118, 5, none⟩ (.int .i64 (wrap64 (rd l0 20)))).setCell ⟨gb118, 6, none⟩ (.bool ((rd l0 1) == 1))).setCell ⟨gb118, 7, none⟩ (.int .u32 0)).setCell ⟨gb118, 8, none⟩ (.int .u16 0)).heap[gb102]? = some (.cells #[.int .i64 0, .int .u32 0, .int .u32 0, .int .u32 0, .int .u32 0, .int .i64 0, .bool false, .int .u32 0, .int .u16 0] 50 (0, 0))) := ⟨by (with_reducible repeat (first | refine blk_drewN ?_ _ | refine blk_drew ?_ | refine blk_alloc ?_ _)); refine blk_far ?_ NB102_118.out _; (with_reducible repeat (first | refine blk_drewN ?_ _ | refine blk_drew ?_ | refine blk_alloc ?_ _)); refine blk_far ?_ NB102_118.out _; (with_reducible repeat (first | refine blk_drewN ?_ _ | refine blk_drew ?_ | refine blk_alloc ?_ _)); refine blk_far ?_ NB102_118.out _; (with_reducible repeat (first | refine blk_drewN ?_ _ | refine blk_drew ?_ | refine blk_alloc ?_ _)); refine blk_far ?_ NB102_118.out _; (with_reducible repeat (first | refine blk_drewN ?_ _ | refine blk_drew ?_ | refine blk_alloc ?_ _)); refine blk_far ?_ NB102_118.out _; (with_reducible repeat (first | refine blk_drewN ?_ _ | refine blk_drew ?_ | refine blk_alloc ?_ _)); refine blk_far ?_ NB102_118.out _; (with_reducible repeat (first | refine blk_drewN ?_ _ | refine blk_drew ?_ | refine blk_alloc ?_ _)); refine blk_far ?_ NB102_118.out _; (with_reducible repeat (first | refine blk_drewN ?_ _ | refine blk_drew ?_ | refine blk_alloc ?_ _)); refine blk_far ?_ NB102_118.out _; (with_reducible repeat (first | refine blk_drewN ?_ _ | refine blk_drew ?_ | refine blk_alloc ?_ _)); refine blk_far ?_ NB102_118.out _; (with_reducible repeat (first | refine blk_drewN ?_ _ | refine blk_drew ?_ | refine blk_alloc ?_ _)); exact BK102.out⟩
      have n1_ : Aside0 ((((((((((w99.setCell ⟨gb118, 0, none⟩ (.int .i64 (wrap64 (rd l0 0)))).setCell ⟨gb118, 1, none⟩ (.int .u32 t109)).setCell ⟨gb118, 2, none⟩ (.int .u32 t111)).setCell ⟨gb118, 3, none⟩ (.int .u32 t113)).setCell ⟨gb118, 4, none⟩ (.int .u32 t115)).setCell ⟨gb118, 5, none⟩ (.int .i64 (wrap64 (rd l0 20)))).setCell ⟨gb118, 6, none⟩ (.bool ((rd l0 1) == 1))).setCell ⟨gb118, 7, none⟩ (.int .u32 0)).setCell ⟨gb118, 8, none⟩ (.int .u16 0)).heap[gb118]? = some (.cells #[.int .i64 (wrap64 (rd l0 0)), .int .u32 t109, .int .u32 t111, .int .u32 t113, .int .u32 t115, .int .i64 (wrap64 (rd l0 20)), .bool ((rd l0 1) == 1), .int .u32 0, .int .u16 0] 50 (0, 0))) := ⟨by (with_reducible repeat (first | refine blk_drewN ?_ _ | refine blk_drew ?_ | refine blk_alloc ?_ _)); refine blk_put (cs := #[.int .i64 (wrap64 (rd l0 0)), .int .u32 t109, .int .u32 t111, .int .u32 t113, .int .u32 t115, .int .i64 (wrap64 (rd l0 20)), .bool ((rd l0 1) == 1), .int .u32 0, .int .u16 0]) ?_ 8 _ rfl; (with_reducible repeat (first | refine blk_drewN ?_ _ | refine blk_drew ?_ | refine blk_alloc ?_ _)); refine blk_put (cs := #[.int .i64 (wrap64 (rd l0 0)), .int .u32 t109, .int .u32 t111, .int .u32 t113, .int .u32 t115, .int .i64 (wrap64 (rd l0 20)), .bool ((rd l0 1) == 1), .int .u32 0, .int .u16 0]) ?_ 7 _ rfl; (with_reducible repeat (first | refine blk_drewN ?_ _ | refine blk_drew ?_ | refine blk_alloc ?_ _)); refine blk_put (cs := #[.int .i64 (wrap64 (rd l0 0)), .int .u32 t109, .int .u32 t111, .int .u32 t113, .int .u32 t115, .int .i64 (wrap64 (rd l0 20)), .bool false, .int .u32 0, .int .u16 0]) ?_ 6 _ rfl; (with_reducible repeat (first | refine blk_drewN ?_ _ | refine blk_drew ?_ | refine blk_alloc ?_ _)); refine blk_put (cs := #[.int .i64 (wrap64 (rd l0 0)), .int .u32 t109, .int .u32 t111, .int .u32 t113, .int .u32 t115, .int .i64 0, .bool false, .int .u32 0, .int .u16 0]) ?_ 5 _ rfl; (with_reducible repeat (first | refine blk_drewN ?_ _ | refine blk_drew ?_ | refine blk_alloc ?_ _)); refine blk_put (cs := #[.int .i64 (wrap64 (rd l0 0)), .int .u32 t109, .int .u32 t111, .int .u32 t113, .int .u32 0, .int .i64 0, .bool false, .int .u32 0, .int .u16 0]) ?_ 4 _ rfl; (with_reducible repeat (first | refine blk_drewN ?_ _ | refine blk_drew ?_ | refine blk_alloc ?_ _)); refine blk_put (cs := #[.int .i64 (wrap64 (rd l0 0)), .int .u32 t109, .int .u32 t111, .int .u32 0, .int .u32 0, .int .i64 0, .bool false, .int .u32 0, .int .u16 0]) ?_ 3 _ rfl; (with_reducible repeat (first | refine blk_drewN ?_ _ | refine blk_drew ?_ | refine blk_alloc ?_ _)); refine blk_put (cs := #[.int .i64 (wrap64 (rd l0 0)), .int .u32 t109, .int .u32 0, .int .u32 0, .int .u32 0, .int .i64 0, .bool false, .int .u32 0, .int .u16 0]) ?_ 2 _ rfl; (with_reducible repeat (first | refine blk_drewN ?_ _ | refine blk_drew ?_ | refine blk_alloc ?_ _)); refine blk_put (cs := #[.int .i64 (wrap64 (rd l0 0)), .int .u32 0, .int .u32 0, .int .u32 0, .int .u32 0, .int .i64 0, .bool false, .int .u32 0, .int .u16 0]) ?_ 1 _ rfl; (with_reducible repeat (first | refine blk_drewN ?_ _ | refine blk_drew ?_ | refine blk_alloc ?_ _)); refine blk_put (cs := #[.int .i64 0, .int .u32 0, .int .u32 0, .int .u32 0, .int .u32 0, .int .i64 0, .bool false, .int .u32 0, .int .u16 0]) ?_ 0 _ rfl; (with_reducible repeat (first | refine blk_drewN ?_ _ | refine blk_drew ?_ | refine blk_alloc ?_ _)); exact BK118.out⟩
      have n2_ : Aside0 (Below w.heap.size w (((((((((w99.setCell ⟨gb118, 0, none⟩ (.int .i64 (wrap64 (rd l0 0)))).setCell ⟨gb118, 1, none⟩ (.int .u32 t109)).setCell ⟨gb118, 2, none⟩ (.int .u32 t111)).setCell ⟨gb118, 3, none⟩ (.int .u32 t113)).setCell ⟨gb118, 4, none⟩ (.int .u32 t115)).setCell ⟨gb118, 5, none⟩ (.int .i64 (wrap64 (rd l0 20)))).setCell ⟨gb118, 6, none⟩ (.bool ((rd l0 1) == 1))).setCell ⟨gb118, 7, none⟩ (.int .u32 0)).setCell ⟨gb118, 8, none⟩ (.int .u16 0))) := ⟨by repeat (first | (with_reducible first | exact HB.out | apply below_alloc | apply pw_below_drewN | apply below_drew1 | refine below_set ?_ GE102.out | refine below_set ?_ GE118.out) | exact HB.out)⟩
      (try clear BK102)
      (try clear BK118)
      (try clear HB)
      generalize (((((((((w99.setCell ⟨gb118, 0, none⟩ (.int .i64 (wrap64 (rd l0 0)))).setCell ⟨gb118, 1, none⟩ (.int .u32 t109)).setCell ⟨gb118, 2, none⟩ (.int .u32 t111)).setCell ⟨gb118, 3, none⟩ (.int .u32 t113)).setCell ⟨gb118, 4, none⟩ (.int .u32 t115)).setCell ⟨gb118, 5, none⟩ (.int .i64 (wrap64 (rd l0 20)))).setCell ⟨gb118, 6, none⟩ (.bool ((rd l0 1) == 1))).setCell ⟨gb118, 7, none⟩ (.int .u32 0)).setCell ⟨gb118, 8, none⟩ (.int .u16 0)) = w109 at n0_ n1_ n2_ ⊢
      have BK102 := n0_
      have BK118 := n1_
      have HB := n2_
      clear n0_ n1_ n2_
      have n0_ := Aside0.mk (blk_drew BK102.out)
      have n1_ := Aside0.mk (blk_drew BK118.out)
      have n2_ := Aside0.mk (below_drew1 HB.out)
      clear BK102
      clear BK118
      clear HB
      have BK102 := n0_
      have BK118 := n1_
      have HB := n2_
      clear n0_ n1_ n2_
      obtain ⟨i0111, hi0111, _, hsz111, _⟩ := info_parts info5
      obtain ⟨A111, hcut111, hA111, hC111⟩ := print_drop_of (P := Try.prog) (Value.int .u8) 0 22 5 .i64 Try.underlying22 hi0111 hsz111 (some ad107) c0 l0 24 (by omega) (of_decide_eq_true (by first | (with_reducible assumption) | assumption)) HC0.out
      have HR119 := Aside0.mk (Kd.C_of_reads (h1 := fun _ => rfl) (hA111 _ (Kd.reads_of_C HR0.out)))
      have HC119 := Aside0.mk hC111
      clear hA111 hC111 hi0111 hsz111
      have p121 : 0 ≤ (2 : Int) := (by omega)
      have q121 : 2 < (l0.length : Int) := of_decide_eq_true (by first | (with_reducible assumption) | assumption)
      obtain ⟨ad121, e121, hx121_0⟩ := Kd.at_int HR0.out 2 p121 q121
      have hw121_0 := hx121_0
      (try rw [show ((2 : Int)).toNat = 2 from rfl] at hw121_0)
      (try rw [show 2 * 1 = 2 from rfl] at hw121_0)
      (try simp only [Nat.reduceMul, Nat.reduceEqDiff, Go.Addr.add, ↓reduceIte] at hw121_0)
      obtain rfl : ad107 = ad121 := (by injection e121)
      (try simp only [show (2 : Int).toNat = 2 from rfl, Nat.reduceMul, Nat.reduceEqDiff, Go.Addr.add, ↓reduceIte] at hx121_0)
      have qi121 : (2 < l0.length) = True := eq_true (by omega)
      (try rw [show ((2 : Int)).toNat = 2 from rfl] at hx121_0)
      replace hx121_0 := (HB.out.cell (World.block_lt_of_cell? w _ hx121_0)).trans hx121_0
      replace p121 := eq_true p121
      replace q121 := eq_true q121
      have p122 : 0 ≤ (3 : Int) := (by omega)
      have q122 : 3 < (l0.length : Int) := of_decide_eq_true (by first | (with_reducible assumption) | assumption)
      obtain ⟨ad122, e122, hx122_0⟩ := Kd.at_int HR0.out 3 p122 q122
      have hw122_0 := hx122_0
      (try rw [show ((3 : Int)).toNat = 3 from rfl] at hw122_0)
      (try rw [show 3 * 1 = 3 from rfl] at hw122_0)
      (try simp only [Nat.reduceMul, Nat.reduceEqDiff, Go.Addr.add, ↓reduceIte] at hw122_0)
      obtain rfl : ad107 = ad122 := (by injection e122)
      (try simp only [show (3 : Int).toNat = 3 from rfl, Nat.reduceMul, Nat.reduceEqDiff, Go.Addr.add, ↓reduceIte] at hx122_0)
      have qi122 : (3 < l0.length) = True := eq_true (by omega)
      (try rw [show ((3 : Int)).toNat = 3 from rfl] at hx122_0)
      replace hx122_0 := (HB.out.cell (World.block_lt_of_cell? w _ hx122_0)).trans hx122_0
      replace p122 := eq_true p122
      replace q122 := eq_true q122
      refine start_ (n := 16) (S := fun w' => w'.cell? ⟨ad107.block, ad107.off + 2, none⟩ = some (.int .u8 (rd l0 2)) ∧ w'.cell? ⟨ad107.block, ad107.off + 3, none⟩ = some (.int .u8 (rd l0 3))) (ds := []) (bA 16 0) (by kernel_rfl) rfl rfl ⟨((HB.out.cell (World.block_lt_of_cell? w _ hw121_0)).trans hw121_0), ((HB.out.cell (World.block_lt_of_cell? w _ hw122_0)).trans hw122_0)⟩ (fun hHeld => ?_); refine with_tabW rec_Of.tab4 rec_Of.bits4 (fun HT_ HW_ => ?_)
      generalize w109.drew = w110 at BK102 BK118 HB HR119 hx121_0 hx122_0 hHeld ⊢
      refine pure_ (i := 0) (N := some 44) (v := ?_) (a' := ?_) (bA 16 1) rfl rfl (any_of HT_.out (by kernel_rfl)) (fun _ _ _ h => h) (Or.inl ⟨by rfl, ?_⟩) ?_ ?_; rotate_left
      · intro w'; go_simp; with_reducible rfl
      rotate_left; · simp only [Act.put, List.setIfInBounds_toArray, List.set_cons_zero, List.set_cons_succ, i64_w, i32_w]; rfl
      refine pure_ (i := 1) (N := some 45) (v := ?_) (a' := ?_) (bA 16 3) rfl rfl (any_of HT_.out (by kernel_rfl)) (fun _ _ _ h => h) (Or.inl ⟨by rfl, ?_⟩) ?_ ?_; rotate_left
      · intro w'; go_simp; with_reducible rfl
      rotate_left; · simp only [Act.put, List.setIfInBounds_toArray, List.set_cons_zero, List.set_cons_succ, i64_w, i32_w]; rfl
      refine pure_ (i := 3) (N := some 47) (v := ?_) (a' := ?_) (bA 16 11) rfl rfl (any_of HT_.out (by kernel_rfl)) (fun _ _ _ h => h) (Or.inl ⟨by rfl, ?_⟩) ?_ ?_; rotate_left
      · intro w'; go_simp; with_reducible rfl
      rotate_left; · simp only [Act.put, List.setIfInBounds_toArray, List.set_cons_zero, List.set_cons_succ, i64_w, i32_w]; rfl
      refine pure_ (i := 4) (N := some 48) (v := ?_) (a' := ?_) (bA 16 27) rfl rfl (any_of HT_.out (by kernel_rfl)) (fun _ _ _ h => h) (Or.inl ⟨by rfl, ?_⟩) ?_ ?_; rotate_left
      · intro w'; go_simp; with_reducible rfl
      rotate_left; · simp only [Act.put, List.setIfInBounds_toArray, List.set_cons_zero, List.set_cons_succ, i64_w, i32_w]; rfl
      refine pure_ (i := 8) (N := some 52) (v := ?_) (a' := ?_) (bA 16 283) rfl rfl (any_of HT_.out (by kernel_rfl)) (fun _ _ _ h => h) (Or.inl ⟨by rfl, ?_⟩) ?_ ?_; rotate_left
      · intro w'; go_simp; with_reducible rfl
      rotate_left; · simp only [Act.put, List.setIfInBounds_toArray, List.set_cons_zero, List.set_cons_succ, i64_w, i32_w]; rfl
      refine pure_ (i := 9) (N := some 53) (v := ?_) (a' := ?_) (bA 16 795) rfl rfl (any_of HT_.out (by kernel_rfl)) (fun _ _ _ h => h) (Or.inl ⟨by rfl, ?_⟩) ?_ ?_; rotate_left
      · intro w'; go_simp; with_reducible rfl
      rotate_left; · simp only [Act.put, List.setIfInBounds_toArray, List.set_cons_zero, List.set_cons_succ, i64_w, i32_w]; rfl
      refine take_ (i := 5) (N := some 49) (v := ?_) (a' := ?_) (bA 16 827) rfl rfl (take_ofW HT_.out HW_.out (by kernel_rfl)) (fun _ _ _ h => h) (Or.inl ⟨by rfl, ?_⟩) hHeld ?_ ?_; rotate_left
      · rintro w' ⟨s0, s1⟩
        go_simp
        with_reducible rfl
      rotate_left
      · simp only [Act.put, List.setIfInBounds_toArray, List.set_cons_zero, List.set_cons_succ, i64_w, i32_w]; rfl
      refine pure_ (i := 6) (N := some 50) (v := ?_) (a' := ?_) (bA 16 891) rfl rfl (any_of HT_.out (by kernel_rfl)) (fun _ _ _ h => h) (Or.inl ⟨by rfl, ?_⟩) ?_ ?_; rotate_left
      · intro w'; go_simp; with_reducible rfl
      rotate_left; · simp only [Act.put, List.setIfInBounds_toArray, List.set_cons_zero, List.set_cons_succ, i64_w, i32_w]; rfl
      refine pure_ (i := 7) (N := some 51) (v := ?_) (a' := ?_) (bA 16 1019) rfl rfl (any_of HT_.out (by kernel_rfl)) (fun _ _ _ h => h) (Or.inl ⟨by rfl, ?_⟩) ?_ ?_; rotate_left
      · intro w'; go_simp; with_reducible rfl
      rotate_left; · simp only [Act.put, List.setIfInBounds_toArray, List.set_cons_zero, List.set_cons_succ, i64_w, i32_w]; rfl
      refine take_ (i := 10) (N := some 54) (v := ?_) (a' := ?_) (bA 16 2043) rfl rfl (take_ofW HT_.out HW_.out (by kernel_rfl)) (fun _ _ _ h => h) (Or.inl ⟨by rfl, ?_⟩) hHeld ?_ ?_; rotate_left
      · rintro w' ⟨s0, s1⟩
        go_simp
        with_reducible rfl
      rotate_left
      · simp only [Act.put, List.setIfInBounds_toArray, List.set_cons_zero, List.set_cons_succ, i64_w, i32_w]; rfl
      refine pure_ (i := 11) (N := some 55) (v := ?_) (a' := ?_) (bA 16 4091) rfl rfl (any_of HT_.out (by kernel_rfl)) (fun _ _ _ h => h) (Or.inl ⟨by rfl, ?_⟩) ?_ ?_; rotate_left
      · intro w'; go_simp; with_reducible rfl
      rotate_left; · simp only [Act.put, List.setIfInBounds_toArray, List.set_cons_zero, List.set_cons_succ, i64_w, i32_w]; rfl
      refine pure_ (i := 12) (N := some 56) (v := ?_) (a' := ?_) (bA 16 8187) rfl rfl (any_of HT_.out (by kernel_rfl)) (fun _ _ _ h => h) (Or.inl ⟨by rfl, ?_⟩) ?_ ?_; rotate_left
      · intro w'; go_simp; with_reducible rfl
      rotate_left; · simp only [Act.put, List.setIfInBounds_toArray, List.set_cons_zero, List.set_cons_succ, i64_w, i32_w]; rfl
      refine one_ (i := 2) (N := some 46) (bA 16 8191) rfl rfl (one_of HT_.out (by kernel_rfl)) (by decide) (fun K hK => ?_)
      refine goes_ Try.func52 (by kernel_rfl) rfl #[.slice A111 (l0.drop 24).length (c0 - 24)] (by rfl) rfl rfl (by (try simp only [List.map_toArray, List.map_cons, List.map_nil]); first | done | (rw [show (l0.drop 24).length = (l0.length - 24) from List.length_drop] <;> rfl) | rfl | (simp only [List.length_drop, List.length_take]; rfl)) ?_
      with_reducible refine (rec_get.calls0 _ _ (l0.drop 24) t120 _ ?side1 ?side2 A27.out).mono ?_
      (case side1 => repeat (first | exact (Kd.C_below HR119.out HB.out) | (with_reducible refine Kd.C_alloc ?_ _) | (with_reducible refine Kd.C_drewN ?_ _) | (with_reducible refine Kd.C_drew ?_)))
      (case side2 => exact HC119.out)
      rintro e w' ⟨rfl, rfl⟩
      refine ⟨_, rfl, ?_⟩
      refine hK.out _ _ ⟨((HB.out.cell (World.block_lt_of_cell? w _ hw121_0)).trans hw121_0), ((HB.out.cell (World.block_lt_of_cell? w _ hw122_0)).trans hw122_0)⟩ (fun hHeld => ?_)
      clear hK K
      refine norm_ (a' := ?_) ?_ ?_
      rotate_left
      · show Act.put _ (some 46) _ = _
        simp only [Act.put, List.setIfInBounds_toArray, List.set_cons_zero, List.set_cons_succ, i64_w, i32_w]
        rfl
      refine pure_ (i := 13) (N := some 57) (v := ?_) (a' := ?_) (bA 16 16383) rfl rfl (any_of HT_.out (by kernel_rfl)) (fun _ _ _ h => h) (Or.inl ⟨by rfl, ?_⟩) ?_ ?_; rotate_left
      · intro w'; go_simp; with_reducible rfl
      rotate_left; · simp only [Act.put, List.setIfInBounds_toArray, List.set_cons_zero, List.set_cons_succ, i64_w, i32_w]; rfl
      refine pure_ (i := 14) (N := some 58) (v := ?_) (a' := ?_) (bA 16 32767) rfl rfl (any_of HT_.out (by kernel_rfl)) (fun _ _ _ h => h) (Or.inl ⟨by rfl, ?_⟩) ?_ ?_; rotate_left
      · intro w'; go_simp; with_reducible rfl
      rotate_left; · simp only [Act.put, List.setIfInBounds_toArray, List.set_cons_zero, List.set_cons_succ, i64_w, i32_w]; rfl
      refine one_ (i := 15) (N := none) (bA 16 65535) rfl rfl (one_of HT_.out (by kernel_rfl)) (by decide) (fun K hK => ?_)
      have hs112 : w110.cell? ⟨gb118, 7, none⟩ = some (.int .u32 0) := (blk_cell BK118.out 7).trans rfl
      have hfs112 := blk_frozen BK118.out 7
      have hns112_0 := NB102_118.out
      have hms112_0 := NB118_102.out
      have hs113 : w110.cell? ⟨gb118, 8, none⟩ = some (.int .u16 0) := (blk_cell BK118.out 8).trans rfl
      have hfs113 := blk_frozen BK118.out 8
      have hns113_0 := NB102_118.out
      have hms113_0 := NB118_102.out
      refine skip_ (w1 := ?_) (by rfl) rfl ?_ ?_
      rotate_left
      · go_simp
        rfl
      refine hK.out _ _ ⟨((cell_far (p := ⟨gb118, _, none⟩) (by first | first | exact nb2 hw121_0 GW118.out | exact nb1 hw121_0 GW118.out | (rw [add_block]; first | exact nb2 hw121_0 GW118.out | exact nb1 hw121_0 GW118.out) | (show (Addr.add _ _).block ≠ _; rw [add_block]; first | exact nb2 hw121_0 GW118.out | exact nb1 hw121_0 GW118.out) | (dsimp only; first | exact nb2 hw121_0 GW118.out | exact nb1 hw121_0 GW118.out)) _).trans (((cell_far (p := ⟨gb118, _, none⟩) (by first | first | exact nb2 hw121_0 GW118.out | exact nb1 hw121_0 GW118.out | (rw [add_block]; first | exact nb2 hw121_0 GW118.out | exact nb1 hw121_0 GW118.out) | (show (Addr.add _ _).block ≠ _; rw [add_block]; first | exact nb2 hw121_0 GW118.out | exact nb1 hw121_0 GW118.out) | (dsimp only; first | exact nb2 hw121_0 GW118.out | exact nb1 hw121_0 GW118.out)) _).trans (hHeld.1)))), ((cell_far (p := ⟨gb118, _, none⟩) (by first | first | exact nb2 hw122_0 GW118.out | exact nb1 hw122_0 GW118.out | (rw [add_block]; first | exact nb2 hw122_0 GW118.out | exact nb1 hw122_0 GW118.out) | (show (Addr.add _ _).block ≠ _; rw [add_block]; first | exact nb2 hw122_0 GW118.out | exact nb1 hw122_0 GW118.out) | (dsimp only; first | exact nb2 hw122_0 GW118.out | exact nb1 hw122_0 GW118.out)) _).trans (((cell_far (p := ⟨gb118, _, none⟩) (by first | first | exact nb2 hw122_0 GW118.out | exact nb1 hw122_0 GW118.out | (rw [add_block]; first | exact nb2 hw122_0 GW118.out | exact nb1 hw122_0 GW118.out) | (show (Addr.add _ _).block ≠ _; rw [add_block]; first | exact nb2 hw122_0 GW118.out | exact nb1 hw122_0 GW118.out) | (dsimp only; first | exact nb2 hw122_0 GW118.out | exact nb1 hw122_0 GW118.out)) _).trans (hHeld.2))))⟩ (fun hHeld => ?_)
      clear hK K
      refine done_ (done_of HT_.out (by kernel_rfl)) ?_
      by_cases c31 : t123 = true
      case neg =>
        replace c31 := Bool.eq_false_iff.mpr c31
        subst c31
        have H1 : (some (0, 0, 0, 0, 0, 0, false, 0, 0, false)) = some (r1, r2, r3, r4, r5, r6, r7, r8, r9, r10) := by rw [if_neg (show ¬ (false = true) by decide)] at H; exact H
        clear H
        have H := H1
        clear H1
        simp only [Option.some.injEq, Prod.mk.injEq] at H
        obtain ⟨rfl, rfl, rfl, rfl, rfl, rfl, rfl, rfl, rfl, rfl⟩ := H
        try go_wp2
        have n0_ : Aside0 (((w110.setCell ⟨gb118, 7, none⟩ (.int .u32 t120)).setCell ⟨gb118, 8, none⟩ (.int .u16 (Go.bits .or .u16 (IntKind.u16.wrap ((IntKind.u16.wrap (rd l0 2)) * 256)) (IntKind.u16.wrap (rd l0 3))))).heap[gb102]? = some (.cells #[.int .i64 0, .int .u32 0, .int .u32 0, .int .u32 0, .int .u32 0, .int .i64 0, .bool false, .int .u32 0, .int .u16 0] 50 (0, 0))) := ⟨by (with_reducible repeat (first | refine blk_drewN ?_ _ | refine blk_drew ?_ | refine blk_alloc ?_ _)); refine blk_far ?_ NB102_118.out _; (with_reducible repeat (first | refine blk_drewN ?_ _ | refine blk_drew ?_ | refine blk_alloc ?_ _)); refine blk_far ?_ NB102_118.out _; (with_reducible repeat (first | refine blk_drewN ?_ _ | refine blk_drew ?_ | refine blk_alloc ?_ _)); exact BK102.out⟩
        have n1_ : Aside0 (((w110.setCell ⟨gb118, 7, none⟩ (.int .u32 t120)).setCell ⟨gb118, 8, none⟩ (.int .u16 (Go.bits .or .u16 (IntKind.u16.wrap ((IntKind.u16.wrap (rd l0 2)) * 256)) (IntKind.u16.wrap (rd l0 3))))).heap[gb118]? = some (.cells #[.int .i64 (wrap64 (rd l0 0)), .int .u32 t109, .int .u32 t111, .int .u32 t113, .int .u32 t115, .int .i64 (wrap64 (rd l0 20)), .bool ((rd l0 1) == 1), .int .u32 t120, .int .u16 (Go.bits .or .u16 (IntKind.u16.wrap ((IntKind.u16.wrap (rd l0 2)) * 256)) (IntKind.u16.wrap (rd l0 3)))] 50 (0, 0))) := ⟨by (with_reducible repeat (first | refine blk_drewN ?_ _ | refine blk_drew ?_ | refine blk_alloc ?_ _)); refine blk_put (cs := #[.int .i64 (wrap64 (rd l0 0)), .int .u32 t109, .int .u32 t111, .int .u32 t113, .int .u32 t115, .int .i64 (wrap64 (rd l0 20)), .bool ((rd l0 1) == 1), .int .u32 t120, .int .u16 0]) ?_ 8 _ rfl; (with_reducible repeat (first | refine blk_drewN ?_ _ | refine blk_drew ?_ | refine blk_alloc ?_ _)); refine blk_put (cs := #[.int .i64 (wrap64 (rd l0 0)), .int .u32 t109, .int .u32 t111, .int .u32 t113, .int .u32 t115, .int .i64 (wrap64 (rd l0 20)), .bool ((rd l0 1) == 1), .int .u32 0, .int .u16 0]) ?_ 7 _ rfl; (with_reducible repeat (first | refine blk_drewN ?_ _ | refine blk_drew ?_ | refine blk_alloc ?_ _)); exact BK118.out⟩
        have n2_ : Aside0 (Below w.heap.size w ((w110.setCell ⟨gb118, 7, none⟩ (.int .u32 t120)).setCell ⟨gb118, 8, none⟩ (.int .u16 (Go.bits .or .u16 (IntKind.u16.wrap ((IntKind.u16.wrap (rd l0 2)) * 256)) (IntKind.u16.wrap (rd l0 3)))))) := ⟨by repeat (first | (with_reducible first | exact HB.out | apply below_alloc | apply pw_below_drewN | apply below_drew1 | refine below_set ?_ GE102.out | refine below_set ?_ GE118.out) | exact HB.out)⟩
        (try clear BK102)
        (try clear BK118)
        (try clear HB)
        generalize ((w110.setCell ⟨gb118, 7, none⟩ (.int .u32 t120)).setCell ⟨gb118, 8, none⟩ (.int .u16 (Go.bits .or .u16 (IntKind.u16.wrap ((IntKind.u16.wrap (rd l0 2)) * 256)) (IntKind.u16.wrap (rd l0 3))))) = w114 at n0_ n1_ n2_ ⊢
        have BK102 := n0_
        have BK118 := n1_
        have HB := n2_
        clear n0_ n1_ n2_
        (try (rw [drewN_self w114]; generalize hq_ : World.drewN w114 _ = w114; have n0_ : Aside0 (w114.heap[gb102]? = some (.cells #[.int .i64 0, .int .u32 0, .int .u32 0, .int .u32 0, .int .u32 0, .int .i64 0, .bool false, .int .u32 0, .int .u16 0] 50 (0, 0))) := ⟨by rw [← hq_]; exact (by (with_reducible repeat (first | refine blk_drewN ?_ _ | refine blk_drew ?_ | refine blk_alloc ?_ _)); exact BK102.out)⟩; have n1_ : Aside0 (w114.heap[gb118]? = some (.cells #[.int .i64 (wrap64 (rd l0 0)), .int .u32 t109, .int .u32 t111, .int .u32 t113, .int .u32 t115, .int .i64 (wrap64 (rd l0 20)), .bool ((rd l0 1) == 1), .int .u32 t120, .int .u16 (Go.bits .or .u16 (IntKind.u16.wrap ((IntKind.u16.wrap (rd l0 2)) * 256)) (IntKind.u16.wrap (rd l0 3)))] 50 (0, 0))) := ⟨by rw [← hq_]; exact (by (with_reducible repeat (first | refine blk_drewN ?_ _ | refine blk_drew ?_ | refine blk_alloc ?_ _)); exact BK118.out)⟩; have n2_ : Aside0 (Below w.heap.size w w114) := ⟨by rw [← hq_]; exact (by repeat (first | (with_reducible first | exact HB.out | apply below_alloc | apply pw_below_drewN | apply below_drew1 | refine below_set ?_ GE102.out | refine below_set ?_ GE118.out) | exact HB.out))⟩; clear BK102 BK118 HB hq_; have BK102 := n0_; have BK118 := n1_; have HB := n2_; clear n0_ n1_ n2_))
        have n0_ := Aside0.mk (blk_drew BK102.out)
        have n1_ := Aside0.mk (blk_drew BK118.out)
        have n2_ := Aside0.mk (below_drew1 HB.out)
        clear BK102
        clear BK118
        clear HB
        have BK102 := n0_
        have BK118 := n1_
        have HB := n2_
        clear n0_ n1_ n2_
        refine start_ (n := 11) (S := fun w' => w'.cell? ⟨gb118, 0, none⟩ = some (.int .i64 (wrap64 (rd l0 0))) ∧ w'.cell? ⟨gb118, 1, none⟩ = some (.int .u32 t109) ∧ w'.cell? ⟨gb118, 2, none⟩ = some (.int .u32 t111) ∧ w'.cell? ⟨gb118, 3, none⟩ = some (.int .u32 t113) ∧ w'.cell? ⟨gb118, 4, none⟩ = some (.int .u32 t115) ∧ w'.cell? ⟨gb118, 5, none⟩ = some (.int .i64 (wrap64 (rd l0 20))) ∧ w'.cell? ⟨gb118, 6, none⟩ = some (.bool ((rd l0 1) == 1)) ∧ w'.cell? ⟨gb118, 7, none⟩ = some (.int .u32 t120) ∧ w'.cell? ⟨gb118, 8, none⟩ = some (.int .u16 (Go.bits .or .u16 (IntKind.u16.wrap ((IntKind.u16.wrap (rd l0 2)) * 256)) (IntKind.u16.wrap (rd l0 3))))) (ds := []) (bA 11 0) (by kernel_rfl) rfl rfl ⟨(blk_cell BK118.out 0).trans rfl, (blk_cell BK118.out 1).trans rfl, (blk_cell BK118.out 2).trans rfl, (blk_cell BK118.out 3).trans rfl, (blk_cell BK118.out 4).trans rfl, (blk_cell BK118.out 5).trans rfl, (blk_cell BK118.out 6).trans rfl, (blk_cell BK118.out 7).trans rfl, (blk_cell BK118.out 8).trans rfl⟩ (fun hHeld => ?_); refine with_tabW rec_Of.tab5 rec_Of.bits5 (fun HT_ HW_ => ?_)
        generalize w114.drew = w115 at BK102 BK118 HB hHeld ⊢
        refine take_ (i := 0) (N := some 59) (v := ?_) (a' := ?_) (bA 11 1) rfl rfl (take_ofW HT_.out HW_.out (by kernel_rfl)) (fun _ _ _ h => h) (Or.inl ⟨by rfl, ?_⟩) hHeld ?_ ?_; rotate_left
        · rintro w' ⟨s0, s1, s2, s3, s4, s5, s6, s7, s8⟩
          go_simp
          with_reducible rfl
        rotate_left
        · simp only [Act.put, List.setIfInBounds_toArray, List.set_cons_zero, List.set_cons_succ, i64_w, i32_w]; rfl
        refine one_ (i := 1) (N := some 60) (bA 11 3) rfl rfl (one_of HT_.out (by kernel_rfl)) (by decide) (fun K hK => ?_)
        refine goes_ Try.func28 (by kernel_rfl) rfl #[.agg #[.int .i64 (wrap64 (rd l0 0)), .int .u32 t109, .int .u32 t111, .int .u32 t113, .int .u32 t115, .int .i64 (wrap64 (rd l0 20)), .bool ((rd l0 1) == 1), .int .u32 t120, .int .u16 (Go.bits .or .u16 (IntKind.u16.wrap ((IntKind.u16.wrap (rd l0 2)) * 256)) (IntKind.u16.wrap (rd l0 3)))]] (by rfl) rfl rfl (by (try simp only [List.map_toArray, List.map_cons, List.map_nil]); first | done | rfl | (simp only [List.length_drop, List.length_take]; rfl)) ?_
        with_reducible refine (rec_Rec_Right.calls (wrap64 (rd l0 0)) t109 t111 t113 t115 (wrap64 (rd l0 20)) ((rd l0 1) == 1) t120 (Go.bits .or .u16 (IntKind.u16.wrap ((IntKind.u16.wrap (rd l0 2)) * 256)) (IntKind.u16.wrap (rd l0 3))) false _ A30.out).mono ?_
        rintro e w116 ⟨rfl, hb⟩
        refine ⟨_, rfl, ?_⟩
        have n0_ := Aside0.mk (blk_below (g := gb102) (o := .cells #[.int .i64 0, .int .u32 0, .int .u32 0, .int .u32 0, .int .u32 0, .int .i64 0, .bool false, .int .u32 0, .int .u16 0] 50 (0, 0)) (by (with_reducible repeat (first | refine blk_drewN ?_ _ | refine blk_drew ?_ | refine blk_alloc ?_ _)); exact BK102.out) hb)
        have n1_ := Aside0.mk (blk_below (g := gb118) (o := .cells #[.int .i64 (wrap64 (rd l0 0)), .int .u32 t109, .int .u32 t111, .int .u32 t113, .int .u32 t115, .int .i64 (wrap64 (rd l0 20)), .bool ((rd l0 1) == 1), .int .u32 t120, .int .u16 (Go.bits .or .u16 (IntKind.u16.wrap ((IntKind.u16.wrap (rd l0 2)) * 256)) (IntKind.u16.wrap (rd l0 3)))] 50 (0, 0)) (by (with_reducible repeat (first | refine blk_drewN ?_ _ | refine blk_drew ?_ | refine blk_alloc ?_ _)); exact BK118.out) hb)
        have n2_ := Aside0.mk (below_step (by repeat (first | (with_reducible first | exact HB.out | apply below_alloc | apply pw_below_drewN | apply below_drew1 | refine below_set ?_ GE102.out | refine below_set ?_ GE118.out) | exact HB.out)) hb)
        clear BK102
        clear BK118
        clear HB
        have BK102 := n0_
        have BK118 := n1_
        have HB := n2_
        clear n0_ n1_ n2_
        (try clear hb)
        (try clear hb2)
        (try clear hk)
        (try clear hi)
        refine hK.out _ _ ⟨(blk_cell BK118.out 0).trans rfl, (blk_cell BK118.out 1).trans rfl, (blk_cell BK118.out 2).trans rfl, (blk_cell BK118.out 3).trans rfl, (blk_cell BK118.out 4).trans rfl, (blk_cell BK118.out 5).trans rfl, (blk_cell BK118.out 6).trans rfl, (blk_cell BK118.out 7).trans rfl, (blk_cell BK118.out 8).trans rfl⟩ (fun hHeld => ?_)
        clear hK K
        refine norm_ (a' := ?_) ?_ ?_
        rotate_left
        · show Act.put _ (some 60) _ = _
          simp only [Act.put, List.setIfInBounds_toArray, List.set_cons_zero, List.set_cons_succ, i64_w, i32_w]
          rfl
        refine pure_ (i := 2) (N := some 61) (v := ?_) (a' := ?_) (bA 11 7) rfl rfl (any_of HT_.out (by kernel_rfl)) (fun _ _ _ h => h) (Or.inl ⟨by rfl, ?_⟩) ?_ ?_; rotate_left
        · intro w'; go_simp; with_reducible rfl
        rotate_left; · simp only [Act.put, List.setIfInBounds_toArray, List.set_cons_zero, List.set_cons_succ, i64_w, i32_w]; rfl
        refine pure_ (i := 3) (N := some 62) (v := ?_) (a' := ?_) (bA 11 15) rfl rfl (any_of HT_.out (by kernel_rfl)) (fun _ _ _ h => h) (Or.inl ⟨by rfl, ?_⟩) ?_ ?_; rotate_left
        · intro w'; go_simp; with_reducible rfl
        rotate_left; · simp only [Act.put, List.setIfInBounds_toArray, List.set_cons_zero, List.set_cons_succ, i64_w, i32_w]; rfl
        refine pure_ (i := 4) (N := some 63) (v := undef) (a' := ?_) (bA 11 31) rfl rfl (any_of HT_.out (by kernel_rfl)) (fun _ _ _ h => h) (Or.inr ⟨by rfl, rfl⟩) ?_ ?_; rotate_left
        · simp only [Act.put, List.setIfInBounds_toArray, List.set_cons_zero, List.set_cons_succ, i64_w, i32_w]; rfl
        refine pure_ (i := 5) (N := some 64) (v := undef) (a' := ?_) (bA 11 63) rfl rfl (any_of HT_.out (by kernel_rfl)) (fun _ _ _ h => h) (Or.inr ⟨by rfl, rfl⟩) ?_ ?_; rotate_left
        · simp only [Act.put, List.setIfInBounds_toArray, List.set_cons_zero, List.set_cons_succ, i64_w, i32_w]; rfl
        refine pure_ (i := 6) (N := some 65) (v := undef) (a' := ?_) (bA 11 127) rfl rfl (any_of HT_.out (by kernel_rfl)) (fun _ _ _ h => h) (Or.inr ⟨by rfl, rfl⟩) ?_ ?_; rotate_left
        · simp only [Act.put, List.setIfInBounds_toArray, List.set_cons_zero, List.set_cons_succ, i64_w, i32_w]; rfl
        refine pure_ (i := 7) (N := some 66) (v := undef) (a' := ?_) (bA 11 255) rfl rfl (any_of HT_.out (by kernel_rfl)) (fun _ _ _ h => h) (Or.inr ⟨by rfl, rfl⟩) ?_ ?_; rotate_left
        · simp only [Act.put, List.setIfInBounds_toArray, List.set_cons_zero, List.set_cons_succ, i64_w, i32_w]; rfl
        refine pure_ (i := 8) (N := some 67) (v := undef) (a' := ?_) (bA 11 511) rfl rfl (any_of HT_.out (by kernel_rfl)) (fun _ _ _ h => h) (Or.inr ⟨by rfl, rfl⟩) ?_ ?_; rotate_left
        · simp only [Act.put, List.setIfInBounds_toArray, List.set_cons_zero, List.set_cons_succ, i64_w, i32_w]; rfl
        refine pure_ (i := 9) (N := some 68) (v := undef) (a' := ?_) (bA 11 1023) rfl rfl (any_of HT_.out (by kernel_rfl)) (fun _ _ _ h => h) (Or.inr ⟨by rfl, rfl⟩) ?_ ?_; rotate_left
        · simp only [Act.put, List.setIfInBounds_toArray, List.set_cons_zero, List.set_cons_succ, i64_w, i32_w]; rfl
        refine pure_ (i := 10) (N := some 69) (v := ?_) (a' := ?_) (bA 11 2047) rfl rfl (any_of HT_.out (by kernel_rfl)) (fun _ _ _ h => h) (Or.inl ⟨by rfl, ?_⟩) ?_ ?_; rotate_left
        · intro w'; go_simp; with_reducible rfl
        rotate_left; · simp only [Act.put, List.setIfInBounds_toArray, List.set_cons_zero, List.set_cons_succ, i64_w, i32_w]; rfl
        refine done_ (done_of HT_.out (by kernel_rfl)) ?_
        have hnb117 := NB102_118.out
        have hnc117 := NB118_102.out
        have hcz118_0 : w116.cell? ⟨gb102, 0, none⟩ = some (.int .i64 0) := (blk_cell BK102.out 0).trans rfl
        have hcz118_1 : w116.cell? ⟨gb102, 1, none⟩ = some (.int .u32 0) := (blk_cell BK102.out 1).trans rfl
        have hcz118_2 : w116.cell? ⟨gb102, 2, none⟩ = some (.int .u32 0) := (blk_cell BK102.out 2).trans rfl
        have hcz118_3 : w116.cell? ⟨gb102, 3, none⟩ = some (.int .u32 0) := (blk_cell BK102.out 3).trans rfl
        have hcz118_4 : w116.cell? ⟨gb102, 4, none⟩ = some (.int .u32 0) := (blk_cell BK102.out 4).trans rfl
        have hcz118_5 : w116.cell? ⟨gb102, 5, none⟩ = some (.int .i64 0) := (blk_cell BK102.out 5).trans rfl
        have hcz118_6 : w116.cell? ⟨gb102, 6, none⟩ = some (.bool false) := (blk_cell BK102.out 6).trans rfl
        have hcz118_7 : w116.cell? ⟨gb102, 7, none⟩ = some (.int .u32 0) := (blk_cell BK102.out 7).trans rfl
        have hcz118_8 : w116.cell? ⟨gb102, 8, none⟩ = some (.int .u16 0) := (blk_cell BK102.out 8).trans rfl
        have hfz118_0 := blk_frozen BK102.out 0
        have hfz118_1 := blk_frozen BK102.out 1
        have hfz118_2 := blk_frozen BK102.out 2
        have hfz118_3 := blk_frozen BK102.out 3
        have hfz118_4 := blk_frozen BK102.out 4
        have hfz118_5 := blk_frozen BK102.out 5
        have hfz118_6 := blk_frozen BK102.out 6
        have hfz118_7 := blk_frozen BK102.out 7
        have hfz118_8 := blk_frozen BK102.out 8
        try go_wp2
        refine bodyPost_ret (results_ct rfl _ _ gb102 50 #[.int .i64 0, .int .u32 0, .int .u32 0, .int .u32 0, .int .u32 0, .int .i64 0, .bool false, .int .u32 0, .int .u16 0] (0, 0) _ rfl (by (with_reducible repeat (first | refine blk_drewN ?_ _ | refine blk_drew ?_ | refine blk_alloc ?_ _)); refine blk_put (cs := #[.int .i64 0, .int .u32 0, .int .u32 0, .int .u32 0, .int .u32 0, .int .i64 0, .bool false, .int .u32 0, .int .u16 0]) ?_ 8 _ rfl; (with_reducible repeat (first | refine blk_drewN ?_ _ | refine blk_drew ?_ | refine blk_alloc ?_ _)); refine blk_put (cs := #[.int .i64 0, .int .u32 0, .int .u32 0, .int .u32 0, .int .u32 0, .int .i64 0, .bool false, .int .u32 0, .int .u16 0]) ?_ 7 _ rfl; (with_reducible repeat (first | refine blk_drewN ?_ _ | refine blk_drew ?_ | refine blk_alloc ?_ _)); refine blk_put (cs := #[.int .i64 0, .int .u32 0, .int .u32 0, .int .u32 0, .int .u32 0, .int .i64 0, .bool false, .int .u32 0, .int .u16 0]) ?_ 6 _ rfl; (with_reducible repeat (first | refine blk_drewN ?_ _ | refine blk_drew ?_ | refine blk_alloc ?_ _)); refine blk_put (cs := #[.int .i64 0, .int .u32 0, .int .u32 0, .int .u32 0, .int .u32 0, .int .i64 0, .bool false, .int .u32 0, .int .u16 0]) ?_ 5 _ rfl; (with_reducible repeat (first | refine blk_drewN ?_ _ | refine blk_drew ?_ | refine blk_alloc ?_ _)); refine blk_put (cs := #[.int .i64 0, .int .u32 0, .int .u32 0, .int .u32 0, .int .u32 0, .int .i64 0, .bool false, .int .u32 0, .int .u16 0]) ?_ 4 _ rfl; (with_reducible repeat (first | refine blk_drewN ?_ _ | refine blk_drew ?_ | refine blk_alloc ?_ _)); refine blk_put (cs := #[.int .i64 0, .int .u32 0, .int .u32 0, .int .u32 0, .int .u32 0, .int .i64 0, .bool false, .int .u32 0, .int .u16 0]) ?_ 3 _ rfl; (with_reducible repeat (first | refine blk_drewN ?_ _ | refine blk_drew ?_ | refine blk_alloc ?_ _)); refine blk_put (cs := #[.int .i64 0, .int .u32 0, .int .u32 0, .int .u32 0, .int .u32 0, .int .i64 0, .bool false, .int .u32 0, .int .u16 0]) ?_ 2 _ rfl; (with_reducible repeat (first | refine blk_drewN ?_ _ | refine blk_drew ?_ | refine blk_alloc ?_ _)); refine blk_put (cs := #[.int .i64 0, .int .u32 0, .int .u32 0, .int .u32 0, .int .u32 0, .int .i64 0, .bool false, .int .u32 0, .int .u16 0]) ?_ 1 _ rfl; (with_reducible repeat (first | refine blk_drewN ?_ _ | refine blk_drew ?_ | refine blk_alloc ?_ _)); refine blk_put (cs := #[.int .i64 0, .int .u32 0, .int .u32 0, .int .u32 0, .int .u32 0, .int .i64 0, .bool false, .int .u32 0, .int .u16 0]) ?_ 0 _ rfl; (with_reducible repeat (first | refine blk_drewN ?_ _ | refine blk_drew ?_ | refine blk_alloc ?_ _)); exact BK102.out) Try.underlying50 rfl (by kernel_rfl)) rfl ?_
        exact ⟨by first | rfl | (simp [errW_none, errW_some] <;> rfl) | (simp [*, errW_none, errW_some] <;> rfl), by repeat (first | (with_reducible first | exact HB.out | apply below_alloc | apply pw_below_drewN | apply below_drew1 | refine below_set ?_ GE102.out | refine below_set ?_ GE118.out) | exact HB.out)⟩
      subst c31
      have H1 : ((rec_Rec_Sector.f (wrap64 (rd l0 0)) t109 t111 t113 t115 (wrap64 (rd l0 20)) ((rd l0 1) == 1) t120 (Go.bits .or .u16 (IntKind.u16.wrap ((IntKind.u16.wrap (rd l0 2)) * 256)) (IntKind.u16.wrap (rd l0 3)))).bind fun t124 => (if (strOfNums t124).toList = (strOfNums l0).toList then (some (wrap64 (rd l0 0), t109, t111, t113, t115, wrap64 (rd l0 20), ((rd l0 1) == 1), t120, Go.bits .or .u16 (IntKind.u16.wrap ((IntKind.u16.wrap (rd l0 2)) * 256)) (IntKind.u16.wrap (rd l0 3)), true)) else (some (0, 0, 0, 0, 0, 0, false, 0, 0, false)))) = some (r1, r2, r3, r4, r5, r6, r7, r8, r9, r10) := by rw [if_pos rfl] at H; exact H
      clear H
      have H := H1
      clear H1
      replace H := Option.bind_eq_some_iff.mp H
      obtain ⟨t124, A320, H⟩ := H
      replace H : (if (strOfNums t124).toList = (strOfNums l0).toList then (some (wrap64 (rd l0 0), t109, t111, t113, t115, wrap64 (rd l0 20), ((rd l0 1) == 1), t120, Go.bits .or .u16 (IntKind.u16.wrap ((IntKind.u16.wrap (rd l0 2)) * 256)) (IntKind.u16.wrap (rd l0 3)), true)) else (some (0, 0, 0, 0, 0, 0, false, 0, 0, false))) = some (r1, r2, r3, r4, r5, r6, r7, r8, r9, r10) := H
      have A32 := Aside0.mk A320
      clear A320
      by_cases c33 : (strOfNums t124).toList = (strOfNums l0).toList
      case neg =>
        rw [if_neg c33] at H; have c33b0 : ((strOfNums t124).toList == (strOfNums l0).toList) = false := beq_eq_false_iff_ne.mpr c33
        have c33b1 : ((strOfNums t124).toList != (strOfNums l0).toList) = true := bne_iff_ne.mpr c33
        simp only [Option.some.injEq, Prod.mk.injEq] at H
        obtain ⟨rfl, rfl, rfl, rfl, rfl, rfl, rfl, rfl, rfl, rfl⟩ := H
        try go_wp2
        have n0_ : Aside0 (((w110.setCell ⟨gb118, 7, none⟩ (.int .u32 t120)).setCell ⟨gb118, 8, none⟩ (.int .u16 (Go.bits .or .u16 (IntKind.u16.wrap ((IntKind.u16.wrap (rd l0 2)) * 256)) (IntKind.u16.wrap (rd l0 3))))).heap[gb102]? = some (.cells #[.int .i64 0, .int .u32 0, .int .u32 0, .int .u32 0, .int .u32 0, .int .i64 0, .bool false, .int .u32 0, .int .u16 0] 50 (0, 0))) := ⟨by (with_reducible repeat (first | refine blk_drewN ?_ _ | refine blk_drew ?_ | refine blk_alloc ?_ _)); refine blk_far ?_ NB102_118.out _; (with_reducible repeat (first | refine blk_drewN ?_ _ | refine blk_drew ?_ | refine blk_alloc ?_ _)); refine blk_far ?_ NB102_118.out _; (with_reducible repeat (first | refine blk_drewN ?_ _ | refine blk_drew ?_ | refine blk_alloc ?_ _)); exact BK102.out⟩
        have n1_ : Aside0 (((w110.setCell ⟨gb118, 7, none⟩ (.int .u32 t120)).setCell ⟨gb118, 8, none⟩ (.int .u16 (Go.bits .or .u16 (IntKind.u16.wrap ((IntKind.u16.wrap (rd l0 2)) * 256)) (IntKind.u16.wrap (rd l0 3))))).heap[gb118]? = some (.cells #[.int .i64 (wrap64 (rd l0 0)), .int .u32 t109, .int .u32 t111, .int .u32 t113, .int .u32 t115, .int .i64 (wrap64 (rd l0 20)), .bool ((rd l0 1) == 1), .int .u32 t120, .int .u16 (Go.bits .or .u16 (IntKind.u16.wrap ((IntKind.u16.wrap (rd l0 2)) * 256)) (IntKind.u16.wrap (rd l0 3)))] 50 (0, 0))) := ⟨by (with_reducible repeat (first | refine blk_drewN ?_ _ | refine blk_drew ?_ | refine blk_alloc ?_ _)); refine blk_put (cs := #[.int .i64 (wrap64 (rd l0 0)), .int .u32 t109, .int .u32 t111, .int .u32 t113, .int .u32 t115, .int .i64 (wrap64 (rd l0 20)), .bool ((rd l0 1) == 1), .int .u32 t120, .int .u16 0]) ?_ 8 _ rfl; (with_reducible repeat (first | refine blk_drewN ?_ _ | refine blk_drew ?_ | refine blk_alloc ?_ _)); refine blk_put (cs := #[.int .i64 (wrap64 (rd l0 0)), .int .u32 t109, .int .u32 t111, .int .u32 t113, .int .u32 t115, .int .i64 (wrap64 (rd l0 20)), .bool ((rd l0 1) == 1), .int .u32 0, .int .u16 0]) ?_ 7 _ rfl; (with_reducible repeat (first | refine blk_drewN ?_ _ | refine blk_drew ?_ | refine blk_alloc ?_ _)); exact BK118.out⟩
        have n2_ : Aside0 (Below w.heap.size w ((w110.setCell ⟨gb118, 7, none⟩ (.int .u32 t120)).setCell ⟨gb118, 8, none⟩ (.int .u16 (Go.bits .or .u16 (IntKind.u16.wrap ((IntKind.u16.wrap (rd l0 2)) * 256)) (IntKind.u16.wrap (rd l0 3)))))) := ⟨by repeat (first | (with_reducible first | exact HB.out | apply below_alloc | apply pw_below_drewN | apply below_drew1 | refine below_set ?_ GE102.out | refine below_set ?_ GE118.out) | exact HB.out)⟩
        (try clear BK102)
        (try clear BK118)
        (try clear HB)
        generalize ((w110.setCell ⟨gb118, 7, none⟩ (.int .u32 t120)).setCell ⟨gb118, 8, none⟩ (.int .u16 (Go.bits .or .u16 (IntKind.u16.wrap ((IntKind.u16.wrap (rd l0 2)) * 256)) (IntKind.u16.wrap (rd l0 3))))) = w85 at n0_ n1_ n2_ ⊢
        have BK102 := n0_
        have BK118 := n1_
        have HB := n2_
        clear n0_ n1_ n2_
        (try (rw [drewN_self w85]; generalize hq_ : World.drewN w85 _ = w85; have n0_ : Aside0 (w85.heap[gb102]? = some (.cells #[.int .i64 0, .int .u32 0, .int .u32 0, .int .u32 0, .int .u32 0, .int .i64 0, .bool false, .int .u32 0, .int .u16 0] 50 (0, 0))) := ⟨by rw [← hq_]; exact (by (with_reducible repeat (first | refine blk_drewN ?_ _ | refine blk_drew ?_ | refine blk_alloc ?_ _)); exact BK102.out)⟩; have n1_ : Aside0 (w85.heap[gb118]? = some (.cells #[.int .i64 (wrap64 (rd l0 0)), .int .u32 t109, .int .u32 t111, .int .u32 t113, .int .u32 t115, .int .i64 (wrap64 (rd l0 20)), .bool ((rd l0 1) == 1), .int .u32 t120, .int .u16 (Go.bits .or .u16 (IntKind.u16.wrap ((IntKind.u16.wrap (rd l0 2)) * 256)) (IntKind.u16.wrap (rd l0 3)))] 50 (0, 0))) := ⟨by rw [← hq_]; exact (by (with_reducible repeat (first | refine blk_drewN ?_ _ | refine blk_drew ?_ | refine blk_alloc ?_ _)); exact BK118.out)⟩; have n2_ : Aside0 (Below w.heap.size w w85) := ⟨by rw [← hq_]; exact (by repeat (first | (with_reducible first | exact HB.out | apply below_alloc | apply pw_below_drewN | apply below_drew1 | refine below_set ?_ GE102.out | refine below_set ?_ GE118.out) | exact HB.out))⟩; clear BK102 BK118 HB hq_; have BK102 := n0_; have BK118 := n1_; have HB := n2_; clear n0_ n1_ n2_))
        have n0_ := Aside0.mk (blk_drew BK102.out)
        have n1_ := Aside0.mk (blk_drew BK118.out)
        have n2_ := Aside0.mk (below_drew1 HB.out)
        clear BK102
        clear BK118
        clear HB
        have BK102 := n0_
        have BK118 := n1_
        have HB := n2_
        clear n0_ n1_ n2_
        refine start_ (n := 11) (S := fun w' => w'.cell? ⟨gb118, 0, none⟩ = some (.int .i64 (wrap64 (rd l0 0))) ∧ w'.cell? ⟨gb118, 1, none⟩ = some (.int .u32 t109) ∧ w'.cell? ⟨gb118, 2, none⟩ = some (.int .u32 t111) ∧ w'.cell? ⟨gb118, 3, none⟩ = some (.int .u32 t113) ∧ w'.cell? ⟨gb118, 4, none⟩ = some (.int .u32 t115) ∧ w'.cell? ⟨gb118, 5, none⟩ = some (.int .i64 (wrap64 (rd l0 20))) ∧ w'.cell? ⟨gb118, 6, none⟩ = some (.bool ((rd l0 1) == 1)) ∧ w'.cell? ⟨gb118, 7, none⟩ = some (.int .u32 t120) ∧ w'.cell? ⟨gb118, 8, none⟩ = some (.int .u16 (Go.bits .or .u16 (IntKind.u16.wrap ((IntKind.u16.wrap (rd l0 2)) * 256)) (IntKind.u16.wrap (rd l0 3)))) ∧ (convert 22 9 (.slice ((some ad107)) l0.length c0)).run Try.prog w' = .ok (.string (strOfNums l0)) w') (ds := []) (bA 11 0) (by kernel_rfl) rfl rfl ⟨(blk_cell BK118.out 0).trans rfl, (blk_cell BK118.out 1).trans rfl, (blk_cell BK118.out 2).trans rfl, (blk_cell BK118.out 3).trans rfl, (blk_cell BK118.out 4).trans rfl, (blk_cell BK118.out 5).trans rfl, (blk_cell BK118.out 6).trans rfl, (blk_cell BK118.out 7).trans rfl, (blk_cell BK118.out 8).trans rfl, Kd.C_string (P := Try.prog) (A := (some ad107)) (c := c0) Try.underlying22 Try.underlying5 Try.underlying9 (by first | exact Kd.C_below HR0.out HB.out | exact HR0.out)⟩ (fun hHeld => ?_); refine with_tabW rec_Of.tab5 rec_Of.bits5 (fun HT_ HW_ => ?_)
        generalize w85.drew = w86 at BK102 BK118 HB hHeld ⊢
        refine take_ (i := 0) (N := some 59) (v := ?_) (a' := ?_) (bA 11 1) rfl rfl (take_ofW HT_.out HW_.out (by kernel_rfl)) (fun _ _ _ h => h) (Or.inl ⟨by rfl, ?_⟩) hHeld ?_ ?_; rotate_left
        · rintro w' ⟨s0, s1, s2, s3, s4, s5, s6, s7, s8, s9⟩
          go_simp
          with_reducible rfl
        rotate_left
        · simp only [Act.put, List.setIfInBounds_toArray, List.set_cons_zero, List.set_cons_succ, i64_w, i32_w]; rfl
        refine one_ (i := 1) (N := some 60) (bA 11 3) rfl rfl (one_of HT_.out (by kernel_rfl)) (by decide) (fun K hK => ?_)
        refine goes_ Try.func28 (by kernel_rfl) rfl #[.agg #[.int .i64 (wrap64 (rd l0 0)), .int .u32 t109, .int .u32 t111, .int .u32 t113, .int .u32 t115, .int .i64 (wrap64 (rd l0 20)), .bool ((rd l0 1) == 1), .int .u32 t120, .int .u16 (Go.bits .or .u16 (IntKind.u16.wrap ((IntKind.u16.wrap (rd l0 2)) * 256)) (IntKind.u16.wrap (rd l0 3)))]] (by rfl) rfl rfl (by (try simp only [List.map_toArray, List.map_cons, List.map_nil]); first | done | rfl | (simp only [List.length_drop, List.length_take]; rfl)) ?_
        with_reducible refine (rec_Rec_Right.calls (wrap64 (rd l0 0)) t109 t111 t113 t115 (wrap64 (rd l0 20)) ((rd l0 1) == 1) t120 (Go.bits .or .u16 (IntKind.u16.wrap ((IntKind.u16.wrap (rd l0 2)) * 256)) (IntKind.u16.wrap (rd l0 3))) true _ A30.out).mono ?_
        rintro e w87 ⟨rfl, hb⟩
        refine ⟨_, rfl, ?_⟩
        have n0_ := Aside0.mk (blk_below (g := gb102) (o := .cells #[.int .i64 0, .int .u32 0, .int .u32 0, .int .u32 0, .int .u32 0, .int .i64 0, .bool false, .int .u32 0, .int .u16 0] 50 (0, 0)) (by (with_reducible repeat (first | refine blk_drewN ?_ _ | refine blk_drew ?_ | refine blk_alloc ?_ _)); exact BK102.out) hb)
        have n1_ := Aside0.mk (blk_below (g := gb118) (o := .cells #[.int .i64 (wrap64 (rd l0 0)), .int .u32 t109, .int .u32 t111, .int .u32 t113, .int .u32 t115, .int .i64 (wrap64 (rd l0 20)), .bool ((rd l0 1) == 1), .int .u32 t120, .int .u16 (Go.bits .or .u16 (IntKind.u16.wrap ((IntKind.u16.wrap (rd l0 2)) * 256)) (IntKind.u16.wrap (rd l0 3)))] 50 (0, 0)) (by (with_reducible repeat (first | refine blk_drewN ?_ _ | refine blk_drew ?_ | refine blk_alloc ?_ _)); exact BK118.out) hb)
        have n2_ := Aside0.mk (below_step (by repeat (first | (with_reducible first | exact HB.out | apply below_alloc | apply pw_below_drewN | apply below_drew1 | refine below_set ?_ GE102.out | refine below_set ?_ GE118.out) | exact HB.out)) hb)
        clear BK102
        clear BK118
        clear HB
        have BK102 := n0_
        have BK118 := n1_
        have HB := n2_
        clear n0_ n1_ n2_
        (try clear hb)
        (try clear hb2)
        (try clear hk)
        (try clear hi)
        refine hK.out _ _ ⟨(blk_cell BK118.out 0).trans rfl, (blk_cell BK118.out 1).trans rfl, (blk_cell BK118.out 2).trans rfl, (blk_cell BK118.out 3).trans rfl, (blk_cell BK118.out 4).trans rfl, (blk_cell BK118.out 5).trans rfl, (blk_cell BK118.out 6).trans rfl, (blk_cell BK118.out 7).trans rfl, (blk_cell BK118.out 8).trans rfl, Kd.C_string (P := Try.prog) (A := (some ad107)) (c := c0) Try.underlying22 Try.underlying5 Try.underlying9 (by first | exact Kd.C_below HR0.out HB.out | exact HR0.out)⟩ (fun hHeld => ?_)
        clear hK K
        refine norm_ (a' := ?_) ?_ ?_
        rotate_left
        · show Act.put _ (some 60) _ = _
          simp only [Act.put, List.setIfInBounds_toArray, List.set_cons_zero, List.set_cons_succ, i64_w, i32_w]
          rfl
        refine pure_ (i := 2) (N := some 61) (v := ?_) (a' := ?_) (bA 11 7) rfl rfl (any_of HT_.out (by kernel_rfl)) (fun _ _ _ h => h) (Or.inl ⟨by rfl, ?_⟩) ?_ ?_; rotate_left
        · intro w'; go_simp; with_reducible rfl
        rotate_left; · simp only [Act.put, List.setIfInBounds_toArray, List.set_cons_zero, List.set_cons_succ, i64_w, i32_w]; rfl
        refine pure_ (i := 3) (N := some 62) (v := ?_) (a' := ?_) (bA 11 15) rfl rfl (any_of HT_.out (by kernel_rfl)) (fun _ _ _ h => h) (Or.inl ⟨by rfl, ?_⟩) ?_ ?_; rotate_left
        · intro w'; go_simp; with_reducible rfl
        rotate_left; · simp only [Act.put, List.setIfInBounds_toArray, List.set_cons_zero, List.set_cons_succ, i64_w, i32_w]; rfl
        refine pure_ (i := 7) (N := some 66) (v := ?_) (a' := ?_) (bA 11 143) rfl rfl (any_of HT_.out (by kernel_rfl)) (fun _ _ _ h => h) (Or.inl ⟨by rfl, ?_⟩) ?_ ?_; rotate_left
        · intro w'; go_simp; with_reducible rfl
        rotate_left; · simp only [Act.put, List.setIfInBounds_toArray, List.set_cons_zero, List.set_cons_succ, i64_w, i32_w]; rfl
        refine take_ (i := 4) (N := some 63) (v := ?_) (a' := ?_) (bA 11 159) rfl rfl (take_ofW HT_.out HW_.out (by kernel_rfl)) (fun _ _ _ h => h) (Or.inl ⟨by rfl, ?_⟩) hHeld ?_ ?_; rotate_left
        · rintro w' ⟨s0, s1, s2, s3, s4, s5, s6, s7, s8, s9⟩
          go_simp
          with_reducible rfl
        rotate_left
        · simp only [Act.put, List.setIfInBounds_toArray, List.set_cons_zero, List.set_cons_succ, i64_w, i32_w]; rfl
        refine take_ (i := 8) (N := some 67) (v := ?_) (a' := ?_) (bA 11 415) rfl rfl (take_ofW HT_.out HW_.out (by kernel_rfl)) (fun _ _ _ h => h) (Or.inl ⟨by rfl, ?_⟩) hHeld ?_ ?_; rotate_left
        · rintro w' ⟨s0, s1, s2, s3, s4, s5, s6, s7, s8, s9⟩
          go_simp
          with_reducible rfl
        rotate_left
        · simp only [Act.put, List.setIfInBounds_toArray, List.set_cons_zero, List.set_cons_succ, i64_w, i32_w]; rfl
        refine one_ (i := 5) (N := some 64) (bA 11 447) rfl rfl (one_of HT_.out (by kernel_rfl)) (by decide) (fun K hK => ?_)
        refine goes_ Try.func27 (by kernel_rfl) rfl #[.agg #[.int .i64 (wrap64 (rd l0 0)), .int .u32 t109, .int .u32 t111, .int .u32 t113, .int .u32 t115, .int .i64 (wrap64 (rd l0 20)), .bool ((rd l0 1) == 1), .int .u32 t120, .int .u16 (Go.bits .or .u16 (IntKind.u16.wrap ((IntKind.u16.wrap (rd l0 2)) * 256)) (IntKind.u16.wrap (rd l0 3)))]] (by rfl) rfl rfl (by (try simp only [List.map_toArray, List.map_cons, List.map_nil]); first | done | rfl | (simp only [List.length_drop, List.length_take]; rfl)) ?_
        with_reducible refine (rec_Rec_Sector.calls (wrap64 (rd l0 0)) t109 t111 t113 t115 (wrap64 (rd l0 20)) ((rd l0 1) == 1) t120 (Go.bits .or .u16 (IntKind.u16.wrap ((IntKind.u16.wrap (rd l0 2)) * 256)) (IntKind.u16.wrap (rd l0 3))) t124 _ A32.out).mono ?_
        rintro e w88 ⟨v125, rfl, ho0, hb⟩
        refine ⟨_, rfl, ?_⟩
        have n0_ := Aside0.mk (Kd.R_lower ho0 (below_size (by repeat (first | (with_reducible first | exact HB.out | apply below_alloc | apply pw_below_drewN | apply below_drew1 | refine below_set ?_ GE102.out | refine below_set ?_ GE118.out) | exact HB.out))))
        have n1_ := Aside0.mk (blk_below (g := gb102) (o := .cells #[.int .i64 0, .int .u32 0, .int .u32 0, .int .u32 0, .int .u32 0, .int .i64 0, .bool false, .int .u32 0, .int .u16 0] 50 (0, 0)) (by (with_reducible repeat (first | refine blk_drewN ?_ _ | refine blk_drew ?_ | refine blk_alloc ?_ _)); exact BK102.out) hb)
        have n2_ := Aside0.mk (blk_below (g := gb118) (o := .cells #[.int .i64 (wrap64 (rd l0 0)), .int .u32 t109, .int .u32 t111, .int .u32 t113, .int .u32 t115, .int .i64 (wrap64 (rd l0 20)), .bool ((rd l0 1) == 1), .int .u32 t120, .int .u16 (Go.bits .or .u16 (IntKind.u16.wrap ((IntKind.u16.wrap (rd l0 2)) * 256)) (IntKind.u16.wrap (rd l0 3)))] 50 (0, 0)) (by (with_reducible repeat (first | refine blk_drewN ?_ _ | refine blk_drew ?_ | refine blk_alloc ?_ _)); exact BK118.out) hb)
        have n3_ := Aside0.mk (below_step (by repeat (first | (with_reducible first | exact HB.out | apply below_alloc | apply pw_below_drewN | apply below_drew1 | refine below_set ?_ GE102.out | refine below_set ?_ GE118.out) | exact HB.out)) hb)
        clear BK102
        clear BK118
        clear HB
        have HO126 := n0_
        have BK102 := n1_
        have BK118 := n2_
        have HB := n3_
        clear n0_ n1_ n2_ n3_
        (try clear hb)
        (try clear hb2)
        (try clear hk)
        (try clear hi)
        (try clear ho0)
        refine hK.out _ _ ⟨(blk_cell BK118.out 0).trans rfl, (blk_cell BK118.out 1).trans rfl, (blk_cell BK118.out 2).trans rfl, (blk_cell BK118.out 3).trans rfl, (blk_cell BK118.out 4).trans rfl, (blk_cell BK118.out 5).trans rfl, (blk_cell BK118.out 6).trans rfl, (blk_cell BK118.out 7).trans rfl, (blk_cell BK118.out 8).trans rfl, Kd.C_string (P := Try.prog) (A := (some ad107)) (c := c0) Try.underlying22 Try.underlying5 Try.underlying9 (by first | exact Kd.C_below HR0.out HB.out | exact HR0.out)⟩ (fun hHeld => ?_)
        clear hK K
        refine norm_ (a' := ?_) ?_ ?_
        rotate_left
        · show Act.put _ (some 64) _ = _
          simp only [Act.put, List.setIfInBounds_toArray, List.set_cons_zero, List.set_cons_succ, i64_w, i32_w]
          rfl
        refine one_ (i := 6) (N := some 65) (bA 11 511) rfl rfl (one_of HT_.out (by kernel_rfl)) (by decide) (fun K hK => ?_)
        have hcv89 := own_string (P := Try.prog) Try.underlying22 Try.underlying5 Try.underlying9 (Kd.own_of_R HO126.out)
        refine value_ (w1 := ?_) (v := ?_) (by rfl) rfl ?_ ?_
        rotate_left 2
        · go_simp
          constructor
          · rfl
          · rfl
        clear hcv89
        refine hK.out _ _ ⟨(blk_cell BK118.out 0).trans rfl, (blk_cell BK118.out 1).trans rfl, (blk_cell BK118.out 2).trans rfl, (blk_cell BK118.out 3).trans rfl, (blk_cell BK118.out 4).trans rfl, (blk_cell BK118.out 5).trans rfl, (blk_cell BK118.out 6).trans rfl, (blk_cell BK118.out 7).trans rfl, (blk_cell BK118.out 8).trans rfl, Kd.C_string (P := Try.prog) (A := (some ad107)) (c := c0) Try.underlying22 Try.underlying5 Try.underlying9 (by first | exact Kd.C_below HR0.out HB.out | exact HR0.out)⟩ (fun hHeld => ?_)
        clear hK K
        refine norm_ (a' := ?_) ?_ ?_
        rotate_left
        · show Act.put _ (some 65) _ = _
          simp only [Act.put, List.setIfInBounds_toArray, List.set_cons_zero, List.set_cons_succ, i64_w, i32_w]
          rfl
        refine pure_ (i := 9) (N := some 68) (v := ?_) (a' := ?_) (bA 11 1023) rfl rfl (any_of HT_.out (by kernel_rfl)) (fun _ _ _ h => h) (Or.inl ⟨by rfl, ?_⟩) ?_ ?_; rotate_left
        · intro w'; go_simp; with_reducible rfl
        rotate_left; · simp only [Act.put, List.setIfInBounds_toArray, List.set_cons_zero, List.set_cons_succ, i64_w, i32_w]; rfl
        refine pure_ (i := 10) (N := some 69) (v := ?_) (a' := ?_) (bA 11 2047) rfl rfl (any_of HT_.out (by kernel_rfl)) (fun _ _ _ h => h) (Or.inl ⟨by rfl, ?_⟩) ?_ ?_; rotate_left
        · intro w'; go_simp; with_reducible rfl
        rotate_left; · simp only [Act.put, List.setIfInBounds_toArray, List.set_cons_zero, List.set_cons_succ, i64_w, i32_w]; rfl
        refine done_ (done_of HT_.out (by kernel_rfl)) ?_
        have hnb91 := NB102_118.out
        have hnc91 := NB118_102.out
        have hcz92_0 : w88.cell? ⟨gb102, 0, none⟩ = some (.int .i64 0) := (blk_cell BK102.out 0).trans rfl
        have hcz92_1 : w88.cell? ⟨gb102, 1, none⟩ = some (.int .u32 0) := (blk_cell BK102.out 1).trans rfl
        have hcz92_2 : w88.cell? ⟨gb102, 2, none⟩ = some (.int .u32 0) := (blk_cell BK102.out 2).trans rfl
        have hcz92_3 : w88.cell? ⟨gb102, 3, none⟩ = some (.int .u32 0) := (blk_cell BK102.out 3).trans rfl
        have hcz92_4 : w88.cell? ⟨gb102, 4, none⟩ = some (.int .u32 0) := (blk_cell BK102.out 4).trans rfl
        have hcz92_5 : w88.cell? ⟨gb102, 5, none⟩ = some (.int .i64 0) := (blk_cell BK102.out 5).trans rfl
        have hcz92_6 : w88.cell? ⟨gb102, 6, none⟩ = some (.bool false) := (blk_cell BK102.out 6).trans rfl
        have hcz92_7 : w88.cell? ⟨gb102, 7, none⟩ = some (.int .u32 0) := (blk_cell BK102.out 7).trans rfl
        have hcz92_8 : w88.cell? ⟨gb102, 8, none⟩ = some (.int .u16 0) := (blk_cell BK102.out 8).trans rfl
        have hfz92_0 := blk_frozen BK102.out 0
        have hfz92_1 := blk_frozen BK102.out 1
        have hfz92_2 := blk_frozen BK102.out 2
        have hfz92_3 := blk_frozen BK102.out 3
        have hfz92_4 := blk_frozen BK102.out 4
        have hfz92_5 := blk_frozen BK102.out 5
        have hfz92_6 := blk_frozen BK102.out 6
        have hfz92_7 := blk_frozen BK102.out 7
        have hfz92_8 := blk_frozen BK102.out 8
        try go_wp2
        refine bodyPost_ret (results_ct rfl _ _ gb102 50 #[.int .i64 0, .int .u32 0, .int .u32 0, .int .u32 0, .int .u32 0, .int .i64 0, .bool false, .int .u32 0, .int .u16 0] (0, 0) _ rfl (by (with_reducible repeat (first | refine blk_drewN ?_ _ | refine blk_drew ?_ | refine blk_alloc ?_ _)); refine blk_put (cs := #[.int .i64 0, .int .u32 0, .int .u32 0, .int .u32 0, .int .u32 0, .int .i64 0, .bool false, .int .u32 0, .int .u16 0]) ?_ 8 _ rfl; (with_reducible repeat (first | refine blk_drewN ?_ _ | refine blk_drew ?_ | refine blk_alloc ?_ _)); refine blk_put (cs := #[.int .i64 0, .int .u32 0, .int .u32 0, .int .u32 0, .int .u32 0, .int .i64 0, .bool false, .int .u32 0, .int .u16 0]) ?_ 7 _ rfl; (with_reducible repeat (first | refine blk_drewN ?_ _ | refine blk_drew ?_ | refine blk_alloc ?_ _)); refine blk_put (cs := #[.int .i64 0, .int .u32 0, .int .u32 0, .int .u32 0, .int .u32 0, .int .i64 0, .bool false, .int .u32 0, .int .u16 0]) ?_ 6 _ rfl; (with_reducible repeat (first | refine blk_drewN ?_ _ | refine blk_drew ?_ | refine blk_alloc ?_ _)); refine blk_put (cs := #[.int .i64 0, .int .u32 0, .int .u32 0, .int .u32 0, .int .u32 0, .int .i64 0, .bool false, .int .u32 0, .int .u16 0]) ?_ 5 _ rfl; (with_reducible repeat (first | refine blk_drewN ?_ _ | refine blk_drew ?_ | refine blk_alloc ?_ _)); refine blk_put (cs := #[.int .i64 0, .int .u32 0, .int .u32 0, .int .u32 0, .int .u32 0, .int .i64 0, .bool false, .int .u32 0, .int .u16 0]) ?_ 4 _ rfl; (with_reducible repeat (first | refine blk_drewN ?_ _ | refine blk_drew ?_ | refine blk_alloc ?_ _)); refine blk_put (cs := #[.int .i64 0, .int .u32 0, .int .u32 0, .int .u32 0, .int .u32 0, .int .i64 0, .bool false, .int .u32 0, .int .u16 0]) ?_ 3 _ rfl; (with_reducible repeat (first | refine blk_drewN ?_ _ | refine blk_drew ?_ | refine blk_alloc ?_ _)); refine blk_put (cs := #[.int .i64 0, .int .u32 0, .int .u32 0, .int .u32 0, .int .u32 0, .int .i64 0, .bool false, .int .u32 0, .int .u16 0]) ?_ 2 _ rfl; (with_reducible repeat (first | refine blk_drewN ?_ _ | refine blk_drew ?_ | refine blk_alloc ?_ _)); refine blk_put (cs := #[.int .i64 0, .int .u32 0, .int .u32 0, .int .u32 0, .int .u32 0, .int .i64 0, .bool false, .int .u32 0, .int .u16 0]) ?_ 1 _ rfl; (with_reducible repeat (first | refine blk_drewN ?_ _ | refine blk_drew ?_ | refine blk_alloc ?_ _)); refine blk_put (cs := #[.int .i64 0, .int .u32 0, .int .u32 0, .int .u32 0, .int .u32 0, .int .i64 0, .bool false, .int .u32 0, .int .u16 0]) ?_ 0 _ rfl; (with_reducible repeat (first | refine blk_drewN ?_ _ | refine blk_drew ?_ | refine blk_alloc ?_ _)); exact BK102.out) Try.underlying50 rfl (by kernel_rfl)) rfl ?_
        exact ⟨by first | rfl | (simp [errW_none, errW_some] <;> rfl) | (simp [*, errW_none, errW_some] <;> rfl), by repeat (first | (with_reducible first | exact HB.out | apply below_alloc | apply pw_below_drewN | apply below_drew1 | refine below_set ?_ GE102.out | refine below_set ?_ GE118.out) | exact HB.out)⟩
      rw [if_pos c33] at H; have c33b0 : ((strOfNums t124).toList == (strOfNums l0).toList) = true := beq_iff_eq.mpr c33
      have c33b1 : ((strOfNums t124).toList != (strOfNums l0).toList) = false := bne_eq_false_iff_eq.mpr c33
      clear c33
      simp only [Option.some.injEq, Prod.mk.injEq] at H
      obtain ⟨rfl, rfl, rfl, rfl, rfl, rfl, rfl, rfl, rfl, rfl⟩ := H
      try go_wp2
      have n0_ : Aside0 (((w110.setCell ⟨gb118, 7, none⟩ (.int .u32 t120)).setCell ⟨gb118, 8, none⟩ (.int .u16 (Go.bits .or .u16 (IntKind.u16.wrap ((IntKind.u16.wrap (rd l0 2)) * 256)) (IntKind.u16.wrap (rd l0 3))))).heap[gb102]? = some (.cells #[.int .i64 0, .int .u32 0, .int .u32 0, .int .u32 0, .int .u32 0, .int .i64 0, .bool false, .int .u32 0, .int .u16 0] 50 (0, 0))) := ⟨by (with_reducible repeat (first | refine blk_drewN ?_ _ | refine blk_drew ?_ | refine blk_alloc ?_ _)); refine blk_far ?_ NB102_118.out _; (with_reducible repeat (first | refine blk_drewN ?_ _ | refine blk_drew ?_ | refine blk_alloc ?_ _)); refine blk_far ?_ NB102_118.out _; (with_reducible repeat (first | refine blk_drewN ?_ _ | refine blk_drew ?_ | refine blk_alloc ?_ _)); exact BK102.out⟩
      have n1_ : Aside0 (((w110.setCell ⟨gb118, 7, none⟩ (.int .u32 t120)).setCell ⟨gb118, 8, none⟩ (.int .u16 (Go.bits .or .u16 (IntKind.u16.wrap ((IntKind.u16.wrap (rd l0 2)) * 256)) (IntKind.u16.wrap (rd l0 3))))).heap[gb118]? = some (.cells #[.int .i64 (wrap64 (rd l0 0)), .int .u32 t109, .int .u32 t111, .int .u32 t113, .int .u32 t115, .int .i64 (wrap64 (rd l0 20)), .bool ((rd l0 1) == 1), .int .u32 t120, .int .u16 (Go.bits .or .u16 (IntKind.u16.wrap ((IntKind.u16.wrap (rd l0 2)) * 256)) (IntKind.u16.wrap (rd l0 3)))] 50 (0, 0))) := ⟨by (with_reducible repeat (first | refine blk_drewN ?_ _ | refine blk_drew ?_ | refine blk_alloc ?_ _)); refine blk_put (cs := #[.int .i64 (wrap64 (rd l0 0)), .int .u32 t109, .int .u32 t111, .int .u32 t113, .int .u32 t115, .int .i64 (wrap64 (rd l0 20)), .bool ((rd l0 1) == 1), .int .u32 t120, .int .u16 0]) ?_ 8 _ rfl; (with_reducible repeat (first | refine blk_drewN ?_ _ | refine blk_drew ?_ | refine blk_alloc ?_ _)); refine blk_put (cs := #[.int .i64 (wrap64 (rd l0 0)), .int .u32 t109, .int .u32 t111, .int .u32 t113, .int .u32 t115, .int .i64 (wrap64 (rd l0 20)), .bool ((rd l0 1) == 1), .int .u32 0, .int .u16 0]) ?_ 7 _ rfl; (with_reducible repeat (first | refine blk_drewN ?_ _ | refine blk_drew ?_ | refine blk_alloc ?_ _)); exact BK118.out⟩
      have n2_ : Aside0 (Below w.heap.size w ((w110.setCell ⟨gb118, 7, none⟩ (.int .u32 t120)).setCell ⟨gb118, 8, none⟩ (.int .u16 (Go.bits .or .u16 (IntKind.u16.wrap ((IntKind.u16.wrap (rd l0 2)) * 256)) (IntKind.u16.wrap (rd l0 3)))))) := ⟨by repeat (first | (with_reducible first | exact HB.out | apply below_alloc | apply pw_below_drewN | apply below_drew1 | refine below_set ?_ GE102.out | refine below_set ?_ GE118.out) | exact HB.out)⟩
      (try clear BK102)
      (try clear BK118)
      (try clear HB)
      generalize ((w110.setCell ⟨gb118, 7, none⟩ (.int .u32 t120)).setCell ⟨gb118, 8, none⟩ (.int .u16 (Go.bits .or .u16 (IntKind.u16.wrap ((IntKind.u16.wrap (rd l0 2)) * 256)) (IntKind.u16.wrap (rd l0 3))))) = w55 at n0_ n1_ n2_ ⊢
      have BK102 := n0_
      have BK118 := n1_
      have HB := n2_
      clear n0_ n1_ n2_
      (try (rw [drewN_self w55]; generalize hq_ : World.drewN w55 _ = w55; have n0_ : Aside0 (w55.heap[gb102]? = some (.cells #[.int .i64 0, .int .u32 0, .int .u32 0, .int .u32 0, .int .u32 0, .int .i64 0, .bool false, .int .u32 0, .int .u16 0] 50 (0, 0))) := ⟨by rw [← hq_]; exact (by (with_reducible repeat (first | refine blk_drewN ?_ _ | refine blk_drew ?_ | refine blk_alloc ?_ _)); exact BK102.out)⟩; have n1_ : Aside0 (w55.heap[gb118]? = some (.cells #[.int .i64 (wrap64 (rd l0 0)), .int .u32 t109, .int .u32 t111, .int .u32 t113, .int .u32 t115, .int .i64 (wrap64 (rd l0 20)), .bool ((rd l0 1) == 1), .int .u32 t120, .int .u16 (Go.bits .or .u16 (IntKind.u16.wrap ((IntKind.u16.wrap (rd l0 2)) * 256)) (IntKind.u16.wrap (rd l0 3)))] 50 (0, 0))) := ⟨by rw [← hq_]; exact (by (with_reducible repeat (first | refine blk_drewN ?_ _ | refine blk_drew ?_ | refine blk_alloc ?_ _)); exact BK118.out)⟩; have n2_ : Aside0 (Below w.heap.size w w55) := ⟨by rw [← hq_]; exact (by repeat (first | (with_reducible first | exact HB.out | apply below_alloc | apply pw_below_drewN | apply below_drew1 | refine below_set ?_ GE102.out | refine below_set ?_ GE118.out) | exact HB.out))⟩; clear BK102 BK118 HB hq_; have BK102 := n0_; have BK118 := n1_; have HB := n2_; clear n0_ n1_ n2_))
      have n0_ := Aside0.mk (blk_drew BK102.out)
      have n1_ := Aside0.mk (blk_drew BK118.out)
      have n2_ := Aside0.mk (below_drew1 HB.out)
      clear BK102
      clear BK118
      clear HB
      have BK102 := n0_
      have BK118 := n1_
      have HB := n2_
      clear n0_ n1_ n2_
      refine start_ (n := 11) (S := fun w' => w'.cell? ⟨gb118, 0, none⟩ = some (.int .i64 (wrap64 (rd l0 0))) ∧ w'.cell? ⟨gb118, 1, none⟩ = some (.int .u32 t109) ∧ w'.cell? ⟨gb118, 2, none⟩ = some (.int .u32 t111) ∧ w'.cell? ⟨gb118, 3, none⟩ = some (.int .u32 t113) ∧ w'.cell? ⟨gb118, 4, none⟩ = some (.int .u32 t115) ∧ w'.cell? ⟨gb118, 5, none⟩ = some (.int .i64 (wrap64 (rd l0 20))) ∧ w'.cell? ⟨gb118, 6, none⟩ = some (.bool ((rd l0 1) == 1)) ∧ w'.cell? ⟨gb118, 7, none⟩ = some (.int .u32 t120) ∧ w'.cell? ⟨gb118, 8, none⟩ = some (.int .u16 (Go.bits .or .u16 (IntKind.u16.wrap ((IntKind.u16.wrap (rd l0 2)) * 256)) (IntKind.u16.wrap (rd l0 3)))) ∧ (convert 22 9 (.slice ((some ad107)) l0.length c0)).run Try.prog w' = .ok (.string (strOfNums l0)) w') (ds := []) (bA 11 0) (by kernel_rfl) rfl rfl ⟨(blk_cell BK118.out 0).trans rfl, (blk_cell BK118.out 1).trans rfl, (blk_cell BK118.out 2).trans rfl, (blk_cell BK118.out 3).trans rfl, (blk_cell BK118.out 4).trans rfl, (blk_cell BK118.out 5).trans rfl, (blk_cell BK118.out 6).trans rfl, (blk_cell BK118.out 7).trans rfl, (blk_cell BK118.out 8).trans rfl, Kd.C_string (P := Try.prog) (A := (some ad107)) (c := c0) Try.underlying22 Try.underlying5 Try.underlying9 (by first | exact Kd.C_below HR0.out HB.out | exact HR0.out)⟩ (fun hHeld => ?_); refine with_tabW rec_Of.tab5 rec_Of.bits5 (fun HT_ HW_ => ?_)
      generalize w55.drew = w56 at BK102 BK118 HB hHeld ⊢
      refine take_ (i := 0) (N := some 59) (v := ?_) (a' := ?_) (bA 11 1) rfl rfl (take_ofW HT_.out HW_.out (by kernel_rfl)) (fun _ _ _ h => h) (Or.inl ⟨by rfl, ?_⟩) hHeld ?_ ?_; rotate_left
      · rintro w' ⟨s0, s1, s2, s3, s4, s5, s6, s7, s8, s9⟩
        go_simp
        with_reducible rfl
      rotate_left
      · simp only [Act.put, List.setIfInBounds_toArray, List.set_cons_zero, List.set_cons_succ, i64_w, i32_w]; rfl
      refine one_ (i := 1) (N := some 60) (bA 11 3) rfl rfl (one_of HT_.out (by kernel_rfl)) (by decide) (fun K hK => ?_)
      refine goes_ Try.func28 (by kernel_rfl) rfl #[.agg #[.int .i64 (wrap64 (rd l0 0)), .int .u32 t109, .int .u32 t111, .int .u32 t113, .int .u32 t115, .int .i64 (wrap64 (rd l0 20)), .bool ((rd l0 1) == 1), .int .u32 t120, .int .u16 (Go.bits .or .u16 (IntKind.u16.wrap ((IntKind.u16.wrap (rd l0 2)) * 256)) (IntKind.u16.wrap (rd l0 3)))]] (by rfl) rfl rfl (by (try simp only [List.map_toArray, List.map_cons, List.map_nil]); first | done | rfl | (simp only [List.length_drop, List.length_take]; rfl)) ?_
      with_reducible refine (rec_Rec_Right.calls (wrap64 (rd l0 0)) t109 t111 t113 t115 (wrap64 (rd l0 20)) ((rd l0 1) == 1) t120 (Go.bits .or .u16 (IntKind.u16.wrap ((IntKind.u16.wrap (rd l0 2)) * 256)) (IntKind.u16.wrap (rd l0 3))) true _ A30.out).mono ?_
      rintro e w57 ⟨rfl, hb⟩
      refine ⟨_, rfl, ?_⟩
      have n0_ := Aside0.mk (blk_below (g := gb102) (o := .cells #[.int .i64 0, .int .u32 0, .int .u32 0, .int .u32 0, .int .u32 0, .int .i64 0, .bool false, .int .u32 0, .int .u16 0] 50 (0, 0)) (by (with_reducible repeat (first | refine blk_drewN ?_ _ | refine blk_drew ?_ | refine blk_alloc ?_ _)); exact BK102.out) hb)
      have n1_ := Aside0.mk (blk_below (g := gb118) (o := .cells #[.int .i64 (wrap64 (rd l0 0)), .int .u32 t109, .int .u32 t111, .int .u32 t113, .int .u32 t115, .int .i64 (wrap64 (rd l0 20)), .bool ((rd l0 1) == 1), .int .u32 t120, .int .u16 (Go.bits .or .u16 (IntKind.u16.wrap ((IntKind.u16.wrap (rd l0 2)) * 256)) (IntKind.u16.wrap (rd l0 3)))] 50 (0, 0)) (by (with_reducible repeat (first | refine blk_drewN ?_ _ | refine blk_drew ?_ | refine blk_alloc ?_ _)); exact BK118.out) hb)
      have n2_ := Aside0.mk (below_step (by repeat (first | (with_reducible first | exact HB.out | apply below_alloc | apply pw_below_drewN | apply below_drew1 | refine below_set ?_ GE102.out | refine below_set ?_ GE118.out) | exact HB.out)) hb)
      clear BK102
      clear BK118
      clear HB
      have BK102 := n0_
      have BK118 := n1_
      have HB := n2_
      clear n0_ n1_ n2_
      (try clear hb)
      (try clear hb2)
      (try clear hk)
      (try clear hi)
      refine hK.out _ _ ⟨(blk_cell BK118.out 0).trans rfl, (blk_cell BK118.out 1).trans rfl, (blk_cell BK118.out 2).trans rfl, (blk_cell BK118.out 3).trans rfl, (blk_cell BK118.out 4).trans rfl, (blk_cell BK118.out 5).trans rfl, (blk_cell BK118.out 6).trans rfl, (blk_cell BK118.out 7).trans rfl, (blk_cell BK118.out 8).trans rfl, Kd.C_string (P := Try.prog) (A := (some ad107)) (c := c0) Try.underlying22 Try.underlying5 Try.underlying9 (by first | exact Kd.C_below HR0.out HB.out | exact HR0.out)⟩ (fun hHeld => ?_)
      clear hK K
      refine norm_ (a' := ?_) ?_ ?_
      rotate_left
      · show Act.put _ (some 60) _ = _
        simp only [Act.put, List.setIfInBounds_toArray, List.set_cons_zero, List.set_cons_succ, i64_w, i32_w]
        rfl
      refine pure_ (i := 2) (N := some 61) (v := ?_) (a' := ?_) (bA 11 7) rfl rfl (any_of HT_.out (by kernel_rfl)) (fun _ _ _ h => h) (Or.inl ⟨by rfl, ?_⟩) ?_ ?_; rotate_left
      · intro w'; go_simp; with_reducible rfl
      rotate_left; · simp only [Act.put, List.setIfInBounds_toArray, List.set_cons_zero, List.set_cons_succ, i64_w, i32_w]; rfl
      refine pure_ (i := 3) (N := some 62) (v := ?_) (a' := ?_) (bA 11 15) rfl rfl (any_of HT_.out (by kernel_rfl)) (fun _ _ _ h => h) (Or.inl ⟨by rfl, ?_⟩) ?_ ?_; rotate_left
      · intro w'; go_simp; with_reducible rfl
      rotate_left; · simp only [Act.put, List.setIfInBounds_toArray, List.set_cons_zero, List.set_cons_succ, i64_w, i32_w]; rfl
      refine pure_ (i := 7) (N := some 66) (v := ?_) (a' := ?_) (bA 11 143) rfl rfl (any_of HT_.out (by kernel_rfl)) (fun _ _ _ h => h) (Or.inl ⟨by rfl, ?_⟩) ?_ ?_; rotate_left
      · intro w'; go_simp; with_reducible rfl
      rotate_left; · simp only [Act.put, List.setIfInBounds_toArray, List.set_cons_zero, List.set_cons_succ, i64_w, i32_w]; rfl
      refine take_ (i := 4) (N := some 63) (v := ?_) (a' := ?_) (bA 11 159) rfl rfl (take_ofW HT_.out HW_.out (by kernel_rfl)) (fun _ _ _ h => h) (Or.inl ⟨by rfl, ?_⟩) hHeld ?_ ?_; rotate_left
      · rintro w' ⟨s0, s1, s2, s3, s4, s5, s6, s7, s8, s9⟩
        go_simp
        with_reducible rfl
      rotate_left
      · simp only [Act.put, List.setIfInBounds_toArray, List.set_cons_zero, List.set_cons_succ, i64_w, i32_w]; rfl
      refine take_ (i := 8) (N := some 67) (v := ?_) (a' := ?_) (bA 11 415) rfl rfl (take_ofW HT_.out HW_.out (by kernel_rfl)) (fun _ _ _ h => h) (Or.inl ⟨by rfl, ?_⟩) hHeld ?_ ?_; rotate_left
      · rintro w' ⟨s0, s1, s2, s3, s4, s5, s6, s7, s8, s9⟩
        go_simp
        with_reducible rfl
      rotate_left
      · simp only [Act.put, List.setIfInBounds_toArray, List.set_cons_zero, List.set_cons_succ, i64_w, i32_w]; rfl
      refine one_ (i := 5) (N := some 64) (bA 11 447) rfl rfl (one_of HT_.out (by kernel_rfl)) (by decide) (fun K hK => ?_)
      refine goes_ Try.func27 (by kernel_rfl) rfl #[.agg #[.int .i64 (wrap64 (rd l0 0)), .int .u32 t109, .int .u32 t111, .int .u32 t113, .int .u32 t115, .int .i64 (wrap64 (rd l0 20)), .bool ((rd l0 1) == 1), .int .u32 t120, .int .u16 (Go.bits .or .u16 (IntKind.u16.wrap ((IntKind.u16.wrap (rd l0 2)) * 256)) (IntKind.u16.wrap (rd l0 3)))]] (by rfl) rfl rfl (by (try simp only [List.map_toArray, List.map_cons, List.map_nil]); first | done | rfl | (simp only [List.length_drop, List.length_take]; rfl)) ?_
      with_reducible refine (rec_Rec_Sector.calls (wrap64 (rd l0 0)) t109 t111 t113 t115 (wrap64 (rd l0 20)) ((rd l0 1) == 1) t120 (Go.bits .or .u16 (IntKind.u16.wrap ((IntKind.u16.wrap (rd l0 2)) * 256)) (IntKind.u16.wrap (rd l0 3))) t124 _ A32.out).mono ?_
      rintro e w58 ⟨v125, rfl, ho0, hb⟩
      refine ⟨_, rfl, ?_⟩
      have n0_ := Aside0.mk (Kd.R_lower ho0 (below_size (by repeat (first | (with_reducible first | exact HB.out | apply below_alloc | apply pw_below_drewN | apply below_drew1 | refine below_set ?_ GE102.out | refine below_set ?_ GE118.out) | exact HB.out))))
      have n1_ := Aside0.mk (blk_below (g := gb102) (o := .cells #[.int .i64 0, .int .u32 0, .int .u32 0, .int .u32 0, .int .u32 0, .int .i64 0, .bool false, .int .u32 0, .int .u16 0] 50 (0, 0)) (by (with_reducible repeat (first | refine blk_drewN ?_ _ | refine blk_drew ?_ | refine blk_alloc ?_ _)); exact BK102.out) hb)
      have n2_ := Aside0.mk (blk_below (g := gb118) (o := .cells #[.int .i64 (wrap64 (rd l0 0)), .int .u32 t109, .int .u32 t111, .int .u32 t113, .int .u32 t115, .int .i64 (wrap64 (rd l0 20)), .bool ((rd l0 1) == 1), .int .u32 t120, .int .u16 (Go.bits .or .u16 (IntKind.u16.wrap ((IntKind.u16.wrap (rd l0 2)) * 256)) (IntKind.u16.wrap (rd l0 3)))] 50 (0, 0)) (by (with_reducible repeat (first | refine blk_drewN ?_ _ | refine blk_drew ?_ | refine blk_alloc ?_ _)); exact BK118.out) hb)
      have n3_ := Aside0.mk (below_step (by repeat (first | (with_reducible first | exact HB.out | apply below_alloc | apply pw_below_drewN | apply below_drew1 | refine below_set ?_ GE102.out | refine below_set ?_ GE118.out) | exact HB.out)) hb)
      clear BK102
      clear BK118
      clear HB
      have HO126 := n0_
      have BK102 := n1_
      have BK118 := n2_
      have HB := n3_
      clear n0_ n1_ n2_ n3_
      (try clear hb)
      (try clear hb2)
      (try clear hk)
      (try clear hi)
      (try clear ho0)
      refine hK.out _ _ ⟨(blk_cell BK118.out 0).trans rfl, (blk_cell BK118.out 1).trans rfl, (blk_cell BK118.out 2).trans rfl, (blk_cell BK118.out 3).trans rfl, (blk_cell BK118.out 4).trans rfl, (blk_cell BK118.out 5).trans rfl, (blk_cell BK118.out 6).trans rfl, (blk_cell BK118.out 7).trans rfl, (blk_cell BK118.out 8).trans rfl, Kd.C_string (P := Try.prog) (A := (some ad107)) (c := c0) Try.underlying22 Try.underlying5 Try.underlying9 (by first | exact Kd.C_below HR0.out HB.out | exact HR0.out)⟩ (fun hHeld => ?_)
      clear hK K
      refine norm_ (a' := ?_) ?_ ?_
      rotate_left
      · show Act.put _ (some 64) _ = _
        simp only [Act.put, List.setIfInBounds_toArray, List.set_cons_zero, List.set_cons_succ, i64_w, i32_w]
        rfl
      refine one_ (i := 6) (N := some 65) (bA 11 511) rfl rfl (one_of HT_.out (by kernel_rfl)) (by decide) (fun K hK => ?_)
      have hcv59 := own_string (P := Try.prog) Try.underlying22 Try.underlying5 Try.underlying9 (Kd.own_of_R HO126.out)
      refine value_ (w1 := ?_) (v := ?_) (by rfl) rfl ?_ ?_
      rotate_left 2
      · go_simp
        constructor
        · rfl
        · rfl
      clear hcv59
      refine hK.out _ _ ⟨(blk_cell BK118.out 0).trans rfl, (blk_cell BK118.out 1).trans rfl, (blk_cell BK118.out 2).trans rfl, (blk_cell BK118.out 3).trans rfl, (blk_cell BK118.out 4).trans rfl, (blk_cell BK118.out 5).trans rfl, (blk_cell BK118.out 6).trans rfl, (blk_cell BK118.out 7).trans rfl, (blk_cell BK118.out 8).trans rfl, Kd.C_string (P := Try.prog) (A := (some ad107)) (c := c0) Try.underlying22 Try.underlying5 Try.underlying9 (by first | exact Kd.C_below HR0.out HB.out | exact HR0.out)⟩ (fun hHeld => ?_)
      clear hK K
      refine norm_ (a' := ?_) ?_ ?_
      rotate_left
      · show Act.put _ (some 65) _ = _
        simp only [Act.put, List.setIfInBounds_toArray, List.set_cons_zero, List.set_cons_succ, i64_w, i32_w]
        rfl
      refine pure_ (i := 9) (N := some 68) (v := ?_) (a' := ?_) (bA 11 1023) rfl rfl (any_of HT_.out (by kernel_rfl)) (fun _ _ _ h => h) (Or.inl ⟨by rfl, ?_⟩) ?_ ?_; rotate_left
      · intro w'; go_simp; with_reducible rfl
      rotate_left; · simp only [Act.put, List.setIfInBounds_toArray, List.set_cons_zero, List.set_cons_succ, i64_w, i32_w]; rfl
      refine pure_ (i := 10) (N := some 69) (v := ?_) (a' := ?_) (bA 11 2047) rfl rfl (any_of HT_.out (by kernel_rfl)) (fun _ _ _ h => h) (Or.inl ⟨by rfl, ?_⟩) ?_ ?_; rotate_left
      · intro w'; go_simp; with_reducible rfl
      rotate_left; · simp only [Act.put, List.setIfInBounds_toArray, List.set_cons_zero, List.set_cons_succ, i64_w, i32_w]; rfl
      refine done_ (done_of HT_.out (by kernel_rfl)) ?_
      have hnb61 := NB118_102.out
      have hnc61 := NB102_118.out
      have hcz62_0 : w58.cell? ⟨gb118, 0, none⟩ = some (.int .i64 (wrap64 (rd l0 0))) := (blk_cell BK118.out 0).trans rfl
      have hcz62_1 : w58.cell? ⟨gb118, 1, none⟩ = some (.int .u32 t109) := (blk_cell BK118.out 1).trans rfl
      have hcz62_2 : w58.cell? ⟨gb118, 2, none⟩ = some (.int .u32 t111) := (blk_cell BK118.out 2).trans rfl
      have hcz62_3 : w58.cell? ⟨gb118, 3, none⟩ = some (.int .u32 t113) := (blk_cell BK118.out 3).trans rfl
      have hcz62_4 : w58.cell? ⟨gb118, 4, none⟩ = some (.int .u32 t115) := (blk_cell BK118.out 4).trans rfl
      have hcz62_5 : w58.cell? ⟨gb118, 5, none⟩ = some (.int .i64 (wrap64 (rd l0 20))) := (blk_cell BK118.out 5).trans rfl
      have hcz62_6 : w58.cell? ⟨gb118, 6, none⟩ = some (.bool ((rd l0 1) == 1)) := (blk_cell BK118.out 6).trans rfl
      have hcz62_7 : w58.cell? ⟨gb118, 7, none⟩ = some (.int .u32 t120) := (blk_cell BK118.out 7).trans rfl
      have hcz62_8 : w58.cell? ⟨gb118, 8, none⟩ = some (.int .u16 (Go.bits .or .u16 (IntKind.u16.wrap ((IntKind.u16.wrap (rd l0 2)) * 256)) (IntKind.u16.wrap (rd l0 3)))) := (blk_cell BK118.out 8).trans rfl
      have hfz62_0 := blk_frozen BK118.out 0
      have hfz62_1 := blk_frozen BK118.out 1
      have hfz62_2 := blk_frozen BK118.out 2
      have hfz62_3 := blk_frozen BK118.out 3
      have hfz62_4 := blk_frozen BK118.out 4
      have hfz62_5 := blk_frozen BK118.out 5
      have hfz62_6 := blk_frozen BK118.out 6
      have hfz62_7 := blk_frozen BK118.out 7
      have hfz62_8 := blk_frozen BK118.out 8
      have hcz63_0 : w58.cell? ⟨gb102, 0, none⟩ = some (.int .i64 0) := (blk_cell BK102.out 0).trans rfl
      have hcz63_1 : w58.cell? ⟨gb102, 1, none⟩ = some (.int .u32 0) := (blk_cell BK102.out 1).trans rfl
      have hcz63_2 : w58.cell? ⟨gb102, 2, none⟩ = some (.int .u32 0) := (blk_cell BK102.out 2).trans rfl
      have hcz63_3 : w58.cell? ⟨gb102, 3, none⟩ = some (.int .u32 0) := (blk_cell BK102.out 3).trans rfl
      have hcz63_4 : w58.cell? ⟨gb102, 4, none⟩ = some (.int .u32 0) := (blk_cell BK102.out 4).trans rfl
      have hcz63_5 : w58.cell? ⟨gb102, 5, none⟩ = some (.int .i64 0) := (blk_cell BK102.out 5).trans rfl
      have hcz63_6 : w58.cell? ⟨gb102, 6, none⟩ = some (.bool false) := (blk_cell BK102.out 6).trans rfl
      have hcz63_7 : w58.cell? ⟨gb102, 7, none⟩ = some (.int .u32 0) := (blk_cell BK102.out 7).trans rfl
      have hcz63_8 : w58.cell? ⟨gb102, 8, none⟩ = some (.int .u16 0) := (blk_cell BK102.out 8).trans rfl
      have hfz63_0 := blk_frozen BK102.out 0
      have hfz63_1 := blk_frozen BK102.out 1
      have hfz63_2 := blk_frozen BK102.out 2
      have hfz63_3 := blk_frozen BK102.out 3
      have hfz63_4 := blk_frozen BK102.out 4
      have hfz63_5 := blk_frozen BK102.out 5
      have hfz63_6 := blk_frozen BK102.out 6
      have hfz63_7 := blk_frozen BK102.out 7
      have hfz63_8 := blk_frozen BK102.out 8
      try go_wp2
      refine bodyPost_ret (results_ct rfl _ _ gb102 50 #[.int .i64 (wrap64 (rd l0 0)), .int .u32 t109, .int .u32 t111, .int .u32 t113, .int .u32 t115, .int .i64 (wrap64 (rd l0 20)), .bool ((rd l0 1) == 1), .int .u32 t120, .int .u16 (Go.bits .or .u16 (IntKind.u16.wrap ((IntKind.u16.wrap (rd l0 2)) * 256)) (IntKind.u16.wrap (rd l0 3)))] (0, 0) _ rfl (by (with_reducible repeat (first | refine blk_drewN ?_ _ | refine blk_drew ?_ | refine blk_alloc ?_ _)); refine blk_put (cs := #[.int .i64 (wrap64 (rd l0 0)), .int .u32 t109, .int .u32 t111, .int .u32 t113, .int .u32 t115, .int .i64 (wrap64 (rd l0 20)), .bool ((rd l0 1) == 1), .int .u32 t120, .int .u16 0]) ?_ 8 _ rfl; (with_reducible repeat (first | refine blk_drewN ?_ _ | refine blk_drew ?_ | refine blk_alloc ?_ _)); refine blk_put (cs := #[.int .i64 (wrap64 (rd l0 0)), .int .u32 t109, .int .u32 t111, .int .u32 t113, .int .u32 t115, .int .i64 (wrap64 (rd l0 20)), .bool ((rd l0 1) == 1), .int .u32 0, .int .u16 0]) ?_ 7 _ rfl; (with_reducible repeat (first | refine blk_drewN ?_ _ | refine blk_drew ?_ | refine blk_alloc ?_ _)); refine blk_put (cs := #[.int .i64 (wrap64 (rd l0 0)), .int .u32 t109, .int .u32 t111, .int .u32 t113, .int .u32 t115, .int .i64 (wrap64 (rd l0 20)), .bool false, .int .u32 0, .int .u16 0]) ?_ 6 _ rfl; (with_reducible repeat (first | refine blk_drewN ?_ _ | refine blk_drew ?_ | refine blk_alloc ?_ _)); refine blk_put (cs := #[.int .i64 (wrap64 (rd l0 0)), .int .u32 t109, .int .u32 t111, .int .u32 t113, .int .u32 t115, .int .i64 0, .bool false, .int .u32 0, .int .u16 0]) ?_ 5 _ rfl; (with_reducible repeat (first | refine blk_drewN ?_ _ | refine blk_drew ?_ | refine blk_alloc ?_ _)); refine blk_put (cs := #[.int .i64 (wrap64 (rd l0 0)), .int .u32 t109, .int .u32 t111, .int .u32 t113, .int .u32 0, .int .i64 0, .bool false, .int .u32 0, .int .u16 0]) ?_ 4 _ rfl; (with_reducible repeat (first | refine blk_drewN ?_ _ | refine blk_drew ?_ | refine blk_alloc ?_ _)); refine blk_put (cs := #[.int .i64 (wrap64 (rd l0 0)), .int .u32 t109, .int .u32 t111, .int .u32 0, .int .u32 0, .int .i64 0, .bool false, .int .u32 0, .int .u16 0]) ?_ 3 _ rfl; (with_reducible repeat (first | refine blk_drewN ?_ _ | refine blk_drew ?_ | refine blk_alloc ?_ _)); refine blk_put (cs := #[.int .i64 (wrap64 (rd l0 0)), .int .u32 t109, .int .u32 0, .int .u32 0, .int .u32 0, .int .i64 0, .bool false, .int .u32 0, .int .u16 0]) ?_ 2 _ rfl; (with_reducible repeat (first | refine blk_drewN ?_ _ | refine blk_drew ?_ | refine blk_alloc ?_ _)); refine blk_put (cs := #[.int .i64 (wrap64 (rd l0 0)), .int .u32 0, .int .u32 0, .int .u32 0, .int .u32 0, .int .i64 0, .bool false, .int .u32 0, .int .u16 0]) ?_ 1 _ rfl; (with_reducible repeat (first | refine blk_drewN ?_ _ | refine blk_drew ?_ | refine blk_alloc ?_ _)); refine blk_put (cs := #[.int .i64 0, .int .u32 0, .int .u32 0, .int .u32 0, .int .u32 0, .int .i64 0, .bool false, .int .u32 0, .int .u16 0]) ?_ 0 _ rfl; (with_reducible repeat (first | refine blk_drewN ?_ _ | refine blk_drew ?_ | refine blk_alloc ?_ _)); exact BK102.out) Try.underlying50 rfl (by kernel_rfl)) rfl ?_
      exact ⟨by first | rfl | (simp [errW_none, errW_some] <;> rfl) | (simp [*, errW_none, errW_some] <;> rfl), by repeat (first | (with_reducible first | exact HB.out | apply below_alloc | apply pw_below_drewN | apply below_drew1 | refine below_set ?_ GE102.out | refine below_set ?_ GE118.out) | exact HB.out)⟩
end Go.Proofs.YtgmdjhokcipajaaQ.PRec
