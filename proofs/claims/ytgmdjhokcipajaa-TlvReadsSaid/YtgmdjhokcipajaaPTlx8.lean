-- written by this session's turned copy of the kit's print.py; Lean checks it
import Derived.Test.YtgmdjhokcipajaaPTlx0
import Derived.Test.YtgmdjhokcipajaaPTlx7
namespace Go.Proofs.YtgmdjhokcipajaaQ.PTlx
open Go.RowKit Go.Proofs.YtgmdjhokcipajaaW.PrintWords Go.Proofs.YtgmdjhokcipajaaW.PrintLast Go.Proofs.YtgmdjhokcipajaaW.PrintMore
attribute [local go_sem] max2_int min2_int max_two min_two max_three min_three max_four min_four   -- for this text's walks alone
set_option linter.unusedVariables false
set_option linter.unusedSimpArgs false

/-! ### wayfarerlaw08_decode: function 41 -/
set_option maxHeartbeats 0 in
set_option maxRecDepth 100000 in
theorem wayfarerlaw08_decode.calls (k : Nat) (A0 : Option Addr) (c0 : Nat) (l0 : List Int) (r1 : List (S62)) (r2 : Bool) (w : World) (hr0 : Kd.C (Kd.int .u8) w A0 l0.length l0) (hc0 : l0.length ≤ c0) (h : wayfarerlaw08_decode.f k l0 = some (r1, r2)) :
    Calls Try.prog 41 #[.slice A0 l0.length c0] w fun e w' => ∃ v0_ : Value, e = .returned (.tuple #[v0_, .bool r2]) ∧ Kd.R k62 62 w' w.heap.size (fun _ => True) v0_ r1 ∧ Below w.heap.size w w' := by
  have hu29 := Try.underlying29
  have hu39 := Try.underlying39
  have hu62 := Try.underlying62
  have HR0 := Aside0.mk hr0
  have HC0 := Aside0.mk hc0
  clear hr0 hc0
  have HB := Aside0.mk (Below.refl w.heap.size w)
  have H : (if (l0.length : Int) < 4 then (wayfarerlaw08_decode.j0 k l0 true) else (if (l0.length : Int) > 1024 then (wayfarerlaw08_decode.j0 k l0 true) else (if 0 < (l0.length : Int) then (if (rd l0 0) = 87 then (if 1 < (l0.length : Int) then (if (rd l0 1) = 1 then (if 2 < (l0.length : Int) then (if 3 < (l0.length : Int) then (wayfarerlaw08_decode.j0 k l0 ((wrap64 ((wrap64 (256 * (wrap64 (rd l0 2)))) + (wrap64 (rd l0 3)))) != (wrap64 ((l0.length : Int) - 4)))) else (none)) else (none)) else (wayfarerlaw08_decode.j0 k l0 true)) else (none)) else (wayfarerlaw08_decode.j0 k l0 true)) else (none)))) = some (r1, r2) := h
  clear h
  have HC2 := Aside0.mk H
  clear H
  go_enter Try.func41, Try.ntmps41
  go_upto_region 1 with (fail)
  go_cut [47] (fun v47 wc => ∃ (kq : Nat) (x47_1 : Bool), v47 = .bool x47_1 ∧ Aside0 (wayfarerlaw08_decode.j0 kq l0 x47_1 = some (r1, r2)) ∧ Aside0 (kq ≤ k) ∧ Aside0 (Below w.heap.size w wc))
  case first => as_aux_lemma =>
    have H := HC2.out
    clear HC2
    by_cases c3 : (l0.length : Int) < 4
    case pos =>
      rw [if_pos c3] at H; have c3b0 : decide ((l0.length : Int) < 4) = true := decide_eq_true c3
      have c3b1 : decide (l0.length < 4) = true := decide_eq_true (by omega)
      clear c3
      (first | rw [c3b0] | (simp only [i64_w, i32_w]; rw [c3b0]) | skip)
      have H' := Aside0.mk H
      clear H
      try go_wp2
      have n0_ := Aside0.mk (below_drew1 HB.out)
      clear HB
      have HB := n0_
      clear n0_
      refine start_ (n := 36) (S := fun w' => True) (ds := []) (bA 36 0) (by kernel_rfl) rfl rfl trivial (fun hHeld => ?_); refine with_tabW wayfarerlaw08_decode.tab1 wayfarerlaw08_decode.bits1 (fun HT_ HW_ => ?_)
      generalize w.drew = w4 at HB hHeld ⊢
      refine pure_ (i := 0) (N := some 12) (v := ?_) (a' := ?_) (bA 36 1) rfl rfl (any_of HT_.out (by kernel_rfl)) (fun _ _ _ h => h) (Or.inl ⟨by rfl, ?_⟩) ?_ ?_; rotate_left
      · intro w'; go_simp; with_reducible rfl
      rotate_left; · simp only [Act.put, List.setIfInBounds_toArray, List.set_cons_zero, List.set_cons_succ, i64_w, i32_w]; rfl
      refine pure_ (i := 1) (N := some 13) (v := ?_) (a' := ?_) (bA 36 3) rfl rfl (any_of HT_.out (by kernel_rfl)) (fun _ _ _ h => h) (Or.inl ⟨by rfl, ?_⟩) ?_ ?_; rotate_left
      · intro w'; go_simp; with_reducible rfl
      rotate_left; · simp only [Act.put, List.setIfInBounds_toArray, List.set_cons_zero, List.set_cons_succ, i64_w, i32_w]; rfl
      refine pure_ (i := 2) (N := some 14) (v := ?_) (a' := ?_) (bA 36 7) rfl rfl (any_of HT_.out (by kernel_rfl)) (fun _ _ _ h => h) (Or.inl ⟨by rfl, ?_⟩) ?_ ?_; rotate_left
      · intro w'; go_simp; with_reducible rfl
      rotate_left; · simp only [Act.put, List.setIfInBounds_toArray, List.set_cons_zero, List.set_cons_succ, i64_w, i32_w]; rfl
      refine pure_ (i := 3) (N := some 15) (v := ?_) (a' := ?_) (bA 36 15) rfl rfl (any_of HT_.out (by kernel_rfl)) (fun _ _ _ h => h) (Or.inl ⟨by rfl, ?_⟩) ?_ ?_; rotate_left
      · intro w'; go_simp; with_reducible rfl
      rotate_left; · simp only [Act.put, List.setIfInBounds_toArray, List.set_cons_zero, List.set_cons_succ, i64_w, i32_w]; rfl
      refine pure_ (i := 4) (N := some 16) (v := undef) (a' := ?_) (bA 36 31) rfl rfl (any_of HT_.out (by kernel_rfl)) (fun _ _ _ h => h) (Or.inr ⟨by rfl, rfl⟩) ?_ ?_; rotate_left
      · simp only [Act.put, List.setIfInBounds_toArray, List.set_cons_zero, List.set_cons_succ, i64_w, i32_w]; rfl
      refine pure_ (i := 5) (N := some 17) (v := undef) (a' := ?_) (bA 36 63) rfl rfl (any_of HT_.out (by kernel_rfl)) (fun _ _ _ h => h) (Or.inr ⟨by rfl, rfl⟩) ?_ ?_; rotate_left
      · simp only [Act.put, List.setIfInBounds_toArray, List.set_cons_zero, List.set_cons_succ, i64_w, i32_w]; rfl
      refine pure_ (i := 6) (N := some 18) (v := undef) (a' := ?_) (bA 36 127) rfl rfl (any_of HT_.out (by kernel_rfl)) (fun _ _ _ h => h) (Or.inr ⟨by rfl, rfl⟩) ?_ ?_; rotate_left
      · simp only [Act.put, List.setIfInBounds_toArray, List.set_cons_zero, List.set_cons_succ, i64_w, i32_w]; rfl
      refine pure_ (i := 7) (N := some 19) (v := ?_) (a' := ?_) (bA 36 255) rfl rfl (any_of HT_.out (by kernel_rfl)) (fun _ _ _ h => h) (Or.inl ⟨by rfl, ?_⟩) ?_ ?_; rotate_left
      · intro w'; go_simp; with_reducible rfl
      rotate_left; · simp only [Act.put, List.setIfInBounds_toArray, List.set_cons_zero, List.set_cons_succ, i64_w, i32_w]; rfl
      refine pure_ (i := 8) (N := some 20) (v := ?_) (a' := ?_) (bA 36 511) rfl rfl (any_of HT_.out (by kernel_rfl)) (fun _ _ _ h => h) (Or.inl ⟨by rfl, ?_⟩) ?_ ?_; rotate_left
      · intro w'; go_simp; with_reducible rfl
      rotate_left; · simp only [Act.put, List.setIfInBounds_toArray, List.set_cons_zero, List.set_cons_succ, i64_w, i32_w]; rfl
      refine pure_ (i := 9) (N := some 21) (v := undef) (a' := ?_) (bA 36 1023) rfl rfl (any_of HT_.out (by kernel_rfl)) (fun _ _ _ h => h) (Or.inr ⟨by rfl, rfl⟩) ?_ ?_; rotate_left
      · simp only [Act.put, List.setIfInBounds_toArray, List.set_cons_zero, List.set_cons_succ, i64_w, i32_w]; rfl
      refine pure_ (i := 10) (N := some 22) (v := undef) (a' := ?_) (bA 36 2047) rfl rfl (any_of HT_.out (by kernel_rfl)) (fun _ _ _ h => h) (Or.inr ⟨by rfl, rfl⟩) ?_ ?_; rotate_left
      · simp only [Act.put, List.setIfInBounds_toArray, List.set_cons_zero, List.set_cons_succ, i64_w, i32_w]; rfl
      refine pure_ (i := 11) (N := some 23) (v := undef) (a' := ?_) (bA 36 4095) rfl rfl (any_of HT_.out (by kernel_rfl)) (fun _ _ _ h => h) (Or.inr ⟨by rfl, rfl⟩) ?_ ?_; rotate_left
      · simp only [Act.put, List.setIfInBounds_toArray, List.set_cons_zero, List.set_cons_succ, i64_w, i32_w]; rfl
      refine pure_ (i := 12) (N := some 24) (v := undef) (a' := ?_) (bA 36 8191) rfl rfl (any_of HT_.out (by kernel_rfl)) (fun _ _ _ h => h) (Or.inr ⟨by rfl, rfl⟩) ?_ ?_; rotate_left
      · simp only [Act.put, List.setIfInBounds_toArray, List.set_cons_zero, List.set_cons_succ, i64_w, i32_w]; rfl
      refine pure_ (i := 13) (N := some 25) (v := ?_) (a' := ?_) (bA 36 16383) rfl rfl (any_of HT_.out (by kernel_rfl)) (fun _ _ _ h => h) (Or.inl ⟨by rfl, ?_⟩) ?_ ?_; rotate_left
      · intro w'; go_simp; with_reducible rfl
      rotate_left; · simp only [Act.put, List.setIfInBounds_toArray, List.set_cons_zero, List.set_cons_succ, i64_w, i32_w]; rfl
      refine pure_ (i := 14) (N := some 26) (v := ?_) (a' := ?_) (bA 36 32767) rfl rfl (any_of HT_.out (by kernel_rfl)) (fun _ _ _ h => h) (Or.inl ⟨by rfl, ?_⟩) ?_ ?_; rotate_left
      · intro w'; go_simp; with_reducible rfl
      rotate_left; · simp only [Act.put, List.setIfInBounds_toArray, List.set_cons_zero, List.set_cons_succ, i64_w, i32_w]; rfl
      refine pure_ (i := 15) (N := some 27) (v := undef) (a' := ?_) (bA 36 65535) rfl rfl (any_of HT_.out (by kernel_rfl)) (fun _ _ _ h => h) (Or.inr ⟨by rfl, rfl⟩) ?_ ?_; rotate_left
      · simp only [Act.put, List.setIfInBounds_toArray, List.set_cons_zero, List.set_cons_succ, i64_w, i32_w]; rfl
      refine pure_ (i := 16) (N := some 28) (v := undef) (a' := ?_) (bA 36 131071) rfl rfl (any_of HT_.out (by kernel_rfl)) (fun _ _ _ h => h) (Or.inr ⟨by rfl, rfl⟩) ?_ ?_; rotate_left
      · simp only [Act.put, List.setIfInBounds_toArray, List.set_cons_zero, List.set_cons_succ, i64_w, i32_w]; rfl
      refine pure_ (i := 17) (N := some 29) (v := undef) (a' := ?_) (bA 36 262143) rfl rfl (any_of HT_.out (by kernel_rfl)) (fun _ _ _ h => h) (Or.inr ⟨by rfl, rfl⟩) ?_ ?_; rotate_left
      · simp only [Act.put, List.setIfInBounds_toArray, List.set_cons_zero, List.set_cons_succ, i64_w, i32_w]; rfl
      refine pure_ (i := 18) (N := some 30) (v := undef) (a' := ?_) (bA 36 524287) rfl rfl (any_of HT_.out (by kernel_rfl)) (fun _ _ _ h => h) (Or.inr ⟨by rfl, rfl⟩) ?_ ?_; rotate_left
      · simp only [Act.put, List.setIfInBounds_toArray, List.set_cons_zero, List.set_cons_succ, i64_w, i32_w]; rfl
      refine pure_ (i := 19) (N := some 31) (v := ?_) (a' := ?_) (bA 36 1048575) rfl rfl (any_of HT_.out (by kernel_rfl)) (fun _ _ _ h => h) (Or.inl ⟨by rfl, ?_⟩) ?_ ?_; rotate_left
      · intro w'; go_simp; with_reducible rfl
      rotate_left; · simp only [Act.put, List.setIfInBounds_toArray, List.set_cons_zero, List.set_cons_succ, i64_w, i32_w]; rfl
      refine pure_ (i := 20) (N := some 32) (v := ?_) (a' := ?_) (bA 36 2097151) rfl rfl (any_of HT_.out (by kernel_rfl)) (fun _ _ _ h => h) (Or.inl ⟨by rfl, ?_⟩) ?_ ?_; rotate_left
      · intro w'; go_simp; with_reducible rfl
      rotate_left; · simp only [Act.put, List.setIfInBounds_toArray, List.set_cons_zero, List.set_cons_succ, i64_w, i32_w]; rfl
      refine pure_ (i := 21) (N := some 33) (v := undef) (a' := ?_) (bA 36 4194303) rfl rfl (any_of HT_.out (by kernel_rfl)) (fun _ _ _ h => h) (Or.inr ⟨by rfl, rfl⟩) ?_ ?_; rotate_left
      · simp only [Act.put, List.setIfInBounds_toArray, List.set_cons_zero, List.set_cons_succ, i64_w, i32_w]; rfl
      refine pure_ (i := 22) (N := some 34) (v := undef) (a' := ?_) (bA 36 8388607) rfl rfl (any_of HT_.out (by kernel_rfl)) (fun _ _ _ h => h) (Or.inr ⟨by rfl, rfl⟩) ?_ ?_; rotate_left
      · simp only [Act.put, List.setIfInBounds_toArray, List.set_cons_zero, List.set_cons_succ, i64_w, i32_w]; rfl
      refine pure_ (i := 23) (N := some 35) (v := undef) (a' := ?_) (bA 36 16777215) rfl rfl (any_of HT_.out (by kernel_rfl)) (fun _ _ _ h => h) (Or.inr ⟨by rfl, rfl⟩) ?_ ?_; rotate_left
      · simp only [Act.put, List.setIfInBounds_toArray, List.set_cons_zero, List.set_cons_succ, i64_w, i32_w]; rfl
      refine pure_ (i := 24) (N := some 36) (v := undef) (a' := ?_) (bA 36 33554431) rfl rfl (any_of HT_.out (by kernel_rfl)) (fun _ _ _ h => h) (Or.inr ⟨by rfl, rfl⟩) ?_ ?_; rotate_left
      · simp only [Act.put, List.setIfInBounds_toArray, List.set_cons_zero, List.set_cons_succ, i64_w, i32_w]; rfl
      refine pure_ (i := 25) (N := some 37) (v := undef) (a' := ?_) (bA 36 67108863) rfl rfl (any_of HT_.out (by kernel_rfl)) (fun _ _ _ h => h) (Or.inr ⟨by rfl, rfl⟩) ?_ ?_; rotate_left
      · simp only [Act.put, List.setIfInBounds_toArray, List.set_cons_zero, List.set_cons_succ, i64_w, i32_w]; rfl
      refine pure_ (i := 26) (N := some 38) (v := undef) (a' := ?_) (bA 36 134217727) rfl rfl (any_of HT_.out (by kernel_rfl)) (fun _ _ _ h => h) (Or.inr ⟨by rfl, rfl⟩) ?_ ?_; rotate_left
      · simp only [Act.put, List.setIfInBounds_toArray, List.set_cons_zero, List.set_cons_succ, i64_w, i32_w]; rfl
      refine pure_ (i := 27) (N := some 39) (v := undef) (a' := ?_) (bA 36 268435455) rfl rfl (any_of HT_.out (by kernel_rfl)) (fun _ _ _ h => h) (Or.inr ⟨by rfl, rfl⟩) ?_ ?_; rotate_left
      · simp only [Act.put, List.setIfInBounds_toArray, List.set_cons_zero, List.set_cons_succ, i64_w, i32_w]; rfl
      refine pure_ (i := 28) (N := some 40) (v := undef) (a' := ?_) (bA 36 536870911) rfl rfl (any_of HT_.out (by kernel_rfl)) (fun _ _ _ h => h) (Or.inr ⟨by rfl, rfl⟩) ?_ ?_; rotate_left
      · simp only [Act.put, List.setIfInBounds_toArray, List.set_cons_zero, List.set_cons_succ, i64_w, i32_w]; rfl
      refine pure_ (i := 29) (N := some 41) (v := undef) (a' := ?_) (bA 36 1073741823) rfl rfl (any_of HT_.out (by kernel_rfl)) (fun _ _ _ h => h) (Or.inr ⟨by rfl, rfl⟩) ?_ ?_; rotate_left
      · simp only [Act.put, List.setIfInBounds_toArray, List.set_cons_zero, List.set_cons_succ, i64_w, i32_w]; rfl
      refine pure_ (i := 30) (N := some 42) (v := undef) (a' := ?_) (bA 36 2147483647) rfl rfl (any_of HT_.out (by kernel_rfl)) (fun _ _ _ h => h) (Or.inr ⟨by rfl, rfl⟩) ?_ ?_; rotate_left
      · simp only [Act.put, List.setIfInBounds_toArray, List.set_cons_zero, List.set_cons_succ, i64_w, i32_w]; rfl
      refine pure_ (i := 31) (N := some 43) (v := undef) (a' := ?_) (bA 36 4294967295) rfl rfl (any_of HT_.out (by kernel_rfl)) (fun _ _ _ h => h) (Or.inr ⟨by rfl, rfl⟩) ?_ ?_; rotate_left
      · simp only [Act.put, List.setIfInBounds_toArray, List.set_cons_zero, List.set_cons_succ, i64_w, i32_w]; rfl
      refine pure_ (i := 32) (N := some 44) (v := undef) (a' := ?_) (bA 36 8589934591) rfl rfl (any_of HT_.out (by kernel_rfl)) (fun _ _ _ h => h) (Or.inr ⟨by rfl, rfl⟩) ?_ ?_; rotate_left
      · simp only [Act.put, List.setIfInBounds_toArray, List.set_cons_zero, List.set_cons_succ, i64_w, i32_w]; rfl
      refine pure_ (i := 33) (N := some 45) (v := undef) (a' := ?_) (bA 36 17179869183) rfl rfl (any_of HT_.out (by kernel_rfl)) (fun _ _ _ h => h) (Or.inr ⟨by rfl, rfl⟩) ?_ ?_; rotate_left
      · simp only [Act.put, List.setIfInBounds_toArray, List.set_cons_zero, List.set_cons_succ, i64_w, i32_w]; rfl
      refine pure_ (i := 34) (N := some 46) (v := undef) (a' := ?_) (bA 36 34359738367) rfl rfl (any_of HT_.out (by kernel_rfl)) (fun _ _ _ h => h) (Or.inr ⟨by rfl, rfl⟩) ?_ ?_; rotate_left
      · simp only [Act.put, List.setIfInBounds_toArray, List.set_cons_zero, List.set_cons_succ, i64_w, i32_w]; rfl
      refine pure_ (i := 35) (N := some 47) (v := ?_) (a' := ?_) (bA 36 68719476735) rfl rfl (any_of HT_.out (by kernel_rfl)) (fun _ _ _ h => h) (Or.inl ⟨by rfl, ?_⟩) ?_ ?_; rotate_left
      · intro w'; go_simp; with_reducible rfl
      rotate_left; · simp only [Act.put, List.setIfInBounds_toArray, List.set_cons_zero, List.set_cons_succ, i64_w, i32_w]; rfl
      refine done_ (done_of HT_.out (by kernel_rfl)) ?_
      try go_wp2
      go_meet
      case rel => exact ⟨_, (true), (by first | rfl | (simp; done) | (simp [*]; done)), H', ⟨by first | omega | exact Nat.le_refl _⟩, ⟨by repeat (first | (with_reducible first | exact HB.out | apply below_alloc | apply pw_below_drewN | apply below_drew1) | exact HB.out)⟩⟩
    rw [if_neg c3] at H; have c3b0 : decide ((l0.length : Int) < 4) = false := decide_eq_false c3
    have c3b1 : decide (l0.length < 4) = false := decide_eq_false (by omega)
    clear c3
    (first | rw [c3b0] | (simp only [i64_w, i32_w]; rw [c3b0]) | skip)
    by_cases c5 : (l0.length : Int) > 1024
    case pos =>
      rw [if_pos c5] at H; have c5b0 : decide (1024 < (l0.length : Int)) = true := decide_eq_true c5
      have c5b1 : decide (1024 < l0.length) = true := decide_eq_true (by omega)
      clear c5
      have H' := Aside0.mk H
      clear H
      try go_wp2
      have n0_ := Aside0.mk (below_drew1 HB.out)
      clear HB
      have HB := n0_
      clear n0_
      refine start_ (n := 36) (S := fun w' => True) (ds := []) (bA 36 0) (by kernel_rfl) rfl rfl trivial (fun hHeld => ?_); refine with_tabW wayfarerlaw08_decode.tab1 wayfarerlaw08_decode.bits1 (fun HT_ HW_ => ?_)
      generalize w.drew = w6 at HB hHeld ⊢
      refine pure_ (i := 0) (N := some 12) (v := ?_) (a' := ?_) (bA 36 1) rfl rfl (any_of HT_.out (by kernel_rfl)) (fun _ _ _ h => h) (Or.inl ⟨by rfl, ?_⟩) ?_ ?_; rotate_left
      · intro w'; go_simp; with_reducible rfl
      rotate_left; · simp only [Act.put, List.setIfInBounds_toArray, List.set_cons_zero, List.set_cons_succ, i64_w, i32_w]; rfl
      refine pure_ (i := 1) (N := some 13) (v := ?_) (a' := ?_) (bA 36 3) rfl rfl (any_of HT_.out (by kernel_rfl)) (fun _ _ _ h => h) (Or.inl ⟨by rfl, ?_⟩) ?_ ?_; rotate_left
      · intro w'; go_simp; with_reducible rfl
      rotate_left; · simp only [Act.put, List.setIfInBounds_toArray, List.set_cons_zero, List.set_cons_succ, i64_w, i32_w]; rfl
      refine pure_ (i := 2) (N := some 14) (v := ?_) (a' := ?_) (bA 36 7) rfl rfl (any_of HT_.out (by kernel_rfl)) (fun _ _ _ h => h) (Or.inl ⟨by rfl, ?_⟩) ?_ ?_; rotate_left
      · intro w'; go_simp; with_reducible rfl
      rotate_left; · simp only [Act.put, List.setIfInBounds_toArray, List.set_cons_zero, List.set_cons_succ, i64_w, i32_w]; rfl
      refine pure_ (i := 3) (N := some 15) (v := ?_) (a' := ?_) (bA 36 15) rfl rfl (any_of HT_.out (by kernel_rfl)) (fun _ _ _ h => h) (Or.inl ⟨by rfl, ?_⟩) ?_ ?_; rotate_left
      · intro w'; go_simp; with_reducible rfl
      rotate_left; · simp only [Act.put, List.setIfInBounds_toArray, List.set_cons_zero, List.set_cons_succ, i64_w, i32_w]; rfl
      refine pure_ (i := 4) (N := some 16) (v := ?_) (a' := ?_) (bA 36 31) rfl rfl (any_of HT_.out (by kernel_rfl)) (fun _ _ _ h => h) (Or.inl ⟨by rfl, ?_⟩) ?_ ?_; rotate_left
      · intro w'; go_simp; with_reducible rfl
      rotate_left; · simp only [Act.put, List.setIfInBounds_toArray, List.set_cons_zero, List.set_cons_succ, i64_w, i32_w]; rfl
      refine pure_ (i := 5) (N := some 17) (v := ?_) (a' := ?_) (bA 36 63) rfl rfl (any_of HT_.out (by kernel_rfl)) (fun _ _ _ h => h) (Or.inl ⟨by rfl, ?_⟩) ?_ ?_; rotate_left
      · intro w'; go_simp; with_reducible rfl
      rotate_left; · simp only [Act.put, List.setIfInBounds_toArray, List.set_cons_zero, List.set_cons_succ, i64_w, i32_w]; rfl
      refine pure_ (i := 6) (N := some 18) (v := ?_) (a' := ?_) (bA 36 127) rfl rfl (any_of HT_.out (by kernel_rfl)) (fun _ _ _ h => h) (Or.inl ⟨by rfl, ?_⟩) ?_ ?_; rotate_left
      · intro w'; go_simp; with_reducible rfl
      rotate_left; · simp only [Act.put, List.setIfInBounds_toArray, List.set_cons_zero, List.set_cons_succ, i64_w, i32_w]; rfl
      refine pure_ (i := 7) (N := some 19) (v := ?_) (a' := ?_) (bA 36 255) rfl rfl (any_of HT_.out (by kernel_rfl)) (fun _ _ _ h => h) (Or.inl ⟨by rfl, ?_⟩) ?_ ?_; rotate_left
      · intro w'; go_simp; with_reducible rfl
      rotate_left; · simp only [Act.put, List.setIfInBounds_toArray, List.set_cons_zero, List.set_cons_succ, i64_w, i32_w]; rfl
      refine pure_ (i := 8) (N := some 20) (v := ?_) (a' := ?_) (bA 36 511) rfl rfl (any_of HT_.out (by kernel_rfl)) (fun _ _ _ h => h) (Or.inl ⟨by rfl, ?_⟩) ?_ ?_; rotate_left
      · intro w'; go_simp; with_reducible rfl
      rotate_left; · simp only [Act.put, List.setIfInBounds_toArray, List.set_cons_zero, List.set_cons_succ, i64_w, i32_w]; rfl
      refine pure_ (i := 9) (N := some 21) (v := undef) (a' := ?_) (bA 36 1023) rfl rfl (any_of HT_.out (by kernel_rfl)) (fun _ _ _ h => h) (Or.inr ⟨by rfl, rfl⟩) ?_ ?_; rotate_left
      · simp only [Act.put, List.setIfInBounds_toArray, List.set_cons_zero, List.set_cons_succ, i64_w, i32_w]; rfl
      refine pure_ (i := 10) (N := some 22) (v := undef) (a' := ?_) (bA 36 2047) rfl rfl (any_of HT_.out (by kernel_rfl)) (fun _ _ _ h => h) (Or.inr ⟨by rfl, rfl⟩) ?_ ?_; rotate_left
      · simp only [Act.put, List.setIfInBounds_toArray, List.set_cons_zero, List.set_cons_succ, i64_w, i32_w]; rfl
      refine pure_ (i := 11) (N := some 23) (v := undef) (a' := ?_) (bA 36 4095) rfl rfl (any_of HT_.out (by kernel_rfl)) (fun _ _ _ h => h) (Or.inr ⟨by rfl, rfl⟩) ?_ ?_; rotate_left
      · simp only [Act.put, List.setIfInBounds_toArray, List.set_cons_zero, List.set_cons_succ, i64_w, i32_w]; rfl
      refine pure_ (i := 12) (N := some 24) (v := undef) (a' := ?_) (bA 36 8191) rfl rfl (any_of HT_.out (by kernel_rfl)) (fun _ _ _ h => h) (Or.inr ⟨by rfl, rfl⟩) ?_ ?_; rotate_left
      · simp only [Act.put, List.setIfInBounds_toArray, List.set_cons_zero, List.set_cons_succ, i64_w, i32_w]; rfl
      refine pure_ (i := 13) (N := some 25) (v := ?_) (a' := ?_) (bA 36 16383) rfl rfl (any_of HT_.out (by kernel_rfl)) (fun _ _ _ h => h) (Or.inl ⟨by rfl, ?_⟩) ?_ ?_; rotate_left
      · intro w'; go_simp; with_reducible rfl
      rotate_left; · simp only [Act.put, List.setIfInBounds_toArray, List.set_cons_zero, List.set_cons_succ, i64_w, i32_w]; rfl
      refine pure_ (i := 14) (N := some 26) (v := ?_) (a' := ?_) (bA 36 32767) rfl rfl (any_of HT_.out (by kernel_rfl)) (fun _ _ _ h => h) (Or.inl ⟨by rfl, ?_⟩) ?_ ?_; rotate_left
      · intro w'; go_simp; with_reducible rfl
      rotate_left; · simp only [Act.put, List.setIfInBounds_toArray, List.set_cons_zero, List.set_cons_succ, i64_w, i32_w]; rfl
      refine pure_ (i := 15) (N := some 27) (v := undef) (a' := ?_) (bA 36 65535) rfl rfl (any_of HT_.out (by kernel_rfl)) (fun _ _ _ h => h) (Or.inr ⟨by rfl, rfl⟩) ?_ ?_; rotate_left
      · simp only [Act.put, List.setIfInBounds_toArray, List.set_cons_zero, List.set_cons_succ, i64_w, i32_w]; rfl
      refine pure_ (i := 16) (N := some 28) (v := undef) (a' := ?_) (bA 36 131071) rfl rfl (any_of HT_.out (by kernel_rfl)) (fun _ _ _ h => h) (Or.inr ⟨by rfl, rfl⟩) ?_ ?_; rotate_left
      · simp only [Act.put, List.setIfInBounds_toArray, List.set_cons_zero, List.set_cons_succ, i64_w, i32_w]; rfl
      refine pure_ (i := 17) (N := some 29) (v := undef) (a' := ?_) (bA 36 262143) rfl rfl (any_of HT_.out (by kernel_rfl)) (fun _ _ _ h => h) (Or.inr ⟨by rfl, rfl⟩) ?_ ?_; rotate_left
      · simp only [Act.put, List.setIfInBounds_toArray, List.set_cons_zero, List.set_cons_succ, i64_w, i32_w]; rfl
      refine pure_ (i := 18) (N := some 30) (v := undef) (a' := ?_) (bA 36 524287) rfl rfl (any_of HT_.out (by kernel_rfl)) (fun _ _ _ h => h) (Or.inr ⟨by rfl, rfl⟩) ?_ ?_; rotate_left
      · simp only [Act.put, List.setIfInBounds_toArray, List.set_cons_zero, List.set_cons_succ, i64_w, i32_w]; rfl
      refine pure_ (i := 19) (N := some 31) (v := ?_) (a' := ?_) (bA 36 1048575) rfl rfl (any_of HT_.out (by kernel_rfl)) (fun _ _ _ h => h) (Or.inl ⟨by rfl, ?_⟩) ?_ ?_; rotate_left
      · intro w'; go_simp; with_reducible rfl
      rotate_left; · simp only [Act.put, List.setIfInBounds_toArray, List.set_cons_zero, List.set_cons_succ, i64_w, i32_w]; rfl
      refine pure_ (i := 20) (N := some 32) (v := ?_) (a' := ?_) (bA 36 2097151) rfl rfl (any_of HT_.out (by kernel_rfl)) (fun _ _ _ h => h) (Or.inl ⟨by rfl, ?_⟩) ?_ ?_; rotate_left
      · intro w'; go_simp; with_reducible rfl
      rotate_left; · simp only [Act.put, List.setIfInBounds_toArray, List.set_cons_zero, List.set_cons_succ, i64_w, i32_w]; rfl
      refine pure_ (i := 21) (N := some 33) (v := undef) (a' := ?_) (bA 36 4194303) rfl rfl (any_of HT_.out (by kernel_rfl)) (fun _ _ _ h => h) (Or.inr ⟨by rfl, rfl⟩) ?_ ?_; rotate_left
      · simp only [Act.put, List.setIfInBounds_toArray, List.set_cons_zero, List.set_cons_succ, i64_w, i32_w]; rfl
      refine pure_ (i := 22) (N := some 34) (v := undef) (a' := ?_) (bA 36 8388607) rfl rfl (any_of HT_.out (by kernel_rfl)) (fun _ _ _ h => h) (Or.inr ⟨by rfl, rfl⟩) ?_ ?_; rotate_left
      · simp only [Act.put, List.setIfInBounds_toArray, List.set_cons_zero, List.set_cons_succ, i64_w, i32_w]; rfl
      refine pure_ (i := 23) (N := some 35) (v := undef) (a' := ?_) (bA 36 16777215) rfl rfl (any_of HT_.out (by kernel_rfl)) (fun _ _ _ h => h) (Or.inr ⟨by rfl, rfl⟩) ?_ ?_; rotate_left
      · simp only [Act.put, List.setIfInBounds_toArray, List.set_cons_zero, List.set_cons_succ, i64_w, i32_w]; rfl
      refine pure_ (i := 24) (N := some 36) (v := undef) (a' := ?_) (bA 36 33554431) rfl rfl (any_of HT_.out (by kernel_rfl)) (fun _ _ _ h => h) (Or.inr ⟨by rfl, rfl⟩) ?_ ?_; rotate_left
      · simp only [Act.put, List.setIfInBounds_toArray, List.set_cons_zero, List.set_cons_succ, i64_w, i32_w]; rfl
      refine pure_ (i := 25) (N := some 37) (v := undef) (a' := ?_) (bA 36 67108863) rfl rfl (any_of HT_.out (by kernel_rfl)) (fun _ _ _ h => h) (Or.inr ⟨by rfl, rfl⟩) ?_ ?_; rotate_left
      · simp only [Act.put, List.setIfInBounds_toArray, List.set_cons_zero, List.set_cons_succ, i64_w, i32_w]; rfl
      refine pure_ (i := 26) (N := some 38) (v := undef) (a' := ?_) (bA 36 134217727) rfl rfl (any_of HT_.out (by kernel_rfl)) (fun _ _ _ h => h) (Or.inr ⟨by rfl, rfl⟩) ?_ ?_; rotate_left
      · simp only [Act.put, List.setIfInBounds_toArray, List.set_cons_zero, List.set_cons_succ, i64_w, i32_w]; rfl
      refine pure_ (i := 27) (N := some 39) (v := undef) (a' := ?_) (bA 36 268435455) rfl rfl (any_of HT_.out (by kernel_rfl)) (fun _ _ _ h => h) (Or.inr ⟨by rfl, rfl⟩) ?_ ?_; rotate_left
      · simp only [Act.put, List.setIfInBounds_toArray, List.set_cons_zero, List.set_cons_succ, i64_w, i32_w]; rfl
      refine pure_ (i := 28) (N := some 40) (v := undef) (a' := ?_) (bA 36 536870911) rfl rfl (any_of HT_.out (by kernel_rfl)) (fun _ _ _ h => h) (Or.inr ⟨by rfl, rfl⟩) ?_ ?_; rotate_left
      · simp only [Act.put, List.setIfInBounds_toArray, List.set_cons_zero, List.set_cons_succ, i64_w, i32_w]; rfl
      refine pure_ (i := 29) (N := some 41) (v := undef) (a' := ?_) (bA 36 1073741823) rfl rfl (any_of HT_.out (by kernel_rfl)) (fun _ _ _ h => h) (Or.inr ⟨by rfl, rfl⟩) ?_ ?_; rotate_left
      · simp only [Act.put, List.setIfInBounds_toArray, List.set_cons_zero, List.set_cons_succ, i64_w, i32_w]; rfl
      refine pure_ (i := 30) (N := some 42) (v := undef) (a' := ?_) (bA 36 2147483647) rfl rfl (any_of HT_.out (by kernel_rfl)) (fun _ _ _ h => h) (Or.inr ⟨by rfl, rfl⟩) ?_ ?_; rotate_left
      · simp only [Act.put, List.setIfInBounds_toArray, List.set_cons_zero, List.set_cons_succ, i64_w, i32_w]; rfl
      refine pure_ (i := 31) (N := some 43) (v := undef) (a' := ?_) (bA 36 4294967295) rfl rfl (any_of HT_.out (by kernel_rfl)) (fun _ _ _ h => h) (Or.inr ⟨by rfl, rfl⟩) ?_ ?_; rotate_left
      · simp only [Act.put, List.setIfInBounds_toArray, List.set_cons_zero, List.set_cons_succ, i64_w, i32_w]; rfl
      refine pure_ (i := 32) (N := some 44) (v := undef) (a' := ?_) (bA 36 8589934591) rfl rfl (any_of HT_.out (by kernel_rfl)) (fun _ _ _ h => h) (Or.inr ⟨by rfl, rfl⟩) ?_ ?_; rotate_left
      · simp only [Act.put, List.setIfInBounds_toArray, List.set_cons_zero, List.set_cons_succ, i64_w, i32_w]; rfl
      refine pure_ (i := 33) (N := some 45) (v := undef) (a' := ?_) (bA 36 17179869183) rfl rfl (any_of HT_.out (by kernel_rfl)) (fun _ _ _ h => h) (Or.inr ⟨by rfl, rfl⟩) ?_ ?_; rotate_left
      · simp only [Act.put, List.setIfInBounds_toArray, List.set_cons_zero, List.set_cons_succ, i64_w, i32_w]; rfl
      refine pure_ (i := 34) (N := some 46) (v := undef) (a' := ?_) (bA 36 34359738367) rfl rfl (any_of HT_.out (by kernel_rfl)) (fun _ _ _ h => h) (Or.inr ⟨by rfl, rfl⟩) ?_ ?_; rotate_left
      · simp only [Act.put, List.setIfInBounds_toArray, List.set_cons_zero, List.set_cons_succ, i64_w, i32_w]; rfl
      refine pure_ (i := 35) (N := some 47) (v := ?_) (a' := ?_) (bA 36 68719476735) rfl rfl (any_of HT_.out (by kernel_rfl)) (fun _ _ _ h => h) (Or.inl ⟨by rfl, ?_⟩) ?_ ?_; rotate_left
      · intro w'; go_simp; with_reducible rfl
      rotate_left; · simp only [Act.put, List.setIfInBounds_toArray, List.set_cons_zero, List.set_cons_succ, i64_w, i32_w]; rfl
      refine done_ (done_of HT_.out (by kernel_rfl)) ?_
      try go_wp2
      go_meet
      case rel => exact ⟨_, (true), (by first | rfl | (simp; done) | (simp [*]; done)), H', ⟨by first | omega | exact Nat.le_refl _⟩, ⟨by repeat (first | (with_reducible first | exact HB.out | apply below_alloc | apply pw_below_drewN | apply below_drew1) | exact HB.out)⟩⟩
    rw [if_neg c5] at H; have c5b0 : decide (1024 < (l0.length : Int)) = false := decide_eq_false c5
    have c5b1 : decide (1024 < l0.length) = false := decide_eq_false (by omega)
    clear c5
    by_cases c7 : 0 < (l0.length : Int)
    case neg =>
      rw [if_neg c7] at H; exact absurd H (by simp)
    rw [if_pos c7] at H; have c7b0 : decide (0 < (l0.length : Int)) = true := decide_eq_true c7
    have c7b1 : decide (0 < l0.length) = true := decide_eq_true (by omega)
    clear c7
    by_cases c8 : (rd l0 0) = 87
    case neg =>
      rw [if_neg c8] at H; have c8b0 : ((rd l0 0) == 87) = false := beq_eq_false_iff_ne.mpr c8
      have c8b1 : ((rd l0 0) != 87) = true := bne_iff_ne.mpr c8
      have H' := Aside0.mk H
      clear H
      try go_wp2
      have n0_ := Aside0.mk (below_drew1 HB.out)
      clear HB
      have HB := n0_
      clear n0_
      have p190 : 0 ≤ (0 : Int) := (by omega)
      have q190 : 0 < (l0.length : Int) := of_decide_eq_true (by first | (with_reducible assumption) | assumption)
      obtain ⟨ad190, e190, hx190_0⟩ := Kd.at_int HR0.out 0 p190 q190
      have hw190_0 := hx190_0
      (try rw [show ((0 : Int)).toNat = 0 from rfl] at hw190_0)
      (try rw [show 0 * 1 = 0 from rfl] at hw190_0)
      (try rw [Addr.add_zero'] at hw190_0)
      cases e190
      have qi190 : (0 < l0.length) = True := eq_true (by omega)
      (try rw [show ((0 : Int)).toNat = 0 from rfl] at hx190_0)
      (try rw [Addr.add_zero'] at hx190_0)
      replace hx190_0 := (HB.out.cell (World.block_lt_of_cell? w _ hx190_0)).trans hx190_0
      replace p190 := eq_true p190
      replace q190 := eq_true q190
      refine start_ (n := 36) (S := fun w' => w'.cell? ad190 = some (.int .u8 (rd l0 0))) (ds := []) (bA 36 0) (by kernel_rfl) rfl rfl (((HB.out.cell (World.block_lt_of_cell? w _ hw190_0)).trans hw190_0)) (fun hHeld => ?_); refine with_tabW wayfarerlaw08_decode.tab1 wayfarerlaw08_decode.bits1 (fun HT_ HW_ => ?_)
      generalize w.drew = w15 at HB hx190_0 hHeld ⊢
      refine pure_ (i := 0) (N := some 12) (v := ?_) (a' := ?_) (bA 36 1) rfl rfl (any_of HT_.out (by kernel_rfl)) (fun _ _ _ h => h) (Or.inl ⟨by rfl, ?_⟩) ?_ ?_; rotate_left
      · intro w'; go_simp; with_reducible rfl
      rotate_left; · simp only [Act.put, List.setIfInBounds_toArray, List.set_cons_zero, List.set_cons_succ, i64_w, i32_w]; rfl
      refine pure_ (i := 1) (N := some 13) (v := ?_) (a' := ?_) (bA 36 3) rfl rfl (any_of HT_.out (by kernel_rfl)) (fun _ _ _ h => h) (Or.inl ⟨by rfl, ?_⟩) ?_ ?_; rotate_left
      · intro w'; go_simp; with_reducible rfl
      rotate_left; · simp only [Act.put, List.setIfInBounds_toArray, List.set_cons_zero, List.set_cons_succ, i64_w, i32_w]; rfl
      refine pure_ (i := 2) (N := some 14) (v := ?_) (a' := ?_) (bA 36 7) rfl rfl (any_of HT_.out (by kernel_rfl)) (fun _ _ _ h => h) (Or.inl ⟨by rfl, ?_⟩) ?_ ?_; rotate_left
      · intro w'; go_simp; with_reducible rfl
      rotate_left; · simp only [Act.put, List.setIfInBounds_toArray, List.set_cons_zero, List.set_cons_succ, i64_w, i32_w]; rfl
      refine pure_ (i := 3) (N := some 15) (v := ?_) (a' := ?_) (bA 36 15) rfl rfl (any_of HT_.out (by kernel_rfl)) (fun _ _ _ h => h) (Or.inl ⟨by rfl, ?_⟩) ?_ ?_; rotate_left
      · intro w'; go_simp; with_reducible rfl
      rotate_left; · simp only [Act.put, List.setIfInBounds_toArray, List.set_cons_zero, List.set_cons_succ, i64_w, i32_w]; rfl
      refine pure_ (i := 4) (N := some 16) (v := ?_) (a' := ?_) (bA 36 31) rfl rfl (any_of HT_.out (by kernel_rfl)) (fun _ _ _ h => h) (Or.inl ⟨by rfl, ?_⟩) ?_ ?_; rotate_left
      · intro w'; go_simp; with_reducible rfl
      rotate_left; · simp only [Act.put, List.setIfInBounds_toArray, List.set_cons_zero, List.set_cons_succ, i64_w, i32_w]; rfl
      refine pure_ (i := 5) (N := some 17) (v := ?_) (a' := ?_) (bA 36 63) rfl rfl (any_of HT_.out (by kernel_rfl)) (fun _ _ _ h => h) (Or.inl ⟨by rfl, ?_⟩) ?_ ?_; rotate_left
      · intro w'; go_simp; with_reducible rfl
      rotate_left; · simp only [Act.put, List.setIfInBounds_toArray, List.set_cons_zero, List.set_cons_succ, i64_w, i32_w]; rfl
      refine pure_ (i := 6) (N := some 18) (v := ?_) (a' := ?_) (bA 36 127) rfl rfl (any_of HT_.out (by kernel_rfl)) (fun _ _ _ h => h) (Or.inl ⟨by rfl, ?_⟩) ?_ ?_; rotate_left
      · intro w'; go_simp; with_reducible rfl
      rotate_left; · simp only [Act.put, List.setIfInBounds_toArray, List.set_cons_zero, List.set_cons_succ, i64_w, i32_w]; rfl
      refine pure_ (i := 7) (N := some 19) (v := ?_) (a' := ?_) (bA 36 255) rfl rfl (any_of HT_.out (by kernel_rfl)) (fun _ _ _ h => h) (Or.inl ⟨by rfl, ?_⟩) ?_ ?_; rotate_left
      · intro w'; go_simp; with_reducible rfl
      rotate_left; · simp only [Act.put, List.setIfInBounds_toArray, List.set_cons_zero, List.set_cons_succ, i64_w, i32_w]; rfl
      refine pure_ (i := 8) (N := some 20) (v := ?_) (a' := ?_) (bA 36 511) rfl rfl (any_of HT_.out (by kernel_rfl)) (fun _ _ _ h => h) (Or.inl ⟨by rfl, ?_⟩) ?_ ?_; rotate_left
      · intro w'; go_simp; with_reducible rfl
      rotate_left; · simp only [Act.put, List.setIfInBounds_toArray, List.set_cons_zero, List.set_cons_succ, i64_w, i32_w]; rfl
      refine pure_ (i := 9) (N := some 21) (v := ?_) (a' := ?_) (bA 36 1023) rfl rfl (any_of HT_.out (by kernel_rfl)) (fun _ _ _ h => h) (Or.inl ⟨by rfl, ?_⟩) ?_ ?_; rotate_left
      · intro w'; go_simp; with_reducible rfl
      rotate_left; · simp only [Act.put, List.setIfInBounds_toArray, List.set_cons_zero, List.set_cons_succ, i64_w, i32_w]; rfl
      refine pure_ (i := 10) (N := some 22) (v := ?_) (a' := ?_) (bA 36 2047) rfl rfl (any_of HT_.out (by kernel_rfl)) (fun _ _ _ h => h) (Or.inl ⟨by rfl, ?_⟩) ?_ ?_; rotate_left
      · intro w'; go_simp; with_reducible rfl
      rotate_left; · simp only [Act.put, List.setIfInBounds_toArray, List.set_cons_zero, List.set_cons_succ, i64_w, i32_w]; rfl
      refine take_ (i := 11) (N := some 23) (v := ?_) (a' := ?_) (bA 36 4095) rfl rfl (take_ofW HT_.out HW_.out (by kernel_rfl)) (fun _ _ _ h => h) (Or.inl ⟨by rfl, ?_⟩) hHeld ?_ ?_; rotate_left
      · intro w' s0
        go_simp
        with_reducible rfl
      rotate_left
      · simp only [Act.put, List.setIfInBounds_toArray, List.set_cons_zero, List.set_cons_succ, i64_w, i32_w]; rfl
      refine pure_ (i := 12) (N := some 24) (v := ?_) (a' := ?_) (bA 36 8191) rfl rfl (any_of HT_.out (by kernel_rfl)) (fun _ _ _ h => h) (Or.inl ⟨by rfl, ?_⟩) ?_ ?_; rotate_left
      · intro w'; go_simp; with_reducible rfl
      rotate_left; · simp only [Act.put, List.setIfInBounds_toArray, List.set_cons_zero, List.set_cons_succ, i64_w, i32_w]; rfl
      refine pure_ (i := 13) (N := some 25) (v := ?_) (a' := ?_) (bA 36 16383) rfl rfl (any_of HT_.out (by kernel_rfl)) (fun _ _ _ h => h) (Or.inl ⟨by rfl, ?_⟩) ?_ ?_; rotate_left
      · intro w'; go_simp; with_reducible rfl
      rotate_left; · simp only [Act.put, List.setIfInBounds_toArray, List.set_cons_zero, List.set_cons_succ, i64_w, i32_w]; rfl
      refine pure_ (i := 14) (N := some 26) (v := ?_) (a' := ?_) (bA 36 32767) rfl rfl (any_of HT_.out (by kernel_rfl)) (fun _ _ _ h => h) (Or.inl ⟨by rfl, ?_⟩) ?_ ?_; rotate_left
      · intro w'; go_simp; with_reducible rfl
      rotate_left; · simp only [Act.put, List.setIfInBounds_toArray, List.set_cons_zero, List.set_cons_succ, i64_w, i32_w]; rfl
      refine pure_ (i := 15) (N := some 27) (v := undef) (a' := ?_) (bA 36 65535) rfl rfl (any_of HT_.out (by kernel_rfl)) (fun _ _ _ h => h) (Or.inr ⟨by rfl, rfl⟩) ?_ ?_; rotate_left
      · simp only [Act.put, List.setIfInBounds_toArray, List.set_cons_zero, List.set_cons_succ, i64_w, i32_w]; rfl
      refine pure_ (i := 16) (N := some 28) (v := undef) (a' := ?_) (bA 36 131071) rfl rfl (any_of HT_.out (by kernel_rfl)) (fun _ _ _ h => h) (Or.inr ⟨by rfl, rfl⟩) ?_ ?_; rotate_left
      · simp only [Act.put, List.setIfInBounds_toArray, List.set_cons_zero, List.set_cons_succ, i64_w, i32_w]; rfl
      refine pure_ (i := 17) (N := some 29) (v := undef) (a' := ?_) (bA 36 262143) rfl rfl (any_of HT_.out (by kernel_rfl)) (fun _ _ _ h => h) (Or.inr ⟨by rfl, rfl⟩) ?_ ?_; rotate_left
      · simp only [Act.put, List.setIfInBounds_toArray, List.set_cons_zero, List.set_cons_succ, i64_w, i32_w]; rfl
      refine pure_ (i := 18) (N := some 30) (v := undef) (a' := ?_) (bA 36 524287) rfl rfl (any_of HT_.out (by kernel_rfl)) (fun _ _ _ h => h) (Or.inr ⟨by rfl, rfl⟩) ?_ ?_; rotate_left
      · simp only [Act.put, List.setIfInBounds_toArray, List.set_cons_zero, List.set_cons_succ, i64_w, i32_w]; rfl
      refine pure_ (i := 19) (N := some 31) (v := ?_) (a' := ?_) (bA 36 1048575) rfl rfl (any_of HT_.out (by kernel_rfl)) (fun _ _ _ h => h) (Or.inl ⟨by rfl, ?_⟩) ?_ ?_; rotate_left
      · intro w'; go_simp; with_reducible rfl
      rotate_left; · simp only [Act.put, List.setIfInBounds_toArray, List.set_cons_zero, List.set_cons_succ, i64_w, i32_w]; rfl
      refine pure_ (i := 20) (N := some 32) (v := ?_) (a' := ?_) (bA 36 2097151) rfl rfl (any_of HT_.out (by kernel_rfl)) (fun _ _ _ h => h) (Or.inl ⟨by rfl, ?_⟩) ?_ ?_; rotate_left
      · intro w'; go_simp; with_reducible rfl
      rotate_left; · simp only [Act.put, List.setIfInBounds_toArray, List.set_cons_zero, List.set_cons_succ, i64_w, i32_w]; rfl
      refine pure_ (i := 21) (N := some 33) (v := undef) (a' := ?_) (bA 36 4194303) rfl rfl (any_of HT_.out (by kernel_rfl)) (fun _ _ _ h => h) (Or.inr ⟨by rfl, rfl⟩) ?_ ?_; rotate_left
      · simp only [Act.put, List.setIfInBounds_toArray, List.set_cons_zero, List.set_cons_succ, i64_w, i32_w]; rfl
      refine pure_ (i := 22) (N := some 34) (v := undef) (a' := ?_) (bA 36 8388607) rfl rfl (any_of HT_.out (by kernel_rfl)) (fun _ _ _ h => h) (Or.inr ⟨by rfl, rfl⟩) ?_ ?_; rotate_left
      · simp only [Act.put, List.setIfInBounds_toArray, List.set_cons_zero, List.set_cons_succ, i64_w, i32_w]; rfl
      refine pure_ (i := 23) (N := some 35) (v := undef) (a' := ?_) (bA 36 16777215) rfl rfl (any_of HT_.out (by kernel_rfl)) (fun _ _ _ h => h) (Or.inr ⟨by rfl, rfl⟩) ?_ ?_; rotate_left
      · simp only [Act.put, List.setIfInBounds_toArray, List.set_cons_zero, List.set_cons_succ, i64_w, i32_w]; rfl
      refine pure_ (i := 24) (N := some 36) (v := undef) (a' := ?_) (bA 36 33554431) rfl rfl (any_of HT_.out (by kernel_rfl)) (fun _ _ _ h => h) (Or.inr ⟨by rfl, rfl⟩) ?_ ?_; rotate_left
      · simp only [Act.put, List.setIfInBounds_toArray, List.set_cons_zero, List.set_cons_succ, i64_w, i32_w]; rfl
      refine pure_ (i := 25) (N := some 37) (v := undef) (a' := ?_) (bA 36 67108863) rfl rfl (any_of HT_.out (by kernel_rfl)) (fun _ _ _ h => h) (Or.inr ⟨by rfl, rfl⟩) ?_ ?_; rotate_left
      · simp only [Act.put, List.setIfInBounds_toArray, List.set_cons_zero, List.set_cons_succ, i64_w, i32_w]; rfl
      refine pure_ (i := 26) (N := some 38) (v := undef) (a' := ?_) (bA 36 134217727) rfl rfl (any_of HT_.out (by kernel_rfl)) (fun _ _ _ h => h) (Or.inr ⟨by rfl, rfl⟩) ?_ ?_; rotate_left
      · simp only [Act.put, List.setIfInBounds_toArray, List.set_cons_zero, List.set_cons_succ, i64_w, i32_w]; rfl
      refine pure_ (i := 27) (N := some 39) (v := undef) (a' := ?_) (bA 36 268435455) rfl rfl (any_of HT_.out (by kernel_rfl)) (fun _ _ _ h => h) (Or.inr ⟨by rfl, rfl⟩) ?_ ?_; rotate_left
      · simp only [Act.put, List.setIfInBounds_toArray, List.set_cons_zero, List.set_cons_succ, i64_w, i32_w]; rfl
      refine pure_ (i := 28) (N := some 40) (v := undef) (a' := ?_) (bA 36 536870911) rfl rfl (any_of HT_.out (by kernel_rfl)) (fun _ _ _ h => h) (Or.inr ⟨by rfl, rfl⟩) ?_ ?_; rotate_left
      · simp only [Act.put, List.setIfInBounds_toArray, List.set_cons_zero, List.set_cons_succ, i64_w, i32_w]; rfl
      refine pure_ (i := 29) (N := some 41) (v := undef) (a' := ?_) (bA 36 1073741823) rfl rfl (any_of HT_.out (by kernel_rfl)) (fun _ _ _ h => h) (Or.inr ⟨by rfl, rfl⟩) ?_ ?_; rotate_left
      · simp only [Act.put, List.setIfInBounds_toArray, List.set_cons_zero, List.set_cons_succ, i64_w, i32_w]; rfl
      refine pure_ (i := 30) (N := some 42) (v := undef) (a' := ?_) (bA 36 2147483647) rfl rfl (any_of HT_.out (by kernel_rfl)) (fun _ _ _ h => h) (Or.inr ⟨by rfl, rfl⟩) ?_ ?_; rotate_left
      · simp only [Act.put, List.setIfInBounds_toArray, List.set_cons_zero, List.set_cons_succ, i64_w, i32_w]; rfl
      refine pure_ (i := 31) (N := some 43) (v := undef) (a' := ?_) (bA 36 4294967295) rfl rfl (any_of HT_.out (by kernel_rfl)) (fun _ _ _ h => h) (Or.inr ⟨by rfl, rfl⟩) ?_ ?_; rotate_left
      · simp only [Act.put, List.setIfInBounds_toArray, List.set_cons_zero, List.set_cons_succ, i64_w, i32_w]; rfl
      refine pure_ (i := 32) (N := some 44) (v := undef) (a' := ?_) (bA 36 8589934591) rfl rfl (any_of HT_.out (by kernel_rfl)) (fun _ _ _ h => h) (Or.inr ⟨by rfl, rfl⟩) ?_ ?_; rotate_left
      · simp only [Act.put, List.setIfInBounds_toArray, List.set_cons_zero, List.set_cons_succ, i64_w, i32_w]; rfl
      refine pure_ (i := 33) (N := some 45) (v := undef) (a' := ?_) (bA 36 17179869183) rfl rfl (any_of HT_.out (by kernel_rfl)) (fun _ _ _ h => h) (Or.inr ⟨by rfl, rfl⟩) ?_ ?_; rotate_left
      · simp only [Act.put, List.setIfInBounds_toArray, List.set_cons_zero, List.set_cons_succ, i64_w, i32_w]; rfl
      refine pure_ (i := 34) (N := some 46) (v := undef) (a' := ?_) (bA 36 34359738367) rfl rfl (any_of HT_.out (by kernel_rfl)) (fun _ _ _ h => h) (Or.inr ⟨by rfl, rfl⟩) ?_ ?_; rotate_left
      · simp only [Act.put, List.setIfInBounds_toArray, List.set_cons_zero, List.set_cons_succ, i64_w, i32_w]; rfl
      refine pure_ (i := 35) (N := some 47) (v := ?_) (a' := ?_) (bA 36 68719476735) rfl rfl (any_of HT_.out (by kernel_rfl)) (fun _ _ _ h => h) (Or.inl ⟨by rfl, ?_⟩) ?_ ?_; rotate_left
      · intro w'; go_simp; with_reducible rfl
      rotate_left; · simp only [Act.put, List.setIfInBounds_toArray, List.set_cons_zero, List.set_cons_succ, i64_w, i32_w]; rfl
      refine done_ (done_of HT_.out (by kernel_rfl)) ?_
      try go_wp2
      go_meet
      case rel => exact ⟨_, (true), (by first | rfl | (simp; done) | (simp [*]; done)), H', ⟨by first | omega | exact Nat.le_refl _⟩, ⟨by repeat (first | (with_reducible first | exact HB.out | apply below_alloc | apply pw_below_drewN | apply below_drew1) | exact HB.out)⟩⟩
    rw [if_pos c8] at H; have c8b0 : ((rd l0 0) == 87) = true := beq_iff_eq.mpr c8
    have c8b1 : ((rd l0 0) != 87) = false := bne_eq_false_iff_eq.mpr c8
    clear c8
    by_cases c9 : 1 < (l0.length : Int)
    case neg =>
      rw [if_neg c9] at H; exact absurd H (by simp)
    rw [if_pos c9] at H; have c9b0 : decide (1 < (l0.length : Int)) = true := decide_eq_true c9
    have c9b1 : decide (1 < l0.length) = true := decide_eq_true (by omega)
    clear c9
    by_cases c10 : (rd l0 1) = 1
    case neg =>
      rw [if_neg c10] at H; have c10b0 : ((rd l0 1) == 1) = false := beq_eq_false_iff_ne.mpr c10
      have c10b1 : ((rd l0 1) != 1) = true := bne_iff_ne.mpr c10
      have H' := Aside0.mk H
      clear H
      try go_wp2
      have n0_ := Aside0.mk (below_drew1 HB.out)
      clear HB
      have HB := n0_
      clear n0_
      have p190 : 0 ≤ (0 : Int) := (by omega)
      have q190 : 0 < (l0.length : Int) := of_decide_eq_true (by first | (with_reducible assumption) | assumption)
      obtain ⟨ad190, e190, hx190_0⟩ := Kd.at_int HR0.out 0 p190 q190
      have hw190_0 := hx190_0
      (try rw [show ((0 : Int)).toNat = 0 from rfl] at hw190_0)
      (try rw [show 0 * 1 = 0 from rfl] at hw190_0)
      (try rw [Addr.add_zero'] at hw190_0)
      cases e190
      have qi190 : (0 < l0.length) = True := eq_true (by omega)
      (try rw [show ((0 : Int)).toNat = 0 from rfl] at hx190_0)
      (try rw [Addr.add_zero'] at hx190_0)
      replace hx190_0 := (HB.out.cell (World.block_lt_of_cell? w _ hx190_0)).trans hx190_0
      replace p190 := eq_true p190
      replace q190 := eq_true q190
      have p191 : 0 ≤ (1 : Int) := (by omega)
      have q191 : 1 < (l0.length : Int) := of_decide_eq_true (by first | (with_reducible assumption) | assumption)
      obtain ⟨ad191, e191, hx191_0⟩ := Kd.at_int HR0.out 1 p191 q191
      have hw191_0 := hx191_0
      (try rw [show ((1 : Int)).toNat = 1 from rfl] at hw191_0)
      (try rw [show 1 * 1 = 1 from rfl] at hw191_0)
      (try simp only [Nat.reduceMul, Nat.reduceEqDiff, Go.Addr.add, ↓reduceIte] at hw191_0)
      obtain rfl : ad190 = ad191 := (by injection e191)
      (try simp only [show (1 : Int).toNat = 1 from rfl, Nat.reduceMul, Nat.reduceEqDiff, Go.Addr.add, ↓reduceIte] at hx191_0)
      have qi191 : (1 < l0.length) = True := eq_true (by omega)
      (try rw [show ((1 : Int)).toNat = 1 from rfl] at hx191_0)
      replace hx191_0 := (HB.out.cell (World.block_lt_of_cell? w _ hx191_0)).trans hx191_0
      replace p191 := eq_true p191
      replace q191 := eq_true q191
      refine start_ (n := 36) (S := fun w' => w'.cell? ad190 = some (.int .u8 (rd l0 0)) ∧ w'.cell? ⟨ad190.block, ad190.off + 1, none⟩ = some (.int .u8 (rd l0 1))) (ds := []) (bA 36 0) (by kernel_rfl) rfl rfl ⟨((HB.out.cell (World.block_lt_of_cell? w _ hw190_0)).trans hw190_0), ((HB.out.cell (World.block_lt_of_cell? w _ hw191_0)).trans hw191_0)⟩ (fun hHeld => ?_); refine with_tabW wayfarerlaw08_decode.tab1 wayfarerlaw08_decode.bits1 (fun HT_ HW_ => ?_)
      generalize w.drew = w14 at HB hx190_0 hx191_0 hHeld ⊢
      refine pure_ (i := 0) (N := some 12) (v := ?_) (a' := ?_) (bA 36 1) rfl rfl (any_of HT_.out (by kernel_rfl)) (fun _ _ _ h => h) (Or.inl ⟨by rfl, ?_⟩) ?_ ?_; rotate_left
      · intro w'; go_simp; with_reducible rfl
      rotate_left; · simp only [Act.put, List.setIfInBounds_toArray, List.set_cons_zero, List.set_cons_succ, i64_w, i32_w]; rfl
      refine pure_ (i := 1) (N := some 13) (v := ?_) (a' := ?_) (bA 36 3) rfl rfl (any_of HT_.out (by kernel_rfl)) (fun _ _ _ h => h) (Or.inl ⟨by rfl, ?_⟩) ?_ ?_; rotate_left
      · intro w'; go_simp; with_reducible rfl
      rotate_left; · simp only [Act.put, List.setIfInBounds_toArray, List.set_cons_zero, List.set_cons_succ, i64_w, i32_w]; rfl
      refine pure_ (i := 2) (N := some 14) (v := ?_) (a' := ?_) (bA 36 7) rfl rfl (any_of HT_.out (by kernel_rfl)) (fun _ _ _ h => h) (Or.inl ⟨by rfl, ?_⟩) ?_ ?_; rotate_left
      · intro w'; go_simp; with_reducible rfl
      rotate_left; · simp only [Act.put, List.setIfInBounds_toArray, List.set_cons_zero, List.set_cons_succ, i64_w, i32_w]; rfl
      refine pure_ (i := 3) (N := some 15) (v := ?_) (a' := ?_) (bA 36 15) rfl rfl (any_of HT_.out (by kernel_rfl)) (fun _ _ _ h => h) (Or.inl ⟨by rfl, ?_⟩) ?_ ?_; rotate_left
      · intro w'; go_simp; with_reducible rfl
      rotate_left; · simp only [Act.put, List.setIfInBounds_toArray, List.set_cons_zero, List.set_cons_succ, i64_w, i32_w]; rfl
      refine pure_ (i := 4) (N := some 16) (v := ?_) (a' := ?_) (bA 36 31) rfl rfl (any_of HT_.out (by kernel_rfl)) (fun _ _ _ h => h) (Or.inl ⟨by rfl, ?_⟩) ?_ ?_; rotate_left
      · intro w'; go_simp; with_reducible rfl
      rotate_left; · simp only [Act.put, List.setIfInBounds_toArray, List.set_cons_zero, List.set_cons_succ, i64_w, i32_w]; rfl
      refine pure_ (i := 5) (N := some 17) (v := ?_) (a' := ?_) (bA 36 63) rfl rfl (any_of HT_.out (by kernel_rfl)) (fun _ _ _ h => h) (Or.inl ⟨by rfl, ?_⟩) ?_ ?_; rotate_left
      · intro w'; go_simp; with_reducible rfl
      rotate_left; · simp only [Act.put, List.setIfInBounds_toArray, List.set_cons_zero, List.set_cons_succ, i64_w, i32_w]; rfl
      refine pure_ (i := 6) (N := some 18) (v := ?_) (a' := ?_) (bA 36 127) rfl rfl (any_of HT_.out (by kernel_rfl)) (fun _ _ _ h => h) (Or.inl ⟨by rfl, ?_⟩) ?_ ?_; rotate_left
      · intro w'; go_simp; with_reducible rfl
      rotate_left; · simp only [Act.put, List.setIfInBounds_toArray, List.set_cons_zero, List.set_cons_succ, i64_w, i32_w]; rfl
      refine pure_ (i := 7) (N := some 19) (v := ?_) (a' := ?_) (bA 36 255) rfl rfl (any_of HT_.out (by kernel_rfl)) (fun _ _ _ h => h) (Or.inl ⟨by rfl, ?_⟩) ?_ ?_; rotate_left
      · intro w'; go_simp; with_reducible rfl
      rotate_left; · simp only [Act.put, List.setIfInBounds_toArray, List.set_cons_zero, List.set_cons_succ, i64_w, i32_w]; rfl
      refine pure_ (i := 8) (N := some 20) (v := ?_) (a' := ?_) (bA 36 511) rfl rfl (any_of HT_.out (by kernel_rfl)) (fun _ _ _ h => h) (Or.inl ⟨by rfl, ?_⟩) ?_ ?_; rotate_left
      · intro w'; go_simp; with_reducible rfl
      rotate_left; · simp only [Act.put, List.setIfInBounds_toArray, List.set_cons_zero, List.set_cons_succ, i64_w, i32_w]; rfl
      refine pure_ (i := 9) (N := some 21) (v := ?_) (a' := ?_) (bA 36 1023) rfl rfl (any_of HT_.out (by kernel_rfl)) (fun _ _ _ h => h) (Or.inl ⟨by rfl, ?_⟩) ?_ ?_; rotate_left
      · intro w'; go_simp; with_reducible rfl
      rotate_left; · simp only [Act.put, List.setIfInBounds_toArray, List.set_cons_zero, List.set_cons_succ, i64_w, i32_w]; rfl
      refine pure_ (i := 10) (N := some 22) (v := ?_) (a' := ?_) (bA 36 2047) rfl rfl (any_of HT_.out (by kernel_rfl)) (fun _ _ _ h => h) (Or.inl ⟨by rfl, ?_⟩) ?_ ?_; rotate_left
      · intro w'; go_simp; with_reducible rfl
      rotate_left; · simp only [Act.put, List.setIfInBounds_toArray, List.set_cons_zero, List.set_cons_succ, i64_w, i32_w]; rfl
      refine take_ (i := 11) (N := some 23) (v := ?_) (a' := ?_) (bA 36 4095) rfl rfl (take_ofW HT_.out HW_.out (by kernel_rfl)) (fun _ _ _ h => h) (Or.inl ⟨by rfl, ?_⟩) hHeld ?_ ?_; rotate_left
      · rintro w' ⟨s0, s1⟩
        go_simp
        with_reducible rfl
      rotate_left
      · simp only [Act.put, List.setIfInBounds_toArray, List.set_cons_zero, List.set_cons_succ, i64_w, i32_w]; rfl
      refine pure_ (i := 12) (N := some 24) (v := ?_) (a' := ?_) (bA 36 8191) rfl rfl (any_of HT_.out (by kernel_rfl)) (fun _ _ _ h => h) (Or.inl ⟨by rfl, ?_⟩) ?_ ?_; rotate_left
      · intro w'; go_simp; with_reducible rfl
      rotate_left; · simp only [Act.put, List.setIfInBounds_toArray, List.set_cons_zero, List.set_cons_succ, i64_w, i32_w]; rfl
      refine pure_ (i := 13) (N := some 25) (v := ?_) (a' := ?_) (bA 36 16383) rfl rfl (any_of HT_.out (by kernel_rfl)) (fun _ _ _ h => h) (Or.inl ⟨by rfl, ?_⟩) ?_ ?_; rotate_left
      · intro w'; go_simp; with_reducible rfl
      rotate_left; · simp only [Act.put, List.setIfInBounds_toArray, List.set_cons_zero, List.set_cons_succ, i64_w, i32_w]; rfl
      refine pure_ (i := 14) (N := some 26) (v := ?_) (a' := ?_) (bA 36 32767) rfl rfl (any_of HT_.out (by kernel_rfl)) (fun _ _ _ h => h) (Or.inl ⟨by rfl, ?_⟩) ?_ ?_; rotate_left
      · intro w'; go_simp; with_reducible rfl
      rotate_left; · simp only [Act.put, List.setIfInBounds_toArray, List.set_cons_zero, List.set_cons_succ, i64_w, i32_w]; rfl
      refine pure_ (i := 15) (N := some 27) (v := ?_) (a' := ?_) (bA 36 65535) rfl rfl (any_of HT_.out (by kernel_rfl)) (fun _ _ _ h => h) (Or.inl ⟨by rfl, ?_⟩) ?_ ?_; rotate_left
      · intro w'; go_simp; with_reducible rfl
      rotate_left; · simp only [Act.put, List.setIfInBounds_toArray, List.set_cons_zero, List.set_cons_succ, i64_w, i32_w]; rfl
      refine pure_ (i := 16) (N := some 28) (v := ?_) (a' := ?_) (bA 36 131071) rfl rfl (any_of HT_.out (by kernel_rfl)) (fun _ _ _ h => h) (Or.inl ⟨by rfl, ?_⟩) ?_ ?_; rotate_left
      · intro w'; go_simp; with_reducible rfl
      rotate_left; · simp only [Act.put, List.setIfInBounds_toArray, List.set_cons_zero, List.set_cons_succ, i64_w, i32_w]; rfl
      refine take_ (i := 17) (N := some 29) (v := ?_) (a' := ?_) (bA 36 262143) rfl rfl (take_ofW HT_.out HW_.out (by kernel_rfl)) (fun _ _ _ h => h) (Or.inl ⟨by rfl, ?_⟩) hHeld ?_ ?_; rotate_left
      · rintro w' ⟨s0, s1⟩
        go_simp
        with_reducible rfl
      rotate_left
      · simp only [Act.put, List.setIfInBounds_toArray, List.set_cons_zero, List.set_cons_succ, i64_w, i32_w]; rfl
      refine pure_ (i := 18) (N := some 30) (v := ?_) (a' := ?_) (bA 36 524287) rfl rfl (any_of HT_.out (by kernel_rfl)) (fun _ _ _ h => h) (Or.inl ⟨by rfl, ?_⟩) ?_ ?_; rotate_left
      · intro w'; go_simp; with_reducible rfl
      rotate_left; · simp only [Act.put, List.setIfInBounds_toArray, List.set_cons_zero, List.set_cons_succ, i64_w, i32_w]; rfl
      refine pure_ (i := 19) (N := some 31) (v := ?_) (a' := ?_) (bA 36 1048575) rfl rfl (any_of HT_.out (by kernel_rfl)) (fun _ _ _ h => h) (Or.inl ⟨by rfl, ?_⟩) ?_ ?_; rotate_left
      · intro w'; go_simp; with_reducible rfl
      rotate_left; · simp only [Act.put, List.setIfInBounds_toArray, List.set_cons_zero, List.set_cons_succ, i64_w, i32_w]; rfl
      refine pure_ (i := 20) (N := some 32) (v := ?_) (a' := ?_) (bA 36 2097151) rfl rfl (any_of HT_.out (by kernel_rfl)) (fun _ _ _ h => h) (Or.inl ⟨by rfl, ?_⟩) ?_ ?_; rotate_left
      · intro w'; go_simp; with_reducible rfl
      rotate_left; · simp only [Act.put, List.setIfInBounds_toArray, List.set_cons_zero, List.set_cons_succ, i64_w, i32_w]; rfl
      refine pure_ (i := 21) (N := some 33) (v := undef) (a' := ?_) (bA 36 4194303) rfl rfl (any_of HT_.out (by kernel_rfl)) (fun _ _ _ h => h) (Or.inr ⟨by rfl, rfl⟩) ?_ ?_; rotate_left
      · simp only [Act.put, List.setIfInBounds_toArray, List.set_cons_zero, List.set_cons_succ, i64_w, i32_w]; rfl
      refine pure_ (i := 22) (N := some 34) (v := undef) (a' := ?_) (bA 36 8388607) rfl rfl (any_of HT_.out (by kernel_rfl)) (fun _ _ _ h => h) (Or.inr ⟨by rfl, rfl⟩) ?_ ?_; rotate_left
      · simp only [Act.put, List.setIfInBounds_toArray, List.set_cons_zero, List.set_cons_succ, i64_w, i32_w]; rfl
      refine pure_ (i := 23) (N := some 35) (v := undef) (a' := ?_) (bA 36 16777215) rfl rfl (any_of HT_.out (by kernel_rfl)) (fun _ _ _ h => h) (Or.inr ⟨by rfl, rfl⟩) ?_ ?_; rotate_left
      · simp only [Act.put, List.setIfInBounds_toArray, List.set_cons_zero, List.set_cons_succ, i64_w, i32_w]; rfl
      refine pure_ (i := 24) (N := some 36) (v := undef) (a' := ?_) (bA 36 33554431) rfl rfl (any_of HT_.out (by kernel_rfl)) (fun _ _ _ h => h) (Or.inr ⟨by rfl, rfl⟩) ?_ ?_; rotate_left
      · simp only [Act.put, List.setIfInBounds_toArray, List.set_cons_zero, List.set_cons_succ, i64_w, i32_w]; rfl
      refine pure_ (i := 25) (N := some 37) (v := undef) (a' := ?_) (bA 36 67108863) rfl rfl (any_of HT_.out (by kernel_rfl)) (fun _ _ _ h => h) (Or.inr ⟨by rfl, rfl⟩) ?_ ?_; rotate_left
      · simp only [Act.put, List.setIfInBounds_toArray, List.set_cons_zero, List.set_cons_succ, i64_w, i32_w]; rfl
      refine pure_ (i := 26) (N := some 38) (v := undef) (a' := ?_) (bA 36 134217727) rfl rfl (any_of HT_.out (by kernel_rfl)) (fun _ _ _ h => h) (Or.inr ⟨by rfl, rfl⟩) ?_ ?_; rotate_left
      · simp only [Act.put, List.setIfInBounds_toArray, List.set_cons_zero, List.set_cons_succ, i64_w, i32_w]; rfl
      refine pure_ (i := 27) (N := some 39) (v := undef) (a' := ?_) (bA 36 268435455) rfl rfl (any_of HT_.out (by kernel_rfl)) (fun _ _ _ h => h) (Or.inr ⟨by rfl, rfl⟩) ?_ ?_; rotate_left
      · simp only [Act.put, List.setIfInBounds_toArray, List.set_cons_zero, List.set_cons_succ, i64_w, i32_w]; rfl
      refine pure_ (i := 28) (N := some 40) (v := undef) (a' := ?_) (bA 36 536870911) rfl rfl (any_of HT_.out (by kernel_rfl)) (fun _ _ _ h => h) (Or.inr ⟨by rfl, rfl⟩) ?_ ?_; rotate_left
      · simp only [Act.put, List.setIfInBounds_toArray, List.set_cons_zero, List.set_cons_succ, i64_w, i32_w]; rfl
      refine pure_ (i := 29) (N := some 41) (v := undef) (a' := ?_) (bA 36 1073741823) rfl rfl (any_of HT_.out (by kernel_rfl)) (fun _ _ _ h => h) (Or.inr ⟨by rfl, rfl⟩) ?_ ?_; rotate_left
      · simp only [Act.put, List.setIfInBounds_toArray, List.set_cons_zero, List.set_cons_succ, i64_w, i32_w]; rfl
      refine pure_ (i := 30) (N := some 42) (v := undef) (a' := ?_) (bA 36 2147483647) rfl rfl (any_of HT_.out (by kernel_rfl)) (fun _ _ _ h => h) (Or.inr ⟨by rfl, rfl⟩) ?_ ?_; rotate_left
      · simp only [Act.put, List.setIfInBounds_toArray, List.set_cons_zero, List.set_cons_succ, i64_w, i32_w]; rfl
      refine pure_ (i := 31) (N := some 43) (v := undef) (a' := ?_) (bA 36 4294967295) rfl rfl (any_of HT_.out (by kernel_rfl)) (fun _ _ _ h => h) (Or.inr ⟨by rfl, rfl⟩) ?_ ?_; rotate_left
      · simp only [Act.put, List.setIfInBounds_toArray, List.set_cons_zero, List.set_cons_succ, i64_w, i32_w]; rfl
      refine pure_ (i := 32) (N := some 44) (v := undef) (a' := ?_) (bA 36 8589934591) rfl rfl (any_of HT_.out (by kernel_rfl)) (fun _ _ _ h => h) (Or.inr ⟨by rfl, rfl⟩) ?_ ?_; rotate_left
      · simp only [Act.put, List.setIfInBounds_toArray, List.set_cons_zero, List.set_cons_succ, i64_w, i32_w]; rfl
      refine pure_ (i := 33) (N := some 45) (v := undef) (a' := ?_) (bA 36 17179869183) rfl rfl (any_of HT_.out (by kernel_rfl)) (fun _ _ _ h => h) (Or.inr ⟨by rfl, rfl⟩) ?_ ?_; rotate_left
      · simp only [Act.put, List.setIfInBounds_toArray, List.set_cons_zero, List.set_cons_succ, i64_w, i32_w]; rfl
      refine pure_ (i := 34) (N := some 46) (v := undef) (a' := ?_) (bA 36 34359738367) rfl rfl (any_of HT_.out (by kernel_rfl)) (fun _ _ _ h => h) (Or.inr ⟨by rfl, rfl⟩) ?_ ?_; rotate_left
      · simp only [Act.put, List.setIfInBounds_toArray, List.set_cons_zero, List.set_cons_succ, i64_w, i32_w]; rfl
      refine pure_ (i := 35) (N := some 47) (v := ?_) (a' := ?_) (bA 36 68719476735) rfl rfl (any_of HT_.out (by kernel_rfl)) (fun _ _ _ h => h) (Or.inl ⟨by rfl, ?_⟩) ?_ ?_; rotate_left
      · intro w'; go_simp; with_reducible rfl
      rotate_left; · simp only [Act.put, List.setIfInBounds_toArray, List.set_cons_zero, List.set_cons_succ, i64_w, i32_w]; rfl
      refine done_ (done_of HT_.out (by kernel_rfl)) ?_
      try go_wp2
      go_meet
      case rel => exact ⟨_, (true), (by first | rfl | (simp; done) | (simp [*]; done)), H', ⟨by first | omega | exact Nat.le_refl _⟩, ⟨by repeat (first | (with_reducible first | exact HB.out | apply below_alloc | apply pw_below_drewN | apply below_drew1) | exact HB.out)⟩⟩
    rw [if_pos c10] at H; have c10b0 : ((rd l0 1) == 1) = true := beq_iff_eq.mpr c10
    have c10b1 : ((rd l0 1) != 1) = false := bne_eq_false_iff_eq.mpr c10
    clear c10
    by_cases c11 : 2 < (l0.length : Int)
    case neg =>
      rw [if_neg c11] at H; exact absurd H (by simp)
    rw [if_pos c11] at H; have c11b0 : decide (2 < (l0.length : Int)) = true := decide_eq_true c11
    have c11b1 : decide (2 < l0.length) = true := decide_eq_true (by omega)
    clear c11
    by_cases c12 : 3 < (l0.length : Int)
    case neg =>
      rw [if_neg c12] at H; exact absurd H (by simp)
    rw [if_pos c12] at H; have c12b0 : decide (3 < (l0.length : Int)) = true := decide_eq_true c12
    have c12b1 : decide (3 < l0.length) = true := decide_eq_true (by omega)
    clear c12
    have H' := Aside0.mk H
    clear H
    try go_wp2
    have n0_ := Aside0.mk (below_drew1 HB.out)
    clear HB
    have HB := n0_
    clear n0_
    have p190 : 0 ≤ (0 : Int) := (by omega)
    have q190 : 0 < (l0.length : Int) := of_decide_eq_true (by first | (with_reducible assumption) | assumption)
    obtain ⟨ad190, e190, hx190_0⟩ := Kd.at_int HR0.out 0 p190 q190
    have hw190_0 := hx190_0
    (try rw [show ((0 : Int)).toNat = 0 from rfl] at hw190_0)
    (try rw [show 0 * 1 = 0 from rfl] at hw190_0)
    (try rw [Addr.add_zero'] at hw190_0)
    cases e190
    have qi190 : (0 < l0.length) = True := eq_true (by omega)
    (try rw [show ((0 : Int)).toNat = 0 from rfl] at hx190_0)
    (try rw [Addr.add_zero'] at hx190_0)
    replace hx190_0 := (HB.out.cell (World.block_lt_of_cell? w _ hx190_0)).trans hx190_0
    replace p190 := eq_true p190
    replace q190 := eq_true q190
    have p191 : 0 ≤ (1 : Int) := (by omega)
    have q191 : 1 < (l0.length : Int) := of_decide_eq_true (by first | (with_reducible assumption) | assumption)
    obtain ⟨ad191, e191, hx191_0⟩ := Kd.at_int HR0.out 1 p191 q191
    have hw191_0 := hx191_0
    (try rw [show ((1 : Int)).toNat = 1 from rfl] at hw191_0)
    (try rw [show 1 * 1 = 1 from rfl] at hw191_0)
    (try simp only [Nat.reduceMul, Nat.reduceEqDiff, Go.Addr.add, ↓reduceIte] at hw191_0)
    obtain rfl : ad190 = ad191 := (by injection e191)
    (try simp only [show (1 : Int).toNat = 1 from rfl, Nat.reduceMul, Nat.reduceEqDiff, Go.Addr.add, ↓reduceIte] at hx191_0)
    have qi191 : (1 < l0.length) = True := eq_true (by omega)
    (try rw [show ((1 : Int)).toNat = 1 from rfl] at hx191_0)
    replace hx191_0 := (HB.out.cell (World.block_lt_of_cell? w _ hx191_0)).trans hx191_0
    replace p191 := eq_true p191
    replace q191 := eq_true q191
    have p192 : 0 ≤ (2 : Int) := (by omega)
    have q192 : 2 < (l0.length : Int) := of_decide_eq_true (by first | (with_reducible assumption) | assumption)
    obtain ⟨ad192, e192, hx192_0⟩ := Kd.at_int HR0.out 2 p192 q192
    have hw192_0 := hx192_0
    (try rw [show ((2 : Int)).toNat = 2 from rfl] at hw192_0)
    (try rw [show 2 * 1 = 2 from rfl] at hw192_0)
    (try simp only [Nat.reduceMul, Nat.reduceEqDiff, Go.Addr.add, ↓reduceIte] at hw192_0)
    obtain rfl : ad190 = ad192 := (by injection e192)
    (try simp only [show (2 : Int).toNat = 2 from rfl, Nat.reduceMul, Nat.reduceEqDiff, Go.Addr.add, ↓reduceIte] at hx192_0)
    have qi192 : (2 < l0.length) = True := eq_true (by omega)
    (try rw [show ((2 : Int)).toNat = 2 from rfl] at hx192_0)
    replace hx192_0 := (HB.out.cell (World.block_lt_of_cell? w _ hx192_0)).trans hx192_0
    replace p192 := eq_true p192
    replace q192 := eq_true q192
    have p193 : 0 ≤ (3 : Int) := (by omega)
    have q193 : 3 < (l0.length : Int) := of_decide_eq_true (by first | (with_reducible assumption) | assumption)
    obtain ⟨ad193, e193, hx193_0⟩ := Kd.at_int HR0.out 3 p193 q193
    have hw193_0 := hx193_0
    (try rw [show ((3 : Int)).toNat = 3 from rfl] at hw193_0)
    (try rw [show 3 * 1 = 3 from rfl] at hw193_0)
    (try simp only [Nat.reduceMul, Nat.reduceEqDiff, Go.Addr.add, ↓reduceIte] at hw193_0)
    obtain rfl : ad190 = ad193 := (by injection e193)
    (try simp only [show (3 : Int).toNat = 3 from rfl, Nat.reduceMul, Nat.reduceEqDiff, Go.Addr.add, ↓reduceIte] at hx193_0)
    have qi193 : (3 < l0.length) = True := eq_true (by omega)
    (try rw [show ((3 : Int)).toNat = 3 from rfl] at hx193_0)
    replace hx193_0 := (HB.out.cell (World.block_lt_of_cell? w _ hx193_0)).trans hx193_0
    replace p193 := eq_true p193
    replace q193 := eq_true q193
    refine start_ (n := 36) (S := fun w' => w'.cell? ad190 = some (.int .u8 (rd l0 0)) ∧ w'.cell? ⟨ad190.block, ad190.off + 1, none⟩ = some (.int .u8 (rd l0 1)) ∧ w'.cell? ⟨ad190.block, ad190.off + 2, none⟩ = some (.int .u8 (rd l0 2)) ∧ w'.cell? ⟨ad190.block, ad190.off + 3, none⟩ = some (.int .u8 (rd l0 3))) (ds := []) (bA 36 0) (by kernel_rfl) rfl rfl ⟨((HB.out.cell (World.block_lt_of_cell? w _ hw190_0)).trans hw190_0), ((HB.out.cell (World.block_lt_of_cell? w _ hw191_0)).trans hw191_0), ((HB.out.cell (World.block_lt_of_cell? w _ hw192_0)).trans hw192_0), ((HB.out.cell (World.block_lt_of_cell? w _ hw193_0)).trans hw193_0)⟩ (fun hHeld => ?_); refine with_tabW wayfarerlaw08_decode.tab1 wayfarerlaw08_decode.bits1 (fun HT_ HW_ => ?_)
    generalize w.drew = w13 at HB hx190_0 hx191_0 hx192_0 hx193_0 hHeld ⊢
    refine pure_ (i := 0) (N := some 12) (v := ?_) (a' := ?_) (bA 36 1) rfl rfl (any_of HT_.out (by kernel_rfl)) (fun _ _ _ h => h) (Or.inl ⟨by rfl, ?_⟩) ?_ ?_; rotate_left
    · intro w'; go_simp; with_reducible rfl
    rotate_left; · simp only [Act.put, List.setIfInBounds_toArray, List.set_cons_zero, List.set_cons_succ, i64_w, i32_w]; rfl
    refine pure_ (i := 1) (N := some 13) (v := ?_) (a' := ?_) (bA 36 3) rfl rfl (any_of HT_.out (by kernel_rfl)) (fun _ _ _ h => h) (Or.inl ⟨by rfl, ?_⟩) ?_ ?_; rotate_left
    · intro w'; go_simp; with_reducible rfl
    rotate_left; · simp only [Act.put, List.setIfInBounds_toArray, List.set_cons_zero, List.set_cons_succ, i64_w, i32_w]; rfl
    refine pure_ (i := 2) (N := some 14) (v := ?_) (a' := ?_) (bA 36 7) rfl rfl (any_of HT_.out (by kernel_rfl)) (fun _ _ _ h => h) (Or.inl ⟨by rfl, ?_⟩) ?_ ?_; rotate_left
    · intro w'; go_simp; with_reducible rfl
    rotate_left; · simp only [Act.put, List.setIfInBounds_toArray, List.set_cons_zero, List.set_cons_succ, i64_w, i32_w]; rfl
    refine pure_ (i := 3) (N := some 15) (v := ?_) (a' := ?_) (bA 36 15) rfl rfl (any_of HT_.out (by kernel_rfl)) (fun _ _ _ h => h) (Or.inl ⟨by rfl, ?_⟩) ?_ ?_; rotate_left
    · intro w'; go_simp; with_reducible rfl
    rotate_left; · simp only [Act.put, List.setIfInBounds_toArray, List.set_cons_zero, List.set_cons_succ, i64_w, i32_w]; rfl
    refine pure_ (i := 4) (N := some 16) (v := ?_) (a' := ?_) (bA 36 31) rfl rfl (any_of HT_.out (by kernel_rfl)) (fun _ _ _ h => h) (Or.inl ⟨by rfl, ?_⟩) ?_ ?_; rotate_left
    · intro w'; go_simp; with_reducible rfl
    rotate_left; · simp only [Act.put, List.setIfInBounds_toArray, List.set_cons_zero, List.set_cons_succ, i64_w, i32_w]; rfl
    refine pure_ (i := 5) (N := some 17) (v := ?_) (a' := ?_) (bA 36 63) rfl rfl (any_of HT_.out (by kernel_rfl)) (fun _ _ _ h => h) (Or.inl ⟨by rfl, ?_⟩) ?_ ?_; rotate_left
    · intro w'; go_simp; with_reducible rfl
    rotate_left; · simp only [Act.put, List.setIfInBounds_toArray, List.set_cons_zero, List.set_cons_succ, i64_w, i32_w]; rfl
    refine pure_ (i := 6) (N := some 18) (v := ?_) (a' := ?_) (bA 36 127) rfl rfl (any_of HT_.out (by kernel_rfl)) (fun _ _ _ h => h) (Or.inl ⟨by rfl, ?_⟩) ?_ ?_; rotate_left
    · intro w'; go_simp; with_reducible rfl
    rotate_left; · simp only [Act.put, List.setIfInBounds_toArray, List.set_cons_zero, List.set_cons_succ, i64_w, i32_w]; rfl
    refine pure_ (i := 7) (N := some 19) (v := ?_) (a' := ?_) (bA 36 255) rfl rfl (any_of HT_.out (by kernel_rfl)) (fun _ _ _ h => h) (Or.inl ⟨by rfl, ?_⟩) ?_ ?_; rotate_left
    · intro w'; go_simp; with_reducible rfl
    rotate_left; · simp only [Act.put, List.setIfInBounds_toArray, List.set_cons_zero, List.set_cons_succ, i64_w, i32_w]; rfl
    refine pure_ (i := 8) (N := some 20) (v := ?_) (a' := ?_) (bA 36 511) rfl rfl (any_of HT_.out (by kernel_rfl)) (fun _ _ _ h => h) (Or.inl ⟨by rfl, ?_⟩) ?_ ?_; rotate_left
    · intro w'; go_simp; with_reducible rfl
    rotate_left; · simp only [Act.put, List.setIfInBounds_toArray, List.set_cons_zero, List.set_cons_succ, i64_w, i32_w]; rfl
    refine pure_ (i := 9) (N := some 21) (v := ?_) (a' := ?_) (bA 36 1023) rfl rfl (any_of HT_.out (by kernel_rfl)) (fun _ _ _ h => h) (Or.inl ⟨by rfl, ?_⟩) ?_ ?_; rotate_left
    · intro w'; go_simp; with_reducible rfl
    rotate_left; · simp only [Act.put, List.setIfInBounds_toArray, List.set_cons_zero, List.set_cons_succ, i64_w, i32_w]; rfl
    refine pure_ (i := 10) (N := some 22) (v := ?_) (a' := ?_) (bA 36 2047) rfl rfl (any_of HT_.out (by kernel_rfl)) (fun _ _ _ h => h) (Or.inl ⟨by rfl, ?_⟩) ?_ ?_; rotate_left
    · intro w'; go_simp; with_reducible rfl
    rotate_left; · simp only [Act.put, List.setIfInBounds_toArray, List.set_cons_zero, List.set_cons_succ, i64_w, i32_w]; rfl
    refine take_ (i := 11) (N := some 23) (v := ?_) (a' := ?_) (bA 36 4095) rfl rfl (take_ofW HT_.out HW_.out (by kernel_rfl)) (fun _ _ _ h => h) (Or.inl ⟨by rfl, ?_⟩) hHeld ?_ ?_; rotate_left
    · rintro w' ⟨s0, s1, s2, s3⟩
      go_simp
      with_reducible rfl
    rotate_left
    · simp only [Act.put, List.setIfInBounds_toArray, List.set_cons_zero, List.set_cons_succ, i64_w, i32_w]; rfl
    refine pure_ (i := 12) (N := some 24) (v := ?_) (a' := ?_) (bA 36 8191) rfl rfl (any_of HT_.out (by kernel_rfl)) (fun _ _ _ h => h) (Or.inl ⟨by rfl, ?_⟩) ?_ ?_; rotate_left
    · intro w'; go_simp; with_reducible rfl
    rotate_left; · simp only [Act.put, List.setIfInBounds_toArray, List.set_cons_zero, List.set_cons_succ, i64_w, i32_w]; rfl
    refine pure_ (i := 13) (N := some 25) (v := ?_) (a' := ?_) (bA 36 16383) rfl rfl (any_of HT_.out (by kernel_rfl)) (fun _ _ _ h => h) (Or.inl ⟨by rfl, ?_⟩) ?_ ?_; rotate_left
    · intro w'; go_simp; with_reducible rfl
    rotate_left; · simp only [Act.put, List.setIfInBounds_toArray, List.set_cons_zero, List.set_cons_succ, i64_w, i32_w]; rfl
    refine pure_ (i := 14) (N := some 26) (v := ?_) (a' := ?_) (bA 36 32767) rfl rfl (any_of HT_.out (by kernel_rfl)) (fun _ _ _ h => h) (Or.inl ⟨by rfl, ?_⟩) ?_ ?_; rotate_left
    · intro w'; go_simp; with_reducible rfl
    rotate_left; · simp only [Act.put, List.setIfInBounds_toArray, List.set_cons_zero, List.set_cons_succ, i64_w, i32_w]; rfl
    refine pure_ (i := 15) (N := some 27) (v := ?_) (a' := ?_) (bA 36 65535) rfl rfl (any_of HT_.out (by kernel_rfl)) (fun _ _ _ h => h) (Or.inl ⟨by rfl, ?_⟩) ?_ ?_; rotate_left
    · intro w'; go_simp; with_reducible rfl
    rotate_left; · simp only [Act.put, List.setIfInBounds_toArray, List.set_cons_zero, List.set_cons_succ, i64_w, i32_w]; rfl
    refine pure_ (i := 16) (N := some 28) (v := ?_) (a' := ?_) (bA 36 131071) rfl rfl (any_of HT_.out (by kernel_rfl)) (fun _ _ _ h => h) (Or.inl ⟨by rfl, ?_⟩) ?_ ?_; rotate_left
    · intro w'; go_simp; with_reducible rfl
    rotate_left; · simp only [Act.put, List.setIfInBounds_toArray, List.set_cons_zero, List.set_cons_succ, i64_w, i32_w]; rfl
    refine take_ (i := 17) (N := some 29) (v := ?_) (a' := ?_) (bA 36 262143) rfl rfl (take_ofW HT_.out HW_.out (by kernel_rfl)) (fun _ _ _ h => h) (Or.inl ⟨by rfl, ?_⟩) hHeld ?_ ?_; rotate_left
    · rintro w' ⟨s0, s1, s2, s3⟩
      go_simp
      with_reducible rfl
    rotate_left
    · simp only [Act.put, List.setIfInBounds_toArray, List.set_cons_zero, List.set_cons_succ, i64_w, i32_w]; rfl
    refine pure_ (i := 18) (N := some 30) (v := ?_) (a' := ?_) (bA 36 524287) rfl rfl (any_of HT_.out (by kernel_rfl)) (fun _ _ _ h => h) (Or.inl ⟨by rfl, ?_⟩) ?_ ?_; rotate_left
    · intro w'; go_simp; with_reducible rfl
    rotate_left; · simp only [Act.put, List.setIfInBounds_toArray, List.set_cons_zero, List.set_cons_succ, i64_w, i32_w]; rfl
    refine pure_ (i := 19) (N := some 31) (v := ?_) (a' := ?_) (bA 36 1048575) rfl rfl (any_of HT_.out (by kernel_rfl)) (fun _ _ _ h => h) (Or.inl ⟨by rfl, ?_⟩) ?_ ?_; rotate_left
    · intro w'; go_simp; with_reducible rfl
    rotate_left; · simp only [Act.put, List.setIfInBounds_toArray, List.set_cons_zero, List.set_cons_succ, i64_w, i32_w]; rfl
    refine pure_ (i := 20) (N := some 32) (v := ?_) (a' := ?_) (bA 36 2097151) rfl rfl (any_of HT_.out (by kernel_rfl)) (fun _ _ _ h => h) (Or.inl ⟨by rfl, ?_⟩) ?_ ?_; rotate_left
    · intro w'; go_simp; with_reducible rfl
    rotate_left; · simp only [Act.put, List.setIfInBounds_toArray, List.set_cons_zero, List.set_cons_succ, i64_w, i32_w]; rfl
    refine pure_ (i := 21) (N := some 33) (v := ?_) (a' := ?_) (bA 36 4194303) rfl rfl (any_of HT_.out (by kernel_rfl)) (fun _ _ _ h => h) (Or.inl ⟨by rfl, ?_⟩) ?_ ?_; rotate_left
    · intro w'; go_simp; with_reducible rfl
    rotate_left; · simp only [Act.put, List.setIfInBounds_toArray, List.set_cons_zero, List.set_cons_succ, i64_w, i32_w]; rfl
    refine pure_ (i := 22) (N := some 34) (v := ?_) (a' := ?_) (bA 36 8388607) rfl rfl (any_of HT_.out (by kernel_rfl)) (fun _ _ _ h => h) (Or.inl ⟨by rfl, ?_⟩) ?_ ?_; rotate_left
    · intro w'; go_simp; with_reducible rfl
    rotate_left; · simp only [Act.put, List.setIfInBounds_toArray, List.set_cons_zero, List.set_cons_succ, i64_w, i32_w]; rfl
    refine pure_ (i := 26) (N := some 38) (v := ?_) (a' := ?_) (bA 36 75497471) rfl rfl (any_of HT_.out (by kernel_rfl)) (fun _ _ _ h => h) (Or.inl ⟨by rfl, ?_⟩) ?_ ?_; rotate_left
    · intro w'; go_simp; with_reducible rfl
    rotate_left; · simp only [Act.put, List.setIfInBounds_toArray, List.set_cons_zero, List.set_cons_succ, i64_w, i32_w]; rfl
    refine pure_ (i := 27) (N := some 39) (v := ?_) (a' := ?_) (bA 36 209715199) rfl rfl (any_of HT_.out (by kernel_rfl)) (fun _ _ _ h => h) (Or.inl ⟨by rfl, ?_⟩) ?_ ?_; rotate_left
    · intro w'; go_simp; with_reducible rfl
    rotate_left; · simp only [Act.put, List.setIfInBounds_toArray, List.set_cons_zero, List.set_cons_succ, i64_w, i32_w]; rfl
    refine pure_ (i := 31) (N := some 43) (v := ?_) (a' := ?_) (bA 36 2357198847) rfl rfl (any_of HT_.out (by kernel_rfl)) (fun _ _ _ h => h) (Or.inl ⟨by rfl, ?_⟩) ?_ ?_; rotate_left
    · intro w'; go_simp; with_reducible rfl
    rotate_left; · simp only [Act.put, List.setIfInBounds_toArray, List.set_cons_zero, List.set_cons_succ, i64_w, i32_w]; rfl
    refine pure_ (i := 32) (N := some 44) (v := ?_) (a' := ?_) (bA 36 6652166143) rfl rfl (any_of HT_.out (by kernel_rfl)) (fun _ _ _ h => h) (Or.inl ⟨by rfl, ?_⟩) ?_ ?_; rotate_left
    · intro w'; go_simp; with_reducible rfl
    rotate_left; · simp only [Act.put, List.setIfInBounds_toArray, List.set_cons_zero, List.set_cons_succ, i64_w, i32_w]; rfl
    refine pure_ (i := 33) (N := some 45) (v := ?_) (a' := ?_) (bA 36 15242100735) rfl rfl (any_of HT_.out (by kernel_rfl)) (fun _ _ _ h => h) (Or.inl ⟨by rfl, ?_⟩) ?_ ?_; rotate_left
    · intro w'; go_simp; with_reducible rfl
    rotate_left; · simp only [Act.put, List.setIfInBounds_toArray, List.set_cons_zero, List.set_cons_succ, i64_w, i32_w]; rfl
    refine take_ (i := 23) (N := some 35) (v := ?_) (a' := ?_) (bA 36 15250489343) rfl rfl (take_ofW HT_.out HW_.out (by kernel_rfl)) (fun _ _ _ h => h) (Or.inl ⟨by rfl, ?_⟩) hHeld ?_ ?_; rotate_left
    · rintro w' ⟨s0, s1, s2, s3⟩
      go_simp
      with_reducible rfl
    rotate_left
    · simp only [Act.put, List.setIfInBounds_toArray, List.set_cons_zero, List.set_cons_succ, i64_w, i32_w]; rfl
    refine pure_ (i := 24) (N := some 36) (v := ?_) (a' := ?_) (bA 36 15267266559) rfl rfl (any_of HT_.out (by kernel_rfl)) (fun _ _ _ h => h) (Or.inl ⟨by rfl, ?_⟩) ?_ ?_; rotate_left
    · intro w'; go_simp; with_reducible rfl
    rotate_left; · simp only [Act.put, List.setIfInBounds_toArray, List.set_cons_zero, List.set_cons_succ, i64_w, i32_w]; rfl
    refine pure_ (i := 25) (N := some 37) (v := ?_) (a' := ?_) (bA 36 15300820991) rfl rfl (any_of HT_.out (by kernel_rfl)) (fun _ _ _ h => h) (Or.inl ⟨by rfl, ?_⟩) ?_ ?_; rotate_left
    · intro w'; go_simp; with_reducible rfl
    rotate_left; · simp only [Act.put, List.setIfInBounds_toArray, List.set_cons_zero, List.set_cons_succ, i64_w, i32_w]; rfl
    refine take_ (i := 28) (N := some 40) (v := ?_) (a' := ?_) (bA 36 15569256447) rfl rfl (take_ofW HT_.out HW_.out (by kernel_rfl)) (fun _ _ _ h => h) (Or.inl ⟨by rfl, ?_⟩) hHeld ?_ ?_; rotate_left
    · rintro w' ⟨s0, s1, s2, s3⟩
      go_simp
      with_reducible rfl
    rotate_left
    · simp only [Act.put, List.setIfInBounds_toArray, List.set_cons_zero, List.set_cons_succ, i64_w, i32_w]; rfl
    refine pure_ (i := 29) (N := some 41) (v := ?_) (a' := ?_) (bA 36 16106127359) rfl rfl (any_of HT_.out (by kernel_rfl)) (fun _ _ _ h => h) (Or.inl ⟨by rfl, ?_⟩) ?_ ?_; rotate_left
    · intro w'; go_simp; with_reducible rfl
    rotate_left; · simp only [Act.put, List.setIfInBounds_toArray, List.set_cons_zero, List.set_cons_succ, i64_w, i32_w]; rfl
    refine pure_ (i := 30) (N := some 42) (v := ?_) (a' := ?_) (bA 36 17179869183) rfl rfl (any_of HT_.out (by kernel_rfl)) (fun _ _ _ h => h) (Or.inl ⟨by rfl, ?_⟩) ?_ ?_; rotate_left
    · intro w'; go_simp; with_reducible rfl
    rotate_left; · simp only [Act.put, List.setIfInBounds_toArray, List.set_cons_zero, List.set_cons_succ, i64_w, i32_w]; rfl
    refine pure_ (i := 34) (N := some 46) (v := ?_) (a' := ?_) (bA 36 34359738367) rfl rfl (any_of HT_.out (by kernel_rfl)) (fun _ _ _ h => h) (Or.inl ⟨by rfl, ?_⟩) ?_ ?_; rotate_left
    · intro w'; go_simp; with_reducible rfl
    rotate_left; · simp only [Act.put, List.setIfInBounds_toArray, List.set_cons_zero, List.set_cons_succ, i64_w, i32_w]; rfl
    refine pure_ (i := 35) (N := some 47) (v := ?_) (a' := ?_) (bA 36 68719476735) rfl rfl (any_of HT_.out (by kernel_rfl)) (fun _ _ _ h => h) (Or.inl ⟨by rfl, ?_⟩) ?_ ?_; rotate_left
    · intro w'; go_simp; with_reducible rfl
    rotate_left; · simp only [Act.put, List.setIfInBounds_toArray, List.set_cons_zero, List.set_cons_succ, i64_w, i32_w]; rfl
    refine done_ (done_of HT_.out (by kernel_rfl)) ?_
    try go_wp2
    go_meet
    case rel => exact ⟨_, (((wrap64 ((wrap64 (256 * (wrap64 (rd l0 2)))) + (wrap64 (rd l0 3)))) != (wrap64 ((l0.length : Int) - 4)))), (by first | rfl | (simp; done) | (simp [*]; done)), H', ⟨by first | omega | exact Nat.le_refl _⟩, ⟨by repeat (first | (with_reducible first | exact HB.out | apply below_alloc | apply pw_below_drewN | apply below_drew1) | exact HB.out)⟩⟩
  case rest => as_aux_lemma =>
    clear HC2
    try clear c1; try clear p1; try clear q1; try clear hx1; try clear qi1; try clear p2; try clear p6; try clear c7; try clear c8; try clear c8b0; try clear c8b1; try clear c9; try clear c10; try clear c10b0; try clear c10b1; try clear c11; try clear c12; try clear hx190_0; try clear hx191_0; try clear p190; try clear p191; try clear q190; try clear q191
    obtain ⟨kq, x47_1, rfl, HA, HJ1, HB⟩ := hcut
    cases kq with
    | zero => exact absurd HA.out (by simp [wayfarerlaw08_decode.j0])
    | succ kj1 =>
      have H := HA.out
      clear HA
      simp only [wayfarerlaw08_decode.j0] at H
      by_cases c16 : x47_1 = true
      case pos =>
        subst c16
        have H1 : (some (([] : List (S62)), false)) = some (r1, r2) := by rw [if_pos rfl] at H; exact H
        clear H
        have H := H1
        clear H1
        simp only [Option.some.injEq, Prod.mk.injEq] at H
        obtain ⟨rfl, rfl⟩ := H
        go_wp2
        go_ret2
        exact ⟨_, by first | rfl | (simp [errW_none, errW_some] <;> rfl) | (simp [*, errW_none, errW_some] <;> rfl), by first | exact Kd.R_nil _ _ _ _ _ | exact Kd.N_nil _ _ _ _ _ | exact Kd.V_nil _ _ _ _ _ | exact Kd.Q_nil _ _ _ _ _ | exact Kd.S_nil _ _ _ _ _, by repeat (first | (with_reducible first | exact HB.out | apply below_alloc | apply pw_below_drewN | apply below_drew1) | exact HB.out)⟩
      replace c16 := Bool.eq_false_iff.mpr c16
      subst c16
      have H1 : (wayfarerlaw08_decode.l0 kj1 l0 (([] : List (S62))) 0 4) = some (r1, r2) := by rw [if_neg (show ¬ (false = true) by decide)] at H; exact H
      clear H
      have H := H1
      clear H1
      obtain ⟨y194, hy194⟩ : ∃ y_ : List (S62), y_ = (([] : List (S62))) := ⟨_, rfl⟩
      replace H : (wayfarerlaw08_decode.l0 kj1 l0 y194 0 4) = some (r1, r2) := by first | (rw [hy194]; with_reducible exact H) | (have H2_ := (Option.bind_some _ _).symm.trans H; rw [hy194]; with_reducible exact H2_) | (have H2_ := (Option.bind_some _ _).symm.trans H; with_reducible exact H2_) | with_reducible exact H | (rw [hy194]; exact H) | exact H
      have Ny194 := Aside0.mk hy194
      clear hy194
      have H' := Aside0.mk H
      clear H
      go_wp2_with (first | ((with_reducible refine gate_dst (N := 48) rfl ?_); (try (refine gate_guard (by rfl) ?_; dsimp only)); refine Kd.R_lit k62 _ 62 ?hg (N := 48) ?hd (xs := ([] : List (S62))) (inner := []) (ok := fun _ => True) (okp := fun _ => True) ?hr ?hp (fun _ hk => hk) trivial (Below.refl _ _) (Nat.le_refl _) (by simp) ?_; (case hd => rfl); (case hg => rfl); (case hr => first | (go_simp; done) | (go_simp; rfl)); (case hp => exact (Reps.none _ _)); intro v195 w17 ho18 hb hg_ hnew_; clear hg_ hnew_; (first | rw [← Ny194.out] at ho18 | (simp only [Int.reduceToNat] at ho18; rw [← Ny194.out] at ho18)); have n0_ := Aside0.mk (Kd.R_lower ho18 (below_size (by repeat (first | (with_reducible first | exact HB.out | apply below_alloc | apply pw_below_drewN | apply below_drew1) | exact HB.out)))); have n1_ := Aside0.mk (below_step (by repeat (first | (with_reducible first | exact HB.out | apply below_alloc | apply pw_below_drewN | apply below_drew1) | exact HB.out)) hb); clear HB; have HO196 := n0_; have HB := n1_; clear n0_ n1_; clear hb ho18))
      go_loopg [4, 5, 6] kj1 (fun kq v4 v5 v6 w' => ∃ (x4_2 : List (S62)) (x5_2 : Int) (x6_2 : Int), v5 = .int .u32 x5_2 ∧ v6 = .int .i64 x6_2 ∧ Aside0 (wayfarerlaw08_decode.l0 kq l0 x4_2 x5_2 x6_2 = some (r1, r2)) ∧ Aside0 (kq ≤ kj1) ∧ Aside0 (Kd.R k62 62 w' w.heap.size (fun _ => True) v4 x4_2) ∧ Aside0 (Below w.heap.size w w'))
      case atStart => exact ⟨(y194), (0), (4), (by first | rfl | (simp; done) | (simp [*]; done)), (by first | rfl | (simp; done) | (simp [*]; done)), H', ⟨Nat.le_refl _⟩, ⟨by (with_reducible repeat (first | apply Kd.R_alloc | apply Kd.R_drewN | apply Kd.R_drew)); exact HO196.out⟩, ⟨by repeat (first | (with_reducible first | exact HB.out | apply below_alloc | apply pw_below_drewN | apply below_drew1) | exact HB.out)⟩⟩
      case round => as_aux_lemma =>
          clear H'
          try clear c1; try clear p1; try clear q1; try clear hx1; try clear qi1; try clear p2; try clear p6; try clear c7; try clear c8; try clear c8b0; try clear c8b1; try clear c9; try clear c10; try clear c10b0; try clear c10b1; try clear c11; try clear c12; try clear c16; try clear hx190_0; try clear hx191_0; try clear p1; try clear p190; try clear p191; try clear p2; try clear p6; try clear q1
          try clear q190; try clear q191
          obtain ⟨x4_2, x5_2, x6_2, rfl, rfl, HA, HK2, HO_4, HB⟩ := hrel
          cases gk with
          | zero => exact absurd HA.out (by simp [wayfarerlaw08_decode.l0])
          | succ k2 =>
            have H := HA.out
            clear HA
            simp only [wayfarerlaw08_decode.l0] at H
            by_cases c19 : x6_2 < (l0.length : Int)
            case neg =>
              rw [if_neg c19] at H; have c19b0 : decide (x6_2 < (l0.length : Int)) = false := decide_eq_false c19
              clear c19
              simp only [Option.some.injEq, Prod.mk.injEq] at H
              obtain ⟨rfl, rfl⟩ := H
              go_wp2
              go_ret2
              exact ⟨_, by first | rfl | (simp [errW_none, errW_some] <;> rfl) | (simp [*, errW_none, errW_some] <;> rfl), by (with_reducible repeat (first | apply Kd.R_alloc | apply Kd.R_drewN | apply Kd.R_drew)); exact HO_4.out, by repeat (first | (with_reducible first | exact HB.out | apply below_alloc | apply pw_below_drewN | apply below_drew1) | exact HB.out)⟩

            rw [if_pos c19] at H; have c19b0 : decide (x6_2 < (l0.length : Int)) = true := decide_eq_true c19
            clear c19
            by_cases c20 : 0 ≤ x6_2
            case neg =>
              rw [if_neg c20] at H; exact absurd H (by simp)
            rw [if_pos c20] at H; have c20b0 : decide (0 ≤ x6_2) = true := decide_eq_true c20
            clear c20
            by_cases c21 : (rd l0 x6_2) = 0
            case pos =>
              rw [if_pos c21] at H; have c21b0 : ((rd l0 x6_2) == 0) = true := beq_iff_eq.mpr c21
              have c21b1 : ((rd l0 x6_2) != 0) = false := bne_eq_false_iff_eq.mpr c21
              clear c21
              have H' := Aside0.mk H
              clear H
              have p197 : 0 ≤ (x6_2 : Int) := of_decide_eq_true (by first | (with_reducible assumption) | assumption)
              have q197 : x6_2 < (l0.length : Int) := of_decide_eq_true (by first | (with_reducible assumption) | assumption)
              obtain ⟨ad197, e197, hx197_0⟩ := Kd.at_int HR0.out x6_2 p197 q197
              cases e197
              replace hx197_0 := (HB.out.cell (World.block_lt_of_cell? w _ hx197_0)).trans hx197_0
              replace p197 := eq_true p197
              replace q197 := eq_true q197
              go_wp2
              go_roundg k2
              case measure => have := HJ1.out; have := HK2.out; omega
              case rel => exact ⟨(x4_2), (x5_2), (wrap64 (x6_2 + 1)), (by first | rfl | (simp; done) | (simp [*]; done)), (by first | rfl | (simp; done) | (simp [*]; done)), H', ⟨by have := HJ1.out; have := HK2.out; omega⟩, ⟨by (with_reducible repeat (first | apply Kd.R_alloc | apply Kd.R_drewN | apply Kd.R_drew)); exact HO_4.out⟩, ⟨by repeat (first | (with_reducible first | exact HB.out | apply below_alloc | apply pw_below_drewN | apply below_drew1) | exact HB.out)⟩⟩
            rw [if_neg c21] at H; have c21b0 : ((rd l0 x6_2) == 0) = false := beq_eq_false_iff_ne.mpr c21
            have c21b1 : ((rd l0 x6_2) != 0) = true := bne_iff_ne.mpr c21
            have HC22 := Aside0.mk H
            clear H
            have p197 : 0 ≤ (x6_2 : Int) := of_decide_eq_true (by first | (with_reducible assumption) | assumption)
            have q197 : x6_2 < (l0.length : Int) := of_decide_eq_true (by first | (with_reducible assumption) | assumption)
            obtain ⟨ad197, e197, hx197_0⟩ := Kd.at_int HR0.out x6_2 p197 q197
            cases e197
            replace hx197_0 := (HB.out.cell (World.block_lt_of_cell? w _ hx197_0)).trans hx197_0
            replace p197 := eq_true p197
            replace q197 := eq_true q197
            go_upto_region 9 with (fail)
            go_cut [78] (fun v78 wc => ∃ (kq : Nat) (x78_21 : Bool), v78 = .bool x78_21 ∧ Aside0 (wayfarerlaw08_decode.j2 kq l0 x4_2 x5_2 x6_2 x78_21 = some (r1, r2)) ∧ Aside0 (kq ≤ k2) ∧ Aside0 (Kd.R k62 62 wc w.heap.size (fun _ => True) u4 x4_2) ∧ Aside0 (Below w.heap.size w wc))
            case first => as_aux_lemma =>
              have H := HC22.out
              clear HC22
              by_cases c23 : (wrap64 (x6_2 + 1)) = (l0.length : Int)
              case pos =>
                rw [if_pos c23] at H; have c23b0 : ((wrap64 (x6_2 + 1)) == (l0.length : Int)) = true := beq_iff_eq.mpr c23
                have c23b1 : ((wrap64 (x6_2 + 1)) != (l0.length : Int)) = false := bne_eq_false_iff_eq.mpr c23
                clear c23
                (first | rw [c23b0] | (simp only [i64_w, i32_w]; rw [c23b0]) | skip)
                have H' := Aside0.mk H
                clear H
                go_wp2
                go_meet
                case rel => exact ⟨_, (true), (by first | rfl | (simp; done) | (simp [*]; done)), H', ⟨by have := HJ1.out; have := HK2.out; first | omega | exact Nat.le_refl _⟩, ⟨by (with_reducible repeat (first | apply Kd.R_alloc | apply Kd.R_drewN | apply Kd.R_drew)); exact HO_4.out⟩, ⟨by repeat (first | (with_reducible first | exact HB.out | apply below_alloc | apply pw_below_drewN | apply below_drew1) | exact HB.out)⟩⟩
              rw [if_neg c23] at H; have c23b0 : ((wrap64 (x6_2 + 1)) == (l0.length : Int)) = false := beq_eq_false_iff_ne.mpr c23
              have c23b1 : ((wrap64 (x6_2 + 1)) != (l0.length : Int)) = true := bne_iff_ne.mpr c23
              (first | rw [c23b0] | (simp only [i64_w, i32_w]; rw [c23b0]) | skip)
              obtain ⟨ji24, hji24⟩ : ∃ j_ : Int, (wrap64 (x6_2 + 1)) = j_ := ⟨_, rfl⟩
              replace H : (if 0 ≤ (ji24) then (if (ji24) < (l0.length : Int) then (wayfarerlaw08_decode.j2 k2 l0 x4_2 x5_2 x6_2 (decide ((wrap64 ((wrap64 (x6_2 + 2)) + (wrap64 (rd l0 (ji24))))) > (l0.length : Int)))) else (none)) else (none)) = some (r1, r2) := by first | (rw [hji24] at H; exact H) | (simp only [hji24] at H ⊢; exact H)
              (try rw [hji24] at c23b0)
              (try rw [hji24] at c23b1)
              have hji24w : (IntKind.i64.wrap (x6_2 + 1)) = ji24 := (i64_w _).trans hji24
              by_cases c25 : 0 ≤ (ji24)
              case neg =>
                rw [if_neg c25] at H; exact absurd H (by simp)
              rw [if_pos c25] at H; have c25b0 : decide (0 ≤ (ji24)) = true := decide_eq_true c25
              clear c25
              by_cases c26 : (ji24) < (l0.length : Int)
              case neg =>
                rw [if_neg c26] at H; exact absurd H (by simp)
              rw [if_pos c26] at H; have c26b0 : decide ((ji24) < (l0.length : Int)) = true := decide_eq_true c26
              clear c26
              have H' := Aside0.mk H
              clear H
              have p198 : 0 ≤ ((ji24) : Int) := of_decide_eq_true (by first | (with_reducible assumption) | assumption)
              have q198 : (ji24) < (l0.length : Int) := of_decide_eq_true (by first | (with_reducible assumption) | assumption)
              obtain ⟨ad198, e198, hx198_0⟩ := Kd.at_int HR0.out (ji24) p198 q198
              obtain rfl : ad197 = ad198 := (by injection e198)
              replace hx198_0 := (HB.out.cell (World.block_lt_of_cell? w _ hx198_0)).trans hx198_0
              replace p198 := eq_true p198
              replace q198 := eq_true q198
              go_wp2
              go_meet
              case rel => exact ⟨_, (decide ((wrap64 ((wrap64 (x6_2 + 2)) + (wrap64 (rd l0 (ji24))))) > (l0.length : Int))), (by first | rfl | (simp; done) | (simp only [← hji24] <;> (first | rfl | simp)) | (simp [*]; done)), H', ⟨by have := HJ1.out; have := HK2.out; first | omega | exact Nat.le_refl _⟩, ⟨by (with_reducible repeat (first | apply Kd.R_alloc | apply Kd.R_drewN | apply Kd.R_drew)); exact HO_4.out⟩, ⟨by repeat (first | (with_reducible first | exact HB.out | apply below_alloc | apply pw_below_drewN | apply below_drew1) | exact HB.out)⟩⟩
            case rest => as_aux_lemma =>
              clear HC22
              try clear c1; try clear p1; try clear q1; try clear hx1; try clear qi1; try clear c2; try clear p2; try clear p6; try clear c7; try clear c8; try clear c8b0; try clear c8b1; try clear c9; try clear c10; try clear c10b0; try clear c10b1; try clear c11; try clear c12; try clear c16; try clear c19; try clear c19b0; try clear p19; try clear q19; try clear hx19; try clear qi19; try clear c20
              try clear c20b0; try clear c21; try clear c21b0; try clear c21b1; try clear c23; try clear c23b0; try clear c23b1; try clear c25; try clear c25b0; try clear c26; try clear c26b0; try clear hx190_0; try clear hx191_0; try clear hx197_0; try clear hx198_0; try clear p1; try clear p190; try clear p191; try clear p197; try clear p198; try clear p2; try clear p6; try clear q1; try clear q190
              try clear q191; try clear q197; try clear q198
              obtain ⟨kq, x78_21, rfl, HA, HJ21, HO_4, HB⟩ := hcut
              cases kq with
              | zero => exact absurd HA.out (by simp [wayfarerlaw08_decode.j2])
              | succ kj21 =>
                have H := HA.out
                clear HA
                simp only [wayfarerlaw08_decode.j2] at H
                by_cases c27 : x78_21 = true
                case pos =>
                  subst c27
                  have H1 : (some (([] : List (S62)), false)) = some (r1, r2) := by rw [if_pos rfl] at H; exact H
                  clear H
                  have H := H1
                  clear H1
                  simp only [Option.some.injEq, Prod.mk.injEq] at H
                  obtain ⟨rfl, rfl⟩ := H
                  go_wp2
                  go_ret2
                  exact ⟨_, by first | rfl | (simp [errW_none, errW_some] <;> rfl) | (simp [*, errW_none, errW_some] <;> rfl), by first | exact Kd.R_nil _ _ _ _ _ | exact Kd.N_nil _ _ _ _ _ | exact Kd.V_nil _ _ _ _ _ | exact Kd.Q_nil _ _ _ _ _ | exact Kd.S_nil _ _ _ _ _, by repeat (first | (with_reducible first | exact HB.out | apply below_alloc | apply pw_below_drewN | apply below_drew1) | exact HB.out)⟩
                replace c27 := Bool.eq_false_iff.mpr c27
                subst c27
                have H1 : (if 0 ≤ (wrap64 (x6_2 + 1)) then (if (wrap64 (x6_2 + 1)) < (l0.length : Int) then (if 0 ≤ (wrap64 (x6_2 + 2)) then (if (wrap64 (x6_2 + 2)) ≤ (wrap64 ((wrap64 (x6_2 + 2)) + (wrap64 (rd l0 (wrap64 (x6_2 + 1)))))) then (if (wrap64 ((wrap64 (x6_2 + 2)) + (wrap64 (rd l0 (wrap64 (x6_2 + 1)))))) ≤ (l0.length : Int) then (if 0 ≤ x6_2 then (if x6_2 < (l0.length : Int) then (if (rd l0 x6_2) = 2 then (wayfarerlaw08_decode.j3 kj21 l0 x4_2 x5_2 (wrap64 (x6_2 + (wrap64 (2 + (((l0.take ((wrap64 ((wrap64 (x6_2 + 2)) + (wrap64 (rd l0 (wrap64 (x6_2 + 1)))))) : Int).toNat).drop ((wrap64 (x6_2 + 2)) : Int).toNat).length : Int))))) ((l0.take ((wrap64 ((wrap64 (x6_2 + 2)) + (wrap64 (rd l0 (wrap64 (x6_2 + 1)))))) : Int).toNat).drop ((wrap64 (x6_2 + 2)) : Int).toNat) (rd l0 x6_2) ((((l0.take ((wrap64 ((wrap64 (x6_2 + 2)) + (wrap64 (rd l0 (wrap64 (x6_2 + 1)))))) : Int).toNat).drop ((wrap64 (x6_2 + 2)) : Int).toNat).length : Int) == 4)) else (wayfarerlaw08_decode.j3 kj21 l0 x4_2 x5_2 (wrap64 (x6_2 + (wrap64 (2 + (((l0.take ((wrap64 ((wrap64 (x6_2 + 2)) + (wrap64 (rd l0 (wrap64 (x6_2 + 1)))))) : Int).toNat).drop ((wrap64 (x6_2 + 2)) : Int).toNat).length : Int))))) ((l0.take ((wrap64 ((wrap64 (x6_2 + 2)) + (wrap64 (rd l0 (wrap64 (x6_2 + 1)))))) : Int).toNat).drop ((wrap64 (x6_2 + 2)) : Int).toNat) (rd l0 x6_2) false)) else (none)) else (none)) else (none)) else (none)) else (none)) else (none)) else (none)) = some (r1, r2) := by rw [if_neg (show ¬ (false = true) by decide)] at H; exact H
                clear H
                have H := H1
                clear H1
                obtain ⟨ji28, hji28⟩ : ∃ j_ : Int, (wrap64 (x6_2 + 1)) = j_ := ⟨_, rfl⟩
                replace H : (if 0 ≤ (ji28) then (if (ji28) < (l0.length : Int) then (if 0 ≤ (wrap64 (x6_2 + 2)) then (if (wrap64 (x6_2 + 2)) ≤ (wrap64 ((wrap64 (x6_2 + 2)) + (wrap64 (rd l0 (ji28))))) then (if (wrap64 ((wrap64 (x6_2 + 2)) + (wrap64 (rd l0 (ji28))))) ≤ (l0.length : Int) then (if 0 ≤ x6_2 then (if x6_2 < (l0.length : Int) then (if (rd l0 x6_2) = 2 then (wayfarerlaw08_decode.j3 kj21 l0 x4_2 x5_2 (wrap64 (x6_2 + (wrap64 (2 + (((l0.take ((wrap64 ((wrap64 (x6_2 + 2)) + (wrap64 (rd l0 (ji28))))) : Int).toNat).drop ((wrap64 (x6_2 + 2)) : Int).toNat).length : Int))))) ((l0.take ((wrap64 ((wrap64 (x6_2 + 2)) + (wrap64 (rd l0 (ji28))))) : Int).toNat).drop ((wrap64 (x6_2 + 2)) : Int).toNat) (rd l0 x6_2) ((((l0.take ((wrap64 ((wrap64 (x6_2 + 2)) + (wrap64 (rd l0 (ji28))))) : Int).toNat).drop ((wrap64 (x6_2 + 2)) : Int).toNat).length : Int) == 4)) else (wayfarerlaw08_decode.j3 kj21 l0 x4_2 x5_2 (wrap64 (x6_2 + (wrap64 (2 + (((l0.take ((wrap64 ((wrap64 (x6_2 + 2)) + (wrap64 (rd l0 (ji28))))) : Int).toNat).drop ((wrap64 (x6_2 + 2)) : Int).toNat).length : Int))))) ((l0.take ((wrap64 ((wrap64 (x6_2 + 2)) + (wrap64 (rd l0 (ji28))))) : Int).toNat).drop ((wrap64 (x6_2 + 2)) : Int).toNat) (rd l0 x6_2) false)) else (none)) else (none)) else (none)) else (none)) else (none)) else (none)) else (none)) = some (r1, r2) := by first | (rw [hji28] at H; exact H) | (simp only [hji28] at H ⊢; exact H)
                have hji28w : (IntKind.i64.wrap (x6_2 + 1)) = ji28 := (i64_w _).trans hji28
                by_cases c29 : 0 ≤ (ji28)
                case neg =>
                  rw [if_neg c29] at H; exact absurd H (by simp)
                rw [if_pos c29] at H; have c29b0 : decide (0 ≤ (ji28)) = true := decide_eq_true c29
                clear c29
                by_cases c30 : (ji28) < (l0.length : Int)
                case neg =>
                  rw [if_neg c30] at H; exact absurd H (by simp)
                rw [if_pos c30] at H; have c30b0 : decide ((ji28) < (l0.length : Int)) = true := decide_eq_true c30
                clear c30
                obtain ⟨ji31, hji31⟩ : ∃ j_ : Int, (wrap64 (x6_2 + 2)) = j_ := ⟨_, rfl⟩
                replace H : (if 0 ≤ (ji31) then (if (ji31) ≤ (wrap64 ((ji31) + (wrap64 (rd l0 (ji28))))) then (if (wrap64 ((ji31) + (wrap64 (rd l0 (ji28))))) ≤ (l0.length : Int) then (if 0 ≤ x6_2 then (if x6_2 < (l0.length : Int) then (if (rd l0 x6_2) = 2 then (wayfarerlaw08_decode.j3 kj21 l0 x4_2 x5_2 (wrap64 (x6_2 + (wrap64 (2 + (((l0.take ((wrap64 ((ji31) + (wrap64 (rd l0 (ji28))))) : Int).toNat).drop ((ji31) : Int).toNat).length : Int))))) ((l0.take ((wrap64 ((ji31) + (wrap64 (rd l0 (ji28))))) : Int).toNat).drop ((ji31) : Int).toNat) (rd l0 x6_2) ((((l0.take ((wrap64 ((ji31) + (wrap64 (rd l0 (ji28))))) : Int).toNat).drop ((ji31) : Int).toNat).length : Int) == 4)) else (wayfarerlaw08_decode.j3 kj21 l0 x4_2 x5_2 (wrap64 (x6_2 + (wrap64 (2 + (((l0.take ((wrap64 ((ji31) + (wrap64 (rd l0 (ji28))))) : Int).toNat).drop ((ji31) : Int).toNat).length : Int))))) ((l0.take ((wrap64 ((ji31) + (wrap64 (rd l0 (ji28))))) : Int).toNat).drop ((ji31) : Int).toNat) (rd l0 x6_2) false)) else (none)) else (none)) else (none)) else (none)) else (none)) = some (r1, r2) := by first | (rw [hji31] at H; exact H) | (simp only [hji31] at H ⊢; exact H)
                have hji31w : (IntKind.i64.wrap (x6_2 + 2)) = ji31 := (i64_w _).trans hji31
                by_cases c32 : 0 ≤ (ji31)
                case neg =>
                  rw [if_neg c32] at H; exact absurd H (by simp)
                rw [if_pos c32] at H; have c32b0 := eq_true c32
                have c32b1 : decide (0 ≤ (ji31)) = true := decide_eq_true c32
                clear c32
                by_cases c33 : (ji31) ≤ (wrap64 ((ji31) + (wrap64 (rd l0 (ji28)))))
                case neg =>
                  rw [if_neg c33] at H; exact absurd H (by simp)
                rw [if_pos c33] at H; have c33b0 := eq_true c33
                have c33b1 : decide ((ji31) ≤ (wrap64 ((ji31) + (wrap64 (rd l0 (ji28)))))) = true := decide_eq_true c33
                by_cases c34 : (wrap64 ((ji31) + (wrap64 (rd l0 (ji28))))) ≤ (l0.length : Int)
                case neg =>
                  rw [if_neg c34] at H; exact absurd H (by simp)
                rw [if_pos c34] at H; have c34b0 := eq_true c34
                have c34b1 : decide ((wrap64 ((ji31) + (wrap64 (rd l0 (ji28))))) ≤ (l0.length : Int)) = true := decide_eq_true c34
                by_cases c35 : 0 ≤ x6_2
                case neg =>
                  rw [if_neg c35] at H; exact absurd H (by simp)
                rw [if_pos c35] at H; have c35b0 : decide (0 ≤ x6_2) = true := decide_eq_true c35
                clear c35
                by_cases c36 : x6_2 < (l0.length : Int)
                case neg =>
                  rw [if_neg c36] at H; exact absurd H (by simp)
                rw [if_pos c36] at H; have c36b0 : decide (x6_2 < (l0.length : Int)) = true := decide_eq_true c36
                clear c36
                have HC37 := Aside0.mk H
                clear H
                have p199 : 0 ≤ ((ji28) : Int) := of_decide_eq_true (by first | (with_reducible assumption) | assumption)
                have q199 : (ji28) < (l0.length : Int) := of_decide_eq_true (by first | (with_reducible assumption) | assumption)
                obtain ⟨ad199, e199, hx199_0⟩ := Kd.at_int HR0.out (ji28) p199 q199
                obtain rfl : ad197 = ad199 := (by injection e199)
                replace hx199_0 := (HB.out.cell (World.block_lt_of_cell? w _ hx199_0)).trans hx199_0
                replace p199 := eq_true p199
                replace q199 := eq_true q199
                obtain ⟨i038, hi038, _, hsz38, _⟩ := info_parts info5
                obtain ⟨A38, hcut38, hA38, hC38⟩ := print_mid_of (P := Try.prog) (Value.int .u8) 0 22 5 .i64 .i64 Try.underlying22 hi038 hsz38 (some ad197) c0 l0 (ji31) (wrap64 ((ji31) + (wrap64 (rd l0 (ji28))))) (of_decide_eq_true (by first | (with_reducible assumption) | assumption)) (by first | omega | exact of_decide_eq_true (by first | (with_reducible assumption) | assumption)) (of_decide_eq_true (by first | (with_reducible assumption) | assumption)) HC0.out
                have HR200 := Aside0.mk (Kd.C_of_reads (h1 := fun _ => rfl) (hA38 _ (Kd.reads_of_C HR0.out)))
                have HC200 := Aside0.mk hC38
                clear hA38 hC38 hi038 hsz38
                obtain ⟨X_, hX_⟩ : ∃ X_ : List Int, X_ = ((l0.take ((wrap64 ((ji31) + (wrap64 (rd l0 (ji28))))) : Int).toNat).drop ((ji31) : Int).toNat) := ⟨_, rfl⟩
                rw [← hX_] at hcut38 HR200 HC200 HC37
                clear hX_
                have p201 : 0 ≤ (x6_2 : Int) := of_decide_eq_true (by first | (with_reducible assumption) | assumption)
                have q201 : x6_2 < (l0.length : Int) := of_decide_eq_true (by first | (with_reducible assumption) | assumption)
                obtain ⟨ad201, e201, hx201_0⟩ := Kd.at_int HR0.out x6_2 p201 q201
                obtain rfl : ad197 = ad201 := (by injection e201)
                replace hx201_0 := (HB.out.cell (World.block_lt_of_cell? w _ hx201_0)).trans hx201_0
                replace p201 := eq_true p201
                replace q201 := eq_true q201
                go_upto_region 14 with (fail)
                go_cut [107] (fun v107 wc => ∃ (kq : Nat) (x107_36 : Bool), v107 = .bool x107_36 ∧ Aside0 (wayfarerlaw08_decode.j3 kq l0 x4_2 x5_2 (wrap64 (x6_2 + (wrap64 (2 + (X_.length : Int))))) X_ (rd l0 x6_2) x107_36 = some (r1, r2)) ∧ Aside0 (kq ≤ kj21) ∧ Aside0 (Kd.R k62 62 wc w.heap.size (fun _ => True) u4 x4_2) ∧ Aside0 (Below w.heap.size w wc))
                case first => as_aux_lemma =>
                  have H := HC37.out
                  clear HC37
                  by_cases c39 : (rd l0 x6_2) = 2
                  case neg =>
                    rw [if_neg c39] at H; have c39b0 : ((rd l0 x6_2) == 2) = false := beq_eq_false_iff_ne.mpr c39
                    have c39b1 : ((rd l0 x6_2) != 2) = true := bne_iff_ne.mpr c39
                    (first | rw [c39b0] | (simp only [i64_w, i32_w]; rw [c39b0]) | skip)
                    have H' := Aside0.mk H
                    clear H
                    go_wp2
                    go_meet
                    case rel => exact ⟨_, (false), (by first | rfl | (simp; done) | (simp [*]; done)), H', ⟨by have := HJ1.out; have := HK2.out; have := HJ21.out; first | omega | exact Nat.le_refl _⟩, ⟨by (with_reducible repeat (first | apply Kd.R_alloc | apply Kd.R_drewN | apply Kd.R_drew)); exact HO_4.out⟩, ⟨by repeat (first | (with_reducible first | exact HB.out | apply below_alloc | apply pw_below_drewN | apply below_drew1) | exact HB.out)⟩⟩
                  rw [if_pos c39] at H; have c39b0 : ((rd l0 x6_2) == 2) = true := beq_iff_eq.mpr c39
                  have c39b1 : ((rd l0 x6_2) != 2) = false := bne_eq_false_iff_eq.mpr c39
                  clear c39
                  (first | rw [c39b0] | (simp only [i64_w, i32_w]; rw [c39b0]) | skip)
                  have H' := Aside0.mk H
                  clear H
                  go_wp2
                  go_meet
                  case rel => exact ⟨_, (((X_.length : Int) == 4)), (by first | rfl | (simp; done) | (simp only [← hji28, ← hji31] <;> (first | rfl | simp)) | (simp [*]; done)), H', ⟨by have := HJ1.out; have := HK2.out; have := HJ21.out; first | omega | exact Nat.le_refl _⟩, ⟨by (with_reducible repeat (first | apply Kd.R_alloc | apply Kd.R_drewN | apply Kd.R_drew)); exact HO_4.out⟩, ⟨by repeat (first | (with_reducible first | exact HB.out | apply below_alloc | apply pw_below_drewN | apply below_drew1) | exact HB.out)⟩⟩
                case rest => as_aux_lemma =>
                  clear HC37
                  try clear c1; try clear p1; try clear q1; try clear hx1; try clear qi1; try clear c2; try clear p2; try clear q2; try clear hx2; try clear c3; try clear p6; try clear c7; try clear c8; try clear c8b0; try clear c8b1; try clear c9; try clear c10; try clear c10b0; try clear c10b1; try clear c11; try clear c12; try clear c16; try clear c19; try clear c19b0; try clear p19
                  try clear q19; try clear hx19; try clear qi19; try clear c20; try clear c20b0; try clear p20; try clear q20; try clear hx20; try clear c21; try clear c21b0; try clear c21b1; try clear c23; try clear c23b0; try clear c23b1; try clear c25; try clear c25b0; try clear c26; try clear c26b0; try clear c27; try clear c29; try clear c29b0; try clear c30; try clear c30b0
                  try clear c32; try clear c32b0; try clear c32b1; try clear c33; try clear c33b0; try clear c33b1; try clear c34; try clear c34b0; try clear c34b1; try clear c35; try clear c35b0; try clear c36; try clear c36b0; try clear c39; try clear c39b0; try clear c39b1; try clear hx190_0; try clear hx191_0; try clear hx197_0; try clear hx198_0; try clear hx199_0; try clear hx201_0
                  try clear p1; try clear p19; try clear p190; try clear p191; try clear p197; try clear p198; try clear p199; try clear p2; try clear p201; try clear p6; try clear q1; try clear q19; try clear q190; try clear q191; try clear q197; try clear q198; try clear q199; try clear q201
                  obtain ⟨kq, x107_36, rfl, HA, HJ36, HO_4, HB⟩ := hcut
                  cases kq with
                  | zero => exact absurd HA.out (by simp [wayfarerlaw08_decode.j3])
                  | succ kj36 =>
                    have H := HA.out
                    clear HA
                    simp only [wayfarerlaw08_decode.j3] at H
                    have HC40 := Aside0.mk H
                    clear H
                    go_upto_if 107 with (fail)
                    go_cut [5] (fun v5 wc => ∃ (kq : Nat) (x5_39 : Int), v5 = .int .u32 x5_39 ∧ Aside0 (wayfarerlaw08_decode.j4 kq l0 x4_2 x5_39 (wrap64 (x6_2 + (wrap64 (2 + (X_.length : Int))))) X_ (rd l0 x6_2) = some (r1, r2)) ∧ Aside0 (kq ≤ kj36) ∧ Aside0 (Kd.R k62 62 wc w.heap.size (fun _ => True) u4 x4_2) ∧ Aside0 (Below w.heap.size w wc))
                    case first => as_aux_lemma =>
                      have H := HC40.out
                      clear HC40
                      by_cases c41 : x107_36 = true
                      case neg =>
                        replace c41 := Bool.eq_false_iff.mpr c41
                        subst c41
                        have H1 : (wayfarerlaw08_decode.j4 kj36 l0 x4_2 x5_2 (wrap64 (x6_2 + (wrap64 (2 + (X_.length : Int))))) X_ (rd l0 x6_2)) = some (r1, r2) := by rw [if_neg (show ¬ (false = true) by decide)] at H; exact H
                        clear H
                        have H := H1
                        clear H1
                        have H' := Aside0.mk H
                        clear H
                        go_wp2
                        go_meet
                        case rel => exact ⟨_, (x5_2), (by first | rfl | (simp; done) | (simp [*]; done)), H', ⟨by have := HJ1.out; have := HK2.out; have := HJ21.out; have := HJ36.out; first | omega | exact Nat.le_refl _⟩, ⟨by (with_reducible repeat (first | apply Kd.R_alloc | apply Kd.R_drewN | apply Kd.R_drew)); exact HO_4.out⟩, ⟨by repeat (first | (with_reducible first | exact HB.out | apply below_alloc | apply pw_below_drewN | apply below_drew1) | exact HB.out)⟩⟩
                      subst c41
                      have H1 : (if 0 < (X_.length : Int) then (if 1 < (X_.length : Int) then (if 2 < (X_.length : Int) then (if 3 < (X_.length : Int) then (wayfarerlaw08_decode.j4 kj36 l0 x4_2 ((((((((((rd X_ 0) % 4294967296) * 16777216) % 4294967296) + ((((rd X_ 1) % 4294967296) * 65536) % 4294967296)) % 4294967296) + ((((rd X_ 2) % 4294967296) * 256) % 4294967296)) % 4294967296) + ((rd X_ 3) % 4294967296)) % 4294967296) (wrap64 (x6_2 + (wrap64 (2 + (X_.length : Int))))) X_ (rd l0 x6_2)) else (none)) else (none)) else (none)) else (none)) = some (r1, r2) := by rw [if_pos rfl] at H; exact H
                      clear H
                      have H := H1
                      clear H1
                      by_cases c42 : 0 < (X_.length : Int)
                      case neg =>
                        rw [if_neg c42] at H; exact absurd H (by simp)
                      rw [if_pos c42] at H; have c42b0 : decide (0 < (X_.length : Int)) = true := decide_eq_true c42
                      have c42b1 : decide (0 < X_.length) = true := decide_eq_true (by omega)
                      clear c42
                      (first | rw [c42b0] | (simp only [i64_w, i32_w]; rw [c42b0]) | skip)
                      by_cases c43 : 1 < (X_.length : Int)
                      case neg =>
                        rw [if_neg c43] at H; exact absurd H (by simp)
                      rw [if_pos c43] at H; have c43b0 : decide (1 < (X_.length : Int)) = true := decide_eq_true c43
                      have c43b1 : decide (1 < X_.length) = true := decide_eq_true (by omega)
                      clear c43
                      by_cases c44 : 2 < (X_.length : Int)
                      case neg =>
                        rw [if_neg c44] at H; exact absurd H (by simp)
                      rw [if_pos c44] at H; have c44b0 : decide (2 < (X_.length : Int)) = true := decide_eq_true c44
                      have c44b1 : decide (2 < X_.length) = true := decide_eq_true (by omega)
                      clear c44
                      by_cases c45 : 3 < (X_.length : Int)
                      case neg =>
                        rw [if_neg c45] at H; exact absurd H (by simp)
                      rw [if_pos c45] at H; have c45b0 : decide (3 < (X_.length : Int)) = true := decide_eq_true c45
                      have c45b1 : decide (3 < X_.length) = true := decide_eq_true (by omega)
                      clear c45
                      have H' := Aside0.mk H
                      clear H
                      try go_wp2
                      have n0_ := Aside0.mk (Kd.R_drew HO_4.out)
                      have n1_ := Aside0.mk (below_drew1 HB.out)
                      clear HO_4
                      clear HB
                      have HO_4 := n0_
                      have HB := n1_
                      clear n0_ n1_
                      have p202 : 0 ≤ (0 : Int) := (by omega)
                      have q202 : 0 < (X_.length : Int) := of_decide_eq_true (by first | (with_reducible assumption) | assumption)
                      obtain ⟨ad202, e202, hx202_0⟩ := Kd.at_int HR200.out 0 p202 q202
                      have hw202_0 := hx202_0
                      (try rw [show ((0 : Int)).toNat = 0 from rfl] at hw202_0)
                      (try rw [show 0 * 1 = 0 from rfl] at hw202_0)
                      (try rw [Addr.add_zero'] at hw202_0)
                      cases e202
                      have qi202 : (0 < X_.length) = True := eq_true (by omega)
                      (try rw [show ((0 : Int)).toNat = 0 from rfl] at hx202_0)
                      (try rw [Addr.add_zero'] at hx202_0)
                      replace hx202_0 := (HB.out.cell (World.block_lt_of_cell? w _ hx202_0)).trans hx202_0
                      replace p202 := eq_true p202
                      replace q202 := eq_true q202
                      have p203 : 0 ≤ (1 : Int) := (by omega)
                      have q203 : 1 < (X_.length : Int) := of_decide_eq_true (by first | (with_reducible assumption) | assumption)
                      obtain ⟨ad203, e203, hx203_0⟩ := Kd.at_int HR200.out 1 p203 q203
                      have hw203_0 := hx203_0
                      (try rw [show ((1 : Int)).toNat = 1 from rfl] at hw203_0)
                      (try rw [show 1 * 1 = 1 from rfl] at hw203_0)
                      (try simp only [Nat.reduceMul, Nat.reduceEqDiff, Go.Addr.add, ↓reduceIte] at hw203_0)
                      obtain rfl : ad202 = ad203 := (by injection e203)
                      (try simp only [show (1 : Int).toNat = 1 from rfl, Nat.reduceMul, Nat.reduceEqDiff, Go.Addr.add, ↓reduceIte] at hx203_0)
                      have qi203 : (1 < X_.length) = True := eq_true (by omega)
                      (try rw [show ((1 : Int)).toNat = 1 from rfl] at hx203_0)
                      replace hx203_0 := (HB.out.cell (World.block_lt_of_cell? w _ hx203_0)).trans hx203_0
                      replace p203 := eq_true p203
                      replace q203 := eq_true q203
                      have p204 : 0 ≤ (2 : Int) := (by omega)
                      have q204 : 2 < (X_.length : Int) := of_decide_eq_true (by first | (with_reducible assumption) | assumption)
                      obtain ⟨ad204, e204, hx204_0⟩ := Kd.at_int HR200.out 2 p204 q204
                      have hw204_0 := hx204_0
                      (try rw [show ((2 : Int)).toNat = 2 from rfl] at hw204_0)
                      (try rw [show 2 * 1 = 2 from rfl] at hw204_0)
                      (try simp only [Nat.reduceMul, Nat.reduceEqDiff, Go.Addr.add, ↓reduceIte] at hw204_0)
                      obtain rfl : ad202 = ad204 := (by injection e204)
                      (try simp only [show (2 : Int).toNat = 2 from rfl, Nat.reduceMul, Nat.reduceEqDiff, Go.Addr.add, ↓reduceIte] at hx204_0)
                      have qi204 : (2 < X_.length) = True := eq_true (by omega)
                      (try rw [show ((2 : Int)).toNat = 2 from rfl] at hx204_0)
                      replace hx204_0 := (HB.out.cell (World.block_lt_of_cell? w _ hx204_0)).trans hx204_0
                      replace p204 := eq_true p204
                      replace q204 := eq_true q204
                      have p205 : 0 ≤ (3 : Int) := (by omega)
                      have q205 : 3 < (X_.length : Int) := of_decide_eq_true (by first | (with_reducible assumption) | assumption)
                      obtain ⟨ad205, e205, hx205_0⟩ := Kd.at_int HR200.out 3 p205 q205
                      have hw205_0 := hx205_0
                      (try rw [show ((3 : Int)).toNat = 3 from rfl] at hw205_0)
                      (try rw [show 3 * 1 = 3 from rfl] at hw205_0)
                      (try simp only [Nat.reduceMul, Nat.reduceEqDiff, Go.Addr.add, ↓reduceIte] at hw205_0)
                      obtain rfl : ad202 = ad205 := (by injection e205)
                      (try simp only [show (3 : Int).toNat = 3 from rfl, Nat.reduceMul, Nat.reduceEqDiff, Go.Addr.add, ↓reduceIte] at hx205_0)
                      have qi205 : (3 < X_.length) = True := eq_true (by omega)
                      (try rw [show ((3 : Int)).toNat = 3 from rfl] at hx205_0)
                      replace hx205_0 := (HB.out.cell (World.block_lt_of_cell? w _ hx205_0)).trans hx205_0
                      replace p205 := eq_true p205
                      replace q205 := eq_true q205
                      refine start_ (n := 23) (S := fun w' => w'.cell? ad202 = some (.int .u8 (rd X_ 0)) ∧ w'.cell? ⟨ad202.block, ad202.off + 1, none⟩ = some (.int .u8 (rd X_ 1)) ∧ w'.cell? ⟨ad202.block, ad202.off + 2, none⟩ = some (.int .u8 (rd X_ 2)) ∧ w'.cell? ⟨ad202.block, ad202.off + 3, none⟩ = some (.int .u8 (rd X_ 3))) (ds := []) (bA 23 0) (by kernel_rfl) rfl rfl ⟨((HB.out.cell (World.block_lt_of_cell? w _ hw202_0)).trans hw202_0), ((HB.out.cell (World.block_lt_of_cell? w _ hw203_0)).trans hw203_0), ((HB.out.cell (World.block_lt_of_cell? w _ hw204_0)).trans hw204_0), ((HB.out.cell (World.block_lt_of_cell? w _ hw205_0)).trans hw205_0)⟩ (fun hHeld => ?_); refine with_tabW wayfarerlaw08_decode.tab15 wayfarerlaw08_decode.bits15 (fun HT_ HW_ => ?_)
                      generalize wc.drew = w46 at HO_4 HB hx202_0 hx203_0 hx204_0 hx205_0 hHeld ⊢
                      refine pure_ (i := 0) (N := some 108) (v := ?_) (a' := ?_) (bA 23 1) rfl rfl (any_of HT_.out (by kernel_rfl)) (fun _ _ _ h => h) (Or.inl ⟨by rfl, ?_⟩) ?_ ?_; rotate_left
                      · intro w'; go_simp; with_reducible rfl
                      rotate_left; · simp only [Act.put, List.setIfInBounds_toArray, List.set_cons_zero, List.set_cons_succ, i64_w, i32_w]; rfl
                      refine pure_ (i := 1) (N := some 109) (v := ?_) (a' := ?_) (bA 23 3) rfl rfl (any_of HT_.out (by kernel_rfl)) (fun _ _ _ h => h) (Or.inl ⟨by rfl, ?_⟩) ?_ ?_; rotate_left
                      · intro w'; go_simp; with_reducible rfl
                      rotate_left; · simp only [Act.put, List.setIfInBounds_toArray, List.set_cons_zero, List.set_cons_succ, i64_w, i32_w]; rfl
                      refine pure_ (i := 5) (N := some 113) (v := ?_) (a' := ?_) (bA 23 35) rfl rfl (any_of HT_.out (by kernel_rfl)) (fun _ _ _ h => h) (Or.inl ⟨by rfl, ?_⟩) ?_ ?_; rotate_left
                      · intro w'; go_simp; with_reducible rfl
                      rotate_left; · simp only [Act.put, List.setIfInBounds_toArray, List.set_cons_zero, List.set_cons_succ, i64_w, i32_w]; rfl
                      refine pure_ (i := 6) (N := some 114) (v := ?_) (a' := ?_) (bA 23 99) rfl rfl (any_of HT_.out (by kernel_rfl)) (fun _ _ _ h => h) (Or.inl ⟨by rfl, ?_⟩) ?_ ?_; rotate_left
                      · intro w'; go_simp; with_reducible rfl
                      rotate_left; · simp only [Act.put, List.setIfInBounds_toArray, List.set_cons_zero, List.set_cons_succ, i64_w, i32_w]; rfl
                      refine pure_ (i := 11) (N := some 119) (v := ?_) (a' := ?_) (bA 23 2147) rfl rfl (any_of HT_.out (by kernel_rfl)) (fun _ _ _ h => h) (Or.inl ⟨by rfl, ?_⟩) ?_ ?_; rotate_left
                      · intro w'; go_simp; with_reducible rfl
                      rotate_left; · simp only [Act.put, List.setIfInBounds_toArray, List.set_cons_zero, List.set_cons_succ, i64_w, i32_w]; rfl
                      refine pure_ (i := 12) (N := some 120) (v := ?_) (a' := ?_) (bA 23 6243) rfl rfl (any_of HT_.out (by kernel_rfl)) (fun _ _ _ h => h) (Or.inl ⟨by rfl, ?_⟩) ?_ ?_; rotate_left
                      · intro w'; go_simp; with_reducible rfl
                      rotate_left; · simp only [Act.put, List.setIfInBounds_toArray, List.set_cons_zero, List.set_cons_succ, i64_w, i32_w]; rfl
                      refine pure_ (i := 17) (N := some 125) (v := ?_) (a' := ?_) (bA 23 137315) rfl rfl (any_of HT_.out (by kernel_rfl)) (fun _ _ _ h => h) (Or.inl ⟨by rfl, ?_⟩) ?_ ?_; rotate_left
                      · intro w'; go_simp; with_reducible rfl
                      rotate_left; · simp only [Act.put, List.setIfInBounds_toArray, List.set_cons_zero, List.set_cons_succ, i64_w, i32_w]; rfl
                      refine pure_ (i := 18) (N := some 126) (v := ?_) (a' := ?_) (bA 23 399459) rfl rfl (any_of HT_.out (by kernel_rfl)) (fun _ _ _ h => h) (Or.inl ⟨by rfl, ?_⟩) ?_ ?_; rotate_left
                      · intro w'; go_simp; with_reducible rfl
                      rotate_left; · simp only [Act.put, List.setIfInBounds_toArray, List.set_cons_zero, List.set_cons_succ, i64_w, i32_w]; rfl
                      refine take_ (i := 2) (N := some 110) (v := ?_) (a' := ?_) (bA 23 399463) rfl rfl (take_ofW HT_.out HW_.out (by kernel_rfl)) (fun _ _ _ h => h) (Or.inl ⟨by rfl, ?_⟩) hHeld ?_ ?_; rotate_left
                      · rintro w' ⟨s0, s1, s2, s3⟩
                        go_simp
                        with_reducible rfl
                      rotate_left
                      · simp only [Act.put, List.setIfInBounds_toArray, List.set_cons_zero, List.set_cons_succ, i64_w, i32_w]; rfl
                      refine pure_ (i := 3) (N := some 111) (v := ?_) (a' := ?_) (bA 23 399471) rfl rfl (any_of HT_.out (by kernel_rfl)) (fun _ _ _ h => h) (Or.inl ⟨by rfl, ?_⟩) ?_ ?_; rotate_left
                      · intro w'; go_simp; with_reducible rfl
                      rotate_left; · simp only [Act.put, List.setIfInBounds_toArray, List.set_cons_zero, List.set_cons_succ, i64_w, i32_w]; rfl
                      refine pure_ (i := 4) (N := some 112) (v := ?_) (a' := ?_) (bA 23 399487) rfl rfl (any_of HT_.out (by kernel_rfl)) (fun _ _ _ h => h) (Or.inl ⟨by rfl, ?_⟩) ?_ ?_; rotate_left
                      · intro w'; go_simp; with_reducible rfl
                      rotate_left; · simp only [Act.put, List.setIfInBounds_toArray, List.set_cons_zero, List.set_cons_succ, i64_w, i32_w]; rfl
                      refine take_ (i := 7) (N := some 115) (v := ?_) (a' := ?_) (bA 23 399615) rfl rfl (take_ofW HT_.out HW_.out (by kernel_rfl)) (fun _ _ _ h => h) (Or.inl ⟨by rfl, ?_⟩) hHeld ?_ ?_; rotate_left
                      · rintro w' ⟨s0, s1, s2, s3⟩
                        go_simp
                        with_reducible rfl
                      rotate_left
                      · simp only [Act.put, List.setIfInBounds_toArray, List.set_cons_zero, List.set_cons_succ, i64_w, i32_w]; rfl
                      refine pure_ (i := 8) (N := some 116) (v := ?_) (a' := ?_) (bA 23 399871) rfl rfl (any_of HT_.out (by kernel_rfl)) (fun _ _ _ h => h) (Or.inl ⟨by rfl, ?_⟩) ?_ ?_; rotate_left
                      · intro w'; go_simp; with_reducible rfl
                      rotate_left; · simp only [Act.put, List.setIfInBounds_toArray, List.set_cons_zero, List.set_cons_succ, i64_w, i32_w]; rfl
                      refine pure_ (i := 9) (N := some 117) (v := ?_) (a' := ?_) (bA 23 400383) rfl rfl (any_of HT_.out (by kernel_rfl)) (fun _ _ _ h => h) (Or.inl ⟨by rfl, ?_⟩) ?_ ?_; rotate_left
                      · intro w'; go_simp; with_reducible rfl
                      rotate_left; · simp only [Act.put, List.setIfInBounds_toArray, List.set_cons_zero, List.set_cons_succ, i64_w, i32_w]; rfl
                      refine pure_ (i := 10) (N := some 118) (v := ?_) (a' := ?_) (bA 23 401407) rfl rfl (any_of HT_.out (by kernel_rfl)) (fun _ _ _ h => h) (Or.inl ⟨by rfl, ?_⟩) ?_ ?_; rotate_left
                      · intro w'; go_simp; with_reducible rfl
                      rotate_left; · simp only [Act.put, List.setIfInBounds_toArray, List.set_cons_zero, List.set_cons_succ, i64_w, i32_w]; rfl
                      refine take_ (i := 13) (N := some 121) (v := ?_) (a' := ?_) (bA 23 409599) rfl rfl (take_ofW HT_.out HW_.out (by kernel_rfl)) (fun _ _ _ h => h) (Or.inl ⟨by rfl, ?_⟩) hHeld ?_ ?_; rotate_left
                      · rintro w' ⟨s0, s1, s2, s3⟩
                        go_simp
                        with_reducible rfl
                      rotate_left
                      · simp only [Act.put, List.setIfInBounds_toArray, List.set_cons_zero, List.set_cons_succ, i64_w, i32_w]; rfl
                      refine pure_ (i := 14) (N := some 122) (v := ?_) (a' := ?_) (bA 23 425983) rfl rfl (any_of HT_.out (by kernel_rfl)) (fun _ _ _ h => h) (Or.inl ⟨by rfl, ?_⟩) ?_ ?_; rotate_left
                      · intro w'; go_simp; with_reducible rfl
                      rotate_left; · simp only [Act.put, List.setIfInBounds_toArray, List.set_cons_zero, List.set_cons_succ, i64_w, i32_w]; rfl
                      refine pure_ (i := 15) (N := some 123) (v := ?_) (a' := ?_) (bA 23 458751) rfl rfl (any_of HT_.out (by kernel_rfl)) (fun _ _ _ h => h) (Or.inl ⟨by rfl, ?_⟩) ?_ ?_; rotate_left
                      · intro w'; go_simp; with_reducible rfl
                      rotate_left; · simp only [Act.put, List.setIfInBounds_toArray, List.set_cons_zero, List.set_cons_succ, i64_w, i32_w]; rfl
                      refine pure_ (i := 16) (N := some 124) (v := ?_) (a' := ?_) (bA 23 524287) rfl rfl (any_of HT_.out (by kernel_rfl)) (fun _ _ _ h => h) (Or.inl ⟨by rfl, ?_⟩) ?_ ?_; rotate_left
                      · intro w'; go_simp; with_reducible rfl
                      rotate_left; · simp only [Act.put, List.setIfInBounds_toArray, List.set_cons_zero, List.set_cons_succ, i64_w, i32_w]; rfl
                      refine take_ (i := 19) (N := some 127) (v := ?_) (a' := ?_) (bA 23 1048575) rfl rfl (take_ofW HT_.out HW_.out (by kernel_rfl)) (fun _ _ _ h => h) (Or.inl ⟨by rfl, ?_⟩) hHeld ?_ ?_; rotate_left
                      · rintro w' ⟨s0, s1, s2, s3⟩
                        go_simp
                        with_reducible rfl
                      rotate_left
                      · simp only [Act.put, List.setIfInBounds_toArray, List.set_cons_zero, List.set_cons_succ, i64_w, i32_w]; rfl
                      refine pure_ (i := 20) (N := some 128) (v := ?_) (a' := ?_) (bA 23 2097151) rfl rfl (any_of HT_.out (by kernel_rfl)) (fun _ _ _ h => h) (Or.inl ⟨by rfl, ?_⟩) ?_ ?_; rotate_left
                      · intro w'; go_simp; with_reducible rfl
                      rotate_left; · simp only [Act.put, List.setIfInBounds_toArray, List.set_cons_zero, List.set_cons_succ, i64_w, i32_w]; rfl
                      refine pure_ (i := 21) (N := some 129) (v := ?_) (a' := ?_) (bA 23 4194303) rfl rfl (any_of HT_.out (by kernel_rfl)) (fun _ _ _ h => h) (Or.inl ⟨by rfl, ?_⟩) ?_ ?_; rotate_left
                      · intro w'; go_simp; with_reducible rfl
                      rotate_left; · simp only [Act.put, List.setIfInBounds_toArray, List.set_cons_zero, List.set_cons_succ, i64_w, i32_w]; rfl
                      refine pure_ (i := 22) (N := some 5) (v := ?_) (a' := ?_) (bA 23 8388607) rfl rfl (any_of HT_.out (by kernel_rfl)) (fun _ _ _ h => h) (Or.inl ⟨by rfl, ?_⟩) ?_ ?_; rotate_left
                      · intro w'; go_simp; with_reducible rfl
                      rotate_left; · simp only [Act.put, List.setIfInBounds_toArray, List.set_cons_zero, List.set_cons_succ, i64_w, i32_w]; rfl
                      refine done_ (done_of HT_.out (by kernel_rfl)) ?_
                      try go_wp2
                      go_meet
                      case rel => exact ⟨_, ((((((((((rd X_ 0) % 4294967296) * 16777216) % 4294967296) + ((((rd X_ 1) % 4294967296) * 65536) % 4294967296)) % 4294967296) + ((((rd X_ 2) % 4294967296) * 256) % 4294967296)) % 4294967296) + ((rd X_ 3) % 4294967296)) % 4294967296), (by first | rfl | (simp; done) | (simp only [← hji28, ← hji31] <;> (first | rfl | simp)) | (simp [*]; done)), H', ⟨by have := HJ1.out; have := HK2.out; have := HJ21.out; have := HJ36.out; first | omega | exact Nat.le_refl _⟩, ⟨by (with_reducible repeat (first | apply Kd.R_alloc | apply Kd.R_drewN | apply Kd.R_drew)); exact HO_4.out⟩, ⟨by repeat (first | (with_reducible first | exact HB.out | apply below_alloc | apply pw_below_drewN | apply below_drew1) | exact HB.out)⟩⟩
                    case rest => as_aux_lemma =>
                      clear HC40
                      try clear c1; try clear p1; try clear q1; try clear hx1; try clear qi1; try clear c2; try clear p2; try clear q2; try clear hx2; try clear qi2; try clear c3; try clear c4; try clear p6; try clear c7; try clear c8; try clear c8b0; try clear c8b1; try clear c9; try clear c10; try clear c10b0; try clear c10b1; try clear c11; try clear c12; try clear c16; try clear c19
                      try clear c19b0; try clear p19; try clear q19; try clear hx19; try clear qi19; try clear c20; try clear c20b0; try clear p20; try clear q20; try clear hx20; try clear qi20; try clear c21; try clear c21b0; try clear c21b1; try clear c23; try clear c23b0; try clear c23b1; try clear c25; try clear c25b0; try clear c26; try clear c26b0; try clear c27; try clear c29
                      try clear c29b0; try clear c30; try clear c30b0; try clear c32; try clear c32b0; try clear c32b1; try clear c33; try clear c33b0; try clear c33b1; try clear c34; try clear c34b0; try clear c34b1; try clear c35; try clear c35b0; try clear c36; try clear c36b0; try clear c39; try clear c39b0; try clear c39b1; try clear c41; try clear c42; try clear c42b0; try clear c42b1
                      try clear c43; try clear c43b0; try clear c43b1; try clear c44; try clear c44b0; try clear c44b1; try clear c45; try clear c45b0; try clear c45b1; try clear hx190_0; try clear hx191_0; try clear hx197_0; try clear hx198_0; try clear hx199_0; try clear hx201_0; try clear hx202_0; try clear hx203_0; try clear hx204_0; try clear hx205_0; try clear p1; try clear p19
                      try clear p190; try clear p191; try clear p197; try clear p198; try clear p199; try clear p2; try clear p20; try clear p201; try clear p202; try clear p203; try clear p204; try clear p205; try clear p6; try clear q1; try clear q19; try clear q190; try clear q191; try clear q197; try clear q198; try clear q199; try clear q2; try clear q20; try clear q201; try clear q202
                      try clear q203; try clear q204; try clear q205
                      obtain ⟨kq, x5_39, rfl, HA, HJ39, HO_4, HB⟩ := hcut
                      cases kq with
                      | zero => exact absurd HA.out (by simp [wayfarerlaw08_decode.j4])
                      | succ kj39 =>
                        have H := HA.out
                        clear HA
                        simp only [wayfarerlaw08_decode.j4] at H
                        have HC47 := Aside0.mk H
                        clear H
                        go_upto_region 16 with (fail)
                        go_cut [154] (fun v154 wc => ∃ (kq : Nat) (x154_46 : Bool), v154 = .bool x154_46 ∧ Aside0 (wayfarerlaw08_decode.j5 kq l0 x4_2 x5_39 (wrap64 (x6_2 + (wrap64 (2 + (X_.length : Int))))) X_ x154_46 = some (r1, r2)) ∧ Aside0 (kq ≤ kj39) ∧ Aside0 (Kd.R k62 62 wc w.heap.size (fun _ => True) u4 x4_2) ∧ Aside0 (Below w.heap.size w wc))
                        case first => as_aux_lemma =>
                          have H := HC47.out
                          clear HC47
                          by_cases c48 : (rd l0 x6_2) = 3
                          case neg =>
                            rw [if_neg c48] at H; have c48b0 : ((rd l0 x6_2) == 3) = false := beq_eq_false_iff_ne.mpr c48
                            have c48b1 : ((rd l0 x6_2) != 3) = true := bne_iff_ne.mpr c48
                            (first | rw [c48b0] | (simp only [i64_w, i32_w]; rw [c48b0]) | skip)
                            have H' := Aside0.mk H
                            clear H
                            go_wp2
                            go_meet
                            case rel => exact ⟨_, (true), (by first | rfl | (simp; done) | (simp [*]; done)), H', ⟨by have := HJ1.out; have := HK2.out; have := HJ21.out; have := HJ36.out; have := HJ39.out; first | omega | exact Nat.le_refl _⟩, ⟨by (with_reducible repeat (first | apply Kd.R_alloc | apply Kd.R_drewN | apply Kd.R_drew)); exact HO_4.out⟩, ⟨by repeat (first | (with_reducible first | exact HB.out | apply below_alloc | apply pw_below_drewN | apply below_drew1) | exact HB.out)⟩⟩
                          rw [if_pos c48] at H; have c48b0 : ((rd l0 x6_2) == 3) = true := beq_iff_eq.mpr c48
                          have c48b1 : ((rd l0 x6_2) != 3) = false := bne_eq_false_iff_eq.mpr c48
                          clear c48
                          (first | rw [c48b0] | (simp only [i64_w, i32_w]; rw [c48b0]) | skip)
                          by_cases c49 : (X_.length : Int) < 7
                          case pos =>
                            rw [if_pos c49] at H; have c49b0 : decide ((X_.length : Int) < 7) = true := decide_eq_true c49
                            have c49b1 : decide (X_.length < 7) = true := decide_eq_true (by omega)
                            clear c49
                            have H' := Aside0.mk H
                            clear H
                            go_wp2
                            go_meet
                            case rel => exact ⟨_, (true), (by first | rfl | (simp; done) | (simp [*]; done)), H', ⟨by have := HJ1.out; have := HK2.out; have := HJ21.out; have := HJ36.out; have := HJ39.out; first | omega | exact Nat.le_refl _⟩, ⟨by (with_reducible repeat (first | apply Kd.R_alloc | apply Kd.R_drewN | apply Kd.R_drew)); exact HO_4.out⟩, ⟨by repeat (first | (with_reducible first | exact HB.out | apply below_alloc | apply pw_below_drewN | apply below_drew1) | exact HB.out)⟩⟩
                          rw [if_neg c49] at H; have c49b0 : decide ((X_.length : Int) < 7) = false := decide_eq_false c49
                          have c49b1 : decide (X_.length < 7) = false := decide_eq_false (by omega)
                          clear c49
                          by_cases c50 : 0 < (X_.length : Int)
                          case neg =>
                            rw [if_neg c50] at H; exact absurd H (by simp)
                          rw [if_pos c50] at H; have c50b0 : decide (0 < (X_.length : Int)) = true := decide_eq_true c50
                          have c50b1 : decide (0 < X_.length) = true := decide_eq_true (by omega)
                          clear c50
                          by_cases c51 : (rd X_ 0) > 32
                          case pos =>
                            rw [if_pos c51] at H; have c51b0 : decide (32 < (rd X_ 0)) = true := decide_eq_true c51
                            clear c51
                            have H' := Aside0.mk H
                            clear H
                            have p206 : 0 ≤ (0 : Int) := (by omega)
                            have q206 : 0 < (X_.length : Int) := of_decide_eq_true (by first | (with_reducible assumption) | assumption)
                            obtain ⟨ad206, e206, hx206_0⟩ := Kd.at_int HR200.out 0 p206 q206
                            cases e206
                            have qi206 : (0 < X_.length) = True := eq_true (by omega)
                            (try rw [show ((0 : Int)).toNat = 0 from rfl] at hx206_0)
                            (try rw [Addr.add_zero'] at hx206_0)
                            replace hx206_0 := (HB.out.cell (World.block_lt_of_cell? w _ hx206_0)).trans hx206_0
                            replace p206 := eq_true p206
                            replace q206 := eq_true q206
                            go_wp2
                            go_meet
                            case rel => exact ⟨_, (true), (by first | rfl | (simp; done) | (simp [*]; done)), H', ⟨by have := HJ1.out; have := HK2.out; have := HJ21.out; have := HJ36.out; have := HJ39.out; first | omega | exact Nat.le_refl _⟩, ⟨by (with_reducible repeat (first | apply Kd.R_alloc | apply Kd.R_drewN | apply Kd.R_drew)); exact HO_4.out⟩, ⟨by repeat (first | (with_reducible first | exact HB.out | apply below_alloc | apply pw_below_drewN | apply below_drew1) | exact HB.out)⟩⟩
                          rw [if_neg c51] at H; have c51b0 : decide (32 < (rd X_ 0)) = false := decide_eq_false c51
                          clear c51
                          have H' := Aside0.mk H
                          clear H
                          have p206 : 0 ≤ (0 : Int) := (by omega)
                          have q206 : 0 < (X_.length : Int) := of_decide_eq_true (by first | (with_reducible assumption) | assumption)
                          obtain ⟨ad206, e206, hx206_0⟩ := Kd.at_int HR200.out 0 p206 q206
                          cases e206
                          have qi206 : (0 < X_.length) = True := eq_true (by omega)
                          (try rw [show ((0 : Int)).toNat = 0 from rfl] at hx206_0)
                          (try rw [Addr.add_zero'] at hx206_0)
                          replace hx206_0 := (HB.out.cell (World.block_lt_of_cell? w _ hx206_0)).trans hx206_0
                          replace p206 := eq_true p206
                          replace q206 := eq_true q206
                          have p207 : 0 ≤ (0 : Int) := (by omega)
                          have q207 : 0 < (X_.length : Int) := of_decide_eq_true (by first | (with_reducible assumption) | assumption)
                          obtain ⟨ad207, e207, hx207_0⟩ := Kd.at_int HR200.out 0 p207 q207
                          obtain rfl : ad206 = ad207 := (by injection e207)
                          have qi207 : (0 < X_.length) = True := eq_true (by omega)
                          (try rw [show ((0 : Int)).toNat = 0 from rfl] at hx207_0)
                          (try rw [Addr.add_zero'] at hx207_0)
                          replace hx207_0 := (HB.out.cell (World.block_lt_of_cell? w _ hx207_0)).trans hx207_0
                          replace p207 := eq_true p207
                          replace q207 := eq_true q207
                          go_wp2
                          go_meet
                          case rel => exact ⟨_, (((X_.length : Int) != (wrap64 (7 + (wrap64 (Int.tdiv (wrap64 ((wrap64 (rd X_ 0)) + 7)) 8)))))), (by first | rfl | (simp; done) | (simp only [← hji28, ← hji31] <;> (first | rfl | simp)) | (simp [*]; done)), H', ⟨by have := HJ1.out; have := HK2.out; have := HJ21.out; have := HJ36.out; have := HJ39.out; first | omega | exact Nat.le_refl _⟩, ⟨by (with_reducible repeat (first | apply Kd.R_alloc | apply Kd.R_drewN | apply Kd.R_drew)); exact HO_4.out⟩, ⟨by repeat (first | (with_reducible first | exact HB.out | apply below_alloc | apply pw_below_drewN | apply below_drew1) | exact HB.out)⟩⟩
                        case rest => as_aux_lemma =>
                          clear HC47
                          try clear c1; try clear p1; try clear q1; try clear hx1; try clear qi1; try clear c2; try clear p2; try clear q2; try clear hx2; try clear qi2; try clear c3; try clear c4; try clear c5; try clear p6; try clear c7; try clear c8; try clear c8b0; try clear c8b1; try clear c9; try clear c10; try clear c10b0; try clear c10b1; try clear c11; try clear c12; try clear c16
                          try clear c19; try clear c19b0; try clear p19; try clear q19; try clear hx19; try clear qi19; try clear c20; try clear c20b0; try clear p20; try clear q20; try clear hx20; try clear qi20; try clear c21; try clear c21b0; try clear c21b1; try clear c23; try clear c23b0; try clear c23b1; try clear c25; try clear c25b0; try clear c26; try clear c26b0; try clear c27
                          try clear c29; try clear c29b0; try clear c30; try clear c30b0; try clear c32; try clear c32b0; try clear c32b1; try clear c33; try clear c33b0; try clear c33b1; try clear c34; try clear c34b0; try clear c34b1; try clear c35; try clear c35b0; try clear c36; try clear c36b0; try clear c39; try clear c39b0; try clear c39b1; try clear c41; try clear c42
                          try clear c42b0; try clear c42b1; try clear c43; try clear c43b0; try clear c43b1; try clear c44; try clear c44b0; try clear c44b1; try clear c45; try clear c45b0; try clear c45b1; try clear c48; try clear c48b0; try clear c48b1; try clear c49; try clear c49b0; try clear c49b1; try clear c50; try clear c50b0; try clear c50b1; try clear c51; try clear c51b0
                          try clear hx190_0; try clear hx191_0; try clear hx197_0; try clear hx198_0; try clear hx199_0; try clear hx201_0; try clear hx202_0; try clear hx203_0; try clear hx204_0; try clear hx205_0; try clear hx206_0; try clear hx207_0; try clear p1; try clear p19; try clear p190; try clear p191; try clear p197; try clear p198; try clear p199; try clear p2; try clear p20
                          try clear p201; try clear p202; try clear p203; try clear p204; try clear p205; try clear p206; try clear p207; try clear p6; try clear q1; try clear q19; try clear q190; try clear q191; try clear q197; try clear q198; try clear q199; try clear q2; try clear q20; try clear q201; try clear q202; try clear q203; try clear q204; try clear q205; try clear q206
                          try clear q207
                          obtain ⟨kq, x154_46, rfl, HA, HJ46, HO_4, HB⟩ := hcut
                          cases kq with
                          | zero => exact absurd HA.out (by simp [wayfarerlaw08_decode.j5])
                          | succ kj46 =>
                            have H := HA.out
                            clear HA
                            simp only [wayfarerlaw08_decode.j5] at H
                            by_cases c52 : x154_46 = true
                            case pos =>
                              subst c52
                              have H1 : (wayfarerlaw08_decode.l0 kj46 l0 x4_2 x5_39 (wrap64 (x6_2 + (wrap64 (2 + (X_.length : Int)))))) = some (r1, r2) := by rw [if_pos rfl] at H; exact H
                              clear H
                              have H := H1
                              clear H1
                              have H' := Aside0.mk H
                              clear H
                              go_wp2
                              go_roundg kj46
                              case measure => have := HJ1.out; have := HK2.out; have := HJ21.out; have := HJ36.out; have := HJ39.out; have := HJ46.out; omega
                              case rel => exact ⟨(x4_2), (x5_39), ((wrap64 (x6_2 + (wrap64 (2 + (X_.length : Int)))))), (by first | rfl | (simp; done) | (simp [*]; done)), (by first | rfl | (simp; done) | (simp only [← hji28, ← hji31] <;> (first | rfl | simp)) | (simp [*]; done)), H', ⟨by have := HJ1.out; have := HK2.out; have := HJ21.out; have := HJ36.out; have := HJ39.out; have := HJ46.out; omega⟩, ⟨by (with_reducible repeat (first | apply Kd.R_alloc | apply Kd.R_drewN | apply Kd.R_drew)); exact HO_4.out⟩, ⟨by repeat (first | (with_reducible first | exact HB.out | apply below_alloc | apply pw_below_drewN | apply below_drew1) | exact HB.out)⟩⟩
                            replace c52 := Bool.eq_false_iff.mpr c52
                            subst c52
                            have H1 : (if 0 < (X_.length : Int) then (if 1 < (X_.length : Int) then (if 2 < (X_.length : Int) then (if 3 < (X_.length : Int) then (if 4 < (X_.length : Int) then (if 5 < (X_.length : Int) then (if 6 < (X_.length : Int) then (if 7 ≤ (X_.length : Int) then (wayfarerlaw08_decode.l1 kj46 l0 x4_2 x5_39 (wrap64 (x6_2 + (wrap64 (2 + (X_.length : Int))))) (X_.drop 7) ((X_.drop 7).length : Int) 0 0 (wrap64 (rd X_ 0)) x5_39 ((((((((((rd X_ 1) % 4294967296) * 16777216) % 4294967296) + ((((rd X_ 2) % 4294967296) * 65536) % 4294967296)) % 4294967296) + ((((rd X_ 3) % 4294967296) * 256) % 4294967296)) % 4294967296) + ((rd X_ 4) % 4294967296)) % 4294967296) (IntKind.u16.wrap ((IntKind.u16.wrap ((IntKind.u16.wrap (rd X_ 5)) * 256)) + (IntKind.u16.wrap (rd X_ 6))))) else (none)) else (none)) else (none)) else (none)) else (none)) else (none)) else (none)) else (none)) = some (r1, r2) := by rw [if_neg (show ¬ (false = true) by decide)] at H; exact H
                            clear H
                            have H := H1
                            clear H1
                            by_cases c53 : 0 < (X_.length : Int)
                            case neg =>
                              rw [if_neg c53] at H; exact absurd H (by simp)
                            rw [if_pos c53] at H; have c53b0 : decide (0 < (X_.length : Int)) = true := decide_eq_true c53
                            have c53b1 : decide (0 < X_.length) = true := decide_eq_true (by omega)
                            clear c53
                            by_cases c54 : 1 < (X_.length : Int)
                            case neg =>
                              rw [if_neg c54] at H; exact absurd H (by simp)
                            rw [if_pos c54] at H; have c54b0 : decide (1 < (X_.length : Int)) = true := decide_eq_true c54
                            have c54b1 : decide (1 < X_.length) = true := decide_eq_true (by omega)
                            clear c54
                            by_cases c55 : 2 < (X_.length : Int)
                            case neg =>
                              rw [if_neg c55] at H; exact absurd H (by simp)
                            rw [if_pos c55] at H; have c55b0 : decide (2 < (X_.length : Int)) = true := decide_eq_true c55
                            have c55b1 : decide (2 < X_.length) = true := decide_eq_true (by omega)
                            clear c55
                            by_cases c56 : 3 < (X_.length : Int)
                            case neg =>
                              rw [if_neg c56] at H; exact absurd H (by simp)
                            rw [if_pos c56] at H; have c56b0 : decide (3 < (X_.length : Int)) = true := decide_eq_true c56
                            have c56b1 : decide (3 < X_.length) = true := decide_eq_true (by omega)
                            clear c56
                            by_cases c57 : 4 < (X_.length : Int)
                            case neg =>
                              rw [if_neg c57] at H; exact absurd H (by simp)
                            rw [if_pos c57] at H; have c57b0 : decide (4 < (X_.length : Int)) = true := decide_eq_true c57
                            have c57b1 : decide (4 < X_.length) = true := decide_eq_true (by omega)
                            clear c57
                            by_cases c58 : 5 < (X_.length : Int)
                            case neg =>
                              rw [if_neg c58] at H; exact absurd H (by simp)
                            rw [if_pos c58] at H; have c58b0 : decide (5 < (X_.length : Int)) = true := decide_eq_true c58
                            have c58b1 : decide (5 < X_.length) = true := decide_eq_true (by omega)
                            clear c58
                            by_cases c59 : 6 < (X_.length : Int)
                            case neg =>
                              rw [if_neg c59] at H; exact absurd H (by simp)
                            rw [if_pos c59] at H; have c59b0 : decide (6 < (X_.length : Int)) = true := decide_eq_true c59
                            have c59b1 : decide (6 < X_.length) = true := decide_eq_true (by omega)
                            clear c59
                            by_cases c60 : 7 ≤ (X_.length : Int)
                            case neg =>
                              rw [if_neg c60] at H; exact absurd H (by simp)
                            rw [if_pos c60] at H; have c60b0 := eq_true c60
                            have c60b1 : decide (7 ≤ (X_.length : Int)) = true := decide_eq_true c60
                            have H' := Aside0.mk H
                            clear H
                            try go_wp2
                            have n0_ := Aside0.mk (Kd.R_drew HO_4.out)
                            have n1_ := Aside0.mk (below_drew1 HB.out)
                            clear HO_4
                            clear HB
                            have HO_4 := n0_
                            have HB := n1_
                            clear n0_ n1_
                            have p208 : 0 ≤ (0 : Int) := (by omega)
                            have q208 : 0 < (X_.length : Int) := of_decide_eq_true (by first | (with_reducible assumption) | assumption)
                            obtain ⟨ad208, e208, hx208_0⟩ := Kd.at_int HR200.out 0 p208 q208
                            have hw208_0 := hx208_0
                            (try rw [show ((0 : Int)).toNat = 0 from rfl] at hw208_0)
                            (try rw [show 0 * 1 = 0 from rfl] at hw208_0)
                            (try rw [Addr.add_zero'] at hw208_0)
                            cases e208
                            have qi208 : (0 < X_.length) = True := eq_true (by omega)
                            (try rw [show ((0 : Int)).toNat = 0 from rfl] at hx208_0)
                            (try rw [Addr.add_zero'] at hx208_0)
                            replace hx208_0 := (HB.out.cell (World.block_lt_of_cell? w _ hx208_0)).trans hx208_0
                            replace p208 := eq_true p208
                            replace q208 := eq_true q208
                            have p209 : 0 ≤ (1 : Int) := (by omega)
                            have q209 : 1 < (X_.length : Int) := of_decide_eq_true (by first | (with_reducible assumption) | assumption)
                            obtain ⟨ad209, e209, hx209_0⟩ := Kd.at_int HR200.out 1 p209 q209
                            have hw209_0 := hx209_0
                            (try rw [show ((1 : Int)).toNat = 1 from rfl] at hw209_0)
                            (try rw [show 1 * 1 = 1 from rfl] at hw209_0)
                            (try simp only [Nat.reduceMul, Nat.reduceEqDiff, Go.Addr.add, ↓reduceIte] at hw209_0)
                            obtain rfl : ad208 = ad209 := (by injection e209)
                            (try simp only [show (1 : Int).toNat = 1 from rfl, Nat.reduceMul, Nat.reduceEqDiff, Go.Addr.add, ↓reduceIte] at hx209_0)
                            have qi209 : (1 < X_.length) = True := eq_true (by omega)
                            (try rw [show ((1 : Int)).toNat = 1 from rfl] at hx209_0)
                            replace hx209_0 := (HB.out.cell (World.block_lt_of_cell? w _ hx209_0)).trans hx209_0
                            replace p209 := eq_true p209
                            replace q209 := eq_true q209
                            have p210 : 0 ≤ (2 : Int) := (by omega)
                            have q210 : 2 < (X_.length : Int) := of_decide_eq_true (by first | (with_reducible assumption) | assumption)
                            obtain ⟨ad210, e210, hx210_0⟩ := Kd.at_int HR200.out 2 p210 q210
                            have hw210_0 := hx210_0
                            (try rw [show ((2 : Int)).toNat = 2 from rfl] at hw210_0)
                            (try rw [show 2 * 1 = 2 from rfl] at hw210_0)
                            (try simp only [Nat.reduceMul, Nat.reduceEqDiff, Go.Addr.add, ↓reduceIte] at hw210_0)
                            obtain rfl : ad208 = ad210 := (by injection e210)
                            (try simp only [show (2 : Int).toNat = 2 from rfl, Nat.reduceMul, Nat.reduceEqDiff, Go.Addr.add, ↓reduceIte] at hx210_0)
                            have qi210 : (2 < X_.length) = True := eq_true (by omega)
                            (try rw [show ((2 : Int)).toNat = 2 from rfl] at hx210_0)
                            replace hx210_0 := (HB.out.cell (World.block_lt_of_cell? w _ hx210_0)).trans hx210_0
                            replace p210 := eq_true p210
                            replace q210 := eq_true q210
                            have p211 : 0 ≤ (3 : Int) := (by omega)
                            have q211 : 3 < (X_.length : Int) := of_decide_eq_true (by first | (with_reducible assumption) | assumption)
                            obtain ⟨ad211, e211, hx211_0⟩ := Kd.at_int HR200.out 3 p211 q211
                            have hw211_0 := hx211_0
                            (try rw [show ((3 : Int)).toNat = 3 from rfl] at hw211_0)
                            (try rw [show 3 * 1 = 3 from rfl] at hw211_0)
                            (try simp only [Nat.reduceMul, Nat.reduceEqDiff, Go.Addr.add, ↓reduceIte] at hw211_0)
                            obtain rfl : ad208 = ad211 := (by injection e211)
                            (try simp only [show (3 : Int).toNat = 3 from rfl, Nat.reduceMul, Nat.reduceEqDiff, Go.Addr.add, ↓reduceIte] at hx211_0)
                            have qi211 : (3 < X_.length) = True := eq_true (by omega)
                            (try rw [show ((3 : Int)).toNat = 3 from rfl] at hx211_0)
                            replace hx211_0 := (HB.out.cell (World.block_lt_of_cell? w _ hx211_0)).trans hx211_0
                            replace p211 := eq_true p211
                            replace q211 := eq_true q211
                            have p212 : 0 ≤ (4 : Int) := (by omega)
                            have q212 : 4 < (X_.length : Int) := of_decide_eq_true (by first | (with_reducible assumption) | assumption)
                            obtain ⟨ad212, e212, hx212_0⟩ := Kd.at_int HR200.out 4 p212 q212
                            have hw212_0 := hx212_0
                            (try rw [show ((4 : Int)).toNat = 4 from rfl] at hw212_0)
                            (try rw [show 4 * 1 = 4 from rfl] at hw212_0)
                            (try simp only [Nat.reduceMul, Nat.reduceEqDiff, Go.Addr.add, ↓reduceIte] at hw212_0)
                            obtain rfl : ad208 = ad212 := (by injection e212)
                            (try simp only [show (4 : Int).toNat = 4 from rfl, Nat.reduceMul, Nat.reduceEqDiff, Go.Addr.add, ↓reduceIte] at hx212_0)
                            have qi212 : (4 < X_.length) = True := eq_true (by omega)
                            (try rw [show ((4 : Int)).toNat = 4 from rfl] at hx212_0)
                            replace hx212_0 := (HB.out.cell (World.block_lt_of_cell? w _ hx212_0)).trans hx212_0
                            replace p212 := eq_true p212
                            replace q212 := eq_true q212
                            have p213 : 0 ≤ (5 : Int) := (by omega)
                            have q213 : 5 < (X_.length : Int) := of_decide_eq_true (by first | (with_reducible assumption) | assumption)
                            obtain ⟨ad213, e213, hx213_0⟩ := Kd.at_int HR200.out 5 p213 q213
                            have hw213_0 := hx213_0
                            (try rw [show ((5 : Int)).toNat = 5 from rfl] at hw213_0)
                            (try rw [show 5 * 1 = 5 from rfl] at hw213_0)
                            (try simp only [Nat.reduceMul, Nat.reduceEqDiff, Go.Addr.add, ↓reduceIte] at hw213_0)
                            obtain rfl : ad208 = ad213 := (by injection e213)
                            (try simp only [show (5 : Int).toNat = 5 from rfl, Nat.reduceMul, Nat.reduceEqDiff, Go.Addr.add, ↓reduceIte] at hx213_0)
                            have qi213 : (5 < X_.length) = True := eq_true (by omega)
                            (try rw [show ((5 : Int)).toNat = 5 from rfl] at hx213_0)
                            replace hx213_0 := (HB.out.cell (World.block_lt_of_cell? w _ hx213_0)).trans hx213_0
                            replace p213 := eq_true p213
                            replace q213 := eq_true q213
                            have p214 : 0 ≤ (6 : Int) := (by omega)
                            have q214 : 6 < (X_.length : Int) := of_decide_eq_true (by first | (with_reducible assumption) | assumption)
                            obtain ⟨ad214, e214, hx214_0⟩ := Kd.at_int HR200.out 6 p214 q214
                            have hw214_0 := hx214_0
                            (try rw [show ((6 : Int)).toNat = 6 from rfl] at hw214_0)
                            (try rw [show 6 * 1 = 6 from rfl] at hw214_0)
                            (try simp only [Nat.reduceMul, Nat.reduceEqDiff, Go.Addr.add, ↓reduceIte] at hw214_0)
                            obtain rfl : ad208 = ad214 := (by injection e214)
                            (try simp only [show (6 : Int).toNat = 6 from rfl, Nat.reduceMul, Nat.reduceEqDiff, Go.Addr.add, ↓reduceIte] at hx214_0)
                            have qi214 : (6 < X_.length) = True := eq_true (by omega)
                            (try rw [show ((6 : Int)).toNat = 6 from rfl] at hx214_0)
                            replace hx214_0 := (HB.out.cell (World.block_lt_of_cell? w _ hx214_0)).trans hx214_0
                            replace p214 := eq_true p214
                            replace q214 := eq_true q214
                            refine start_ (n := 42) (S := fun w' => w'.cell? ad208 = some (.int .u8 (rd X_ 0)) ∧ w'.cell? ⟨ad208.block, ad208.off + 1, none⟩ = some (.int .u8 (rd X_ 1)) ∧ w'.cell? ⟨ad208.block, ad208.off + 2, none⟩ = some (.int .u8 (rd X_ 2)) ∧ w'.cell? ⟨ad208.block, ad208.off + 3, none⟩ = some (.int .u8 (rd X_ 3)) ∧ w'.cell? ⟨ad208.block, ad208.off + 4, none⟩ = some (.int .u8 (rd X_ 4)) ∧ w'.cell? ⟨ad208.block, ad208.off + 5, none⟩ = some (.int .u8 (rd X_ 5)) ∧ w'.cell? ⟨ad208.block, ad208.off + 6, none⟩ = some (.int .u8 (rd X_ 6))) (ds := []) (bA 42 0) (by kernel_rfl) rfl rfl ⟨((HB.out.cell (World.block_lt_of_cell? w _ hw208_0)).trans hw208_0), ((HB.out.cell (World.block_lt_of_cell? w _ hw209_0)).trans hw209_0), ((HB.out.cell (World.block_lt_of_cell? w _ hw210_0)).trans hw210_0), ((HB.out.cell (World.block_lt_of_cell? w _ hw211_0)).trans hw211_0), ((HB.out.cell (World.block_lt_of_cell? w _ hw212_0)).trans hw212_0), ((HB.out.cell (World.block_lt_of_cell? w _ hw213_0)).trans hw213_0), ((HB.out.cell (World.block_lt_of_cell? w _ hw214_0)).trans hw214_0)⟩ (fun hHeld => ?_); refine with_tabW wayfarerlaw08_decode.tab17 wayfarerlaw08_decode.bits17 (fun HT_ HW_ => ?_)
                            generalize wc.drew = w61 at HO_4 HB hx208_0 hx209_0 hx210_0 hx211_0 hx212_0 hx213_0 hx214_0 hHeld ⊢
                            refine pure_ (i := 0) (N := some 155) (v := ?_) (a' := ?_) (bA 42 1) rfl rfl (any_of HT_.out (by kernel_rfl)) (fun _ _ _ h => h) (Or.inl ⟨by rfl, ?_⟩) ?_ ?_; rotate_left
                            · intro w'; go_simp; with_reducible rfl
                            rotate_left; · simp only [Act.put, List.setIfInBounds_toArray, List.set_cons_zero, List.set_cons_succ, i64_w, i32_w]; rfl
                            refine pure_ (i := 1) (N := some 156) (v := ?_) (a' := ?_) (bA 42 3) rfl rfl (any_of HT_.out (by kernel_rfl)) (fun _ _ _ h => h) (Or.inl ⟨by rfl, ?_⟩) ?_ ?_; rotate_left
                            · intro w'; go_simp; with_reducible rfl
                            rotate_left; · simp only [Act.put, List.setIfInBounds_toArray, List.set_cons_zero, List.set_cons_succ, i64_w, i32_w]; rfl
                            refine pure_ (i := 5) (N := some 160) (v := ?_) (a' := ?_) (bA 42 35) rfl rfl (any_of HT_.out (by kernel_rfl)) (fun _ _ _ h => h) (Or.inl ⟨by rfl, ?_⟩) ?_ ?_; rotate_left
                            · intro w'; go_simp; with_reducible rfl
                            rotate_left; · simp only [Act.put, List.setIfInBounds_toArray, List.set_cons_zero, List.set_cons_succ, i64_w, i32_w]; rfl
                            refine pure_ (i := 6) (N := some 161) (v := ?_) (a' := ?_) (bA 42 99) rfl rfl (any_of HT_.out (by kernel_rfl)) (fun _ _ _ h => h) (Or.inl ⟨by rfl, ?_⟩) ?_ ?_; rotate_left
                            · intro w'; go_simp; with_reducible rfl
                            rotate_left; · simp only [Act.put, List.setIfInBounds_toArray, List.set_cons_zero, List.set_cons_succ, i64_w, i32_w]; rfl
                            refine pure_ (i := 7) (N := some 162) (v := ?_) (a' := ?_) (bA 42 227) rfl rfl (any_of HT_.out (by kernel_rfl)) (fun _ _ _ h => h) (Or.inl ⟨by rfl, ?_⟩) ?_ ?_; rotate_left
                            · intro w'; go_simp; with_reducible rfl
                            rotate_left; · simp only [Act.put, List.setIfInBounds_toArray, List.set_cons_zero, List.set_cons_succ, i64_w, i32_w]; rfl
                            refine pure_ (i := 11) (N := some 166) (v := ?_) (a' := ?_) (bA 42 2275) rfl rfl (any_of HT_.out (by kernel_rfl)) (fun _ _ _ h => h) (Or.inl ⟨by rfl, ?_⟩) ?_ ?_; rotate_left
                            · intro w'; go_simp; with_reducible rfl
                            rotate_left; · simp only [Act.put, List.setIfInBounds_toArray, List.set_cons_zero, List.set_cons_succ, i64_w, i32_w]; rfl
                            refine pure_ (i := 12) (N := some 167) (v := ?_) (a' := ?_) (bA 42 6371) rfl rfl (any_of HT_.out (by kernel_rfl)) (fun _ _ _ h => h) (Or.inl ⟨by rfl, ?_⟩) ?_ ?_; rotate_left
                            · intro w'; go_simp; with_reducible rfl
                            rotate_left; · simp only [Act.put, List.setIfInBounds_toArray, List.set_cons_zero, List.set_cons_succ, i64_w, i32_w]; rfl
                            refine pure_ (i := 17) (N := some 172) (v := ?_) (a' := ?_) (bA 42 137443) rfl rfl (any_of HT_.out (by kernel_rfl)) (fun _ _ _ h => h) (Or.inl ⟨by rfl, ?_⟩) ?_ ?_; rotate_left
                            · intro w'; go_simp; with_reducible rfl
                            rotate_left; · simp only [Act.put, List.setIfInBounds_toArray, List.set_cons_zero, List.set_cons_succ, i64_w, i32_w]; rfl
                            refine pure_ (i := 18) (N := some 173) (v := ?_) (a' := ?_) (bA 42 399587) rfl rfl (any_of HT_.out (by kernel_rfl)) (fun _ _ _ h => h) (Or.inl ⟨by rfl, ?_⟩) ?_ ?_; rotate_left
                            · intro w'; go_simp; with_reducible rfl
                            rotate_left; · simp only [Act.put, List.setIfInBounds_toArray, List.set_cons_zero, List.set_cons_succ, i64_w, i32_w]; rfl
                            refine pure_ (i := 23) (N := some 178) (v := ?_) (a' := ?_) (bA 42 8788195) rfl rfl (any_of HT_.out (by kernel_rfl)) (fun _ _ _ h => h) (Or.inl ⟨by rfl, ?_⟩) ?_ ?_; rotate_left
                            · intro w'; go_simp; with_reducible rfl
                            rotate_left; · simp only [Act.put, List.setIfInBounds_toArray, List.set_cons_zero, List.set_cons_succ, i64_w, i32_w]; rfl
                            refine pure_ (i := 24) (N := some 179) (v := ?_) (a' := ?_) (bA 42 25565411) rfl rfl (any_of HT_.out (by kernel_rfl)) (fun _ _ _ h => h) (Or.inl ⟨by rfl, ?_⟩) ?_ ?_; rotate_left
                            · intro w'; go_simp; with_reducible rfl
                            rotate_left; · simp only [Act.put, List.setIfInBounds_toArray, List.set_cons_zero, List.set_cons_succ, i64_w, i32_w]; rfl
                            refine pure_ (i := 28) (N := some 183) (v := ?_) (a' := ?_) (bA 42 294000867) rfl rfl (any_of HT_.out (by kernel_rfl)) (fun _ _ _ h => h) (Or.inl ⟨by rfl, ?_⟩) ?_ ?_; rotate_left
                            · intro w'; go_simp; with_reducible rfl
                            rotate_left; · simp only [Act.put, List.setIfInBounds_toArray, List.set_cons_zero, List.set_cons_succ, i64_w, i32_w]; rfl
                            refine pure_ (i := 29) (N := some 184) (v := ?_) (a' := ?_) (bA 42 830871779) rfl rfl (any_of HT_.out (by kernel_rfl)) (fun _ _ _ h => h) (Or.inl ⟨by rfl, ?_⟩) ?_ ?_; rotate_left
                            · intro w'; go_simp; with_reducible rfl
                            rotate_left; · simp only [Act.put, List.setIfInBounds_toArray, List.set_cons_zero, List.set_cons_succ, i64_w, i32_w]; rfl
                            refine pure_ (i := 33) (N := some 188) (v := ?_) (a' := ?_) (bA 42 9420806371) rfl rfl (any_of HT_.out (by kernel_rfl)) (fun _ _ _ h => h) (Or.inl ⟨by rfl, ?_⟩) ?_ ?_; rotate_left
                            · intro w'; go_simp; with_reducible rfl
                            rotate_left; · simp only [Act.put, List.setIfInBounds_toArray, List.set_cons_zero, List.set_cons_succ, i64_w, i32_w]; rfl
                            refine pure_ (i := 34) (N := some 189) (v := ?_) (a' := ?_) (bA 42 26600675555) rfl rfl (any_of HT_.out (by kernel_rfl)) (fun _ _ _ h => h) (Or.inl ⟨by rfl, ?_⟩) ?_ ?_; rotate_left
                            · intro w'; go_simp; with_reducible rfl
                            rotate_left; · simp only [Act.put, List.setIfInBounds_toArray, List.set_cons_zero, List.set_cons_succ, i64_w, i32_w]; rfl
                            refine take_ (i := 2) (N := some 157) (v := ?_) (a' := ?_) (bA 42 26600675559) rfl rfl (take_ofW HT_.out HW_.out (by kernel_rfl)) (fun _ _ _ h => h) (Or.inl ⟨by rfl, ?_⟩) hHeld ?_ ?_; rotate_left
                            · rintro w' ⟨s0, s1, s2, s3, s4, s5, s6⟩
                              go_simp
                              with_reducible rfl
                            rotate_left
                            · simp only [Act.put, List.setIfInBounds_toArray, List.set_cons_zero, List.set_cons_succ, i64_w, i32_w]; rfl
                            refine pure_ (i := 3) (N := some 158) (v := ?_) (a' := ?_) (bA 42 26600675567) rfl rfl (any_of HT_.out (by kernel_rfl)) (fun _ _ _ h => h) (Or.inl ⟨by rfl, ?_⟩) ?_ ?_; rotate_left
                            · intro w'; go_simp; with_reducible rfl
                            rotate_left; · simp only [Act.put, List.setIfInBounds_toArray, List.set_cons_zero, List.set_cons_succ, i64_w, i32_w]; rfl
                            refine pure_ (i := 4) (N := some 159) (v := ?_) (a' := ?_) (bA 42 26600675583) rfl rfl (any_of HT_.out (by kernel_rfl)) (fun _ _ _ h => h) (Or.inl ⟨by rfl, ?_⟩) ?_ ?_; rotate_left
                            · intro w'; go_simp; with_reducible rfl
                            rotate_left; · simp only [Act.put, List.setIfInBounds_toArray, List.set_cons_zero, List.set_cons_succ, i64_w, i32_w]; rfl
                            refine take_ (i := 8) (N := some 163) (v := ?_) (a' := ?_) (bA 42 26600675839) rfl rfl (take_ofW HT_.out HW_.out (by kernel_rfl)) (fun _ _ _ h => h) (Or.inl ⟨by rfl, ?_⟩) hHeld ?_ ?_; rotate_left
                            · rintro w' ⟨s0, s1, s2, s3, s4, s5, s6⟩
                              go_simp
                              with_reducible rfl
                            rotate_left
                            · simp only [Act.put, List.setIfInBounds_toArray, List.set_cons_zero, List.set_cons_succ, i64_w, i32_w]; rfl
                            refine pure_ (i := 9) (N := some 164) (v := ?_) (a' := ?_) (bA 42 26600676351) rfl rfl (any_of HT_.out (by kernel_rfl)) (fun _ _ _ h => h) (Or.inl ⟨by rfl, ?_⟩) ?_ ?_; rotate_left
                            · intro w'; go_simp; with_reducible rfl
                            rotate_left; · simp only [Act.put, List.setIfInBounds_toArray, List.set_cons_zero, List.set_cons_succ, i64_w, i32_w]; rfl
                            refine pure_ (i := 10) (N := some 165) (v := ?_) (a' := ?_) (bA 42 26600677375) rfl rfl (any_of HT_.out (by kernel_rfl)) (fun _ _ _ h => h) (Or.inl ⟨by rfl, ?_⟩) ?_ ?_; rotate_left
                            · intro w'; go_simp; with_reducible rfl
                            rotate_left; · simp only [Act.put, List.setIfInBounds_toArray, List.set_cons_zero, List.set_cons_succ, i64_w, i32_w]; rfl
                            refine take_ (i := 13) (N := some 168) (v := ?_) (a' := ?_) (bA 42 26600685567) rfl rfl (take_ofW HT_.out HW_.out (by kernel_rfl)) (fun _ _ _ h => h) (Or.inl ⟨by rfl, ?_⟩) hHeld ?_ ?_; rotate_left
                            · rintro w' ⟨s0, s1, s2, s3, s4, s5, s6⟩
                              go_simp
                              with_reducible rfl
                            rotate_left
                            · simp only [Act.put, List.setIfInBounds_toArray, List.set_cons_zero, List.set_cons_succ, i64_w, i32_w]; rfl
                            refine pure_ (i := 14) (N := some 169) (v := ?_) (a' := ?_) (bA 42 26600701951) rfl rfl (any_of HT_.out (by kernel_rfl)) (fun _ _ _ h => h) (Or.inl ⟨by rfl, ?_⟩) ?_ ?_; rotate_left
                            · intro w'; go_simp; with_reducible rfl
                            rotate_left; · simp only [Act.put, List.setIfInBounds_toArray, List.set_cons_zero, List.set_cons_succ, i64_w, i32_w]; rfl
                            refine pure_ (i := 15) (N := some 170) (v := ?_) (a' := ?_) (bA 42 26600734719) rfl rfl (any_of HT_.out (by kernel_rfl)) (fun _ _ _ h => h) (Or.inl ⟨by rfl, ?_⟩) ?_ ?_; rotate_left
                            · intro w'; go_simp; with_reducible rfl
                            rotate_left; · simp only [Act.put, List.setIfInBounds_toArray, List.set_cons_zero, List.set_cons_succ, i64_w, i32_w]; rfl
                            refine pure_ (i := 16) (N := some 171) (v := ?_) (a' := ?_) (bA 42 26600800255) rfl rfl (any_of HT_.out (by kernel_rfl)) (fun _ _ _ h => h) (Or.inl ⟨by rfl, ?_⟩) ?_ ?_; rotate_left
                            · intro w'; go_simp; with_reducible rfl
                            rotate_left; · simp only [Act.put, List.setIfInBounds_toArray, List.set_cons_zero, List.set_cons_succ, i64_w, i32_w]; rfl
                            refine take_ (i := 19) (N := some 174) (v := ?_) (a' := ?_) (bA 42 26601324543) rfl rfl (take_ofW HT_.out HW_.out (by kernel_rfl)) (fun _ _ _ h => h) (Or.inl ⟨by rfl, ?_⟩) hHeld ?_ ?_; rotate_left
                            · rintro w' ⟨s0, s1, s2, s3, s4, s5, s6⟩
                              go_simp
                              with_reducible rfl
                            rotate_left
                            · simp only [Act.put, List.setIfInBounds_toArray, List.set_cons_zero, List.set_cons_succ, i64_w, i32_w]; rfl
                            refine pure_ (i := 20) (N := some 175) (v := ?_) (a' := ?_) (bA 42 26602373119) rfl rfl (any_of HT_.out (by kernel_rfl)) (fun _ _ _ h => h) (Or.inl ⟨by rfl, ?_⟩) ?_ ?_; rotate_left
                            · intro w'; go_simp; with_reducible rfl
                            rotate_left; · simp only [Act.put, List.setIfInBounds_toArray, List.set_cons_zero, List.set_cons_succ, i64_w, i32_w]; rfl
                            refine pure_ (i := 21) (N := some 176) (v := ?_) (a' := ?_) (bA 42 26604470271) rfl rfl (any_of HT_.out (by kernel_rfl)) (fun _ _ _ h => h) (Or.inl ⟨by rfl, ?_⟩) ?_ ?_; rotate_left
                            · intro w'; go_simp; with_reducible rfl
                            rotate_left; · simp only [Act.put, List.setIfInBounds_toArray, List.set_cons_zero, List.set_cons_succ, i64_w, i32_w]; rfl
                            refine pure_ (i := 22) (N := some 177) (v := ?_) (a' := ?_) (bA 42 26608664575) rfl rfl (any_of HT_.out (by kernel_rfl)) (fun _ _ _ h => h) (Or.inl ⟨by rfl, ?_⟩) ?_ ?_; rotate_left
                            · intro w'; go_simp; with_reducible rfl
                            rotate_left; · simp only [Act.put, List.setIfInBounds_toArray, List.set_cons_zero, List.set_cons_succ, i64_w, i32_w]; rfl
                            refine take_ (i := 25) (N := some 180) (v := ?_) (a' := ?_) (bA 42 26642219007) rfl rfl (take_ofW HT_.out HW_.out (by kernel_rfl)) (fun _ _ _ h => h) (Or.inl ⟨by rfl, ?_⟩) hHeld ?_ ?_; rotate_left
                            · rintro w' ⟨s0, s1, s2, s3, s4, s5, s6⟩
                              go_simp
                              with_reducible rfl
                            rotate_left
                            · simp only [Act.put, List.setIfInBounds_toArray, List.set_cons_zero, List.set_cons_succ, i64_w, i32_w]; rfl
                            refine pure_ (i := 26) (N := some 181) (v := ?_) (a' := ?_) (bA 42 26709327871) rfl rfl (any_of HT_.out (by kernel_rfl)) (fun _ _ _ h => h) (Or.inl ⟨by rfl, ?_⟩) ?_ ?_; rotate_left
                            · intro w'; go_simp; with_reducible rfl
                            rotate_left; · simp only [Act.put, List.setIfInBounds_toArray, List.set_cons_zero, List.set_cons_succ, i64_w, i32_w]; rfl
                            refine pure_ (i := 27) (N := some 182) (v := ?_) (a' := ?_) (bA 42 26843545599) rfl rfl (any_of HT_.out (by kernel_rfl)) (fun _ _ _ h => h) (Or.inl ⟨by rfl, ?_⟩) ?_ ?_; rotate_left
                            · intro w'; go_simp; with_reducible rfl
                            rotate_left; · simp only [Act.put, List.setIfInBounds_toArray, List.set_cons_zero, List.set_cons_succ, i64_w, i32_w]; rfl
                            refine take_ (i := 30) (N := some 185) (v := ?_) (a' := ?_) (bA 42 27917287423) rfl rfl (take_ofW HT_.out HW_.out (by kernel_rfl)) (fun _ _ _ h => h) (Or.inl ⟨by rfl, ?_⟩) hHeld ?_ ?_; rotate_left
                            · rintro w' ⟨s0, s1, s2, s3, s4, s5, s6⟩
                              go_simp
                              with_reducible rfl
                            rotate_left
                            · simp only [Act.put, List.setIfInBounds_toArray, List.set_cons_zero, List.set_cons_succ, i64_w, i32_w]; rfl
                            refine pure_ (i := 31) (N := some 186) (v := ?_) (a' := ?_) (bA 42 30064771071) rfl rfl (any_of HT_.out (by kernel_rfl)) (fun _ _ _ h => h) (Or.inl ⟨by rfl, ?_⟩) ?_ ?_; rotate_left
                            · intro w'; go_simp; with_reducible rfl
                            rotate_left; · simp only [Act.put, List.setIfInBounds_toArray, List.set_cons_zero, List.set_cons_succ, i64_w, i32_w]; rfl
                            refine pure_ (i := 32) (N := some 187) (v := ?_) (a' := ?_) (bA 42 34359738367) rfl rfl (any_of HT_.out (by kernel_rfl)) (fun _ _ _ h => h) (Or.inl ⟨by rfl, ?_⟩) ?_ ?_; rotate_left
                            · intro w'; go_simp; with_reducible rfl
                            rotate_left; · simp only [Act.put, List.setIfInBounds_toArray, List.set_cons_zero, List.set_cons_succ, i64_w, i32_w]; rfl
                            refine take_ (i := 35) (N := some 190) (v := ?_) (a' := ?_) (bA 42 68719476735) rfl rfl (take_ofW HT_.out HW_.out (by kernel_rfl)) (fun _ _ _ h => h) (Or.inl ⟨by rfl, ?_⟩) hHeld ?_ ?_; rotate_left
                            · rintro w' ⟨s0, s1, s2, s3, s4, s5, s6⟩
                              go_simp
                              with_reducible rfl
                            rotate_left
                            · simp only [Act.put, List.setIfInBounds_toArray, List.set_cons_zero, List.set_cons_succ, i64_w, i32_w]; rfl
                            refine pure_ (i := 36) (N := some 191) (v := ?_) (a' := ?_) (bA 42 137438953471) rfl rfl (any_of HT_.out (by kernel_rfl)) (fun _ _ _ h => h) (Or.inl ⟨by rfl, ?_⟩) ?_ ?_; rotate_left
                            · intro w'; go_simp; with_reducible rfl
                            rotate_left; · simp only [Act.put, List.setIfInBounds_toArray, List.set_cons_zero, List.set_cons_succ, i64_w, i32_w]; rfl
                            refine pure_ (i := 37) (N := some 192) (v := ?_) (a' := ?_) (bA 42 274877906943) rfl rfl (any_of HT_.out (by kernel_rfl)) (fun _ _ _ h => h) (Or.inl ⟨by rfl, ?_⟩) ?_ ?_; rotate_left
                            · intro w'; go_simp; with_reducible rfl
                            rotate_left; · simp only [Act.put, List.setIfInBounds_toArray, List.set_cons_zero, List.set_cons_succ, i64_w, i32_w]; rfl
                            refine pure_ (i := 38) (N := some 193) (v := ?_) (a' := ?_) (bA 42 549755813887) rfl rfl (any_of HT_.out (by kernel_rfl)) (fun _ _ _ h => h) (Or.inl ⟨by rfl, ?_⟩) ?_ ?_; rotate_left
                            · intro w'; go_simp; with_reducible rfl
                            rotate_left; · simp only [Act.put, List.setIfInBounds_toArray, List.set_cons_zero, List.set_cons_succ, i64_w, i32_w]; rfl
                            refine pure_ (i := 39) (N := some 194) (v := ?_) (a' := ?_) (bA 42 1099511627775) rfl rfl (any_of HT_.out (by kernel_rfl)) (fun _ _ _ h => h) (Or.inl ⟨by rfl, ?_⟩) ?_ ?_; rotate_left
                            · intro w'; go_simp; with_reducible rfl
                            rotate_left; · simp only [Act.put, List.setIfInBounds_toArray, List.set_cons_zero, List.set_cons_succ, i64_w, i32_w]; rfl
                            refine one_ (i := 40) (N := some 9) (bA 42 2199023255551) rfl rfl (one_of HT_.out (by kernel_rfl)) (by decide) (fun K hK => ?_)
                            refine box_step ?hg (N := 9) ?hd (cs := #[.int .u32 0, .int .i64 0, .int .u32 0, .int .u32 0, .int .u16 0]) (t := 62) ?hr ?_; (case hd => rfl); (case hg => rfl); (case hr => first | (go_simp; done) | (go_simp; rfl))
                            intro gb215 hg w62 hbox hb
                            have n0_ := Aside0.mk (Kd.R_below (Kd.R_elderB (by (with_reducible repeat (first | apply Kd.R_alloc | apply Kd.R_drewN | apply Kd.R_drew)); exact HO_4.out) gb215 (Nat.le_of_eq hg.symm)) hb)
                            have n1_ := Aside0.mk (below_step (by repeat (first | (with_reducible first | exact HB.out | apply below_alloc | apply pw_below_drewN | apply below_drew1) | exact HB.out)) hb)
                            have n2_ := Aside0.mk (hbox)
                            have n3_ := Aside0.mk ((by rw [hg]; exact (below_size (by repeat (first | (with_reducible first | exact HB.out | apply below_alloc | apply pw_below_drewN | apply below_drew1) | exact HB.out))) : w.heap.size ≤ gb215))
                            have n4_ := Aside0.mk ((by rw [hg]; exact (below_size (by repeat (first | (with_reducible first | exact HB.out | apply below_alloc | apply pw_below_drewN | apply below_drew1) | exact HB.out))) : w.heap.size ≤ gb215))
                            clear HO_4
                            clear HB
                            have HO_4 := n0_
                            have HB := n1_
                            have BK215 := n2_
                            have GW215 := n3_
                            have GE215 := n4_
                            clear n0_ n1_ n2_ n3_ n4_
                            clear hb hbox hg
                            refine hK.out _ _ ⟨((HB.out.cell (World.block_lt_of_cell? w _ hw208_0)).trans hw208_0), ((HB.out.cell (World.block_lt_of_cell? w _ hw209_0)).trans hw209_0), ((HB.out.cell (World.block_lt_of_cell? w _ hw210_0)).trans hw210_0), ((HB.out.cell (World.block_lt_of_cell? w _ hw211_0)).trans hw211_0), ((HB.out.cell (World.block_lt_of_cell? w _ hw212_0)).trans hw212_0), ((HB.out.cell (World.block_lt_of_cell? w _ hw213_0)).trans hw213_0), ((HB.out.cell (World.block_lt_of_cell? w _ hw214_0)).trans hw214_0)⟩ (fun hHeld => ?_)
                            clear hK K
                            refine norm_ (a' := ?_) ?_ ?_
                            rotate_left
                            · show Act.put _ (some 9) _ = _
                              simp only [Act.put, List.setIfInBounds_toArray, List.set_cons_zero, List.set_cons_succ, i64_w, i32_w]
                              rfl
                            refine one_ (i := 41) (N := none) (bA 42 4398046511103) rfl rfl (one_of HT_.out (by kernel_rfl)) (by decide) (fun K hK => ?_)
                            have hs63 : w62.cell? ⟨gb215, 0, none⟩ = some (.int .u32 0) := (blk_cell BK215.out 0).trans rfl
                            have hfs63 := blk_frozen BK215.out 0
                            have hs64 : w62.cell? ⟨gb215, 1, none⟩ = some (.int .i64 0) := (blk_cell BK215.out 1).trans rfl
                            have hfs64 := blk_frozen BK215.out 1
                            have hs65 : w62.cell? ⟨gb215, 2, none⟩ = some (.int .u32 0) := (blk_cell BK215.out 2).trans rfl
                            have hfs65 := blk_frozen BK215.out 2
                            have hs66 : w62.cell? ⟨gb215, 3, none⟩ = some (.int .u32 0) := (blk_cell BK215.out 3).trans rfl
                            have hfs66 := blk_frozen BK215.out 3
                            have hs67 : w62.cell? ⟨gb215, 4, none⟩ = some (.int .u16 0) := (blk_cell BK215.out 4).trans rfl
                            have hfs67 := blk_frozen BK215.out 4
                            refine skip_ (w1 := ?_) (by rfl) rfl ?_ ?_
                            rotate_left
                            · go_simp
                              rfl
                            refine hK.out _ _ ⟨((cell_far (p := ⟨gb215, _, none⟩) (by first | first | exact nb2 hw208_0 GW215.out | exact nb1 hw208_0 GW215.out | (rw [add_block]; first | exact nb2 hw208_0 GW215.out | exact nb1 hw208_0 GW215.out) | (show (Addr.add _ _).block ≠ _; rw [add_block]; first | exact nb2 hw208_0 GW215.out | exact nb1 hw208_0 GW215.out) | (dsimp only; first | exact nb2 hw208_0 GW215.out | exact nb1 hw208_0 GW215.out)) _).trans (((cell_far (p := ⟨gb215, _, none⟩) (by first | first | exact nb2 hw208_0 GW215.out | exact nb1 hw208_0 GW215.out | (rw [add_block]; first | exact nb2 hw208_0 GW215.out | exact nb1 hw208_0 GW215.out) | (show (Addr.add _ _).block ≠ _; rw [add_block]; first | exact nb2 hw208_0 GW215.out | exact nb1 hw208_0 GW215.out) | (dsimp only; first | exact nb2 hw208_0 GW215.out | exact nb1 hw208_0 GW215.out)) _).trans (((cell_far (p := ⟨gb215, _, none⟩) (by first | first | exact nb2 hw208_0 GW215.out | exact nb1 hw208_0 GW215.out | (rw [add_block]; first | exact nb2 hw208_0 GW215.out | exact nb1 hw208_0 GW215.out) | (show (Addr.add _ _).block ≠ _; rw [add_block]; first | exact nb2 hw208_0 GW215.out | exact nb1 hw208_0 GW215.out) | (dsimp only; first | exact nb2 hw208_0 GW215.out | exact nb1 hw208_0 GW215.out)) _).trans (((cell_far (p := ⟨gb215, _, none⟩) (by first | first | exact nb2 hw208_0 GW215.out | exact nb1 hw208_0 GW215.out | (rw [add_block]; first | exact nb2 hw208_0 GW215.out | exact nb1 hw208_0 GW215.out) | (show (Addr.add _ _).block ≠ _; rw [add_block]; first | exact nb2 hw208_0 GW215.out | exact nb1 hw208_0 GW215.out) | (dsimp only; first | exact nb2 hw208_0 GW215.out | exact nb1 hw208_0 GW215.out)) _).trans (((cell_far (p := ⟨gb215, _, none⟩) (by first | first | exact nb2 hw208_0 GW215.out | exact nb1 hw208_0 GW215.out | (rw [add_block]; first | exact nb2 hw208_0 GW215.out | exact nb1 hw208_0 GW215.out) | (show (Addr.add _ _).block ≠ _; rw [add_block]; first | exact nb2 hw208_0 GW215.out | exact nb1 hw208_0 GW215.out) | (dsimp only; first | exact nb2 hw208_0 GW215.out | exact nb1 hw208_0 GW215.out)) _).trans (hHeld.1)))))))))), ((cell_far (p := ⟨gb215, _, none⟩) (by first | first | exact nb2 hw209_0 GW215.out | exact nb1 hw209_0 GW215.out | (rw [add_block]; first | exact nb2 hw209_0 GW215.out | exact nb1 hw209_0 GW215.out) | (show (Addr.add _ _).block ≠ _; rw [add_block]; first | exact nb2 hw209_0 GW215.out | exact nb1 hw209_0 GW215.out) | (dsimp only; first | exact nb2 hw209_0 GW215.out | exact nb1 hw209_0 GW215.out)) _).trans (((cell_far (p := ⟨gb215, _, none⟩) (by first | first | exact nb2 hw209_0 GW215.out | exact nb1 hw209_0 GW215.out | (rw [add_block]; first | exact nb2 hw209_0 GW215.out | exact nb1 hw209_0 GW215.out) | (show (Addr.add _ _).block ≠ _; rw [add_block]; first | exact nb2 hw209_0 GW215.out | exact nb1 hw209_0 GW215.out) | (dsimp only; first | exact nb2 hw209_0 GW215.out | exact nb1 hw209_0 GW215.out)) _).trans (((cell_far (p := ⟨gb215, _, none⟩) (by first | first | exact nb2 hw209_0 GW215.out | exact nb1 hw209_0 GW215.out | (rw [add_block]; first | exact nb2 hw209_0 GW215.out | exact nb1 hw209_0 GW215.out) | (show (Addr.add _ _).block ≠ _; rw [add_block]; first | exact nb2 hw209_0 GW215.out | exact nb1 hw209_0 GW215.out) | (dsimp only; first | exact nb2 hw209_0 GW215.out | exact nb1 hw209_0 GW215.out)) _).trans (((cell_far (p := ⟨gb215, _, none⟩) (by first | first | exact nb2 hw209_0 GW215.out | exact nb1 hw209_0 GW215.out | (rw [add_block]; first | exact nb2 hw209_0 GW215.out | exact nb1 hw209_0 GW215.out) | (show (Addr.add _ _).block ≠ _; rw [add_block]; first | exact nb2 hw209_0 GW215.out | exact nb1 hw209_0 GW215.out) | (dsimp only; first | exact nb2 hw209_0 GW215.out | exact nb1 hw209_0 GW215.out)) _).trans (((cell_far (p := ⟨gb215, _, none⟩) (by first | first | exact nb2 hw209_0 GW215.out | exact nb1 hw209_0 GW215.out | (rw [add_block]; first | exact nb2 hw209_0 GW215.out | exact nb1 hw209_0 GW215.out) | (show (Addr.add _ _).block ≠ _; rw [add_block]; first | exact nb2 hw209_0 GW215.out | exact nb1 hw209_0 GW215.out) | (dsimp only; first | exact nb2 hw209_0 GW215.out | exact nb1 hw209_0 GW215.out)) _).trans (hHeld.2.1)))))))))), ((cell_far (p := ⟨gb215, _, none⟩) (by first | first | exact nb2 hw210_0 GW215.out | exact nb1 hw210_0 GW215.out | (rw [add_block]; first | exact nb2 hw210_0 GW215.out | exact nb1 hw210_0 GW215.out) | (show (Addr.add _ _).block ≠ _; rw [add_block]; first | exact nb2 hw210_0 GW215.out | exact nb1 hw210_0 GW215.out) | (dsimp only; first | exact nb2 hw210_0 GW215.out | exact nb1 hw210_0 GW215.out)) _).trans (((cell_far (p := ⟨gb215, _, none⟩) (by first | first | exact nb2 hw210_0 GW215.out | exact nb1 hw210_0 GW215.out | (rw [add_block]; first | exact nb2 hw210_0 GW215.out | exact nb1 hw210_0 GW215.out) | (show (Addr.add _ _).block ≠ _; rw [add_block]; first | exact nb2 hw210_0 GW215.out | exact nb1 hw210_0 GW215.out) | (dsimp only; first | exact nb2 hw210_0 GW215.out | exact nb1 hw210_0 GW215.out)) _).trans (((cell_far (p := ⟨gb215, _, none⟩) (by first | first | exact nb2 hw210_0 GW215.out | exact nb1 hw210_0 GW215.out | (rw [add_block]; first | exact nb2 hw210_0 GW215.out | exact nb1 hw210_0 GW215.out) | (show (Addr.add _ _).block ≠ _; rw [add_block]; first | exact nb2 hw210_0 GW215.out | exact nb1 hw210_0 GW215.out) | (dsimp only; first | exact nb2 hw210_0 GW215.out | exact nb1 hw210_0 GW215.out)) _).trans (((cell_far (p := ⟨gb215, _, none⟩) (by first | first | exact nb2 hw210_0 GW215.out | exact nb1 hw210_0 GW215.out | (rw [add_block]; first | exact nb2 hw210_0 GW215.out | exact nb1 hw210_0 GW215.out) | (show (Addr.add _ _).block ≠ _; rw [add_block]; first | exact nb2 hw210_0 GW215.out | exact nb1 hw210_0 GW215.out) | (dsimp only; first | exact nb2 hw210_0 GW215.out | exact nb1 hw210_0 GW215.out)) _).trans (((cell_far (p := ⟨gb215, _, none⟩) (by first | first | exact nb2 hw210_0 GW215.out | exact nb1 hw210_0 GW215.out | (rw [add_block]; first | exact nb2 hw210_0 GW215.out | exact nb1 hw210_0 GW215.out) | (show (Addr.add _ _).block ≠ _; rw [add_block]; first | exact nb2 hw210_0 GW215.out | exact nb1 hw210_0 GW215.out) | (dsimp only; first | exact nb2 hw210_0 GW215.out | exact nb1 hw210_0 GW215.out)) _).trans (hHeld.2.2.1)))))))))), ((cell_far (p := ⟨gb215, _, none⟩) (by first | first | exact nb2 hw211_0 GW215.out | exact nb1 hw211_0 GW215.out | (rw [add_block]; first | exact nb2 hw211_0 GW215.out | exact nb1 hw211_0 GW215.out) | (show (Addr.add _ _).block ≠ _; rw [add_block]; first | exact nb2 hw211_0 GW215.out | exact nb1 hw211_0 GW215.out) | (dsimp only; first | exact nb2 hw211_0 GW215.out | exact nb1 hw211_0 GW215.out)) _).trans (((cell_far (p := ⟨gb215, _, none⟩) (by first | first | exact nb2 hw211_0 GW215.out | exact nb1 hw211_0 GW215.out | (rw [add_block]; first | exact nb2 hw211_0 GW215.out | exact nb1 hw211_0 GW215.out) | (show (Addr.add _ _).block ≠ _; rw [add_block]; first | exact nb2 hw211_0 GW215.out | exact nb1 hw211_0 GW215.out) | (dsimp only; first | exact nb2 hw211_0 GW215.out | exact nb1 hw211_0 GW215.out)) _).trans (((cell_far (p := ⟨gb215, _, none⟩) (by first | first | exact nb2 hw211_0 GW215.out | exact nb1 hw211_0 GW215.out | (rw [add_block]; first | exact nb2 hw211_0 GW215.out | exact nb1 hw211_0 GW215.out) | (show (Addr.add _ _).block ≠ _; rw [add_block]; first | exact nb2 hw211_0 GW215.out | exact nb1 hw211_0 GW215.out) | (dsimp only; first | exact nb2 hw211_0 GW215.out | exact nb1 hw211_0 GW215.out)) _).trans (((cell_far (p := ⟨gb215, _, none⟩) (by first | first | exact nb2 hw211_0 GW215.out | exact nb1 hw211_0 GW215.out | (rw [add_block]; first | exact nb2 hw211_0 GW215.out | exact nb1 hw211_0 GW215.out) | (show (Addr.add _ _).block ≠ _; rw [add_block]; first | exact nb2 hw211_0 GW215.out | exact nb1 hw211_0 GW215.out) | (dsimp only; first | exact nb2 hw211_0 GW215.out | exact nb1 hw211_0 GW215.out)) _).trans (((cell_far (p := ⟨gb215, _, none⟩) (by first | first | exact nb2 hw211_0 GW215.out | exact nb1 hw211_0 GW215.out | (rw [add_block]; first | exact nb2 hw211_0 GW215.out | exact nb1 hw211_0 GW215.out) | (show (Addr.add _ _).block ≠ _; rw [add_block]; first | exact nb2 hw211_0 GW215.out | exact nb1 hw211_0 GW215.out) | (dsimp only; first | exact nb2 hw211_0 GW215.out | exact nb1 hw211_0 GW215.out)) _).trans (hHeld.2.2.2.1)))))))))), ((cell_far (p := ⟨gb215, _, none⟩) (by first | first | exact nb2 hw212_0 GW215.out | exact nb1 hw212_0 GW215.out | (rw [add_block]; first | exact nb2 hw212_0 GW215.out | exact nb1 hw212_0 GW215.out) | (show (Addr.add _ _).block ≠ _; rw [add_block]; first | exact nb2 hw212_0 GW215.out | exact nb1 hw212_0 GW215.out) | (dsimp only; first | exact nb2 hw212_0 GW215.out | exact nb1 hw212_0 GW215.out)) _).trans (((cell_far (p := ⟨gb215, _, none⟩) (by first | first | exact nb2 hw212_0 GW215.out | exact nb1 hw212_0 GW215.out | (rw [add_block]; first | exact nb2 hw212_0 GW215.out | exact nb1 hw212_0 GW215.out) | (show (Addr.add _ _).block ≠ _; rw [add_block]; first | exact nb2 hw212_0 GW215.out | exact nb1 hw212_0 GW215.out) | (dsimp only; first | exact nb2 hw212_0 GW215.out | exact nb1 hw212_0 GW215.out)) _).trans (((cell_far (p := ⟨gb215, _, none⟩) (by first | first | exact nb2 hw212_0 GW215.out | exact nb1 hw212_0 GW215.out | (rw [add_block]; first | exact nb2 hw212_0 GW215.out | exact nb1 hw212_0 GW215.out) | (show (Addr.add _ _).block ≠ _; rw [add_block]; first | exact nb2 hw212_0 GW215.out | exact nb1 hw212_0 GW215.out) | (dsimp only; first | exact nb2 hw212_0 GW215.out | exact nb1 hw212_0 GW215.out)) _).trans (((cell_far (p := ⟨gb215, _, none⟩) (by first | first | exact nb2 hw212_0 GW215.out | exact nb1 hw212_0 GW215.out | (rw [add_block]; first | exact nb2 hw212_0 GW215.out | exact nb1 hw212_0 GW215.out) | (show (Addr.add _ _).block ≠ _; rw [add_block]; first | exact nb2 hw212_0 GW215.out | exact nb1 hw212_0 GW215.out) | (dsimp only; first | exact nb2 hw212_0 GW215.out | exact nb1 hw212_0 GW215.out)) _).trans (((cell_far (p := ⟨gb215, _, none⟩) (by first | first | exact nb2 hw212_0 GW215.out | exact nb1 hw212_0 GW215.out | (rw [add_block]; first | exact nb2 hw212_0 GW215.out | exact nb1 hw212_0 GW215.out) | (show (Addr.add _ _).block ≠ _; rw [add_block]; first | exact nb2 hw212_0 GW215.out | exact nb1 hw212_0 GW215.out) | (dsimp only; first | exact nb2 hw212_0 GW215.out | exact nb1 hw212_0 GW215.out)) _).trans (hHeld.2.2.2.2.1)))))))))), ((cell_far (p := ⟨gb215, _, none⟩) (by first | first | exact nb2 hw213_0 GW215.out | exact nb1 hw213_0 GW215.out | (rw [add_block]; first | exact nb2 hw213_0 GW215.out | exact nb1 hw213_0 GW215.out) | (show (Addr.add _ _).block ≠ _; rw [add_block]; first | exact nb2 hw213_0 GW215.out | exact nb1 hw213_0 GW215.out) | (dsimp only; first | exact nb2 hw213_0 GW215.out | exact nb1 hw213_0 GW215.out)) _).trans (((cell_far (p := ⟨gb215, _, none⟩) (by first | first | exact nb2 hw213_0 GW215.out | exact nb1 hw213_0 GW215.out | (rw [add_block]; first | exact nb2 hw213_0 GW215.out | exact nb1 hw213_0 GW215.out) | (show (Addr.add _ _).block ≠ _; rw [add_block]; first | exact nb2 hw213_0 GW215.out | exact nb1 hw213_0 GW215.out) | (dsimp only; first | exact nb2 hw213_0 GW215.out | exact nb1 hw213_0 GW215.out)) _).trans (((cell_far (p := ⟨gb215, _, none⟩) (by first | first | exact nb2 hw213_0 GW215.out | exact nb1 hw213_0 GW215.out | (rw [add_block]; first | exact nb2 hw213_0 GW215.out | exact nb1 hw213_0 GW215.out) | (show (Addr.add _ _).block ≠ _; rw [add_block]; first | exact nb2 hw213_0 GW215.out | exact nb1 hw213_0 GW215.out) | (dsimp only; first | exact nb2 hw213_0 GW215.out | exact nb1 hw213_0 GW215.out)) _).trans (((cell_far (p := ⟨gb215, _, none⟩) (by first | first | exact nb2 hw213_0 GW215.out | exact nb1 hw213_0 GW215.out | (rw [add_block]; first | exact nb2 hw213_0 GW215.out | exact nb1 hw213_0 GW215.out) | (show (Addr.add _ _).block ≠ _; rw [add_block]; first | exact nb2 hw213_0 GW215.out | exact nb1 hw213_0 GW215.out) | (dsimp only; first | exact nb2 hw213_0 GW215.out | exact nb1 hw213_0 GW215.out)) _).trans (((cell_far (p := ⟨gb215, _, none⟩) (by first | first | exact nb2 hw213_0 GW215.out | exact nb1 hw213_0 GW215.out | (rw [add_block]; first | exact nb2 hw213_0 GW215.out | exact nb1 hw213_0 GW215.out) | (show (Addr.add _ _).block ≠ _; rw [add_block]; first | exact nb2 hw213_0 GW215.out | exact nb1 hw213_0 GW215.out) | (dsimp only; first | exact nb2 hw213_0 GW215.out | exact nb1 hw213_0 GW215.out)) _).trans (hHeld.2.2.2.2.2.1)))))))))), ((cell_far (p := ⟨gb215, _, none⟩) (by first | first | exact nb2 hw214_0 GW215.out | exact nb1 hw214_0 GW215.out | (rw [add_block]; first | exact nb2 hw214_0 GW215.out | exact nb1 hw214_0 GW215.out) | (show (Addr.add _ _).block ≠ _; rw [add_block]; first | exact nb2 hw214_0 GW215.out | exact nb1 hw214_0 GW215.out) | (dsimp only; first | exact nb2 hw214_0 GW215.out | exact nb1 hw214_0 GW215.out)) _).trans (((cell_far (p := ⟨gb215, _, none⟩) (by first | first | exact nb2 hw214_0 GW215.out | exact nb1 hw214_0 GW215.out | (rw [add_block]; first | exact nb2 hw214_0 GW215.out | exact nb1 hw214_0 GW215.out) | (show (Addr.add _ _).block ≠ _; rw [add_block]; first | exact nb2 hw214_0 GW215.out | exact nb1 hw214_0 GW215.out) | (dsimp only; first | exact nb2 hw214_0 GW215.out | exact nb1 hw214_0 GW215.out)) _).trans (((cell_far (p := ⟨gb215, _, none⟩) (by first | first | exact nb2 hw214_0 GW215.out | exact nb1 hw214_0 GW215.out | (rw [add_block]; first | exact nb2 hw214_0 GW215.out | exact nb1 hw214_0 GW215.out) | (show (Addr.add _ _).block ≠ _; rw [add_block]; first | exact nb2 hw214_0 GW215.out | exact nb1 hw214_0 GW215.out) | (dsimp only; first | exact nb2 hw214_0 GW215.out | exact nb1 hw214_0 GW215.out)) _).trans (((cell_far (p := ⟨gb215, _, none⟩) (by first | first | exact nb2 hw214_0 GW215.out | exact nb1 hw214_0 GW215.out | (rw [add_block]; first | exact nb2 hw214_0 GW215.out | exact nb1 hw214_0 GW215.out) | (show (Addr.add _ _).block ≠ _; rw [add_block]; first | exact nb2 hw214_0 GW215.out | exact nb1 hw214_0 GW215.out) | (dsimp only; first | exact nb2 hw214_0 GW215.out | exact nb1 hw214_0 GW215.out)) _).trans (((cell_far (p := ⟨gb215, _, none⟩) (by first | first | exact nb2 hw214_0 GW215.out | exact nb1 hw214_0 GW215.out | (rw [add_block]; first | exact nb2 hw214_0 GW215.out | exact nb1 hw214_0 GW215.out) | (show (Addr.add _ _).block ≠ _; rw [add_block]; first | exact nb2 hw214_0 GW215.out | exact nb1 hw214_0 GW215.out) | (dsimp only; first | exact nb2 hw214_0 GW215.out | exact nb1 hw214_0 GW215.out)) _).trans (hHeld.2.2.2.2.2.2))))))))))⟩ (fun hHeld => ?_)
                            clear hK K
                            refine done_ (done_of HT_.out (by kernel_rfl)) ?_
                            obtain ⟨i068, hi068, _, hsz68, _⟩ := info_parts info5
                            obtain ⟨A68, hcut68, hA68, hC68⟩ := print_drop_of (P := Try.prog) (Value.int .u8) 0 22 5 .i64 Try.underlying22 hi068 hsz68 (some ad208) (c0 - (ji31).toNat) X_ 7 (by omega) (of_decide_eq_true (by first | (with_reducible assumption) | assumption)) HC200.out
                            have HR216 := Aside0.mk (Kd.C_of_reads (h1 := fun _ => rfl) (hA68 _ (Kd.reads_of_C HR200.out)))
                            have HC216 := Aside0.mk hC68
                            clear hA68 hC68 hi068 hsz68
                            try go_wp2
                            have hE_ : ((((((((((rd X_ 1) % 4294967296) * 16777216) % 4294967296) + ((((rd X_ 2) % 4294967296) * 65536) % 4294967296)) % 4294967296) + ((((rd X_ 3) % 4294967296) * 256) % 4294967296)) % 4294967296) + ((rd X_ 4) % 4294967296)) % 4294967296) = ((rd X_ 1 % 4294967296 * 16777216 + rd X_ 2 % 4294967296 * 65536 + rd X_ 3 % 4294967296 * 256 + rd X_ 4) % 4294967296) := by omega
                            rw [hE_] at H'
                            clear hE_
                            go_loopg [198] kj46 (fun kq v198 w' => ∃ (x198_7 : Int) (x216000_7 : Int), v198 = .int .i64 x198_7 ∧ Aside0 (wayfarerlaw08_decode.l1 kq l0 x4_2 x5_39 (wrap64 (x6_2 + (wrap64 (2 + (X_.length : Int))))) (X_.drop 7) ((X_.drop 7).length : Int) x198_7 x216000_7 (wrap64 (rd X_ 0)) x5_39 ((rd X_ 1 % 4294967296 * 16777216 + rd X_ 2 % 4294967296 * 65536 + rd X_ 3 % 4294967296 * 256 + rd X_ 4) % 4294967296) (IntKind.u16.wrap ((IntKind.u16.wrap ((IntKind.u16.wrap (rd X_ 5)) * 256)) + (IntKind.u16.wrap (rd X_ 6)))) = some (r1, r2)) ∧ Aside0 (kq ≤ kj46) ∧ Aside0 (Kd.R k62 62 w' w.heap.size (fun k_ => k_ ≠ gb215) u4 x4_2) ∧ Aside0 (w'.heap[gb215]? = some (.cells #[.int .u32 x216000_7, .int .i64 (wrap64 (rd X_ 0)), .int .u32 x5_39, .int .u32 ((rd X_ 1 % 4294967296 * 16777216 + rd X_ 2 % 4294967296 * 65536 + rd X_ 3 % 4294967296 * 256 + rd X_ 4) % 4294967296), .int .u16 (IntKind.u16.wrap ((IntKind.u16.wrap ((IntKind.u16.wrap (rd X_ 5)) * 256)) + (IntKind.u16.wrap (rd X_ 6))))] 62 (0, 0))) ∧ Aside0 (Below w.heap.size w w'))
                            case atStart => exact ⟨(0), (0), (by first | rfl | (simp; done) | (simp [*]; done)), H', ⟨Nat.le_refl _⟩, ⟨by (with_reducible repeat (first | apply Kd.R_alloc | apply Kd.R_drewN | apply Kd.R_drew)); exact Kd.R_mono (Kd.R_far (p := ⟨gb215, 4, none⟩) (Kd.R_far (p := ⟨gb215, 3, none⟩) (Kd.R_far (p := ⟨gb215, 2, none⟩) (Kd.R_far (p := ⟨gb215, 1, none⟩) (Kd.R_far (p := ⟨gb215, 0, none⟩) (Kd.R_mono HO_4.out (fun k_ hk => (⟨hk, hk.2⟩ : _ ∧ k_ ≠ gb215))) (fun _ hk => hk.2) (.int .u32 0)) (fun _ hk => hk.2) (.int .i64 (wrap64 (rd X_ 0)))) (fun _ hk => hk.2) (.int .u32 x5_39)) (fun _ hk => hk.2) (.int .u32 ((rd X_ 1 % 4294967296 * 16777216 + rd X_ 2 % 4294967296 * 65536 + rd X_ 3 % 4294967296 * 256 + rd X_ 4) % 4294967296))) (fun _ hk => hk.2) (.int .u16 (IntKind.u16.wrap ((IntKind.u16.wrap ((IntKind.u16.wrap (rd X_ 5)) * 256)) + (IntKind.u16.wrap (rd X_ 6)))))) (fun _ hk => hk.1.2)⟩, ⟨by (with_reducible repeat (first | refine blk_drewN ?_ _ | refine blk_drew ?_ | refine blk_alloc ?_ _)); refine blk_put (cs := #[.int .u32 0, .int .i64 (wrap64 (rd X_ 0)), .int .u32 x5_39, .int .u32 ((rd X_ 1 % 4294967296 * 16777216 + rd X_ 2 % 4294967296 * 65536 + rd X_ 3 % 4294967296 * 256 + rd X_ 4) % 4294967296), .int .u16 0]) ?_ 4 _ rfl; (with_reducible repeat (first | refine blk_drewN ?_ _ | refine blk_drew ?_ | refine blk_alloc ?_ _)); refine blk_put (cs := #[.int .u32 0, .int .i64 (wrap64 (rd X_ 0)), .int .u32 x5_39, .int .u32 0, .int .u16 0]) ?_ 3 _ rfl; (with_reducible repeat (first | refine blk_drewN ?_ _ | refine blk_drew ?_ | refine blk_alloc ?_ _)); refine blk_put (cs := #[.int .u32 0, .int .i64 (wrap64 (rd X_ 0)), .int .u32 0, .int .u32 0, .int .u16 0]) ?_ 2 _ rfl; (with_reducible repeat (first | refine blk_drewN ?_ _ | refine blk_drew ?_ | refine blk_alloc ?_ _)); refine blk_put (cs := #[.int .u32 0, .int .i64 0, .int .u32 0, .int .u32 0, .int .u16 0]) ?_ 1 _ rfl; (with_reducible repeat (first | refine blk_drewN ?_ _ | refine blk_drew ?_ | refine blk_alloc ?_ _)); refine blk_put (cs := #[.int .u32 0, .int .i64 0, .int .u32 0, .int .u32 0, .int .u16 0]) ?_ 0 _ rfl; (with_reducible repeat (first | refine blk_drewN ?_ _ | refine blk_drew ?_ | refine blk_alloc ?_ _)); exact BK215.out⟩, ⟨by repeat (first | (with_reducible first | exact HB.out | apply below_alloc | apply pw_below_drewN | apply below_drew1 | refine below_set ?_ GE215.out) | exact HB.out)⟩⟩
                            case round => as_aux_lemma =>
                                clear H'
                                try clear p1; try clear q1; try clear hx1; try clear p2; try clear q2; try clear hx2; try clear qi2; try clear c4; try clear c5; try clear c6; try clear p6; try clear p19; try clear q19; try clear hx19; try clear p20; try clear q20; try clear hx20; try clear qi20; try clear p21; try clear q21; try clear hx21; try clear qi21; try clear c48
                                try clear c48b1; try clear c49; try clear c49b0; try clear c49b1; try clear c50; try clear c50b0; try clear c50b1; try clear c51; try clear c51b0; try clear c52; try clear c53; try clear c53b0; try clear c53b1; try clear c54; try clear c54b0; try clear c54b1; try clear c55; try clear c55b0; try clear c55b1; try clear c56; try clear c56b0
                                try clear c56b1; try clear c57; try clear c57b0; try clear c57b1; try clear c58; try clear c58b0; try clear c58b1; try clear c59; try clear c59b0; try clear c59b1; try clear c60; try clear c60b0; try clear c60b1; try clear p64; try clear hx190_0; try clear hx191_0; try clear hx197_0; try clear hx198_0; try clear hx199_0; try clear hx201_0
                                try clear hx202_0; try clear hx203_0; try clear hx204_0; try clear hx205_0; try clear hx206_0; try clear hx207_0; try clear hx208_0; try clear hx209_0; try clear hx210_0; try clear hx211_0; try clear hx212_0; try clear hx213_0; try clear hx214_0; try clear p1; try clear p19; try clear p190; try clear p191; try clear p197; try clear p198
                                try clear p199; try clear p2; try clear p20; try clear p201; try clear p202; try clear p203; try clear p204; try clear p205; try clear p206; try clear p207; try clear p208; try clear p209; try clear p210; try clear p211; try clear p212; try clear p213; try clear p214; try clear p6; try clear q1; try clear q19; try clear q190; try clear q191
                                try clear q197; try clear q198; try clear q199; try clear q2; try clear q20; try clear q201; try clear q202; try clear q203; try clear q204; try clear q205; try clear q206; try clear q207; try clear q208; try clear q209; try clear q210; try clear q211; try clear q212; try clear q213; try clear q214
                                obtain ⟨x198_7, x216000_7, rfl, HA, HK7, HO_4, BK215, HB⟩ := hrel
                                cases gk with
                                | zero => exact absurd HA.out (by simp [wayfarerlaw08_decode.l1])
                                | succ k7 =>
                                  have H := HA.out
                                  clear HA
                                  simp only [wayfarerlaw08_decode.l1] at H
                                  by_cases c69 : x198_7 < ((X_.drop 7).length : Int)
                                  case pos =>
                                    rw [if_pos c69] at H; have c69b0 : decide (x198_7 < ((X_.drop 7).length : Int)) = true := decide_eq_true c69
                                    have c69b0l := c69b0; rw [List.length_drop] at c69b0l
                                    clear c69
                                    by_cases c70 : 0 ≤ x198_7
                                    case neg =>
                                      rw [if_neg c70] at H; exact absurd H (by simp)
                                    rw [if_pos c70] at H; have c70b0 : decide (0 ≤ x198_7) = true := decide_eq_true c70
                                    clear c70
                                    by_cases c71 : x198_7 < ((X_.drop 7).length : Int)
                                    case neg =>
                                      rw [if_neg c71] at H; exact absurd H (by simp)
                                    rw [if_pos c71] at H; have c71b0 : decide (x198_7 < ((X_.drop 7).length : Int)) = true := decide_eq_true c71
                                    have c71b0l := c71b0; rw [List.length_drop] at c71b0l
                                    clear c71
                                    obtain ⟨ji72, hji72⟩ : ∃ j_ : Int, (IntKind.u64.wrap (wrap64 (24 - (wrap64 (8 * x198_7))))) = j_ := ⟨_, rfl⟩
                                    replace H : (if 0 ≤ (ji72) then (wayfarerlaw08_decode.l1 k7 l0 x4_2 x5_39 (wrap64 (x6_2 + (wrap64 (2 + (X_.length : Int))))) (X_.drop 7) ((X_.drop 7).length : Int) (wrap64 (x198_7 + 1)) ((x216000_7 + (shl .u32 ((rd (X_.drop 7) x198_7) % 4294967296) (ji72))) % 4294967296) (wrap64 (rd X_ 0)) x5_39 ((rd X_ 1 % 4294967296 * 16777216 + rd X_ 2 % 4294967296 * 65536 + rd X_ 3 % 4294967296 * 256 + rd X_ 4) % 4294967296) (IntKind.u16.wrap ((IntKind.u16.wrap ((IntKind.u16.wrap (rd X_ 5)) * 256)) + (IntKind.u16.wrap (rd X_ 6))))) else (none)) = some (r1, r2) := by first | (rw [hji72] at H; exact H) | (simp only [hji72] at H ⊢; exact H)
                                    by_cases c73 : 0 ≤ (ji72)
                                    case neg =>
                                      rw [if_neg c73] at H; exact absurd H (by simp)
                                    rw [if_pos c73] at H; have c73b0 := eq_true c73
                                    have c73b1 : decide (0 ≤ (ji72)) = true := decide_eq_true c73
                                    clear c73
                                    obtain ⟨ji74, hji74⟩ : ∃ j_ : Int, (shl .u32 ((rd (X_.drop 7) x198_7) % 4294967296) (ji72)) = j_ := ⟨_, rfl⟩
                                    replace H : (wayfarerlaw08_decode.l1 k7 l0 x4_2 x5_39 (wrap64 (x6_2 + (wrap64 (2 + (X_.length : Int))))) (X_.drop 7) ((X_.drop 7).length : Int) (wrap64 (x198_7 + 1)) ((x216000_7 + (ji74)) % 4294967296) (wrap64 (rd X_ 0)) x5_39 ((rd X_ 1 % 4294967296 * 16777216 + rd X_ 2 % 4294967296 * 65536 + rd X_ 3 % 4294967296 * 256 + rd X_ 4) % 4294967296) (IntKind.u16.wrap ((IntKind.u16.wrap ((IntKind.u16.wrap (rd X_ 5)) * 256)) + (IntKind.u16.wrap (rd X_ 6))))) = some (r1, r2) := by first | (rw [hji74] at H; exact H) | (simp only [hji74] at H ⊢; exact H)
                                    have hji74_ : (IntKind.u32.wrap (((rd (X_.drop 7) x198_7) % 4294967296) * 2 ^ min (ji72).toNat 32)) = ji74 := hji74
                                    have hji74z : (ji72) ≤ 32 → (IntKind.u32.wrap (((rd (X_.drop 7) x198_7) % 4294967296) * 2 ^ (ji72).toNat)) = ji74 := shl_small hji74
                                    have H' := Aside0.mk H
                                    clear H
                                    have p217 : 0 ≤ (x198_7 : Int) := of_decide_eq_true (by first | (with_reducible assumption) | assumption)
                                    have q217 : x198_7 < ((X_.drop 7).length : Int) := of_decide_eq_true (by first | (with_reducible assumption) | assumption)
                                    obtain ⟨ad217, e217, hx217_0⟩ := Kd.at_int HR216.out x198_7 p217 q217
                                    cases e217
                                    replace hx217_0 := (HB.out.cell (World.block_lt_of_cell? w _ hx217_0)).trans hx217_0
                                    replace p217 := eq_true p217
                                    replace q217 := eq_true q217
                                    have q217l : (x198_7 < ((X_.length - 7 : Nat) : Int)) = True := eq_true (of_decide_eq_true c71b0l)
                                    have hcz75_0 : wr.cell? ⟨gb215, 0, none⟩ = some (.int .u32 x216000_7) := (blk_cell BK215.out 0).trans rfl
                                    have hcz75_1 : wr.cell? ⟨gb215, 1, none⟩ = some (.int .i64 (wrap64 (rd X_ 0))) := (blk_cell BK215.out 1).trans rfl
                                    have hcz75_2 : wr.cell? ⟨gb215, 2, none⟩ = some (.int .u32 x5_39) := (blk_cell BK215.out 2).trans rfl
                                    have hcz75_3 : wr.cell? ⟨gb215, 3, none⟩ = some (.int .u32 ((rd X_ 1 % 4294967296 * 16777216 + rd X_ 2 % 4294967296 * 65536 + rd X_ 3 % 4294967296 * 256 + rd X_ 4) % 4294967296)) := (blk_cell BK215.out 3).trans rfl
                                    have hcz75_4 : wr.cell? ⟨gb215, 4, none⟩ = some (.int .u16 (IntKind.u16.wrap ((IntKind.u16.wrap ((IntKind.u16.wrap (rd X_ 5)) * 256)) + (IntKind.u16.wrap (rd X_ 6))))) := (blk_cell BK215.out 4).trans rfl
                                    have hfz75_0 := blk_frozen BK215.out 0
                                    have hfz75_1 := blk_frozen BK215.out 1
                                    have hfz75_2 := blk_frozen BK215.out 2
                                    have hfz75_3 := blk_frozen BK215.out 3
                                    have hfz75_4 := blk_frozen BK215.out 4
                                    go_wp2
                                    go_roundg k7
                                    case measure => have := HJ1.out; have := HK2.out; have := HJ21.out; have := HJ36.out; have := HJ39.out; have := HJ46.out; have := HK7.out; omega
                                    case rel => exact ⟨(wrap64 (x198_7 + 1)), ((x216000_7 + (ji74)) % 4294967296), (by first | rfl | (simp; done) | (simp [*]; done)), H', ⟨by have := HJ1.out; have := HK2.out; have := HJ21.out; have := HJ36.out; have := HJ39.out; have := HJ46.out; have := HK7.out; omega⟩, ⟨by (with_reducible repeat (first | apply Kd.R_alloc | apply Kd.R_drewN | apply Kd.R_drew)); exact Kd.R_mono (Kd.R_far (p := ⟨gb215, 0, none⟩) (Kd.R_mono HO_4.out (fun k_ hk => (⟨hk, hk⟩ : _ ∧ k_ ≠ gb215))) (fun _ hk => hk.2) (.int .u32 ((x216000_7 + (ji74)) % 4294967296))) (fun _ hk => hk.1)⟩, ⟨by (with_reducible repeat (first | refine blk_drewN ?_ _ | refine blk_drew ?_ | refine blk_alloc ?_ _)); refine blk_put (cs := #[.int .u32 x216000_7, .int .i64 (wrap64 (rd X_ 0)), .int .u32 x5_39, .int .u32 ((rd X_ 1 % 4294967296 * 16777216 + rd X_ 2 % 4294967296 * 65536 + rd X_ 3 % 4294967296 * 256 + rd X_ 4) % 4294967296), .int .u16 (IntKind.u16.wrap ((IntKind.u16.wrap ((IntKind.u16.wrap (rd X_ 5)) * 256)) + (IntKind.u16.wrap (rd X_ 6))))]) ?_ 0 _ rfl; (with_reducible repeat (first | refine blk_drewN ?_ _ | refine blk_drew ?_ | refine blk_alloc ?_ _)); exact BK215.out⟩, ⟨by repeat (first | (with_reducible first | exact HB.out | apply below_alloc | apply pw_below_drewN | apply below_drew1 | refine below_set ?_ GE215.out) | exact HB.out)⟩⟩
                                  rw [if_neg c69] at H; have c69b0 : decide (x198_7 < ((X_.drop 7).length : Int)) = false := decide_eq_false c69
                                  have c69b0l := c69b0; rw [List.length_drop] at c69b0l
                                  clear c69
                                  by_cases c76 : (IntKind.u16.wrap ((IntKind.u16.wrap ((IntKind.u16.wrap (rd X_ 5)) * 256)) + (IntKind.u16.wrap (rd X_ 6)))) = 65535
                                  case neg =>
                                    rw [if_neg c76] at H; have c76b0 : ((IntKind.u16.wrap ((IntKind.u16.wrap ((IntKind.u16.wrap (rd X_ 5)) * 256)) + (IntKind.u16.wrap (rd X_ 6)))) == 65535) = false := beq_eq_false_iff_ne.mpr c76
                                    have c76b1 : ((IntKind.u16.wrap ((IntKind.u16.wrap ((IntKind.u16.wrap (rd X_ 5)) * 256)) + (IntKind.u16.wrap (rd X_ 6)))) != 65535) = true := bne_iff_ne.mpr c76
                                    replace H := Option.bind_eq_some_iff.mp H
                                    obtain ⟨t222, A860, H⟩ := H
                                    replace H : (if t222 = true then (if x4_2.length < 4398046511104 then (wayfarerlaw08_decode.l0 k7 l0 (x4_2 ++ [(⟨(⟨x216000_7, (wrap64 (rd X_ 0))⟩ : S29), x5_39, (⟨((rd X_ 1 % 4294967296 * 16777216 + rd X_ 2 % 4294967296 * 65536 + rd X_ 3 % 4294967296 * 256 + rd X_ 4) % 4294967296), (IntKind.u16.wrap ((IntKind.u16.wrap ((IntKind.u16.wrap (rd X_ 5)) * 256)) + (IntKind.u16.wrap (rd X_ 6))))⟩ : S39)⟩ : S62)]) x5_39 (wrap64 (x6_2 + (wrap64 (2 + (X_.length : Int)))))) else (none)) else (wayfarerlaw08_decode.l0 k7 l0 x4_2 x5_39 (wrap64 (x6_2 + (wrap64 (2 + (X_.length : Int))))))) = some (r1, r2) := H
                                    have A86 := Aside0.mk A860
                                    clear A860
                                    by_cases c87 : t222 = true
                                    case neg =>
                                      replace c87 := Bool.eq_false_iff.mpr c87
                                      subst c87
                                      have H1 : (wayfarerlaw08_decode.l0 k7 l0 x4_2 x5_39 (wrap64 (x6_2 + (wrap64 (2 + (X_.length : Int)))))) = some (r1, r2) := by rw [if_neg (show ¬ (false = true) by decide)] at H; exact H
                                      clear H
                                      have H := H1
                                      clear H1
                                      have H' := Aside0.mk H
                                      clear H
                                      have hcz93_0 : wr.cell? ⟨gb215, 0, none⟩ = some (.int .u32 x216000_7) := (blk_cell BK215.out 0).trans rfl
                                      have hcz93_1 : wr.cell? ⟨gb215, 1, none⟩ = some (.int .i64 (wrap64 (rd X_ 0))) := (blk_cell BK215.out 1).trans rfl
                                      have hcz93_2 : wr.cell? ⟨gb215, 2, none⟩ = some (.int .u32 x5_39) := (blk_cell BK215.out 2).trans rfl
                                      have hcz93_3 : wr.cell? ⟨gb215, 3, none⟩ = some (.int .u32 ((rd X_ 1 % 4294967296 * 16777216 + rd X_ 2 % 4294967296 * 65536 + rd X_ 3 % 4294967296 * 256 + rd X_ 4) % 4294967296)) := (blk_cell BK215.out 3).trans rfl
                                      have hcz93_4 : wr.cell? ⟨gb215, 4, none⟩ = some (.int .u16 (IntKind.u16.wrap ((IntKind.u16.wrap ((IntKind.u16.wrap (rd X_ 5)) * 256)) + (IntKind.u16.wrap (rd X_ 6))))) := (blk_cell BK215.out 4).trans rfl
                                      have hfz93_0 := blk_frozen BK215.out 0
                                      have hfz93_1 := blk_frozen BK215.out 1
                                      have hfz93_2 := blk_frozen BK215.out 2
                                      have hfz93_3 := blk_frozen BK215.out 3
                                      have hfz93_4 := blk_frozen BK215.out 4
                                      go_wp2_with (first | ((with_reducible refine gate_callee (f := 36) rfl ?_); refine goesL_ (some 223) rfl rfl Try.func36 (by kernel_rfl) rfl #[.agg #[.int .u32 x216000_7, .int .i64 (wrap64 (rd X_ 0)), .int .u32 x5_39, .int .u32 ((rd X_ 1 % 4294967296 * 16777216 + rd X_ 2 % 4294967296 * 65536 + rd X_ 3 % 4294967296 * 256 + rd X_ 4) % 4294967296), .int .u16 (IntKind.u16.wrap ((IntKind.u16.wrap ((IntKind.u16.wrap (rd X_ 5)) * 256)) + (IntKind.u16.wrap (rd X_ 6))))]] rfl (by (try simp only [List.map_toArray, List.map_cons, List.map_nil]); first | done | (simp only [hji28, hji31]; rfl) | rfl | (simp only [List.length_drop, List.length_take]; rfl)) ?_; (with_reducible refine (wayfarerlaw08_Right.calls k7 x216000_7 (wrap64 (rd X_ 0)) x5_39 ((rd X_ 1 % 4294967296 * 16777216 + rd X_ 2 % 4294967296 * 65536 + rd X_ 3 % 4294967296 * 256 + rd X_ 4) % 4294967296) (IntKind.u16.wrap ((IntKind.u16.wrap ((IntKind.u16.wrap (rd X_ 5)) * 256)) + (IntKind.u16.wrap (rd X_ 6)))) false _ A86.out).mono ?_); rintro e w94 ⟨rfl, hb⟩; refine ⟨_, rfl, ?_⟩; have n0_ := Aside0.mk (Kd.R_below (by (with_reducible repeat (first | apply Kd.R_alloc | apply Kd.R_drewN | apply Kd.R_drew)); exact HO_4.out) hb); have n1_ := Aside0.mk (blk_below (g := gb215) (o := .cells #[.int .u32 x216000_7, .int .i64 (wrap64 (rd X_ 0)), .int .u32 x5_39, .int .u32 ((rd X_ 1 % 4294967296 * 16777216 + rd X_ 2 % 4294967296 * 65536 + rd X_ 3 % 4294967296 * 256 + rd X_ 4) % 4294967296), .int .u16 (IntKind.u16.wrap ((IntKind.u16.wrap ((IntKind.u16.wrap (rd X_ 5)) * 256)) + (IntKind.u16.wrap (rd X_ 6))))] 62 (0, 0)) (by (with_reducible repeat (first | refine blk_drewN ?_ _ | refine blk_drew ?_ | refine blk_alloc ?_ _)); exact BK215.out) hb); have n2_ := Aside0.mk (below_step (by repeat (first | (with_reducible first | exact HB.out | apply below_alloc | apply pw_below_drewN | apply below_drew1 | refine below_set ?_ GE215.out) | exact HB.out)) hb); clear HO_4; clear BK215; clear HB; have HO_4 := n0_; have BK215 := n1_; have HB := n2_; clear n0_ n1_ n2_; (try clear hb); (try clear hb2); (try clear hk); (try clear hi)))
                                      go_roundg k7
                                      case measure => have := HJ1.out; have := HK2.out; have := HJ21.out; have := HJ36.out; have := HJ39.out; have := HJ46.out; have := HK7.out; omega
                                      case rel => exact ⟨(x4_2), (x5_39), ((wrap64 (x6_2 + (wrap64 (2 + (X_.length : Int)))))), (by first | rfl | (simp; done) | (simp [*]; done)), (by first | rfl | (simp; done) | (simp only [← hji28, ← hji31] <;> (first | rfl | simp)) | (simp [*]; done)), H', ⟨by have := HJ1.out; have := HK2.out; have := HJ21.out; have := HJ36.out; have := HJ39.out; have := HJ46.out; have := HK7.out; omega⟩, ⟨by (with_reducible repeat (first | apply Kd.R_alloc | apply Kd.R_drewN | apply Kd.R_drew)); exact Kd.R_mono HO_4.out (fun _ hk => trivial)⟩, ⟨by repeat (first | (with_reducible first | exact HB.out | apply below_alloc | apply pw_below_drewN | apply below_drew1 | refine below_set ?_ GE215.out) | exact HB.out)⟩⟩
                                    subst c87
                                    have H1 : (if x4_2.length < 4398046511104 then (wayfarerlaw08_decode.l0 k7 l0 (x4_2 ++ [(⟨(⟨x216000_7, (wrap64 (rd X_ 0))⟩ : S29), x5_39, (⟨((rd X_ 1 % 4294967296 * 16777216 + rd X_ 2 % 4294967296 * 65536 + rd X_ 3 % 4294967296 * 256 + rd X_ 4) % 4294967296), (IntKind.u16.wrap ((IntKind.u16.wrap ((IntKind.u16.wrap (rd X_ 5)) * 256)) + (IntKind.u16.wrap (rd X_ 6))))⟩ : S39)⟩ : S62)]) x5_39 (wrap64 (x6_2 + (wrap64 (2 + (X_.length : Int)))))) else (none)) = some (r1, r2) := by rw [if_pos rfl] at H; exact H
                                    clear H
                                    have H := H1
                                    clear H1
                                    by_cases c88 : x4_2.length < 4398046511104
                                    case neg =>
                                      rw [if_neg c88] at H; exact absurd H (by simp)
                                    rw [if_pos c88] at H; have LMc88 := Aside0.mk c88
                                    clear c88
                                    obtain ⟨y223, hy223⟩ : ∃ y_ : List (S62), y_ = (x4_2 ++ [(⟨(⟨x216000_7, (wrap64 (rd X_ 0))⟩ : S29), x5_39, (⟨((rd X_ 1 % 4294967296 * 16777216 + rd X_ 2 % 4294967296 * 65536 + rd X_ 3 % 4294967296 * 256 + rd X_ 4) % 4294967296), (IntKind.u16.wrap ((IntKind.u16.wrap ((IntKind.u16.wrap (rd X_ 5)) * 256)) + (IntKind.u16.wrap (rd X_ 6))))⟩ : S39)⟩ : S62)]) := ⟨_, rfl⟩
                                    replace H : (wayfarerlaw08_decode.l0 k7 l0 y223 x5_39 (wrap64 (x6_2 + (wrap64 (2 + (X_.length : Int)))))) = some (r1, r2) := by first | (rw [hy223]; with_reducible exact H) | (have H2_ := (Option.bind_some _ _).symm.trans H; rw [hy223]; with_reducible exact H2_) | (have H2_ := (Option.bind_some _ _).symm.trans H; with_reducible exact H2_) | with_reducible exact H | (rw [hy223]; exact H) | exact H
                                    have Ny223 := Aside0.mk hy223
                                    clear hy223
                                    have H' := Aside0.mk H
                                    clear H
                                    have hcz89_0 : wr.cell? ⟨gb215, 0, none⟩ = some (.int .u32 x216000_7) := (blk_cell BK215.out 0).trans rfl
                                    have hcz89_1 : wr.cell? ⟨gb215, 1, none⟩ = some (.int .i64 (wrap64 (rd X_ 0))) := (blk_cell BK215.out 1).trans rfl
                                    have hcz89_2 : wr.cell? ⟨gb215, 2, none⟩ = some (.int .u32 x5_39) := (blk_cell BK215.out 2).trans rfl
                                    have hcz89_3 : wr.cell? ⟨gb215, 3, none⟩ = some (.int .u32 ((rd X_ 1 % 4294967296 * 16777216 + rd X_ 2 % 4294967296 * 65536 + rd X_ 3 % 4294967296 * 256 + rd X_ 4) % 4294967296)) := (blk_cell BK215.out 3).trans rfl
                                    have hcz89_4 : wr.cell? ⟨gb215, 4, none⟩ = some (.int .u16 (IntKind.u16.wrap ((IntKind.u16.wrap ((IntKind.u16.wrap (rd X_ 5)) * 256)) + (IntKind.u16.wrap (rd X_ 6))))) := (blk_cell BK215.out 4).trans rfl
                                    have hfz89_0 := blk_frozen BK215.out 0
                                    have hfz89_1 := blk_frozen BK215.out 1
                                    have hfz89_2 := blk_frozen BK215.out 2
                                    have hfz89_3 := blk_frozen BK215.out 3
                                    have hfz89_4 := blk_frozen BK215.out 4
                                    go_wp2_with (first | ((with_reducible refine gate_callee (f := 36) rfl ?_); refine goesL_ (some 223) rfl rfl Try.func36 (by kernel_rfl) rfl #[.agg #[.int .u32 x216000_7, .int .i64 (wrap64 (rd X_ 0)), .int .u32 x5_39, .int .u32 ((rd X_ 1 % 4294967296 * 16777216 + rd X_ 2 % 4294967296 * 65536 + rd X_ 3 % 4294967296 * 256 + rd X_ 4) % 4294967296), .int .u16 (IntKind.u16.wrap ((IntKind.u16.wrap ((IntKind.u16.wrap (rd X_ 5)) * 256)) + (IntKind.u16.wrap (rd X_ 6))))]] rfl (by (try simp only [List.map_toArray, List.map_cons, List.map_nil]); first | done | (simp only [hji28, hji31]; rfl) | rfl | (simp only [List.length_drop, List.length_take]; rfl)) ?_; (with_reducible refine (wayfarerlaw08_Right.calls k7 x216000_7 (wrap64 (rd X_ 0)) x5_39 ((rd X_ 1 % 4294967296 * 16777216 + rd X_ 2 % 4294967296 * 65536 + rd X_ 3 % 4294967296 * 256 + rd X_ 4) % 4294967296) (IntKind.u16.wrap ((IntKind.u16.wrap ((IntKind.u16.wrap (rd X_ 5)) * 256)) + (IntKind.u16.wrap (rd X_ 6)))) true _ A86.out).mono ?_); rintro e w90 ⟨rfl, hb⟩; refine ⟨_, rfl, ?_⟩; have n0_ := Aside0.mk (Kd.R_below (by (with_reducible repeat (first | apply Kd.R_alloc | apply Kd.R_drewN | apply Kd.R_drew)); exact HO_4.out) hb); have n1_ := Aside0.mk (blk_below (g := gb215) (o := .cells #[.int .u32 x216000_7, .int .i64 (wrap64 (rd X_ 0)), .int .u32 x5_39, .int .u32 ((rd X_ 1 % 4294967296 * 16777216 + rd X_ 2 % 4294967296 * 65536 + rd X_ 3 % 4294967296 * 256 + rd X_ 4) % 4294967296), .int .u16 (IntKind.u16.wrap ((IntKind.u16.wrap ((IntKind.u16.wrap (rd X_ 5)) * 256)) + (IntKind.u16.wrap (rd X_ 6))))] 62 (0, 0)) (by (with_reducible repeat (first | refine blk_drewN ?_ _ | refine blk_drew ?_ | refine blk_alloc ?_ _)); exact BK215.out) hb); have n2_ := Aside0.mk (below_step (by repeat (first | (with_reducible first | exact HB.out | apply below_alloc | apply pw_below_drewN | apply below_drew1 | refine below_set ?_ GE215.out) | exact HB.out)) hb); clear HO_4; clear BK215; clear HB; have HO_4 := n0_; have BK215 := n1_; have HB := n2_; clear n0_ n1_ n2_; (try clear hb); (try clear hb2); (try clear hk); (try clear hi); have hcz91_0 : w90.cell? ⟨gb215, 0, none⟩ = some (.int .u32 x216000_7) := (blk_cell BK215.out 0).trans rfl; have hcz91_1 : w90.cell? ⟨gb215, 1, none⟩ = some (.int .i64 (wrap64 (rd X_ 0))) := (blk_cell BK215.out 1).trans rfl; have hcz91_2 : w90.cell? ⟨gb215, 2, none⟩ = some (.int .u32 x5_39) := (blk_cell BK215.out 2).trans rfl; have hcz91_3 : w90.cell? ⟨gb215, 3, none⟩ = some (.int .u32 ((rd X_ 1 % 4294967296 * 16777216 + rd X_ 2 % 4294967296 * 65536 + rd X_ 3 % 4294967296 * 256 + rd X_ 4) % 4294967296)) := (blk_cell BK215.out 3).trans rfl; have hcz91_4 : w90.cell? ⟨gb215, 4, none⟩ = some (.int .u16 (IntKind.u16.wrap ((IntKind.u16.wrap ((IntKind.u16.wrap (rd X_ 5)) * 256)) + (IntKind.u16.wrap (rd X_ 6))))) := (blk_cell BK215.out 4).trans rfl; have hfz91_0 := blk_frozen BK215.out 0; have hfz91_1 := blk_frozen BK215.out 1; have hfz91_2 := blk_frozen BK215.out 2; have hfz91_3 := blk_frozen BK215.out 3; have hfz91_4 := blk_frozen BK215.out 4) | ((with_reducible refine gate_builtin (b := .append) (xs := #[.tmp 224, .tmp 226]) rfl ?_); (try (refine gate_guard (by rfl) ?_; dsimp only)); at_builtin; refine Kd.R_append k62 (w0 := w) w.heap.size rfl (.tmp 224) (.tmp 226) 60 62 (.agg #[(.int .u32 0), (.int .i64 0), (.int .u32 0), (.int .u32 0), (.int .u16 0)]) 32 rfl Try.underlying60 info62 rfl (by decide) (by omega) u4 x4_2 (⟨(⟨x216000_7, (wrap64 (rd X_ 0))⟩ : S29), x5_39, (⟨((rd X_ 1 % 4294967296 * 16777216 + rd X_ 2 % 4294967296 * 65536 + rd X_ 3 % 4294967296 * 256 + rd X_ 4) % 4294967296), (IntKind.u16.wrap ((IntKind.u16.wrap ((IntKind.u16.wrap (rd X_ 5)) * 256)) + (IntKind.u16.wrap (rd X_ 6))))⟩ : S39)⟩ : S62) [.int .u32 x216000_7, .int .i64 (wrap64 (rd X_ 0)), .int .u32 x5_39, .int .u32 ((rd X_ 1 % 4294967296 * 16777216 + rd X_ 2 % 4294967296 * 65536 + rd X_ 3 % 4294967296 * 256 + rd X_ 4) % 4294967296), .int .u16 (IntKind.u16.wrap ((IntKind.u16.wrap ((IntKind.u16.wrap (rd X_ 5)) * 256)) + (IntKind.u16.wrap (rd X_ 6))))] (fun k_ => k_ ≠ gb215) (fun _ => False) rfl rfl ?aP (fun _ hk => hk.elim) ?aF ?aO ?aB ?aS ?aL ?_; (case aP => exact k62_mkM _ _ _ (⟨(⟨x216000_7, (wrap64 (rd X_ 0))⟩ : S29), x5_39, (⟨((rd X_ 1 % 4294967296 * 16777216 + rd X_ 2 % 4294967296 * 65536 + rd X_ 3 % 4294967296 * 256 + rd X_ 4) % 4294967296), (IntKind.u16.wrap ((IntKind.u16.wrap ((IntKind.u16.wrap (rd X_ 5)) * 256)) + (IntKind.u16.wrap (rd X_ 6))))⟩ : S39)⟩ : S62)); (case aB => exact (by repeat (first | (with_reducible first | exact HB.out | apply below_alloc | apply pw_below_drewN | apply below_drew1 | refine below_set ?_ GE215.out) | exact HB.out))); (case aF => exact (fun k_ hk => Kd.freshB (g := gb215) (o := .cells #[.int .u32 x216000_7, .int .i64 (wrap64 (rd X_ 0)), .int .u32 x5_39, .int .u32 ((rd X_ 1 % 4294967296 * 16777216 + rd X_ 2 % 4294967296 * 65536 + rd X_ 3 % 4294967296 * 256 + rd X_ 4) % 4294967296), .int .u16 (IntKind.u16.wrap ((IntKind.u16.wrap ((IntKind.u16.wrap (rd X_ 5)) * 256)) + (IntKind.u16.wrap (rd X_ 6))))] 62 (0, 0)) (by (with_reducible repeat (first | refine blk_drewN ?_ _ | refine blk_drew ?_ | refine blk_alloc ?_ _)); exact BK215.out) k_ hk)); (case aO => exact (by (with_reducible repeat (first | apply Kd.R_alloc | apply Kd.R_drewN | apply Kd.R_drew)); exact HO_4.out)); (case aS => exact (below_size (by repeat (first | (with_reducible first | exact HB.out | apply below_alloc | apply pw_below_drewN | apply below_drew1 | refine below_set ?_ GE215.out) | exact HB.out)))); (case aL => have := LMc88.out; omega); intro v224 w92 ho hb hg hat; rw [← Ny223.out] at ho; have n0_ := Aside0.mk (blk_grown (g := gb215) (o := .cells #[.int .u32 x216000_7, .int .i64 (wrap64 (rd X_ 0)), .int .u32 x5_39, .int .u32 ((rd X_ 1 % 4294967296 * 16777216 + rd X_ 2 % 4294967296 * 65536 + rd X_ 3 % 4294967296 * 256 + rd X_ 4) % 4294967296), .int .u16 (IntKind.u16.wrap ((IntKind.u16.wrap ((IntKind.u16.wrap (rd X_ 5)) * 256)) + (IntKind.u16.wrap (rd X_ 6))))] 62 (0, 0)) (by (with_reducible repeat (first | refine blk_drewN ?_ _ | refine blk_drew ?_ | refine blk_alloc ?_ _)); exact BK215.out) hg (Kd.R_away HO_4.out (fun _ hk => hk))); have n1_ := Aside0.mk (hb); have n2_ := Aside0.mk (ho); clear BK215; clear HB; clear HO_4; have BK215 := n0_; have HB := n1_; have HO225 := n2_; clear n0_ n1_ n2_; clear ho hb hg hat))
                                    go_roundg k7
                                    case measure => have := HJ1.out; have := HK2.out; have := HJ21.out; have := HJ36.out; have := HJ39.out; have := HJ46.out; have := HK7.out; omega
                                    case rel => exact ⟨(y223), (x5_39), ((wrap64 (x6_2 + (wrap64 (2 + (X_.length : Int)))))), (by first | rfl | (simp; done) | (simp [*]; done)), (by first | rfl | (simp; done) | (simp only [← hji28, ← hji31] <;> (first | rfl | simp)) | (simp [*]; done)), H', ⟨by have := HJ1.out; have := HK2.out; have := HJ21.out; have := HJ36.out; have := HJ39.out; have := HJ46.out; have := HK7.out; omega⟩, ⟨by (with_reducible repeat (first | apply Kd.R_alloc | apply Kd.R_drewN | apply Kd.R_drew)); exact Kd.R_mono HO225.out (fun _ hk => trivial)⟩, ⟨by repeat (first | (with_reducible first | exact HB.out | apply below_alloc | apply pw_below_drewN | apply below_drew1 | refine below_set ?_ GE215.out) | exact HB.out)⟩⟩
                                  rw [if_pos c76] at H; have c76b0 : ((IntKind.u16.wrap ((IntKind.u16.wrap ((IntKind.u16.wrap (rd X_ 5)) * 256)) + (IntKind.u16.wrap (rd X_ 6)))) == 65535) = true := beq_iff_eq.mpr c76
                                  have c76b1 : ((IntKind.u16.wrap ((IntKind.u16.wrap ((IntKind.u16.wrap (rd X_ 5)) * 256)) + (IntKind.u16.wrap (rd X_ 6)))) != 65535) = false := bne_eq_false_iff_eq.mpr c76
                                  clear c76
                                  replace H := Option.bind_eq_some_iff.mp H
                                  obtain ⟨t218, A770, H⟩ := H
                                  replace H : (if t218 = true then (if x4_2.length < 4398046511104 then (wayfarerlaw08_decode.l0 k7 l0 (x4_2 ++ [(⟨(⟨x216000_7, (wrap64 (rd X_ 0))⟩ : S29), 0, (⟨((rd X_ 1 % 4294967296 * 16777216 + rd X_ 2 % 4294967296 * 65536 + rd X_ 3 % 4294967296 * 256 + rd X_ 4) % 4294967296), (IntKind.u16.wrap ((IntKind.u16.wrap ((IntKind.u16.wrap (rd X_ 5)) * 256)) + (IntKind.u16.wrap (rd X_ 6))))⟩ : S39)⟩ : S62)]) x5_39 (wrap64 (x6_2 + (wrap64 (2 + (X_.length : Int)))))) else (none)) else (wayfarerlaw08_decode.l0 k7 l0 x4_2 x5_39 (wrap64 (x6_2 + (wrap64 (2 + (X_.length : Int))))))) = some (r1, r2) := H
                                  have A77 := Aside0.mk A770
                                  clear A770
                                  by_cases c78 : t218 = true
                                  case neg =>
                                    replace c78 := Bool.eq_false_iff.mpr c78
                                    subst c78
                                    have H1 : (wayfarerlaw08_decode.l0 k7 l0 x4_2 x5_39 (wrap64 (x6_2 + (wrap64 (2 + (X_.length : Int)))))) = some (r1, r2) := by rw [if_neg (show ¬ (false = true) by decide)] at H; exact H
                                    clear H
                                    have H := H1
                                    clear H1
                                    have H' := Aside0.mk H
                                    clear H
                                    have hcz84_0 : wr.cell? ⟨gb215, 0, none⟩ = some (.int .u32 x216000_7) := (blk_cell BK215.out 0).trans rfl
                                    have hcz84_1 : wr.cell? ⟨gb215, 1, none⟩ = some (.int .i64 (wrap64 (rd X_ 0))) := (blk_cell BK215.out 1).trans rfl
                                    have hcz84_2 : wr.cell? ⟨gb215, 2, none⟩ = some (.int .u32 x5_39) := (blk_cell BK215.out 2).trans rfl
                                    have hcz84_3 : wr.cell? ⟨gb215, 3, none⟩ = some (.int .u32 ((rd X_ 1 % 4294967296 * 16777216 + rd X_ 2 % 4294967296 * 65536 + rd X_ 3 % 4294967296 * 256 + rd X_ 4) % 4294967296)) := (blk_cell BK215.out 3).trans rfl
                                    have hcz84_4 : wr.cell? ⟨gb215, 4, none⟩ = some (.int .u16 (IntKind.u16.wrap ((IntKind.u16.wrap ((IntKind.u16.wrap (rd X_ 5)) * 256)) + (IntKind.u16.wrap (rd X_ 6))))) := (blk_cell BK215.out 4).trans rfl
                                    have hfz84_0 := blk_frozen BK215.out 0
                                    have hfz84_1 := blk_frozen BK215.out 1
                                    have hfz84_2 := blk_frozen BK215.out 2
                                    have hfz84_3 := blk_frozen BK215.out 3
                                    have hfz84_4 := blk_frozen BK215.out 4
                                    go_wp2_with (first | ((with_reducible refine gate_callee (f := 36) rfl ?_); refine goesL_ (some 223) rfl rfl Try.func36 (by kernel_rfl) rfl #[.agg #[.int .u32 x216000_7, .int .i64 (wrap64 (rd X_ 0)), .int .u32 0, .int .u32 ((rd X_ 1 % 4294967296 * 16777216 + rd X_ 2 % 4294967296 * 65536 + rd X_ 3 % 4294967296 * 256 + rd X_ 4) % 4294967296), .int .u16 (IntKind.u16.wrap ((IntKind.u16.wrap ((IntKind.u16.wrap (rd X_ 5)) * 256)) + (IntKind.u16.wrap (rd X_ 6))))]] rfl (by (try simp only [List.map_toArray, List.map_cons, List.map_nil]); first | done | (simp only [hji28, hji31]; rfl) | rfl | (simp only [List.length_drop, List.length_take]; rfl)) ?_; (with_reducible refine (wayfarerlaw08_Right.calls k7 x216000_7 (wrap64 (rd X_ 0)) 0 ((rd X_ 1 % 4294967296 * 16777216 + rd X_ 2 % 4294967296 * 65536 + rd X_ 3 % 4294967296 * 256 + rd X_ 4) % 4294967296) (IntKind.u16.wrap ((IntKind.u16.wrap ((IntKind.u16.wrap (rd X_ 5)) * 256)) + (IntKind.u16.wrap (rd X_ 6)))) false _ A77.out).mono ?_); rintro e w85 ⟨rfl, hb⟩; refine ⟨_, rfl, ?_⟩; have n0_ := Aside0.mk (Kd.R_below (by (with_reducible repeat (first | apply Kd.R_alloc | apply Kd.R_drewN | apply Kd.R_drew)); exact (Kd.R_mono (Kd.R_far (p := ⟨gb215, 2, none⟩) (Kd.R_mono HO_4.out (fun k_ hk => (⟨hk, hk⟩ : _ ∧ k_ ≠ gb215))) (fun _ hk => hk.2) (.int .u32 0)) (fun _ h_ => h_.1))) hb); have n1_ := Aside0.mk (blk_below (g := gb215) (o := .cells #[.int .u32 x216000_7, .int .i64 (wrap64 (rd X_ 0)), .int .u32 0, .int .u32 ((rd X_ 1 % 4294967296 * 16777216 + rd X_ 2 % 4294967296 * 65536 + rd X_ 3 % 4294967296 * 256 + rd X_ 4) % 4294967296), .int .u16 (IntKind.u16.wrap ((IntKind.u16.wrap ((IntKind.u16.wrap (rd X_ 5)) * 256)) + (IntKind.u16.wrap (rd X_ 6))))] 62 (0, 0)) (by (with_reducible repeat (first | refine blk_drewN ?_ _ | refine blk_drew ?_ | refine blk_alloc ?_ _)); refine blk_put (cs := #[.int .u32 x216000_7, .int .i64 (wrap64 (rd X_ 0)), .int .u32 x5_39, .int .u32 ((rd X_ 1 % 4294967296 * 16777216 + rd X_ 2 % 4294967296 * 65536 + rd X_ 3 % 4294967296 * 256 + rd X_ 4) % 4294967296), .int .u16 (IntKind.u16.wrap ((IntKind.u16.wrap ((IntKind.u16.wrap (rd X_ 5)) * 256)) + (IntKind.u16.wrap (rd X_ 6))))]) ?_ 2 _ rfl; (with_reducible repeat (first | refine blk_drewN ?_ _ | refine blk_drew ?_ | refine blk_alloc ?_ _)); exact BK215.out) hb); have n2_ := Aside0.mk (below_step (by repeat (first | (with_reducible first | exact HB.out | apply below_alloc | apply pw_below_drewN | apply below_drew1 | refine below_set ?_ GE215.out) | exact HB.out)) hb); clear HO_4; clear BK215; clear HB; have HO_4 := n0_; have BK215 := n1_; have HB := n2_; clear n0_ n1_ n2_; (try clear hb); (try clear hb2); (try clear hk); (try clear hi)))
                                    go_roundg k7
                                    case measure => have := HJ1.out; have := HK2.out; have := HJ21.out; have := HJ36.out; have := HJ39.out; have := HJ46.out; have := HK7.out; omega
                                    case rel => exact ⟨(x4_2), (x5_39), ((wrap64 (x6_2 + (wrap64 (2 + (X_.length : Int)))))), (by first | rfl | (simp; done) | (simp [*]; done)), (by first | rfl | (simp; done) | (simp only [← hji28, ← hji31] <;> (first | rfl | simp)) | (simp [*]; done)), H', ⟨by have := HJ1.out; have := HK2.out; have := HJ21.out; have := HJ36.out; have := HJ39.out; have := HJ46.out; have := HK7.out; omega⟩, ⟨by (with_reducible repeat (first | apply Kd.R_alloc | apply Kd.R_drewN | apply Kd.R_drew)); exact Kd.R_mono HO_4.out (fun _ hk => trivial)⟩, ⟨by repeat (first | (with_reducible first | exact HB.out | apply below_alloc | apply pw_below_drewN | apply below_drew1 | refine below_set ?_ GE215.out) | exact HB.out)⟩⟩
                                  subst c78
                                  have H1 : (if x4_2.length < 4398046511104 then (wayfarerlaw08_decode.l0 k7 l0 (x4_2 ++ [(⟨(⟨x216000_7, (wrap64 (rd X_ 0))⟩ : S29), 0, (⟨((rd X_ 1 % 4294967296 * 16777216 + rd X_ 2 % 4294967296 * 65536 + rd X_ 3 % 4294967296 * 256 + rd X_ 4) % 4294967296), (IntKind.u16.wrap ((IntKind.u16.wrap ((IntKind.u16.wrap (rd X_ 5)) * 256)) + (IntKind.u16.wrap (rd X_ 6))))⟩ : S39)⟩ : S62)]) x5_39 (wrap64 (x6_2 + (wrap64 (2 + (X_.length : Int)))))) else (none)) = some (r1, r2) := by rw [if_pos rfl] at H; exact H
                                  clear H
                                  have H := H1
                                  clear H1
                                  by_cases c79 : x4_2.length < 4398046511104
                                  case neg =>
                                    rw [if_neg c79] at H; exact absurd H (by simp)
                                  rw [if_pos c79] at H; have LMc79 := Aside0.mk c79
                                  clear c79
                                  obtain ⟨y219, hy219⟩ : ∃ y_ : List (S62), y_ = (x4_2 ++ [(⟨(⟨x216000_7, (wrap64 (rd X_ 0))⟩ : S29), 0, (⟨((rd X_ 1 % 4294967296 * 16777216 + rd X_ 2 % 4294967296 * 65536 + rd X_ 3 % 4294967296 * 256 + rd X_ 4) % 4294967296), (IntKind.u16.wrap ((IntKind.u16.wrap ((IntKind.u16.wrap (rd X_ 5)) * 256)) + (IntKind.u16.wrap (rd X_ 6))))⟩ : S39)⟩ : S62)]) := ⟨_, rfl⟩
                                  replace H : (wayfarerlaw08_decode.l0 k7 l0 y219 x5_39 (wrap64 (x6_2 + (wrap64 (2 + (X_.length : Int)))))) = some (r1, r2) := by first | (rw [hy219]; with_reducible exact H) | (have H2_ := (Option.bind_some _ _).symm.trans H; rw [hy219]; with_reducible exact H2_) | (have H2_ := (Option.bind_some _ _).symm.trans H; with_reducible exact H2_) | with_reducible exact H | (rw [hy219]; exact H) | exact H
                                  have Ny219 := Aside0.mk hy219
                                  clear hy219
                                  have H' := Aside0.mk H
                                  clear H
                                  have hcz80_0 : wr.cell? ⟨gb215, 0, none⟩ = some (.int .u32 x216000_7) := (blk_cell BK215.out 0).trans rfl
                                  have hcz80_1 : wr.cell? ⟨gb215, 1, none⟩ = some (.int .i64 (wrap64 (rd X_ 0))) := (blk_cell BK215.out 1).trans rfl
                                  have hcz80_2 : wr.cell? ⟨gb215, 2, none⟩ = some (.int .u32 x5_39) := (blk_cell BK215.out 2).trans rfl
                                  have hcz80_3 : wr.cell? ⟨gb215, 3, none⟩ = some (.int .u32 ((rd X_ 1 % 4294967296 * 16777216 + rd X_ 2 % 4294967296 * 65536 + rd X_ 3 % 4294967296 * 256 + rd X_ 4) % 4294967296)) := (blk_cell BK215.out 3).trans rfl
                                  have hcz80_4 : wr.cell? ⟨gb215, 4, none⟩ = some (.int .u16 (IntKind.u16.wrap ((IntKind.u16.wrap ((IntKind.u16.wrap (rd X_ 5)) * 256)) + (IntKind.u16.wrap (rd X_ 6))))) := (blk_cell BK215.out 4).trans rfl
                                  have hfz80_0 := blk_frozen BK215.out 0
                                  have hfz80_1 := blk_frozen BK215.out 1
                                  have hfz80_2 := blk_frozen BK215.out 2
                                  have hfz80_3 := blk_frozen BK215.out 3
                                  have hfz80_4 := blk_frozen BK215.out 4
                                  go_wp2_with (first | ((with_reducible refine gate_callee (f := 36) rfl ?_); refine goesL_ (some 223) rfl rfl Try.func36 (by kernel_rfl) rfl #[.agg #[.int .u32 x216000_7, .int .i64 (wrap64 (rd X_ 0)), .int .u32 0, .int .u32 ((rd X_ 1 % 4294967296 * 16777216 + rd X_ 2 % 4294967296 * 65536 + rd X_ 3 % 4294967296 * 256 + rd X_ 4) % 4294967296), .int .u16 (IntKind.u16.wrap ((IntKind.u16.wrap ((IntKind.u16.wrap (rd X_ 5)) * 256)) + (IntKind.u16.wrap (rd X_ 6))))]] rfl (by (try simp only [List.map_toArray, List.map_cons, List.map_nil]); first | done | (simp only [hji28, hji31]; rfl) | rfl | (simp only [List.length_drop, List.length_take]; rfl)) ?_; (with_reducible refine (wayfarerlaw08_Right.calls k7 x216000_7 (wrap64 (rd X_ 0)) 0 ((rd X_ 1 % 4294967296 * 16777216 + rd X_ 2 % 4294967296 * 65536 + rd X_ 3 % 4294967296 * 256 + rd X_ 4) % 4294967296) (IntKind.u16.wrap ((IntKind.u16.wrap ((IntKind.u16.wrap (rd X_ 5)) * 256)) + (IntKind.u16.wrap (rd X_ 6)))) true _ A77.out).mono ?_); rintro e w81 ⟨rfl, hb⟩; refine ⟨_, rfl, ?_⟩; have n0_ := Aside0.mk (Kd.R_below (by (with_reducible repeat (first | apply Kd.R_alloc | apply Kd.R_drewN | apply Kd.R_drew)); exact (Kd.R_mono (Kd.R_far (p := ⟨gb215, 2, none⟩) (Kd.R_mono HO_4.out (fun k_ hk => (⟨hk, hk⟩ : _ ∧ k_ ≠ gb215))) (fun _ hk => hk.2) (.int .u32 0)) (fun _ h_ => h_.1))) hb); have n1_ := Aside0.mk (blk_below (g := gb215) (o := .cells #[.int .u32 x216000_7, .int .i64 (wrap64 (rd X_ 0)), .int .u32 0, .int .u32 ((rd X_ 1 % 4294967296 * 16777216 + rd X_ 2 % 4294967296 * 65536 + rd X_ 3 % 4294967296 * 256 + rd X_ 4) % 4294967296), .int .u16 (IntKind.u16.wrap ((IntKind.u16.wrap ((IntKind.u16.wrap (rd X_ 5)) * 256)) + (IntKind.u16.wrap (rd X_ 6))))] 62 (0, 0)) (by (with_reducible repeat (first | refine blk_drewN ?_ _ | refine blk_drew ?_ | refine blk_alloc ?_ _)); refine blk_put (cs := #[.int .u32 x216000_7, .int .i64 (wrap64 (rd X_ 0)), .int .u32 x5_39, .int .u32 ((rd X_ 1 % 4294967296 * 16777216 + rd X_ 2 % 4294967296 * 65536 + rd X_ 3 % 4294967296 * 256 + rd X_ 4) % 4294967296), .int .u16 (IntKind.u16.wrap ((IntKind.u16.wrap ((IntKind.u16.wrap (rd X_ 5)) * 256)) + (IntKind.u16.wrap (rd X_ 6))))]) ?_ 2 _ rfl; (with_reducible repeat (first | refine blk_drewN ?_ _ | refine blk_drew ?_ | refine blk_alloc ?_ _)); exact BK215.out) hb); have n2_ := Aside0.mk (below_step (by repeat (first | (with_reducible first | exact HB.out | apply below_alloc | apply pw_below_drewN | apply below_drew1 | refine below_set ?_ GE215.out) | exact HB.out)) hb); clear HO_4; clear BK215; clear HB; have HO_4 := n0_; have BK215 := n1_; have HB := n2_; clear n0_ n1_ n2_; (try clear hb); (try clear hb2); (try clear hk); (try clear hi); have hcz82_0 : w81.cell? ⟨gb215, 0, none⟩ = some (.int .u32 x216000_7) := (blk_cell BK215.out 0).trans rfl; have hcz82_1 : w81.cell? ⟨gb215, 1, none⟩ = some (.int .i64 (wrap64 (rd X_ 0))) := (blk_cell BK215.out 1).trans rfl; have hcz82_2 : w81.cell? ⟨gb215, 2, none⟩ = some (.int .u32 0) := (blk_cell BK215.out 2).trans rfl; have hcz82_3 : w81.cell? ⟨gb215, 3, none⟩ = some (.int .u32 ((rd X_ 1 % 4294967296 * 16777216 + rd X_ 2 % 4294967296 * 65536 + rd X_ 3 % 4294967296 * 256 + rd X_ 4) % 4294967296)) := (blk_cell BK215.out 3).trans rfl; have hcz82_4 : w81.cell? ⟨gb215, 4, none⟩ = some (.int .u16 (IntKind.u16.wrap ((IntKind.u16.wrap ((IntKind.u16.wrap (rd X_ 5)) * 256)) + (IntKind.u16.wrap (rd X_ 6))))) := (blk_cell BK215.out 4).trans rfl; have hfz82_0 := blk_frozen BK215.out 0; have hfz82_1 := blk_frozen BK215.out 1; have hfz82_2 := blk_frozen BK215.out 2; have hfz82_3 := blk_frozen BK215.out 3; have hfz82_4 := blk_frozen BK215.out 4) | ((with_reducible refine gate_builtin (b := .append) (xs := #[.tmp 224, .tmp 226]) rfl ?_); (try (refine gate_guard (by rfl) ?_; dsimp only)); at_builtin; refine Kd.R_append k62 (w0 := w) w.heap.size rfl (.tmp 224) (.tmp 226) 60 62 (.agg #[(.int .u32 0), (.int .i64 0), (.int .u32 0), (.int .u32 0), (.int .u16 0)]) 32 rfl Try.underlying60 info62 rfl (by decide) (by omega) u4 x4_2 (⟨(⟨x216000_7, (wrap64 (rd X_ 0))⟩ : S29), 0, (⟨((rd X_ 1 % 4294967296 * 16777216 + rd X_ 2 % 4294967296 * 65536 + rd X_ 3 % 4294967296 * 256 + rd X_ 4) % 4294967296), (IntKind.u16.wrap ((IntKind.u16.wrap ((IntKind.u16.wrap (rd X_ 5)) * 256)) + (IntKind.u16.wrap (rd X_ 6))))⟩ : S39)⟩ : S62) [.int .u32 x216000_7, .int .i64 (wrap64 (rd X_ 0)), .int .u32 0, .int .u32 ((rd X_ 1 % 4294967296 * 16777216 + rd X_ 2 % 4294967296 * 65536 + rd X_ 3 % 4294967296 * 256 + rd X_ 4) % 4294967296), .int .u16 (IntKind.u16.wrap ((IntKind.u16.wrap ((IntKind.u16.wrap (rd X_ 5)) * 256)) + (IntKind.u16.wrap (rd X_ 6))))] (fun k_ => k_ ≠ gb215) (fun _ => False) rfl rfl ?aP (fun _ hk => hk.elim) ?aF ?aO ?aB ?aS ?aL ?_; (case aP => exact k62_mkM _ _ _ (⟨(⟨x216000_7, (wrap64 (rd X_ 0))⟩ : S29), 0, (⟨((rd X_ 1 % 4294967296 * 16777216 + rd X_ 2 % 4294967296 * 65536 + rd X_ 3 % 4294967296 * 256 + rd X_ 4) % 4294967296), (IntKind.u16.wrap ((IntKind.u16.wrap ((IntKind.u16.wrap (rd X_ 5)) * 256)) + (IntKind.u16.wrap (rd X_ 6))))⟩ : S39)⟩ : S62)); (case aB => exact (by repeat (first | (with_reducible first | exact HB.out | apply below_alloc | apply pw_below_drewN | apply below_drew1 | refine below_set ?_ GE215.out) | exact HB.out))); (case aF => exact (fun k_ hk => Kd.freshB (g := gb215) (o := .cells #[.int .u32 x216000_7, .int .i64 (wrap64 (rd X_ 0)), .int .u32 0, .int .u32 ((rd X_ 1 % 4294967296 * 16777216 + rd X_ 2 % 4294967296 * 65536 + rd X_ 3 % 4294967296 * 256 + rd X_ 4) % 4294967296), .int .u16 (IntKind.u16.wrap ((IntKind.u16.wrap ((IntKind.u16.wrap (rd X_ 5)) * 256)) + (IntKind.u16.wrap (rd X_ 6))))] 62 (0, 0)) (by (with_reducible repeat (first | refine blk_drewN ?_ _ | refine blk_drew ?_ | refine blk_alloc ?_ _)); exact BK215.out) k_ hk)); (case aO => exact (by (with_reducible repeat (first | apply Kd.R_alloc | apply Kd.R_drewN | apply Kd.R_drew)); exact HO_4.out)); (case aS => exact (below_size (by repeat (first | (with_reducible first | exact HB.out | apply below_alloc | apply pw_below_drewN | apply below_drew1 | refine below_set ?_ GE215.out) | exact HB.out)))); (case aL => have := LMc79.out; omega); intro v220 w83 ho hb hg hat; rw [← Ny219.out] at ho; have n0_ := Aside0.mk (blk_grown (g := gb215) (o := .cells #[.int .u32 x216000_7, .int .i64 (wrap64 (rd X_ 0)), .int .u32 0, .int .u32 ((rd X_ 1 % 4294967296 * 16777216 + rd X_ 2 % 4294967296 * 65536 + rd X_ 3 % 4294967296 * 256 + rd X_ 4) % 4294967296), .int .u16 (IntKind.u16.wrap ((IntKind.u16.wrap ((IntKind.u16.wrap (rd X_ 5)) * 256)) + (IntKind.u16.wrap (rd X_ 6))))] 62 (0, 0)) (by (with_reducible repeat (first | refine blk_drewN ?_ _ | refine blk_drew ?_ | refine blk_alloc ?_ _)); exact BK215.out) hg (Kd.R_away HO_4.out (fun _ hk => hk))); have n1_ := Aside0.mk (hb); have n2_ := Aside0.mk (ho); clear BK215; clear HB; clear HO_4; have BK215 := n0_; have HB := n1_; have HO221 := n2_; clear n0_ n1_ n2_; clear ho hb hg hat))
                                  go_roundg k7
                                  case measure => have := HJ1.out; have := HK2.out; have := HJ21.out; have := HJ36.out; have := HJ39.out; have := HJ46.out; have := HK7.out; omega
                                  case rel => exact ⟨(y219), (x5_39), ((wrap64 (x6_2 + (wrap64 (2 + (X_.length : Int)))))), (by first | rfl | (simp; done) | (simp [*]; done)), (by first | rfl | (simp; done) | (simp only [← hji28, ← hji31] <;> (first | rfl | simp)) | (simp [*]; done)), H', ⟨by have := HJ1.out; have := HK2.out; have := HJ21.out; have := HJ36.out; have := HJ39.out; have := HJ46.out; have := HK7.out; omega⟩, ⟨by (with_reducible repeat (first | apply Kd.R_alloc | apply Kd.R_drewN | apply Kd.R_drew)); exact Kd.R_mono HO221.out (fun _ hk => trivial)⟩, ⟨by repeat (first | (with_reducible first | exact HB.out | apply below_alloc | apply pw_below_drewN | apply below_drew1 | refine below_set ?_ GE215.out) | exact HB.out)⟩⟩
end Go.Proofs.YtgmdjhokcipajaaQ.PTlx
