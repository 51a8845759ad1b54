-- written by this session's turned copy of the kit's print.py; Lean checks it
import Derived.Test.YtgmdjhokcipajaaPTlx0
import Derived.Test.YtgmdjhokcipajaaPTlx4
import Derived.Test.YtgmdjhokcipajaaPTlx6
import Derived.Test.YtgmdjhokcipajaaPTlx7
import Derived.Test.YtgmdjhokcipajaaPTlx8
namespace Go.Proofs.YtgmdjhokcipajaaQ.PTlx
open Go.RowKit Go.Proofs.YtgmdjhokcipajaaW.PrintWords Go.Proofs.YtgmdjhokcipajaaW.PrintLast Go.Proofs.YtgmdjhokcipajaaW.PrintMore
attribute [local go_sem] max2_int min2_int max_two min_two max_three min_three max_four min_four   -- for this text's walks alone
set_option linter.unusedVariables false
set_option linter.unusedSimpArgs false

/-! ### wayfarerlaw08_TlvReads: function 11 -/
mutual
def wayfarerlaw08_TlvReads.j0 : Nat → List (S62) → Bool → Option (Bool)
  | 0, _, _ => none
  | k + 1, x3, x35 => if x35 = true then (some false) else ((tlv_Encode.f k x3).bind fun t239 => (wayfarerlaw08_TlvReads.l0 k x3 (([] : List (S62))) t239 (t239.length : Int) 0))
def wayfarerlaw08_TlvReads.l0 : Nat → List (S62) → List (S62) → List (List Int) → Int → Int → Option (Bool)
  | 0, _, _, _, _, _ => none
  | k + 1, x3, x7, x38, x39, x40 => if x40 < x39 then (if 0 ≤ x40 then (if x40 < (x38.length : Int) then ((tlv_Decode.f k (rd_L9 x38 x40)).bind fun bt243 => (if bt243.2 = true then (if x7.length + bt243.1.length < 4398046511104 then (wayfarerlaw08_TlvReads.l0 k x3 (x7 ++ bt243.1) x38 x39 (wrap64 (x40 + 1))) else (none)) else (some false))) else (none)) else (none)) else ((wayfarerlaw08_Same.f k x7 x3).bind fun t250 => (some t250))
end
def wayfarerlaw08_TlvReads.f (k : Nat) (l0 : List Int) : Option (Bool) := (wayfarerlaw08_head.f).bind fun t226 => (if t226 = true then (if (l0.length : Int) > 1100 then (some true) else ((tlv_Decode.f k l0).bind fun bt227 => ((wayfarerlaw08_decode.f k l0).bind fun bt231 => (if (bt227.2 != bt231.2) = true then (wayfarerlaw08_TlvReads.j0 k bt227.1 true) else ((wayfarerlaw08_Same.f k bt227.1 bt231.1).bind fun t235 => (wayfarerlaw08_TlvReads.j0 k bt227.1 (!t235))))))) else (some false))
theorem wayfarerlaw08_TlvReads.mono_l : ∀ k, (∀ y0 y1, LeO (wayfarerlaw08_TlvReads.j0 k y0 y1) (wayfarerlaw08_TlvReads.j0 (k + 1) y0 y1)) ∧ (∀ y0 y1 y2 y3 y4, LeO (wayfarerlaw08_TlvReads.l0 k y0 y1 y2 y3 y4) (wayfarerlaw08_TlvReads.l0 (k + 1) y0 y1 y2 y3 y4))
  | 0 => ⟨fun _ _ r h => by simp [wayfarerlaw08_TlvReads.j0] at h, fun _ _ _ _ _ r h => by simp [wayfarerlaw08_TlvReads.l0] at h⟩
  | k + 1 => by
    obtain ⟨ih0, ih1⟩ := wayfarerlaw08_TlvReads.mono_l k
    refine ⟨?_, ?_⟩
    · intro y0 y1
      unfold wayfarerlaw08_TlvReads.j0
      repeat' first
      | (with_reducible exact ih0 _ _)
      | (with_reducible exact ih1 _ _ _ _ _)
      | (with_reducible exact tlv_Decode.mono _ _)
      | (with_reducible exact tlv_Encode.mono _ _)
      | (with_reducible exact wayfarerlaw08_Same.mono _ _ _)
      | (with_reducible exact wayfarerlaw08_decode.mono _ _)
      | (with_reducible exact LeO.refl _)
      | (with_reducible exact LeO.none _)
      | (with_reducible refine LeO.ite ?_ ?_)
      | (with_reducible refine LeO.bind ?_ (fun _ => ?_))
      | exact ih0 _ _
      | exact ih1 _ _ _ _ _
      | exact tlv_Decode.mono _ _
      | exact tlv_Encode.mono _ _
      | exact wayfarerlaw08_Same.mono _ _ _
      | exact wayfarerlaw08_decode.mono _ _
      | exact LeO.none _
      | refine LeO.ite ?_ ?_
      | refine LeO.bind ?_ (fun _ => ?_)
    · intro y0 y1 y2 y3 y4
      unfold wayfarerlaw08_TlvReads.l0
      repeat' first
      | (with_reducible exact ih0 _ _)
      | (with_reducible exact ih1 _ _ _ _ _)
      | (with_reducible exact tlv_Decode.mono _ _)
      | (with_reducible exact tlv_Encode.mono _ _)
      | (with_reducible exact wayfarerlaw08_Same.mono _ _ _)
      | (with_reducible exact wayfarerlaw08_decode.mono _ _)
      | (with_reducible exact LeO.refl _)
      | (with_reducible exact LeO.none _)
      | (with_reducible refine LeO.ite ?_ ?_)
      | (with_reducible refine LeO.bind ?_ (fun _ => ?_))
      | exact ih0 _ _
      | exact ih1 _ _ _ _ _
      | exact tlv_Decode.mono _ _
      | exact tlv_Encode.mono _ _
      | exact wayfarerlaw08_Same.mono _ _ _
      | exact wayfarerlaw08_decode.mono _ _
      | exact LeO.none _
      | refine LeO.ite ?_ ?_
      | refine LeO.bind ?_ (fun _ => ?_)
theorem wayfarerlaw08_TlvReads.mono : ∀ a0 k, LeO (wayfarerlaw08_TlvReads.f k a0) (wayfarerlaw08_TlvReads.f (k + 1) a0) := by
  intro a0 k
  obtain ⟨ih0, ih1⟩ := wayfarerlaw08_TlvReads.mono_l k
  unfold wayfarerlaw08_TlvReads.f
  repeat' first
      | (with_reducible exact ih0 _ _)
      | (with_reducible exact ih1 _ _ _ _ _)
      | (with_reducible exact tlv_Decode.mono _ _)
      | (with_reducible exact tlv_Encode.mono _ _)
      | (with_reducible exact wayfarerlaw08_Same.mono _ _ _)
      | (with_reducible exact wayfarerlaw08_decode.mono _ _)
      | (with_reducible exact LeO.refl _)
      | (with_reducible exact LeO.none _)
      | (with_reducible refine LeO.ite ?_ ?_)
      | (with_reducible refine LeO.bind ?_ (fun _ => ?_))
      | exact ih0 _ _
      | exact ih1 _ _ _ _ _
      | exact tlv_Decode.mono _ _
      | exact tlv_Encode.mono _ _
      | exact wayfarerlaw08_Same.mono _ _ _
      | exact wayfarerlaw08_decode.mono _ _
      | exact LeO.none _
      | refine LeO.ite ?_ ?_
      | refine LeO.bind ?_ (fun _ => ?_)
set_option maxHeartbeats 8000000 in
set_option maxRecDepth 100000 in
theorem wayfarerlaw08_TlvReads.calls (k : Nat) (A0 : Option Addr) (c0 : Nat) (l0 : List Int) (r : Bool) (w : World) (hr0 : Kd.C (Kd.int .u8) w A0 l0.length l0) (hc0 : l0.length ≤ c0) (h : wayfarerlaw08_TlvReads.f k l0 = some r) :
    Calls Try.prog 11 #[.slice A0 l0.length c0] w fun e w' => e = .returned (.bool r) ∧ Below w.heap.size w w' := by
  have HR0 := Aside0.mk hr0
  have HC0 := Aside0.mk hc0
  clear hr0 hc0
  have HB := Aside0.mk (Below.refl w.heap.size w)
  have H : ((wayfarerlaw08_head.f).bind fun t226 => (if t226 = true then (if (l0.length : Int) > 1100 then (some true) else ((tlv_Decode.f k l0).bind fun bt227 => ((wayfarerlaw08_decode.f k l0).bind fun bt231 => (if (bt227.2 != bt231.2) = true then (wayfarerlaw08_TlvReads.j0 k bt227.1 true) else ((wayfarerlaw08_Same.f k bt227.1 bt231.1).bind fun t235 => (wayfarerlaw08_TlvReads.j0 k bt227.1 (!t235))))))) else (some false))) = some r := h
  clear h
  replace H := Option.bind_eq_some_iff.mp H
  obtain ⟨t226, A20, H⟩ := H
  replace H : (if t226 = true then (if (l0.length : Int) > 1100 then (some true) else ((tlv_Decode.f k l0).bind fun bt227 => ((wayfarerlaw08_decode.f k l0).bind fun bt231 => (if (bt227.2 != bt231.2) = true then (wayfarerlaw08_TlvReads.j0 k bt227.1 true) else ((wayfarerlaw08_Same.f k bt227.1 bt231.1).bind fun t235 => (wayfarerlaw08_TlvReads.j0 k bt227.1 (!t235))))))) else (some false)) = some r := H
  have A2 := Aside0.mk A20
  clear A20
  by_cases c3 : t226 = true
  case neg =>
    replace c3 := Bool.eq_false_iff.mpr c3
    subst c3
    have H1 : (some false) = some r := by rw [if_neg (show ¬ (false = true) by decide)] at H; exact H
    clear H
    have H := H1
    clear H1
    obtain rfl := Option.some.inj H
    go_enter Try.func11, Try.ntmps11
    go_wp2_with (first | ((with_reducible refine gate_callee (f := 34) rfl ?_); refine goesL_ (some 12) rfl rfl Try.func34 (by kernel_rfl) rfl #[] rfl (by (try simp only [List.map_toArray, List.map_cons, List.map_nil]); first | done | rfl | (simp only [List.length_drop, List.length_take]; rfl)) ?_; (with_reducible refine (wayfarerlaw08_head.calls  false _ A2.out).mono ?_); rintro e w35 ⟨rfl, hb⟩; refine ⟨_, rfl, ?_⟩; have n0_ := Aside0.mk (below_step (by repeat (first | (with_reducible first | exact HB.out | apply below_alloc | apply pw_below_drewN | apply below_drew1) | exact HB.out)) hb); clear HB; have HB := n0_; clear n0_; (try clear hb); (try clear hb2); (try clear hk); (try clear hi)))
    go_ret
    exact ⟨by first | rfl | (simp [errW_none, errW_some] <;> rfl) | (simp [*, errW_none, errW_some] <;> rfl), by repeat (first | (with_reducible first | exact HB.out | apply below_alloc | apply pw_below_drewN | apply below_drew1) | exact HB.out)⟩

  subst c3
  have H1 : (if (l0.length : Int) > 1100 then (some true) else ((tlv_Decode.f k l0).bind fun bt227 => ((wayfarerlaw08_decode.f k l0).bind fun bt231 => (if (bt227.2 != bt231.2) = true then (wayfarerlaw08_TlvReads.j0 k bt227.1 true) else ((wayfarerlaw08_Same.f k bt227.1 bt231.1).bind fun t235 => (wayfarerlaw08_TlvReads.j0 k bt227.1 (!t235))))))) = some r := by rw [if_pos rfl] at H; exact H
  clear H
  have H := H1
  clear H1
  by_cases c4 : (l0.length : Int) > 1100
  case pos =>
    rw [if_pos c4] at H; have c4b0 : decide (1100 < (l0.length : Int)) = true := decide_eq_true c4
    have c4b1 : decide (1100 < l0.length) = true := decide_eq_true (by omega)
    clear c4
    obtain rfl := Option.some.inj H
    go_enter Try.func11, Try.ntmps11
    go_wp2_with (first | ((with_reducible refine gate_callee (f := 34) rfl ?_); refine goesL_ (some 12) rfl rfl Try.func34 (by kernel_rfl) rfl #[] rfl (by (try simp only [List.map_toArray, List.map_cons, List.map_nil]); first | done | rfl | (simp only [List.length_drop, List.length_take]; rfl)) ?_; (with_reducible refine (wayfarerlaw08_head.calls  true _ A2.out).mono ?_); rintro e w5 ⟨rfl, hb⟩; refine ⟨_, rfl, ?_⟩; have n0_ := Aside0.mk (below_step (by repeat (first | (with_reducible first | exact HB.out | apply below_alloc | apply pw_below_drewN | apply below_drew1) | exact HB.out)) hb); clear HB; have HB := n0_; clear n0_; (try clear hb); (try clear hb2); (try clear hk); (try clear hi)))
    go_ret
    exact ⟨by first | rfl | (simp [errW_none, errW_some] <;> rfl) | (simp [*, errW_none, errW_some] <;> rfl), by repeat (first | (with_reducible first | exact HB.out | apply below_alloc | apply pw_below_drewN | apply below_drew1) | exact HB.out)⟩
  rw [if_neg c4] at H; have c4b0 : decide (1100 < (l0.length : Int)) = false := decide_eq_false c4
  have c4b1 : decide (1100 < l0.length) = false := decide_eq_false (by omega)
  clear c4
  replace H := Option.bind_eq_some_iff.mp H
  obtain ⟨⟨t227, t230⟩, A60, H⟩ := H
  replace H : ((wayfarerlaw08_decode.f k l0).bind fun bt231 => (if (t230 != bt231.2) = true then (wayfarerlaw08_TlvReads.j0 k t227 true) else ((wayfarerlaw08_Same.f k t227 bt231.1).bind fun t235 => (wayfarerlaw08_TlvReads.j0 k t227 (!t235))))) = some r := H
  have A6 := Aside0.mk A60
  clear A60
  replace H := Option.bind_eq_some_iff.mp H
  obtain ⟨⟨t231, t232⟩, A70, H⟩ := H
  replace H : (if (t230 != t232) = true then (wayfarerlaw08_TlvReads.j0 k t227 true) else ((wayfarerlaw08_Same.f k t227 t231).bind fun t235 => (wayfarerlaw08_TlvReads.j0 k t227 (!t235)))) = some r := H
  have A7 := Aside0.mk A70
  clear A70
  have HC8 := Aside0.mk H
  clear H
  go_enter Try.func11, Try.ntmps11
  go_upto_region 7 with (first | ((with_reducible refine gate_callee (f := 34) rfl ?_); refine goesL_ (some 12) rfl rfl Try.func34 (by kernel_rfl) rfl #[] rfl (by (try simp only [List.map_toArray, List.map_cons, List.map_nil]); first | done | rfl | (simp only [List.length_drop, List.length_take]; rfl)) ?_; (with_reducible refine (wayfarerlaw08_head.calls  true _ A2.out).mono ?_); rintro e w9 ⟨rfl, hb⟩; refine ⟨_, rfl, ?_⟩; have n0_ := Aside0.mk (below_step (by repeat (first | (with_reducible first | exact HB.out | apply below_alloc | apply pw_below_drewN | apply below_drew1) | exact HB.out)) hb); clear HB; have HB := n0_; clear n0_; (try clear hb); (try clear hb2); (try clear hk); (try clear hi)) | ((with_reducible refine gate_callee (f := 39) rfl ?_); refine goesL_ (some 19) rfl rfl Try.func39 (by kernel_rfl) rfl #[.slice A0 l0.length c0] rfl (by (try simp only [List.map_toArray, List.map_cons, List.map_nil]); first | done | rfl | (simp only [List.length_drop, List.length_take]; rfl)) ?_; (with_reducible refine (tlv_Decode.calls k (fun k_ => k_ < w.heap.size) _ _ l0 t227 t230 _ ?side1 A6.out).mono ?_); (case side1 => exact Kd.V_mk HC0.out (Kd.F_below (Kd.C_F (Kd.heap_int .u8) HR0.out) (by repeat (first | (with_reducible first | exact HB.out | apply below_alloc | apply pw_below_drewN | apply below_drew1) | exact HB.out)))); rintro e w10 ⟨v228, rfl, ho0, hb⟩; refine ⟨_, rfl, ?_⟩; have n0_ := Aside0.mk (Kd.R_lower (Kd.R_mono (ok' := fun k_ => True) ho0 (fun _ hk_ => trivial)) (below_size (by repeat (first | (with_reducible first | exact HB.out | apply below_alloc | apply pw_below_drewN | apply below_drew1) | exact HB.out)))); have n1_ := Aside0.mk (below_step (by repeat (first | (with_reducible first | exact HB.out | apply below_alloc | apply pw_below_drewN | apply below_drew1) | exact HB.out)) hb); clear HB; have HO229 := n0_; have HB := n1_; clear n0_ n1_; (try clear hb); (try clear hb2); (try clear hk); (try clear hi); (try clear ho0)) | ((with_reducible refine gate_callee (f := 41) rfl ?_); refine goesL_ (some 24) rfl rfl Try.func41 (by kernel_rfl) rfl #[.slice A0 l0.length c0] rfl (by (try simp only [List.map_toArray, List.map_cons, List.map_nil]); first | done | rfl | (simp only [List.length_drop, List.length_take]; rfl)) ?_; (with_reducible refine (wayfarerlaw08_decode.calls k _ _ l0 t231 t232 _ ?side1 ?side2 A7.out).mono ?_); (case side1 => repeat (first | exact (Kd.C_below HR0.out HB.out) | (with_reducible refine Kd.C_alloc ?_ _) | (with_reducible refine Kd.C_drewN ?_ _) | (with_reducible refine Kd.C_drew ?_))); (case side2 => exact HC0.out); rintro e w11 ⟨v233, rfl, ho0, hb⟩; refine ⟨_, rfl, ?_⟩; have n0_ := Aside0.mk (Kd.R_elder' (by (with_reducible repeat (first | apply Kd.R_alloc | apply Kd.R_drewN | apply Kd.R_drew)); exact HO229.out) (Kd.R_base ho0) hb); have n1_ := Aside0.mk (Kd.R_lower (Kd.R_new' ho0 (Kd.R_lt (by (with_reducible repeat (first | apply Kd.R_alloc | apply Kd.R_drewN | apply Kd.R_drew)); exact HO229.out))) (below_size (by repeat (first | (with_reducible first | exact HB.out | apply below_alloc | apply pw_below_drewN | apply below_drew1) | exact HB.out)))); have n2_ := Aside0.mk (below_step (by repeat (first | (with_reducible first | exact HB.out | apply below_alloc | apply pw_below_drewN | apply below_drew1) | exact HB.out)) hb); clear HO229; clear HB; have HO229 := n0_; have HO234 := n1_; have HB := n2_; clear n0_ n1_ n2_; (try clear hb); (try clear hb2); (try clear hk); (try clear hi); (try clear ho0)))
  (try simp only [Act.put, List.setIfInBounds_toArray, List.set_cons_zero, List.set_cons_succ])
  go_cut [35] (fun v35 wc => ∃ (kq : Nat) (x35_7 : Bool), v35 = .bool x35_7 ∧ Aside0 (wayfarerlaw08_TlvReads.j0 kq t227 x35_7 = some r) ∧ Aside0 (kq ≤ k) ∧ Aside0 (Kd.R k62 62 wc w.heap.size (fun _ => True) v228 t227) ∧ Aside0 (Below w.heap.size w wc))
  case first =>
    have H := HC8.out
    clear HC8
    by_cases c12 : (t230 != t232) = true
    case pos =>
      rw [if_pos c12] at H; have c12b0 : (t230 != t232) = true := c12
      (try (have c12b1 : decide (t230 = t232) = false := by simpa using c12))
      (try (have c12b2 : (t230 == t232) = false := by simpa using c12))
      (try (have c12b3 : ¬ (t230 = t232) := by simpa using c12))
      clear c12
      (first | rw [c12b0] | (simp only [i64_w, i32_w]; rw [c12b0]) | skip)
      have H' := Aside0.mk H
      clear H
      go_wp2
      go_meet
      case rel => exact ⟨_, (true), (by first | rfl | (simp; done) | (simp [*]; done)), H', ⟨by first | omega | exact Nat.le_refl _⟩, ⟨by (with_reducible repeat (first | apply Kd.R_alloc | apply Kd.R_drewN | apply Kd.R_drew)); exact Kd.R_mono HO229.out (fun _ hk => trivial)⟩, ⟨by repeat (first | (with_reducible first | exact HB.out | apply below_alloc | apply pw_below_drewN | apply below_drew1) | exact HB.out)⟩⟩
    rw [if_neg c12] at H; have c12b0 : (t230 != t232) = false := by simpa using c12
    (try (have c12b1 : decide (t230 = t232) = true := by simpa using c12))
    (try (have c12b2 : (t230 == t232) = true := by simpa using c12))
    clear c12
    (first | rw [c12b0] | (simp only [i64_w, i32_w]; rw [c12b0]) | skip)
    replace H := Option.bind_eq_some_iff.mp H
    obtain ⟨t235, A130, H⟩ := H
    replace H : (wayfarerlaw08_TlvReads.j0 k t227 (!t235)) = some r := H
    have A13 := Aside0.mk A130
    clear A130
    have H' := Aside0.mk H
    clear H
    obtain ⟨Ao14, co14, eo14⟩ := Kd.R_slice HO229.out
    subst eo14
    obtain ⟨Ao15, co15, eo15⟩ := Kd.R_slice HO234.out
    subst eo15
    go_wp2_with (first | (go_at_call 40; (with_reducible refine (wayfarerlaw08_Same.calls k _ _ t227 _ _ t231 t235 _ ?side1 ?side2 ?side3 ?side4 A13.out).mono ?_); (case side1 => repeat (first | exact (Kd.R_reads' HO229.out).2.2 | (with_reducible refine Kd.C_alloc ?_ _) | (with_reducible refine Kd.C_drewN ?_ _) | (with_reducible refine Kd.C_drew ?_))); (case side2 => exact (Kd.R_reads' HO229.out).2.1); (case side3 => repeat (first | exact (Kd.R_reads' HO234.out).2.2 | (with_reducible refine Kd.C_alloc ?_ _) | (with_reducible refine Kd.C_drewN ?_ _) | (with_reducible refine Kd.C_drew ?_))); (case side4 => exact (Kd.R_reads' HO234.out).2.1); rintro e w' ⟨rfl, ⟨nd, rfl⟩⟩))
    go_meet
    case rel => exact ⟨_, (!t235), (by first | rfl | (simp; done) | (simp [*]; done)), H', ⟨by first | omega | exact Nat.le_refl _⟩, ⟨by (with_reducible repeat (first | apply Kd.R_alloc | apply Kd.R_drewN | apply Kd.R_drew)); exact Kd.R_mono HO229.out (fun _ hk => trivial)⟩, ⟨by repeat (first | (with_reducible first | exact HB.out | apply below_alloc | apply pw_below_drewN | apply below_drew1) | exact HB.out)⟩⟩
  case rest =>
    clear HC8
    try clear c1; try clear p2; try clear c3; try clear c4; try clear c4b0; try clear c4b1; try clear c11; try clear c12; try clear c12b0; try clear c12b1; try clear c12b2
    obtain ⟨kq, x35_7, rfl, HA, HJ7, HO_3, HB⟩ := hcut
    cases kq with
    | zero => exact absurd HA.out (by simp [wayfarerlaw08_TlvReads.j0])
    | succ kj7 =>
      have H := HA.out
      clear HA
      simp only [wayfarerlaw08_TlvReads.j0] at H
      by_cases c16 : x35_7 = true
      case pos =>
        subst c16
        have H1 : (some false) = some r := by rw [if_pos rfl] at H; exact H
        clear H
        have H := H1
        clear H1
        obtain rfl := Option.some.inj H
        go_wp2
        go_ret
        exact ⟨by first | rfl | (simp [errW_none, errW_some] <;> rfl) | (simp [*, errW_none, errW_some] <;> rfl), by repeat (first | (with_reducible first | exact HB.out | apply below_alloc | apply pw_below_drewN | apply below_drew1) | exact HB.out)⟩
      replace c16 := Bool.eq_false_iff.mpr c16
      subst c16
      have H1 : ((tlv_Encode.f kj7 t227).bind fun t239 => (wayfarerlaw08_TlvReads.l0 kj7 t227 (([] : List (S62))) t239 (t239.length : Int) 0)) = some r := by rw [if_neg (show ¬ (false = true) by decide)] at H; exact H
      clear H
      have H := H1
      clear H1
      obtain ⟨y236, hy236⟩ : ∃ y_ : List (S62), y_ = (([] : List (S62))) := ⟨_, rfl⟩
      replace H : ((tlv_Encode.f kj7 t227).bind fun t239 => (wayfarerlaw08_TlvReads.l0 kj7 t227 y236 t239 (t239.length : Int) 0)) = some r := by first | (rw [hy236]; with_reducible exact H) | (have H2_ := (Option.bind_some _ _).symm.trans H; rw [hy236]; with_reducible exact H2_) | (have H2_ := (Option.bind_some _ _).symm.trans H; with_reducible exact H2_) | with_reducible exact H | (rw [hy236]; exact H) | exact H
      have Ny236 := Aside0.mk hy236
      clear hy236
      replace H := Option.bind_eq_some_iff.mp H
      obtain ⟨t239, A170, H⟩ := H
      replace H : (wayfarerlaw08_TlvReads.l0 kj7 t227 y236 t239 (t239.length : Int) 0) = some r := H
      have A17 := Aside0.mk A170
      clear A170
      have H' := Aside0.mk H
      clear H
      go_wp2_with (first | ((with_reducible refine gate_dst (N := 36) rfl ?_); refine Kd.R_lit k62 _ 62 ?hg (N := 36) ?hd (xs := ([] : List (S62))) (inner := []) (ok := fun _ => True) (okp := fun _ => True) ?hr ?hp (fun _ hk => hk) trivial (Below.refl _ _) (Nat.le_refl _) (by simp) ?_; (case hd => rfl); (case hg => rfl); (case hr => first | (go_simp; done) | (go_simp; rfl)); (case hp => exact (Reps.none _ _)); intro v237 w18 ho19 hb hg_ hnew_; clear hg_ hnew_; (first | rw [← Ny236.out] at ho19 | (simp only [Int.reduceToNat] at ho19; rw [← Ny236.out] at ho19)); have n0_ := Aside0.mk (Kd.R_elder' (by (with_reducible repeat (first | apply Kd.R_alloc | apply Kd.R_drewN | apply Kd.R_drew)); exact HO_3.out) (Kd.R_base ho19) hb); have n1_ := Aside0.mk (Kd.R_lower (Kd.R_new' ho19 (Kd.R_lt (by (with_reducible repeat (first | apply Kd.R_alloc | apply Kd.R_drewN | apply Kd.R_drew)); exact HO_3.out))) (below_size (by repeat (first | (with_reducible first | exact HB.out | apply below_alloc | apply pw_below_drewN | apply below_drew1) | exact HB.out)))); have n2_ := Aside0.mk (below_step (by repeat (first | (with_reducible first | exact HB.out | apply below_alloc | apply pw_below_drewN | apply below_drew1) | exact HB.out)) hb); clear HO_3; clear HB; have HO_3 := n0_; have HO238 := n1_; have HB := n2_; clear n0_ n1_ n2_; clear hb ho19; obtain ⟨Ao20, co20, eo20⟩ := Kd.R_slice HO_3.out; subst eo20) | ((with_reducible refine gate_callee (f := 37) rfl ?_); refine goesL_ (some 38) rfl rfl Try.func37 (by kernel_rfl) rfl #[.slice Ao20 t227.length co20] rfl (by (try simp only [List.map_toArray, List.map_cons, List.map_nil]); first | done | rfl | (simp only [List.length_drop, List.length_take]; rfl)) ?_; (with_reducible refine (tlv_Encode.calls kj7 _ _ t227 t239 _ ?side1 ?side2 A17.out).mono ?_); (case side1 => repeat (first | exact (Kd.R_reads' HO_3.out).2.2 | (with_reducible refine Kd.C_alloc ?_ _) | (with_reducible refine Kd.C_drewN ?_ _) | (with_reducible refine Kd.C_drew ?_))); (case side2 => exact (Kd.R_reads' HO_3.out).2.1); rintro e w21 ⟨v240, rfl, ho0, hb⟩; refine ⟨_, rfl, ?_⟩; have n0_ := Aside0.mk (Kd.R_below (by (with_reducible repeat (first | apply Kd.R_alloc | apply Kd.R_drewN | apply Kd.R_drew)); exact HO_3.out) hb); have n1_ := Aside0.mk (Kd.R_below (by (with_reducible repeat (first | apply Kd.R_alloc | apply Kd.R_drewN | apply Kd.R_drew)); exact HO238.out) hb); have n2_ := Aside0.mk (Kd.S_lower ho0 (below_size (by repeat (first | (with_reducible first | exact HB.out | apply below_alloc | apply pw_below_drewN | apply below_drew1) | exact HB.out)))); have n3_ := Aside0.mk (below_step (by repeat (first | (with_reducible first | exact HB.out | apply below_alloc | apply pw_below_drewN | apply below_drew1) | exact HB.out)) hb); clear HO_3; clear HO238; clear HB; have HO_3 := n0_; have HO238 := n1_; have HO241 := n2_; have HB := n3_; clear n0_ n1_ n2_ n3_; (try clear hb); (try clear hb2); (try clear hk); (try clear hi); (try clear ho0); obtain ⟨Ao22, co22, eo22⟩ := Kd.S_slice HO241.out; subst eo22))
      go_loopg [7, 40] kj7 (fun kq v7 v40 w' => ∃ (x7_2 : List (S62)) (x40_2 : Int), v40 = .int .i64 x40_2 ∧ Aside0 (wayfarerlaw08_TlvReads.l0 kq t227 x7_2 t239 (t239.length : Int) x40_2 = some r) ∧ Aside0 (kq ≤ kj7) ∧ Aside0 (Kd.R k62 62 w' w.heap.size (fun k_ => some k_ ≠ (v7 : Value).ownBlock) (.slice Ao20 t227.length co20) t227) ∧ Aside0 (Kd.R k62 62 w' w.heap.size (fun k_ => some k_ ≠ ((.slice Ao20 t227.length co20) : Value).ownBlock) v7 x7_2) ∧ Aside0 (Kd.S (Kd.slice 5 (Kd.int .u8)) 22 w' w.heap.size (fun _ => True) (.slice Ao22 t239.length co22) t239) ∧ Aside0 (Below w.heap.size w w'))
      case atStart => exact ⟨(y236), (0), (by first | rfl | (simp; done) | (simp [*]; done)), H', ⟨Nat.le_refl _⟩, ⟨by (with_reducible repeat (first | apply Kd.R_alloc | apply Kd.R_drewN | apply Kd.R_drew)); exact Kd.R_mono HO_3.out (fun _ hk => hk.2)⟩, ⟨by (with_reducible repeat (first | apply Kd.R_alloc | apply Kd.R_drewN | apply Kd.R_drew)); exact Kd.R_mono HO238.out (fun _ hk => hk.2)⟩, ⟨by (with_reducible repeat (first | apply Kd.S_alloc | apply Kd.S_drewN | apply Kd.S_drew)); exact HO241.out⟩, ⟨by repeat (first | (with_reducible first | exact HB.out | apply below_alloc | apply pw_below_drewN | apply below_drew1) | exact HB.out)⟩⟩
      case round =>
        clear H'
        try clear c1; try clear p2; try clear c3; try clear c4; try clear c4b0; try clear c4b1; try clear c11; try clear c12; try clear c12b0; try clear c12b1; try clear c12b2; try clear c16; try clear p2
        obtain ⟨x7_2, x40_2, rfl, HA, HK2, HO_3, HO_7, HO_38, HB⟩ := hrel
        cases gk with
        | zero => exact absurd HA.out (by simp [wayfarerlaw08_TlvReads.l0])
        | succ k2 =>
          have H := HA.out
          clear HA
          simp only [wayfarerlaw08_TlvReads.l0] at H
          by_cases c23 : x40_2 < (t239.length : Int)
          case neg =>
            rw [if_neg c23] at H; have c23b0 : decide (x40_2 < (t239.length : Int)) = false := decide_eq_false c23
            clear c23
            replace H := Option.bind_eq_some_iff.mp H
            obtain ⟨t250, A330, H⟩ := H
            replace H : (some t250) = some r := H
            have A33 := Aside0.mk A330
            clear A330
            obtain rfl := Option.some.inj H
            obtain ⟨Ao34, co34, eo34⟩ := Kd.R_slice HO_7.out
            subst eo34
            go_wp2_with (first | ((with_reducible refine gate_callee (f := 40) rfl ?_); refine goesL_ (some 57) rfl rfl Try.func40 (by kernel_rfl) rfl #[.slice Ao34 x7_2.length co34, .slice Ao20 t227.length co20] rfl (by (try simp only [List.map_toArray, List.map_cons, List.map_nil]); first | done | rfl | (simp only [List.length_drop, List.length_take]; rfl)) ?_; (with_reducible refine (wayfarerlaw08_Same.calls k2 _ _ x7_2 _ _ t227 t250 _ ?side1 ?side2 ?side3 ?side4 A33.out).mono ?_); (case side1 => repeat (first | exact (Kd.R_reads' HO_7.out).2.2 | (with_reducible refine Kd.C_alloc ?_ _) | (with_reducible refine Kd.C_drewN ?_ _) | (with_reducible refine Kd.C_drew ?_))); (case side2 => exact (Kd.R_reads' HO_7.out).2.1); (case side3 => repeat (first | exact (Kd.R_reads' HO_3.out).2.2 | (with_reducible refine Kd.C_alloc ?_ _) | (with_reducible refine Kd.C_drewN ?_ _) | (with_reducible refine Kd.C_drew ?_))); (case side4 => exact (Kd.R_reads' HO_3.out).2.1); rintro e w' ⟨rfl, ⟨nd, rfl⟩⟩; refine ⟨_, rfl, ?_⟩))
            go_ret
            exact ⟨by first | rfl | (simp [errW_none, errW_some] <;> rfl) | (simp [*, errW_none, errW_some] <;> rfl), by repeat (first | (with_reducible first | exact HB.out | apply below_alloc | apply pw_below_drewN | apply below_drew1) | exact HB.out)⟩
          rw [if_pos c23] at H; have c23b0 : decide (x40_2 < (t239.length : Int)) = true := decide_eq_true c23
          clear c23
          by_cases c24 : 0 ≤ x40_2
          case neg =>
            rw [if_neg c24] at H; exact absurd H (by simp)
          rw [if_pos c24] at H; have c24b0 : decide (0 ≤ x40_2) = true := decide_eq_true c24
          clear c24
          by_cases c25 : x40_2 < (t239.length : Int)
          case neg =>
            rw [if_neg c25] at H; exact absurd H (by simp)
          rw [if_pos c25] at H; have c25b0 : decide (x40_2 < (t239.length : Int)) = true := decide_eq_true c25
          clear c25
          replace H := Option.bind_eq_some_iff.mp H
          obtain ⟨⟨t243, t246⟩, A260, H⟩ := H
          replace H : (if t246 = true then (if x7_2.length + t243.length < 4398046511104 then (wayfarerlaw08_TlvReads.l0 k2 t227 (x7_2 ++ t243) t239 (t239.length : Int) (wrap64 (x40_2 + 1))) else (none)) else (some false)) = some r := H
          have A26 := Aside0.mk A260
          clear A260
          by_cases c27 : t246 = true
          case neg =>
            replace c27 := Bool.eq_false_iff.mpr c27
            subst c27
            have H1 : (some false) = some r := by rw [if_neg (show ¬ (false = true) by decide)] at H; exact H
            clear H
            have H := H1
            clear H1
            obtain rfl := Option.some.inj H
            have p242 : 0 ≤ (x40_2 : Int) := of_decide_eq_true (by first | (with_reducible assumption) | assumption)
            have q242 : x40_2 < (t239.length : Int) := of_decide_eq_true (by first | (with_reducible assumption) | assumption)
            obtain ⟨ad242, A242_0, c242_0, e242, hx242_0, hl242_0, hi242_0⟩ := at_L9 (Kd.S_reads' HO_38.out).2.2 x40_2 p242 q242
            cases e242
            obtain ⟨ce242, hce242, hMe242, hcc242⟩ := Kd.S_get HO_38.out [] x40_2 p242 (by first | exact q242 | exact of_decide_eq_true (by first | (with_reducible assumption) | assumption) | (have e_ := (Kd.S_reads' HO_38.out).1; omega))
            obtain ⟨ve242_0, rfl, ge242_0⟩ := hMe242
            have hv242_0 := hcc242 0 _ rfl
            rw [Nat.add_zero, show ((Kd.slice 5 (Kd.int .u8))).sz = 1 from rfl, Nat.mul_one] at hv242_0
            replace hv242_0 := Option.some.inj (hv242_0.symm.trans hx242_0)
            rw [hv242_0] at ge242_0
            have HL242_0 := Aside0.mk (show Kd.R (Kd.int .u8) 5 _ _ _ _ (rd_L9 t239 x40_2) from ge242_0)
            clear hv242_0 ge242_0
            clear hcc242 hce242
            have HR242_0 := Aside0.mk hi242_0
            have HC242_0 := Aside0.mk hl242_0
            clear hi242_0 hl242_0
            replace p242 := eq_true p242
            replace q242 := eq_true q242
            go_wp2_with (first | ((with_reducible refine gate_callee (f := 39) rfl ?_); refine goesL_ (some 46) rfl rfl Try.func39 (by kernel_rfl) rfl #[.slice A242_0 (rd_L9 t239 x40_2).length c242_0] rfl (by (try simp only [List.map_toArray, List.map_cons, List.map_nil]); first | done | rfl | (simp only [List.length_drop, List.length_take]; rfl)) ?_; (with_reducible refine (tlv_Decode.calls k2 (fun k_ => some k_ = (.slice A242_0 (rd_L9 t239 x40_2).length c242_0 : Value).ownBlock) _ _ (rd_L9 t239 x40_2) t243 false _ ?side1 A26.out).mono ?_); (case side1 => exact Kd.R_V (Kd.R_tight rfl (Kd.R_apart' (Kd.R_apart' (HL242_0.out) (Kd.R_typed HO_3.out) (by decide)) (Kd.R_typed HO_7.out) (by decide)))); rintro e w32 ⟨v244, rfl, ho0, hb⟩; refine ⟨_, rfl, ?_⟩; have n0_ := Aside0.mk (Kd.R_elder' (by (with_reducible repeat (first | apply Kd.R_alloc | apply Kd.R_drewN | apply Kd.R_drew)); exact HO_3.out) (Kd.R_base ho0) hb); have n1_ := Aside0.mk (Kd.R_elder' (by (with_reducible repeat (first | apply Kd.R_alloc | apply Kd.R_drewN | apply Kd.R_drew)); exact HO_7.out) (Kd.R_base ho0) hb); have n2_ := Aside0.mk (Kd.S_below (by (with_reducible repeat (first | apply Kd.S_alloc | apply Kd.S_drewN | apply Kd.S_drew)); exact HO_38.out) hb); have n3_ := Aside0.mk (Kd.R_below (by (with_reducible repeat (first | apply Kd.R_alloc | apply Kd.R_drewN | apply Kd.R_drew)); exact HL242_0.out) hb); have n4_ := Aside0.mk (Kd.R_lower (Kd.R_new' (Kd.R_new' (Kd.R_mono (ok' := fun k_ => True) ho0 (fun _ hk_ => trivial)) (Kd.R_lt (by (with_reducible repeat (first | apply Kd.R_alloc | apply Kd.R_drewN | apply Kd.R_drew)); exact HO_3.out))) (Kd.R_lt (by (with_reducible repeat (first | apply Kd.R_alloc | apply Kd.R_drewN | apply Kd.R_drew)); exact HO_7.out))) (below_size (by repeat (first | (with_reducible first | exact HB.out | apply below_alloc | apply pw_below_drewN | apply below_drew1) | exact HB.out)))); have n5_ := Aside0.mk (Kd.C_below (by repeat (first | (with_reducible exact HR242_0.out) | (with_reducible refine Kd.C_alloc ?_ _) | (with_reducible refine Kd.C_drewN ?_ _) | (with_reducible refine Kd.C_drew ?_) | exact HR242_0.out)) hb); have n6_ := Aside0.mk (below_step (by repeat (first | (with_reducible first | exact HB.out | apply below_alloc | apply pw_below_drewN | apply below_drew1) | exact HB.out)) hb); clear HO_3; clear HO_7; clear HO_38; clear HL242_0; clear HR242_0; clear HB; have HO_3 := n0_; have HO_7 := n1_; have HO_38 := n2_; have HL242_0 := n3_; have HO245 := n4_; have HR242_0 := n5_; have HB := n6_; clear n0_ n1_ n2_ n3_ n4_ n5_ n6_; (try clear hb); (try clear hb2); (try clear hk); (try clear hi); (try clear ho0)))
            go_ret
            exact ⟨by first | rfl | (simp [errW_none, errW_some] <;> rfl) | (simp [*, errW_none, errW_some] <;> rfl), by repeat (first | (with_reducible first | exact HB.out | apply below_alloc | apply pw_below_drewN | apply below_drew1) | exact HB.out)⟩
          subst c27
          have H1 : (if x7_2.length + t243.length < 4398046511104 then (wayfarerlaw08_TlvReads.l0 k2 t227 (x7_2 ++ t243) t239 (t239.length : Int) (wrap64 (x40_2 + 1))) else (none)) = some r := by rw [if_pos rfl] at H; exact H
          clear H
          have H := H1
          clear H1
          by_cases c28 : x7_2.length + t243.length < 4398046511104
          case neg =>
            rw [if_neg c28] at H; exact absurd H (by simp)
          rw [if_pos c28] at H; have LMc28 := Aside0.mk c28
          clear c28
          obtain ⟨y247, hy247⟩ : ∃ y_ : List (S62), y_ = (x7_2 ++ t243) := ⟨_, rfl⟩
          replace H : (wayfarerlaw08_TlvReads.l0 k2 t227 y247 t239 (t239.length : Int) (wrap64 (x40_2 + 1))) = some r := by first | (rw [hy247]; with_reducible exact H) | (have H2_ := (Option.bind_some _ _).symm.trans H; rw [hy247]; with_reducible exact H2_) | (have H2_ := (Option.bind_some _ _).symm.trans H; with_reducible exact H2_) | with_reducible exact H | (rw [hy247]; exact H) | exact H
          have Ny247 := Aside0.mk hy247
          clear hy247
          have H' := Aside0.mk H
          clear H
          have p242 : 0 ≤ (x40_2 : Int) := of_decide_eq_true (by first | (with_reducible assumption) | assumption)
          have q242 : x40_2 < (t239.length : Int) := of_decide_eq_true (by first | (with_reducible assumption) | assumption)
          obtain ⟨ad242, A242_0, c242_0, e242, hx242_0, hl242_0, hi242_0⟩ := at_L9 (Kd.S_reads' HO_38.out).2.2 x40_2 p242 q242
          cases e242
          obtain ⟨ce242, hce242, hMe242, hcc242⟩ := Kd.S_get HO_38.out [] x40_2 p242 (by first | exact q242 | exact of_decide_eq_true (by first | (with_reducible assumption) | assumption) | (have e_ := (Kd.S_reads' HO_38.out).1; omega))
          obtain ⟨ve242_0, rfl, ge242_0⟩ := hMe242
          have hv242_0 := hcc242 0 _ rfl
          rw [Nat.add_zero, show ((Kd.slice 5 (Kd.int .u8))).sz = 1 from rfl, Nat.mul_one] at hv242_0
          replace hv242_0 := Option.some.inj (hv242_0.symm.trans hx242_0)
          rw [hv242_0] at ge242_0
          have HL242_0 := Aside0.mk (show Kd.R (Kd.int .u8) 5 _ _ _ _ (rd_L9 t239 x40_2) from ge242_0)
          clear hv242_0 ge242_0
          clear hcc242 hce242
          have HR242_0 := Aside0.mk hi242_0
          have HC242_0 := Aside0.mk hl242_0
          clear hi242_0 hl242_0
          replace p242 := eq_true p242
          replace q242 := eq_true q242
          go_wp2_with (first | ((with_reducible refine gate_callee (f := 39) rfl ?_); refine goesL_ (some 46) rfl rfl Try.func39 (by kernel_rfl) rfl #[.slice A242_0 (rd_L9 t239 x40_2).length c242_0] rfl (by (try simp only [List.map_toArray, List.map_cons, List.map_nil]); first | done | rfl | (simp only [List.length_drop, List.length_take]; rfl)) ?_; (with_reducible refine (tlv_Decode.calls k2 (fun k_ => some k_ = (.slice A242_0 (rd_L9 t239 x40_2).length c242_0 : Value).ownBlock) _ _ (rd_L9 t239 x40_2) t243 true _ ?side1 A26.out).mono ?_); (case side1 => exact Kd.R_V (Kd.R_tight rfl (Kd.R_apart' (Kd.R_apart' (HL242_0.out) (Kd.R_typed HO_3.out) (by decide)) (Kd.R_typed HO_7.out) (by decide)))); rintro e w29 ⟨v244, rfl, ho0, hb⟩; refine ⟨_, rfl, ?_⟩; have n0_ := Aside0.mk (Kd.R_elder' (by (with_reducible repeat (first | apply Kd.R_alloc | apply Kd.R_drewN | apply Kd.R_drew)); exact HO_3.out) (Kd.R_base ho0) hb); have n1_ := Aside0.mk (Kd.R_elder' (by (with_reducible repeat (first | apply Kd.R_alloc | apply Kd.R_drewN | apply Kd.R_drew)); exact HO_7.out) (Kd.R_base ho0) hb); have n2_ := Aside0.mk (Kd.S_below (by (with_reducible repeat (first | apply Kd.S_alloc | apply Kd.S_drewN | apply Kd.S_drew)); exact HO_38.out) hb); have n3_ := Aside0.mk (Kd.R_below (by (with_reducible repeat (first | apply Kd.R_alloc | apply Kd.R_drewN | apply Kd.R_drew)); exact HL242_0.out) hb); have n4_ := Aside0.mk (Kd.R_lower (Kd.R_new' (Kd.R_new' (Kd.R_mono (ok' := fun k_ => True) ho0 (fun _ hk_ => trivial)) (Kd.R_lt (by (with_reducible repeat (first | apply Kd.R_alloc | apply Kd.R_drewN | apply Kd.R_drew)); exact HO_3.out))) (Kd.R_lt (by (with_reducible repeat (first | apply Kd.R_alloc | apply Kd.R_drewN | apply Kd.R_drew)); exact HO_7.out))) (below_size (by repeat (first | (with_reducible first | exact HB.out | apply below_alloc | apply pw_below_drewN | apply below_drew1) | exact HB.out)))); have n5_ := Aside0.mk (Kd.C_below (by repeat (first | (with_reducible exact HR242_0.out) | (with_reducible refine Kd.C_alloc ?_ _) | (with_reducible refine Kd.C_drewN ?_ _) | (with_reducible refine Kd.C_drew ?_) | exact HR242_0.out)) hb); have n6_ := Aside0.mk (below_step (by repeat (first | (with_reducible first | exact HB.out | apply below_alloc | apply pw_below_drewN | apply below_drew1) | exact HB.out)) hb); clear HO_3; clear HO_7; clear HO_38; clear HL242_0; clear HR242_0; clear HB; have HO_3 := n0_; have HO_7 := n1_; have HO_38 := n2_; have HL242_0 := n3_; have HO245 := n4_; have HR242_0 := n5_; have HB := n6_; clear n0_ n1_ n2_ n3_ n4_ n5_ n6_; (try clear hb); (try clear hb2); (try clear hk); (try clear hi); (try clear ho0); obtain ⟨Ao31, co31, eo31⟩ := Kd.R_slice HO245.out; subst eo31) | ((with_reducible refine gate_builtin (b := .append) (xs := #[.tmp 51, .tmp 52]) rfl ?_); at_builtin; refine Kd.R_append_rows k62 (w0 := w) w.heap.size rfl (.tmp 51) (.tmp 52) 60 62 (.agg #[(.int .u32 0), (.int .i64 0), (.int .u32 0), (.int .u32 0), (.int .u16 0)]) 32 rfl Try.underlying60 info62 rfl (by decide) (by omega) u7 x7_2 t243 _ _ _ (fun k_ => some k_ ≠ (.slice Ao20 t227.length co20 : Value).ownBlock ∧ some k_ ≠ (.slice Ao31 t243.length co31 : Value).ownBlock) (fun _ => False) rfl rfl ?aO ?aR (fun _ _ h => h) (fun _ h => h.elim) ?aF ?aB ?aS ?aL ?_; (case aR => repeat (first | exact (Kd.R_reads' HO245.out).2.2 | (with_reducible refine Kd.C_alloc ?_ _) | (with_reducible refine Kd.C_drewN ?_ _) | (with_reducible refine Kd.C_drew ?_))); (case aB => exact (by repeat (first | (with_reducible first | exact HB.out | apply below_alloc | apply pw_below_drewN | apply below_drew1) | exact HB.out))); (case aF => exact (fun k_ hk => ⟨Kd.fresh' (Kd.R_lt (by (with_reducible repeat (first | apply Kd.R_alloc | apply Kd.R_drewN | apply Kd.R_drew)); exact HO_3.out)) k_ hk, Kd.fresh' (Kd.R_lt (by (with_reducible repeat (first | apply Kd.R_alloc | apply Kd.R_drewN | apply Kd.R_drew)); exact HO245.out)) k_ hk⟩)); (case aO => exact (by (with_reducible repeat (first | apply Kd.R_alloc | apply Kd.R_drewN | apply Kd.R_drew)); exact HO_7.out)); (case aS => exact (below_size (by repeat (first | (with_reducible first | exact HB.out | apply below_alloc | apply pw_below_drewN | apply below_drew1) | exact HB.out)))); (case aL => have := LMc28.out; omega); intro v248 w30 ho hb hg hat; rw [← Ny247.out] at ho; have n0_ := Aside0.mk (Kd.R_after (ok := (fun k_ => some k_ ≠ (.slice Ao31 t243.length co31 : Value).ownBlock)) (by (with_reducible repeat (first | apply Kd.R_alloc | apply Kd.R_drewN | apply Kd.R_drew)); exact Kd.R_mono HO_3.out (fun _ hk => ⟨hk.2, hk.1⟩)) hg hat); have n1_ := Aside0.mk (Kd.S_over' (by (with_reducible repeat (first | apply Kd.S_alloc | apply Kd.S_drewN | apply Kd.S_drew)); exact HO_38.out) (Kd.R_typed (by (with_reducible repeat (first | apply Kd.R_alloc | apply Kd.R_drewN | apply Kd.R_drew)); exact HO_7.out)) (by decide) hg); have n2_ := Aside0.mk (Kd.R_over' (by (with_reducible repeat (first | apply Kd.R_alloc | apply Kd.R_drewN | apply Kd.R_drew)); exact HL242_0.out) (Kd.R_typed (by (with_reducible repeat (first | apply Kd.R_alloc | apply Kd.R_drewN | apply Kd.R_drew)); exact HO_7.out)) (by decide) hg); have n3_ := Aside0.mk (Kd.R_after (ok := (fun k_ => some k_ ≠ (.slice Ao20 t227.length co20 : Value).ownBlock)) (by (with_reducible repeat (first | apply Kd.R_alloc | apply Kd.R_drewN | apply Kd.R_drew)); exact Kd.R_mono HO245.out (fun _ hk => ⟨hk.1.2, hk.2⟩)) hg hat); have n4_ := Aside0.mk (hb); have n5_ := Aside0.mk (ho); clear HO_3; clear HO_38; clear HL242_0; clear HO245; clear HB; clear HO_7; have HO_3 := n0_; have HO_38 := n1_; have HL242_0 := n2_; have HO245 := n3_; have HB := n4_; have HO249 := n5_; clear n0_ n1_ n2_ n3_ n4_ n5_; clear ho hb hg hat))
          go_roundg k2
          case measure => have := HJ7.out; have := HK2.out; omega
          case rel => exact ⟨(y247), (wrap64 (x40_2 + 1)), (by first | rfl | (simp; done) | (simp [*]; done)), H', ⟨by have := HJ7.out; have := HK2.out; omega⟩, ⟨by (with_reducible repeat (first | apply Kd.R_alloc | apply Kd.R_drewN | apply Kd.R_drew)); exact Kd.R_mono HO_3.out (fun _ hk => hk.2)⟩, ⟨by (with_reducible repeat (first | apply Kd.R_alloc | apply Kd.R_drewN | apply Kd.R_drew)); exact Kd.R_mono HO249.out (fun _ hk => hk.1)⟩, ⟨by (with_reducible repeat (first | apply Kd.S_alloc | apply Kd.S_drewN | apply Kd.S_drew)); exact HO_38.out⟩, ⟨by repeat (first | (with_reducible first | exact HB.out | apply below_alloc | apply pw_below_drewN | apply below_drew1) | exact HB.out)⟩⟩
/-- THE ONE PURE STATEMENT of wayfarerlaw08_TlvReads: yours. -/
def wayfarerlaw08_TlvReads.Pure : Prop := ∀ (l0 : List Int), l0.length ≤ maxLen → l0.length * 1 ≤ 140737488351232 → (∀ x ∈ l0, (Lit.int .u8 x).wf = true) → ∃ k, wayfarerlaw08_TlvReads.f k l0 = some true
theorem wayfarerlaw08_TlvReads.walk (P : wayfarerlaw08_TlvReads.Pure) (a0 : Option Addr) (len0 cap0 : Nat) (z0 : List Int) (w : World) (w0 : (a0 = none ∧ len0 = 0 ∧ cap0 = 0 ∧ z0 = []) ∨ ∃ x, a0 = some x ∧ len0 ≤ cap0 ∧ cap0 ≤ maxLen ∧ z0.length = cap0 ∧ (∀ i, i < z0.length → w.cell? (x.add i) = some (.int .u8 (z0.getD i 0))) ∧ ∀ n ∈ z0, (Lit.int .u8 n).wf = true) (y0 : len0 * 1 ≤ 140737488351232) :
    Calls Try.prog 11 #[.slice a0 len0 cap0] w fun e w' => e = .returned (.bool true) ∧ Below w.heap.size w w' := by
  obtain ⟨l0, rfl, hr0, hm0, hw0, hc0⟩ := ReadsInt.ofRowC w0
  obtain ⟨k, h⟩ := P l0 hm0 y0 hw0
  refine (wayfarerlaw08_TlvReads.calls k _ _ l0 true w (Kd.C_of_reads (d := (0 : Int)) (h1 := fun _ => rfl) hr0) hc0 h).mono ?_
  rintro e w' ⟨rfl, hd⟩
  exact ⟨rfl, hd⟩

end Go.Proofs.YtgmdjhokcipajaaQ.PTlx
