-- written by this session's turned copy of the kit's print.py; Lean checks it
import Derived.Test.YtgmdjhokcipajaaPTlv0
import Derived.Test.YtgmdjhokcipajaaPTlv6
import Derived.Test.YtgmdjhokcipajaaPTlv7
import Derived.Test.YtgmdjhokcipajaaPTlv8
namespace Go.Proofs.YtgmdjhokcipajaaQ.PTlv
open Go.RowKit Go.Proofs.YtgmdjhokcipajaaW.PrintWords Go.Proofs.YtgmdjhokcipajaaW.PrintLast Go.Proofs.YtgmdjhokcipajaaW.PrintMore
attribute [local go_sem] max2_int min2_int max_two min_two max_three min_three max_four min_four   -- for this text's walks alone
set_option linter.unusedVariables false
set_option linter.unusedSimpArgs false

/-! ### wayfarerlaw08_TlvPads: function 13 -/
mutual
def wayfarerlaw08_TlvPads.j0 : Nat → List (S62) → List Int → Int → List Int → Bool → Option (Bool)
  | 0, _, _, _, _, _ => none
  | k + 1, x0, x1, x2, x3, x30 => if x30 = true then (some true) else (if x2 = 0 then (wayfarerlaw08_TlvPads.j1 k x0 x1 x2 x3 true) else (if x2 = 2 then (wayfarerlaw08_TlvPads.j1 k x0 x1 x2 x3 true) else (wayfarerlaw08_TlvPads.j1 k x0 x1 x2 x3 (x2 == 3))))
def wayfarerlaw08_TlvPads.j1 : Nat → List (S62) → List Int → Int → List Int → Bool → Option (Bool)
  | 0, _, _, _, _, _ => none
  | k + 1, x0, x1, x2, x3, x40 => if x40 = true then (wayfarerlaw08_TlvPads.j2 k x0 x1 9 x3) else (wayfarerlaw08_TlvPads.j2 k x0 x1 x2 x3)
def wayfarerlaw08_TlvPads.j2 : Nat → List (S62) → List Int → Int → List Int → Option (Bool)
  | 0, _, _, _, _ => none
  | k + 1, x0, x1, x2, x3 => wayfarerlaw08_TlvPads.l0 k x1 x2 x3 (([] : List Int)) (([] : List (S62))) 0 x0 (x0.length : Int) 0
def wayfarerlaw08_TlvPads.l0 : Nat → List Int → Int → List Int → List Int → List (S62) → Int → List (S62) → Int → Int → Option (Bool)
  | 0, _, _, _, _, _, _, _, _, _ => none
  | k + 1, x1, x2, x3, x9, x10, x11, x43, x44, x45 => if x45 < x44 then (if 0 ≤ x45 then (if x45 < (x43.length : Int) then ((wayfarerlaw08_Right.f k ((rd_T62 x43 x45).f0.f0) ((rd_T62 x43 x45).f0.f1) ((rd_T62 x43 x45).f1) ((rd_T62 x43 x45).f2.f0) ((rd_T62 x43 x45).f2.f1)).bind fun t412 => (if t412 = true then (if x45 < (x1.length : Int) then (if 0 ≤ (wrap64 (Go.bits .and .u8 (rd x1 x45) 7)) then (if x9.length + (wrap64 (Go.bits .and .u8 (rd x1 x45) 7) : Int).toNat < 140737488355328 then ((some (x9 ++ List.replicate (wrap64 (Go.bits .and .u8 (rd x1 x45) 7) : Int).toNat 0 : List Int)).bind fun y414 => ((some (([x2, ((x3.length : Int)) % 256] : List Int) : List Int)).bind fun y417 => (if y414.length + y417.length < 140737488355328 then ((some (y414 ++ y417 : List Int)).bind fun y420 => (if y420.length + x3.length < 140737488355328 then ((some (y420 ++ x3 : List Int)).bind fun y423 => ((wayfarerlaw08_parts.f k ((rd_T62 x43 x45).f0.f0) ((rd_T62 x43 x45).f0.f1) ((rd_T62 x43 x45).f1) ((rd_T62 x43 x45).f2.f0) ((rd_T62 x43 x45).f2.f1) x11).bind fun t426 => (if y423.length + t426.length < 140737488355328 then (if x10.length < 4398046511104 then (wayfarerlaw08_TlvPads.l0 k x1 x2 x3 (y423 ++ t426) (x10 ++ [(⟨(⟨(rd_T62 x43 x45).f0.f0, (rd_T62 x43 x45).f0.f1⟩ : S29), (rd_T62 x43 x45).f1, (⟨(rd_T62 x43 x45).f2.f0, (rd_T62 x43 x45).f2.f1⟩ : S39)⟩ : S62)]) ((rd_T62 x43 x45).f1) x43 x44 (wrap64 (x45 + 1))) else (none)) else (none)))) else (none))) else (none)))) else (none)) else (none)) else ((wayfarerlaw08_parts.f k ((rd_T62 x43 x45).f0.f0) ((rd_T62 x43 x45).f0.f1) ((rd_T62 x43 x45).f1) ((rd_T62 x43 x45).f2.f0) ((rd_T62 x43 x45).f2.f1) x11).bind fun t435 => (if x9.length + t435.length < 140737488355328 then (if x10.length < 4398046511104 then (wayfarerlaw08_TlvPads.l0 k x1 x2 x3 (x9 ++ t435) (x10 ++ [(⟨(⟨(rd_T62 x43 x45).f0.f0, (rd_T62 x43 x45).f0.f1⟩ : S29), (rd_T62 x43 x45).f1, (⟨(rd_T62 x43 x45).f2.f0, (rd_T62 x43 x45).f2.f1⟩ : S39)⟩ : S62)]) ((rd_T62 x43 x45).f1) x43 x44 (wrap64 (x45 + 1))) else (none)) else (none)))) else (wayfarerlaw08_TlvPads.l0 k x1 x2 x3 x9 x10 x11 x43 x44 (wrap64 (x45 + 1))))) else (none)) else (none)) else ((some (([87, 1, (wrap64 ((x9.length : Int) / 256)) % 256, (x9.length : Int) % 256] : List Int) : List Int)).bind fun y399 => (if y399.length + x9.length < 140737488355328 then ((tlv_Decode.f k (y399 ++ x9)).bind fun bt405 => (if bt405.2 = true then ((wayfarerlaw08_Same.f k bt405.1 x10).bind fun t409 => (some t409)) else (some false))) else (none)))
end
def wayfarerlaw08_TlvPads.f (k : Nat) (l0 : List (S62)) (l1 : List Int) (a2 : Int) (l3 : List Int) : Option (Bool) := (wayfarerlaw08_head.f).bind fun t392 => (if t392 = true then (if (l0.length : Int) > 12 then (wayfarerlaw08_TlvPads.j0 k l0 l1 a2 l3 true) else (if (l1.length : Int) > 40 then (wayfarerlaw08_TlvPads.j0 k l0 l1 a2 l3 true) else (wayfarerlaw08_TlvPads.j0 k l0 l1 a2 l3 (decide ((l3.length : Int) > 20))))) else (some false))
theorem wayfarerlaw08_TlvPads.mono_l : ∀ k, (∀ y0 y1 y2 y3 y4, LeO (wayfarerlaw08_TlvPads.j0 k y0 y1 y2 y3 y4) (wayfarerlaw08_TlvPads.j0 (k + 1) y0 y1 y2 y3 y4)) ∧ (∀ y0 y1 y2 y3 y4, LeO (wayfarerlaw08_TlvPads.j1 k y0 y1 y2 y3 y4) (wayfarerlaw08_TlvPads.j1 (k + 1) y0 y1 y2 y3 y4)) ∧ (∀ y0 y1 y2 y3, LeO (wayfarerlaw08_TlvPads.j2 k y0 y1 y2 y3) (wayfarerlaw08_TlvPads.j2 (k + 1) y0 y1 y2 y3)) ∧ (∀ y0 y1 y2 y3 y4 y5 y6 y7 y8, LeO (wayfarerlaw08_TlvPads.l0 k y0 y1 y2 y3 y4 y5 y6 y7 y8) (wayfarerlaw08_TlvPads.l0 (k + 1) y0 y1 y2 y3 y4 y5 y6 y7 y8))
  | 0 => ⟨fun _ _ _ _ _ r h => by simp [wayfarerlaw08_TlvPads.j0] at h, fun _ _ _ _ _ r h => by simp [wayfarerlaw08_TlvPads.j1] at h, fun _ _ _ _ r h => by simp [wayfarerlaw08_TlvPads.j2] at h, fun _ _ _ _ _ _ _ _ _ r h => by simp [wayfarerlaw08_TlvPads.l0] at h⟩
  | k + 1 => by
    obtain ⟨ih0, ih1, ih2, ih3⟩ := wayfarerlaw08_TlvPads.mono_l k
    refine ⟨?_, ?_, ?_, ?_⟩
    · intro y0 y1 y2 y3 y4
      unfold wayfarerlaw08_TlvPads.j0
      repeat' first
      | (with_reducible exact ih0 _ _ _ _ _)
      | (with_reducible exact ih1 _ _ _ _ _)
      | (with_reducible exact ih2 _ _ _ _)
      | (with_reducible exact ih3 _ _ _ _ _ _ _ _ _)
      | (with_reducible exact tlv_Decode.mono _ _)
      | (with_reducible exact wayfarerlaw08_Right.mono _ _ _ _ _ _)
      | (with_reducible exact wayfarerlaw08_Same.mono _ _ _)
      | (with_reducible exact wayfarerlaw08_parts.mono _ _ _ _ _ _ _)
      | (with_reducible exact LeO.refl _)
      | (with_reducible exact LeO.none _)
      | (with_reducible refine LeO.ite ?_ ?_)
      | (with_reducible refine LeO.bind ?_ (fun _ => ?_))
      | exact ih0 _ _ _ _ _
      | exact ih1 _ _ _ _ _
      | exact ih2 _ _ _ _
      | exact ih3 _ _ _ _ _ _ _ _ _
      | exact tlv_Decode.mono _ _
      | exact wayfarerlaw08_Right.mono _ _ _ _ _ _
      | exact wayfarerlaw08_Same.mono _ _ _
      | exact wayfarerlaw08_parts.mono _ _ _ _ _ _ _
      | exact LeO.none _
      | refine LeO.ite ?_ ?_
      | refine LeO.bind ?_ (fun _ => ?_)
    · intro y0 y1 y2 y3 y4
      unfold wayfarerlaw08_TlvPads.j1
      repeat' first
      | (with_reducible exact ih0 _ _ _ _ _)
      | (with_reducible exact ih1 _ _ _ _ _)
      | (with_reducible exact ih2 _ _ _ _)
      | (with_reducible exact ih3 _ _ _ _ _ _ _ _ _)
      | (with_reducible exact tlv_Decode.mono _ _)
      | (with_reducible exact wayfarerlaw08_Right.mono _ _ _ _ _ _)
      | (with_reducible exact wayfarerlaw08_Same.mono _ _ _)
      | (with_reducible exact wayfarerlaw08_parts.mono _ _ _ _ _ _ _)
      | (with_reducible exact LeO.refl _)
      | (with_reducible exact LeO.none _)
      | (with_reducible refine LeO.ite ?_ ?_)
      | (with_reducible refine LeO.bind ?_ (fun _ => ?_))
      | exact ih0 _ _ _ _ _
      | exact ih1 _ _ _ _ _
      | exact ih2 _ _ _ _
      | exact ih3 _ _ _ _ _ _ _ _ _
      | exact tlv_Decode.mono _ _
      | exact wayfarerlaw08_Right.mono _ _ _ _ _ _
      | exact wayfarerlaw08_Same.mono _ _ _
      | exact wayfarerlaw08_parts.mono _ _ _ _ _ _ _
      | exact LeO.none _
      | refine LeO.ite ?_ ?_
      | refine LeO.bind ?_ (fun _ => ?_)
    · intro y0 y1 y2 y3
      unfold wayfarerlaw08_TlvPads.j2
      repeat' first
      | (with_reducible exact ih0 _ _ _ _ _)
      | (with_reducible exact ih1 _ _ _ _ _)
      | (with_reducible exact ih2 _ _ _ _)
      | (with_reducible exact ih3 _ _ _ _ _ _ _ _ _)
      | (with_reducible exact tlv_Decode.mono _ _)
      | (with_reducible exact wayfarerlaw08_Right.mono _ _ _ _ _ _)
      | (with_reducible exact wayfarerlaw08_Same.mono _ _ _)
      | (with_reducible exact wayfarerlaw08_parts.mono _ _ _ _ _ _ _)
      | (with_reducible exact LeO.refl _)
      | (with_reducible exact LeO.none _)
      | (with_reducible refine LeO.ite ?_ ?_)
      | (with_reducible refine LeO.bind ?_ (fun _ => ?_))
      | exact ih0 _ _ _ _ _
      | exact ih1 _ _ _ _ _
      | exact ih2 _ _ _ _
      | exact ih3 _ _ _ _ _ _ _ _ _
      | exact tlv_Decode.mono _ _
      | exact wayfarerlaw08_Right.mono _ _ _ _ _ _
      | exact wayfarerlaw08_Same.mono _ _ _
      | exact wayfarerlaw08_parts.mono _ _ _ _ _ _ _
      | exact LeO.none _
      | refine LeO.ite ?_ ?_
      | refine LeO.bind ?_ (fun _ => ?_)
    · intro y0 y1 y2 y3 y4 y5 y6 y7 y8
      unfold wayfarerlaw08_TlvPads.l0
      repeat' first
      | (with_reducible exact ih0 _ _ _ _ _)
      | (with_reducible exact ih1 _ _ _ _ _)
      | (with_reducible exact ih2 _ _ _ _)
      | (with_reducible exact ih3 _ _ _ _ _ _ _ _ _)
      | (with_reducible exact tlv_Decode.mono _ _)
      | (with_reducible exact wayfarerlaw08_Right.mono _ _ _ _ _ _)
      | (with_reducible exact wayfarerlaw08_Same.mono _ _ _)
      | (with_reducible exact wayfarerlaw08_parts.mono _ _ _ _ _ _ _)
      | (with_reducible exact LeO.refl _)
      | (with_reducible exact LeO.none _)
      | (with_reducible refine LeO.ite ?_ ?_)
      | (with_reducible refine LeO.bind ?_ (fun _ => ?_))
      | exact ih0 _ _ _ _ _
      | exact ih1 _ _ _ _ _
      | exact ih2 _ _ _ _
      | exact ih3 _ _ _ _ _ _ _ _ _
      | exact tlv_Decode.mono _ _
      | exact wayfarerlaw08_Right.mono _ _ _ _ _ _
      | exact wayfarerlaw08_Same.mono _ _ _
      | exact wayfarerlaw08_parts.mono _ _ _ _ _ _ _
      | exact LeO.none _
      | refine LeO.ite ?_ ?_
      | refine LeO.bind ?_ (fun _ => ?_)
theorem wayfarerlaw08_TlvPads.mono : ∀ a0 a1 a2 a3 k, LeO (wayfarerlaw08_TlvPads.f k a0 a1 a2 a3) (wayfarerlaw08_TlvPads.f (k + 1) a0 a1 a2 a3) := by
  intro a0 a1 a2 a3 k
  obtain ⟨ih0, ih1, ih2, ih3⟩ := wayfarerlaw08_TlvPads.mono_l k
  unfold wayfarerlaw08_TlvPads.f
  repeat' first
      | (with_reducible exact ih0 _ _ _ _ _)
      | (with_reducible exact ih1 _ _ _ _ _)
      | (with_reducible exact ih2 _ _ _ _)
      | (with_reducible exact ih3 _ _ _ _ _ _ _ _ _)
      | (with_reducible exact tlv_Decode.mono _ _)
      | (with_reducible exact wayfarerlaw08_Right.mono _ _ _ _ _ _)
      | (with_reducible exact wayfarerlaw08_Same.mono _ _ _)
      | (with_reducible exact wayfarerlaw08_parts.mono _ _ _ _ _ _ _)
      | (with_reducible exact LeO.refl _)
      | (with_reducible exact LeO.none _)
      | (with_reducible refine LeO.ite ?_ ?_)
      | (with_reducible refine LeO.bind ?_ (fun _ => ?_))
      | exact ih0 _ _ _ _ _
      | exact ih1 _ _ _ _ _
      | exact ih2 _ _ _ _
      | exact ih3 _ _ _ _ _ _ _ _ _
      | exact tlv_Decode.mono _ _
      | exact wayfarerlaw08_Right.mono _ _ _ _ _ _
      | exact wayfarerlaw08_Same.mono _ _ _
      | exact wayfarerlaw08_parts.mono _ _ _ _ _ _ _
      | exact LeO.none _
      | refine LeO.ite ?_ ?_
      | refine LeO.bind ?_ (fun _ => ?_)
set_option maxHeartbeats 8000000 in
set_option maxRecDepth 100000 in
theorem wayfarerlaw08_TlvPads.calls (k : Nat) (A0 : Option Addr) (c0 : Nat) (l0 : List (S62)) (A1 : Option Addr) (c1 : Nat) (l1 : List Int) (a2 : Int) (A3 : Option Addr) (c3 : Nat) (l3 : List Int) (r : Bool) (w : World) (hr0 : Kd.C k62 w A0 l0.length l0) (hc0 : l0.length ≤ c0) (hr1 : Kd.C (Kd.int .u8) w A1 l1.length l1) (hc1 : l1.length ≤ c1) (hr3 : Kd.C (Kd.int .u8) w A3 l3.length l3) (hc3 : l3.length ≤ c3) (h : wayfarerlaw08_TlvPads.f k l0 l1 a2 l3 = some r) :
    Calls Try.prog 13 #[.slice A0 l0.length c0, .slice A1 l1.length c1, .int .u8 a2, .slice A3 l3.length c3] w fun e w' => e = .returned (.bool r) ∧ Below w.heap.size w w' := by
  have hu62 := Try.underlying62
  have HR0 := Aside0.mk hr0
  have HC0 := Aside0.mk hc0
  clear hr0 hc0
  have HR1 := Aside0.mk hr1
  have HC1 := Aside0.mk hc1
  clear hr1 hc1
  have HR3 := Aside0.mk hr3
  have HC3 := Aside0.mk hc3
  clear hr3 hc3
  have HB := Aside0.mk (Below.refl w.heap.size w)
  have H : ((wayfarerlaw08_head.f).bind fun t392 => (if t392 = true then (if (l0.length : Int) > 12 then (wayfarerlaw08_TlvPads.j0 k l0 l1 a2 l3 true) else (if (l1.length : Int) > 40 then (wayfarerlaw08_TlvPads.j0 k l0 l1 a2 l3 true) else (wayfarerlaw08_TlvPads.j0 k l0 l1 a2 l3 (decide ((l3.length : Int) > 20))))) else (some false))) = some r := h
  clear h
  replace H := Option.bind_eq_some_iff.mp H
  obtain ⟨t392, A50, H⟩ := H
  replace H : (if t392 = true then (if (l0.length : Int) > 12 then (wayfarerlaw08_TlvPads.j0 k l0 l1 a2 l3 true) else (if (l1.length : Int) > 40 then (wayfarerlaw08_TlvPads.j0 k l0 l1 a2 l3 true) else (wayfarerlaw08_TlvPads.j0 k l0 l1 a2 l3 (decide ((l3.length : Int) > 20))))) else (some false)) = some r := H
  have A5 := Aside0.mk A50
  clear A50
  by_cases c6 : t392 = true
  case neg =>
    replace c6 := Bool.eq_false_iff.mpr c6
    subst c6
    have H1 : (some false) = some r := by rw [if_neg (show ¬ (false = true) by decide)] at H; exact H
    clear H
    have H := H1
    clear H1
    obtain rfl := Option.some.inj H
    go_enter Try.func13, Try.ntmps13
    go_wp2_with (first | ((with_reducible refine gate_callee (f := 34) rfl ?_); refine goesL_ (some 16) rfl rfl Try.func34 (by kernel_rfl) rfl #[] rfl (by (try simp only [List.map_toArray, List.map_cons, List.map_nil]); first | done | rfl | (simp only [List.length_drop, List.length_take]; rfl)) ?_; (with_reducible refine (wayfarerlaw08_head.calls  false _ A5.out).mono ?_); rintro e w83 ⟨rfl, hb⟩; refine ⟨_, rfl, ?_⟩; have n0_ := Aside0.mk (below_step (by repeat (first | (with_reducible first | exact HB.out | apply below_alloc | apply pw_below_drewN | apply below_drew1) | exact HB.out)) hb); clear HB; have HB := n0_; clear n0_; (try clear hb); (try clear hb2); (try clear hk); (try clear hi)))
    go_ret
    exact ⟨by first | rfl | (simp [errW_none, errW_some] <;> rfl) | (simp [*, errW_none, errW_some] <;> rfl), by repeat (first | (with_reducible first | exact HB.out | apply below_alloc | apply pw_below_drewN | apply below_drew1) | exact HB.out)⟩

  subst c6
  have H1 : (if (l0.length : Int) > 12 then (wayfarerlaw08_TlvPads.j0 k l0 l1 a2 l3 true) else (if (l1.length : Int) > 40 then (wayfarerlaw08_TlvPads.j0 k l0 l1 a2 l3 true) else (wayfarerlaw08_TlvPads.j0 k l0 l1 a2 l3 (decide ((l3.length : Int) > 20))))) = some r := by rw [if_pos rfl] at H; exact H
  clear H
  have H := H1
  clear H1
  have HC7 := Aside0.mk H
  clear H
  go_enter Try.func13, Try.ntmps13
  go_upto_region 3 with (first | ((with_reducible refine gate_callee (f := 34) rfl ?_); refine goesL_ (some 16) rfl rfl Try.func34 (by kernel_rfl) rfl #[] rfl (by (try simp only [List.map_toArray, List.map_cons, List.map_nil]); first | done | rfl | (simp only [List.length_drop, List.length_take]; rfl)) ?_; (with_reducible refine (wayfarerlaw08_head.calls  true _ A5.out).mono ?_); rintro e w8 ⟨rfl, hb⟩; refine ⟨_, rfl, ?_⟩; have n0_ := Aside0.mk (below_step (by repeat (first | (with_reducible first | exact HB.out | apply below_alloc | apply pw_below_drewN | apply below_drew1) | exact HB.out)) hb); clear HB; have HB := n0_; clear n0_; (try clear hb); (try clear hb2); (try clear hk); (try clear hi)))
  (try simp only [Act.put, List.setIfInBounds_toArray, List.set_cons_zero, List.set_cons_succ])
  go_cut [30] (fun v30 wc => ∃ (kq : Nat) (x30_6 : Bool), v30 = .bool x30_6 ∧ Aside0 (wayfarerlaw08_TlvPads.j0 kq l0 l1 a2 l3 x30_6 = some r) ∧ Aside0 (kq ≤ k) ∧ Aside0 (Below w.heap.size w wc))
  case first =>
    have H := HC7.out
    clear HC7
    by_cases c9 : (l0.length : Int) > 12
    case pos =>
      rw [if_pos c9] at H; have c9b0 : decide (12 < (l0.length : Int)) = true := decide_eq_true c9
      have c9b1 : decide (12 < l0.length) = true := decide_eq_true (by omega)
      clear c9
      (first | rw [c9b0] | (simp only [i64_w, i32_w]; rw [c9b0]) | skip)
      have H' := Aside0.mk H
      clear H
      go_wp2
      go_meet
      case rel => exact ⟨_, (true), (by first | rfl | (simp; done) | (simp [*]; done)), H', ⟨by first | omega | exact Nat.le_refl _⟩, ⟨by repeat (first | (with_reducible first | exact HB.out | apply below_alloc | apply pw_below_drewN | apply below_drew1) | exact HB.out)⟩⟩
    rw [if_neg c9] at H; have c9b0 : decide (12 < (l0.length : Int)) = false := decide_eq_false c9
    have c9b1 : decide (12 < l0.length) = false := decide_eq_false (by omega)
    clear c9
    (first | rw [c9b0] | (simp only [i64_w, i32_w]; rw [c9b0]) | skip)
    by_cases c10 : (l1.length : Int) > 40
    case neg =>
      rw [if_neg c10] at H; have c10b0 : decide (40 < (l1.length : Int)) = false := decide_eq_false c10
      have c10b1 : decide (40 < l1.length) = false := decide_eq_false (by omega)
      clear c10
      have H' := Aside0.mk H
      clear H
      go_wp2
      go_meet
      case rel => exact ⟨_, (decide ((l3.length : Int) > 20)), (by first | rfl | (simp; done) | (simp [*]; done)), H', ⟨by first | omega | exact Nat.le_refl _⟩, ⟨by repeat (first | (with_reducible first | exact HB.out | apply below_alloc | apply pw_below_drewN | apply below_drew1) | exact HB.out)⟩⟩
    rw [if_pos c10] at H; have c10b0 : decide (40 < (l1.length : Int)) = true := decide_eq_true c10
    have c10b1 : decide (40 < l1.length) = true := decide_eq_true (by omega)
    clear c10
    have H' := Aside0.mk H
    clear H
    go_wp2
    go_meet
    case rel => exact ⟨_, (true), (by first | rfl | (simp; done) | (simp [*]; done)), H', ⟨by first | omega | exact Nat.le_refl _⟩, ⟨by repeat (first | (with_reducible first | exact HB.out | apply below_alloc | apply pw_below_drewN | apply below_drew1) | exact HB.out)⟩⟩
  case rest =>
    clear HC7
    try clear c1; try clear p2; try clear c3; try clear c6; try clear c9; try clear c9b0; try clear c9b1; try clear c10; try clear c10b0; try clear c10b1
    obtain ⟨kq, x30_6, rfl, HA, HJ6, HB⟩ := hcut
    cases kq with
    | zero => exact absurd HA.out (by simp [wayfarerlaw08_TlvPads.j0])
    | succ kj6 =>
      have H := HA.out
      clear HA
      simp only [wayfarerlaw08_TlvPads.j0] at H
      by_cases c11 : x30_6 = true
      case pos =>
        subst c11
        have H1 : (some true) = some r := by rw [if_pos rfl] at H; exact H
        clear H
        have H := H1
        clear H1
        obtain rfl := Option.some.inj H
        go_wp2
        go_ret
        exact ⟨by first | rfl | (simp [errW_none, errW_some] <;> rfl) | (simp [*, errW_none, errW_some] <;> rfl), by repeat (first | (with_reducible first | exact HB.out | apply below_alloc | apply pw_below_drewN | apply below_drew1) | exact HB.out)⟩
      replace c11 := Bool.eq_false_iff.mpr c11
      subst c11
      have H1 : (if a2 = 0 then (wayfarerlaw08_TlvPads.j1 kj6 l0 l1 a2 l3 true) else (if a2 = 2 then (wayfarerlaw08_TlvPads.j1 kj6 l0 l1 a2 l3 true) else (wayfarerlaw08_TlvPads.j1 kj6 l0 l1 a2 l3 (a2 == 3)))) = some r := by rw [if_neg (show ¬ (false = true) by decide)] at H; exact H
      clear H
      have H := H1
      clear H1
      have HC12 := Aside0.mk H
      clear H
      go_upto_region 5 with (fail)
      go_cut [40] (fun v40 wc => ∃ (kq : Nat) (x40_11 : Bool), v40 = .bool x40_11 ∧ Aside0 (wayfarerlaw08_TlvPads.j1 kq l0 l1 a2 l3 x40_11 = some r) ∧ Aside0 (kq ≤ kj6) ∧ Aside0 (Below w.heap.size w wc))
      case first =>
        have H := HC12.out
        clear HC12
        by_cases c13 : a2 = 0
        case pos =>
          rw [if_pos c13] at H; have c13b0 : (a2 == 0) = true := beq_iff_eq.mpr c13
          have c13b1 : (a2 != 0) = false := bne_eq_false_iff_eq.mpr c13
          clear c13
          (first | rw [c13b0] | (simp only [i64_w, i32_w]; rw [c13b0]) | skip)
          have H' := Aside0.mk H
          clear H
          go_wp2
          go_meet
          case rel => exact ⟨_, (true), (by first | rfl | (simp; done) | (simp [*]; done)), H', ⟨by have := HJ6.out; first | omega | exact Nat.le_refl _⟩, ⟨by repeat (first | (with_reducible first | exact HB.out | apply below_alloc | apply pw_below_drewN | apply below_drew1) | exact HB.out)⟩⟩
        rw [if_neg c13] at H; have c13b0 : (a2 == 0) = false := beq_eq_false_iff_ne.mpr c13
        have c13b1 : (a2 != 0) = true := bne_iff_ne.mpr c13
        (first | rw [c13b0] | (simp only [i64_w, i32_w]; rw [c13b0]) | skip)
        by_cases c14 : a2 = 2
        case neg =>
          rw [if_neg c14] at H; have c14b0 : (a2 == 2) = false := beq_eq_false_iff_ne.mpr c14
          have c14b1 : (a2 != 2) = true := bne_iff_ne.mpr c14
          have H' := Aside0.mk H
          clear H
          go_wp2
          go_meet
          case rel => exact ⟨_, ((a2 == 3)), (by first | rfl | (simp; done) | (simp [*]; done)), H', ⟨by have := HJ6.out; first | omega | exact Nat.le_refl _⟩, ⟨by repeat (first | (with_reducible first | exact HB.out | apply below_alloc | apply pw_below_drewN | apply below_drew1) | exact HB.out)⟩⟩
        rw [if_pos c14] at H; have c14b0 : (a2 == 2) = true := beq_iff_eq.mpr c14
        have c14b1 : (a2 != 2) = false := bne_eq_false_iff_eq.mpr c14
        clear c14
        have H' := Aside0.mk H
        clear H
        go_wp2
        go_meet
        case rel => exact ⟨_, (true), (by first | rfl | (simp; done) | (simp [*]; done)), H', ⟨by have := HJ6.out; first | omega | exact Nat.le_refl _⟩, ⟨by repeat (first | (with_reducible first | exact HB.out | apply below_alloc | apply pw_below_drewN | apply below_drew1) | exact HB.out)⟩⟩
      case rest =>
        clear HC12
        try clear c1; try clear p2; try clear c3; try clear c6; try clear c9; try clear c9b0; try clear c9b1; try clear c10; try clear c10b0; try clear c10b1; try clear c11; try clear c13; try clear c13b0; try clear c13b1; try clear c14; try clear c14b0; try clear c14b1; try clear p2
        obtain ⟨kq, x40_11, rfl, HA, HJ11, HB⟩ := hcut
        cases kq with
        | zero => exact absurd HA.out (by simp [wayfarerlaw08_TlvPads.j1])
        | succ kj11 =>
          have H := HA.out
          clear HA
          simp only [wayfarerlaw08_TlvPads.j1] at H
          have HC15 := Aside0.mk H
          clear H
          go_upto_if 40 with (fail)
          go_cut [2] (fun v2 wc => ∃ (kq : Nat) (x2_14 : Int), v2 = .int .u8 x2_14 ∧ Aside0 (wayfarerlaw08_TlvPads.j2 kq l0 l1 x2_14 l3 = some r) ∧ Aside0 (kq ≤ kj11) ∧ Aside0 (Below w.heap.size w wc))
          case first =>
            have H := HC15.out
            clear HC15
            by_cases c16 : x40_11 = true
            case pos =>
              subst c16
              have H1 : (wayfarerlaw08_TlvPads.j2 kj11 l0 l1 9 l3) = some r := by rw [if_pos rfl] at H; exact H
              clear H
              have H := H1
              clear H1
              have H' := Aside0.mk H
              clear H
              go_wp2
              go_meet
              case rel => exact ⟨_, (9), (by first | rfl | (simp; done) | (simp [*]; done)), H', ⟨by have := HJ6.out; have := HJ11.out; first | omega | exact Nat.le_refl _⟩, ⟨by repeat (first | (with_reducible first | exact HB.out | apply below_alloc | apply pw_below_drewN | apply below_drew1) | exact HB.out)⟩⟩
            replace c16 := Bool.eq_false_iff.mpr c16
            subst c16
            have H1 : (wayfarerlaw08_TlvPads.j2 kj11 l0 l1 a2 l3) = some r := by rw [if_neg (show ¬ (false = true) by decide)] at H; exact H
            clear H
            have H := H1
            clear H1
            have H' := Aside0.mk H
            clear H
            go_wp2
            go_meet
            case rel => exact ⟨_, (a2), (by first | rfl | (simp; done) | (simp [*]; done)), H', ⟨by have := HJ6.out; have := HJ11.out; first | omega | exact Nat.le_refl _⟩, ⟨by repeat (first | (with_reducible first | exact HB.out | apply below_alloc | apply pw_below_drewN | apply below_drew1) | exact HB.out)⟩⟩
          case rest =>
            clear HC15
            try clear c1; try clear p2; try clear c3; try clear c6; try clear c9; try clear c9b0; try clear c9b1; try clear c10; try clear c10b0; try clear c10b1; try clear c11; try clear c13; try clear c13b0; try clear c13b1; try clear c14; try clear c14b0; try clear c14b1; try clear c16; try clear p2
            obtain ⟨kq, x2_14, rfl, HA, HJ14, HB⟩ := hcut
            cases kq with
            | zero => exact absurd HA.out (by simp [wayfarerlaw08_TlvPads.j2])
            | succ kj14 =>
              have H := HA.out
              clear HA
              simp only [wayfarerlaw08_TlvPads.j2] at H
              obtain ⟨y393, hy393⟩ : ∃ y_ : List Int, y_ = (([] : List Int)) := ⟨_, rfl⟩
              replace H : (wayfarerlaw08_TlvPads.l0 kj14 l1 x2_14 l3 y393 (([] : List (S62))) 0 l0 (l0.length : Int) 0) = some r := by first | (rw [hy393]; with_reducible exact H) | (have H2_ := (Option.bind_some _ _).symm.trans H; rw [hy393]; with_reducible exact H2_) | (have H2_ := (Option.bind_some _ _).symm.trans H; with_reducible exact H2_) | with_reducible exact H | (rw [hy393]; exact H) | exact H
              have Ny393 := Aside0.mk hy393
              clear hy393
              obtain ⟨y396, hy396⟩ : ∃ y_ : List (S62), y_ = (([] : List (S62))) := ⟨_, rfl⟩
              replace H : (wayfarerlaw08_TlvPads.l0 kj14 l1 x2_14 l3 y393 y396 0 l0 (l0.length : Int) 0) = some r := by first | (rw [hy396]; with_reducible exact H) | (have H2_ := (Option.bind_some _ _).symm.trans H; rw [hy396]; with_reducible exact H2_) | (have H2_ := (Option.bind_some _ _).symm.trans H; with_reducible exact H2_) | with_reducible exact H | (rw [hy396]; exact H) | exact H
              have Ny396 := Aside0.mk hy396
              clear hy396
              have H' := Aside0.mk H
              clear H
              go_wp2_with (first | ((with_reducible refine gate_dst (N := 41) rfl ?_); (try (refine gate_guard (by rfl) ?_; dsimp only)); refine Kd.R_lit (Kd.int .u8) _ 5 ?hg (N := 41) ?hd (xs := ([] : List Int)) (inner := []) (ok := fun _ => True) (okp := fun _ => True) ?hr ?hp (fun _ hk => hk) trivial (Below.refl _ _) (Nat.le_refl _) (by simp) ?_; (case hd => rfl); (case hg => rfl); (case hr => first | (go_simp; done) | (go_simp; rfl)); (case hp => exact (Reps.none _ _)); intro v394 w17 ho18 hb hg_ hnew_; clear hg_ hnew_; (first | rw [← Ny393.out] at ho18 | (simp only [Int.reduceToNat] at ho18; rw [← Ny393.out] at ho18)); have n0_ := Aside0.mk (Kd.R_lower ho18 (below_size (by repeat (first | (with_reducible first | exact HB.out | apply below_alloc | apply pw_below_drewN | apply below_drew1) | exact HB.out)))); have n1_ := Aside0.mk (below_step (by repeat (first | (with_reducible first | exact HB.out | apply below_alloc | apply pw_below_drewN | apply below_drew1) | exact HB.out)) hb); clear HB; have HO395 := n0_; have HB := n1_; clear n0_ n1_; clear hb ho18) | ((with_reducible refine gate_dst (N := 42) rfl ?_); (try (refine gate_guard (by rfl) ?_; dsimp only)); refine Kd.R_lit k62 _ 62 ?hg (N := 42) ?hd (xs := ([] : List (S62))) (inner := []) (ok := fun _ => True) (okp := fun _ => True) ?hr ?hp (fun _ hk => hk) trivial (Below.refl _ _) (Nat.le_refl _) (by simp) ?_; (case hd => rfl); (case hg => rfl); (case hr => first | (go_simp; done) | (go_simp; rfl)); (case hp => exact (Reps.none _ _)); intro v397 w19 ho20 hb hg_ hnew_; clear hg_ hnew_; (first | rw [← Ny396.out] at ho20 | (simp only [Int.reduceToNat] at ho20; rw [← Ny396.out] at ho20)); have n0_ := Aside0.mk (Kd.R_below (by (with_reducible repeat (first | apply Kd.R_alloc | apply Kd.R_drewN | apply Kd.R_drew)); exact HO395.out) hb); have n1_ := Aside0.mk (Kd.R_lower ho20 (below_size (by repeat (first | (with_reducible first | exact HB.out | apply below_alloc | apply pw_below_drewN | apply below_drew1) | exact HB.out)))); have n2_ := Aside0.mk (below_step (by repeat (first | (with_reducible first | exact HB.out | apply below_alloc | apply pw_below_drewN | apply below_drew1) | exact HB.out)) hb); clear HO395; clear HB; have HO395 := n0_; have HO398 := n1_; have HB := n2_; clear n0_ n1_ n2_; clear hb ho20))
              go_loopg [9, 10, 11, 45] kj14 (fun kq v9 v10 v11 v45 w' => ∃ (x9_4 : List Int) (x10_4 : List (S62)) (x11_4 : Int) (x45_4 : Int), v11 = .int .u32 x11_4 ∧ v45 = .int .i64 x45_4 ∧ Aside0 (wayfarerlaw08_TlvPads.l0 kq l1 x2_14 l3 x9_4 x10_4 x11_4 l0 (l0.length : Int) x45_4 = some r) ∧ Aside0 (kq ≤ kj14) ∧ Aside0 (Kd.R (Kd.int .u8) 5 w' w.heap.size (fun _ => True) v9 x9_4) ∧ Aside0 (Kd.R k62 62 w' w.heap.size (fun _ => True) v10 x10_4) ∧ Aside0 (Below w.heap.size w w'))
              case atStart => exact ⟨(y393), (y396), (0), (0), (by first | rfl | (simp; done) | (simp [*]; done)), (by first | rfl | (simp; done) | (simp [*]; done)), H', ⟨Nat.le_refl _⟩, ⟨by (with_reducible repeat (first | apply Kd.R_alloc | apply Kd.R_drewN | apply Kd.R_drew)); exact HO395.out⟩, ⟨by (with_reducible repeat (first | apply Kd.R_alloc | apply Kd.R_drewN | apply Kd.R_drew)); exact HO398.out⟩, ⟨by repeat (first | (with_reducible first | exact HB.out | apply below_alloc | apply pw_below_drewN | apply below_drew1) | exact HB.out)⟩⟩
              case round =>
                clear H'
                try clear c1; try clear p2; try clear c3; try clear c6; try clear c9; try clear c9b0; try clear c9b1; try clear c10; try clear c10b0; try clear c10b1; try clear c11; try clear c13; try clear c13b0; try clear c13b1; try clear c14; try clear c14b0; try clear c14b1; try clear c16; try clear p2
                obtain ⟨x9_4, x10_4, x11_4, x45_4, rfl, rfl, HA, HK4, HO_9, HO_10, HB⟩ := hrel
                cases gk with
                | zero => exact absurd HA.out (by simp [wayfarerlaw08_TlvPads.l0])
                | succ k4 =>
                  have H := HA.out
                  clear HA
                  simp only [wayfarerlaw08_TlvPads.l0] at H
                  by_cases c21 : x45_4 < (l0.length : Int)
                  case neg =>
                    rw [if_neg c21] at H; have c21b0 : decide (x45_4 < (l0.length : Int)) = false := decide_eq_false c21
                    clear c21
                    obtain ⟨y399, hy399⟩ : ∃ y_ : List Int, y_ = (([87, 1, (wrap64 ((x9_4.length : Int) / 256)) % 256, (x9_4.length : Int) % 256] : List Int)) := ⟨_, rfl⟩
                    replace H : (if y399.length + x9_4.length < 140737488355328 then ((tlv_Decode.f k4 (y399 ++ x9_4)).bind fun bt405 => (if bt405.2 = true then ((wayfarerlaw08_Same.f k4 bt405.1 x10_4).bind fun t409 => (some t409)) else (some false))) else (none)) = some r := by first | (rw [hy399]; with_reducible exact H) | (have H2_ := (Option.bind_some _ _).symm.trans H; rw [hy399]; with_reducible exact H2_) | (have H2_ := (Option.bind_some _ _).symm.trans H; with_reducible exact H2_) | with_reducible exact H | (rw [hy399]; exact H) | exact H
                    have Ny399 := Aside0.mk hy399
                    clear hy399
                    by_cases c65 : y399.length + x9_4.length < 140737488355328
                    case neg =>
                      rw [if_neg c65] at H; exact absurd H (by simp)
                    rw [if_pos c65] at H; have LMc65 := Aside0.mk c65
                    clear c65
                    obtain ⟨y402, hy402⟩ : ∃ y_ : List Int, y_ = (y399 ++ x9_4) := ⟨_, rfl⟩
                    replace H : ((tlv_Decode.f k4 y402).bind fun bt405 => (if bt405.2 = true then ((wayfarerlaw08_Same.f k4 bt405.1 x10_4).bind fun t409 => (some t409)) else (some false))) = some r := by first | (rw [hy402]; with_reducible exact H) | (have H2_ := (Option.bind_some _ _).symm.trans H; rw [hy402]; with_reducible exact H2_) | (have H2_ := (Option.bind_some _ _).symm.trans H; with_reducible exact H2_) | with_reducible exact H | (rw [hy402]; exact H) | exact H
                    have Ny402 := Aside0.mk hy402
                    clear hy402
                    replace H := Option.bind_eq_some_iff.mp H
                    obtain ⟨⟨t405, t408⟩, A660, H⟩ := H
                    replace H : (if t408 = true then ((wayfarerlaw08_Same.f k4 t405 x10_4).bind fun t409 => (some t409)) else (some false)) = some r := H
                    have A66 := Aside0.mk A660
                    clear A660
                    by_cases c67 : t408 = true
                    case neg =>
                      replace c67 := Bool.eq_false_iff.mpr c67
                      subst c67
                      have H1 : (some false) = some r := by rw [if_neg (show ¬ (false = true) by decide)] at H; exact H
                      clear H
                      have H := H1
                      clear H1
                      obtain rfl := Option.some.inj H
                      obtain ⟨Ao77, co77, eo77⟩ := Kd.R_slice HO_9.out
                      subst eo77
                      go_wp2_with (first | ((with_reducible refine gate_dst (N := 95) rfl ?_); (try (refine gate_guard (by rfl) ?_; dsimp only)); refine Kd.R_lit (Kd.int .u8) _ 5 ?hg (N := 95) ?hd (xs := ([87, 1, (wrap64 ((x9_4.length : Int) / 256)) % 256, (x9_4.length : Int) % 256] : List Int)) (inner := [.int .u8 87, .int .u8 1, .int .u8 ((wrap64 ((x9_4.length : Int) / 256)) % 256), .int .u8 ((x9_4.length : Int) % 256)]) (ok := fun _ => True) (okp := fun _ => True) ?hr ?hp (fun _ hk => hk) trivial (Below.refl _ _) (Nat.le_refl _) (by simp) ?_; (case hd => rfl); (case hg => rfl); (case hr => first | (go_simp; done) | (go_simp; rfl)); (case hp => exact (Reps.one (show Kd.M (Kd.int .u8) _ _ _ 87 [.int .u8 87] from rfl) (Reps.one (show Kd.M (Kd.int .u8) _ _ _ 1 [.int .u8 1] from rfl) (Reps.one (show Kd.M (Kd.int .u8) _ _ _ ((wrap64 ((x9_4.length : Int) / 256)) % 256) [.int .u8 ((wrap64 ((x9_4.length : Int) / 256)) % 256)] from rfl) (Reps.one (show Kd.M (Kd.int .u8) _ _ _ ((x9_4.length : Int) % 256) [.int .u8 ((x9_4.length : Int) % 256)] from rfl) (Reps.none _ _)))))); intro v400 w78 ho79 hb hg_ hnew_; clear hg_ hnew_; (first | rw [← Ny399.out] at ho79 | (simp only [Int.reduceToNat] at ho79; rw [← Ny399.out] at ho79)); have n0_ := Aside0.mk (Kd.R_elder' (by (with_reducible repeat (first | apply Kd.R_alloc | apply Kd.R_drewN | apply Kd.R_drew)); exact HO_9.out) (Kd.R_base ho79) hb); have n1_ := Aside0.mk (Kd.R_below (by (with_reducible repeat (first | apply Kd.R_alloc | apply Kd.R_drewN | apply Kd.R_drew)); exact HO_10.out) hb); have n2_ := Aside0.mk (Kd.R_lower (Kd.R_new' ho79 (Kd.R_lt (by (with_reducible repeat (first | apply Kd.R_alloc | apply Kd.R_drewN | apply Kd.R_drew)); exact HO_9.out))) (below_size (by repeat (first | (with_reducible first | exact HB.out | apply below_alloc | apply pw_below_drewN | apply below_drew1) | exact HB.out)))); have n3_ := Aside0.mk (below_step (by repeat (first | (with_reducible first | exact HB.out | apply below_alloc | apply pw_below_drewN | apply below_drew1) | exact HB.out)) hb); clear HO_9; clear HO_10; clear HB; have HO_9 := n0_; have HO_10 := n1_; have HO401 := n2_; have HB := n3_; clear n0_ n1_ n2_ n3_; clear hb ho79) | ((with_reducible refine gate_builtin (b := .append) (xs := #[.tmp 95, .tmp 96]) rfl ?_); (try (refine gate_guard (by rfl) ?_; dsimp only)); at_builtin; refine Kd.R_append_rows (Kd.int .u8) (w0 := w) w.heap.size rfl (.tmp 95) (.tmp 96) 22 5 (.int .u8 0) 1 rfl Try.underlying22 info5 rfl (by decide) (by omega) v400 y399 x9_4 _ _ _ (fun k_ => some k_ ≠ (.slice Ao77 x9_4.length co77 : Value).ownBlock) (fun _ => False) rfl rfl ?aO ?aR (fun _ _ h => h) (fun _ h => h.elim) ?aF ?aB ?aS ?aL ?_; (case aR => repeat (first | exact (Kd.R_reads' HO_9.out).2.2 | (with_reducible refine Kd.C_alloc ?_ _) | (with_reducible refine Kd.C_drewN ?_ _) | (with_reducible refine Kd.C_drew ?_))); (case aB => exact (by repeat (first | (with_reducible first | exact HB.out | apply below_alloc | apply pw_below_drewN | apply below_drew1) | exact HB.out))); (case aF => exact (fun k_ hk => Kd.fresh' (Kd.R_lt (by (with_reducible repeat (first | apply Kd.R_alloc | apply Kd.R_drewN | apply Kd.R_drew)); exact HO_9.out)) k_ hk)); (case aO => exact (by (with_reducible repeat (first | apply Kd.R_alloc | apply Kd.R_drewN | apply Kd.R_drew)); exact Kd.R_mono HO401.out (fun _ hk => hk.2))); (case aS => exact (below_size (by repeat (first | (with_reducible first | exact HB.out | apply below_alloc | apply pw_below_drewN | apply below_drew1) | exact HB.out)))); (case aL => have := LMc65.out; omega); intro v403 w80 ho hb hg hat; rw [← Ny402.out] at ho; have n0_ := Aside0.mk (Kd.R_after (ok := (fun _ => True)) (by (with_reducible repeat (first | apply Kd.R_alloc | apply Kd.R_drewN | apply Kd.R_drew)); exact HO_9.out) hg hat); have n1_ := Aside0.mk (Kd.R_over' (by (with_reducible repeat (first | apply Kd.R_alloc | apply Kd.R_drewN | apply Kd.R_drew)); exact HO_10.out) (Kd.R_typed (by (with_reducible repeat (first | apply Kd.R_alloc | apply Kd.R_drewN | apply Kd.R_drew)); exact HO401.out)) (by decide) hg); have n2_ := Aside0.mk (hb); have n3_ := Aside0.mk (ho); clear HO_9; clear HO_10; clear HB; clear HO401; have HO_9 := n0_; have HO_10 := n1_; have HB := n2_; have HO404 := n3_; clear n0_ n1_ n2_ n3_; clear ho hb hg hat; obtain ⟨Ao81, co81, eo81⟩ := Kd.R_slice HO404.out; subst eo81) | ((with_reducible refine gate_callee (f := 39) rfl ?_); refine goesL_ (some 98) rfl rfl Try.func39 (by kernel_rfl) rfl #[.slice Ao81 y402.length co81] rfl (by (try simp only [List.map_toArray, List.map_cons, List.map_nil]); first | done | rfl | (simp only [List.length_drop, List.length_take]; rfl)) ?_; (with_reducible refine (tlv_Decode.calls k4 (fun k_ => some k_ = (.slice Ao81 y402.length co81 : Value).ownBlock) _ _ y402 t405 false _ ?side1 A66.out).mono ?_); (case side1 => exact Kd.R_V (Kd.R_tight rfl (Kd.R_apart' (HO404.out) (Kd.R_typed HO_10.out) (by decide)))); rintro e w82 ⟨v406, rfl, ho0, hb⟩; refine ⟨_, rfl, ?_⟩; have n0_ := Aside0.mk (Kd.R_below (by (with_reducible repeat (first | apply Kd.R_alloc | apply Kd.R_drewN | apply Kd.R_drew)); exact HO_9.out) hb); have n1_ := Aside0.mk (Kd.R_elder' (by (with_reducible repeat (first | apply Kd.R_alloc | apply Kd.R_drewN | apply Kd.R_drew)); exact HO_10.out) (Kd.R_base ho0) hb); have n2_ := Aside0.mk (Kd.R_below (by (with_reducible repeat (first | apply Kd.R_alloc | apply Kd.R_drewN | apply Kd.R_drew)); exact HO404.out) hb); have n3_ := Aside0.mk (Kd.R_lower (Kd.R_new' (Kd.R_mono (ok' := fun k_ => True) ho0 (fun _ hk_ => trivial)) (Kd.R_lt (by (with_reducible repeat (first | apply Kd.R_alloc | apply Kd.R_drewN | apply Kd.R_drew)); exact HO_10.out))) (below_size (by repeat (first | (with_reducible first | exact HB.out | apply below_alloc | apply pw_below_drewN | apply below_drew1) | exact HB.out)))); have n4_ := Aside0.mk (below_step (by repeat (first | (with_reducible first | exact HB.out | apply below_alloc | apply pw_below_drewN | apply below_drew1) | exact HB.out)) hb); clear HO_9; clear HO_10; clear HO404; clear HB; have HO_9 := n0_; have HO_10 := n1_; have HO404 := n2_; have HO407 := n3_; have HB := n4_; clear n0_ n1_ n2_ n3_ n4_; (try clear hb); (try clear hb2); (try clear hk); (try clear hi); (try clear ho0)))
                      go_ret
                      exact ⟨by first | rfl | (simp [errW_none, errW_some] <;> rfl) | (simp [*, errW_none, errW_some] <;> rfl), by repeat (first | (with_reducible first | exact HB.out | apply below_alloc | apply pw_below_drewN | apply below_drew1) | exact HB.out)⟩
                    subst c67
                    have H1 : ((wayfarerlaw08_Same.f k4 t405 x10_4).bind fun t409 => (some t409)) = some r := by rw [if_pos rfl] at H; exact H
                    clear H
                    have H := H1
                    clear H1
                    replace H := Option.bind_eq_some_iff.mp H
                    obtain ⟨t409, A680, H⟩ := H
                    replace H : (some t409) = some r := H
                    have A68 := Aside0.mk A680
                    clear A680
                    obtain rfl := Option.some.inj H
                    obtain ⟨Ao69, co69, eo69⟩ := Kd.R_slice HO_9.out
                    subst eo69
                    go_wp2_with (first | ((with_reducible refine gate_dst (N := 95) rfl ?_); (try (refine gate_guard (by rfl) ?_; dsimp only)); refine Kd.R_lit (Kd.int .u8) _ 5 ?hg (N := 95) ?hd (xs := ([87, 1, (wrap64 ((x9_4.length : Int) / 256)) % 256, (x9_4.length : Int) % 256] : List Int)) (inner := [.int .u8 87, .int .u8 1, .int .u8 ((wrap64 ((x9_4.length : Int) / 256)) % 256), .int .u8 ((x9_4.length : Int) % 256)]) (ok := fun _ => True) (okp := fun _ => True) ?hr ?hp (fun _ hk => hk) trivial (Below.refl _ _) (Nat.le_refl _) (by simp) ?_; (case hd => rfl); (case hg => rfl); (case hr => first | (go_simp; done) | (go_simp; rfl)); (case hp => exact (Reps.one (show Kd.M (Kd.int .u8) _ _ _ 87 [.int .u8 87] from rfl) (Reps.one (show Kd.M (Kd.int .u8) _ _ _ 1 [.int .u8 1] from rfl) (Reps.one (show Kd.M (Kd.int .u8) _ _ _ ((wrap64 ((x9_4.length : Int) / 256)) % 256) [.int .u8 ((wrap64 ((x9_4.length : Int) / 256)) % 256)] from rfl) (Reps.one (show Kd.M (Kd.int .u8) _ _ _ ((x9_4.length : Int) % 256) [.int .u8 ((x9_4.length : Int) % 256)] from rfl) (Reps.none _ _)))))); intro v400 w70 ho71 hb hg_ hnew_; clear hg_ hnew_; (first | rw [← Ny399.out] at ho71 | (simp only [Int.reduceToNat] at ho71; rw [← Ny399.out] at ho71)); have n0_ := Aside0.mk (Kd.R_elder' (by (with_reducible repeat (first | apply Kd.R_alloc | apply Kd.R_drewN | apply Kd.R_drew)); exact HO_9.out) (Kd.R_base ho71) hb); have n1_ := Aside0.mk (Kd.R_below (by (with_reducible repeat (first | apply Kd.R_alloc | apply Kd.R_drewN | apply Kd.R_drew)); exact HO_10.out) hb); have n2_ := Aside0.mk (Kd.R_lower (Kd.R_new' ho71 (Kd.R_lt (by (with_reducible repeat (first | apply Kd.R_alloc | apply Kd.R_drewN | apply Kd.R_drew)); exact HO_9.out))) (below_size (by repeat (first | (with_reducible first | exact HB.out | apply below_alloc | apply pw_below_drewN | apply below_drew1) | exact HB.out)))); have n3_ := Aside0.mk (below_step (by repeat (first | (with_reducible first | exact HB.out | apply below_alloc | apply pw_below_drewN | apply below_drew1) | exact HB.out)) hb); clear HO_9; clear HO_10; clear HB; have HO_9 := n0_; have HO_10 := n1_; have HO401 := n2_; have HB := n3_; clear n0_ n1_ n2_ n3_; clear hb ho71) | ((with_reducible refine gate_builtin (b := .append) (xs := #[.tmp 95, .tmp 96]) rfl ?_); (try (refine gate_guard (by rfl) ?_; dsimp only)); at_builtin; refine Kd.R_append_rows (Kd.int .u8) (w0 := w) w.heap.size rfl (.tmp 95) (.tmp 96) 22 5 (.int .u8 0) 1 rfl Try.underlying22 info5 rfl (by decide) (by omega) v400 y399 x9_4 _ _ _ (fun k_ => some k_ ≠ (.slice Ao69 x9_4.length co69 : Value).ownBlock) (fun _ => False) rfl rfl ?aO ?aR (fun _ _ h => h) (fun _ h => h.elim) ?aF ?aB ?aS ?aL ?_; (case aR => repeat (first | exact (Kd.R_reads' HO_9.out).2.2 | (with_reducible refine Kd.C_alloc ?_ _) | (with_reducible refine Kd.C_drewN ?_ _) | (with_reducible refine Kd.C_drew ?_))); (case aB => exact (by repeat (first | (with_reducible first | exact HB.out | apply below_alloc | apply pw_below_drewN | apply below_drew1) | exact HB.out))); (case aF => exact (fun k_ hk => Kd.fresh' (Kd.R_lt (by (with_reducible repeat (first | apply Kd.R_alloc | apply Kd.R_drewN | apply Kd.R_drew)); exact HO_9.out)) k_ hk)); (case aO => exact (by (with_reducible repeat (first | apply Kd.R_alloc | apply Kd.R_drewN | apply Kd.R_drew)); exact Kd.R_mono HO401.out (fun _ hk => hk.2))); (case aS => exact (below_size (by repeat (first | (with_reducible first | exact HB.out | apply below_alloc | apply pw_below_drewN | apply below_drew1) | exact HB.out)))); (case aL => have := LMc65.out; omega); intro v403 w72 ho hb hg hat; rw [← Ny402.out] at ho; have n0_ := Aside0.mk (Kd.R_after (ok := (fun _ => True)) (by (with_reducible repeat (first | apply Kd.R_alloc | apply Kd.R_drewN | apply Kd.R_drew)); exact HO_9.out) hg hat); have n1_ := Aside0.mk (Kd.R_over' (by (with_reducible repeat (first | apply Kd.R_alloc | apply Kd.R_drewN | apply Kd.R_drew)); exact HO_10.out) (Kd.R_typed (by (with_reducible repeat (first | apply Kd.R_alloc | apply Kd.R_drewN | apply Kd.R_drew)); exact HO401.out)) (by decide) hg); have n2_ := Aside0.mk (hb); have n3_ := Aside0.mk (ho); clear HO_9; clear HO_10; clear HB; clear HO401; have HO_9 := n0_; have HO_10 := n1_; have HB := n2_; have HO404 := n3_; clear n0_ n1_ n2_ n3_; clear ho hb hg hat; obtain ⟨Ao73, co73, eo73⟩ := Kd.R_slice HO404.out; subst eo73) | ((with_reducible refine gate_callee (f := 39) rfl ?_); refine goesL_ (some 98) rfl rfl Try.func39 (by kernel_rfl) rfl #[.slice Ao73 y402.length co73] rfl (by (try simp only [List.map_toArray, List.map_cons, List.map_nil]); first | done | rfl | (simp only [List.length_drop, List.length_take]; rfl)) ?_; (with_reducible refine (tlv_Decode.calls k4 (fun k_ => some k_ = (.slice Ao73 y402.length co73 : Value).ownBlock) _ _ y402 t405 true _ ?side1 A66.out).mono ?_); (case side1 => exact Kd.R_V (Kd.R_tight rfl (Kd.R_apart' (HO404.out) (Kd.R_typed HO_10.out) (by decide)))); rintro e w74 ⟨v406, rfl, ho0, hb⟩; refine ⟨_, rfl, ?_⟩; have n0_ := Aside0.mk (Kd.R_below (by (with_reducible repeat (first | apply Kd.R_alloc | apply Kd.R_drewN | apply Kd.R_drew)); exact HO_9.out) hb); have n1_ := Aside0.mk (Kd.R_elder' (by (with_reducible repeat (first | apply Kd.R_alloc | apply Kd.R_drewN | apply Kd.R_drew)); exact HO_10.out) (Kd.R_base ho0) hb); have n2_ := Aside0.mk (Kd.R_below (by (with_reducible repeat (first | apply Kd.R_alloc | apply Kd.R_drewN | apply Kd.R_drew)); exact HO404.out) hb); have n3_ := Aside0.mk (Kd.R_lower (Kd.R_new' (Kd.R_mono (ok' := fun k_ => True) ho0 (fun _ hk_ => trivial)) (Kd.R_lt (by (with_reducible repeat (first | apply Kd.R_alloc | apply Kd.R_drewN | apply Kd.R_drew)); exact HO_10.out))) (below_size (by repeat (first | (with_reducible first | exact HB.out | apply below_alloc | apply pw_below_drewN | apply below_drew1) | exact HB.out)))); have n4_ := Aside0.mk (below_step (by repeat (first | (with_reducible first | exact HB.out | apply below_alloc | apply pw_below_drewN | apply below_drew1) | exact HB.out)) hb); clear HO_9; clear HO_10; clear HO404; clear HB; have HO_9 := n0_; have HO_10 := n1_; have HO404 := n2_; have HO407 := n3_; have HB := n4_; clear n0_ n1_ n2_ n3_ n4_; (try clear hb); (try clear hb2); (try clear hk); (try clear hi); (try clear ho0); obtain ⟨Ao75, co75, eo75⟩ := Kd.R_slice HO407.out; subst eo75; obtain ⟨Ao76, co76, eo76⟩ := Kd.R_slice HO_10.out; subst eo76) | (go_at_call 40; (with_reducible refine (wayfarerlaw08_Same.calls k4 _ _ t405 _ _ x10_4 t409 _ ?side1 ?side2 ?side3 ?side4 A68.out).mono ?_); (case side1 => repeat (first | exact (Kd.R_reads' HO407.out).2.2 | (with_reducible refine Kd.C_alloc ?_ _) | (with_reducible refine Kd.C_drewN ?_ _) | (with_reducible refine Kd.C_drew ?_))); (case side2 => exact (Kd.R_reads' HO407.out).2.1); (case side3 => repeat (first | exact (Kd.R_reads' HO_10.out).2.2 | (with_reducible refine Kd.C_alloc ?_ _) | (with_reducible refine Kd.C_drewN ?_ _) | (with_reducible refine Kd.C_drew ?_))); (case side4 => exact (Kd.R_reads' HO_10.out).2.1); rintro e w' ⟨rfl, ⟨nd, rfl⟩⟩))
                    go_ret
                    exact ⟨by first | rfl | (simp [errW_none, errW_some] <;> rfl) | (simp [*, errW_none, errW_some] <;> rfl), by repeat (first | (with_reducible first | exact HB.out | apply below_alloc | apply pw_below_drewN | apply below_drew1) | exact HB.out)⟩
                  rw [if_pos c21] at H; have c21b0 : decide (x45_4 < (l0.length : Int)) = true := decide_eq_true c21
                  clear c21
                  by_cases c22 : 0 ≤ x45_4
                  case neg =>
                    rw [if_neg c22] at H; exact absurd H (by simp)
                  rw [if_pos c22] at H; have c22b0 : decide (0 ≤ x45_4) = true := decide_eq_true c22
                  clear c22
                  by_cases c23 : x45_4 < (l0.length : Int)
                  case neg =>
                    rw [if_neg c23] at H; exact absurd H (by simp)
                  rw [if_pos c23] at H; have c23b0 : decide (x45_4 < (l0.length : Int)) = true := decide_eq_true c23
                  clear c23
                  replace H := Option.bind_eq_some_iff.mp H
                  obtain ⟨t412, A240, H⟩ := H
                  replace H : (if t412 = true then (if x45_4 < (l1.length : Int) then (if 0 ≤ (wrap64 (Go.bits .and .u8 (rd l1 x45_4) 7)) then (if x9_4.length + (wrap64 (Go.bits .and .u8 (rd l1 x45_4) 7) : Int).toNat < 140737488355328 then ((some (x9_4 ++ List.replicate (wrap64 (Go.bits .and .u8 (rd l1 x45_4) 7) : Int).toNat 0 : List Int)).bind fun y414 => ((some (([x2_14, ((l3.length : Int)) % 256] : List Int) : List Int)).bind fun y417 => (if y414.length + y417.length < 140737488355328 then ((some (y414 ++ y417 : List Int)).bind fun y420 => (if y420.length + l3.length < 140737488355328 then ((some (y420 ++ l3 : List Int)).bind fun y423 => ((wayfarerlaw08_parts.f k4 ((rd_T62 l0 x45_4).f0.f0) ((rd_T62 l0 x45_4).f0.f1) ((rd_T62 l0 x45_4).f1) ((rd_T62 l0 x45_4).f2.f0) ((rd_T62 l0 x45_4).f2.f1) x11_4).bind fun t426 => (if y423.length + t426.length < 140737488355328 then (if x10_4.length < 4398046511104 then (wayfarerlaw08_TlvPads.l0 k4 l1 x2_14 l3 (y423 ++ t426) (x10_4 ++ [(⟨(⟨(rd_T62 l0 x45_4).f0.f0, (rd_T62 l0 x45_4).f0.f1⟩ : S29), (rd_T62 l0 x45_4).f1, (⟨(rd_T62 l0 x45_4).f2.f0, (rd_T62 l0 x45_4).f2.f1⟩ : S39)⟩ : S62)]) ((rd_T62 l0 x45_4).f1) l0 (l0.length : Int) (wrap64 (x45_4 + 1))) else (none)) else (none)))) else (none))) else (none)))) else (none)) else (none)) else ((wayfarerlaw08_parts.f k4 ((rd_T62 l0 x45_4).f0.f0) ((rd_T62 l0 x45_4).f0.f1) ((rd_T62 l0 x45_4).f1) ((rd_T62 l0 x45_4).f2.f0) ((rd_T62 l0 x45_4).f2.f1) x11_4).bind fun t435 => (if x9_4.length + t435.length < 140737488355328 then (if x10_4.length < 4398046511104 then (wayfarerlaw08_TlvPads.l0 k4 l1 x2_14 l3 (x9_4 ++ t435) (x10_4 ++ [(⟨(⟨(rd_T62 l0 x45_4).f0.f0, (rd_T62 l0 x45_4).f0.f1⟩ : S29), (rd_T62 l0 x45_4).f1, (⟨(rd_T62 l0 x45_4).f2.f0, (rd_T62 l0 x45_4).f2.f1⟩ : S39)⟩ : S62)]) ((rd_T62 l0 x45_4).f1) l0 (l0.length : Int) (wrap64 (x45_4 + 1))) else (none)) else (none)))) else (wayfarerlaw08_TlvPads.l0 k4 l1 x2_14 l3 x9_4 x10_4 x11_4 l0 (l0.length : Int) (wrap64 (x45_4 + 1)))) = some r := H
                  have A24 := Aside0.mk A240
                  clear A240
                  by_cases c25 : t412 = true
                  case neg =>
                    replace c25 := Bool.eq_false_iff.mpr c25
                    subst c25
                    have H1 : (wayfarerlaw08_TlvPads.l0 k4 l1 x2_14 l3 x9_4 x10_4 x11_4 l0 (l0.length : Int) (wrap64 (x45_4 + 1))) = some r := by rw [if_neg (show ¬ (false = true) by decide)] at H; exact H
                    clear H
                    have H := H1
                    clear H1
                    have H' := Aside0.mk H
                    clear H
                    have p410 : 0 ≤ (x45_4 : Int) := of_decide_eq_true (by first | (with_reducible assumption) | assumption)
                    have q410 : x45_4 < (l0.length : Int) := of_decide_eq_true (by first | (with_reducible assumption) | assumption)
                    obtain ⟨ad410, e410, hx410_0, hx410_1, hx410_2, hx410_3, hx410_4⟩ := at_T62 HR0.out x45_4 p410 q410
                    cases e410
                    replace hx410_0 := (HB.out.cell (World.block_lt_of_cell? w _ hx410_0)).trans hx410_0
                    replace hx410_1 := (HB.out.cell (World.block_lt_of_cell? w _ hx410_1)).trans hx410_1
                    replace hx410_2 := (HB.out.cell (World.block_lt_of_cell? w _ hx410_2)).trans hx410_2
                    replace hx410_3 := (HB.out.cell (World.block_lt_of_cell? w _ hx410_3)).trans hx410_3
                    replace hx410_4 := (HB.out.cell (World.block_lt_of_cell? w _ hx410_4)).trans hx410_4
                    replace p410 := eq_true p410
                    replace q410 := eq_true q410
                    go_wp2_with (first | ((with_reducible refine gate_dst (N := 13) rfl ?_); (try (refine gate_guard (by rfl) ?_; dsimp only)); refine box_event ?hg (N := 13) ?hd (cs := #[.int .u32 0, .int .i64 0, .int .u32 0, .int .u32 0, .int .u16 0]) (t := 62) ?hr ?_; (case hd => rfl); (case hg => rfl); (case hr => first | (go_simp; done) | (go_simp; rfl)); intro gb411 hg w62 hbox hb; have n0_ := Aside0.mk (Kd.R_below (by (with_reducible repeat (first | apply Kd.R_alloc | apply Kd.R_drewN | apply Kd.R_drew)); exact HO_9.out) hb); have n1_ := Aside0.mk (Kd.R_below (Kd.R_elderB (by (with_reducible repeat (first | apply Kd.R_alloc | apply Kd.R_drewN | apply Kd.R_drew)); exact HO_10.out) gb411 (Nat.le_of_eq hg.symm)) hb); have n2_ := Aside0.mk (below_step (by repeat (first | (with_reducible first | exact HB.out | apply below_alloc | apply pw_below_drewN | apply below_drew1) | exact HB.out)) hb); have n3_ := Aside0.mk (hbox); have n4_ := Aside0.mk ((by rw [hg]; exact (below_size (by repeat (first | (with_reducible first | exact HB.out | apply below_alloc | apply pw_below_drewN | apply below_drew1) | exact HB.out))) : w.heap.size ≤ gb411)); have n5_ := Aside0.mk ((by rw [hg]; exact (below_size (by repeat (first | (with_reducible first | exact HB.out | apply below_alloc | apply pw_below_drewN | apply below_drew1) | exact HB.out))) : w.heap.size ≤ gb411)); clear HO_9; clear HO_10; clear HB; have HO_9 := n0_; have HO_10 := n1_; have HB := n2_; have BK411 := n3_; have GW411 := n4_; have GE411 := n5_; clear n0_ n1_ n2_ n3_ n4_ n5_; clear hb hbox hg; have hcz63_0 : w62.cell? ⟨gb411, 0, none⟩ = some (.int .u32 0) := (blk_cell BK411.out 0).trans rfl; have hcz63_1 : w62.cell? ⟨gb411, 1, none⟩ = some (.int .i64 0) := (blk_cell BK411.out 1).trans rfl; have hcz63_2 : w62.cell? ⟨gb411, 2, none⟩ = some (.int .u32 0) := (blk_cell BK411.out 2).trans rfl; have hcz63_3 : w62.cell? ⟨gb411, 3, none⟩ = some (.int .u32 0) := (blk_cell BK411.out 3).trans rfl; have hcz63_4 : w62.cell? ⟨gb411, 4, none⟩ = some (.int .u16 0) := (blk_cell BK411.out 4).trans rfl; have hfz63_0 := blk_frozen BK411.out 0; have hfz63_1 := blk_frozen BK411.out 1; have hfz63_2 := blk_frozen BK411.out 2; have hfz63_3 := blk_frozen BK411.out 3; have hfz63_4 := blk_frozen BK411.out 4) | ((with_reducible refine gate_callee (f := 36) rfl ?_); refine goesL_ (some 51) rfl rfl Try.func36 (by kernel_rfl) rfl #[.agg #[.int .u32 ((rd_T62 l0 x45_4).f0.f0), .int .i64 ((rd_T62 l0 x45_4).f0.f1), .int .u32 ((rd_T62 l0 x45_4).f1), .int .u32 ((rd_T62 l0 x45_4).f2.f0), .int .u16 ((rd_T62 l0 x45_4).f2.f1)]] rfl (by (try simp only [List.map_toArray, List.map_cons, List.map_nil]); first | done | rfl | (simp only [List.length_drop, List.length_take]; rfl)) ?_; (with_reducible refine (wayfarerlaw08_Right.calls k4 ((rd_T62 l0 x45_4).f0.f0) ((rd_T62 l0 x45_4).f0.f1) ((rd_T62 l0 x45_4).f1) ((rd_T62 l0 x45_4).f2.f0) ((rd_T62 l0 x45_4).f2.f1) false _ A24.out).mono ?_); rintro e w64 ⟨rfl, hb⟩; refine ⟨_, rfl, ?_⟩; have n0_ := Aside0.mk (Kd.R_below (by (with_reducible repeat (first | apply Kd.R_alloc | apply Kd.R_drewN | apply Kd.R_drew)); exact (Kd.R_mono (Kd.R_far (p := ⟨gb411, 4, none⟩) (Kd.R_far (p := ⟨gb411, 3, none⟩) (Kd.R_far (p := ⟨gb411, 2, none⟩) (Kd.R_far (p := ⟨gb411, 1, none⟩) (Kd.R_far (p := ⟨gb411, 0, none⟩) (Kd.R_types HO_9.out BK411.out (by decide)) (fun _ hk => hk.2) (.int .u32 ((rd_T62 l0 x45_4).f0.f0))) (fun _ hk => hk.2) (.int .i64 ((rd_T62 l0 x45_4).f0.f1))) (fun _ hk => hk.2) (.int .u32 ((rd_T62 l0 x45_4).f1))) (fun _ hk => hk.2) (.int .u32 ((rd_T62 l0 x45_4).f2.f0))) (fun _ hk => hk.2) (.int .u16 ((rd_T62 l0 x45_4).f2.f1))) (fun _ h_ => h_.1))) hb); have n1_ := Aside0.mk (Kd.R_below (by (with_reducible repeat (first | apply Kd.R_alloc | apply Kd.R_drewN | apply Kd.R_drew)); exact (Kd.R_mono (Kd.R_far (p := ⟨gb411, 4, none⟩) (Kd.R_far (p := ⟨gb411, 3, none⟩) (Kd.R_far (p := ⟨gb411, 2, none⟩) (Kd.R_far (p := ⟨gb411, 1, none⟩) (Kd.R_far (p := ⟨gb411, 0, none⟩) (Kd.R_mono HO_10.out (fun k_ hk => (⟨hk, hk.2⟩ : _ ∧ k_ ≠ gb411))) (fun _ hk => hk.2) (.int .u32 ((rd_T62 l0 x45_4).f0.f0))) (fun _ hk => hk.2) (.int .i64 ((rd_T62 l0 x45_4).f0.f1))) (fun _ hk => hk.2) (.int .u32 ((rd_T62 l0 x45_4).f1))) (fun _ hk => hk.2) (.int .u32 ((rd_T62 l0 x45_4).f2.f0))) (fun _ hk => hk.2) (.int .u16 ((rd_T62 l0 x45_4).f2.f1))) (fun _ h_ => h_.1))) hb); have n2_ := Aside0.mk (blk_below (g := gb411) (o := .cells #[.int .u32 ((rd_T62 l0 x45_4).f0.f0), .int .i64 ((rd_T62 l0 x45_4).f0.f1), .int .u32 ((rd_T62 l0 x45_4).f1), .int .u32 ((rd_T62 l0 x45_4).f2.f0), .int .u16 ((rd_T62 l0 x45_4).f2.f1)] 62 (0, 0)) (by (with_reducible repeat (first | refine blk_drewN ?_ _ | refine blk_drew ?_ | refine blk_alloc ?_ _)); refine blk_put (cs := #[.int .u32 ((rd_T62 l0 x45_4).f0.f0), .int .i64 ((rd_T62 l0 x45_4).f0.f1), .int .u32 ((rd_T62 l0 x45_4).f1), .int .u32 ((rd_T62 l0 x45_4).f2.f0), .int .u16 0]) ?_ 4 _ rfl; (with_reducible repeat (first | refine blk_drewN ?_ _ | refine blk_drew ?_ | refine blk_alloc ?_ _)); refine blk_put (cs := #[.int .u32 ((rd_T62 l0 x45_4).f0.f0), .int .i64 ((rd_T62 l0 x45_4).f0.f1), .int .u32 ((rd_T62 l0 x45_4).f1), .int .u32 0, .int .u16 0]) ?_ 3 _ rfl; (with_reducible repeat (first | refine blk_drewN ?_ _ | refine blk_drew ?_ | refine blk_alloc ?_ _)); refine blk_put (cs := #[.int .u32 ((rd_T62 l0 x45_4).f0.f0), .int .i64 ((rd_T62 l0 x45_4).f0.f1), .int .u32 0, .int .u32 0, .int .u16 0]) ?_ 2 _ rfl; (with_reducible repeat (first | refine blk_drewN ?_ _ | refine blk_drew ?_ | refine blk_alloc ?_ _)); refine blk_put (cs := #[.int .u32 ((rd_T62 l0 x45_4).f0.f0), .int .i64 0, .int .u32 0, .int .u32 0, .int .u16 0]) ?_ 1 _ rfl; (with_reducible repeat (first | refine blk_drewN ?_ _ | refine blk_drew ?_ | refine blk_alloc ?_ _)); refine blk_put (cs := #[.int .u32 0, .int .i64 0, .int .u32 0, .int .u32 0, .int .u16 0]) ?_ 0 _ rfl; (with_reducible repeat (first | refine blk_drewN ?_ _ | refine blk_drew ?_ | refine blk_alloc ?_ _)); exact BK411.out) hb); have n3_ := Aside0.mk (below_step (by repeat (first | (with_reducible first | exact HB.out | apply below_alloc | apply pw_below_drewN | apply below_drew1 | refine below_set ?_ GE411.out) | exact HB.out)) hb); clear HO_9; clear HO_10; clear BK411; clear HB; have HO_9 := n0_; have HO_10 := n1_; have BK411 := n2_; have HB := n3_; clear n0_ n1_ n2_ n3_; (try clear hb); (try clear hb2); (try clear hk); (try clear hi)))
                    go_roundg k4
                    case measure => have := HJ6.out; have := HJ11.out; have := HJ14.out; have := HK4.out; omega
                    case rel => exact ⟨(x9_4), (x10_4), (x11_4), (wrap64 (x45_4 + 1)), (by first | rfl | (simp; done) | (simp [*]; done)), (by first | rfl | (simp; done) | (simp [*]; done)), H', ⟨by have := HJ6.out; have := HJ11.out; have := HJ14.out; have := HK4.out; omega⟩, ⟨by (with_reducible repeat (first | apply Kd.R_alloc | apply Kd.R_drewN | apply Kd.R_drew)); exact HO_9.out⟩, ⟨by (with_reducible repeat (first | apply Kd.R_alloc | apply Kd.R_drewN | apply Kd.R_drew)); exact Kd.R_mono HO_10.out (fun _ hk => trivial)⟩, ⟨by repeat (first | (with_reducible first | exact HB.out | apply below_alloc | apply pw_below_drewN | apply below_drew1 | refine below_set ?_ GE411.out) | exact HB.out)⟩⟩
                  subst c25
                  have H1 : (if x45_4 < (l1.length : Int) then (if 0 ≤ (wrap64 (Go.bits .and .u8 (rd l1 x45_4) 7)) then (if x9_4.length + (wrap64 (Go.bits .and .u8 (rd l1 x45_4) 7) : Int).toNat < 140737488355328 then ((some (x9_4 ++ List.replicate (wrap64 (Go.bits .and .u8 (rd l1 x45_4) 7) : Int).toNat 0 : List Int)).bind fun y414 => ((some (([x2_14, ((l3.length : Int)) % 256] : List Int) : List Int)).bind fun y417 => (if y414.length + y417.length < 140737488355328 then ((some (y414 ++ y417 : List Int)).bind fun y420 => (if y420.length + l3.length < 140737488355328 then ((some (y420 ++ l3 : List Int)).bind fun y423 => ((wayfarerlaw08_parts.f k4 ((rd_T62 l0 x45_4).f0.f0) ((rd_T62 l0 x45_4).f0.f1) ((rd_T62 l0 x45_4).f1) ((rd_T62 l0 x45_4).f2.f0) ((rd_T62 l0 x45_4).f2.f1) x11_4).bind fun t426 => (if y423.length + t426.length < 140737488355328 then (if x10_4.length < 4398046511104 then (wayfarerlaw08_TlvPads.l0 k4 l1 x2_14 l3 (y423 ++ t426) (x10_4 ++ [(⟨(⟨(rd_T62 l0 x45_4).f0.f0, (rd_T62 l0 x45_4).f0.f1⟩ : S29), (rd_T62 l0 x45_4).f1, (⟨(rd_T62 l0 x45_4).f2.f0, (rd_T62 l0 x45_4).f2.f1⟩ : S39)⟩ : S62)]) ((rd_T62 l0 x45_4).f1) l0 (l0.length : Int) (wrap64 (x45_4 + 1))) else (none)) else (none)))) else (none))) else (none)))) else (none)) else (none)) else ((wayfarerlaw08_parts.f k4 ((rd_T62 l0 x45_4).f0.f0) ((rd_T62 l0 x45_4).f0.f1) ((rd_T62 l0 x45_4).f1) ((rd_T62 l0 x45_4).f2.f0) ((rd_T62 l0 x45_4).f2.f1) x11_4).bind fun t435 => (if x9_4.length + t435.length < 140737488355328 then (if x10_4.length < 4398046511104 then (wayfarerlaw08_TlvPads.l0 k4 l1 x2_14 l3 (x9_4 ++ t435) (x10_4 ++ [(⟨(⟨(rd_T62 l0 x45_4).f0.f0, (rd_T62 l0 x45_4).f0.f1⟩ : S29), (rd_T62 l0 x45_4).f1, (⟨(rd_T62 l0 x45_4).f2.f0, (rd_T62 l0 x45_4).f2.f1⟩ : S39)⟩ : S62)]) ((rd_T62 l0 x45_4).f1) l0 (l0.length : Int) (wrap64 (x45_4 + 1))) else (none)) else (none)))) = some r := by rw [if_pos rfl] at H; exact H
                  clear H
                  have H := H1
                  clear H1
                  by_cases c26 : x45_4 < (l1.length : Int)
                  case neg =>
                    rw [if_neg c26] at H; have c26b0 : decide (x45_4 < (l1.length : Int)) = false := decide_eq_false c26
                    clear c26
                    replace H := Option.bind_eq_some_iff.mp H
                    obtain ⟨t435, A500, H⟩ := H
                    replace H : (if x9_4.length + t435.length < 140737488355328 then (if x10_4.length < 4398046511104 then (wayfarerlaw08_TlvPads.l0 k4 l1 x2_14 l3 (x9_4 ++ t435) (x10_4 ++ [(⟨(⟨(rd_T62 l0 x45_4).f0.f0, (rd_T62 l0 x45_4).f0.f1⟩ : S29), (rd_T62 l0 x45_4).f1, (⟨(rd_T62 l0 x45_4).f2.f0, (rd_T62 l0 x45_4).f2.f1⟩ : S39)⟩ : S62)]) ((rd_T62 l0 x45_4).f1) l0 (l0.length : Int) (wrap64 (x45_4 + 1))) else (none)) else (none)) = some r := H
                    have A50 := Aside0.mk A500
                    clear A500
                    by_cases c51 : x9_4.length + t435.length < 140737488355328
                    case neg =>
                      rw [if_neg c51] at H; exact absurd H (by simp)
                    rw [if_pos c51] at H; have LMc51 := Aside0.mk c51
                    clear c51
                    obtain ⟨y438, hy438⟩ : ∃ y_ : List Int, y_ = (x9_4 ++ t435) := ⟨_, rfl⟩
                    replace H : (if x10_4.length < 4398046511104 then (wayfarerlaw08_TlvPads.l0 k4 l1 x2_14 l3 y438 (x10_4 ++ [(⟨(⟨(rd_T62 l0 x45_4).f0.f0, (rd_T62 l0 x45_4).f0.f1⟩ : S29), (rd_T62 l0 x45_4).f1, (⟨(rd_T62 l0 x45_4).f2.f0, (rd_T62 l0 x45_4).f2.f1⟩ : S39)⟩ : S62)]) ((rd_T62 l0 x45_4).f1) l0 (l0.length : Int) (wrap64 (x45_4 + 1))) else (none)) = some r := by first | (rw [hy438]; with_reducible exact H) | (have H2_ := (Option.bind_some _ _).symm.trans H; rw [hy438]; with_reducible exact H2_) | (have H2_ := (Option.bind_some _ _).symm.trans H; with_reducible exact H2_) | with_reducible exact H | (rw [hy438]; exact H) | exact H
                    have Ny438 := Aside0.mk hy438
                    clear hy438
                    by_cases c52 : x10_4.length < 4398046511104
                    case neg =>
                      rw [if_neg c52] at H; exact absurd H (by simp)
                    rw [if_pos c52] at H; have LMc52 := Aside0.mk c52
                    clear c52
                    obtain ⟨y441, hy441⟩ : ∃ y_ : List (S62), y_ = (x10_4 ++ [(⟨(⟨(rd_T62 l0 x45_4).f0.f0, (rd_T62 l0 x45_4).f0.f1⟩ : S29), (rd_T62 l0 x45_4).f1, (⟨(rd_T62 l0 x45_4).f2.f0, (rd_T62 l0 x45_4).f2.f1⟩ : S39)⟩ : S62)]) := ⟨_, rfl⟩
                    replace H : (wayfarerlaw08_TlvPads.l0 k4 l1 x2_14 l3 y438 y441 ((rd_T62 l0 x45_4).f1) l0 (l0.length : Int) (wrap64 (x45_4 + 1))) = some r := by first | (rw [hy441]; with_reducible exact H) | (have H2_ := (Option.bind_some _ _).symm.trans H; rw [hy441]; with_reducible exact H2_) | (have H2_ := (Option.bind_some _ _).symm.trans H; with_reducible exact H2_) | with_reducible exact H | (rw [hy441]; exact H) | exact H
                    have Ny441 := Aside0.mk hy441
                    clear hy441
                    have H' := Aside0.mk H
                    clear H
                    have p410 : 0 ≤ (x45_4 : Int) := of_decide_eq_true (by first | (with_reducible assumption) | assumption)
                    have q410 : x45_4 < (l0.length : Int) := of_decide_eq_true (by first | (with_reducible assumption) | assumption)
                    obtain ⟨ad410, e410, hx410_0, hx410_1, hx410_2, hx410_3, hx410_4⟩ := at_T62 HR0.out x45_4 p410 q410
                    cases e410
                    replace hx410_0 := (HB.out.cell (World.block_lt_of_cell? w _ hx410_0)).trans hx410_0
                    replace hx410_1 := (HB.out.cell (World.block_lt_of_cell? w _ hx410_1)).trans hx410_1
                    replace hx410_2 := (HB.out.cell (World.block_lt_of_cell? w _ hx410_2)).trans hx410_2
                    replace hx410_3 := (HB.out.cell (World.block_lt_of_cell? w _ hx410_3)).trans hx410_3
                    replace hx410_4 := (HB.out.cell (World.block_lt_of_cell? w _ hx410_4)).trans hx410_4
                    replace p410 := eq_true p410
                    replace q410 := eq_true q410
                    go_wp2_with (first | ((with_reducible refine gate_dst (N := 13) rfl ?_); (try (refine gate_guard (by rfl) ?_; dsimp only)); refine box_event ?hg (N := 13) ?hd (cs := #[.int .u32 0, .int .i64 0, .int .u32 0, .int .u32 0, .int .u16 0]) (t := 62) ?hr ?_; (case hd => rfl); (case hg => rfl); (case hr => first | (go_simp; done) | (go_simp; rfl)); intro gb411 hg w53 hbox hb; have n0_ := Aside0.mk (Kd.R_below (by (with_reducible repeat (first | apply Kd.R_alloc | apply Kd.R_drewN | apply Kd.R_drew)); exact HO_9.out) hb); have n1_ := Aside0.mk (Kd.R_below (Kd.R_elderB (by (with_reducible repeat (first | apply Kd.R_alloc | apply Kd.R_drewN | apply Kd.R_drew)); exact HO_10.out) gb411 (Nat.le_of_eq hg.symm)) hb); have n2_ := Aside0.mk (below_step (by repeat (first | (with_reducible first | exact HB.out | apply below_alloc | apply pw_below_drewN | apply below_drew1) | exact HB.out)) hb); have n3_ := Aside0.mk (hbox); have n4_ := Aside0.mk ((by rw [hg]; exact (below_size (by repeat (first | (with_reducible first | exact HB.out | apply below_alloc | apply pw_below_drewN | apply below_drew1) | exact HB.out))) : w.heap.size ≤ gb411)); have n5_ := Aside0.mk ((by rw [hg]; exact (below_size (by repeat (first | (with_reducible first | exact HB.out | apply below_alloc | apply pw_below_drewN | apply below_drew1) | exact HB.out))) : w.heap.size ≤ gb411)); clear HO_9; clear HO_10; clear HB; have HO_9 := n0_; have HO_10 := n1_; have HB := n2_; have BK411 := n3_; have GW411 := n4_; have GE411 := n5_; clear n0_ n1_ n2_ n3_ n4_ n5_; clear hb hbox hg; have hcz54_0 : w53.cell? ⟨gb411, 0, none⟩ = some (.int .u32 0) := (blk_cell BK411.out 0).trans rfl; have hcz54_1 : w53.cell? ⟨gb411, 1, none⟩ = some (.int .i64 0) := (blk_cell BK411.out 1).trans rfl; have hcz54_2 : w53.cell? ⟨gb411, 2, none⟩ = some (.int .u32 0) := (blk_cell BK411.out 2).trans rfl; have hcz54_3 : w53.cell? ⟨gb411, 3, none⟩ = some (.int .u32 0) := (blk_cell BK411.out 3).trans rfl; have hcz54_4 : w53.cell? ⟨gb411, 4, none⟩ = some (.int .u16 0) := (blk_cell BK411.out 4).trans rfl; have hfz54_0 := blk_frozen BK411.out 0; have hfz54_1 := blk_frozen BK411.out 1; have hfz54_2 := blk_frozen BK411.out 2; have hfz54_3 := blk_frozen BK411.out 3; have hfz54_4 := blk_frozen BK411.out 4) | ((with_reducible refine gate_callee (f := 36) rfl ?_); refine goesL_ (some 51) rfl rfl Try.func36 (by kernel_rfl) rfl #[.agg #[.int .u32 ((rd_T62 l0 x45_4).f0.f0), .int .i64 ((rd_T62 l0 x45_4).f0.f1), .int .u32 ((rd_T62 l0 x45_4).f1), .int .u32 ((rd_T62 l0 x45_4).f2.f0), .int .u16 ((rd_T62 l0 x45_4).f2.f1)]] rfl (by (try simp only [List.map_toArray, List.map_cons, List.map_nil]); first | done | rfl | (simp only [List.length_drop, List.length_take]; rfl)) ?_; (with_reducible refine (wayfarerlaw08_Right.calls k4 ((rd_T62 l0 x45_4).f0.f0) ((rd_T62 l0 x45_4).f0.f1) ((rd_T62 l0 x45_4).f1) ((rd_T62 l0 x45_4).f2.f0) ((rd_T62 l0 x45_4).f2.f1) true _ A24.out).mono ?_); rintro e w55 ⟨rfl, hb⟩; refine ⟨_, rfl, ?_⟩; have n0_ := Aside0.mk (Kd.R_below (by (with_reducible repeat (first | apply Kd.R_alloc | apply Kd.R_drewN | apply Kd.R_drew)); exact (Kd.R_mono (Kd.R_far (p := ⟨gb411, 4, none⟩) (Kd.R_far (p := ⟨gb411, 3, none⟩) (Kd.R_far (p := ⟨gb411, 2, none⟩) (Kd.R_far (p := ⟨gb411, 1, none⟩) (Kd.R_far (p := ⟨gb411, 0, none⟩) (Kd.R_types HO_9.out BK411.out (by decide)) (fun _ hk => hk.2) (.int .u32 ((rd_T62 l0 x45_4).f0.f0))) (fun _ hk => hk.2) (.int .i64 ((rd_T62 l0 x45_4).f0.f1))) (fun _ hk => hk.2) (.int .u32 ((rd_T62 l0 x45_4).f1))) (fun _ hk => hk.2) (.int .u32 ((rd_T62 l0 x45_4).f2.f0))) (fun _ hk => hk.2) (.int .u16 ((rd_T62 l0 x45_4).f2.f1))) (fun _ h_ => h_.1))) hb); have n1_ := Aside0.mk (Kd.R_below (by (with_reducible repeat (first | apply Kd.R_alloc | apply Kd.R_drewN | apply Kd.R_drew)); exact (Kd.R_mono (Kd.R_far (p := ⟨gb411, 4, none⟩) (Kd.R_far (p := ⟨gb411, 3, none⟩) (Kd.R_far (p := ⟨gb411, 2, none⟩) (Kd.R_far (p := ⟨gb411, 1, none⟩) (Kd.R_far (p := ⟨gb411, 0, none⟩) (Kd.R_mono HO_10.out (fun k_ hk => (⟨hk, hk.2⟩ : _ ∧ k_ ≠ gb411))) (fun _ hk => hk.2) (.int .u32 ((rd_T62 l0 x45_4).f0.f0))) (fun _ hk => hk.2) (.int .i64 ((rd_T62 l0 x45_4).f0.f1))) (fun _ hk => hk.2) (.int .u32 ((rd_T62 l0 x45_4).f1))) (fun _ hk => hk.2) (.int .u32 ((rd_T62 l0 x45_4).f2.f0))) (fun _ hk => hk.2) (.int .u16 ((rd_T62 l0 x45_4).f2.f1))) (fun _ h_ => h_.1))) hb); have n2_ := Aside0.mk (blk_below (g := gb411) (o := .cells #[.int .u32 ((rd_T62 l0 x45_4).f0.f0), .int .i64 ((rd_T62 l0 x45_4).f0.f1), .int .u32 ((rd_T62 l0 x45_4).f1), .int .u32 ((rd_T62 l0 x45_4).f2.f0), .int .u16 ((rd_T62 l0 x45_4).f2.f1)] 62 (0, 0)) (by (with_reducible repeat (first | refine blk_drewN ?_ _ | refine blk_drew ?_ | refine blk_alloc ?_ _)); refine blk_put (cs := #[.int .u32 ((rd_T62 l0 x45_4).f0.f0), .int .i64 ((rd_T62 l0 x45_4).f0.f1), .int .u32 ((rd_T62 l0 x45_4).f1), .int .u32 ((rd_T62 l0 x45_4).f2.f0), .int .u16 0]) ?_ 4 _ rfl; (with_reducible repeat (first | refine blk_drewN ?_ _ | refine blk_drew ?_ | refine blk_alloc ?_ _)); refine blk_put (cs := #[.int .u32 ((rd_T62 l0 x45_4).f0.f0), .int .i64 ((rd_T62 l0 x45_4).f0.f1), .int .u32 ((rd_T62 l0 x45_4).f1), .int .u32 0, .int .u16 0]) ?_ 3 _ rfl; (with_reducible repeat (first | refine blk_drewN ?_ _ | refine blk_drew ?_ | refine blk_alloc ?_ _)); refine blk_put (cs := #[.int .u32 ((rd_T62 l0 x45_4).f0.f0), .int .i64 ((rd_T62 l0 x45_4).f0.f1), .int .u32 0, .int .u32 0, .int .u16 0]) ?_ 2 _ rfl; (with_reducible repeat (first | refine blk_drewN ?_ _ | refine blk_drew ?_ | refine blk_alloc ?_ _)); refine blk_put (cs := #[.int .u32 ((rd_T62 l0 x45_4).f0.f0), .int .i64 0, .int .u32 0, .int .u32 0, .int .u16 0]) ?_ 1 _ rfl; (with_reducible repeat (first | refine blk_drewN ?_ _ | refine blk_drew ?_ | refine blk_alloc ?_ _)); refine blk_put (cs := #[.int .u32 0, .int .i64 0, .int .u32 0, .int .u32 0, .int .u16 0]) ?_ 0 _ rfl; (with_reducible repeat (first | refine blk_drewN ?_ _ | refine blk_drew ?_ | refine blk_alloc ?_ _)); exact BK411.out) hb); have n3_ := Aside0.mk (below_step (by repeat (first | (with_reducible first | exact HB.out | apply below_alloc | apply pw_below_drewN | apply below_drew1 | refine below_set ?_ GE411.out) | exact HB.out)) hb); clear HO_9; clear HO_10; clear BK411; clear HB; have HO_9 := n0_; have HO_10 := n1_; have BK411 := n2_; have HB := n3_; clear n0_ n1_ n2_ n3_; (try clear hb); (try clear hb2); (try clear hk); (try clear hi); have hcz56_0 : w55.cell? ⟨gb411, 0, none⟩ = some (.int .u32 ((rd_T62 l0 x45_4).f0.f0)) := (blk_cell BK411.out 0).trans rfl; have hcz56_1 : w55.cell? ⟨gb411, 1, none⟩ = some (.int .i64 ((rd_T62 l0 x45_4).f0.f1)) := (blk_cell BK411.out 1).trans rfl; have hcz56_2 : w55.cell? ⟨gb411, 2, none⟩ = some (.int .u32 ((rd_T62 l0 x45_4).f1)) := (blk_cell BK411.out 2).trans rfl; have hcz56_3 : w55.cell? ⟨gb411, 3, none⟩ = some (.int .u32 ((rd_T62 l0 x45_4).f2.f0)) := (blk_cell BK411.out 3).trans rfl; have hcz56_4 : w55.cell? ⟨gb411, 4, none⟩ = some (.int .u16 ((rd_T62 l0 x45_4).f2.f1)) := (blk_cell BK411.out 4).trans rfl; have hfz56_0 := blk_frozen BK411.out 0; have hfz56_1 := blk_frozen BK411.out 1; have hfz56_2 := blk_frozen BK411.out 2; have hfz56_3 := blk_frozen BK411.out 3; have hfz56_4 := blk_frozen BK411.out 4) | ((with_reducible refine gate_callee (f := 42) rfl ?_); refine goesL_ (some 77) rfl rfl Try.func42 (by kernel_rfl) rfl #[.agg #[.int .u32 ((rd_T62 l0 x45_4).f0.f0), .int .i64 ((rd_T62 l0 x45_4).f0.f1), .int .u32 ((rd_T62 l0 x45_4).f1), .int .u32 ((rd_T62 l0 x45_4).f2.f0), .int .u16 ((rd_T62 l0 x45_4).f2.f1)], .int .u32 x11_4] rfl (by (try simp only [List.map_toArray, List.map_cons, List.map_nil]); first | done | rfl | (simp only [List.length_drop, List.length_take]; rfl)) ?_; (with_reducible refine (wayfarerlaw08_parts.calls k4 ((rd_T62 l0 x45_4).f0.f0) ((rd_T62 l0 x45_4).f0.f1) ((rd_T62 l0 x45_4).f1) ((rd_T62 l0 x45_4).f2.f0) ((rd_T62 l0 x45_4).f2.f1) x11_4 t435 _ A50.out).mono ?_); rintro e w57 ⟨v436, rfl, ho0, hb⟩; refine ⟨_, rfl, ?_⟩; have n0_ := Aside0.mk (Kd.R_elder' (by (with_reducible repeat (first | apply Kd.R_alloc | apply Kd.R_drewN | apply Kd.R_drew)); exact HO_9.out) (Kd.R_base ho0) hb); have n1_ := Aside0.mk (Kd.R_below (by (with_reducible repeat (first | apply Kd.R_alloc | apply Kd.R_drewN | apply Kd.R_drew)); exact HO_10.out) hb); have n2_ := Aside0.mk (Kd.R_lower (Kd.R_new' ho0 (Kd.R_lt (by (with_reducible repeat (first | apply Kd.R_alloc | apply Kd.R_drewN | apply Kd.R_drew)); exact HO_9.out))) (below_size (by repeat (first | (with_reducible first | exact HB.out | apply below_alloc | apply pw_below_drewN | apply below_drew1 | refine below_set ?_ GE411.out) | exact HB.out)))); have n3_ := Aside0.mk (blk_below (g := gb411) (o := .cells #[.int .u32 ((rd_T62 l0 x45_4).f0.f0), .int .i64 ((rd_T62 l0 x45_4).f0.f1), .int .u32 ((rd_T62 l0 x45_4).f1), .int .u32 ((rd_T62 l0 x45_4).f2.f0), .int .u16 ((rd_T62 l0 x45_4).f2.f1)] 62 (0, 0)) (by (with_reducible repeat (first | refine blk_drewN ?_ _ | refine blk_drew ?_ | refine blk_alloc ?_ _)); exact BK411.out) hb); have n4_ := Aside0.mk (below_step (by repeat (first | (with_reducible first | exact HB.out | apply below_alloc | apply pw_below_drewN | apply below_drew1 | refine below_set ?_ GE411.out) | exact HB.out)) hb); clear HO_9; clear HO_10; clear BK411; clear HB; have HO_9 := n0_; have HO_10 := n1_; have HO437 := n2_; have BK411 := n3_; have HB := n4_; clear n0_ n1_ n2_ n3_ n4_; (try clear hb); (try clear hb2); (try clear hk); (try clear hi); (try clear ho0); obtain ⟨Ao59, co59, eo59⟩ := Kd.R_slice HO437.out; subst eo59) | ((with_reducible refine gate_builtin (b := .append) (xs := #[.tmp 74, .tmp 77]) rfl ?_); (try (refine gate_guard (by rfl) ?_; dsimp only)); at_builtin; refine Kd.R_append_rows (Kd.int .u8) (w0 := w) w.heap.size rfl (.tmp 74) (.tmp 77) 22 5 (.int .u8 0) 1 rfl Try.underlying22 info5 rfl (by decide) (by omega) u9 x9_4 t435 _ _ _ (fun k_ => some k_ ≠ (.slice Ao59 t435.length co59 : Value).ownBlock) (fun _ => False) rfl rfl ?aO ?aR (fun _ _ h => h) (fun _ h => h.elim) ?aF ?aB ?aS ?aL ?_; (case aR => repeat (first | exact (Kd.R_reads' HO437.out).2.2 | (with_reducible refine Kd.C_alloc ?_ _) | (with_reducible refine Kd.C_drewN ?_ _) | (with_reducible refine Kd.C_drew ?_))); (case aB => exact (by repeat (first | (with_reducible first | exact HB.out | apply below_alloc | apply pw_below_drewN | apply below_drew1 | refine below_set ?_ GE411.out) | exact HB.out))); (case aF => exact (fun k_ hk => Kd.fresh' (Kd.R_lt (by (with_reducible repeat (first | apply Kd.R_alloc | apply Kd.R_drewN | apply Kd.R_drew)); exact HO437.out)) k_ hk)); (case aO => exact (by (with_reducible repeat (first | apply Kd.R_alloc | apply Kd.R_drewN | apply Kd.R_drew)); exact Kd.R_mono HO_9.out (fun _ hk => hk.2))); (case aS => exact (below_size (by repeat (first | (with_reducible first | exact HB.out | apply below_alloc | apply pw_below_drewN | apply below_drew1 | refine below_set ?_ GE411.out) | exact HB.out)))); (case aL => have := LMc51.out; omega); intro v439 w58 ho hb hg hat; rw [← Ny438.out] at ho; have n0_ := Aside0.mk (Kd.R_over' (by (with_reducible repeat (first | apply Kd.R_alloc | apply Kd.R_drewN | apply Kd.R_drew)); exact HO_10.out) (Kd.R_typed (by (with_reducible repeat (first | apply Kd.R_alloc | apply Kd.R_drewN | apply Kd.R_drew)); exact HO_9.out)) (by decide) hg); have n1_ := Aside0.mk (blk_grown (g := gb411) (o := .cells #[.int .u32 ((rd_T62 l0 x45_4).f0.f0), .int .i64 ((rd_T62 l0 x45_4).f0.f1), .int .u32 ((rd_T62 l0 x45_4).f1), .int .u32 ((rd_T62 l0 x45_4).f2.f0), .int .u16 ((rd_T62 l0 x45_4).f2.f1)] 62 (0, 0)) (by (with_reducible repeat (first | refine blk_drewN ?_ _ | refine blk_drew ?_ | refine blk_alloc ?_ _)); exact BK411.out) hg (Kd.R_ne HO_9.out BK411.out (by decide))); have n2_ := Aside0.mk (Kd.R_after (ok := (fun _ => True)) (by (with_reducible repeat (first | apply Kd.R_alloc | apply Kd.R_drewN | apply Kd.R_drew)); exact HO437.out) hg hat); have n3_ := Aside0.mk (hb); have n4_ := Aside0.mk (ho); clear HO_10; clear BK411; clear HO437; clear HB; clear HO_9; have HO_10 := n0_; have BK411 := n1_; have HO437 := n2_; have HB := n3_; have HO440 := n4_; clear n0_ n1_ n2_ n3_ n4_; clear ho hb hg hat; have hcz60_0 : w58.cell? ⟨gb411, 0, none⟩ = some (.int .u32 ((rd_T62 l0 x45_4).f0.f0)) := (blk_cell BK411.out 0).trans rfl; have hcz60_1 : w58.cell? ⟨gb411, 1, none⟩ = some (.int .i64 ((rd_T62 l0 x45_4).f0.f1)) := (blk_cell BK411.out 1).trans rfl; have hcz60_2 : w58.cell? ⟨gb411, 2, none⟩ = some (.int .u32 ((rd_T62 l0 x45_4).f1)) := (blk_cell BK411.out 2).trans rfl; have hcz60_3 : w58.cell? ⟨gb411, 3, none⟩ = some (.int .u32 ((rd_T62 l0 x45_4).f2.f0)) := (blk_cell BK411.out 3).trans rfl; have hcz60_4 : w58.cell? ⟨gb411, 4, none⟩ = some (.int .u16 ((rd_T62 l0 x45_4).f2.f1)) := (blk_cell BK411.out 4).trans rfl; have hfz60_0 := blk_frozen BK411.out 0; have hfz60_1 := blk_frozen BK411.out 1; have hfz60_2 := blk_frozen BK411.out 2; have hfz60_3 := blk_frozen BK411.out 3; have hfz60_4 := blk_frozen BK411.out 4) | ((with_reducible refine gate_builtin (b := .append) (xs := #[.tmp 81, .tmp 83]) rfl ?_); (try (refine gate_guard (by rfl) ?_; dsimp only)); at_builtin; refine Kd.R_append k62 (w0 := w) w.heap.size rfl (.tmp 81) (.tmp 83) 60 62 (.agg #[(.int .u32 0), (.int .i64 0), (.int .u32 0), (.int .u32 0), (.int .u16 0)]) 32 rfl Try.underlying60 info62 rfl (by decide) (by omega) u10 x10_4 (⟨(⟨(rd_T62 l0 x45_4).f0.f0, (rd_T62 l0 x45_4).f0.f1⟩ : S29), (rd_T62 l0 x45_4).f1, (⟨(rd_T62 l0 x45_4).f2.f0, (rd_T62 l0 x45_4).f2.f1⟩ : S39)⟩ : S62) [.int .u32 ((rd_T62 l0 x45_4).f0.f0), .int .i64 ((rd_T62 l0 x45_4).f0.f1), .int .u32 ((rd_T62 l0 x45_4).f1), .int .u32 ((rd_T62 l0 x45_4).f2.f0), .int .u16 ((rd_T62 l0 x45_4).f2.f1)] (fun k_ => k_ ≠ gb411) (fun _ => False) rfl rfl ?aP (fun _ hk => hk.elim) ?aF ?aO ?aB ?aS ?aL ?_; (case aP => exact k62_mkM _ _ _ (⟨(⟨(rd_T62 l0 x45_4).f0.f0, (rd_T62 l0 x45_4).f0.f1⟩ : S29), (rd_T62 l0 x45_4).f1, (⟨(rd_T62 l0 x45_4).f2.f0, (rd_T62 l0 x45_4).f2.f1⟩ : S39)⟩ : S62)); (case aB => exact (by repeat (first | (with_reducible first | exact HB.out | apply below_alloc | apply pw_below_drewN | apply below_drew1 | refine below_set ?_ GE411.out) | exact HB.out))); (case aF => exact (fun k_ hk => Kd.freshB (g := gb411) (o := .cells #[.int .u32 ((rd_T62 l0 x45_4).f0.f0), .int .i64 ((rd_T62 l0 x45_4).f0.f1), .int .u32 ((rd_T62 l0 x45_4).f1), .int .u32 ((rd_T62 l0 x45_4).f2.f0), .int .u16 ((rd_T62 l0 x45_4).f2.f1)] 62 (0, 0)) (by (with_reducible repeat (first | refine blk_drewN ?_ _ | refine blk_drew ?_ | refine blk_alloc ?_ _)); exact BK411.out) k_ hk)); (case aO => exact (by (with_reducible repeat (first | apply Kd.R_alloc | apply Kd.R_drewN | apply Kd.R_drew)); exact Kd.R_mono HO_10.out (fun _ hk => hk.2))); (case aS => exact (below_size (by repeat (first | (with_reducible first | exact HB.out | apply below_alloc | apply pw_below_drewN | apply below_drew1 | refine below_set ?_ GE411.out) | exact HB.out)))); (case aL => have := LMc52.out; omega); intro v442 w61 ho hb hg hat; rw [← Ny441.out] at ho; have n0_ := Aside0.mk (blk_grown (g := gb411) (o := .cells #[.int .u32 ((rd_T62 l0 x45_4).f0.f0), .int .i64 ((rd_T62 l0 x45_4).f0.f1), .int .u32 ((rd_T62 l0 x45_4).f1), .int .u32 ((rd_T62 l0 x45_4).f2.f0), .int .u16 ((rd_T62 l0 x45_4).f2.f1)] 62 (0, 0)) (by (with_reducible repeat (first | refine blk_drewN ?_ _ | refine blk_drew ?_ | refine blk_alloc ?_ _)); exact BK411.out) hg (Kd.R_away HO_10.out (fun _ hk => hk.2))); have n1_ := Aside0.mk (Kd.R_over' (by (with_reducible repeat (first | apply Kd.R_alloc | apply Kd.R_drewN | apply Kd.R_drew)); exact HO437.out) (Kd.R_typed (by (with_reducible repeat (first | apply Kd.R_alloc | apply Kd.R_drewN | apply Kd.R_drew)); exact HO_10.out)) (by decide) hg); have n2_ := Aside0.mk (Kd.R_over' (by (with_reducible repeat (first | apply Kd.R_alloc | apply Kd.R_drewN | apply Kd.R_drew)); exact HO440.out) (Kd.R_typed (by (with_reducible repeat (first | apply Kd.R_alloc | apply Kd.R_drewN | apply Kd.R_drew)); exact HO_10.out)) (by decide) hg); have n3_ := Aside0.mk (hb); have n4_ := Aside0.mk (ho); clear BK411; clear HO437; clear HO440; clear HB; clear HO_10; have BK411 := n0_; have HO437 := n1_; have HO440 := n2_; have HB := n3_; have HO443 := n4_; clear n0_ n1_ n2_ n3_ n4_; clear ho hb hg hat))
                    go_roundg k4
                    case measure => have := HJ6.out; have := HJ11.out; have := HJ14.out; have := HK4.out; omega
                    case rel => exact ⟨(y438), (y441), ((rd_T62 l0 x45_4).f1), (wrap64 (x45_4 + 1)), (by first | rfl | (simp; done) | (simp [*]; done)), (by first | rfl | (simp; done) | (simp [*]; done)), H', ⟨by have := HJ6.out; have := HJ11.out; have := HJ14.out; have := HK4.out; omega⟩, ⟨by (with_reducible repeat (first | apply Kd.R_alloc | apply Kd.R_drewN | apply Kd.R_drew)); exact Kd.R_mono HO440.out (fun _ hk => trivial)⟩, ⟨by (with_reducible repeat (first | apply Kd.R_alloc | apply Kd.R_drewN | apply Kd.R_drew)); exact Kd.R_mono HO443.out (fun _ hk => trivial)⟩, ⟨by repeat (first | (with_reducible first | exact HB.out | apply below_alloc | apply pw_below_drewN | apply below_drew1 | refine below_set ?_ GE411.out) | exact HB.out)⟩⟩
                  rw [if_pos c26] at H; have c26b0 : decide (x45_4 < (l1.length : Int)) = true := decide_eq_true c26
                  clear c26
                  obtain ⟨ji27, hji27⟩ : ∃ j_ : Int, (wrap64 (Go.bits .and .u8 (rd l1 x45_4) 7)) = j_ := ⟨_, rfl⟩
                  replace H : (if 0 ≤ (ji27) then (if x9_4.length + (ji27 : Int).toNat < 140737488355328 then ((some (x9_4 ++ List.replicate (ji27 : Int).toNat 0 : List Int)).bind fun y414 => ((some (([x2_14, ((l3.length : Int)) % 256] : List Int) : List Int)).bind fun y417 => (if y414.length + y417.length < 140737488355328 then ((some (y414 ++ y417 : List Int)).bind fun y420 => (if y420.length + l3.length < 140737488355328 then ((some (y420 ++ l3 : List Int)).bind fun y423 => ((wayfarerlaw08_parts.f k4 ((rd_T62 l0 x45_4).f0.f0) ((rd_T62 l0 x45_4).f0.f1) ((rd_T62 l0 x45_4).f1) ((rd_T62 l0 x45_4).f2.f0) ((rd_T62 l0 x45_4).f2.f1) x11_4).bind fun t426 => (if y423.length + t426.length < 140737488355328 then (if x10_4.length < 4398046511104 then (wayfarerlaw08_TlvPads.l0 k4 l1 x2_14 l3 (y423 ++ t426) (x10_4 ++ [(⟨(⟨(rd_T62 l0 x45_4).f0.f0, (rd_T62 l0 x45_4).f0.f1⟩ : S29), (rd_T62 l0 x45_4).f1, (⟨(rd_T62 l0 x45_4).f2.f0, (rd_T62 l0 x45_4).f2.f1⟩ : S39)⟩ : S62)]) ((rd_T62 l0 x45_4).f1) l0 (l0.length : Int) (wrap64 (x45_4 + 1))) else (none)) else (none)))) else (none))) else (none)))) else (none)) else (none)) = some r := by first | (rw [hji27] at H; exact H) | (simp only [hji27] at H ⊢; exact H)
                  (try rw [hji27] at A24)
                  have hji27w : (IntKind.i64.wrap (Go.bits .and .u8 (rd l1 x45_4) 7)) = ji27 := (i64_w _).trans hji27
                  by_cases c28 : 0 ≤ (ji27)
                  case neg =>
                    rw [if_neg c28] at H; exact absurd H (by simp)
                  rw [if_pos c28] at H; have c28b0 := eq_true c28
                  have c28b1 : decide (0 ≤ (ji27)) = true := decide_eq_true c28
                  clear c28
                  by_cases c29 : x9_4.length + (ji27 : Int).toNat < 140737488355328
                  case neg =>
                    rw [if_neg c29] at H; exact absurd H (by simp)
                  rw [if_pos c29] at H; have LMc29 := Aside0.mk c29
                  clear c29
                  obtain ⟨y414, hy414⟩ : ∃ y_ : List Int, y_ = (x9_4 ++ List.replicate (ji27 : Int).toNat 0) := ⟨_, rfl⟩
                  replace H : ((some (([x2_14, ((l3.length : Int)) % 256] : List Int) : List Int)).bind fun y417 => (if y414.length + y417.length < 140737488355328 then ((some (y414 ++ y417 : List Int)).bind fun y420 => (if y420.length + l3.length < 140737488355328 then ((some (y420 ++ l3 : List Int)).bind fun y423 => ((wayfarerlaw08_parts.f k4 ((rd_T62 l0 x45_4).f0.f0) ((rd_T62 l0 x45_4).f0.f1) ((rd_T62 l0 x45_4).f1) ((rd_T62 l0 x45_4).f2.f0) ((rd_T62 l0 x45_4).f2.f1) x11_4).bind fun t426 => (if y423.length + t426.length < 140737488355328 then (if x10_4.length < 4398046511104 then (wayfarerlaw08_TlvPads.l0 k4 l1 x2_14 l3 (y423 ++ t426) (x10_4 ++ [(⟨(⟨(rd_T62 l0 x45_4).f0.f0, (rd_T62 l0 x45_4).f0.f1⟩ : S29), (rd_T62 l0 x45_4).f1, (⟨(rd_T62 l0 x45_4).f2.f0, (rd_T62 l0 x45_4).f2.f1⟩ : S39)⟩ : S62)]) ((rd_T62 l0 x45_4).f1) l0 (l0.length : Int) (wrap64 (x45_4 + 1))) else (none)) else (none)))) else (none))) else (none))) = some r := by first | (rw [hy414]; with_reducible exact H) | (have H2_ := (Option.bind_some _ _).symm.trans H; rw [hy414]; with_reducible exact H2_) | (have H2_ := (Option.bind_some _ _).symm.trans H; with_reducible exact H2_) | with_reducible exact H | (rw [hy414]; exact H) | exact H
                  have Ny414 := Aside0.mk hy414
                  clear hy414
                  obtain ⟨y417, hy417⟩ : ∃ y_ : List Int, y_ = (([x2_14, ((l3.length : Int)) % 256] : List Int)) := ⟨_, rfl⟩
                  replace H : (if y414.length + y417.length < 140737488355328 then ((some (y414 ++ y417 : List Int)).bind fun y420 => (if y420.length + l3.length < 140737488355328 then ((some (y420 ++ l3 : List Int)).bind fun y423 => ((wayfarerlaw08_parts.f k4 ((rd_T62 l0 x45_4).f0.f0) ((rd_T62 l0 x45_4).f0.f1) ((rd_T62 l0 x45_4).f1) ((rd_T62 l0 x45_4).f2.f0) ((rd_T62 l0 x45_4).f2.f1) x11_4).bind fun t426 => (if y423.length + t426.length < 140737488355328 then (if x10_4.length < 4398046511104 then (wayfarerlaw08_TlvPads.l0 k4 l1 x2_14 l3 (y423 ++ t426) (x10_4 ++ [(⟨(⟨(rd_T62 l0 x45_4).f0.f0, (rd_T62 l0 x45_4).f0.f1⟩ : S29), (rd_T62 l0 x45_4).f1, (⟨(rd_T62 l0 x45_4).f2.f0, (rd_T62 l0 x45_4).f2.f1⟩ : S39)⟩ : S62)]) ((rd_T62 l0 x45_4).f1) l0 (l0.length : Int) (wrap64 (x45_4 + 1))) else (none)) else (none)))) else (none))) else (none)) = some r := by first | (rw [hy417]; with_reducible exact H) | (have H2_ := (Option.bind_some _ _).symm.trans H; rw [hy417]; with_reducible exact H2_) | (have H2_ := (Option.bind_some _ _).symm.trans H; with_reducible exact H2_) | with_reducible exact H | (rw [hy417]; exact H) | exact H
                  have Ny417 := Aside0.mk hy417
                  clear hy417
                  by_cases c30 : y414.length + y417.length < 140737488355328
                  case neg =>
                    rw [if_neg c30] at H; exact absurd H (by simp)
                  rw [if_pos c30] at H; have LMc30 := Aside0.mk c30
                  clear c30
                  obtain ⟨y420, hy420⟩ : ∃ y_ : List Int, y_ = (y414 ++ y417) := ⟨_, rfl⟩
                  replace H : (if y420.length + l3.length < 140737488355328 then ((some (y420 ++ l3 : List Int)).bind fun y423 => ((wayfarerlaw08_parts.f k4 ((rd_T62 l0 x45_4).f0.f0) ((rd_T62 l0 x45_4).f0.f1) ((rd_T62 l0 x45_4).f1) ((rd_T62 l0 x45_4).f2.f0) ((rd_T62 l0 x45_4).f2.f1) x11_4).bind fun t426 => (if y423.length + t426.length < 140737488355328 then (if x10_4.length < 4398046511104 then (wayfarerlaw08_TlvPads.l0 k4 l1 x2_14 l3 (y423 ++ t426) (x10_4 ++ [(⟨(⟨(rd_T62 l0 x45_4).f0.f0, (rd_T62 l0 x45_4).f0.f1⟩ : S29), (rd_T62 l0 x45_4).f1, (⟨(rd_T62 l0 x45_4).f2.f0, (rd_T62 l0 x45_4).f2.f1⟩ : S39)⟩ : S62)]) ((rd_T62 l0 x45_4).f1) l0 (l0.length : Int) (wrap64 (x45_4 + 1))) else (none)) else (none)))) else (none)) = some r := by first | (rw [hy420]; with_reducible exact H) | (have H2_ := (Option.bind_some _ _).symm.trans H; rw [hy420]; with_reducible exact H2_) | (have H2_ := (Option.bind_some _ _).symm.trans H; with_reducible exact H2_) | with_reducible exact H | (rw [hy420]; exact H) | exact H
                  have Ny420 := Aside0.mk hy420
                  clear hy420
                  by_cases c31 : y420.length + l3.length < 140737488355328
                  case neg =>
                    rw [if_neg c31] at H; exact absurd H (by simp)
                  rw [if_pos c31] at H; have LMc31 := Aside0.mk c31
                  clear c31
                  obtain ⟨y423, hy423⟩ : ∃ y_ : List Int, y_ = (y420 ++ l3) := ⟨_, rfl⟩
                  replace H : ((wayfarerlaw08_parts.f k4 ((rd_T62 l0 x45_4).f0.f0) ((rd_T62 l0 x45_4).f0.f1) ((rd_T62 l0 x45_4).f1) ((rd_T62 l0 x45_4).f2.f0) ((rd_T62 l0 x45_4).f2.f1) x11_4).bind fun t426 => (if y423.length + t426.length < 140737488355328 then (if x10_4.length < 4398046511104 then (wayfarerlaw08_TlvPads.l0 k4 l1 x2_14 l3 (y423 ++ t426) (x10_4 ++ [(⟨(⟨(rd_T62 l0 x45_4).f0.f0, (rd_T62 l0 x45_4).f0.f1⟩ : S29), (rd_T62 l0 x45_4).f1, (⟨(rd_T62 l0 x45_4).f2.f0, (rd_T62 l0 x45_4).f2.f1⟩ : S39)⟩ : S62)]) ((rd_T62 l0 x45_4).f1) l0 (l0.length : Int) (wrap64 (x45_4 + 1))) else (none)) else (none))) = some r := by first | (rw [hy423]; with_reducible exact H) | (have H2_ := (Option.bind_some _ _).symm.trans H; rw [hy423]; with_reducible exact H2_) | (have H2_ := (Option.bind_some _ _).symm.trans H; with_reducible exact H2_) | with_reducible exact H | (rw [hy423]; exact H) | exact H
                  have Ny423 := Aside0.mk hy423
                  clear hy423
                  replace H := Option.bind_eq_some_iff.mp H
                  obtain ⟨t426, A320, H⟩ := H
                  replace H : (if y423.length + t426.length < 140737488355328 then (if x10_4.length < 4398046511104 then (wayfarerlaw08_TlvPads.l0 k4 l1 x2_14 l3 (y423 ++ t426) (x10_4 ++ [(⟨(⟨(rd_T62 l0 x45_4).f0.f0, (rd_T62 l0 x45_4).f0.f1⟩ : S29), (rd_T62 l0 x45_4).f1, (⟨(rd_T62 l0 x45_4).f2.f0, (rd_T62 l0 x45_4).f2.f1⟩ : S39)⟩ : S62)]) ((rd_T62 l0 x45_4).f1) l0 (l0.length : Int) (wrap64 (x45_4 + 1))) else (none)) else (none)) = some r := H
                  have A32 := Aside0.mk A320
                  clear A320
                  by_cases c33 : y423.length + t426.length < 140737488355328
                  case neg =>
                    rw [if_neg c33] at H; exact absurd H (by simp)
                  rw [if_pos c33] at H; have LMc33 := Aside0.mk c33
                  clear c33
                  obtain ⟨y429, hy429⟩ : ∃ y_ : List Int, y_ = (y423 ++ t426) := ⟨_, rfl⟩
                  replace H : (if x10_4.length < 4398046511104 then (wayfarerlaw08_TlvPads.l0 k4 l1 x2_14 l3 y429 (x10_4 ++ [(⟨(⟨(rd_T62 l0 x45_4).f0.f0, (rd_T62 l0 x45_4).f0.f1⟩ : S29), (rd_T62 l0 x45_4).f1, (⟨(rd_T62 l0 x45_4).f2.f0, (rd_T62 l0 x45_4).f2.f1⟩ : S39)⟩ : S62)]) ((rd_T62 l0 x45_4).f1) l0 (l0.length : Int) (wrap64 (x45_4 + 1))) else (none)) = some r := by first | (rw [hy429]; with_reducible exact H) | (have H2_ := (Option.bind_some _ _).symm.trans H; rw [hy429]; with_reducible exact H2_) | (have H2_ := (Option.bind_some _ _).symm.trans H; with_reducible exact H2_) | with_reducible exact H | (rw [hy429]; exact H) | exact H
                  have Ny429 := Aside0.mk hy429
                  clear hy429
                  by_cases c34 : x10_4.length < 4398046511104
                  case neg =>
                    rw [if_neg c34] at H; exact absurd H (by simp)
                  rw [if_pos c34] at H; have LMc34 := Aside0.mk c34
                  clear c34
                  obtain ⟨y432, hy432⟩ : ∃ y_ : List (S62), y_ = (x10_4 ++ [(⟨(⟨(rd_T62 l0 x45_4).f0.f0, (rd_T62 l0 x45_4).f0.f1⟩ : S29), (rd_T62 l0 x45_4).f1, (⟨(rd_T62 l0 x45_4).f2.f0, (rd_T62 l0 x45_4).f2.f1⟩ : S39)⟩ : S62)]) := ⟨_, rfl⟩
                  replace H : (wayfarerlaw08_TlvPads.l0 k4 l1 x2_14 l3 y429 y432 ((rd_T62 l0 x45_4).f1) l0 (l0.length : Int) (wrap64 (x45_4 + 1))) = some r := by first | (rw [hy432]; with_reducible exact H) | (have H2_ := (Option.bind_some _ _).symm.trans H; rw [hy432]; with_reducible exact H2_) | (have H2_ := (Option.bind_some _ _).symm.trans H; with_reducible exact H2_) | with_reducible exact H | (rw [hy432]; exact H) | exact H
                  have Ny432 := Aside0.mk hy432
                  clear hy432
                  have H' := Aside0.mk H
                  clear H
                  have p410 : 0 ≤ (x45_4 : Int) := of_decide_eq_true (by first | (with_reducible assumption) | assumption)
                  have q410 : x45_4 < (l0.length : Int) := of_decide_eq_true (by first | (with_reducible assumption) | assumption)
                  obtain ⟨ad410, e410, hx410_0, hx410_1, hx410_2, hx410_3, hx410_4⟩ := at_T62 HR0.out x45_4 p410 q410
                  cases e410
                  replace hx410_0 := (HB.out.cell (World.block_lt_of_cell? w _ hx410_0)).trans hx410_0
                  replace hx410_1 := (HB.out.cell (World.block_lt_of_cell? w _ hx410_1)).trans hx410_1
                  replace hx410_2 := (HB.out.cell (World.block_lt_of_cell? w _ hx410_2)).trans hx410_2
                  replace hx410_3 := (HB.out.cell (World.block_lt_of_cell? w _ hx410_3)).trans hx410_3
                  replace hx410_4 := (HB.out.cell (World.block_lt_of_cell? w _ hx410_4)).trans hx410_4
                  replace p410 := eq_true p410
                  replace q410 := eq_true q410
                  go_wp2_with (first | ((with_reducible refine gate_dst (N := 13) rfl ?_); (try (refine gate_guard (by rfl) ?_; dsimp only)); refine box_event ?hg (N := 13) ?hd (cs := #[.int .u32 0, .int .i64 0, .int .u32 0, .int .u32 0, .int .u16 0]) (t := 62) ?hr ?_; (case hd => rfl); (case hg => rfl); (case hr => first | (go_simp; done) | (go_simp; rfl)); intro gb411 hg w35 hbox hb; have n0_ := Aside0.mk (Kd.R_below (by (with_reducible repeat (first | apply Kd.R_alloc | apply Kd.R_drewN | apply Kd.R_drew)); exact HO_9.out) hb); have n1_ := Aside0.mk (Kd.R_below (Kd.R_elderB (by (with_reducible repeat (first | apply Kd.R_alloc | apply Kd.R_drewN | apply Kd.R_drew)); exact HO_10.out) gb411 (Nat.le_of_eq hg.symm)) hb); have n2_ := Aside0.mk (below_step (by repeat (first | (with_reducible first | exact HB.out | apply below_alloc | apply pw_below_drewN | apply below_drew1) | exact HB.out)) hb); have n3_ := Aside0.mk (hbox); have n4_ := Aside0.mk ((by rw [hg]; exact (below_size (by repeat (first | (with_reducible first | exact HB.out | apply below_alloc | apply pw_below_drewN | apply below_drew1) | exact HB.out))) : w.heap.size ≤ gb411)); have n5_ := Aside0.mk ((by rw [hg]; exact (below_size (by repeat (first | (with_reducible first | exact HB.out | apply below_alloc | apply pw_below_drewN | apply below_drew1) | exact HB.out))) : w.heap.size ≤ gb411)); clear HO_9; clear HO_10; clear HB; have HO_9 := n0_; have HO_10 := n1_; have HB := n2_; have BK411 := n3_; have GW411 := n4_; have GE411 := n5_; clear n0_ n1_ n2_ n3_ n4_ n5_; clear hb hbox hg; have hcz36_0 : w35.cell? ⟨gb411, 0, none⟩ = some (.int .u32 0) := (blk_cell BK411.out 0).trans rfl; have hcz36_1 : w35.cell? ⟨gb411, 1, none⟩ = some (.int .i64 0) := (blk_cell BK411.out 1).trans rfl; have hcz36_2 : w35.cell? ⟨gb411, 2, none⟩ = some (.int .u32 0) := (blk_cell BK411.out 2).trans rfl; have hcz36_3 : w35.cell? ⟨gb411, 3, none⟩ = some (.int .u32 0) := (blk_cell BK411.out 3).trans rfl; have hcz36_4 : w35.cell? ⟨gb411, 4, none⟩ = some (.int .u16 0) := (blk_cell BK411.out 4).trans rfl; have hfz36_0 := blk_frozen BK411.out 0; have hfz36_1 := blk_frozen BK411.out 1; have hfz36_2 := blk_frozen BK411.out 2; have hfz36_3 := blk_frozen BK411.out 3; have hfz36_4 := blk_frozen BK411.out 4) | ((with_reducible refine gate_callee (f := 36) rfl ?_); refine goesL_ (some 51) rfl rfl Try.func36 (by kernel_rfl) rfl #[.agg #[.int .u32 ((rd_T62 l0 x45_4).f0.f0), .int .i64 ((rd_T62 l0 x45_4).f0.f1), .int .u32 ((rd_T62 l0 x45_4).f1), .int .u32 ((rd_T62 l0 x45_4).f2.f0), .int .u16 ((rd_T62 l0 x45_4).f2.f1)]] rfl (by (try simp only [List.map_toArray, List.map_cons, List.map_nil]); first | done | rfl | (simp only [List.length_drop, List.length_take]; rfl)) ?_; (with_reducible refine (wayfarerlaw08_Right.calls k4 ((rd_T62 l0 x45_4).f0.f0) ((rd_T62 l0 x45_4).f0.f1) ((rd_T62 l0 x45_4).f1) ((rd_T62 l0 x45_4).f2.f0) ((rd_T62 l0 x45_4).f2.f1) true _ A24.out).mono ?_); rintro e w37 ⟨rfl, hb⟩; refine ⟨_, rfl, ?_⟩; have n0_ := Aside0.mk (Kd.R_below (by (with_reducible repeat (first | apply Kd.R_alloc | apply Kd.R_drewN | apply Kd.R_drew)); exact (Kd.R_mono (Kd.R_far (p := ⟨gb411, 4, none⟩) (Kd.R_far (p := ⟨gb411, 3, none⟩) (Kd.R_far (p := ⟨gb411, 2, none⟩) (Kd.R_far (p := ⟨gb411, 1, none⟩) (Kd.R_far (p := ⟨gb411, 0, none⟩) (Kd.R_types HO_9.out BK411.out (by decide)) (fun _ hk => hk.2) (.int .u32 ((rd_T62 l0 x45_4).f0.f0))) (fun _ hk => hk.2) (.int .i64 ((rd_T62 l0 x45_4).f0.f1))) (fun _ hk => hk.2) (.int .u32 ((rd_T62 l0 x45_4).f1))) (fun _ hk => hk.2) (.int .u32 ((rd_T62 l0 x45_4).f2.f0))) (fun _ hk => hk.2) (.int .u16 ((rd_T62 l0 x45_4).f2.f1))) (fun _ h_ => h_.1))) hb); have n1_ := Aside0.mk (Kd.R_below (by (with_reducible repeat (first | apply Kd.R_alloc | apply Kd.R_drewN | apply Kd.R_drew)); exact (Kd.R_mono (Kd.R_far (p := ⟨gb411, 4, none⟩) (Kd.R_far (p := ⟨gb411, 3, none⟩) (Kd.R_far (p := ⟨gb411, 2, none⟩) (Kd.R_far (p := ⟨gb411, 1, none⟩) (Kd.R_far (p := ⟨gb411, 0, none⟩) (Kd.R_mono HO_10.out (fun k_ hk => (⟨hk, hk.2⟩ : _ ∧ k_ ≠ gb411))) (fun _ hk => hk.2) (.int .u32 ((rd_T62 l0 x45_4).f0.f0))) (fun _ hk => hk.2) (.int .i64 ((rd_T62 l0 x45_4).f0.f1))) (fun _ hk => hk.2) (.int .u32 ((rd_T62 l0 x45_4).f1))) (fun _ hk => hk.2) (.int .u32 ((rd_T62 l0 x45_4).f2.f0))) (fun _ hk => hk.2) (.int .u16 ((rd_T62 l0 x45_4).f2.f1))) (fun _ h_ => h_.1))) hb); have n2_ := Aside0.mk (blk_below (g := gb411) (o := .cells #[.int .u32 ((rd_T62 l0 x45_4).f0.f0), .int .i64 ((rd_T62 l0 x45_4).f0.f1), .int .u32 ((rd_T62 l0 x45_4).f1), .int .u32 ((rd_T62 l0 x45_4).f2.f0), .int .u16 ((rd_T62 l0 x45_4).f2.f1)] 62 (0, 0)) (by (with_reducible repeat (first | refine blk_drewN ?_ _ | refine blk_drew ?_ | refine blk_alloc ?_ _)); refine blk_put (cs := #[.int .u32 ((rd_T62 l0 x45_4).f0.f0), .int .i64 ((rd_T62 l0 x45_4).f0.f1), .int .u32 ((rd_T62 l0 x45_4).f1), .int .u32 ((rd_T62 l0 x45_4).f2.f0), .int .u16 0]) ?_ 4 _ rfl; (with_reducible repeat (first | refine blk_drewN ?_ _ | refine blk_drew ?_ | refine blk_alloc ?_ _)); refine blk_put (cs := #[.int .u32 ((rd_T62 l0 x45_4).f0.f0), .int .i64 ((rd_T62 l0 x45_4).f0.f1), .int .u32 ((rd_T62 l0 x45_4).f1), .int .u32 0, .int .u16 0]) ?_ 3 _ rfl; (with_reducible repeat (first | refine blk_drewN ?_ _ | refine blk_drew ?_ | refine blk_alloc ?_ _)); refine blk_put (cs := #[.int .u32 ((rd_T62 l0 x45_4).f0.f0), .int .i64 ((rd_T62 l0 x45_4).f0.f1), .int .u32 0, .int .u32 0, .int .u16 0]) ?_ 2 _ rfl; (with_reducible repeat (first | refine blk_drewN ?_ _ | refine blk_drew ?_ | refine blk_alloc ?_ _)); refine blk_put (cs := #[.int .u32 ((rd_T62 l0 x45_4).f0.f0), .int .i64 0, .int .u32 0, .int .u32 0, .int .u16 0]) ?_ 1 _ rfl; (with_reducible repeat (first | refine blk_drewN ?_ _ | refine blk_drew ?_ | refine blk_alloc ?_ _)); refine blk_put (cs := #[.int .u32 0, .int .i64 0, .int .u32 0, .int .u32 0, .int .u16 0]) ?_ 0 _ rfl; (with_reducible repeat (first | refine blk_drewN ?_ _ | refine blk_drew ?_ | refine blk_alloc ?_ _)); exact BK411.out) hb); have n3_ := Aside0.mk (below_step (by repeat (first | (with_reducible first | exact HB.out | apply below_alloc | apply pw_below_drewN | apply below_drew1 | refine below_set ?_ GE411.out) | exact HB.out)) hb); clear HO_9; clear HO_10; clear BK411; clear HB; have HO_9 := n0_; have HO_10 := n1_; have BK411 := n2_; have HB := n3_; clear n0_ n1_ n2_ n3_; (try clear hb); (try clear hb2); (try clear hk); (try clear hi); have p413 : 0 ≤ (x45_4 : Int) := of_decide_eq_true (by first | (with_reducible assumption) | assumption); have q413 : x45_4 < (l1.length : Int) := of_decide_eq_true (by first | (with_reducible assumption) | assumption); obtain ⟨ad413, e413, hx413_0⟩ := Kd.at_int HR1.out x45_4 p413 q413; cases e413; replace hx413_0 := (HB.out.cell (World.block_lt_of_cell? w _ hx413_0)).trans hx413_0; replace p413 := eq_true p413; replace q413 := eq_true q413) | (at_builtin; refine Kd.R_append_zeros (Kd.int .u8) (w0 := w) w.heap.size rfl (.tmp 57) (.tmp 63) 22 3 5 (.int .u8 0) 1 rfl Try.underlying22 Try.underlying3 info5 rfl (by decide) (by omega) u9 x9_4 0 (ji27 : Int) (fun _ => True) rfl rfl rfl ?aF ?aO (of_decide_eq_true (by first | (with_reducible assumption) | assumption)) ?aB ?aS ?aL ?_; (case aB => exact (by repeat (first | (with_reducible first | exact HB.out | apply below_alloc | apply pw_below_drewN | apply below_drew1 | refine below_set ?_ GE411.out) | exact HB.out))); (case aF => exact (fun _ _ => trivial)); (case aO => exact (by (with_reducible repeat (first | apply Kd.R_alloc | apply Kd.R_drewN | apply Kd.R_drew)); exact HO_9.out)); (case aS => exact (below_size (by repeat (first | (with_reducible first | exact HB.out | apply below_alloc | apply pw_below_drewN | apply below_drew1 | refine below_set ?_ GE411.out) | exact HB.out)))); (case aL => have := LMc29.out; omega); intro v415 w38 ho hb hg hat; rw [← Ny414.out] at ho; have n0_ := Aside0.mk (Kd.R_over' (by (with_reducible repeat (first | apply Kd.R_alloc | apply Kd.R_drewN | apply Kd.R_drew)); exact HO_10.out) (Kd.R_typed (by (with_reducible repeat (first | apply Kd.R_alloc | apply Kd.R_drewN | apply Kd.R_drew)); exact HO_9.out)) (by decide) hg); have n1_ := Aside0.mk (blk_grown (g := gb411) (o := .cells #[.int .u32 ((rd_T62 l0 x45_4).f0.f0), .int .i64 ((rd_T62 l0 x45_4).f0.f1), .int .u32 ((rd_T62 l0 x45_4).f1), .int .u32 ((rd_T62 l0 x45_4).f2.f0), .int .u16 ((rd_T62 l0 x45_4).f2.f1)] 62 (0, 0)) (by (with_reducible repeat (first | refine blk_drewN ?_ _ | refine blk_drew ?_ | refine blk_alloc ?_ _)); exact BK411.out) hg (Kd.R_ne HO_9.out BK411.out (by decide))); have n2_ := Aside0.mk (hb); have n3_ := Aside0.mk (ho); clear HO_10; clear BK411; clear HB; clear HO_9; have HO_10 := n0_; have BK411 := n1_; have HB := n2_; have HO416 := n3_; clear n0_ n1_ n2_ n3_; clear ho hb hg hat) | ((with_reducible refine gate_dst (N := 70) rfl ?_); (try (refine gate_guard (by rfl) ?_; dsimp only)); refine Kd.R_lit (Kd.int .u8) _ 5 ?hg (N := 70) ?hd (xs := ([x2_14, ((l3.length : Int)) % 256] : List Int)) (inner := [.int .u8 x2_14, .int .u8 (((l3.length : Int)) % 256)]) (ok := fun _ => True) (okp := fun _ => True) ?hr ?hp (fun _ hk => hk) trivial (Below.refl _ _) (Nat.le_refl _) (by simp) ?_; (case hd => rfl); (case hg => rfl); (case hr => first | (go_simp; done) | (go_simp; rfl)); (case hp => exact (Reps.one (show Kd.M (Kd.int .u8) _ _ _ x2_14 [.int .u8 x2_14] from rfl) (Reps.one (show Kd.M (Kd.int .u8) _ _ _ (((l3.length : Int)) % 256) [.int .u8 (((l3.length : Int)) % 256)] from rfl) (Reps.none _ _)))); intro v418 w39 ho40 hb hg_ hnew_; clear hg_ hnew_; (first | rw [← Ny417.out] at ho40 | (simp only [Int.reduceToNat] at ho40; rw [← Ny417.out] at ho40)); have n0_ := Aside0.mk (Kd.R_below (by (with_reducible repeat (first | apply Kd.R_alloc | apply Kd.R_drewN | apply Kd.R_drew)); exact HO_10.out) hb); have n1_ := Aside0.mk (Kd.R_elder' (by (with_reducible repeat (first | apply Kd.R_alloc | apply Kd.R_drewN | apply Kd.R_drew)); exact HO416.out) (Kd.R_base ho40) hb); have n2_ := Aside0.mk (Kd.R_lower (Kd.R_new' ho40 (Kd.R_lt (by (with_reducible repeat (first | apply Kd.R_alloc | apply Kd.R_drewN | apply Kd.R_drew)); exact HO416.out))) (below_size (by repeat (first | (with_reducible first | exact HB.out | apply below_alloc | apply pw_below_drewN | apply below_drew1 | refine below_set ?_ GE411.out) | exact HB.out)))); have n3_ := Aside0.mk (blk_below (g := gb411) (o := .cells #[.int .u32 ((rd_T62 l0 x45_4).f0.f0), .int .i64 ((rd_T62 l0 x45_4).f0.f1), .int .u32 ((rd_T62 l0 x45_4).f1), .int .u32 ((rd_T62 l0 x45_4).f2.f0), .int .u16 ((rd_T62 l0 x45_4).f2.f1)] 62 (0, 0)) (by (with_reducible repeat (first | refine blk_drewN ?_ _ | refine blk_drew ?_ | refine blk_alloc ?_ _)); exact BK411.out) hb); have n4_ := Aside0.mk (below_step (by repeat (first | (with_reducible first | exact HB.out | apply below_alloc | apply pw_below_drewN | apply below_drew1 | refine below_set ?_ GE411.out) | exact HB.out)) hb); clear HO_10; clear HO416; clear BK411; clear HB; have HO_10 := n0_; have HO416 := n1_; have HO419 := n2_; have BK411 := n3_; have HB := n4_; clear n0_ n1_ n2_ n3_ n4_; clear hb ho40; obtain ⟨Ao42, co42, eo42⟩ := Kd.R_slice HO419.out; subst eo42) | ((with_reducible refine gate_builtin (b := .append) (xs := #[.tmp 65, .tmp 70]) rfl ?_); (try (refine gate_guard (by rfl) ?_; dsimp only)); at_builtin; refine Kd.R_append_rows (Kd.int .u8) (w0 := w) w.heap.size rfl (.tmp 65) (.tmp 70) 22 5 (.int .u8 0) 1 rfl Try.underlying22 info5 rfl (by decide) (by omega) v415 y414 y417 _ _ _ (fun k_ => some k_ ≠ (.slice Ao42 y417.length co42 : Value).ownBlock) (fun _ => False) rfl rfl ?aO ?aR (fun _ _ h => h) (fun _ h => h.elim) ?aF ?aB ?aS ?aL ?_; (case aR => repeat (first | exact (Kd.R_reads' HO419.out).2.2 | (with_reducible refine Kd.C_alloc ?_ _) | (with_reducible refine Kd.C_drewN ?_ _) | (with_reducible refine Kd.C_drew ?_))); (case aB => exact (by repeat (first | (with_reducible first | exact HB.out | apply below_alloc | apply pw_below_drewN | apply below_drew1 | refine below_set ?_ GE411.out) | exact HB.out))); (case aF => exact (fun k_ hk => Kd.fresh' (Kd.R_lt (by (with_reducible repeat (first | apply Kd.R_alloc | apply Kd.R_drewN | apply Kd.R_drew)); exact HO419.out)) k_ hk)); (case aO => exact (by (with_reducible repeat (first | apply Kd.R_alloc | apply Kd.R_drewN | apply Kd.R_drew)); exact Kd.R_mono HO416.out (fun _ hk => hk.2))); (case aS => exact (below_size (by repeat (first | (with_reducible first | exact HB.out | apply below_alloc | apply pw_below_drewN | apply below_drew1 | refine below_set ?_ GE411.out) | exact HB.out)))); (case aL => have := LMc30.out; omega); intro v421 w41 ho hb hg hat; rw [← Ny420.out] at ho; have n0_ := Aside0.mk (Kd.R_over' (by (with_reducible repeat (first | apply Kd.R_alloc | apply Kd.R_drewN | apply Kd.R_drew)); exact HO_10.out) (Kd.R_typed (by (with_reducible repeat (first | apply Kd.R_alloc | apply Kd.R_drewN | apply Kd.R_drew)); exact HO416.out)) (by decide) hg); have n1_ := Aside0.mk (blk_grown (g := gb411) (o := .cells #[.int .u32 ((rd_T62 l0 x45_4).f0.f0), .int .i64 ((rd_T62 l0 x45_4).f0.f1), .int .u32 ((rd_T62 l0 x45_4).f1), .int .u32 ((rd_T62 l0 x45_4).f2.f0), .int .u16 ((rd_T62 l0 x45_4).f2.f1)] 62 (0, 0)) (by (with_reducible repeat (first | refine blk_drewN ?_ _ | refine blk_drew ?_ | refine blk_alloc ?_ _)); exact BK411.out) hg (Kd.R_ne HO416.out BK411.out (by decide))); have n2_ := Aside0.mk (Kd.R_after (ok := (fun _ => True)) (by (with_reducible repeat (first | apply Kd.R_alloc | apply Kd.R_drewN | apply Kd.R_drew)); exact HO419.out) hg hat); have n3_ := Aside0.mk (hb); have n4_ := Aside0.mk (ho); clear HO_10; clear BK411; clear HO419; clear HB; clear HO416; have HO_10 := n0_; have BK411 := n1_; have HO419 := n2_; have HB := n3_; have HO422 := n4_; clear n0_ n1_ n2_ n3_ n4_; clear ho hb hg hat) | ((with_reducible refine gate_builtin (b := .append) (xs := #[.tmp 71, .tmp 72]) rfl ?_); (try (refine gate_guard (by rfl) ?_; dsimp only)); at_builtin; refine Kd.R_append_rows (Kd.int .u8) (w0 := w) w.heap.size rfl (.tmp 71) (.tmp 72) 22 5 (.int .u8 0) 1 rfl Try.underlying22 info5 rfl (by decide) (by omega) v421 y420 l3 _ _ _ (fun k_ => some k_ ≠ (.slice Ao42 y417.length co42 : Value).ownBlock) (fun _ => False) rfl rfl ?aO ?aR (fun _ _ h => h) (fun _ h => h.elim) ?aF ?aB ?aS ?aL ?_; (case aR => repeat (first | exact (Kd.C_below HR3.out HB.out) | (with_reducible refine Kd.C_alloc ?_ _) | (with_reducible refine Kd.C_drewN ?_ _) | (with_reducible refine Kd.C_drew ?_))); (case aB => exact (by repeat (first | (with_reducible first | exact HB.out | apply below_alloc | apply pw_below_drewN | apply below_drew1 | refine below_set ?_ GE411.out) | exact HB.out))); (case aF => exact (fun k_ hk => Kd.fresh' (Kd.R_lt (by (with_reducible repeat (first | apply Kd.R_alloc | apply Kd.R_drewN | apply Kd.R_drew)); exact HO419.out)) k_ hk)); (case aO => exact (by (with_reducible repeat (first | apply Kd.R_alloc | apply Kd.R_drewN | apply Kd.R_drew)); exact HO422.out)); (case aS => exact (below_size (by repeat (first | (with_reducible first | exact HB.out | apply below_alloc | apply pw_below_drewN | apply below_drew1 | refine below_set ?_ GE411.out) | exact HB.out)))); (case aL => have := LMc31.out; omega); intro v424 w43 ho hb hg hat; rw [← Ny423.out] at ho; have n0_ := Aside0.mk (Kd.R_over' (by (with_reducible repeat (first | apply Kd.R_alloc | apply Kd.R_drewN | apply Kd.R_drew)); exact HO_10.out) (Kd.R_typed (by (with_reducible repeat (first | apply Kd.R_alloc | apply Kd.R_drewN | apply Kd.R_drew)); exact HO422.out)) (by decide) hg); have n1_ := Aside0.mk (blk_grown (g := gb411) (o := .cells #[.int .u32 ((rd_T62 l0 x45_4).f0.f0), .int .i64 ((rd_T62 l0 x45_4).f0.f1), .int .u32 ((rd_T62 l0 x45_4).f1), .int .u32 ((rd_T62 l0 x45_4).f2.f0), .int .u16 ((rd_T62 l0 x45_4).f2.f1)] 62 (0, 0)) (by (with_reducible repeat (first | refine blk_drewN ?_ _ | refine blk_drew ?_ | refine blk_alloc ?_ _)); exact BK411.out) hg (Kd.R_ne HO422.out BK411.out (by decide))); have n2_ := Aside0.mk (Kd.R_after (ok := (fun _ => True)) (by (with_reducible repeat (first | apply Kd.R_alloc | apply Kd.R_drewN | apply Kd.R_drew)); exact HO419.out) hg hat); have n3_ := Aside0.mk (hb); have n4_ := Aside0.mk (ho); clear HO_10; clear BK411; clear HO419; clear HB; clear HO422; have HO_10 := n0_; have BK411 := n1_; have HO419 := n2_; have HB := n3_; have HO425 := n4_; clear n0_ n1_ n2_ n3_ n4_; clear ho hb hg hat; have hcz44_0 : w43.cell? ⟨gb411, 0, none⟩ = some (.int .u32 ((rd_T62 l0 x45_4).f0.f0)) := (blk_cell BK411.out 0).trans rfl; have hcz44_1 : w43.cell? ⟨gb411, 1, none⟩ = some (.int .i64 ((rd_T62 l0 x45_4).f0.f1)) := (blk_cell BK411.out 1).trans rfl; have hcz44_2 : w43.cell? ⟨gb411, 2, none⟩ = some (.int .u32 ((rd_T62 l0 x45_4).f1)) := (blk_cell BK411.out 2).trans rfl; have hcz44_3 : w43.cell? ⟨gb411, 3, none⟩ = some (.int .u32 ((rd_T62 l0 x45_4).f2.f0)) := (blk_cell BK411.out 3).trans rfl; have hcz44_4 : w43.cell? ⟨gb411, 4, none⟩ = some (.int .u16 ((rd_T62 l0 x45_4).f2.f1)) := (blk_cell BK411.out 4).trans rfl; have hfz44_0 := blk_frozen BK411.out 0; have hfz44_1 := blk_frozen BK411.out 1; have hfz44_2 := blk_frozen BK411.out 2; have hfz44_3 := blk_frozen BK411.out 3; have hfz44_4 := blk_frozen BK411.out 4) | ((with_reducible refine gate_callee (f := 42) rfl ?_); refine goesL_ (some 77) rfl rfl Try.func42 (by kernel_rfl) rfl #[.agg #[.int .u32 ((rd_T62 l0 x45_4).f0.f0), .int .i64 ((rd_T62 l0 x45_4).f0.f1), .int .u32 ((rd_T62 l0 x45_4).f1), .int .u32 ((rd_T62 l0 x45_4).f2.f0), .int .u16 ((rd_T62 l0 x45_4).f2.f1)], .int .u32 x11_4] rfl (by (try simp only [List.map_toArray, List.map_cons, List.map_nil]); first | done | rfl | (simp only [List.length_drop, List.length_take]; rfl)) ?_; (with_reducible refine (wayfarerlaw08_parts.calls k4 ((rd_T62 l0 x45_4).f0.f0) ((rd_T62 l0 x45_4).f0.f1) ((rd_T62 l0 x45_4).f1) ((rd_T62 l0 x45_4).f2.f0) ((rd_T62 l0 x45_4).f2.f1) x11_4 t426 _ A32.out).mono ?_); rintro e w45 ⟨v427, rfl, ho0, hb⟩; refine ⟨_, rfl, ?_⟩; have n0_ := Aside0.mk (Kd.R_below (by (with_reducible repeat (first | apply Kd.R_alloc | apply Kd.R_drewN | apply Kd.R_drew)); exact HO_10.out) hb); have n1_ := Aside0.mk (Kd.R_elder' (by (with_reducible repeat (first | apply Kd.R_alloc | apply Kd.R_drewN | apply Kd.R_drew)); exact HO419.out) (Kd.R_base ho0) hb); have n2_ := Aside0.mk (Kd.R_elder' (by (with_reducible repeat (first | apply Kd.R_alloc | apply Kd.R_drewN | apply Kd.R_drew)); exact HO425.out) (Kd.R_base ho0) hb); have n3_ := Aside0.mk (Kd.R_lower (Kd.R_new' (Kd.R_new' ho0 (Kd.R_lt (by (with_reducible repeat (first | apply Kd.R_alloc | apply Kd.R_drewN | apply Kd.R_drew)); exact HO419.out))) (Kd.R_lt (by (with_reducible repeat (first | apply Kd.R_alloc | apply Kd.R_drewN | apply Kd.R_drew)); exact HO425.out))) (below_size (by repeat (first | (with_reducible first | exact HB.out | apply below_alloc | apply pw_below_drewN | apply below_drew1 | refine below_set ?_ GE411.out) | exact HB.out)))); have n4_ := Aside0.mk (blk_below (g := gb411) (o := .cells #[.int .u32 ((rd_T62 l0 x45_4).f0.f0), .int .i64 ((rd_T62 l0 x45_4).f0.f1), .int .u32 ((rd_T62 l0 x45_4).f1), .int .u32 ((rd_T62 l0 x45_4).f2.f0), .int .u16 ((rd_T62 l0 x45_4).f2.f1)] 62 (0, 0)) (by (with_reducible repeat (first | refine blk_drewN ?_ _ | refine blk_drew ?_ | refine blk_alloc ?_ _)); exact BK411.out) hb); have n5_ := Aside0.mk (below_step (by repeat (first | (with_reducible first | exact HB.out | apply below_alloc | apply pw_below_drewN | apply below_drew1 | refine below_set ?_ GE411.out) | exact HB.out)) hb); clear HO_10; clear HO419; clear HO425; clear BK411; clear HB; have HO_10 := n0_; have HO419 := n1_; have HO425 := n2_; have HO428 := n3_; have BK411 := n4_; have HB := n5_; clear n0_ n1_ n2_ n3_ n4_ n5_; (try clear hb); (try clear hb2); (try clear hk); (try clear hi); (try clear ho0); obtain ⟨Ao47, co47, eo47⟩ := Kd.R_slice HO428.out; subst eo47) | ((with_reducible refine gate_builtin (b := .append) (xs := #[.tmp 74, .tmp 77]) rfl ?_); (try (refine gate_guard (by rfl) ?_; dsimp only)); at_builtin; refine Kd.R_append_rows (Kd.int .u8) (w0 := w) w.heap.size rfl (.tmp 74) (.tmp 77) 22 5 (.int .u8 0) 1 rfl Try.underlying22 info5 rfl (by decide) (by omega) v424 y423 t426 _ _ _ (fun k_ => some k_ ≠ (.slice Ao42 y417.length co42 : Value).ownBlock ∧ some k_ ≠ (.slice Ao47 t426.length co47 : Value).ownBlock) (fun _ => False) rfl rfl ?aO ?aR (fun _ _ h => h) (fun _ h => h.elim) ?aF ?aB ?aS ?aL ?_; (case aR => repeat (first | exact (Kd.R_reads' HO428.out).2.2 | (with_reducible refine Kd.C_alloc ?_ _) | (with_reducible refine Kd.C_drewN ?_ _) | (with_reducible refine Kd.C_drew ?_))); (case aB => exact (by repeat (first | (with_reducible first | exact HB.out | apply below_alloc | apply pw_below_drewN | apply below_drew1 | refine below_set ?_ GE411.out) | exact HB.out))); (case aF => exact (fun k_ hk => ⟨Kd.fresh' (Kd.R_lt (by (with_reducible repeat (first | apply Kd.R_alloc | apply Kd.R_drewN | apply Kd.R_drew)); exact HO419.out)) k_ hk, Kd.fresh' (Kd.R_lt (by (with_reducible repeat (first | apply Kd.R_alloc | apply Kd.R_drewN | apply Kd.R_drew)); exact HO428.out)) k_ hk⟩)); (case aO => exact (by (with_reducible repeat (first | apply Kd.R_alloc | apply Kd.R_drewN | apply Kd.R_drew)); exact HO425.out)); (case aS => exact (below_size (by repeat (first | (with_reducible first | exact HB.out | apply below_alloc | apply pw_below_drewN | apply below_drew1 | refine below_set ?_ GE411.out) | exact HB.out)))); (case aL => have := LMc33.out; omega); intro v430 w46 ho hb hg hat; rw [← Ny429.out] at ho; have n0_ := Aside0.mk (Kd.R_over' (by (with_reducible repeat (first | apply Kd.R_alloc | apply Kd.R_drewN | apply Kd.R_drew)); exact HO_10.out) (Kd.R_typed (by (with_reducible repeat (first | apply Kd.R_alloc | apply Kd.R_drewN | apply Kd.R_drew)); exact HO425.out)) (by decide) hg); have n1_ := Aside0.mk (blk_grown (g := gb411) (o := .cells #[.int .u32 ((rd_T62 l0 x45_4).f0.f0), .int .i64 ((rd_T62 l0 x45_4).f0.f1), .int .u32 ((rd_T62 l0 x45_4).f1), .int .u32 ((rd_T62 l0 x45_4).f2.f0), .int .u16 ((rd_T62 l0 x45_4).f2.f1)] 62 (0, 0)) (by (with_reducible repeat (first | refine blk_drewN ?_ _ | refine blk_drew ?_ | refine blk_alloc ?_ _)); exact BK411.out) hg (Kd.R_ne HO425.out BK411.out (by decide))); have n2_ := Aside0.mk (Kd.R_after (ok := (fun k_ => some k_ ≠ (.slice Ao47 t426.length co47 : Value).ownBlock)) (by (with_reducible repeat (first | apply Kd.R_alloc | apply Kd.R_drewN | apply Kd.R_drew)); exact Kd.R_mono HO419.out (fun _ hk => ⟨hk.2, hk.1.2⟩)) hg hat); have n3_ := Aside0.mk (Kd.R_after (ok := (fun k_ => some k_ ≠ (.slice Ao42 y417.length co42 : Value).ownBlock)) (by (with_reducible repeat (first | apply Kd.R_alloc | apply Kd.R_drewN | apply Kd.R_drew)); exact Kd.R_mono HO428.out (fun _ hk => ⟨hk.1.2, hk.2⟩)) hg hat); have n4_ := Aside0.mk (hb); have n5_ := Aside0.mk (ho); clear HO_10; clear BK411; clear HO419; clear HO428; clear HB; clear HO425; have HO_10 := n0_; have BK411 := n1_; have HO419 := n2_; have HO428 := n3_; have HB := n4_; have HO431 := n5_; clear n0_ n1_ n2_ n3_ n4_ n5_; clear ho hb hg hat; have hcz48_0 : w46.cell? ⟨gb411, 0, none⟩ = some (.int .u32 ((rd_T62 l0 x45_4).f0.f0)) := (blk_cell BK411.out 0).trans rfl; have hcz48_1 : w46.cell? ⟨gb411, 1, none⟩ = some (.int .i64 ((rd_T62 l0 x45_4).f0.f1)) := (blk_cell BK411.out 1).trans rfl; have hcz48_2 : w46.cell? ⟨gb411, 2, none⟩ = some (.int .u32 ((rd_T62 l0 x45_4).f1)) := (blk_cell BK411.out 2).trans rfl; have hcz48_3 : w46.cell? ⟨gb411, 3, none⟩ = some (.int .u32 ((rd_T62 l0 x45_4).f2.f0)) := (blk_cell BK411.out 3).trans rfl; have hcz48_4 : w46.cell? ⟨gb411, 4, none⟩ = some (.int .u16 ((rd_T62 l0 x45_4).f2.f1)) := (blk_cell BK411.out 4).trans rfl; have hfz48_0 := blk_frozen BK411.out 0; have hfz48_1 := blk_frozen BK411.out 1; have hfz48_2 := blk_frozen BK411.out 2; have hfz48_3 := blk_frozen BK411.out 3; have hfz48_4 := blk_frozen BK411.out 4) | ((with_reducible refine gate_builtin (b := .append) (xs := #[.tmp 81, .tmp 83]) rfl ?_); (try (refine gate_guard (by rfl) ?_; dsimp only)); at_builtin; refine Kd.R_append k62 (w0 := w) w.heap.size rfl (.tmp 81) (.tmp 83) 60 62 (.agg #[(.int .u32 0), (.int .i64 0), (.int .u32 0), (.int .u32 0), (.int .u16 0)]) 32 rfl Try.underlying60 info62 rfl (by decide) (by omega) u10 x10_4 (⟨(⟨(rd_T62 l0 x45_4).f0.f0, (rd_T62 l0 x45_4).f0.f1⟩ : S29), (rd_T62 l0 x45_4).f1, (⟨(rd_T62 l0 x45_4).f2.f0, (rd_T62 l0 x45_4).f2.f1⟩ : S39)⟩ : S62) [.int .u32 ((rd_T62 l0 x45_4).f0.f0), .int .i64 ((rd_T62 l0 x45_4).f0.f1), .int .u32 ((rd_T62 l0 x45_4).f1), .int .u32 ((rd_T62 l0 x45_4).f2.f0), .int .u16 ((rd_T62 l0 x45_4).f2.f1)] (fun k_ => k_ ≠ gb411) (fun _ => False) rfl rfl ?aP (fun _ hk => hk.elim) ?aF ?aO ?aB ?aS ?aL ?_; (case aP => exact k62_mkM _ _ _ (⟨(⟨(rd_T62 l0 x45_4).f0.f0, (rd_T62 l0 x45_4).f0.f1⟩ : S29), (rd_T62 l0 x45_4).f1, (⟨(rd_T62 l0 x45_4).f2.f0, (rd_T62 l0 x45_4).f2.f1⟩ : S39)⟩ : S62)); (case aB => exact (by repeat (first | (with_reducible first | exact HB.out | apply below_alloc | apply pw_below_drewN | apply below_drew1 | refine below_set ?_ GE411.out) | exact HB.out))); (case aF => exact (fun k_ hk => Kd.freshB (g := gb411) (o := .cells #[.int .u32 ((rd_T62 l0 x45_4).f0.f0), .int .i64 ((rd_T62 l0 x45_4).f0.f1), .int .u32 ((rd_T62 l0 x45_4).f1), .int .u32 ((rd_T62 l0 x45_4).f2.f0), .int .u16 ((rd_T62 l0 x45_4).f2.f1)] 62 (0, 0)) (by (with_reducible repeat (first | refine blk_drewN ?_ _ | refine blk_drew ?_ | refine blk_alloc ?_ _)); exact BK411.out) k_ hk)); (case aO => exact (by (with_reducible repeat (first | apply Kd.R_alloc | apply Kd.R_drewN | apply Kd.R_drew)); exact Kd.R_mono HO_10.out (fun _ hk => hk.2))); (case aS => exact (below_size (by repeat (first | (with_reducible first | exact HB.out | apply below_alloc | apply pw_below_drewN | apply below_drew1 | refine below_set ?_ GE411.out) | exact HB.out)))); (case aL => have := LMc34.out; omega); intro v433 w49 ho hb hg hat; rw [← Ny432.out] at ho; have n0_ := Aside0.mk (blk_grown (g := gb411) (o := .cells #[.int .u32 ((rd_T62 l0 x45_4).f0.f0), .int .i64 ((rd_T62 l0 x45_4).f0.f1), .int .u32 ((rd_T62 l0 x45_4).f1), .int .u32 ((rd_T62 l0 x45_4).f2.f0), .int .u16 ((rd_T62 l0 x45_4).f2.f1)] 62 (0, 0)) (by (with_reducible repeat (first | refine blk_drewN ?_ _ | refine blk_drew ?_ | refine blk_alloc ?_ _)); exact BK411.out) hg (Kd.R_away HO_10.out (fun _ hk => hk.2))); have n1_ := Aside0.mk (Kd.R_over' (by (with_reducible repeat (first | apply Kd.R_alloc | apply Kd.R_drewN | apply Kd.R_drew)); exact HO419.out) (Kd.R_typed (by (with_reducible repeat (first | apply Kd.R_alloc | apply Kd.R_drewN | apply Kd.R_drew)); exact HO_10.out)) (by decide) hg); have n2_ := Aside0.mk (Kd.R_over' (by (with_reducible repeat (first | apply Kd.R_alloc | apply Kd.R_drewN | apply Kd.R_drew)); exact HO428.out) (Kd.R_typed (by (with_reducible repeat (first | apply Kd.R_alloc | apply Kd.R_drewN | apply Kd.R_drew)); exact HO_10.out)) (by decide) hg); have n3_ := Aside0.mk (Kd.R_over' (by (with_reducible repeat (first | apply Kd.R_alloc | apply Kd.R_drewN | apply Kd.R_drew)); exact HO431.out) (Kd.R_typed (by (with_reducible repeat (first | apply Kd.R_alloc | apply Kd.R_drewN | apply Kd.R_drew)); exact HO_10.out)) (by decide) hg); have n4_ := Aside0.mk (hb); have n5_ := Aside0.mk (ho); clear BK411; clear HO419; clear HO428; clear HO431; clear HB; clear HO_10; have BK411 := n0_; have HO419 := n1_; have HO428 := n2_; have HO431 := n3_; have HB := n4_; have HO434 := n5_; clear n0_ n1_ n2_ n3_ n4_ n5_; clear ho hb hg hat))
                  go_roundg k4
                  case measure => have := HJ6.out; have := HJ11.out; have := HJ14.out; have := HK4.out; omega
                  case rel => exact ⟨(y429), (y432), ((rd_T62 l0 x45_4).f1), (wrap64 (x45_4 + 1)), (by first | rfl | (simp; done) | (simp [*]; done)), (by first | rfl | (simp; done) | (simp [*]; done)), H', ⟨by have := HJ6.out; have := HJ11.out; have := HJ14.out; have := HK4.out; omega⟩, ⟨by (with_reducible repeat (first | apply Kd.R_alloc | apply Kd.R_drewN | apply Kd.R_drew)); exact Kd.R_mono HO431.out (fun _ hk => trivial)⟩, ⟨by (with_reducible repeat (first | apply Kd.R_alloc | apply Kd.R_drewN | apply Kd.R_drew)); exact Kd.R_mono HO434.out (fun _ hk => trivial)⟩, ⟨by repeat (first | (with_reducible first | exact HB.out | apply below_alloc | apply pw_below_drewN | apply below_drew1 | refine below_set ?_ GE411.out) | exact HB.out)⟩⟩
end Go.Proofs.YtgmdjhokcipajaaQ.PTlv
