-- written by this session's turned copy of the kit's print.py; Lean checks it
import Derived.Test.YtgmdjhokcipajaaPTlx0
import Derived.Test.YtgmdjhokcipajaaPTlx4
import Derived.Test.YtgmdjhokcipajaaPTlx5
namespace Go.Proofs.YtgmdjhokcipajaaQ.PTlx
open Go.RowKit Go.Proofs.YtgmdjhokcipajaaW.PrintWords Go.Proofs.YtgmdjhokcipajaaW.PrintLast Go.Proofs.YtgmdjhokcipajaaW.PrintMore
attribute [local go_sem] max2_int min2_int max_two min_two max_three min_three max_four min_four   -- for this text's walks alone
set_option linter.unusedVariables false
set_option linter.unusedSimpArgs false

/-! ### tlv_Decode: function 39 -/
mutual
def tlv_Decode.j0 : Nat → List Int → Bool → Option ((List (S62)) × Bool)
  | 0, _, _ => none
  | k + 1, x0, x39 => if x39 = true then (some (([] : List (S62)), false)) else (if 4 ≤ (x0.length : Int) then (tlv_Decode.l0 k (x0.drop 4) ([] : List (S62)) 0) else (none))
def tlv_Decode.l0 : Nat → List Int → List (S62) → Int → Option ((List (S62)) × Bool)
  | 0, _, _, _ => none
  | k + 1, x0, x4, x5 => if (x0.length : Int) > 0 then (if 0 < (x0.length : Int) then (if (rd x0 0) = 0 then (if 1 ≤ (x0.length : Int) then (tlv_Decode.l0 k (x0.drop 1) x4 x5) else (none)) else (if (x0.length : Int) < 2 then (tlv_Decode.j2 k x0 x4 x5 true) else (if 1 < (x0.length : Int) then (tlv_Decode.j2 k x0 x4 x5 (decide ((x0.length : Int) < (wrap64 (2 + (wrap64 (rd x0 1))))))) else (none)))) else (none)) else (some (x4, true))
def tlv_Decode.j2 : Nat → List Int → List (S62) → Int → Bool → Option ((List (S62)) × Bool)
  | 0, _, _, _, _ => none
  | k + 1, x0, x4, x5, x63 => if x63 = true then (some (([] : List (S62)), false)) else (if 0 < (x0.length : Int) then (if 1 < (x0.length : Int) then (if 2 ≤ (wrap64 (2 + (wrap64 (rd x0 1)))) then (if (wrap64 (2 + (wrap64 (rd x0 1)))) ≤ (x0.length : Int) then ((some ((x0.take ((wrap64 (2 + (wrap64 (rd x0 1)))) : Int).toNat).drop 2 : List Int)).bind fun y165 => (if 0 ≤ (wrap64 (2 + (y165.length : Int))) then (if (wrap64 (2 + (y165.length : Int))) ≤ (x0.length : Int) then ((some (x0.drop ((wrap64 (2 + (y165.length : Int))) : Int).toNat : List Int)).bind fun y170 => (if (rd x0 0) = 2 then (tlv_Decode.j3 k y170 x4 x5 (rd x0 0) y165 ((y165.length : Int) == 4)) else (tlv_Decode.j3 k y170 x4 x5 (rd x0 0) y165 false))) else (none)) else (none))) else (none)) else (none)) else (none)) else (none))
def tlv_Decode.j3 : Nat → List Int → List (S62) → Int → Int → List Int → Bool → Option ((List (S62)) × Bool)
  | 0, _, _, _, _, _, _ => none
  | k + 1, x0, x4, x5, x6, x7, x79 => if x79 = true then ((tlv_get.f k x7).bind fun t175 => (tlv_Decode.l0 k x0 x4 t175)) else (if x6 = 3 then ((tlv_one.f x7 x5).bind fun bt176 => (if bt176.2.2.2.2.2 = true then (if x4.length < 4398046511104 then (tlv_Decode.l0 k x0 (x4 ++ [(⟨(⟨bt176.1, bt176.2.1⟩ : S29), bt176.2.2.1, (⟨bt176.2.2.2.1, bt176.2.2.2.2.1⟩ : S39)⟩ : S62)]) x5) else (none)) else (tlv_Decode.l0 k x0 x4 x5))) else (tlv_Decode.l0 k x0 x4 x5))
end
def tlv_Decode.f (k : Nat) (l0 : List Int) : Option ((List (S62)) × Bool) := if (l0.length : Int) < 4 then (tlv_Decode.j0 k l0 true) else (if (l0.length : Int) > 1024 then (tlv_Decode.j0 k l0 true) else (if 0 < (l0.length : Int) then (if (rd l0 0) = 87 then (if 1 < (l0.length : Int) then (if (rd l0 1) = 1 then (if 2 ≤ 4 then (if 4 ≤ (l0.length : Int) then ((tlv_get.f k ((l0.take 4).drop 2)).bind fun t150 => (tlv_Decode.j0 k l0 ((wrap64 (t150)) != (wrap64 ((l0.length : Int) - 4))))) else (none)) else (none)) else (tlv_Decode.j0 k l0 true)) else (none)) else (tlv_Decode.j0 k l0 true)) else (none)))
theorem tlv_Decode.mono_l : ∀ k, (∀ y0 y1, LeO (tlv_Decode.j0 k y0 y1) (tlv_Decode.j0 (k + 1) y0 y1)) ∧ (∀ y0 y1 y2, LeO (tlv_Decode.l0 k y0 y1 y2) (tlv_Decode.l0 (k + 1) y0 y1 y2)) ∧ (∀ y0 y1 y2 y3, LeO (tlv_Decode.j2 k y0 y1 y2 y3) (tlv_Decode.j2 (k + 1) y0 y1 y2 y3)) ∧ (∀ y0 y1 y2 y3 y4 y5, LeO (tlv_Decode.j3 k y0 y1 y2 y3 y4 y5) (tlv_Decode.j3 (k + 1) y0 y1 y2 y3 y4 y5))
  | 0 => ⟨fun _ _ r h => by simp [tlv_Decode.j0] at h, fun _ _ _ r h => by simp [tlv_Decode.l0] at h, fun _ _ _ _ r h => by simp [tlv_Decode.j2] at h, fun _ _ _ _ _ _ r h => by simp [tlv_Decode.j3] at h⟩
  | k + 1 => by
    obtain ⟨ih0, ih1, ih2, ih3⟩ := tlv_Decode.mono_l k
    refine ⟨?_, ?_, ?_, ?_⟩
    · intro y0 y1
      unfold tlv_Decode.j0
      repeat' first
      | (with_reducible exact ih0 _ _)
      | (with_reducible exact ih1 _ _ _)
      | (with_reducible exact ih2 _ _ _ _)
      | (with_reducible exact ih3 _ _ _ _ _ _)
      | (with_reducible exact tlv_get.mono _ _)
      | (with_reducible exact LeO.refl _)
      | (with_reducible exact LeO.none _)
      | (with_reducible refine LeO.ite ?_ ?_)
      | (with_reducible refine LeO.bind ?_ (fun _ => ?_))
      | exact ih0 _ _
      | exact ih1 _ _ _
      | exact ih2 _ _ _ _
      | exact ih3 _ _ _ _ _ _
      | exact tlv_get.mono _ _
      | exact LeO.none _
      | refine LeO.ite ?_ ?_
      | refine LeO.bind ?_ (fun _ => ?_)
    · intro y0 y1 y2
      unfold tlv_Decode.l0
      repeat' first
      | (with_reducible exact ih0 _ _)
      | (with_reducible exact ih1 _ _ _)
      | (with_reducible exact ih2 _ _ _ _)
      | (with_reducible exact ih3 _ _ _ _ _ _)
      | (with_reducible exact tlv_get.mono _ _)
      | (with_reducible exact LeO.refl _)
      | (with_reducible exact LeO.none _)
      | (with_reducible refine LeO.ite ?_ ?_)
      | (with_reducible refine LeO.bind ?_ (fun _ => ?_))
      | exact ih0 _ _
      | exact ih1 _ _ _
      | exact ih2 _ _ _ _
      | exact ih3 _ _ _ _ _ _
      | exact tlv_get.mono _ _
      | exact LeO.none _
      | refine LeO.ite ?_ ?_
      | refine LeO.bind ?_ (fun _ => ?_)
    · intro y0 y1 y2 y3
      unfold tlv_Decode.j2
      repeat' first
      | (with_reducible exact ih0 _ _)
      | (with_reducible exact ih1 _ _ _)
      | (with_reducible exact ih2 _ _ _ _)
      | (with_reducible exact ih3 _ _ _ _ _ _)
      | (with_reducible exact tlv_get.mono _ _)
      | (with_reducible exact LeO.refl _)
      | (with_reducible exact LeO.none _)
      | (with_reducible refine LeO.ite ?_ ?_)
      | (with_reducible refine LeO.bind ?_ (fun _ => ?_))
      | exact ih0 _ _
      | exact ih1 _ _ _
      | exact ih2 _ _ _ _
      | exact ih3 _ _ _ _ _ _
      | exact tlv_get.mono _ _
      | exact LeO.none _
      | refine LeO.ite ?_ ?_
      | refine LeO.bind ?_ (fun _ => ?_)
    · intro y0 y1 y2 y3 y4 y5
      unfold tlv_Decode.j3
      repeat' first
      | (with_reducible exact ih0 _ _)
      | (with_reducible exact ih1 _ _ _)
      | (with_reducible exact ih2 _ _ _ _)
      | (with_reducible exact ih3 _ _ _ _ _ _)
      | (with_reducible exact tlv_get.mono _ _)
      | (with_reducible exact LeO.refl _)
      | (with_reducible exact LeO.none _)
      | (with_reducible refine LeO.ite ?_ ?_)
      | (with_reducible refine LeO.bind ?_ (fun _ => ?_))
      | exact ih0 _ _
      | exact ih1 _ _ _
      | exact ih2 _ _ _ _
      | exact ih3 _ _ _ _ _ _
      | exact tlv_get.mono _ _
      | exact LeO.none _
      | refine LeO.ite ?_ ?_
      | refine LeO.bind ?_ (fun _ => ?_)
theorem tlv_Decode.mono : ∀ a0 k, LeO (tlv_Decode.f k a0) (tlv_Decode.f (k + 1) a0) := by
  intro a0 k
  obtain ⟨ih0, ih1, ih2, ih3⟩ := tlv_Decode.mono_l k
  unfold tlv_Decode.f
  repeat' first
      | (with_reducible exact ih0 _ _)
      | (with_reducible exact ih1 _ _ _)
      | (with_reducible exact ih2 _ _ _ _)
      | (with_reducible exact ih3 _ _ _ _ _ _)
      | (with_reducible exact tlv_get.mono _ _)
      | (with_reducible exact LeO.refl _)
      | (with_reducible exact LeO.none _)
      | (with_reducible refine LeO.ite ?_ ?_)
      | (with_reducible refine LeO.bind ?_ (fun _ => ?_))
      | exact ih0 _ _
      | exact ih1 _ _ _
      | exact ih2 _ _ _ _
      | exact ih3 _ _ _ _ _ _
      | exact tlv_get.mono _ _
      | exact LeO.none _
      | refine LeO.ite ?_ ?_
      | refine LeO.bind ?_ (fun _ => ?_)
set_option maxHeartbeats 8000000 in
set_option maxRecDepth 100000 in
theorem tlv_Decode.calls (k : Nat) (P0_ : Nat → Prop) (A0 : Option Addr) (c0 : Nat) (l0 : List Int) (r1 : List (S62)) (r2 : Bool) (w : World) (hs0 : Kd.V (Kd.int .u8) 5 w w.heap.size (fun k_ => P0_ k_) (.slice A0 l0.length c0) l0) (h : tlv_Decode.f k l0 = some (r1, r2)) :
    Calls Try.prog 39 #[.slice A0 l0.length c0] w fun e w' => ∃ v0_ : Value, e = .returned (.tuple #[v0_, .bool r2]) ∧ Kd.R k62 62 w' w.heap.size (fun k_ => (w.heap.size ≤ k_)) v0_ r1 ∧ Below w.heap.size w w' := by
  have hu62 := Try.underlying62
  have HO0 := Aside0.mk (show Kd.V (Kd.int .u8) 5 w w.heap.size (fun k_ => (P0_ k_ ∨ w.heap.size ≤ k_)) (.slice A0 l0.length c0) l0 from Kd.V_mono hs0 (fun k_ hk => .inl hk))
  have HB := Aside0.mk (Below.refl w.heap.size w)
  have H : (if (l0.length : Int) < 4 then (tlv_Decode.j0 k l0 true) else (if (l0.length : Int) > 1024 then (tlv_Decode.j0 k l0 true) else (if 0 < (l0.length : Int) then (if (rd l0 0) = 87 then (if 1 < (l0.length : Int) then (if (rd l0 1) = 1 then (if 2 ≤ 4 then (if 4 ≤ (l0.length : Int) then ((tlv_get.f k ((l0.take 4).drop 2)).bind fun t150 => (tlv_Decode.j0 k l0 ((wrap64 (t150)) != (wrap64 ((l0.length : Int) - 4))))) else (none)) else (none)) else (tlv_Decode.j0 k l0 true)) else (none)) else (tlv_Decode.j0 k l0 true)) else (none)))) = some (r1, r2) := h
  clear h
  have HC2 := Aside0.mk H
  clear H
  go_enter Try.func39, Try.ntmps39
  go_upto_region 1 with (fail)
  repeat (go_quiet (fail); go_upto_region 1 with (fail))
  go_cut [39] (fun v39 wc => ∃ (kq : Nat) (x39_1 : Bool), v39 = .bool x39_1 ∧ Aside0 (tlv_Decode.j0 kq l0 x39_1 = some (r1, r2)) ∧ Aside0 (kq ≤ k) ∧ Aside0 (Kd.V (Kd.int .u8) 5 wc w.heap.size (fun k_ => (P0_ k_ ∨ w.heap.size ≤ k_)) (.slice A0 l0.length c0) l0) ∧ Aside0 (Below w.heap.size w wc))
  case first =>
    have H := HC2.out
    clear HC2
    by_cases c3 : (l0.length : Int) < 4
    case pos =>
      rw [if_pos c3] at H; have c3b0 : decide ((l0.length : Int) < 4) = true := decide_eq_true c3
      have c3b1 : decide (l0.length < 4) = true := decide_eq_true (by omega)
      clear c3
      (first | rw [c3b0] | (simp only [i64_w, i32_w]; rw [c3b0]) | skip)
      have H' := Aside0.mk H
      clear H
      go_wp2
      repeat (go_quiet (fail); try go_wp2)
      go_meet
      case rel => exact ⟨_, (true), (by first | rfl | (simp; done) | (simp [*]; done)), H', ⟨by first | omega | exact Nat.le_refl _⟩, ⟨by (with_reducible repeat (first | apply Kd.V_alloc | apply Kd.V_drewN | apply Kd.V_drew)); exact HO0.out⟩, ⟨by repeat (first | (with_reducible first | exact HB.out | apply below_alloc | apply pw_below_drewN | apply below_drew1) | exact HB.out)⟩⟩
    rw [if_neg c3] at H; have c3b0 : decide ((l0.length : Int) < 4) = false := decide_eq_false c3
    have c3b1 : decide (l0.length < 4) = false := decide_eq_false (by omega)
    clear c3
    (first | rw [c3b0] | (simp only [i64_w, i32_w]; rw [c3b0]) | skip)
    by_cases c4 : (l0.length : Int) > 1024
    case pos =>
      rw [if_pos c4] at H; have c4b0 : decide (1024 < (l0.length : Int)) = true := decide_eq_true c4
      have c4b1 : decide (1024 < l0.length) = true := decide_eq_true (by omega)
      clear c4
      have H' := Aside0.mk H
      clear H
      go_wp2
      repeat (go_quiet (fail); try go_wp2)
      go_meet
      case rel => exact ⟨_, (true), (by first | rfl | (simp; done) | (simp [*]; done)), H', ⟨by first | omega | exact Nat.le_refl _⟩, ⟨by (with_reducible repeat (first | apply Kd.V_alloc | apply Kd.V_drewN | apply Kd.V_drew)); exact HO0.out⟩, ⟨by repeat (first | (with_reducible first | exact HB.out | apply below_alloc | apply pw_below_drewN | apply below_drew1) | exact HB.out)⟩⟩
    rw [if_neg c4] at H; have c4b0 : decide (1024 < (l0.length : Int)) = false := decide_eq_false c4
    have c4b1 : decide (1024 < l0.length) = false := decide_eq_false (by omega)
    clear c4
    by_cases c5 : 0 < (l0.length : Int)
    case neg =>
      rw [if_neg c5] at H; exact absurd H (by simp)
    rw [if_pos c5] at H; have c5b0 : decide (0 < (l0.length : Int)) = true := decide_eq_true c5
    have c5b1 : decide (0 < l0.length) = true := decide_eq_true (by omega)
    clear c5
    by_cases c6 : (rd l0 0) = 87
    case neg =>
      rw [if_neg c6] at H; have c6b0 : ((rd l0 0) == 87) = false := beq_eq_false_iff_ne.mpr c6
      have c6b1 : ((rd l0 0) != 87) = true := bne_iff_ne.mpr c6
      have H' := Aside0.mk H
      clear H
      have p143 : 0 ≤ (0 : Int) := (by omega)
      have q143 : 0 < (l0.length : Int) := of_decide_eq_true (by first | (with_reducible assumption) | assumption)
      obtain ⟨ad143, e143, hx143_0⟩ := Kd.at_int (Kd.V_reads' HO0.out).2.2 0 p143 q143
      cases e143
      have qi143 : (0 < l0.length) = True := eq_true (by omega)
      (try rw [show ((0 : Int)).toNat = 0 from rfl] at hx143_0)
      (try rw [Addr.add_zero'] at hx143_0)
      replace p143 := eq_true p143
      replace q143 := eq_true q143
      go_wp2
      repeat (go_quiet (fail); try go_wp2)
      go_meet
      case rel => exact ⟨_, (true), (by first | rfl | (simp; done) | (simp [*]; done)), H', ⟨by first | omega | exact Nat.le_refl _⟩, ⟨by (with_reducible repeat (first | apply Kd.V_alloc | apply Kd.V_drewN | apply Kd.V_drew)); exact HO0.out⟩, ⟨by repeat (first | (with_reducible first | exact HB.out | apply below_alloc | apply pw_below_drewN | apply below_drew1) | exact HB.out)⟩⟩
    rw [if_pos c6] at H; have c6b0 : ((rd l0 0) == 87) = true := beq_iff_eq.mpr c6
    have c6b1 : ((rd l0 0) != 87) = false := bne_eq_false_iff_eq.mpr c6
    clear c6
    by_cases c7 : 1 < (l0.length : Int)
    case neg =>
      rw [if_neg c7] at H; exact absurd H (by simp)
    rw [if_pos c7] at H; have c7b0 : decide (1 < (l0.length : Int)) = true := decide_eq_true c7
    have c7b1 : decide (1 < l0.length) = true := decide_eq_true (by omega)
    clear c7
    by_cases c8 : (rd l0 1) = 1
    case neg =>
      rw [if_neg c8] at H; have c8b0 : ((rd l0 1) == 1) = false := beq_eq_false_iff_ne.mpr c8
      have c8b1 : ((rd l0 1) != 1) = true := bne_iff_ne.mpr c8
      have H' := Aside0.mk H
      clear H
      have p143 : 0 ≤ (0 : Int) := (by omega)
      have q143 : 0 < (l0.length : Int) := of_decide_eq_true (by first | (with_reducible assumption) | assumption)
      obtain ⟨ad143, e143, hx143_0⟩ := Kd.at_int (Kd.V_reads' HO0.out).2.2 0 p143 q143
      cases e143
      have qi143 : (0 < l0.length) = True := eq_true (by omega)
      (try rw [show ((0 : Int)).toNat = 0 from rfl] at hx143_0)
      (try rw [Addr.add_zero'] at hx143_0)
      replace p143 := eq_true p143
      replace q143 := eq_true q143
      have p144 : 0 ≤ (1 : Int) := (by omega)
      have q144 : 1 < (l0.length : Int) := of_decide_eq_true (by first | (with_reducible assumption) | assumption)
      obtain ⟨ad144, e144, hx144_0⟩ := Kd.at_int (Kd.V_reads' HO0.out).2.2 1 p144 q144
      obtain rfl : ad143 = ad144 := (by injection e144)
      (try simp only [show (1 : Int).toNat = 1 from rfl, Nat.reduceMul, Nat.reduceEqDiff, Go.Addr.add, ↓reduceIte] at hx144_0)
      have qi144 : (1 < l0.length) = True := eq_true (by omega)
      (try rw [show ((1 : Int)).toNat = 1 from rfl] at hx144_0)
      replace p144 := eq_true p144
      replace q144 := eq_true q144
      go_wp2
      repeat (go_quiet (fail); try go_wp2)
      go_meet
      case rel => exact ⟨_, (true), (by first | rfl | (simp; done) | (simp [*]; done)), H', ⟨by first | omega | exact Nat.le_refl _⟩, ⟨by (with_reducible repeat (first | apply Kd.V_alloc | apply Kd.V_drewN | apply Kd.V_drew)); exact HO0.out⟩, ⟨by repeat (first | (with_reducible first | exact HB.out | apply below_alloc | apply pw_below_drewN | apply below_drew1) | exact HB.out)⟩⟩
    rw [if_pos c8] at H; have c8b0 : ((rd l0 1) == 1) = true := beq_iff_eq.mpr c8
    have c8b1 : ((rd l0 1) != 1) = false := bne_eq_false_iff_eq.mpr c8
    clear c8
    by_cases c9 : 2 ≤ 4
    case neg =>
      rw [if_neg c9] at H; exact absurd H (by simp)
    rw [if_pos c9] at H; have c9b0 := eq_true c9
    have c9b1 : decide (2 ≤ 4) = true := decide_eq_true c9
    clear c9
    by_cases c10 : 4 ≤ (l0.length : Int)
    case neg =>
      rw [if_neg c10] at H; exact absurd H (by simp)
    rw [if_pos c10] at H; have c10b0 := eq_true c10
    have c10b1 : decide (4 ≤ (l0.length : Int)) = true := decide_eq_true c10
    clear c10
    obtain ⟨y145, hy145⟩ : ∃ y_ : List Int, y_ = ((l0.take 4).drop 2) := ⟨_, rfl⟩
    replace H : ((tlv_get.f k y145).bind fun t150 => (tlv_Decode.j0 k l0 ((wrap64 (t150)) != (wrap64 ((l0.length : Int) - 4))))) = some (r1, r2) := by first | (rw [hy145]; with_reducible exact H) | (have H2_ := (Option.bind_some _ _).symm.trans H; rw [hy145]; with_reducible exact H2_) | (have H2_ := (Option.bind_some _ _).symm.trans H; with_reducible exact H2_) | with_reducible exact H | (rw [hy145]; exact H) | exact H
    have Ny145 := Aside0.mk hy145
    clear hy145
    replace H := Option.bind_eq_some_iff.mp H
    obtain ⟨t150, A110, H⟩ := H
    replace H : (tlv_Decode.j0 k l0 ((wrap64 (t150)) != (wrap64 ((l0.length : Int) - 4)))) = some (r1, r2) := H
    have A11 := Aside0.mk A110
    clear A110
    have H' := Aside0.mk H
    clear H
    have p143 : 0 ≤ (0 : Int) := (by omega)
    have q143 : 0 < (l0.length : Int) := of_decide_eq_true (by first | (with_reducible assumption) | assumption)
    obtain ⟨ad143, e143, hx143_0⟩ := Kd.at_int (Kd.V_reads' HO0.out).2.2 0 p143 q143
    cases e143
    have qi143 : (0 < l0.length) = True := eq_true (by omega)
    (try rw [show ((0 : Int)).toNat = 0 from rfl] at hx143_0)
    (try rw [Addr.add_zero'] at hx143_0)
    replace p143 := eq_true p143
    replace q143 := eq_true q143
    have p144 : 0 ≤ (1 : Int) := (by omega)
    have q144 : 1 < (l0.length : Int) := of_decide_eq_true (by first | (with_reducible assumption) | assumption)
    obtain ⟨ad144, e144, hx144_0⟩ := Kd.at_int (Kd.V_reads' HO0.out).2.2 1 p144 q144
    obtain rfl : ad143 = ad144 := (by injection e144)
    (try simp only [show (1 : Int).toNat = 1 from rfl, Nat.reduceMul, Nat.reduceEqDiff, Go.Addr.add, ↓reduceIte] at hx144_0)
    have qi144 : (1 < l0.length) = True := eq_true (by omega)
    (try rw [show ((1 : Int)).toNat = 1 from rfl] at hx144_0)
    replace p144 := eq_true p144
    replace q144 := eq_true q144
    have q12 : (4 : Int) ≤ ((l0.length : Int) : Int) := of_decide_eq_true (by first | (with_reducible assumption) | assumption)
    obtain ⟨i012, hi012, _, hsz12, _⟩ := info_parts info5
    have hroom12 : l0.length ≤ c0 := (Kd.V_reads' HO0.out).2.1
    have hC12 : Kd.F (Kd.int .u8) _ _ (some ad143) l0.length l0 := (Kd.V_at (base := w.heap.size) HO0.out).2.2
    have ql12 : (2 : Int) ≤ (4 : Int) := (by omega)
    have hcut12 := cut_mid (P := Try.prog) 22 5 .i64 .i64 Try.underlying22 hi012 1 hsz12 (some ad143) l0.length c0 2 4 (by omega) ql12 q12 hroom12
    have hr12 := Kd.F_mid (lo := (2 : Int).toNat) (hi := (4 : Int).toNat) (c := c0) hC12 (by omega) (by omega) hroom12
    obtain ⟨A12, hA12⟩ : ∃ A1, A1 = (if c0 = (2 : Int).toNat then (some ad143) else ((some ad143) : Option Addr).map (·.add ((2 : Int).toNat * 1))) := ⟨_, rfl⟩
    obtain ⟨c12, hc12⟩ : ∃ c1, c1 = c0 - (2 : Int).toNat := ⟨_, rfl⟩
    have hy12 : y145.length = (4 : Int).toNat - (2 : Int).toNat := (by rw [Ny145.out, List.length_drop, List.length_take] <;> omega)
    rw [show ((l0).take (4 : Int).toNat).drop (2 : Int).toNat = y145 from Ny145.out.symm] at hr12
    replace hr12 : Kd.F (Kd.int .u8) _ _ A12 y145.length y145 := (by rw [hA12]; exact hr12)
    rw [← hy12, ← hA12, ← hc12] at hcut12
    have HO149 := Aside0.mk (show Kd.V (Kd.int .u8) 5 _ w.heap.size _ (.slice A12 y145.length c12) y145 from Kd.V_mk (by rw [hy12, hc12]; exact Nat.sub_le_sub_right (Nat.le_trans (by omega) hroom12) _) hr12)
    have HC149 := Aside0.mk (show y145.length ≤ c12 from by rw [hy12, hc12]; exact Nat.sub_le_sub_right (Nat.le_trans (by omega) hroom12) _)
    clear hr12 hC12 hroom12 hi012 hsz12 hc12
    have KY12 := Aside0.mk hy12
    have KA12 := Aside0.mk hA12
    clear hy12 hA12
    replace q12 := eq_true q12
    go_wp2_with (first | (go_at_call 55; (with_reducible refine (tlv_get.calls k _ _ y145 t150 _ ?side1 ?side2 A11.out).mono ?_); (case side1 => repeat (first | exact (Kd.V_reads' HO149.out).2.2 | (with_reducible refine Kd.C_alloc ?_ _) | (with_reducible refine Kd.C_drewN ?_ _) | (with_reducible refine Kd.C_drew ?_))); (case side2 => exact (Kd.V_reads' HO149.out).2.1); rintro e w' ⟨rfl, ⟨nd, rfl⟩⟩; (try first | exact ⟨rfl, _, World.drewN_drewN _ _ _⟩ | exact ⟨rfl, _, Eq.trans (World.drewN_drewN _ _ _) (congrArg (World.drewN _) (Nat.add_assoc _ _ _))⟩)))
    repeat (go_quiet (first | (go_at_call 55; (with_reducible refine (tlv_get.calls k _ _ y145 t150 _ ?side1 ?side2 A11.out).mono ?_); (case side1 => repeat (first | exact (Kd.V_reads' HO149.out).2.2 | (with_reducible refine Kd.C_alloc ?_ _) | (with_reducible refine Kd.C_drewN ?_ _) | (with_reducible refine Kd.C_drew ?_))); (case side2 => exact (Kd.V_reads' HO149.out).2.1); rintro e w' ⟨rfl, ⟨nd, rfl⟩⟩; (try first | exact ⟨rfl, _, World.drewN_drewN _ _ _⟩ | exact ⟨rfl, _, Eq.trans (World.drewN_drewN _ _ _) (congrArg (World.drewN _) (Nat.add_assoc _ _ _))⟩))); try go_wp2_with (first | (go_at_call 55; (with_reducible refine (tlv_get.calls k _ _ y145 t150 _ ?side1 ?side2 A11.out).mono ?_); (case side1 => repeat (first | exact (Kd.V_reads' HO149.out).2.2 | (with_reducible refine Kd.C_alloc ?_ _) | (with_reducible refine Kd.C_drewN ?_ _) | (with_reducible refine Kd.C_drew ?_))); (case side2 => exact (Kd.V_reads' HO149.out).2.1); rintro e w' ⟨rfl, ⟨nd, rfl⟩⟩; (try first | exact ⟨rfl, _, World.drewN_drewN _ _ _⟩ | exact ⟨rfl, _, Eq.trans (World.drewN_drewN _ _ _) (congrArg (World.drewN _) (Nat.add_assoc _ _ _))⟩))))
    go_meet
    case rel => exact ⟨_, (((wrap64 (t150)) != (wrap64 ((l0.length : Int) - 4)))), (by first | rfl | (simp; done) | (simp [*]; done)), H', ⟨by first | omega | exact Nat.le_refl _⟩, ⟨by (with_reducible repeat (first | apply Kd.V_alloc | apply Kd.V_drewN | apply Kd.V_drew)); exact HO0.out⟩, ⟨by repeat (first | (with_reducible first | exact HB.out | apply below_alloc | apply pw_below_drewN | apply below_drew1) | exact HB.out)⟩⟩
  case rest =>
    clear HC2
    try clear c1; try clear p1; try clear q1; try clear hx1; try clear qi1; try clear p2; try clear c3; try clear c3b0; try clear c3b1; try clear c4; try clear c4b0; try clear c4b1; try clear c5; try clear c5b0; try clear c5b1; try clear c6; try clear c6b0; try clear c6b1; try clear p6; try clear c7; try clear c7b0; try clear c7b1; try clear c8; try clear c8b0; try clear c8b1; try clear c9; try clear c9b0
    try clear c9b1; try clear c10; try clear c10b0; try clear c10b1; try clear c12; try clear q12; try clear hx143_0; try clear hx144_0; try clear p143; try clear p144; try clear q12; try clear q143; try clear q144
    obtain ⟨kq, x39_1, rfl, HA, HJ1, HO_0, HB⟩ := hcut
    cases kq with
    | zero => exact absurd HA.out (by simp [tlv_Decode.j0])
    | succ kj1 =>
      have H := HA.out
      clear HA
      simp only [tlv_Decode.j0] at H
      by_cases c13 : x39_1 = true
      case pos =>
        subst c13
        have H1 : (some (([] : List (S62)), false)) = some (r1, r2) := by rw [if_pos rfl] at H; exact H
        clear H
        have H := H1
        clear H1
        simp only [Option.some.injEq, Prod.mk.injEq] at H
        obtain ⟨rfl, rfl⟩ := H
        go_wp2
        repeat (go_quiet (fail); try go_wp2)
        go_ret2
        exact ⟨_, by first | rfl | (simp [errW_none, errW_some] <;> rfl) | (simp [*, errW_none, errW_some] <;> rfl), by first | exact Kd.R_nil _ _ _ _ _ | exact Kd.N_nil _ _ _ _ _ | exact Kd.V_nil _ _ _ _ _ | exact Kd.Q_nil _ _ _ _ _ | exact Kd.S_nil _ _ _ _ _, by repeat (first | (with_reducible first | exact HB.out | apply below_alloc | apply pw_below_drewN | apply below_drew1) | exact HB.out)⟩
      replace c13 := Bool.eq_false_iff.mpr c13
      subst c13
      have H1 : (if 4 ≤ (l0.length : Int) then (tlv_Decode.l0 kj1 (l0.drop 4) ([] : List (S62)) 0) else (none)) = some (r1, r2) := by rw [if_neg (show ¬ (false = true) by decide)] at H; exact H
      clear H
      have H := H1
      clear H1
      by_cases c14 : 4 ≤ (l0.length : Int)
      case neg =>
        rw [if_neg c14] at H; exact absurd H (by simp)

      rw [if_pos c14] at H; have c14b0 := eq_true c14
      have c14b1 : decide (4 ≤ (l0.length : Int)) = true := decide_eq_true c14
      clear c14
      obtain ⟨y151, hy151⟩ : ∃ y_ : List Int, y_ = (l0.drop 4) := ⟨_, rfl⟩
      replace H : (tlv_Decode.l0 kj1 y151 ([] : List (S62)) 0) = some (r1, r2) := by first | (rw [hy151]; with_reducible exact H) | (have H2_ := (Option.bind_some _ _).symm.trans H; rw [hy151]; with_reducible exact H2_) | (have H2_ := (Option.bind_some _ _).symm.trans H; with_reducible exact H2_) | with_reducible exact H | (rw [hy151]; exact H) | exact H
      have Ny151 := Aside0.mk hy151
      clear hy151
      have H' := Aside0.mk H
      clear H
      have q15 : (4 : Int) ≤ ((l0.length : Int) : Int) := of_decide_eq_true (by first | (with_reducible assumption) | assumption)
      obtain ⟨i015, hi015, _, hsz15, _⟩ := info_parts info5
      have hroom15 : l0.length ≤ c0 := (Kd.V_reads' HO_0.out).2.1
      have hC15 : Kd.F (Kd.int .u8) _ _ A0 l0.length l0 := (Kd.V_at (base := w.heap.size) HO_0.out).2.2
      have hcut15 := cut_from (P := Try.prog) 22 5 .i64 Try.underlying22 hi015 1 hsz15 A0 l0.length c0 4 (by omega) q15
      have hr15 := Kd.F_cut (m := (4 : Int).toNat) (c := c0) hC15 (by omega) hroom15
      obtain ⟨A15, hA15⟩ : ∃ A1, A1 = (if c0 = (4 : Int).toNat then A0 else (A0 : Option Addr).map (·.add ((4 : Int).toNat * 1))) := ⟨_, rfl⟩
      obtain ⟨c15, hc15⟩ : ∃ c1, c1 = c0 - (4 : Int).toNat := ⟨_, rfl⟩
      have hy15 : y151.length = l0.length - (4 : Int).toNat := (by rw [Ny151.out, List.length_drop] <;> omega)
      rw [show (l0).drop (4 : Int).toNat = y151 from Ny151.out.symm] at hr15
      replace hr15 : Kd.F (Kd.int .u8) _ _ A15 y151.length y151 := (by rw [hA15]; exact hr15)
      rw [← hy15, ← hA15, ← hc15] at hcut15
      have HO155 := Aside0.mk (show Kd.V (Kd.int .u8) 5 _ w.heap.size _ (.slice A15 y151.length c15) y151 from Kd.V_mk (by rw [hy15, hc15]; exact Nat.sub_le_sub_right hroom15 _) hr15)
      have HC155 := Aside0.mk (show y151.length ≤ c15 from by rw [hy15, hc15]; exact Nat.sub_le_sub_right hroom15 _)
      clear hr15 hC15 hroom15 hi015 hsz15 hc15
      have KY15 := Aside0.mk hy15
      have KA15 := Aside0.mk hA15
      clear hy15 hA15
      replace q15 := eq_true q15
      go_wp2
      repeat (go_quiet (fail); try go_wp2)
      go_loopg [0, 4, 5] kj1 (fun kq v0 v4 v5 w' => ∃ (x0_2 : List Int) (x4_2 : List (S62)) (x5_2 : Int), v5 = .int .u32 x5_2 ∧ Aside0 (tlv_Decode.l0 kq x0_2 x4_2 x5_2 = some (r1, r2)) ∧ Aside0 (kq ≤ kj1) ∧ Aside0 (Kd.V (Kd.int .u8) 5 w' w.heap.size (fun k_ => (P0_ k_ ∨ w.heap.size ≤ k_) ∧ some k_ ≠ (v4 : Value).ownBlock) v0 x0_2) ∧ Aside0 (Kd.R k62 62 w' w.heap.size (fun k_ => (w.heap.size ≤ k_)) v4 x4_2) ∧ Aside0 (Below w.heap.size w w'))
      case atStart => exact ⟨(y151), (([] : List (S62))), (0), (by first | rfl | (simp; done) | (simp [*]; done)), H', ⟨Nat.le_refl _⟩, ⟨by (with_reducible repeat (first | apply Kd.V_alloc | apply Kd.V_drewN | apply Kd.V_drew)); exact Kd.V_mono HO155.out (fun _ hk => ⟨hk, (by simp [Value.ownBlock])⟩)⟩, ⟨by first | exact Kd.R_nil _ _ _ _ _ | exact Kd.N_nil _ _ _ _ _ | exact Kd.V_nil _ _ _ _ _ | exact Kd.Q_nil _ _ _ _ _ | exact Kd.S_nil _ _ _ _ _⟩, ⟨by repeat (first | (with_reducible first | exact HB.out | apply below_alloc | apply pw_below_drewN | apply below_drew1) | exact HB.out)⟩⟩
      case round =>
        clear H'
        try clear c1; try clear p1; try clear q1; try clear hx1; try clear qi1; try clear p2; try clear c3; try clear c3b0; try clear c3b1; try clear c4; try clear c4b0; try clear c4b1; try clear c5; try clear c5b0; try clear c5b1; try clear c6; try clear c6b0; try clear c6b1; try clear p6; try clear c7; try clear c7b0; try clear c7b1; try clear c8; try clear c8b0; try clear c8b1; try clear c9
        try clear c9b0; try clear c9b1; try clear c10; try clear c10b0; try clear c10b1; try clear c12; try clear q12; try clear c13; try clear c14; try clear c14b0; try clear c14b1; try clear p14; try clear q14; try clear hx14; try clear qi14; try clear c15; try clear q15; try clear hx143_0; try clear hx144_0; try clear p1; try clear p143; try clear p144; try clear p2; try clear p6; try clear q1
        try clear q12; try clear q143; try clear q144; try clear q15
        obtain ⟨x0_2, x4_2, x5_2, rfl, HA, HK2, HO_0, HO_4, HB⟩ := hrel
        cases gk with
        | zero => exact absurd HA.out (by simp [tlv_Decode.l0])
        | succ k2 =>
          have H := HA.out
          clear HA
          simp only [tlv_Decode.l0] at H
          by_cases c16 : (x0_2.length : Int) > 0
          case neg =>
            rw [if_neg c16] at H; have c16b0 : decide (0 < (x0_2.length : Int)) = false := decide_eq_false c16
            have c16b1 : decide (0 < x0_2.length) = false := decide_eq_false (by omega)
            clear c16
            simp only [Option.some.injEq, Prod.mk.injEq] at H
            obtain ⟨rfl, rfl⟩ := H
            obtain ⟨Ao51, co51, eo51⟩ := Kd.V_slice HO_0.out
            subst eo51
            go_wp2
            repeat (go_quiet (fail); try go_wp2)
            go_ret2
            exact ⟨_, by first | rfl | (simp [errW_none, errW_some] <;> rfl) | (simp [*, errW_none, errW_some] <;> rfl), by (with_reducible repeat (first | apply Kd.R_alloc | apply Kd.R_drewN | apply Kd.R_drew)); exact HO_4.out, by repeat (first | (with_reducible first | exact HB.out | apply below_alloc | apply pw_below_drewN | apply below_drew1) | exact HB.out)⟩
          rw [if_pos c16] at H; have c16b0 : decide (0 < (x0_2.length : Int)) = true := decide_eq_true c16
          have c16b1 : decide (0 < x0_2.length) = true := decide_eq_true (by omega)
          clear c16
          by_cases c17 : 0 < (x0_2.length : Int)
          case neg =>
            rw [if_neg c17] at H; exact absurd H (by simp)
          rw [if_pos c17] at H; have c17b0 : decide (0 < (x0_2.length : Int)) = true := decide_eq_true c17
          have c17b1 : decide (0 < x0_2.length) = true := decide_eq_true (by omega)
          clear c17
          by_cases c18 : (rd x0_2 0) = 0
          case pos =>
            rw [if_pos c18] at H; have c18b0 : ((rd x0_2 0) == 0) = true := beq_iff_eq.mpr c18
            have c18b1 : ((rd x0_2 0) != 0) = false := bne_eq_false_iff_eq.mpr c18
            clear c18
            by_cases c19 : 1 ≤ (x0_2.length : Int)
            case neg =>
              rw [if_neg c19] at H; exact absurd H (by simp)
            rw [if_pos c19] at H; have c19b0 := eq_true c19
            have c19b1 : decide (1 ≤ (x0_2.length : Int)) = true := decide_eq_true c19
            clear c19
            obtain ⟨y157, hy157⟩ : ∃ y_ : List Int, y_ = (x0_2.drop 1) := ⟨_, rfl⟩
            replace H : (tlv_Decode.l0 k2 y157 x4_2 x5_2) = some (r1, r2) := by first | (rw [hy157]; with_reducible exact H) | (have H2_ := (Option.bind_some _ _).symm.trans H; rw [hy157]; with_reducible exact H2_) | (have H2_ := (Option.bind_some _ _).symm.trans H; with_reducible exact H2_) | with_reducible exact H | (rw [hy157]; exact H) | exact H
            have Ny157 := Aside0.mk hy157
            clear hy157
            have H' := Aside0.mk H
            clear H
            obtain ⟨Ao20, co20, eo20⟩ := Kd.V_slice HO_0.out
            subst eo20
            have p156 : 0 ≤ (0 : Int) := (by omega)
            have q156 : 0 < (x0_2.length : Int) := of_decide_eq_true (by first | (with_reducible assumption) | assumption)
            obtain ⟨ad156, e156, hx156_0⟩ := Kd.at_int (Kd.V_reads' HO_0.out).2.2 0 p156 q156
            cases e156
            have qi156 : (0 < x0_2.length) = True := eq_true (by omega)
            (try rw [show ((0 : Int)).toNat = 0 from rfl] at hx156_0)
            (try rw [Addr.add_zero'] at hx156_0)
            replace p156 := eq_true p156
            replace q156 := eq_true q156
            have q21 : (1 : Int) ≤ ((x0_2.length : Int) : Int) := of_decide_eq_true (by first | (with_reducible assumption) | assumption)
            obtain ⟨i021, hi021, _, hsz21, _⟩ := info_parts info5
            have hroom21 : x0_2.length ≤ co20 := (Kd.V_reads' HO_0.out).2.1
            have hC21 : Kd.F (Kd.int .u8) _ _ (some ad156) x0_2.length x0_2 := (Kd.V_at (base := w.heap.size) HO_0.out).2.2
            have hcut21 := cut_from (P := Try.prog) 22 5 .i64 Try.underlying22 hi021 1 hsz21 (some ad156) x0_2.length co20 1 (by omega) q21
            have hr21 := Kd.F_cut (m := (1 : Int).toNat) (c := co20) hC21 (by omega) hroom21
            obtain ⟨A21, hA21⟩ : ∃ A1, A1 = (if co20 = (1 : Int).toNat then (some ad156) else ((some ad156) : Option Addr).map (·.add ((1 : Int).toNat * 1))) := ⟨_, rfl⟩
            obtain ⟨c21, hc21⟩ : ∃ c1, c1 = co20 - (1 : Int).toNat := ⟨_, rfl⟩
            have hy21 : y157.length = x0_2.length - (1 : Int).toNat := (by rw [Ny157.out, List.length_drop] <;> omega)
            rw [show (x0_2).drop (1 : Int).toNat = y157 from Ny157.out.symm] at hr21
            replace hr21 : Kd.F (Kd.int .u8) _ _ A21 y157.length y157 := (by rw [hA21]; exact hr21)
            rw [← hy21, ← hA21, ← hc21] at hcut21
            have HO161 := Aside0.mk (show Kd.V (Kd.int .u8) 5 _ w.heap.size _ (.slice A21 y157.length c21) y157 from Kd.V_mk (by rw [hy21, hc21]; exact Nat.sub_le_sub_right hroom21 _) hr21)
            have HC161 := Aside0.mk (show y157.length ≤ c21 from by rw [hy21, hc21]; exact Nat.sub_le_sub_right hroom21 _)
            clear hr21 hC21 hroom21 hi021 hsz21 hc21
            have KY21 := Aside0.mk hy21
            have KA21 := Aside0.mk hA21
            clear hy21 hA21
            replace q21 := eq_true q21
            go_wp2
            repeat (go_quiet (fail); try go_wp2)
            go_roundg k2
            case measure => have := HJ1.out; have := HK2.out; omega
            case rel => exact ⟨(y157), (x4_2), (x5_2), (by first | rfl | (simp; done) | (simp [*]; done)), H', ⟨by have := HJ1.out; have := HK2.out; omega⟩, ⟨by (with_reducible repeat (first | apply Kd.V_alloc | apply Kd.V_drewN | apply Kd.V_drew)); exact HO161.out⟩, ⟨by (with_reducible repeat (first | apply Kd.R_alloc | apply Kd.R_drewN | apply Kd.R_drew)); exact HO_4.out⟩, ⟨by repeat (first | (with_reducible first | exact HB.out | apply below_alloc | apply pw_below_drewN | apply below_drew1) | exact HB.out)⟩⟩
          rw [if_neg c18] at H; have c18b0 : ((rd x0_2 0) == 0) = false := beq_eq_false_iff_ne.mpr c18
          have c18b1 : ((rd x0_2 0) != 0) = true := bne_iff_ne.mpr c18
          have HC22 := Aside0.mk H
          clear H
          obtain ⟨Ao23, co23, eo23⟩ := Kd.V_slice HO_0.out
          subst eo23
          have p156 : 0 ≤ (0 : Int) := (by omega)
          have q156 : 0 < (x0_2.length : Int) := of_decide_eq_true (by first | (with_reducible assumption) | assumption)
          obtain ⟨ad156, e156, hx156_0⟩ := Kd.at_int (Kd.V_reads' HO_0.out).2.2 0 p156 q156
          cases e156
          have qi156 : (0 < x0_2.length) = True := eq_true (by omega)
          (try rw [show ((0 : Int)).toNat = 0 from rfl] at hx156_0)
          (try rw [Addr.add_zero'] at hx156_0)
          replace p156 := eq_true p156
          replace q156 := eq_true q156
          go_upto_region 9 with (fail)
          repeat (go_quiet (fail); go_upto_region 9 with (fail))
          go_cut [63] (fun v63 wc => ∃ (kq : Nat) (x63_21 : Bool), v63 = .bool x63_21 ∧ Aside0 (tlv_Decode.j2 kq x0_2 x4_2 x5_2 x63_21 = some (r1, r2)) ∧ Aside0 (kq ≤ k2) ∧ Aside0 (Kd.V (Kd.int .u8) 5 wc w.heap.size (fun k_ => (P0_ k_ ∨ w.heap.size ≤ k_) ∧ some k_ ≠ (u4 : Value).ownBlock) (.slice (some ad156) x0_2.length co23) x0_2) ∧ Aside0 (Kd.R k62 62 wc w.heap.size (fun k_ => (w.heap.size ≤ k_)) u4 x4_2) ∧ Aside0 (Below w.heap.size w wc))
          case first =>
            have H := HC22.out
            clear HC22
            by_cases c24 : (x0_2.length : Int) < 2
            case pos =>
              rw [if_pos c24] at H; have c24b0 : decide ((x0_2.length : Int) < 2) = true := decide_eq_true c24
              have c24b1 : decide (x0_2.length < 2) = true := decide_eq_true (by omega)
              clear c24
              (first | rw [c24b0] | (simp only [i64_w, i32_w]; rw [c24b0]) | skip)
              have H' := Aside0.mk H
              clear H
              go_wp2
              repeat (go_quiet (fail); try go_wp2)
              go_meet
              case rel => exact ⟨_, (true), (by first | rfl | (simp; done) | (simp [*]; done)), H', ⟨by have := HJ1.out; have := HK2.out; first | omega | exact Nat.le_refl _⟩, ⟨by (with_reducible repeat (first | apply Kd.V_alloc | apply Kd.V_drewN | apply Kd.V_drew)); exact HO_0.out⟩, ⟨by (with_reducible repeat (first | apply Kd.R_alloc | apply Kd.R_drewN | apply Kd.R_drew)); exact HO_4.out⟩, ⟨by repeat (first | (with_reducible first | exact HB.out | apply below_alloc | apply pw_below_drewN | apply below_drew1) | exact HB.out)⟩⟩
            rw [if_neg c24] at H; have c24b0 : decide ((x0_2.length : Int) < 2) = false := decide_eq_false c24
            have c24b1 : decide (x0_2.length < 2) = false := decide_eq_false (by omega)
            clear c24
            (first | rw [c24b0] | (simp only [i64_w, i32_w]; rw [c24b0]) | skip)
            by_cases c25 : 1 < (x0_2.length : Int)
            case neg =>
              rw [if_neg c25] at H; exact absurd H (by simp)
            rw [if_pos c25] at H; have c25b0 : decide (1 < (x0_2.length : Int)) = true := decide_eq_true c25
            have c25b1 : decide (1 < x0_2.length) = true := decide_eq_true (by omega)
            clear c25
            have H' := Aside0.mk H
            clear H
            have p162 : 0 ≤ (1 : Int) := (by omega)
            have q162 : 1 < (x0_2.length : Int) := of_decide_eq_true (by first | (with_reducible assumption) | assumption)
            obtain ⟨ad162, e162, hx162_0⟩ := Kd.at_int (Kd.V_reads' HO_0.out).2.2 1 p162 q162
            obtain rfl : ad156 = ad162 := (by injection e162)
            (try simp only [show (1 : Int).toNat = 1 from rfl, Nat.reduceMul, Nat.reduceEqDiff, Go.Addr.add, ↓reduceIte] at hx162_0)
            have qi162 : (1 < x0_2.length) = True := eq_true (by omega)
            (try rw [show ((1 : Int)).toNat = 1 from rfl] at hx162_0)
            replace p162 := eq_true p162
            replace q162 := eq_true q162
            go_wp2
            repeat (go_quiet (fail); try go_wp2)
            go_meet
            case rel => exact ⟨_, (decide ((x0_2.length : Int) < (wrap64 (2 + (wrap64 (rd x0_2 1)))))), (by first | rfl | (simp; done) | (simp [*]; done)), H', ⟨by have := HJ1.out; have := HK2.out; first | omega | exact Nat.le_refl _⟩, ⟨by (with_reducible repeat (first | apply Kd.V_alloc | apply Kd.V_drewN | apply Kd.V_drew)); exact HO_0.out⟩, ⟨by (with_reducible repeat (first | apply Kd.R_alloc | apply Kd.R_drewN | apply Kd.R_drew)); exact HO_4.out⟩, ⟨by repeat (first | (with_reducible first | exact HB.out | apply below_alloc | apply pw_below_drewN | apply below_drew1) | exact HB.out)⟩⟩
          case rest =>
            clear HC22
            try clear c1; try clear p1; try clear q1; try clear hx1; try clear qi1; try clear c2; try clear p2; try clear q2; try clear c3; try clear c3b0; try clear c3b1; try clear c4; try clear c4b0; try clear c4b1; try clear c5; try clear c5b0; try clear c5b1; try clear c6; try clear c6b0; try clear c6b1; try clear p6; try clear c7; try clear c7b0; try clear c7b1; try clear c8; try clear c8b0
            try clear c8b1; try clear c9; try clear c9b0; try clear c9b1; try clear c10; try clear c10b0; try clear c10b1; try clear c12; try clear q12; try clear c13; try clear c14; try clear c14b0; try clear c14b1; try clear p14; try clear q14; try clear hx14; try clear qi14; try clear c15; try clear p15; try clear q15; try clear hx15; try clear qi15; try clear c16; try clear c16b0; try clear c16b1
            try clear p16; try clear q16; try clear hx16; try clear qi16; try clear c17; try clear c17b0; try clear c17b1; try clear c18; try clear c18b0; try clear c18b1; try clear c19; try clear c19b0; try clear c19b1; try clear c21; try clear q21; try clear c24; try clear c24b0; try clear c24b1; try clear c25; try clear c25b0; try clear c25b1; try clear hx143_0; try clear hx144_0; try clear hx156_0
            try clear hx162_0; try clear p1; try clear p14; try clear p143; try clear p144; try clear p156; try clear p162; try clear p2; try clear p6; try clear q1; try clear q12; try clear q14; try clear q143; try clear q144; try clear q15; try clear q156; try clear q162; try clear q21
            obtain ⟨kq, x63_21, rfl, HA, HJ21, HO_0, HO_4, HB⟩ := hcut
            cases kq with
            | zero => exact absurd HA.out (by simp [tlv_Decode.j2])
            | succ kj21 =>
              have H := HA.out
              clear HA
              simp only [tlv_Decode.j2] at H
              by_cases c26 : x63_21 = true
              case pos =>
                subst c26
                have H1 : (some (([] : List (S62)), false)) = some (r1, r2) := by rw [if_pos rfl] at H; exact H
                clear H
                have H := H1
                clear H1
                simp only [Option.some.injEq, Prod.mk.injEq] at H
                obtain ⟨rfl, rfl⟩ := H
                go_wp2
                repeat (go_quiet (fail); try go_wp2)
                go_ret2
                exact ⟨_, by first | rfl | (simp [errW_none, errW_some] <;> rfl) | (simp [*, errW_none, errW_some] <;> rfl), by first | exact Kd.R_nil _ _ _ _ _ | exact Kd.N_nil _ _ _ _ _ | exact Kd.V_nil _ _ _ _ _ | exact Kd.Q_nil _ _ _ _ _ | exact Kd.S_nil _ _ _ _ _, by repeat (first | (with_reducible first | exact HB.out | apply below_alloc | apply pw_below_drewN | apply below_drew1) | exact HB.out)⟩
              replace c26 := Bool.eq_false_iff.mpr c26
              subst c26
              have H1 : (if 0 < (x0_2.length : Int) then (if 1 < (x0_2.length : Int) then (if 2 ≤ (wrap64 (2 + (wrap64 (rd x0_2 1)))) then (if (wrap64 (2 + (wrap64 (rd x0_2 1)))) ≤ (x0_2.length : Int) then ((some ((x0_2.take ((wrap64 (2 + (wrap64 (rd x0_2 1)))) : Int).toNat).drop 2 : List Int)).bind fun y165 => (if 0 ≤ (wrap64 (2 + (y165.length : Int))) then (if (wrap64 (2 + (y165.length : Int))) ≤ (x0_2.length : Int) then ((some (x0_2.drop ((wrap64 (2 + (y165.length : Int))) : Int).toNat : List Int)).bind fun y170 => (if (rd x0_2 0) = 2 then (tlv_Decode.j3 kj21 y170 x4_2 x5_2 (rd x0_2 0) y165 ((y165.length : Int) == 4)) else (tlv_Decode.j3 kj21 y170 x4_2 x5_2 (rd x0_2 0) y165 false))) else (none)) else (none))) else (none)) else (none)) else (none)) else (none)) = some (r1, r2) := by rw [if_neg (show ¬ (false = true) by decide)] at H; exact H
              clear H
              have H := H1
              clear H1
              by_cases c27 : 0 < (x0_2.length : Int)
              case neg =>
                rw [if_neg c27] at H; exact absurd H (by simp)
              rw [if_pos c27] at H; have c27b0 : decide (0 < (x0_2.length : Int)) = true := decide_eq_true c27
              have c27b1 : decide (0 < x0_2.length) = true := decide_eq_true (by omega)
              clear c27
              by_cases c28 : 1 < (x0_2.length : Int)
              case neg =>
                rw [if_neg c28] at H; exact absurd H (by simp)
              rw [if_pos c28] at H; have c28b0 : decide (1 < (x0_2.length : Int)) = true := decide_eq_true c28
              have c28b1 : decide (1 < x0_2.length) = true := decide_eq_true (by omega)
              clear c28
              by_cases c29 : 2 ≤ (wrap64 (2 + (wrap64 (rd x0_2 1))))
              case neg =>
                rw [if_neg c29] at H; exact absurd H (by simp)
              rw [if_pos c29] at H; have c29b0 := eq_true c29
              have c29b1 : decide (2 ≤ (wrap64 (2 + (wrap64 (rd x0_2 1))))) = true := decide_eq_true c29
              by_cases c30 : (wrap64 (2 + (wrap64 (rd x0_2 1)))) ≤ (x0_2.length : Int)
              case neg =>
                rw [if_neg c30] at H; exact absurd H (by simp)
              rw [if_pos c30] at H; have c30b0 := eq_true c30
              have c30b1 : decide ((wrap64 (2 + (wrap64 (rd x0_2 1)))) ≤ (x0_2.length : Int)) = true := decide_eq_true c30
              obtain ⟨y165, hy165⟩ : ∃ y_ : List Int, y_ = ((x0_2.take ((wrap64 (2 + (wrap64 (rd x0_2 1)))) : Int).toNat).drop 2) := ⟨_, rfl⟩
              replace H : (if 0 ≤ (wrap64 (2 + (y165.length : Int))) then (if (wrap64 (2 + (y165.length : Int))) ≤ (x0_2.length : Int) then ((some (x0_2.drop ((wrap64 (2 + (y165.length : Int))) : Int).toNat : List Int)).bind fun y170 => (if (rd x0_2 0) = 2 then (tlv_Decode.j3 kj21 y170 x4_2 x5_2 (rd x0_2 0) y165 ((y165.length : Int) == 4)) else (tlv_Decode.j3 kj21 y170 x4_2 x5_2 (rd x0_2 0) y165 false))) else (none)) else (none)) = some (r1, r2) := by first | (rw [hy165]; with_reducible exact H) | (have H2_ := (Option.bind_some _ _).symm.trans H; rw [hy165]; with_reducible exact H2_) | (have H2_ := (Option.bind_some _ _).symm.trans H; with_reducible exact H2_) | with_reducible exact H | (rw [hy165]; exact H) | exact H
              have Ny165 := Aside0.mk hy165
              clear hy165
              obtain ⟨ji31, hji31⟩ : ∃ j_ : Int, (wrap64 (2 + (y165.length : Int))) = j_ := ⟨_, rfl⟩
              replace H : (if 0 ≤ (ji31) then (if (ji31) ≤ (x0_2.length : Int) then ((some (x0_2.drop ((ji31) : Int).toNat : List Int)).bind fun y170 => (if (rd x0_2 0) = 2 then (tlv_Decode.j3 kj21 y170 x4_2 x5_2 (rd x0_2 0) y165 ((y165.length : Int) == 4)) else (tlv_Decode.j3 kj21 y170 x4_2 x5_2 (rd x0_2 0) y165 false))) else (none)) else (none)) = some (r1, r2) := by first | (rw [hji31] at H; exact H) | (simp only [hji31] at H ⊢; exact H)
              have hji31w : (IntKind.i64.wrap (2 + (y165.length : Int))) = ji31 := (i64_w _).trans hji31
              by_cases c32 : 0 ≤ (ji31)
              case neg =>
                rw [if_neg c32] at H; exact absurd H (by simp)
              rw [if_pos c32] at H; have c32b0 := eq_true c32
              have c32b1 : decide (0 ≤ (ji31)) = true := decide_eq_true c32
              clear c32
              by_cases c33 : (ji31) ≤ (x0_2.length : Int)
              case neg =>
                rw [if_neg c33] at H; exact absurd H (by simp)
              rw [if_pos c33] at H; have c33b0 := eq_true c33
              have c33b1 : decide ((ji31) ≤ (x0_2.length : Int)) = true := decide_eq_true c33
              clear c33
              obtain ⟨y170, hy170⟩ : ∃ y_ : List Int, y_ = (x0_2.drop ((ji31) : Int).toNat) := ⟨_, rfl⟩
              replace H : (if (rd x0_2 0) = 2 then (tlv_Decode.j3 kj21 y170 x4_2 x5_2 (rd x0_2 0) y165 ((y165.length : Int) == 4)) else (tlv_Decode.j3 kj21 y170 x4_2 x5_2 (rd x0_2 0) y165 false)) = some (r1, r2) := by first | (rw [hy170]; with_reducible exact H) | (have H2_ := (Option.bind_some _ _).symm.trans H; rw [hy170]; with_reducible exact H2_) | (have H2_ := (Option.bind_some _ _).symm.trans H; with_reducible exact H2_) | with_reducible exact H | (rw [hy170]; exact H) | exact H
              have Ny170 := Aside0.mk hy170
              clear hy170
              have HC34 := Aside0.mk H
              clear H
              have p163 : 0 ≤ (0 : Int) := (by omega)
              have q163 : 0 < (x0_2.length : Int) := of_decide_eq_true (by first | (with_reducible assumption) | assumption)
              obtain ⟨ad163, e163, hx163_0⟩ := Kd.at_int (Kd.V_reads' HO_0.out).2.2 0 p163 q163
              obtain rfl : ad156 = ad163 := (by injection e163)
              have qi163 : (0 < x0_2.length) = True := eq_true (by omega)
              (try rw [show ((0 : Int)).toNat = 0 from rfl] at hx163_0)
              (try rw [Addr.add_zero'] at hx163_0)
              replace p163 := eq_true p163
              replace q163 := eq_true q163
              have p164 : 0 ≤ (1 : Int) := (by omega)
              have q164 : 1 < (x0_2.length : Int) := of_decide_eq_true (by first | (with_reducible assumption) | assumption)
              obtain ⟨ad164, e164, hx164_0⟩ := Kd.at_int (Kd.V_reads' HO_0.out).2.2 1 p164 q164
              obtain rfl : ad156 = ad164 := (by injection e164)
              (try simp only [show (1 : Int).toNat = 1 from rfl, Nat.reduceMul, Nat.reduceEqDiff, Go.Addr.add, ↓reduceIte] at hx164_0)
              have qi164 : (1 < x0_2.length) = True := eq_true (by omega)
              (try rw [show ((1 : Int)).toNat = 1 from rfl] at hx164_0)
              replace p164 := eq_true p164
              replace q164 := eq_true q164
              have q35 : ((wrap64 (2 + (wrap64 (rd x0_2 1)))) : Int) ≤ ((x0_2.length : Int) : Int) := of_decide_eq_true (by first | (with_reducible assumption) | assumption)
              obtain ⟨i035, hi035, _, hsz35, _⟩ := info_parts info5
              have hroom35 : x0_2.length ≤ co23 := (Kd.V_reads' HO_0.out).2.1
              have hC35 : Kd.F (Kd.int .u8) _ _ (some ad156) x0_2.length x0_2 := (Kd.V_at (base := w.heap.size) HO_0.out).2.2
              have ql35 : (2 : Int) ≤ ((wrap64 (2 + (wrap64 (rd x0_2 1)))) : Int) := of_decide_eq_true (by first | (with_reducible assumption) | assumption)
              have hcut35 := cut_mid (P := Try.prog) 22 5 .i64 .i64 Try.underlying22 hi035 1 hsz35 (some ad156) x0_2.length co23 2 (wrap64 (2 + (wrap64 (rd x0_2 1)))) (by omega) ql35 q35 hroom35
              have hr35 := Kd.F_mid (lo := (2 : Int).toNat) (hi := ((wrap64 (2 + (wrap64 (rd x0_2 1)))) : Int).toNat) (c := co23) hC35 (by omega) (by omega) hroom35
              obtain ⟨A35, hA35⟩ : ∃ A1, A1 = (if co23 = (2 : Int).toNat then (some ad156) else ((some ad156) : Option Addr).map (·.add ((2 : Int).toNat * 1))) := ⟨_, rfl⟩
              obtain ⟨c35, hc35⟩ : ∃ c1, c1 = co23 - (2 : Int).toNat := ⟨_, rfl⟩
              have hy35 : y165.length = ((wrap64 (2 + (wrap64 (rd x0_2 1)))) : Int).toNat - (2 : Int).toNat := (by rw [Ny165.out, List.length_drop, List.length_take] <;> omega)
              rw [show ((x0_2).take ((wrap64 (2 + (wrap64 (rd x0_2 1)))) : Int).toNat).drop (2 : Int).toNat = y165 from Ny165.out.symm] at hr35
              replace hr35 : Kd.F (Kd.int .u8) _ _ A35 y165.length y165 := (by rw [hA35]; exact hr35)
              rw [← hy35, ← hA35, ← hc35] at hcut35
              have HO169 := Aside0.mk (show Kd.V (Kd.int .u8) 5 _ w.heap.size _ (.slice A35 y165.length c35) y165 from Kd.V_mk (by rw [hy35, hc35]; exact Nat.sub_le_sub_right (Nat.le_trans (by omega) hroom35) _) hr35)
              have HC169 := Aside0.mk (show y165.length ≤ c35 from by rw [hy35, hc35]; exact Nat.sub_le_sub_right (Nat.le_trans (by omega) hroom35) _)
              clear hr35 hC35 hroom35 hi035 hsz35 hc35
              have KY35 := Aside0.mk hy35
              have KA35 := Aside0.mk hA35
              clear hy35 hA35
              replace q35 := eq_true q35
              have q36 : ((ji31) : Int) ≤ ((x0_2.length : Int) : Int) := of_decide_eq_true (by first | (with_reducible assumption) | assumption)
              obtain ⟨i036, hi036, _, hsz36, _⟩ := info_parts info5
              have hroom36 : x0_2.length ≤ co23 := (Kd.V_reads' HO_0.out).2.1
              have hC36 : Kd.F (Kd.int .u8) _ _ (some ad156) x0_2.length x0_2 := (Kd.V_at (base := w.heap.size) HO_0.out).2.2
              have q036 : (0 : Int) ≤ ((ji31) : Int) := of_decide_eq_true (by first | (with_reducible assumption) | assumption)
              have hcut36 := cut_from (P := Try.prog) 22 5 .i64 Try.underlying22 hi036 1 hsz36 (some ad156) x0_2.length co23 (ji31) q036 q36
              have hr36 := Kd.F_cut (m := ((ji31) : Int).toNat) (c := co23) hC36 (by omega) hroom36
              obtain ⟨A36, hA36⟩ : ∃ A1, A1 = (if co23 = ((ji31) : Int).toNat then (some ad156) else ((some ad156) : Option Addr).map (·.add (((ji31) : Int).toNat * 1))) := ⟨_, rfl⟩
              obtain ⟨c36, hc36⟩ : ∃ c1, c1 = co23 - ((ji31) : Int).toNat := ⟨_, rfl⟩
              have hy36 : y170.length = x0_2.length - ((ji31) : Int).toNat := (by rw [Ny170.out, List.length_drop] <;> omega)
              rw [show (x0_2).drop ((ji31) : Int).toNat = y170 from Ny170.out.symm] at hr36
              replace hr36 : Kd.F (Kd.int .u8) _ _ A36 y170.length y170 := (by rw [hA36]; exact hr36)
              rw [← hy36, ← hA36, ← hc36] at hcut36
              have HO174 := Aside0.mk (show Kd.V (Kd.int .u8) 5 _ w.heap.size _ (.slice A36 y170.length c36) y170 from Kd.V_mk (by rw [hy36, hc36]; exact Nat.sub_le_sub_right hroom36 _) hr36)
              have HC174 := Aside0.mk (show y170.length ≤ c36 from by rw [hy36, hc36]; exact Nat.sub_le_sub_right hroom36 _)
              clear hr36 hC36 hroom36 hi036 hsz36 hc36
              have KY36 := Aside0.mk hy36
              have KA36 := Aside0.mk hA36
              clear hy36 hA36
              replace q36 := eq_true q36
              go_upto_region 13 with (fail)
              repeat (go_quiet (fail); go_upto_region 13 with (fail))
              go_cut [79] (fun v79 wc => ∃ (kq : Nat) (x79_33 : Bool), v79 = .bool x79_33 ∧ Aside0 (tlv_Decode.j3 kq y170 x4_2 x5_2 (rd x0_2 0) y165 x79_33 = some (r1, r2)) ∧ Aside0 (kq ≤ kj21) ∧ Aside0 (Kd.V (Kd.int .u8) 5 wc w.heap.size (fun k_ => (P0_ k_ ∨ w.heap.size ≤ k_) ∧ some k_ ≠ (u4 : Value).ownBlock) (.slice A36 y170.length c36) y170) ∧ Aside0 (Kd.R k62 62 wc w.heap.size (fun k_ => (w.heap.size ≤ k_)) u4 x4_2) ∧ Aside0 (Kd.V (Kd.int .u8) 5 wc w.heap.size (fun k_ => (P0_ k_ ∨ w.heap.size ≤ k_) ∧ some k_ ≠ (u4 : Value).ownBlock) (.slice A35 y165.length c35) y165) ∧ Aside0 (Below w.heap.size w wc))
              case first =>
                have H := HC34.out
                clear HC34
                by_cases c37 : (rd x0_2 0) = 2
                case neg =>
                  rw [if_neg c37] at H; have c37b0 : ((rd x0_2 0) == 2) = false := beq_eq_false_iff_ne.mpr c37
                  have c37b1 : ((rd x0_2 0) != 2) = true := bne_iff_ne.mpr c37
                  (first | rw [c37b0] | (simp only [i64_w, i32_w]; rw [c37b0]) | skip)
                  have H' := Aside0.mk H
                  clear H
                  go_wp2
                  repeat (go_quiet (fail); try go_wp2)
                  go_meet
                  case rel => exact ⟨_, (false), (by first | rfl | (simp; done) | (simp [*]; done)), H', ⟨by have := HJ1.out; have := HK2.out; have := HJ21.out; first | omega | exact Nat.le_refl _⟩, ⟨by (with_reducible repeat (first | apply Kd.V_alloc | apply Kd.V_drewN | apply Kd.V_drew)); exact HO174.out⟩, ⟨by (with_reducible repeat (first | apply Kd.R_alloc | apply Kd.R_drewN | apply Kd.R_drew)); exact HO_4.out⟩, ⟨by (with_reducible repeat (first | apply Kd.V_alloc | apply Kd.V_drewN | apply Kd.V_drew)); exact HO169.out⟩, ⟨by repeat (first | (with_reducible first | exact HB.out | apply below_alloc | apply pw_below_drewN | apply below_drew1) | exact HB.out)⟩⟩
                rw [if_pos c37] at H; have c37b0 : ((rd x0_2 0) == 2) = true := beq_iff_eq.mpr c37
                have c37b1 : ((rd x0_2 0) != 2) = false := bne_eq_false_iff_eq.mpr c37
                clear c37
                (first | rw [c37b0] | (simp only [i64_w, i32_w]; rw [c37b0]) | skip)
                have H' := Aside0.mk H
                clear H
                go_wp2
                repeat (go_quiet (fail); try go_wp2)
                go_meet
                case rel => exact ⟨_, (((y165.length : Int) == 4)), (by first | rfl | (simp; done) | (simp [*]; done)), H', ⟨by have := HJ1.out; have := HK2.out; have := HJ21.out; first | omega | exact Nat.le_refl _⟩, ⟨by (with_reducible repeat (first | apply Kd.V_alloc | apply Kd.V_drewN | apply Kd.V_drew)); exact HO174.out⟩, ⟨by (with_reducible repeat (first | apply Kd.R_alloc | apply Kd.R_drewN | apply Kd.R_drew)); exact HO_4.out⟩, ⟨by (with_reducible repeat (first | apply Kd.V_alloc | apply Kd.V_drewN | apply Kd.V_drew)); exact HO169.out⟩, ⟨by repeat (first | (with_reducible first | exact HB.out | apply below_alloc | apply pw_below_drewN | apply below_drew1) | exact HB.out)⟩⟩
              case rest =>
                clear HC34
                try clear c1; try clear p1; try clear q1; try clear hx1; try clear qi1; try clear c2; try clear p2; try clear q2; try clear c3; try clear c3b0; try clear c3b1; try clear q3; try clear c4; try clear c4b0; try clear c4b1; try clear c5; try clear c5b0; try clear c5b1; try clear c6; try clear c6b0; try clear c6b1; try clear p6; try clear c7; try clear c7b0; try clear c7b1
                try clear c8; try clear c8b0; try clear c8b1; try clear c9; try clear c9b0; try clear c9b1; try clear c10; try clear c10b0; try clear c10b1; try clear c12; try clear q12; try clear c13; try clear c14; try clear c14b0; try clear c14b1; try clear p14; try clear q14; try clear hx14; try clear qi14; try clear c15; try clear p15; try clear q15; try clear hx15; try clear qi15
                try clear c16; try clear c16b0; try clear c16b1; try clear p16; try clear q16; try clear hx16; try clear qi16; try clear c17; try clear c17b0; try clear c17b1; try clear c18; try clear c18b0; try clear c18b1; try clear c19; try clear c19b0; try clear c19b1; try clear c21; try clear q21; try clear c24; try clear c24b0; try clear c24b1; try clear c25; try clear c25b0
                try clear c25b1; try clear c26; try clear c27; try clear c27b0; try clear c27b1; try clear c28; try clear c28b0; try clear c28b1; try clear c29; try clear c29b0; try clear c29b1; try clear c30; try clear c30b0; try clear c30b1; try clear c32; try clear c32b0; try clear c32b1; try clear c33; try clear c33b0; try clear c33b1; try clear c35; try clear q35; try clear c36
                try clear q36; try clear c37; try clear c37b0; try clear c37b1; try clear hx143_0; try clear hx144_0; try clear hx156_0; try clear hx162_0; try clear hx163_0; try clear hx164_0; try clear p1; try clear p14; try clear p143; try clear p144; try clear p15; try clear p156; try clear p16; try clear p162; try clear p163; try clear p164; try clear p2; try clear p6; try clear q036
                try clear q1; try clear q12; try clear q14; try clear q143; try clear q144; try clear q15; try clear q156; try clear q16; try clear q162; try clear q163; try clear q164; try clear q2; try clear q21; try clear q35; try clear q36
                obtain ⟨kq, x79_33, rfl, HA, HJ33, HO_0, HO_4, HO_7, HB⟩ := hcut
                cases kq with
                | zero => exact absurd HA.out (by simp [tlv_Decode.j3])
                | succ kj33 =>
                  have H := HA.out
                  clear HA
                  simp only [tlv_Decode.j3] at H
                  by_cases c38 : x79_33 = true
                  case pos =>
                    subst c38
                    have H1 : ((tlv_get.f kj33 y165).bind fun t175 => (tlv_Decode.l0 kj33 y170 x4_2 t175)) = some (r1, r2) := by rw [if_pos rfl] at H; exact H
                    clear H
                    have H := H1
                    clear H1
                    replace H := Option.bind_eq_some_iff.mp H
                    obtain ⟨t175, A390, H⟩ := H
                    replace H : (tlv_Decode.l0 kj33 y170 x4_2 t175) = some (r1, r2) := H
                    have A39 := Aside0.mk A390
                    clear A390
                    have H' := Aside0.mk H
                    clear H
                    go_wp2_with (first | (go_at_call 55; (with_reducible refine (tlv_get.calls kj33 _ _ y165 t175 _ ?side1 ?side2 A39.out).mono ?_); (case side1 => repeat (first | exact (Kd.V_reads' HO_7.out).2.2 | (with_reducible refine Kd.C_alloc ?_ _) | (with_reducible refine Kd.C_drewN ?_ _) | (with_reducible refine Kd.C_drew ?_))); (case side2 => exact (Kd.V_reads' HO_7.out).2.1); rintro e w' ⟨rfl, ⟨nd, rfl⟩⟩; (try first | exact ⟨rfl, _, World.drewN_drewN _ _ _⟩ | exact ⟨rfl, _, Eq.trans (World.drewN_drewN _ _ _) (congrArg (World.drewN _) (Nat.add_assoc _ _ _))⟩)))
                    repeat (go_quiet (first | (go_at_call 55; (with_reducible refine (tlv_get.calls kj33 _ _ y165 t175 _ ?side1 ?side2 A39.out).mono ?_); (case side1 => repeat (first | exact (Kd.V_reads' HO_7.out).2.2 | (with_reducible refine Kd.C_alloc ?_ _) | (with_reducible refine Kd.C_drewN ?_ _) | (with_reducible refine Kd.C_drew ?_))); (case side2 => exact (Kd.V_reads' HO_7.out).2.1); rintro e w' ⟨rfl, ⟨nd, rfl⟩⟩; (try first | exact ⟨rfl, _, World.drewN_drewN _ _ _⟩ | exact ⟨rfl, _, Eq.trans (World.drewN_drewN _ _ _) (congrArg (World.drewN _) (Nat.add_assoc _ _ _))⟩))); try go_wp2_with (first | (go_at_call 55; (with_reducible refine (tlv_get.calls kj33 _ _ y165 t175 _ ?side1 ?side2 A39.out).mono ?_); (case side1 => repeat (first | exact (Kd.V_reads' HO_7.out).2.2 | (with_reducible refine Kd.C_alloc ?_ _) | (with_reducible refine Kd.C_drewN ?_ _) | (with_reducible refine Kd.C_drew ?_))); (case side2 => exact (Kd.V_reads' HO_7.out).2.1); rintro e w' ⟨rfl, ⟨nd, rfl⟩⟩; (try first | exact ⟨rfl, _, World.drewN_drewN _ _ _⟩ | exact ⟨rfl, _, Eq.trans (World.drewN_drewN _ _ _) (congrArg (World.drewN _) (Nat.add_assoc _ _ _))⟩))))
                    go_roundg kj33
                    case measure => have := HJ1.out; have := HK2.out; have := HJ21.out; have := HJ33.out; omega
                    case rel => exact ⟨(y170), (x4_2), (t175), (by first | rfl | (simp; done) | (simp [*]; done)), H', ⟨by have := HJ1.out; have := HK2.out; have := HJ21.out; have := HJ33.out; omega⟩, ⟨by (with_reducible repeat (first | apply Kd.V_alloc | apply Kd.V_drewN | apply Kd.V_drew)); exact HO_0.out⟩, ⟨by (with_reducible repeat (first | apply Kd.R_alloc | apply Kd.R_drewN | apply Kd.R_drew)); exact HO_4.out⟩, ⟨by repeat (first | (with_reducible first | exact HB.out | apply below_alloc | apply pw_below_drewN | apply below_drew1) | exact HB.out)⟩⟩
                  replace c38 := Bool.eq_false_iff.mpr c38
                  subst c38
                  have H1 : (if (rd x0_2 0) = 3 then ((tlv_one.f y165 x5_2).bind fun bt176 => (if bt176.2.2.2.2.2 = true then (if x4_2.length < 4398046511104 then (tlv_Decode.l0 kj33 y170 (x4_2 ++ [(⟨(⟨bt176.1, bt176.2.1⟩ : S29), bt176.2.2.1, (⟨bt176.2.2.2.1, bt176.2.2.2.2.1⟩ : S39)⟩ : S62)]) x5_2) else (none)) else (tlv_Decode.l0 kj33 y170 x4_2 x5_2))) else (tlv_Decode.l0 kj33 y170 x4_2 x5_2)) = some (r1, r2) := by rw [if_neg (show ¬ (false = true) by decide)] at H; exact H
                  clear H
                  have H := H1
                  clear H1
                  by_cases c40 : (rd x0_2 0) = 3
                  case neg =>
                    rw [if_neg c40] at H; have c40b0 : ((rd x0_2 0) == 3) = false := beq_eq_false_iff_ne.mpr c40
                    have c40b1 : ((rd x0_2 0) != 3) = true := bne_iff_ne.mpr c40
                    have H' := Aside0.mk H
                    clear H
                    go_wp2
                    repeat (go_quiet (fail); try go_wp2)
                    go_roundg kj33
                    case measure => have := HJ1.out; have := HK2.out; have := HJ21.out; have := HJ33.out; omega
                    case rel => exact ⟨(y170), (x4_2), (x5_2), (by first | rfl | (simp; done) | (simp [*]; done)), H', ⟨by have := HJ1.out; have := HK2.out; have := HJ21.out; have := HJ33.out; omega⟩, ⟨by (with_reducible repeat (first | apply Kd.V_alloc | apply Kd.V_drewN | apply Kd.V_drew)); exact HO_0.out⟩, ⟨by (with_reducible repeat (first | apply Kd.R_alloc | apply Kd.R_drewN | apply Kd.R_drew)); exact HO_4.out⟩, ⟨by repeat (first | (with_reducible first | exact HB.out | apply below_alloc | apply pw_below_drewN | apply below_drew1) | exact HB.out)⟩⟩
                  rw [if_pos c40] at H; have c40b0 : ((rd x0_2 0) == 3) = true := beq_iff_eq.mpr c40
                  have c40b1 : ((rd x0_2 0) != 3) = false := bne_eq_false_iff_eq.mpr c40
                  clear c40
                  replace H := Option.bind_eq_some_iff.mp H
                  obtain ⟨⟨t176, t177, t178, t179, t180, t181⟩, A410, H⟩ := H
                  replace H : (if t181 = true then (if x4_2.length < 4398046511104 then (tlv_Decode.l0 kj33 y170 (x4_2 ++ [(⟨(⟨t176, t177⟩ : S29), t178, (⟨t179, t180⟩ : S39)⟩ : S62)]) x5_2) else (none)) else (tlv_Decode.l0 kj33 y170 x4_2 x5_2)) = some (r1, r2) := H
                  have A41 := Aside0.mk A410
                  clear A410
                  by_cases c42 : t181 = true
                  case neg =>
                    replace c42 := Bool.eq_false_iff.mpr c42
                    subst c42
                    have H1 : (tlv_Decode.l0 kj33 y170 x4_2 x5_2) = some (r1, r2) := by rw [if_neg (show ¬ (false = true) by decide)] at H; exact H
                    clear H
                    have H := H1
                    clear H1
                    have H' := Aside0.mk H
                    clear H
                    go_wp2_with (first | (go_at_call 56; (with_reducible refine (tlv_one.calls _ _ y165 x5_2 t176 t177 t178 t179 t180 false _ ?side1 ?side2 A41.out).mono ?_); (case side1 => repeat (first | exact (Kd.V_reads' HO_7.out).2.2 | (with_reducible refine Kd.C_alloc ?_ _) | (with_reducible refine Kd.C_drewN ?_ _) | (with_reducible refine Kd.C_drew ?_))); (case side2 => exact (Kd.V_reads' HO_7.out).2.1); rintro e w48 ⟨rfl, hb⟩; have n0_ := Aside0.mk (Kd.V_below (by (with_reducible repeat (first | apply Kd.V_alloc | apply Kd.V_drewN | apply Kd.V_drew)); exact HO_0.out) hb); have n1_ := Aside0.mk (Kd.R_below (by (with_reducible repeat (first | apply Kd.R_alloc | apply Kd.R_drewN | apply Kd.R_drew)); exact HO_4.out) hb); have n2_ := Aside0.mk (Kd.V_below (by (with_reducible repeat (first | apply Kd.V_alloc | apply Kd.V_drewN | apply Kd.V_drew)); exact HO_7.out) hb); have n3_ := Aside0.mk (below_step (by repeat (first | (with_reducible first | exact HB.out | apply below_alloc | apply pw_below_drewN | apply below_drew1) | exact HB.out)) hb); clear HO_0; clear HO_4; clear HO_7; clear HB; have HO_0 := n0_; have HO_4 := n1_; have HO_7 := n2_; have HB := n3_; clear n0_ n1_ n2_ n3_; (try clear hb); (try clear hb2); (try clear hk); (try clear hi)) | ((with_reducible refine gate_dst (N := 8) rfl ?_); (try (refine gate_guard (by rfl) ?_; dsimp only)); refine box_event ?hg (N := 8) ?hd (cs := #[.int .u32 0, .int .i64 0, .int .u32 0, .int .u32 0, .int .u16 0]) (t := 62) ?hr ?_; (case hd => rfl); (case hg => rfl); (case hr => first | (go_simp; done) | (go_simp; rfl)); intro gb182 hg w49 hbox hb; have n0_ := Aside0.mk (Kd.V_below (Kd.V_elderB (by (with_reducible repeat (first | apply Kd.V_alloc | apply Kd.V_drewN | apply Kd.V_drew)); exact HO_0.out) gb182 (Nat.le_of_eq hg.symm)) hb); have n1_ := Aside0.mk (Kd.R_below (Kd.R_elderB (by (with_reducible repeat (first | apply Kd.R_alloc | apply Kd.R_drewN | apply Kd.R_drew)); exact HO_4.out) gb182 (Nat.le_of_eq hg.symm)) hb); have n2_ := Aside0.mk (Kd.V_below (Kd.V_elderB (by (with_reducible repeat (first | apply Kd.V_alloc | apply Kd.V_drewN | apply Kd.V_drew)); exact HO_7.out) gb182 (Nat.le_of_eq hg.symm)) hb); have n3_ := Aside0.mk (below_step (by repeat (first | (with_reducible first | exact HB.out | apply below_alloc | apply pw_below_drewN | apply below_drew1) | exact HB.out)) hb); have n4_ := Aside0.mk (hbox); have n5_ := Aside0.mk ((by rw [hg]; exact (below_size (by repeat (first | (with_reducible first | exact HB.out | apply below_alloc | apply pw_below_drewN | apply below_drew1) | exact HB.out))) : w.heap.size ≤ gb182)); have n6_ := Aside0.mk ((by rw [hg]; exact (below_size (by repeat (first | (with_reducible first | exact HB.out | apply below_alloc | apply pw_below_drewN | apply below_drew1) | exact HB.out))) : w.heap.size ≤ gb182)); clear HO_0; clear HO_4; clear HO_7; clear HB; have HO_0 := n0_; have HO_4 := n1_; have HO_7 := n2_; have HB := n3_; have BK182 := n4_; have GW182 := n5_; have GE182 := n6_; clear n0_ n1_ n2_ n3_ n4_ n5_ n6_; clear hb hbox hg; have hcz50_0 : w49.cell? ⟨gb182, 0, none⟩ = some (.int .u32 0) := (blk_cell BK182.out 0).trans rfl; have hcz50_1 : w49.cell? ⟨gb182, 1, none⟩ = some (.int .i64 0) := (blk_cell BK182.out 1).trans rfl; have hcz50_2 : w49.cell? ⟨gb182, 2, none⟩ = some (.int .u32 0) := (blk_cell BK182.out 2).trans rfl; have hcz50_3 : w49.cell? ⟨gb182, 3, none⟩ = some (.int .u32 0) := (blk_cell BK182.out 3).trans rfl; have hcz50_4 : w49.cell? ⟨gb182, 4, none⟩ = some (.int .u16 0) := (blk_cell BK182.out 4).trans rfl; have hfz50_0 := blk_frozen BK182.out 0; have hfz50_1 := blk_frozen BK182.out 1; have hfz50_2 := blk_frozen BK182.out 2; have hfz50_3 := blk_frozen BK182.out 3; have hfz50_4 := blk_frozen BK182.out 4))
                    repeat (go_quiet (first | (go_at_call 56; (with_reducible refine (tlv_one.calls _ _ y165 x5_2 t176 t177 t178 t179 t180 false _ ?side1 ?side2 A41.out).mono ?_); (case side1 => repeat (first | exact (Kd.V_reads' HO_7.out).2.2 | (with_reducible refine Kd.C_alloc ?_ _) | (with_reducible refine Kd.C_drewN ?_ _) | (with_reducible refine Kd.C_drew ?_))); (case side2 => exact (Kd.V_reads' HO_7.out).2.1); rintro e w48 ⟨rfl, hb⟩; have n0_ := Aside0.mk (Kd.V_below (by (with_reducible repeat (first | apply Kd.V_alloc | apply Kd.V_drewN | apply Kd.V_drew)); exact HO_0.out) hb); have n1_ := Aside0.mk (Kd.R_below (by (with_reducible repeat (first | apply Kd.R_alloc | apply Kd.R_drewN | apply Kd.R_drew)); exact HO_4.out) hb); have n2_ := Aside0.mk (Kd.V_below (by (with_reducible repeat (first | apply Kd.V_alloc | apply Kd.V_drewN | apply Kd.V_drew)); exact HO_7.out) hb); have n3_ := Aside0.mk (below_step (by repeat (first | (with_reducible first | exact HB.out | apply below_alloc | apply pw_below_drewN | apply below_drew1) | exact HB.out)) hb); clear HO_0; clear HO_4; clear HO_7; clear HB; have HO_0 := n0_; have HO_4 := n1_; have HO_7 := n2_; have HB := n3_; clear n0_ n1_ n2_ n3_; (try clear hb); (try clear hb2); (try clear hk); (try clear hi)) | ((with_reducible refine gate_dst (N := 8) rfl ?_); (try (refine gate_guard (by rfl) ?_; dsimp only)); refine box_event ?hg (N := 8) ?hd (cs := #[.int .u32 0, .int .i64 0, .int .u32 0, .int .u32 0, .int .u16 0]) (t := 62) ?hr ?_; (case hd => rfl); (case hg => rfl); (case hr => first | (go_simp; done) | (go_simp; rfl)); intro gb182 hg w49 hbox hb; have n0_ := Aside0.mk (Kd.V_below (Kd.V_elderB (by (with_reducible repeat (first | apply Kd.V_alloc | apply Kd.V_drewN | apply Kd.V_drew)); exact HO_0.out) gb182 (Nat.le_of_eq hg.symm)) hb); have n1_ := Aside0.mk (Kd.R_below (Kd.R_elderB (by (with_reducible repeat (first | apply Kd.R_alloc | apply Kd.R_drewN | apply Kd.R_drew)); exact HO_4.out) gb182 (Nat.le_of_eq hg.symm)) hb); have n2_ := Aside0.mk (Kd.V_below (Kd.V_elderB (by (with_reducible repeat (first | apply Kd.V_alloc | apply Kd.V_drewN | apply Kd.V_drew)); exact HO_7.out) gb182 (Nat.le_of_eq hg.symm)) hb); have n3_ := Aside0.mk (below_step (by repeat (first | (with_reducible first | exact HB.out | apply below_alloc | apply pw_below_drewN | apply below_drew1) | exact HB.out)) hb); have n4_ := Aside0.mk (hbox); have n5_ := Aside0.mk ((by rw [hg]; exact (below_size (by repeat (first | (with_reducible first | exact HB.out | apply below_alloc | apply pw_below_drewN | apply below_drew1) | exact HB.out))) : w.heap.size ≤ gb182)); have n6_ := Aside0.mk ((by rw [hg]; exact (below_size (by repeat (first | (with_reducible first | exact HB.out | apply below_alloc | apply pw_below_drewN | apply below_drew1) | exact HB.out))) : w.heap.size ≤ gb182)); clear HO_0; clear HO_4; clear HO_7; clear HB; have HO_0 := n0_; have HO_4 := n1_; have HO_7 := n2_; have HB := n3_; have BK182 := n4_; have GW182 := n5_; have GE182 := n6_; clear n0_ n1_ n2_ n3_ n4_ n5_ n6_; clear hb hbox hg; have hcz50_0 : w49.cell? ⟨gb182, 0, none⟩ = some (.int .u32 0) := (blk_cell BK182.out 0).trans rfl; have hcz50_1 : w49.cell? ⟨gb182, 1, none⟩ = some (.int .i64 0) := (blk_cell BK182.out 1).trans rfl; have hcz50_2 : w49.cell? ⟨gb182, 2, none⟩ = some (.int .u32 0) := (blk_cell BK182.out 2).trans rfl; have hcz50_3 : w49.cell? ⟨gb182, 3, none⟩ = some (.int .u32 0) := (blk_cell BK182.out 3).trans rfl; have hcz50_4 : w49.cell? ⟨gb182, 4, none⟩ = some (.int .u16 0) := (blk_cell BK182.out 4).trans rfl; have hfz50_0 := blk_frozen BK182.out 0; have hfz50_1 := blk_frozen BK182.out 1; have hfz50_2 := blk_frozen BK182.out 2; have hfz50_3 := blk_frozen BK182.out 3; have hfz50_4 := blk_frozen BK182.out 4)); try go_wp2_with (first | (go_at_call 56; (with_reducible refine (tlv_one.calls _ _ y165 x5_2 t176 t177 t178 t179 t180 false _ ?side1 ?side2 A41.out).mono ?_); (case side1 => repeat (first | exact (Kd.V_reads' HO_7.out).2.2 | (with_reducible refine Kd.C_alloc ?_ _) | (with_reducible refine Kd.C_drewN ?_ _) | (with_reducible refine Kd.C_drew ?_))); (case side2 => exact (Kd.V_reads' HO_7.out).2.1); rintro e w48 ⟨rfl, hb⟩; have n0_ := Aside0.mk (Kd.V_below (by (with_reducible repeat (first | apply Kd.V_alloc | apply Kd.V_drewN | apply Kd.V_drew)); exact HO_0.out) hb); have n1_ := Aside0.mk (Kd.R_below (by (with_reducible repeat (first | apply Kd.R_alloc | apply Kd.R_drewN | apply Kd.R_drew)); exact HO_4.out) hb); have n2_ := Aside0.mk (Kd.V_below (by (with_reducible repeat (first | apply Kd.V_alloc | apply Kd.V_drewN | apply Kd.V_drew)); exact HO_7.out) hb); have n3_ := Aside0.mk (below_step (by repeat (first | (with_reducible first | exact HB.out | apply below_alloc | apply pw_below_drewN | apply below_drew1) | exact HB.out)) hb); clear HO_0; clear HO_4; clear HO_7; clear HB; have HO_0 := n0_; have HO_4 := n1_; have HO_7 := n2_; have HB := n3_; clear n0_ n1_ n2_ n3_; (try clear hb); (try clear hb2); (try clear hk); (try clear hi)) | ((with_reducible refine gate_dst (N := 8) rfl ?_); (try (refine gate_guard (by rfl) ?_; dsimp only)); refine box_event ?hg (N := 8) ?hd (cs := #[.int .u32 0, .int .i64 0, .int .u32 0, .int .u32 0, .int .u16 0]) (t := 62) ?hr ?_; (case hd => rfl); (case hg => rfl); (case hr => first | (go_simp; done) | (go_simp; rfl)); intro gb182 hg w49 hbox hb; have n0_ := Aside0.mk (Kd.V_below (Kd.V_elderB (by (with_reducible repeat (first | apply Kd.V_alloc | apply Kd.V_drewN | apply Kd.V_drew)); exact HO_0.out) gb182 (Nat.le_of_eq hg.symm)) hb); have n1_ := Aside0.mk (Kd.R_below (Kd.R_elderB (by (with_reducible repeat (first | apply Kd.R_alloc | apply Kd.R_drewN | apply Kd.R_drew)); exact HO_4.out) gb182 (Nat.le_of_eq hg.symm)) hb); have n2_ := Aside0.mk (Kd.V_below (Kd.V_elderB (by (with_reducible repeat (first | apply Kd.V_alloc | apply Kd.V_drewN | apply Kd.V_drew)); exact HO_7.out) gb182 (Nat.le_of_eq hg.symm)) hb); have n3_ := Aside0.mk (below_step (by repeat (first | (with_reducible first | exact HB.out | apply below_alloc | apply pw_below_drewN | apply below_drew1) | exact HB.out)) hb); have n4_ := Aside0.mk (hbox); have n5_ := Aside0.mk ((by rw [hg]; exact (below_size (by repeat (first | (with_reducible first | exact HB.out | apply below_alloc | apply pw_below_drewN | apply below_drew1) | exact HB.out))) : w.heap.size ≤ gb182)); have n6_ := Aside0.mk ((by rw [hg]; exact (below_size (by repeat (first | (with_reducible first | exact HB.out | apply below_alloc | apply pw_below_drewN | apply below_drew1) | exact HB.out))) : w.heap.size ≤ gb182)); clear HO_0; clear HO_4; clear HO_7; clear HB; have HO_0 := n0_; have HO_4 := n1_; have HO_7 := n2_; have HB := n3_; have BK182 := n4_; have GW182 := n5_; have GE182 := n6_; clear n0_ n1_ n2_ n3_ n4_ n5_ n6_; clear hb hbox hg; have hcz50_0 : w49.cell? ⟨gb182, 0, none⟩ = some (.int .u32 0) := (blk_cell BK182.out 0).trans rfl; have hcz50_1 : w49.cell? ⟨gb182, 1, none⟩ = some (.int .i64 0) := (blk_cell BK182.out 1).trans rfl; have hcz50_2 : w49.cell? ⟨gb182, 2, none⟩ = some (.int .u32 0) := (blk_cell BK182.out 2).trans rfl; have hcz50_3 : w49.cell? ⟨gb182, 3, none⟩ = some (.int .u32 0) := (blk_cell BK182.out 3).trans rfl; have hcz50_4 : w49.cell? ⟨gb182, 4, none⟩ = some (.int .u16 0) := (blk_cell BK182.out 4).trans rfl; have hfz50_0 := blk_frozen BK182.out 0; have hfz50_1 := blk_frozen BK182.out 1; have hfz50_2 := blk_frozen BK182.out 2; have hfz50_3 := blk_frozen BK182.out 3; have hfz50_4 := blk_frozen BK182.out 4)))
                    go_roundg kj33
                    case measure => have := HJ1.out; have := HK2.out; have := HJ21.out; have := HJ33.out; omega
                    case rel => exact ⟨(y170), (x4_2), (x5_2), (by first | rfl | (simp; done) | (simp [*]; done)), H', ⟨by have := HJ1.out; have := HK2.out; have := HJ21.out; have := HJ33.out; omega⟩, ⟨by (with_reducible repeat (first | apply Kd.V_alloc | apply Kd.V_drewN | apply Kd.V_drew)); exact Kd.V_mono (Kd.V_far (p := ⟨gb182, 4, none⟩) (Kd.V_far (p := ⟨gb182, 3, none⟩) (Kd.V_far (p := ⟨gb182, 2, none⟩) (Kd.V_far (p := ⟨gb182, 1, none⟩) (Kd.V_far (p := ⟨gb182, 0, none⟩) (Kd.V_mono HO_0.out (fun k_ hk => (⟨hk, hk.2⟩ : _ ∧ k_ ≠ gb182))) (fun _ hk => hk.2) (.int .u32 t176)) (fun _ hk => hk.2) (.int .i64 t177)) (fun _ hk => hk.2) (.int .u32 t178)) (fun _ hk => hk.2) (.int .u32 t179)) (fun _ hk => hk.2) (.int .u16 t180)) (fun _ hk => ⟨hk.1.1.1, hk.1.1.2⟩)⟩, ⟨by (with_reducible repeat (first | apply Kd.R_alloc | apply Kd.R_drewN | apply Kd.R_drew)); exact Kd.R_mono (Kd.R_far (p := ⟨gb182, 4, none⟩) (Kd.R_far (p := ⟨gb182, 3, none⟩) (Kd.R_far (p := ⟨gb182, 2, none⟩) (Kd.R_far (p := ⟨gb182, 1, none⟩) (Kd.R_far (p := ⟨gb182, 0, none⟩) (Kd.R_mono HO_4.out (fun k_ hk => (⟨hk, hk.2⟩ : _ ∧ k_ ≠ gb182))) (fun _ hk => hk.2) (.int .u32 t176)) (fun _ hk => hk.2) (.int .i64 t177)) (fun _ hk => hk.2) (.int .u32 t178)) (fun _ hk => hk.2) (.int .u32 t179)) (fun _ hk => hk.2) (.int .u16 t180)) (fun _ hk => hk.1.1)⟩, ⟨by repeat (first | (with_reducible first | exact HB.out | apply below_alloc | apply pw_below_drewN | apply below_drew1 | refine below_set ?_ GE182.out) | exact HB.out)⟩⟩
                  subst c42
                  have H1 : (if x4_2.length < 4398046511104 then (tlv_Decode.l0 kj33 y170 (x4_2 ++ [(⟨(⟨t176, t177⟩ : S29), t178, (⟨t179, t180⟩ : S39)⟩ : S62)]) x5_2) else (none)) = some (r1, r2) := by rw [if_pos rfl] at H; exact H
                  clear H
                  have H := H1
                  clear H1
                  by_cases c43 : x4_2.length < 4398046511104
                  case neg =>
                    rw [if_neg c43] at H; exact absurd H (by simp)
                  rw [if_pos c43] at H; have LMc43 := Aside0.mk c43
                  clear c43
                  obtain ⟨y183, hy183⟩ : ∃ y_ : List (S62), y_ = (x4_2 ++ [(⟨(⟨t176, t177⟩ : S29), t178, (⟨t179, t180⟩ : S39)⟩ : S62)]) := ⟨_, rfl⟩
                  replace H : (tlv_Decode.l0 kj33 y170 y183 x5_2) = some (r1, r2) := by first | (rw [hy183]; with_reducible exact H) | (have H2_ := (Option.bind_some _ _).symm.trans H; rw [hy183]; with_reducible exact H2_) | (have H2_ := (Option.bind_some _ _).symm.trans H; with_reducible exact H2_) | with_reducible exact H | (rw [hy183]; exact H) | exact H
                  have Ny183 := Aside0.mk hy183
                  clear hy183
                  have H' := Aside0.mk H
                  clear H
                  go_wp2_with (first | (go_at_call 56; (with_reducible refine (tlv_one.calls _ _ y165 x5_2 t176 t177 t178 t179 t180 true _ ?side1 ?side2 A41.out).mono ?_); (case side1 => repeat (first | exact (Kd.V_reads' HO_7.out).2.2 | (with_reducible refine Kd.C_alloc ?_ _) | (with_reducible refine Kd.C_drewN ?_ _) | (with_reducible refine Kd.C_drew ?_))); (case side2 => exact (Kd.V_reads' HO_7.out).2.1); rintro e w44 ⟨rfl, hb⟩; have n0_ := Aside0.mk (Kd.V_below (by (with_reducible repeat (first | apply Kd.V_alloc | apply Kd.V_drewN | apply Kd.V_drew)); exact HO_0.out) hb); have n1_ := Aside0.mk (Kd.R_below (by (with_reducible repeat (first | apply Kd.R_alloc | apply Kd.R_drewN | apply Kd.R_drew)); exact HO_4.out) hb); have n2_ := Aside0.mk (Kd.V_below (by (with_reducible repeat (first | apply Kd.V_alloc | apply Kd.V_drewN | apply Kd.V_drew)); exact HO_7.out) hb); have n3_ := Aside0.mk (below_step (by repeat (first | (with_reducible first | exact HB.out | apply below_alloc | apply pw_below_drewN | apply below_drew1) | exact HB.out)) hb); clear HO_0; clear HO_4; clear HO_7; clear HB; have HO_0 := n0_; have HO_4 := n1_; have HO_7 := n2_; have HB := n3_; clear n0_ n1_ n2_ n3_; (try clear hb); (try clear hb2); (try clear hk); (try clear hi)) | ((with_reducible refine gate_dst (N := 8) rfl ?_); (try (refine gate_guard (by rfl) ?_; dsimp only)); refine box_event ?hg (N := 8) ?hd (cs := #[.int .u32 0, .int .i64 0, .int .u32 0, .int .u32 0, .int .u16 0]) (t := 62) ?hr ?_; (case hd => rfl); (case hg => rfl); (case hr => first | (go_simp; done) | (go_simp; rfl)); intro gb182 hg w45 hbox hb; have n0_ := Aside0.mk (Kd.V_below (Kd.V_elderB (by (with_reducible repeat (first | apply Kd.V_alloc | apply Kd.V_drewN | apply Kd.V_drew)); exact HO_0.out) gb182 (Nat.le_of_eq hg.symm)) hb); have n1_ := Aside0.mk (Kd.R_below (Kd.R_elderB (by (with_reducible repeat (first | apply Kd.R_alloc | apply Kd.R_drewN | apply Kd.R_drew)); exact HO_4.out) gb182 (Nat.le_of_eq hg.symm)) hb); have n2_ := Aside0.mk (Kd.V_below (Kd.V_elderB (by (with_reducible repeat (first | apply Kd.V_alloc | apply Kd.V_drewN | apply Kd.V_drew)); exact HO_7.out) gb182 (Nat.le_of_eq hg.symm)) hb); have n3_ := Aside0.mk (below_step (by repeat (first | (with_reducible first | exact HB.out | apply below_alloc | apply pw_below_drewN | apply below_drew1) | exact HB.out)) hb); have n4_ := Aside0.mk (hbox); have n5_ := Aside0.mk ((by rw [hg]; exact (below_size (by repeat (first | (with_reducible first | exact HB.out | apply below_alloc | apply pw_below_drewN | apply below_drew1) | exact HB.out))) : w.heap.size ≤ gb182)); have n6_ := Aside0.mk ((by rw [hg]; exact (below_size (by repeat (first | (with_reducible first | exact HB.out | apply below_alloc | apply pw_below_drewN | apply below_drew1) | exact HB.out))) : w.heap.size ≤ gb182)); clear HO_0; clear HO_4; clear HO_7; clear HB; have HO_0 := n0_; have HO_4 := n1_; have HO_7 := n2_; have HB := n3_; have BK182 := n4_; have GW182 := n5_; have GE182 := n6_; clear n0_ n1_ n2_ n3_ n4_ n5_ n6_; clear hb hbox hg; have hcz46_0 : w45.cell? ⟨gb182, 0, none⟩ = some (.int .u32 0) := (blk_cell BK182.out 0).trans rfl; have hcz46_1 : w45.cell? ⟨gb182, 1, none⟩ = some (.int .i64 0) := (blk_cell BK182.out 1).trans rfl; have hcz46_2 : w45.cell? ⟨gb182, 2, none⟩ = some (.int .u32 0) := (blk_cell BK182.out 2).trans rfl; have hcz46_3 : w45.cell? ⟨gb182, 3, none⟩ = some (.int .u32 0) := (blk_cell BK182.out 3).trans rfl; have hcz46_4 : w45.cell? ⟨gb182, 4, none⟩ = some (.int .u16 0) := (blk_cell BK182.out 4).trans rfl; have hfz46_0 := blk_frozen BK182.out 0; have hfz46_1 := blk_frozen BK182.out 1; have hfz46_2 := blk_frozen BK182.out 2; have hfz46_3 := blk_frozen BK182.out 3; have hfz46_4 := blk_frozen BK182.out 4) | ((with_reducible refine gate_builtin (b := .append) (xs := #[.tmp 99, .tmp 101]) rfl ?_); (try (refine gate_guard (by rfl) ?_; dsimp only)); at_builtin; refine Kd.R_append k62 (w0 := w) w.heap.size rfl (.tmp 99) (.tmp 101) 60 62 (.agg #[(.int .u32 0), (.int .i64 0), (.int .u32 0), (.int .u32 0), (.int .u16 0)]) 32 rfl Try.underlying60 info62 rfl (by decide) (by omega) u4 x4_2 (⟨(⟨t176, t177⟩ : S29), t178, (⟨t179, t180⟩ : S39)⟩ : S62) [.int .u32 t176, .int .i64 t177, .int .u32 t178, .int .u32 t179, .int .u16 t180] (fun k_ => (w.heap.size ≤ k_) ∧ k_ ≠ gb182) (fun _ => False) rfl (by first | (go_simp; done) | (go_simp; rfl)) ?aP (fun _ hk => hk.elim) ?aF ?aO ?aB ?aS ?aL ?_; (case aP => exact k62_mkM _ _ _ (⟨(⟨t176, t177⟩ : S29), t178, (⟨t179, t180⟩ : S39)⟩ : S62)); (case aB => exact (by repeat (first | (with_reducible first | exact HB.out | apply below_alloc | apply pw_below_drewN | apply below_drew1 | refine below_set ?_ GE182.out) | exact HB.out))); (case aF => exact (fun k_ hk => ⟨(Nat.le_trans (below_size (by repeat (first | (with_reducible first | exact HB.out | apply below_alloc | apply pw_below_drewN | apply below_drew1 | refine below_set ?_ GE182.out) | exact HB.out))) hk), Kd.freshB (g := gb182) (o := .cells #[.int .u32 t176, .int .i64 t177, .int .u32 t178, .int .u32 t179, .int .u16 t180] 62 (0, 0)) (by (with_reducible repeat (first | refine blk_drewN ?_ _ | refine blk_drew ?_ | refine blk_alloc ?_ _)); refine blk_put (cs := #[.int .u32 t176, .int .i64 t177, .int .u32 t178, .int .u32 t179, .int .u16 0]) ?_ 4 _ rfl; (with_reducible repeat (first | refine blk_drewN ?_ _ | refine blk_drew ?_ | refine blk_alloc ?_ _)); refine blk_put (cs := #[.int .u32 t176, .int .i64 t177, .int .u32 t178, .int .u32 0, .int .u16 0]) ?_ 3 _ rfl; (with_reducible repeat (first | refine blk_drewN ?_ _ | refine blk_drew ?_ | refine blk_alloc ?_ _)); refine blk_put (cs := #[.int .u32 t176, .int .i64 t177, .int .u32 0, .int .u32 0, .int .u16 0]) ?_ 2 _ rfl; (with_reducible repeat (first | refine blk_drewN ?_ _ | refine blk_drew ?_ | refine blk_alloc ?_ _)); refine blk_put (cs := #[.int .u32 t176, .int .i64 0, .int .u32 0, .int .u32 0, .int .u16 0]) ?_ 1 _ rfl; (with_reducible repeat (first | refine blk_drewN ?_ _ | refine blk_drew ?_ | refine blk_alloc ?_ _)); refine blk_put (cs := #[.int .u32 0, .int .i64 0, .int .u32 0, .int .u32 0, .int .u16 0]) ?_ 0 _ rfl; (with_reducible repeat (first | refine blk_drewN ?_ _ | refine blk_drew ?_ | refine blk_alloc ?_ _)); exact BK182.out) k_ hk⟩)); (case aO => exact (by (with_reducible repeat (first | apply Kd.R_alloc | apply Kd.R_drewN | apply Kd.R_drew)); exact Kd.R_mono (Kd.R_far (p := ⟨gb182, 4, none⟩) (Kd.R_far (p := ⟨gb182, 3, none⟩) (Kd.R_far (p := ⟨gb182, 2, none⟩) (Kd.R_far (p := ⟨gb182, 1, none⟩) (Kd.R_far (p := ⟨gb182, 0, none⟩) (Kd.R_mono HO_4.out (fun k_ hk => (⟨hk, hk.2⟩ : _ ∧ k_ ≠ gb182))) (fun _ hk => hk.2) (.int .u32 t176)) (fun _ hk => hk.2) (.int .i64 t177)) (fun _ hk => hk.2) (.int .u32 t178)) (fun _ hk => hk.2) (.int .u32 t179)) (fun _ hk => hk.2) (.int .u16 t180)) (fun _ hk => ⟨hk.1.1, hk.1.2⟩))); (case aS => exact (below_size (by repeat (first | (with_reducible first | exact HB.out | apply below_alloc | apply pw_below_drewN | apply below_drew1 | refine below_set ?_ GE182.out) | exact HB.out)))); (case aL => have := LMc43.out; omega); intro v184 w47 ho hb hg hat; rw [← Ny183.out] at ho; have n0_ := Aside0.mk (Kd.V_afterv (ok := (fun k_ => (P0_ k_ ∨ w.heap.size ≤ k_) ∧ k_ ≠ gb182)) (by (with_reducible repeat (first | apply Kd.V_alloc | apply Kd.V_drewN | apply Kd.V_drew)); exact Kd.V_mono (Kd.V_far (p := ⟨gb182, 4, none⟩) (Kd.V_far (p := ⟨gb182, 3, none⟩) (Kd.V_far (p := ⟨gb182, 2, none⟩) (Kd.V_far (p := ⟨gb182, 1, none⟩) (Kd.V_far (p := ⟨gb182, 0, none⟩) (Kd.V_mono HO_0.out (fun k_ hk => (⟨hk, hk.2⟩ : _ ∧ k_ ≠ gb182))) (fun _ hk => hk.2) (.int .u32 t176)) (fun _ hk => hk.2) (.int .i64 t177)) (fun _ hk => hk.2) (.int .u32 t178)) (fun _ hk => hk.2) (.int .u32 t179)) (fun _ hk => hk.2) (.int .u16 t180)) (fun _ hk => ⟨⟨hk.1.1.1, hk.1.2⟩, hk.1.1.2⟩)) hg hat); have n1_ := Aside0.mk (Kd.V_afterv (ok := (fun k_ => (P0_ k_ ∨ w.heap.size ≤ k_) ∧ k_ ≠ gb182)) (by (with_reducible repeat (first | apply Kd.V_alloc | apply Kd.V_drewN | apply Kd.V_drew)); exact Kd.V_mono (Kd.V_far (p := ⟨gb182, 4, none⟩) (Kd.V_far (p := ⟨gb182, 3, none⟩) (Kd.V_far (p := ⟨gb182, 2, none⟩) (Kd.V_far (p := ⟨gb182, 1, none⟩) (Kd.V_far (p := ⟨gb182, 0, none⟩) (Kd.V_mono HO_7.out (fun k_ hk => (⟨hk, hk.2⟩ : _ ∧ k_ ≠ gb182))) (fun _ hk => hk.2) (.int .u32 t176)) (fun _ hk => hk.2) (.int .i64 t177)) (fun _ hk => hk.2) (.int .u32 t178)) (fun _ hk => hk.2) (.int .u32 t179)) (fun _ hk => hk.2) (.int .u16 t180)) (fun _ hk => ⟨⟨hk.1.1.1, hk.1.2⟩, hk.1.1.2⟩)) hg hat); have n2_ := Aside0.mk (blk_grown (g := gb182) (o := .cells #[.int .u32 t176, .int .i64 t177, .int .u32 t178, .int .u32 t179, .int .u16 t180] 62 (0, 0)) (by (with_reducible repeat (first | refine blk_drewN ?_ _ | refine blk_drew ?_ | refine blk_alloc ?_ _)); refine blk_put (cs := #[.int .u32 t176, .int .i64 t177, .int .u32 t178, .int .u32 t179, .int .u16 0]) ?_ 4 _ rfl; (with_reducible repeat (first | refine blk_drewN ?_ _ | refine blk_drew ?_ | refine blk_alloc ?_ _)); refine blk_put (cs := #[.int .u32 t176, .int .i64 t177, .int .u32 t178, .int .u32 0, .int .u16 0]) ?_ 3 _ rfl; (with_reducible repeat (first | refine blk_drewN ?_ _ | refine blk_drew ?_ | refine blk_alloc ?_ _)); refine blk_put (cs := #[.int .u32 t176, .int .i64 t177, .int .u32 0, .int .u32 0, .int .u16 0]) ?_ 2 _ rfl; (with_reducible repeat (first | refine blk_drewN ?_ _ | refine blk_drew ?_ | refine blk_alloc ?_ _)); refine blk_put (cs := #[.int .u32 t176, .int .i64 0, .int .u32 0, .int .u32 0, .int .u16 0]) ?_ 1 _ rfl; (with_reducible repeat (first | refine blk_drewN ?_ _ | refine blk_drew ?_ | refine blk_alloc ?_ _)); refine blk_put (cs := #[.int .u32 0, .int .i64 0, .int .u32 0, .int .u32 0, .int .u16 0]) ?_ 0 _ rfl; (with_reducible repeat (first | refine blk_drewN ?_ _ | refine blk_drew ?_ | refine blk_alloc ?_ _)); exact BK182.out) hg (Kd.R_away HO_4.out (fun _ hk => hk.2))); have n3_ := Aside0.mk (hb); have n4_ := Aside0.mk (ho); clear HO_0; clear HO_7; clear BK182; clear HB; clear HO_4; have HO_0 := n0_; have HO_7 := n1_; have BK182 := n2_; have HB := n3_; have HO185 := n4_; clear n0_ n1_ n2_ n3_ n4_; clear ho hb hg hat))
                  repeat (go_quiet (first | (go_at_call 56; (with_reducible refine (tlv_one.calls _ _ y165 x5_2 t176 t177 t178 t179 t180 true _ ?side1 ?side2 A41.out).mono ?_); (case side1 => repeat (first | exact (Kd.V_reads' HO_7.out).2.2 | (with_reducible refine Kd.C_alloc ?_ _) | (with_reducible refine Kd.C_drewN ?_ _) | (with_reducible refine Kd.C_drew ?_))); (case side2 => exact (Kd.V_reads' HO_7.out).2.1); rintro e w44 ⟨rfl, hb⟩; have n0_ := Aside0.mk (Kd.V_below (by (with_reducible repeat (first | apply Kd.V_alloc | apply Kd.V_drewN | apply Kd.V_drew)); exact HO_0.out) hb); have n1_ := Aside0.mk (Kd.R_below (by (with_reducible repeat (first | apply Kd.R_alloc | apply Kd.R_drewN | apply Kd.R_drew)); exact HO_4.out) hb); have n2_ := Aside0.mk (Kd.V_below (by (with_reducible repeat (first | apply Kd.V_alloc | apply Kd.V_drewN | apply Kd.V_drew)); exact HO_7.out) hb); have n3_ := Aside0.mk (below_step (by repeat (first | (with_reducible first | exact HB.out | apply below_alloc | apply pw_below_drewN | apply below_drew1) | exact HB.out)) hb); clear HO_0; clear HO_4; clear HO_7; clear HB; have HO_0 := n0_; have HO_4 := n1_; have HO_7 := n2_; have HB := n3_; clear n0_ n1_ n2_ n3_; (try clear hb); (try clear hb2); (try clear hk); (try clear hi)) | ((with_reducible refine gate_dst (N := 8) rfl ?_); (try (refine gate_guard (by rfl) ?_; dsimp only)); refine box_event ?hg (N := 8) ?hd (cs := #[.int .u32 0, .int .i64 0, .int .u32 0, .int .u32 0, .int .u16 0]) (t := 62) ?hr ?_; (case hd => rfl); (case hg => rfl); (case hr => first | (go_simp; done) | (go_simp; rfl)); intro gb182 hg w45 hbox hb; have n0_ := Aside0.mk (Kd.V_below (Kd.V_elderB (by (with_reducible repeat (first | apply Kd.V_alloc | apply Kd.V_drewN | apply Kd.V_drew)); exact HO_0.out) gb182 (Nat.le_of_eq hg.symm)) hb); have n1_ := Aside0.mk (Kd.R_below (Kd.R_elderB (by (with_reducible repeat (first | apply Kd.R_alloc | apply Kd.R_drewN | apply Kd.R_drew)); exact HO_4.out) gb182 (Nat.le_of_eq hg.symm)) hb); have n2_ := Aside0.mk (Kd.V_below (Kd.V_elderB (by (with_reducible repeat (first | apply Kd.V_alloc | apply Kd.V_drewN | apply Kd.V_drew)); exact HO_7.out) gb182 (Nat.le_of_eq hg.symm)) hb); have n3_ := Aside0.mk (below_step (by repeat (first | (with_reducible first | exact HB.out | apply below_alloc | apply pw_below_drewN | apply below_drew1) | exact HB.out)) hb); have n4_ := Aside0.mk (hbox); have n5_ := Aside0.mk ((by rw [hg]; exact (below_size (by repeat (first | (with_reducible first | exact HB.out | apply below_alloc | apply pw_below_drewN | apply below_drew1) | exact HB.out))) : w.heap.size ≤ gb182)); have n6_ := Aside0.mk ((by rw [hg]; exact (below_size (by repeat (first | (with_reducible first | exact HB.out | apply below_alloc | apply pw_below_drewN | apply below_drew1) | exact HB.out))) : w.heap.size ≤ gb182)); clear HO_0; clear HO_4; clear HO_7; clear HB; have HO_0 := n0_; have HO_4 := n1_; have HO_7 := n2_; have HB := n3_; have BK182 := n4_; have GW182 := n5_; have GE182 := n6_; clear n0_ n1_ n2_ n3_ n4_ n5_ n6_; clear hb hbox hg; have hcz46_0 : w45.cell? ⟨gb182, 0, none⟩ = some (.int .u32 0) := (blk_cell BK182.out 0).trans rfl; have hcz46_1 : w45.cell? ⟨gb182, 1, none⟩ = some (.int .i64 0) := (blk_cell BK182.out 1).trans rfl; have hcz46_2 : w45.cell? ⟨gb182, 2, none⟩ = some (.int .u32 0) := (blk_cell BK182.out 2).trans rfl; have hcz46_3 : w45.cell? ⟨gb182, 3, none⟩ = some (.int .u32 0) := (blk_cell BK182.out 3).trans rfl; have hcz46_4 : w45.cell? ⟨gb182, 4, none⟩ = some (.int .u16 0) := (blk_cell BK182.out 4).trans rfl; have hfz46_0 := blk_frozen BK182.out 0; have hfz46_1 := blk_frozen BK182.out 1; have hfz46_2 := blk_frozen BK182.out 2; have hfz46_3 := blk_frozen BK182.out 3; have hfz46_4 := blk_frozen BK182.out 4) | ((with_reducible refine gate_builtin (b := .append) (xs := #[.tmp 99, .tmp 101]) rfl ?_); (try (refine gate_guard (by rfl) ?_; dsimp only)); at_builtin; refine Kd.R_append k62 (w0 := w) w.heap.size rfl (.tmp 99) (.tmp 101) 60 62 (.agg #[(.int .u32 0), (.int .i64 0), (.int .u32 0), (.int .u32 0), (.int .u16 0)]) 32 rfl Try.underlying60 info62 rfl (by decide) (by omega) u4 x4_2 (⟨(⟨t176, t177⟩ : S29), t178, (⟨t179, t180⟩ : S39)⟩ : S62) [.int .u32 t176, .int .i64 t177, .int .u32 t178, .int .u32 t179, .int .u16 t180] (fun k_ => (w.heap.size ≤ k_) ∧ k_ ≠ gb182) (fun _ => False) rfl (by first | (go_simp; done) | (go_simp; rfl)) ?aP (fun _ hk => hk.elim) ?aF ?aO ?aB ?aS ?aL ?_; (case aP => exact k62_mkM _ _ _ (⟨(⟨t176, t177⟩ : S29), t178, (⟨t179, t180⟩ : S39)⟩ : S62)); (case aB => exact (by repeat (first | (with_reducible first | exact HB.out | apply below_alloc | apply pw_below_drewN | apply below_drew1 | refine below_set ?_ GE182.out) | exact HB.out))); (case aF => exact (fun k_ hk => ⟨(Nat.le_trans (below_size (by repeat (first | (with_reducible first | exact HB.out | apply below_alloc | apply pw_below_drewN | apply below_drew1 | refine below_set ?_ GE182.out) | exact HB.out))) hk), Kd.freshB (g := gb182) (o := .cells #[.int .u32 t176, .int .i64 t177, .int .u32 t178, .int .u32 t179, .int .u16 t180] 62 (0, 0)) (by (with_reducible repeat (first | refine blk_drewN ?_ _ | refine blk_drew ?_ | refine blk_alloc ?_ _)); refine blk_put (cs := #[.int .u32 t176, .int .i64 t177, .int .u32 t178, .int .u32 t179, .int .u16 0]) ?_ 4 _ rfl; (with_reducible repeat (first | refine blk_drewN ?_ _ | refine blk_drew ?_ | refine blk_alloc ?_ _)); refine blk_put (cs := #[.int .u32 t176, .int .i64 t177, .int .u32 t178, .int .u32 0, .int .u16 0]) ?_ 3 _ rfl; (with_reducible repeat (first | refine blk_drewN ?_ _ | refine blk_drew ?_ | refine blk_alloc ?_ _)); refine blk_put (cs := #[.int .u32 t176, .int .i64 t177, .int .u32 0, .int .u32 0, .int .u16 0]) ?_ 2 _ rfl; (with_reducible repeat (first | refine blk_drewN ?_ _ | refine blk_drew ?_ | refine blk_alloc ?_ _)); refine blk_put (cs := #[.int .u32 t176, .int .i64 0, .int .u32 0, .int .u32 0, .int .u16 0]) ?_ 1 _ rfl; (with_reducible repeat (first | refine blk_drewN ?_ _ | refine blk_drew ?_ | refine blk_alloc ?_ _)); refine blk_put (cs := #[.int .u32 0, .int .i64 0, .int .u32 0, .int .u32 0, .int .u16 0]) ?_ 0 _ rfl; (with_reducible repeat (first | refine blk_drewN ?_ _ | refine blk_drew ?_ | refine blk_alloc ?_ _)); exact BK182.out) k_ hk⟩)); (case aO => exact (by (with_reducible repeat (first | apply Kd.R_alloc | apply Kd.R_drewN | apply Kd.R_drew)); exact Kd.R_mono (Kd.R_far (p := ⟨gb182, 4, none⟩) (Kd.R_far (p := ⟨gb182, 3, none⟩) (Kd.R_far (p := ⟨gb182, 2, none⟩) (Kd.R_far (p := ⟨gb182, 1, none⟩) (Kd.R_far (p := ⟨gb182, 0, none⟩) (Kd.R_mono HO_4.out (fun k_ hk => (⟨hk, hk.2⟩ : _ ∧ k_ ≠ gb182))) (fun _ hk => hk.2) (.int .u32 t176)) (fun _ hk => hk.2) (.int .i64 t177)) (fun _ hk => hk.2) (.int .u32 t178)) (fun _ hk => hk.2) (.int .u32 t179)) (fun _ hk => hk.2) (.int .u16 t180)) (fun _ hk => ⟨hk.1.1, hk.1.2⟩))); (case aS => exact (below_size (by repeat (first | (with_reducible first | exact HB.out | apply below_alloc | apply pw_below_drewN | apply below_drew1 | refine below_set ?_ GE182.out) | exact HB.out)))); (case aL => have := LMc43.out; omega); intro v184 w47 ho hb hg hat; rw [← Ny183.out] at ho; have n0_ := Aside0.mk (Kd.V_afterv (ok := (fun k_ => (P0_ k_ ∨ w.heap.size ≤ k_) ∧ k_ ≠ gb182)) (by (with_reducible repeat (first | apply Kd.V_alloc | apply Kd.V_drewN | apply Kd.V_drew)); exact Kd.V_mono (Kd.V_far (p := ⟨gb182, 4, none⟩) (Kd.V_far (p := ⟨gb182, 3, none⟩) (Kd.V_far (p := ⟨gb182, 2, none⟩) (Kd.V_far (p := ⟨gb182, 1, none⟩) (Kd.V_far (p := ⟨gb182, 0, none⟩) (Kd.V_mono HO_0.out (fun k_ hk => (⟨hk, hk.2⟩ : _ ∧ k_ ≠ gb182))) (fun _ hk => hk.2) (.int .u32 t176)) (fun _ hk => hk.2) (.int .i64 t177)) (fun _ hk => hk.2) (.int .u32 t178)) (fun _ hk => hk.2) (.int .u32 t179)) (fun _ hk => hk.2) (.int .u16 t180)) (fun _ hk => ⟨⟨hk.1.1.1, hk.1.2⟩, hk.1.1.2⟩)) hg hat); have n1_ := Aside0.mk (Kd.V_afterv (ok := (fun k_ => (P0_ k_ ∨ w.heap.size ≤ k_) ∧ k_ ≠ gb182)) (by (with_reducible repeat (first | apply Kd.V_alloc | apply Kd.V_drewN | apply Kd.V_drew)); exact Kd.V_mono (Kd.V_far (p := ⟨gb182, 4, none⟩) (Kd.V_far (p := ⟨gb182, 3, none⟩) (Kd.V_far (p := ⟨gb182, 2, none⟩) (Kd.V_far (p := ⟨gb182, 1, none⟩) (Kd.V_far (p := ⟨gb182, 0, none⟩) (Kd.V_mono HO_7.out (fun k_ hk => (⟨hk, hk.2⟩ : _ ∧ k_ ≠ gb182))) (fun _ hk => hk.2) (.int .u32 t176)) (fun _ hk => hk.2) (.int .i64 t177)) (fun _ hk => hk.2) (.int .u32 t178)) (fun _ hk => hk.2) (.int .u32 t179)) (fun _ hk => hk.2) (.int .u16 t180)) (fun _ hk => ⟨⟨hk.1.1.1, hk.1.2⟩, hk.1.1.2⟩)) hg hat); have n2_ := Aside0.mk (blk_grown (g := gb182) (o := .cells #[.int .u32 t176, .int .i64 t177, .int .u32 t178, .int .u32 t179, .int .u16 t180] 62 (0, 0)) (by (with_reducible repeat (first | refine blk_drewN ?_ _ | refine blk_drew ?_ | refine blk_alloc ?_ _)); refine blk_put (cs := #[.int .u32 t176, .int .i64 t177, .int .u32 t178, .int .u32 t179, .int .u16 0]) ?_ 4 _ rfl; (with_reducible repeat (first | refine blk_drewN ?_ _ | refine blk_drew ?_ | refine blk_alloc ?_ _)); refine blk_put (cs := #[.int .u32 t176, .int .i64 t177, .int .u32 t178, .int .u32 0, .int .u16 0]) ?_ 3 _ rfl; (with_reducible repeat (first | refine blk_drewN ?_ _ | refine blk_drew ?_ | refine blk_alloc ?_ _)); refine blk_put (cs := #[.int .u32 t176, .int .i64 t177, .int .u32 0, .int .u32 0, .int .u16 0]) ?_ 2 _ rfl; (with_reducible repeat (first | refine blk_drewN ?_ _ | refine blk_drew ?_ | refine blk_alloc ?_ _)); refine blk_put (cs := #[.int .u32 t176, .int .i64 0, .int .u32 0, .int .u32 0, .int .u16 0]) ?_ 1 _ rfl; (with_reducible repeat (first | refine blk_drewN ?_ _ | refine blk_drew ?_ | refine blk_alloc ?_ _)); refine blk_put (cs := #[.int .u32 0, .int .i64 0, .int .u32 0, .int .u32 0, .int .u16 0]) ?_ 0 _ rfl; (with_reducible repeat (first | refine blk_drewN ?_ _ | refine blk_drew ?_ | refine blk_alloc ?_ _)); exact BK182.out) hg (Kd.R_away HO_4.out (fun _ hk => hk.2))); have n3_ := Aside0.mk (hb); have n4_ := Aside0.mk (ho); clear HO_0; clear HO_7; clear BK182; clear HB; clear HO_4; have HO_0 := n0_; have HO_7 := n1_; have BK182 := n2_; have HB := n3_; have HO185 := n4_; clear n0_ n1_ n2_ n3_ n4_; clear ho hb hg hat)); try go_wp2_with (first | (go_at_call 56; (with_reducible refine (tlv_one.calls _ _ y165 x5_2 t176 t177 t178 t179 t180 true _ ?side1 ?side2 A41.out).mono ?_); (case side1 => repeat (first | exact (Kd.V_reads' HO_7.out).2.2 | (with_reducible refine Kd.C_alloc ?_ _) | (with_reducible refine Kd.C_drewN ?_ _) | (with_reducible refine Kd.C_drew ?_))); (case side2 => exact (Kd.V_reads' HO_7.out).2.1); rintro e w44 ⟨rfl, hb⟩; have n0_ := Aside0.mk (Kd.V_below (by (with_reducible repeat (first | apply Kd.V_alloc | apply Kd.V_drewN | apply Kd.V_drew)); exact HO_0.out) hb); have n1_ := Aside0.mk (Kd.R_below (by (with_reducible repeat (first | apply Kd.R_alloc | apply Kd.R_drewN | apply Kd.R_drew)); exact HO_4.out) hb); have n2_ := Aside0.mk (Kd.V_below (by (with_reducible repeat (first | apply Kd.V_alloc | apply Kd.V_drewN | apply Kd.V_drew)); exact HO_7.out) hb); have n3_ := Aside0.mk (below_step (by repeat (first | (with_reducible first | exact HB.out | apply below_alloc | apply pw_below_drewN | apply below_drew1) | exact HB.out)) hb); clear HO_0; clear HO_4; clear HO_7; clear HB; have HO_0 := n0_; have HO_4 := n1_; have HO_7 := n2_; have HB := n3_; clear n0_ n1_ n2_ n3_; (try clear hb); (try clear hb2); (try clear hk); (try clear hi)) | ((with_reducible refine gate_dst (N := 8) rfl ?_); (try (refine gate_guard (by rfl) ?_; dsimp only)); refine box_event ?hg (N := 8) ?hd (cs := #[.int .u32 0, .int .i64 0, .int .u32 0, .int .u32 0, .int .u16 0]) (t := 62) ?hr ?_; (case hd => rfl); (case hg => rfl); (case hr => first | (go_simp; done) | (go_simp; rfl)); intro gb182 hg w45 hbox hb; have n0_ := Aside0.mk (Kd.V_below (Kd.V_elderB (by (with_reducible repeat (first | apply Kd.V_alloc | apply Kd.V_drewN | apply Kd.V_drew)); exact HO_0.out) gb182 (Nat.le_of_eq hg.symm)) hb); have n1_ := Aside0.mk (Kd.R_below (Kd.R_elderB (by (with_reducible repeat (first | apply Kd.R_alloc | apply Kd.R_drewN | apply Kd.R_drew)); exact HO_4.out) gb182 (Nat.le_of_eq hg.symm)) hb); have n2_ := Aside0.mk (Kd.V_below (Kd.V_elderB (by (with_reducible repeat (first | apply Kd.V_alloc | apply Kd.V_drewN | apply Kd.V_drew)); exact HO_7.out) gb182 (Nat.le_of_eq hg.symm)) hb); have n3_ := Aside0.mk (below_step (by repeat (first | (with_reducible first | exact HB.out | apply below_alloc | apply pw_below_drewN | apply below_drew1) | exact HB.out)) hb); have n4_ := Aside0.mk (hbox); have n5_ := Aside0.mk ((by rw [hg]; exact (below_size (by repeat (first | (with_reducible first | exact HB.out | apply below_alloc | apply pw_below_drewN | apply below_drew1) | exact HB.out))) : w.heap.size ≤ gb182)); have n6_ := Aside0.mk ((by rw [hg]; exact (below_size (by repeat (first | (with_reducible first | exact HB.out | apply below_alloc | apply pw_below_drewN | apply below_drew1) | exact HB.out))) : w.heap.size ≤ gb182)); clear HO_0; clear HO_4; clear HO_7; clear HB; have HO_0 := n0_; have HO_4 := n1_; have HO_7 := n2_; have HB := n3_; have BK182 := n4_; have GW182 := n5_; have GE182 := n6_; clear n0_ n1_ n2_ n3_ n4_ n5_ n6_; clear hb hbox hg; have hcz46_0 : w45.cell? ⟨gb182, 0, none⟩ = some (.int .u32 0) := (blk_cell BK182.out 0).trans rfl; have hcz46_1 : w45.cell? ⟨gb182, 1, none⟩ = some (.int .i64 0) := (blk_cell BK182.out 1).trans rfl; have hcz46_2 : w45.cell? ⟨gb182, 2, none⟩ = some (.int .u32 0) := (blk_cell BK182.out 2).trans rfl; have hcz46_3 : w45.cell? ⟨gb182, 3, none⟩ = some (.int .u32 0) := (blk_cell BK182.out 3).trans rfl; have hcz46_4 : w45.cell? ⟨gb182, 4, none⟩ = some (.int .u16 0) := (blk_cell BK182.out 4).trans rfl; have hfz46_0 := blk_frozen BK182.out 0; have hfz46_1 := blk_frozen BK182.out 1; have hfz46_2 := blk_frozen BK182.out 2; have hfz46_3 := blk_frozen BK182.out 3; have hfz46_4 := blk_frozen BK182.out 4) | ((with_reducible refine gate_builtin (b := .append) (xs := #[.tmp 99, .tmp 101]) rfl ?_); (try (refine gate_guard (by rfl) ?_; dsimp only)); at_builtin; refine Kd.R_append k62 (w0 := w) w.heap.size rfl (.tmp 99) (.tmp 101) 60 62 (.agg #[(.int .u32 0), (.int .i64 0), (.int .u32 0), (.int .u32 0), (.int .u16 0)]) 32 rfl Try.underlying60 info62 rfl (by decide) (by omega) u4 x4_2 (⟨(⟨t176, t177⟩ : S29), t178, (⟨t179, t180⟩ : S39)⟩ : S62) [.int .u32 t176, .int .i64 t177, .int .u32 t178, .int .u32 t179, .int .u16 t180] (fun k_ => (w.heap.size ≤ k_) ∧ k_ ≠ gb182) (fun _ => False) rfl (by first | (go_simp; done) | (go_simp; rfl)) ?aP (fun _ hk => hk.elim) ?aF ?aO ?aB ?aS ?aL ?_; (case aP => exact k62_mkM _ _ _ (⟨(⟨t176, t177⟩ : S29), t178, (⟨t179, t180⟩ : S39)⟩ : S62)); (case aB => exact (by repeat (first | (with_reducible first | exact HB.out | apply below_alloc | apply pw_below_drewN | apply below_drew1 | refine below_set ?_ GE182.out) | exact HB.out))); (case aF => exact (fun k_ hk => ⟨(Nat.le_trans (below_size (by repeat (first | (with_reducible first | exact HB.out | apply below_alloc | apply pw_below_drewN | apply below_drew1 | refine below_set ?_ GE182.out) | exact HB.out))) hk), Kd.freshB (g := gb182) (o := .cells #[.int .u32 t176, .int .i64 t177, .int .u32 t178, .int .u32 t179, .int .u16 t180] 62 (0, 0)) (by (with_reducible repeat (first | refine blk_drewN ?_ _ | refine blk_drew ?_ | refine blk_alloc ?_ _)); refine blk_put (cs := #[.int .u32 t176, .int .i64 t177, .int .u32 t178, .int .u32 t179, .int .u16 0]) ?_ 4 _ rfl; (with_reducible repeat (first | refine blk_drewN ?_ _ | refine blk_drew ?_ | refine blk_alloc ?_ _)); refine blk_put (cs := #[.int .u32 t176, .int .i64 t177, .int .u32 t178, .int .u32 0, .int .u16 0]) ?_ 3 _ rfl; (with_reducible repeat (first | refine blk_drewN ?_ _ | refine blk_drew ?_ | refine blk_alloc ?_ _)); refine blk_put (cs := #[.int .u32 t176, .int .i64 t177, .int .u32 0, .int .u32 0, .int .u16 0]) ?_ 2 _ rfl; (with_reducible repeat (first | refine blk_drewN ?_ _ | refine blk_drew ?_ | refine blk_alloc ?_ _)); refine blk_put (cs := #[.int .u32 t176, .int .i64 0, .int .u32 0, .int .u32 0, .int .u16 0]) ?_ 1 _ rfl; (with_reducible repeat (first | refine blk_drewN ?_ _ | refine blk_drew ?_ | refine blk_alloc ?_ _)); refine blk_put (cs := #[.int .u32 0, .int .i64 0, .int .u32 0, .int .u32 0, .int .u16 0]) ?_ 0 _ rfl; (with_reducible repeat (first | refine blk_drewN ?_ _ | refine blk_drew ?_ | refine blk_alloc ?_ _)); exact BK182.out) k_ hk⟩)); (case aO => exact (by (with_reducible repeat (first | apply Kd.R_alloc | apply Kd.R_drewN | apply Kd.R_drew)); exact Kd.R_mono (Kd.R_far (p := ⟨gb182, 4, none⟩) (Kd.R_far (p := ⟨gb182, 3, none⟩) (Kd.R_far (p := ⟨gb182, 2, none⟩) (Kd.R_far (p := ⟨gb182, 1, none⟩) (Kd.R_far (p := ⟨gb182, 0, none⟩) (Kd.R_mono HO_4.out (fun k_ hk => (⟨hk, hk.2⟩ : _ ∧ k_ ≠ gb182))) (fun _ hk => hk.2) (.int .u32 t176)) (fun _ hk => hk.2) (.int .i64 t177)) (fun _ hk => hk.2) (.int .u32 t178)) (fun _ hk => hk.2) (.int .u32 t179)) (fun _ hk => hk.2) (.int .u16 t180)) (fun _ hk => ⟨hk.1.1, hk.1.2⟩))); (case aS => exact (below_size (by repeat (first | (with_reducible first | exact HB.out | apply below_alloc | apply pw_below_drewN | apply below_drew1 | refine below_set ?_ GE182.out) | exact HB.out)))); (case aL => have := LMc43.out; omega); intro v184 w47 ho hb hg hat; rw [← Ny183.out] at ho; have n0_ := Aside0.mk (Kd.V_afterv (ok := (fun k_ => (P0_ k_ ∨ w.heap.size ≤ k_) ∧ k_ ≠ gb182)) (by (with_reducible repeat (first | apply Kd.V_alloc | apply Kd.V_drewN | apply Kd.V_drew)); exact Kd.V_mono (Kd.V_far (p := ⟨gb182, 4, none⟩) (Kd.V_far (p := ⟨gb182, 3, none⟩) (Kd.V_far (p := ⟨gb182, 2, none⟩) (Kd.V_far (p := ⟨gb182, 1, none⟩) (Kd.V_far (p := ⟨gb182, 0, none⟩) (Kd.V_mono HO_0.out (fun k_ hk => (⟨hk, hk.2⟩ : _ ∧ k_ ≠ gb182))) (fun _ hk => hk.2) (.int .u32 t176)) (fun _ hk => hk.2) (.int .i64 t177)) (fun _ hk => hk.2) (.int .u32 t178)) (fun _ hk => hk.2) (.int .u32 t179)) (fun _ hk => hk.2) (.int .u16 t180)) (fun _ hk => ⟨⟨hk.1.1.1, hk.1.2⟩, hk.1.1.2⟩)) hg hat); have n1_ := Aside0.mk (Kd.V_afterv (ok := (fun k_ => (P0_ k_ ∨ w.heap.size ≤ k_) ∧ k_ ≠ gb182)) (by (with_reducible repeat (first | apply Kd.V_alloc | apply Kd.V_drewN | apply Kd.V_drew)); exact Kd.V_mono (Kd.V_far (p := ⟨gb182, 4, none⟩) (Kd.V_far (p := ⟨gb182, 3, none⟩) (Kd.V_far (p := ⟨gb182, 2, none⟩) (Kd.V_far (p := ⟨gb182, 1, none⟩) (Kd.V_far (p := ⟨gb182, 0, none⟩) (Kd.V_mono HO_7.out (fun k_ hk => (⟨hk, hk.2⟩ : _ ∧ k_ ≠ gb182))) (fun _ hk => hk.2) (.int .u32 t176)) (fun _ hk => hk.2) (.int .i64 t177)) (fun _ hk => hk.2) (.int .u32 t178)) (fun _ hk => hk.2) (.int .u32 t179)) (fun _ hk => hk.2) (.int .u16 t180)) (fun _ hk => ⟨⟨hk.1.1.1, hk.1.2⟩, hk.1.1.2⟩)) hg hat); have n2_ := Aside0.mk (blk_grown (g := gb182) (o := .cells #[.int .u32 t176, .int .i64 t177, .int .u32 t178, .int .u32 t179, .int .u16 t180] 62 (0, 0)) (by (with_reducible repeat (first | refine blk_drewN ?_ _ | refine blk_drew ?_ | refine blk_alloc ?_ _)); refine blk_put (cs := #[.int .u32 t176, .int .i64 t177, .int .u32 t178, .int .u32 t179, .int .u16 0]) ?_ 4 _ rfl; (with_reducible repeat (first | refine blk_drewN ?_ _ | refine blk_drew ?_ | refine blk_alloc ?_ _)); refine blk_put (cs := #[.int .u32 t176, .int .i64 t177, .int .u32 t178, .int .u32 0, .int .u16 0]) ?_ 3 _ rfl; (with_reducible repeat (first | refine blk_drewN ?_ _ | refine blk_drew ?_ | refine blk_alloc ?_ _)); refine blk_put (cs := #[.int .u32 t176, .int .i64 t177, .int .u32 0, .int .u32 0, .int .u16 0]) ?_ 2 _ rfl; (with_reducible repeat (first | refine blk_drewN ?_ _ | refine blk_drew ?_ | refine blk_alloc ?_ _)); refine blk_put (cs := #[.int .u32 t176, .int .i64 0, .int .u32 0, .int .u32 0, .int .u16 0]) ?_ 1 _ rfl; (with_reducible repeat (first | refine blk_drewN ?_ _ | refine blk_drew ?_ | refine blk_alloc ?_ _)); refine blk_put (cs := #[.int .u32 0, .int .i64 0, .int .u32 0, .int .u32 0, .int .u16 0]) ?_ 0 _ rfl; (with_reducible repeat (first | refine blk_drewN ?_ _ | refine blk_drew ?_ | refine blk_alloc ?_ _)); exact BK182.out) hg (Kd.R_away HO_4.out (fun _ hk => hk.2))); have n3_ := Aside0.mk (hb); have n4_ := Aside0.mk (ho); clear HO_0; clear HO_7; clear BK182; clear HB; clear HO_4; have HO_0 := n0_; have HO_7 := n1_; have BK182 := n2_; have HB := n3_; have HO185 := n4_; clear n0_ n1_ n2_ n3_ n4_; clear ho hb hg hat)))
                  go_roundg kj33
                  case measure => have := HJ1.out; have := HK2.out; have := HJ21.out; have := HJ33.out; omega
                  case rel => exact ⟨(y170), (y183), (x5_2), (by first | rfl | (simp; done) | (simp [*]; done)), H', ⟨by have := HJ1.out; have := HK2.out; have := HJ21.out; have := HJ33.out; omega⟩, ⟨by (with_reducible repeat (first | apply Kd.V_alloc | apply Kd.V_drewN | apply Kd.V_drew)); exact Kd.V_mono HO_0.out (fun _ hk => ⟨hk.1.1, hk.2⟩)⟩, ⟨by (with_reducible repeat (first | apply Kd.R_alloc | apply Kd.R_drewN | apply Kd.R_drew)); exact Kd.R_mono HO185.out (fun _ hk => hk.1)⟩, ⟨by repeat (first | (with_reducible first | exact HB.out | apply below_alloc | apply pw_below_drewN | apply below_drew1 | refine below_set ?_ GE182.out) | exact HB.out)⟩⟩
end Go.Proofs.YtgmdjhokcipajaaQ.PTlx
