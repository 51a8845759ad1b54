-- written by this session's turned copy of the kit's print.py; Lean checks it
import Derived.Test.YtgmdjhokcipajaaPTlv0
import Derived.Test.YtgmdjhokcipajaaPTlv2
import Derived.Test.YtgmdjhokcipajaaPTlv4
import Derived.Test.YtgmdjhokcipajaaPTlv6
import Derived.Test.YtgmdjhokcipajaaPTlv7
import Derived.Test.YtgmdjhokcipajaaPTlv8
namespace Go.Proofs.YtgmdjhokcipajaaQ.PTlv
open Go.RowKit Go.Proofs.YtgmdjhokcipajaaW.PrintWords Go.Proofs.YtgmdjhokcipajaaW.PrintLast Go.Proofs.YtgmdjhokcipajaaW.PrintMore
attribute [local go_sem] max2_int min2_int max_two min_two max_three min_three max_four min_four   -- for this text's walks alone
set_option linter.unusedVariables false
set_option linter.unusedSimpArgs false

/-! ### wayfarerlaw08_TlvTells: function 10 -/
mutual
def wayfarerlaw08_TlvTells.l0 : Nat → List (S62) → Int → List (S62) → List (S62) → Int → Option (Bool)
  | 0, _, _, _, _, _ => none
  | k + 1, x0, x1, x5, x6, x7 => if x7 < (wrap64 (1 + (Go.bits .and .i64 x1 7))) then (if x5.length + x0.length < 4398046511104 then (wayfarerlaw08_TlvTells.l0 k x0 x1 (x5 ++ x0) x6 (wrap64 (x7 + 1))) else (none)) else (wayfarerlaw08_TlvTells.l1 k x5 x6 x5 (x5.length : Int) 0)
def wayfarerlaw08_TlvTells.l1 : Nat → List (S62) → List (S62) → List (S62) → Int → Int → Option (Bool)
  | 0, _, _, _, _, _ => none
  | k + 1, x5, x6, x34, x35, x36 => if x36 < x35 then (if 0 ≤ x36 then (if x36 < (x34.length : Int) then ((tlv_Update_Right.f ((rd_T62 x34 x36).f0.f0) ((rd_T62 x34 x36).f0.f1) ((rd_T62 x34 x36).f1) ((rd_T62 x34 x36).f2.f0) ((rd_T62 x34 x36).f2.f1)).bind fun t280 => ((wayfarerlaw08_Right.f k ((rd_T62 x34 x36).f0.f0) ((rd_T62 x34 x36).f0.f1) ((rd_T62 x34 x36).f1) ((rd_T62 x34 x36).f2.f0) ((rd_T62 x34 x36).f2.f1)).bind fun t281 => (if (t280 != t281) = true then (some false) else ((wayfarerlaw08_Right.f k ((rd_T62 x34 x36).f0.f0) ((rd_T62 x34 x36).f0.f1) ((rd_T62 x34 x36).f1) ((rd_T62 x34 x36).f2.f0) ((rd_T62 x34 x36).f2.f1)).bind fun t282 => (if t282 = true then (if x6.length < 4398046511104 then (wayfarerlaw08_TlvTells.l1 k x5 (x6 ++ [(⟨(⟨(rd_T62 x34 x36).f0.f0, (rd_T62 x34 x36).f0.f1⟩ : S29), (rd_T62 x34 x36).f1, (⟨(rd_T62 x34 x36).f2.f0, (rd_T62 x34 x36).f2.f1⟩ : S39)⟩ : S62)]) x34 x35 (wrap64 (x36 + 1))) else (none)) else (wayfarerlaw08_TlvTells.l1 k x5 x6 x34 x35 (wrap64 (x36 + 1)))))))) else (none)) else (none)) else ((tlv_Encode.f k x5).bind fun t286 => ((wayfarerlaw08_encode.f k x5).bind fun t289 => (if (t286.length : Int) = (t289.length : Int) then (wayfarerlaw08_TlvTells.l2 k x6 t289 (([] : List (S62))) t286 (t286.length : Int) 0) else (some false))))
def wayfarerlaw08_TlvTells.l2 : Nat → List (S62) → List (List Int) → List (S62) → List (List Int) → Int → Int → Option (Bool)
  | 0, _, _, _, _, _, _ => none
  | k + 1, x6, x11, x12, x62, x63, x64 => if x64 < x63 then (if 0 ≤ x64 then (if x64 < (x62.length : Int) then ((tlv_Decode.f k (rd_L9 x62 x64)).bind fun bt296 => (if bt296.2 = true then (if x64 < (x11.length : Int) then (if (strOfNums (rd_L9 x62 x64)).toList = (strOfNums (rd_L9 x11 x64)).toList then (if ((rd_L9 x62 x64).length : Int) > 1024 then (some false) else (if x12.length + bt296.1.length < 4398046511104 then (wayfarerlaw08_TlvTells.l2 k x6 x11 (x12 ++ bt296.1) x62 x63 (wrap64 (x64 + 1))) else (none))) else (some false)) else (none)) else (some false))) else (none)) else (none)) else ((wayfarerlaw08_Same.f k x12 x6).bind fun t304 => (some t304))
end
def wayfarerlaw08_TlvTells.f (k : Nat) (l0 : List (S62)) (a1 : Int) : Option (Bool) := (wayfarerlaw08_head.f).bind fun t268 => (if t268 = true then (if (l0.length : Int) > 40 then (some true) else (wayfarerlaw08_TlvTells.l0 k l0 a1 (([] : List (S62))) (([] : List (S62))) 0)) else (some false))
theorem wayfarerlaw08_TlvTells.mono_l : ∀ k, (∀ y0 y1 y2 y3 y4, LeO (wayfarerlaw08_TlvTells.l0 k y0 y1 y2 y3 y4) (wayfarerlaw08_TlvTells.l0 (k + 1) y0 y1 y2 y3 y4)) ∧ (∀ y0 y1 y2 y3 y4, LeO (wayfarerlaw08_TlvTells.l1 k y0 y1 y2 y3 y4) (wayfarerlaw08_TlvTells.l1 (k + 1) y0 y1 y2 y3 y4)) ∧ (∀ y0 y1 y2 y3 y4 y5, LeO (wayfarerlaw08_TlvTells.l2 k y0 y1 y2 y3 y4 y5) (wayfarerlaw08_TlvTells.l2 (k + 1) y0 y1 y2 y3 y4 y5))
  | 0 => ⟨fun _ _ _ _ _ r h => by simp [wayfarerlaw08_TlvTells.l0] at h, fun _ _ _ _ _ r h => by simp [wayfarerlaw08_TlvTells.l1] at h, fun _ _ _ _ _ _ r h => by simp [wayfarerlaw08_TlvTells.l2] at h⟩
  | k + 1 => by
    obtain ⟨ih0, ih1, ih2⟩ := wayfarerlaw08_TlvTells.mono_l k
    refine ⟨?_, ?_, ?_⟩
    · intro y0 y1 y2 y3 y4
      unfold wayfarerlaw08_TlvTells.l0
      repeat' first
      | (with_reducible exact ih0 _ _ _ _ _)
      | (with_reducible exact ih1 _ _ _ _ _)
      | (with_reducible exact ih2 _ _ _ _ _ _)
      | (with_reducible exact tlv_Decode.mono _ _)
      | (with_reducible exact tlv_Encode.mono _ _)
      | (with_reducible exact wayfarerlaw08_Right.mono _ _ _ _ _ _)
      | (with_reducible exact wayfarerlaw08_Same.mono _ _ _)
      | (with_reducible exact wayfarerlaw08_encode.mono _ _)
      | (with_reducible exact LeO.refl _)
      | (with_reducible exact LeO.none _)
      | (with_reducible refine LeO.ite ?_ ?_)
      | (with_reducible refine LeO.bind ?_ (fun _ => ?_))
      | exact ih0 _ _ _ _ _
      | exact ih1 _ _ _ _ _
      | exact ih2 _ _ _ _ _ _
      | exact tlv_Decode.mono _ _
      | exact tlv_Encode.mono _ _
      | exact wayfarerlaw08_Right.mono _ _ _ _ _ _
      | exact wayfarerlaw08_Same.mono _ _ _
      | exact wayfarerlaw08_encode.mono _ _
      | exact LeO.none _
      | refine LeO.ite ?_ ?_
      | refine LeO.bind ?_ (fun _ => ?_)
    · intro y0 y1 y2 y3 y4
      unfold wayfarerlaw08_TlvTells.l1
      repeat' first
      | (with_reducible exact ih0 _ _ _ _ _)
      | (with_reducible exact ih1 _ _ _ _ _)
      | (with_reducible exact ih2 _ _ _ _ _ _)
      | (with_reducible exact tlv_Decode.mono _ _)
      | (with_reducible exact tlv_Encode.mono _ _)
      | (with_reducible exact wayfarerlaw08_Right.mono _ _ _ _ _ _)
      | (with_reducible exact wayfarerlaw08_Same.mono _ _ _)
      | (with_reducible exact wayfarerlaw08_encode.mono _ _)
      | (with_reducible exact LeO.refl _)
      | (with_reducible exact LeO.none _)
      | (with_reducible refine LeO.ite ?_ ?_)
      | (with_reducible refine LeO.bind ?_ (fun _ => ?_))
      | exact ih0 _ _ _ _ _
      | exact ih1 _ _ _ _ _
      | exact ih2 _ _ _ _ _ _
      | exact tlv_Decode.mono _ _
      | exact tlv_Encode.mono _ _
      | exact wayfarerlaw08_Right.mono _ _ _ _ _ _
      | exact wayfarerlaw08_Same.mono _ _ _
      | exact wayfarerlaw08_encode.mono _ _
      | exact LeO.none _
      | refine LeO.ite ?_ ?_
      | refine LeO.bind ?_ (fun _ => ?_)
    · intro y0 y1 y2 y3 y4 y5
      unfold wayfarerlaw08_TlvTells.l2
      repeat' first
      | (with_reducible exact ih0 _ _ _ _ _)
      | (with_reducible exact ih1 _ _ _ _ _)
      | (with_reducible exact ih2 _ _ _ _ _ _)
      | (with_reducible exact tlv_Decode.mono _ _)
      | (with_reducible exact tlv_Encode.mono _ _)
      | (with_reducible exact wayfarerlaw08_Right.mono _ _ _ _ _ _)
      | (with_reducible exact wayfarerlaw08_Same.mono _ _ _)
      | (with_reducible exact wayfarerlaw08_encode.mono _ _)
      | (with_reducible exact LeO.refl _)
      | (with_reducible exact LeO.none _)
      | (with_reducible refine LeO.ite ?_ ?_)
      | (with_reducible refine LeO.bind ?_ (fun _ => ?_))
      | exact ih0 _ _ _ _ _
      | exact ih1 _ _ _ _ _
      | exact ih2 _ _ _ _ _ _
      | exact tlv_Decode.mono _ _
      | exact tlv_Encode.mono _ _
      | exact wayfarerlaw08_Right.mono _ _ _ _ _ _
      | exact wayfarerlaw08_Same.mono _ _ _
      | exact wayfarerlaw08_encode.mono _ _
      | exact LeO.none _
      | refine LeO.ite ?_ ?_
      | refine LeO.bind ?_ (fun _ => ?_)
theorem wayfarerlaw08_TlvTells.mono : ∀ a0 a1 k, LeO (wayfarerlaw08_TlvTells.f k a0 a1) (wayfarerlaw08_TlvTells.f (k + 1) a0 a1) := by
  intro a0 a1 k
  obtain ⟨ih0, ih1, ih2⟩ := wayfarerlaw08_TlvTells.mono_l k
  unfold wayfarerlaw08_TlvTells.f
  repeat' first
      | (with_reducible exact ih0 _ _ _ _ _)
      | (with_reducible exact ih1 _ _ _ _ _)
      | (with_reducible exact ih2 _ _ _ _ _ _)
      | (with_reducible exact tlv_Decode.mono _ _)
      | (with_reducible exact tlv_Encode.mono _ _)
      | (with_reducible exact wayfarerlaw08_Right.mono _ _ _ _ _ _)
      | (with_reducible exact wayfarerlaw08_Same.mono _ _ _)
      | (with_reducible exact wayfarerlaw08_encode.mono _ _)
      | (with_reducible exact LeO.refl _)
      | (with_reducible exact LeO.none _)
      | (with_reducible refine LeO.ite ?_ ?_)
      | (with_reducible refine LeO.bind ?_ (fun _ => ?_))
      | exact ih0 _ _ _ _ _
      | exact ih1 _ _ _ _ _
      | exact ih2 _ _ _ _ _ _
      | exact tlv_Decode.mono _ _
      | exact tlv_Encode.mono _ _
      | exact wayfarerlaw08_Right.mono _ _ _ _ _ _
      | exact wayfarerlaw08_Same.mono _ _ _
      | exact wayfarerlaw08_encode.mono _ _
      | exact LeO.none _
      | refine LeO.ite ?_ ?_
      | refine LeO.bind ?_ (fun _ => ?_)
def wayfarerlaw08_TlvTells.T28 : Bool × List (List Nat × List Nat) := (true, [([], []), ([0], [0]), ([1], [1]), ([2], [2]), ([3, 2], [2, 3]), ([2], [2]), ([2], [2]), ([5, 6, 2], [2, 5, 6]), ([7, 2], [2, 7]), ([8, 2], [2, 8]), ([4, 9, 2], [2, 4, 9]), ([2, 10], [2, 10]), ([11, 2], [11]), ([12], [12]), ([13, 12], [12, 13]), ([14, 12], [12, 14]), ([12, 15], [12, 15])])
def wayfarerlaw08_TlvTells.B28 : List Nat := [0, 1, 3, 7, 15, 7, 7, 103, 231, 487, 1023, 2047, 4095, 8191, 16383, 32767, 65535]
theorem wayfarerlaw08_TlvTells.tab28 : rtab .any (opsOf Try.f10 28) = wayfarerlaw08_TlvTells.T28 := by kernel_rfl
theorem wayfarerlaw08_TlvTells.bits28 : waitsOk wayfarerlaw08_TlvTells.T28.2 wayfarerlaw08_TlvTells.B28 = true := by kernel_rfl
set_option maxHeartbeats 8000000 in
set_option maxRecDepth 100000 in
theorem wayfarerlaw08_TlvTells.calls (k : Nat) (A0 : Option Addr) (c0 : Nat) (l0 : List (S62)) (a1 : Int) (r : Bool) (w : World) (hr0 : Kd.C k62 w A0 l0.length l0) (hc0 : l0.length ≤ c0) (h : wayfarerlaw08_TlvTells.f k l0 a1 = some r) :
    Calls Try.prog 10 #[.slice A0 l0.length c0, .int .i64 a1] w fun e w' => e = .returned (.bool r) ∧ Below w.heap.size w w' := by
  have hu62 := Try.underlying62
  have HR0 := Aside0.mk hr0
  have HC0 := Aside0.mk hc0
  clear hr0 hc0
  have HB := Aside0.mk (Below.refl w.heap.size w)
  have H : ((wayfarerlaw08_head.f).bind fun t268 => (if t268 = true then (if (l0.length : Int) > 40 then (some true) else (wayfarerlaw08_TlvTells.l0 k l0 a1 (([] : List (S62))) (([] : List (S62))) 0)) else (some false))) = some r := h
  clear h
  replace H := Option.bind_eq_some_iff.mp H
  obtain ⟨t268, A30, H⟩ := H
  replace H : (if t268 = true then (if (l0.length : Int) > 40 then (some true) else (wayfarerlaw08_TlvTells.l0 k l0 a1 (([] : List (S62))) (([] : List (S62))) 0)) else (some false)) = some r := H
  have A3 := Aside0.mk A30
  clear A30
  by_cases c4 : t268 = true
  case neg =>
    replace c4 := Bool.eq_false_iff.mpr c4
    subst c4
    have H1 : (some false) = some r := by rw [if_neg (show ¬ (false = true) by decide)] at H; exact H
    clear H
    have H := H1
    clear H1
    obtain rfl := Option.some.inj H
    go_enter Try.func10, Try.ntmps10
    go_wp2_with (first | ((with_reducible refine gate_callee (f := 34) rfl ?_); refine goesL_ (some 17) rfl rfl Try.func34 (by kernel_rfl) rfl #[] rfl (by (try simp only [List.map_toArray, List.map_cons, List.map_nil]); first | done | rfl | (simp only [List.length_drop, List.length_take]; rfl)) ?_; (with_reducible refine (wayfarerlaw08_head.calls  false _ A3.out).mono ?_); rintro e w95 ⟨rfl, hb⟩; refine ⟨_, rfl, ?_⟩; have n0_ := Aside0.mk (below_step (by repeat (first | (with_reducible first | exact HB.out | apply below_alloc | apply pw_below_drewN | apply below_drew1) | exact HB.out)) hb); clear HB; have HB := n0_; clear n0_; (try clear hb); (try clear hb2); (try clear hk); (try clear hi)))
    go_ret
    exact ⟨by first | rfl | (simp [errW_none, errW_some] <;> rfl) | (simp [*, errW_none, errW_some] <;> rfl), by repeat (first | (with_reducible first | exact HB.out | apply below_alloc | apply pw_below_drewN | apply below_drew1) | exact HB.out)⟩

  subst c4
  have H1 : (if (l0.length : Int) > 40 then (some true) else (wayfarerlaw08_TlvTells.l0 k l0 a1 (([] : List (S62))) (([] : List (S62))) 0)) = some r := by rw [if_pos rfl] at H; exact H
  clear H
  have H := H1
  clear H1
  by_cases c5 : (l0.length : Int) > 40
  case pos =>
    rw [if_pos c5] at H; have c5b0 : decide (40 < (l0.length : Int)) = true := decide_eq_true c5
    have c5b1 : decide (40 < l0.length) = true := decide_eq_true (by omega)
    clear c5
    obtain rfl := Option.some.inj H
    go_enter Try.func10, Try.ntmps10
    go_wp2_with (first | ((with_reducible refine gate_callee (f := 34) rfl ?_); refine goesL_ (some 17) rfl rfl Try.func34 (by kernel_rfl) rfl #[] rfl (by (try simp only [List.map_toArray, List.map_cons, List.map_nil]); first | done | rfl | (simp only [List.length_drop, List.length_take]; rfl)) ?_; (with_reducible refine (wayfarerlaw08_head.calls  true _ A3.out).mono ?_); rintro e w6 ⟨rfl, hb⟩; refine ⟨_, rfl, ?_⟩; have n0_ := Aside0.mk (below_step (by repeat (first | (with_reducible first | exact HB.out | apply below_alloc | apply pw_below_drewN | apply below_drew1) | exact HB.out)) hb); clear HB; have HB := n0_; clear n0_; (try clear hb); (try clear hb2); (try clear hk); (try clear hi)))
    go_ret
    exact ⟨by first | rfl | (simp [errW_none, errW_some] <;> rfl) | (simp [*, errW_none, errW_some] <;> rfl), by repeat (first | (with_reducible first | exact HB.out | apply below_alloc | apply pw_below_drewN | apply below_drew1) | exact HB.out)⟩
  rw [if_neg c5] at H; have c5b0 : decide (40 < (l0.length : Int)) = false := decide_eq_false c5
  have c5b1 : decide (40 < l0.length) = false := decide_eq_false (by omega)
  clear c5
  obtain ⟨y269, hy269⟩ : ∃ y_ : List (S62), y_ = (([] : List (S62))) := ⟨_, rfl⟩
  replace H : (wayfarerlaw08_TlvTells.l0 k l0 a1 y269 (([] : List (S62))) 0) = some r := by first | (rw [hy269]; with_reducible exact H) | (have H2_ := (Option.bind_some _ _).symm.trans H; rw [hy269]; with_reducible exact H2_) | (have H2_ := (Option.bind_some _ _).symm.trans H; with_reducible exact H2_) | with_reducible exact H | (rw [hy269]; exact H) | exact H
  have Ny269 := Aside0.mk hy269
  clear hy269
  obtain ⟨y272, hy272⟩ : ∃ y_ : List (S62), y_ = (([] : List (S62))) := ⟨_, rfl⟩
  replace H : (wayfarerlaw08_TlvTells.l0 k l0 a1 y269 y272 0) = some r := by first | (rw [hy272]; with_reducible exact H) | (have H2_ := (Option.bind_some _ _).symm.trans H; rw [hy272]; with_reducible exact H2_) | (have H2_ := (Option.bind_some _ _).symm.trans H; with_reducible exact H2_) | with_reducible exact H | (rw [hy272]; exact H) | exact H
  have Ny272 := Aside0.mk hy272
  clear hy272
  have H' := Aside0.mk H
  clear H
  go_enter Try.func10, Try.ntmps10
  go_wp2_with (first | ((with_reducible refine gate_callee (f := 34) rfl ?_); refine goesL_ (some 17) rfl rfl Try.func34 (by kernel_rfl) rfl #[] rfl (by (try simp only [List.map_toArray, List.map_cons, List.map_nil]); first | done | rfl | (simp only [List.length_drop, List.length_take]; rfl)) ?_; (with_reducible refine (wayfarerlaw08_head.calls  true _ A3.out).mono ?_); rintro e w7 ⟨rfl, hb⟩; refine ⟨_, rfl, ?_⟩; have n0_ := Aside0.mk (below_step (by repeat (first | (with_reducible first | exact HB.out | apply below_alloc | apply pw_below_drewN | apply below_drew1) | exact HB.out)) hb); clear HB; have HB := n0_; clear n0_; (try clear hb); (try clear hb2); (try clear hk); (try clear hi)) | ((with_reducible refine gate_dst (N := 22) rfl ?_); (try (refine gate_guard (by rfl) ?_; dsimp only)); refine Kd.R_lit k62 _ 62 ?hg (N := 22) ?hd (xs := ([] : List (S62))) (inner := []) (ok := fun _ => True) (okp := fun _ => True) ?hr ?hp (fun _ hk => hk) trivial (Below.refl _ _) (Nat.le_refl _) (by simp) ?_; (case hd => rfl); (case hg => rfl); (case hr => first | (go_simp; done) | (go_simp; rfl)); (case hp => exact (Reps.none _ _)); intro v270 w8 ho9 hb hg_ hnew_; clear hg_ hnew_; (first | rw [← Ny269.out] at ho9 | (simp only [Int.reduceToNat] at ho9; rw [← Ny269.out] at ho9)); have n0_ := Aside0.mk (Kd.R_lower ho9 (below_size (by repeat (first | (with_reducible first | exact HB.out | apply below_alloc | apply pw_below_drewN | apply below_drew1) | exact HB.out)))); have n1_ := Aside0.mk (below_step (by repeat (first | (with_reducible first | exact HB.out | apply below_alloc | apply pw_below_drewN | apply below_drew1) | exact HB.out)) hb); clear HB; have HO271 := n0_; have HB := n1_; clear n0_ n1_; clear hb ho9) | ((with_reducible refine gate_dst (N := 23) rfl ?_); (try (refine gate_guard (by rfl) ?_; dsimp only)); refine Kd.R_lit k62 _ 62 ?hg (N := 23) ?hd (xs := ([] : List (S62))) (inner := []) (ok := fun _ => True) (okp := fun _ => True) ?hr ?hp (fun _ hk => hk) trivial (Below.refl _ _) (Nat.le_refl _) (by simp) ?_; (case hd => rfl); (case hg => rfl); (case hr => first | (go_simp; done) | (go_simp; rfl)); (case hp => exact (Reps.none _ _)); intro v273 w10 ho11 hb hg_ hnew_; clear hg_ hnew_; (first | rw [← Ny272.out] at ho11 | (simp only [Int.reduceToNat] at ho11; rw [← Ny272.out] at ho11)); have n0_ := Aside0.mk (Kd.R_elder' (by (with_reducible repeat (first | apply Kd.R_alloc | apply Kd.R_drewN | apply Kd.R_drew)); exact HO271.out) (Kd.R_base ho11) hb); have n1_ := Aside0.mk (Kd.R_lower (Kd.R_new' ho11 (Kd.R_lt (by (with_reducible repeat (first | apply Kd.R_alloc | apply Kd.R_drewN | apply Kd.R_drew)); exact HO271.out))) (below_size (by repeat (first | (with_reducible first | exact HB.out | apply below_alloc | apply pw_below_drewN | apply below_drew1) | exact HB.out)))); have n2_ := Aside0.mk (below_step (by repeat (first | (with_reducible first | exact HB.out | apply below_alloc | apply pw_below_drewN | apply below_drew1) | exact HB.out)) hb); clear HO271; clear HB; have HO271 := n0_; have HO274 := n1_; have HB := n2_; clear n0_ n1_ n2_; clear hb ho11))
  go_loopg [5, 7] k (fun kq v5 v7 w' => ∃ (x5_1 : List (S62)) (x7_1 : Int), v7 = .int .i64 x7_1 ∧ Aside0 (wayfarerlaw08_TlvTells.l0 kq l0 a1 x5_1 y272 x7_1 = some r) ∧ Aside0 (kq ≤ k) ∧ Aside0 (Kd.R k62 62 w' w.heap.size (fun k_ => some k_ ≠ (v273 : Value).ownBlock) v5 x5_1) ∧ Aside0 (Kd.R k62 62 w' w.heap.size (fun k_ => some k_ ≠ (v5 : Value).ownBlock) v273 y272) ∧ Aside0 (Below w.heap.size w w'))
  case atStart => exact ⟨(y269), (0), (by first | rfl | (simp; done) | (simp [*]; done)), H', ⟨Nat.le_refl _⟩, ⟨by (with_reducible repeat (first | apply Kd.R_alloc | apply Kd.R_drewN | apply Kd.R_drew)); exact Kd.R_mono HO271.out (fun _ hk => hk.2)⟩, ⟨by (with_reducible repeat (first | apply Kd.R_alloc | apply Kd.R_drewN | apply Kd.R_drew)); exact Kd.R_mono HO274.out (fun _ hk => hk.2)⟩, ⟨by repeat (first | (with_reducible first | exact HB.out | apply below_alloc | apply pw_below_drewN | apply below_drew1) | exact HB.out)⟩⟩
  case round =>
    clear H'
    try clear c1; try clear p2; try clear c3; try clear c4; try clear c5; try clear c5b0; try clear c5b1; try clear c10
    obtain ⟨x5_1, x7_1, rfl, HA, HK1, HO_5, HO_6, HB⟩ := hrel
    cases gk with
    | zero => exact absurd HA.out (by simp [wayfarerlaw08_TlvTells.l0])
    | succ k1 =>
      have H := HA.out
      clear HA
      simp only [wayfarerlaw08_TlvTells.l0] at H
      by_cases c12 : x7_1 < (wrap64 (1 + (Go.bits .and .i64 a1 7)))
      case pos =>
        rw [if_pos c12] at H; have c12b0 : decide (x7_1 < (wrap64 (1 + (Go.bits .and .i64 a1 7)))) = true := decide_eq_true c12
        clear c12
        by_cases c13 : x5_1.length + l0.length < 4398046511104
        case neg =>
          rw [if_neg c13] at H; exact absurd H (by simp)
        rw [if_pos c13] at H; have LMc13 := Aside0.mk c13
        clear c13
        obtain ⟨y275, hy275⟩ : ∃ y_ : List (S62), y_ = (x5_1 ++ l0) := ⟨_, rfl⟩
        replace H : (wayfarerlaw08_TlvTells.l0 k1 l0 a1 y275 y272 (wrap64 (x7_1 + 1))) = some r := by first | (rw [hy275]; with_reducible exact H) | (have H2_ := (Option.bind_some _ _).symm.trans H; rw [hy275]; with_reducible exact H2_) | (have H2_ := (Option.bind_some _ _).symm.trans H; with_reducible exact H2_) | with_reducible exact H | (rw [hy275]; exact H) | exact H
        have Ny275 := Aside0.mk hy275
        clear hy275
        have H' := Aside0.mk H
        clear H
        go_wp2_with (first | ((with_reducible refine gate_builtin (b := .append) (xs := #[.tmp 31, .tmp 32]) rfl ?_); (try (refine gate_guard (by rfl) ?_; dsimp only)); at_builtin; refine Kd.R_append_rows k62 (w0 := w) w.heap.size rfl (.tmp 31) (.tmp 32) 60 62 (.agg #[(.int .u32 0), (.int .i64 0), (.int .u32 0), (.int .u32 0), (.int .u16 0)]) 32 rfl Try.underlying60 info62 rfl (by decide) (by omega) u5 x5_1 l0 _ _ _ (fun k_ => some k_ ≠ (v273 : Value).ownBlock) (fun _ => False) rfl rfl ?aO ?aR (fun _ _ h => h) (fun _ h => h.elim) ?aF ?aB ?aS ?aL ?_; (case aR => repeat (first | exact (Kd.C_below HR0.out HB.out) | (with_reducible refine Kd.C_alloc ?_ _) | (with_reducible refine Kd.C_drewN ?_ _) | (with_reducible refine Kd.C_drew ?_))); (case aB => exact (by repeat (first | (with_reducible first | exact HB.out | apply below_alloc | apply pw_below_drewN | apply below_drew1) | exact HB.out))); (case aF => exact (fun k_ hk => Kd.fresh' (Kd.R_lt (by (with_reducible repeat (first | apply Kd.R_alloc | apply Kd.R_drewN | apply Kd.R_drew)); exact HO_6.out)) k_ hk)); (case aO => exact (by (with_reducible repeat (first | apply Kd.R_alloc | apply Kd.R_drewN | apply Kd.R_drew)); exact HO_5.out)); (case aS => exact (below_size (by repeat (first | (with_reducible first | exact HB.out | apply below_alloc | apply pw_below_drewN | apply below_drew1) | exact HB.out)))); (case aL => have := LMc13.out; omega); intro v276 w14 ho hb hg hat; rw [← Ny275.out] at ho; have n0_ := Aside0.mk (Kd.R_after (ok := (fun _ => True)) (by (with_reducible repeat (first | apply Kd.R_alloc | apply Kd.R_drewN | apply Kd.R_drew)); exact Kd.R_mono HO_6.out (fun _ hk => ⟨trivial, hk⟩)) hg hat); have n1_ := Aside0.mk (hb); have n2_ := Aside0.mk (ho); clear HO_6; clear HB; clear HO_5; have HO_6 := n0_; have HB := n1_; have HO277 := n2_; clear n0_ n1_ n2_; clear ho hb hg hat))
        go_roundg k1
        case measure => have := HK1.out; omega
        case rel => exact ⟨(y275), (wrap64 (x7_1 + 1)), (by first | rfl | (simp; done) | (simp [*]; done)), H', ⟨by have := HK1.out; omega⟩, ⟨by (with_reducible repeat (first | apply Kd.R_alloc | apply Kd.R_drewN | apply Kd.R_drew)); exact HO277.out⟩, ⟨by (with_reducible repeat (first | apply Kd.R_alloc | apply Kd.R_drewN | apply Kd.R_drew)); exact Kd.R_mono HO_6.out (fun _ hk => hk.2)⟩, ⟨by repeat (first | (with_reducible first | exact HB.out | apply below_alloc | apply pw_below_drewN | apply below_drew1) | exact HB.out)⟩⟩
      rw [if_neg c12] at H; have c12b0 : decide (x7_1 < (wrap64 (1 + (Go.bits .and .i64 a1 7)))) = false := decide_eq_false c12
      clear c12
      have H' := Aside0.mk H
      clear H
      obtain ⟨Ao15, co15, eo15⟩ := Kd.R_slice HO_5.out
      subst eo15
      go_wp2
      go_loopg [6, 36] k1 (fun kq v6 v36 w' => ∃ (x6_2 : List (S62)) (x36_2 : Int), v36 = .int .i64 x36_2 ∧ Aside0 (wayfarerlaw08_TlvTells.l1 kq x5_1 x6_2 x5_1 (x5_1.length : Int) x36_2 = some r) ∧ Aside0 (kq ≤ k1) ∧ Aside0 (Kd.R k62 62 w' w.heap.size (fun k_ => some k_ ≠ (v6 : Value).ownBlock) (.slice Ao15 x5_1.length co15) x5_1) ∧ Aside0 (Kd.R k62 62 w' w.heap.size (fun k_ => some k_ ≠ ((.slice Ao15 x5_1.length co15) : Value).ownBlock ∧ some k_ ≠ ((.slice Ao15 x5_1.length co15) : Value).ownBlock) v6 x6_2) ∧ Aside0 (Kd.R k62 62 w' w.heap.size (fun k_ => some k_ ≠ (v6 : Value).ownBlock) (.slice Ao15 x5_1.length co15) x5_1) ∧ Aside0 (Below w.heap.size w w'))
      case atStart => exact ⟨(y272), (0), (by first | rfl | (simp; done) | (simp [*]; done)), H', ⟨Nat.le_refl _⟩, ⟨by (with_reducible repeat (first | apply Kd.R_alloc | apply Kd.R_drewN | apply Kd.R_drew)); exact HO_5.out⟩, ⟨by (with_reducible repeat (first | apply Kd.R_alloc | apply Kd.R_drewN | apply Kd.R_drew)); exact Kd.R_mono HO_6.out (fun _ hk => ⟨hk, hk⟩)⟩, ⟨by (with_reducible repeat (first | apply Kd.R_alloc | apply Kd.R_drewN | apply Kd.R_drew)); exact HO_5.out⟩, ⟨by repeat (first | (with_reducible first | exact HB.out | apply below_alloc | apply pw_below_drewN | apply below_drew1) | exact HB.out)⟩⟩
      case round =>
        clear H'
        try clear c1; try clear p2; try clear c3; try clear c4; try clear c5; try clear c5b0; try clear c5b1; try clear p6; try clear c10; try clear c12; try clear c12b0; try clear c13; try clear p2
        obtain ⟨x6_2, x36_2, rfl, HA, HK2, HO_5, HO_6, HO_34, HB⟩ := hrel
        cases gk with
        | zero => exact absurd HA.out (by simp [wayfarerlaw08_TlvTells.l1])
        | succ k2 =>
          have H := HA.out
          clear HA
          simp only [wayfarerlaw08_TlvTells.l1] at H
          by_cases c16 : x36_2 < (x5_1.length : Int)
          case pos =>
            rw [if_pos c16] at H; have c16b0 : decide (x36_2 < (x5_1.length : Int)) = true := decide_eq_true c16
            clear c16
            by_cases c17 : 0 ≤ x36_2
            case neg =>
              rw [if_neg c17] at H; exact absurd H (by simp)
            rw [if_pos c17] at H; have c17b0 : decide (0 ≤ x36_2) = true := decide_eq_true c17
            clear c17
            by_cases c18 : x36_2 < (x5_1.length : Int)
            case neg =>
              rw [if_neg c18] at H; exact absurd H (by simp)
            rw [if_pos c18] at H; have c18b0 : decide (x36_2 < (x5_1.length : Int)) = true := decide_eq_true c18
            clear c18
            replace H := Option.bind_eq_some_iff.mp H
            obtain ⟨t280, A190, H⟩ := H
            replace H : ((wayfarerlaw08_Right.f k2 ((rd_T62 x5_1 x36_2).f0.f0) ((rd_T62 x5_1 x36_2).f0.f1) ((rd_T62 x5_1 x36_2).f1) ((rd_T62 x5_1 x36_2).f2.f0) ((rd_T62 x5_1 x36_2).f2.f1)).bind fun t281 => (if (t280 != t281) = true then (some false) else ((wayfarerlaw08_Right.f k2 ((rd_T62 x5_1 x36_2).f0.f0) ((rd_T62 x5_1 x36_2).f0.f1) ((rd_T62 x5_1 x36_2).f1) ((rd_T62 x5_1 x36_2).f2.f0) ((rd_T62 x5_1 x36_2).f2.f1)).bind fun t282 => (if t282 = true then (if x6_2.length < 4398046511104 then (wayfarerlaw08_TlvTells.l1 k2 x5_1 (x6_2 ++ [(⟨(⟨(rd_T62 x5_1 x36_2).f0.f0, (rd_T62 x5_1 x36_2).f0.f1⟩ : S29), (rd_T62 x5_1 x36_2).f1, (⟨(rd_T62 x5_1 x36_2).f2.f0, (rd_T62 x5_1 x36_2).f2.f1⟩ : S39)⟩ : S62)]) x5_1 (x5_1.length : Int) (wrap64 (x36_2 + 1))) else (none)) else (wayfarerlaw08_TlvTells.l1 k2 x5_1 x6_2 x5_1 (x5_1.length : Int) (wrap64 (x36_2 + 1))))))) = some r := H
            have A19 := Aside0.mk A190
            clear A190
            replace H := Option.bind_eq_some_iff.mp H
            obtain ⟨t281, A200, H⟩ := H
            replace H : (if (t280 != t281) = true then (some false) else ((wayfarerlaw08_Right.f k2 ((rd_T62 x5_1 x36_2).f0.f0) ((rd_T62 x5_1 x36_2).f0.f1) ((rd_T62 x5_1 x36_2).f1) ((rd_T62 x5_1 x36_2).f2.f0) ((rd_T62 x5_1 x36_2).f2.f1)).bind fun t282 => (if t282 = true then (if x6_2.length < 4398046511104 then (wayfarerlaw08_TlvTells.l1 k2 x5_1 (x6_2 ++ [(⟨(⟨(rd_T62 x5_1 x36_2).f0.f0, (rd_T62 x5_1 x36_2).f0.f1⟩ : S29), (rd_T62 x5_1 x36_2).f1, (⟨(rd_T62 x5_1 x36_2).f2.f0, (rd_T62 x5_1 x36_2).f2.f1⟩ : S39)⟩ : S62)]) x5_1 (x5_1.length : Int) (wrap64 (x36_2 + 1))) else (none)) else (wayfarerlaw08_TlvTells.l1 k2 x5_1 x6_2 x5_1 (x5_1.length : Int) (wrap64 (x36_2 + 1)))))) = some r := H
            have A20 := Aside0.mk A200
            clear A200
            by_cases c21 : (t280 != t281) = true
            case pos =>
              rw [if_pos c21] at H; have c21b0 : (t280 != t281) = true := c21
              (try (have c21b1 : decide (t280 = t281) = false := by simpa using c21))
              (try (have c21b2 : (t280 == t281) = false := by simpa using c21))
              (try (have c21b3 : ¬ (t280 = t281) := by simpa using c21))
              clear c21
              obtain rfl := Option.some.inj H
              have p278 : 0 ≤ (x36_2 : Int) := of_decide_eq_true (by first | (with_reducible assumption) | assumption)
              have q278 : x36_2 < (x5_1.length : Int) := of_decide_eq_true (by first | (with_reducible assumption) | assumption)
              obtain ⟨ad278, e278, hx278_0, hx278_1, hx278_2, hx278_3, hx278_4⟩ := at_T62 (Kd.R_reads' HO_34.out).2.2 x36_2 p278 q278
              cases e278
              replace p278 := eq_true p278
              replace q278 := eq_true q278
              try go_wp2_with (first | ((with_reducible refine gate_dst (N := 9) rfl ?_); (try (refine gate_guard (by rfl) ?_; dsimp only)); refine box_event ?hg (N := 9) ?hd (cs := #[.int .u32 0, .int .i64 0, .int .u32 0, .int .u32 0, .int .u16 0]) (t := 62) ?hr ?_; (case hd => rfl); (case hg => rfl); (case hr => first | (go_simp; done) | (go_simp; rfl)); intro gb279 hg w22 hbox hb; have n0_ := Aside0.mk (Kd.R_below (Kd.R_elderB (by (with_reducible repeat (first | apply Kd.R_alloc | apply Kd.R_drewN | apply Kd.R_drew)); exact HO_5.out) gb279 (Nat.le_of_eq hg.symm)) hb); have n1_ := Aside0.mk (Kd.R_below (Kd.R_elderB (by (with_reducible repeat (first | apply Kd.R_alloc | apply Kd.R_drewN | apply Kd.R_drew)); exact HO_6.out) gb279 (Nat.le_of_eq hg.symm)) hb); have n2_ := Aside0.mk (Kd.R_below (Kd.R_elderB (by (with_reducible repeat (first | apply Kd.R_alloc | apply Kd.R_drewN | apply Kd.R_drew)); exact HO_34.out) gb279 (Nat.le_of_eq hg.symm)) hb); have n3_ := Aside0.mk (below_step (by repeat (first | (with_reducible first | exact HB.out | apply below_alloc | apply pw_below_drewN | apply below_drew1) | exact HB.out)) hb); have n4_ := Aside0.mk (hbox); have n5_ := Aside0.mk ((by rw [hg]; exact (below_size (by repeat (first | (with_reducible first | exact HB.out | apply below_alloc | apply pw_below_drewN | apply below_drew1) | exact HB.out))) : w.heap.size ≤ gb279)); have n6_ := Aside0.mk ((by rw [hg]; exact (below_size (by repeat (first | (with_reducible first | exact HB.out | apply below_alloc | apply pw_below_drewN | apply below_drew1) | exact HB.out))) : w.heap.size ≤ gb279)); clear HO_5; clear HO_6; clear HO_34; clear HB; have HO_5 := n0_; have HO_6 := n1_; have HO_34 := n2_; have HB := n3_; have BK279 := n4_; have GW279 := n5_; have GE279 := n6_; clear n0_ n1_ n2_ n3_ n4_ n5_ n6_; clear hb hbox hg; have hcz23_0 : w22.cell? ⟨gb279, 0, none⟩ = some (.int .u32 0) := (blk_cell BK279.out 0).trans rfl; have hcz23_1 : w22.cell? ⟨gb279, 1, none⟩ = some (.int .i64 0) := (blk_cell BK279.out 1).trans rfl; have hcz23_2 : w22.cell? ⟨gb279, 2, none⟩ = some (.int .u32 0) := (blk_cell BK279.out 2).trans rfl; have hcz23_3 : w22.cell? ⟨gb279, 3, none⟩ = some (.int .u32 0) := (blk_cell BK279.out 3).trans rfl; have hcz23_4 : w22.cell? ⟨gb279, 4, none⟩ = some (.int .u16 0) := (blk_cell BK279.out 4).trans rfl; have hfz23_0 := blk_frozen BK279.out 0; have hfz23_1 := blk_frozen BK279.out 1; have hfz23_2 := blk_frozen BK279.out 2; have hfz23_3 := blk_frozen BK279.out 3; have hfz23_4 := blk_frozen BK279.out 4))
              have n0_ : Aside0 (Kd.R k62 62 (((((w22.setCell ⟨gb279, 0, none⟩ (.int .u32 ((rd_T62 x5_1 x36_2).f0.f0))).setCell ⟨gb279, 1, none⟩ (.int .i64 ((rd_T62 x5_1 x36_2).f0.f1))).setCell ⟨gb279, 2, none⟩ (.int .u32 ((rd_T62 x5_1 x36_2).f1))).setCell ⟨gb279, 3, none⟩ (.int .u32 ((rd_T62 x5_1 x36_2).f2.f0))).setCell ⟨gb279, 4, none⟩ (.int .u16 ((rd_T62 x5_1 x36_2).f2.f1))) w.heap.size (fun k_ => some k_ ≠ (u6 : Value).ownBlock ∧ k_ ≠ gb279) (.slice (some ad278) x5_1.length co15) x5_1) := ⟨by (with_reducible repeat (first | apply Kd.R_alloc | apply Kd.R_drewN | apply Kd.R_drew)); exact Kd.R_mono (Kd.R_far (p := ⟨gb279, 4, none⟩) (Kd.R_far (p := ⟨gb279, 3, none⟩) (Kd.R_far (p := ⟨gb279, 2, none⟩) (Kd.R_far (p := ⟨gb279, 1, none⟩) (Kd.R_far (p := ⟨gb279, 0, none⟩) (Kd.R_mono HO_5.out (fun k_ hk => (⟨hk, hk.2⟩ : _ ∧ k_ ≠ gb279))) (fun _ hk => hk.2) (.int .u32 ((rd_T62 x5_1 x36_2).f0.f0))) (fun _ hk => hk.2) (.int .i64 ((rd_T62 x5_1 x36_2).f0.f1))) (fun _ hk => hk.2) (.int .u32 ((rd_T62 x5_1 x36_2).f1))) (fun _ hk => hk.2) (.int .u32 ((rd_T62 x5_1 x36_2).f2.f0))) (fun _ hk => hk.2) (.int .u16 ((rd_T62 x5_1 x36_2).f2.f1))) (fun _ hk => ⟨hk.1.1, hk.1.2⟩)⟩
              have n1_ : Aside0 (Kd.R k62 62 (((((w22.setCell ⟨gb279, 0, none⟩ (.int .u32 ((rd_T62 x5_1 x36_2).f0.f0))).setCell ⟨gb279, 1, none⟩ (.int .i64 ((rd_T62 x5_1 x36_2).f0.f1))).setCell ⟨gb279, 2, none⟩ (.int .u32 ((rd_T62 x5_1 x36_2).f1))).setCell ⟨gb279, 3, none⟩ (.int .u32 ((rd_T62 x5_1 x36_2).f2.f0))).setCell ⟨gb279, 4, none⟩ (.int .u16 ((rd_T62 x5_1 x36_2).f2.f1))) w.heap.size (fun k_ => some k_ ≠ (.slice (some ad278) x5_1.length co15 : Value).ownBlock ∧ some k_ ≠ (.slice (some ad278) x5_1.length co15 : Value).ownBlock ∧ k_ ≠ gb279) u6 x6_2) := ⟨by (with_reducible repeat (first | apply Kd.R_alloc | apply Kd.R_drewN | apply Kd.R_drew)); exact Kd.R_mono (Kd.R_far (p := ⟨gb279, 4, none⟩) (Kd.R_far (p := ⟨gb279, 3, none⟩) (Kd.R_far (p := ⟨gb279, 2, none⟩) (Kd.R_far (p := ⟨gb279, 1, none⟩) (Kd.R_far (p := ⟨gb279, 0, none⟩) (Kd.R_mono HO_6.out (fun k_ hk => (⟨hk, hk.2⟩ : _ ∧ k_ ≠ gb279))) (fun _ hk => hk.2) (.int .u32 ((rd_T62 x5_1 x36_2).f0.f0))) (fun _ hk => hk.2) (.int .i64 ((rd_T62 x5_1 x36_2).f0.f1))) (fun _ hk => hk.2) (.int .u32 ((rd_T62 x5_1 x36_2).f1))) (fun _ hk => hk.2) (.int .u32 ((rd_T62 x5_1 x36_2).f2.f0))) (fun _ hk => hk.2) (.int .u16 ((rd_T62 x5_1 x36_2).f2.f1))) (fun _ hk => ⟨hk.1.1.1, ⟨hk.1.1.2, hk.1.2⟩⟩)⟩
              have n2_ : Aside0 (Kd.R k62 62 (((((w22.setCell ⟨gb279, 0, none⟩ (.int .u32 ((rd_T62 x5_1 x36_2).f0.f0))).setCell ⟨gb279, 1, none⟩ (.int .i64 ((rd_T62 x5_1 x36_2).f0.f1))).setCell ⟨gb279, 2, none⟩ (.int .u32 ((rd_T62 x5_1 x36_2).f1))).setCell ⟨gb279, 3, none⟩ (.int .u32 ((rd_T62 x5_1 x36_2).f2.f0))).setCell ⟨gb279, 4, none⟩ (.int .u16 ((rd_T62 x5_1 x36_2).f2.f1))) w.heap.size (fun k_ => some k_ ≠ (u6 : Value).ownBlock ∧ k_ ≠ gb279) (.slice (some ad278) x5_1.length co15) x5_1) := ⟨by (with_reducible repeat (first | apply Kd.R_alloc | apply Kd.R_drewN | apply Kd.R_drew)); exact Kd.R_mono (Kd.R_far (p := ⟨gb279, 4, none⟩) (Kd.R_far (p := ⟨gb279, 3, none⟩) (Kd.R_far (p := ⟨gb279, 2, none⟩) (Kd.R_far (p := ⟨gb279, 1, none⟩) (Kd.R_far (p := ⟨gb279, 0, none⟩) (Kd.R_mono HO_34.out (fun k_ hk => (⟨hk, hk.2⟩ : _ ∧ k_ ≠ gb279))) (fun _ hk => hk.2) (.int .u32 ((rd_T62 x5_1 x36_2).f0.f0))) (fun _ hk => hk.2) (.int .i64 ((rd_T62 x5_1 x36_2).f0.f1))) (fun _ hk => hk.2) (.int .u32 ((rd_T62 x5_1 x36_2).f1))) (fun _ hk => hk.2) (.int .u32 ((rd_T62 x5_1 x36_2).f2.f0))) (fun _ hk => hk.2) (.int .u16 ((rd_T62 x5_1 x36_2).f2.f1))) (fun _ hk => ⟨hk.1.1, hk.1.2⟩)⟩
              have n3_ : Aside0 ((((((w22.setCell ⟨gb279, 0, none⟩ (.int .u32 ((rd_T62 x5_1 x36_2).f0.f0))).setCell ⟨gb279, 1, none⟩ (.int .i64 ((rd_T62 x5_1 x36_2).f0.f1))).setCell ⟨gb279, 2, none⟩ (.int .u32 ((rd_T62 x5_1 x36_2).f1))).setCell ⟨gb279, 3, none⟩ (.int .u32 ((rd_T62 x5_1 x36_2).f2.f0))).setCell ⟨gb279, 4, none⟩ (.int .u16 ((rd_T62 x5_1 x36_2).f2.f1))).heap[gb279]? = some (.cells #[.int .u32 ((rd_T62 x5_1 x36_2).f0.f0), .int .i64 ((rd_T62 x5_1 x36_2).f0.f1), .int .u32 ((rd_T62 x5_1 x36_2).f1), .int .u32 ((rd_T62 x5_1 x36_2).f2.f0), .int .u16 ((rd_T62 x5_1 x36_2).f2.f1)] 62 (0, 0))) := ⟨by (with_reducible repeat (first | refine blk_drewN ?_ _ | refine blk_drew ?_ | refine blk_alloc ?_ _)); refine blk_put (cs := #[.int .u32 ((rd_T62 x5_1 x36_2).f0.f0), .int .i64 ((rd_T62 x5_1 x36_2).f0.f1), .int .u32 ((rd_T62 x5_1 x36_2).f1), .int .u32 ((rd_T62 x5_1 x36_2).f2.f0), .int .u16 0]) ?_ 4 _ rfl; (with_reducible repeat (first | refine blk_drewN ?_ _ | refine blk_drew ?_ | refine blk_alloc ?_ _)); refine blk_put (cs := #[.int .u32 ((rd_T62 x5_1 x36_2).f0.f0), .int .i64 ((rd_T62 x5_1 x36_2).f0.f1), .int .u32 ((rd_T62 x5_1 x36_2).f1), .int .u32 0, .int .u16 0]) ?_ 3 _ rfl; (with_reducible repeat (first | refine blk_drewN ?_ _ | refine blk_drew ?_ | refine blk_alloc ?_ _)); refine blk_put (cs := #[.int .u32 ((rd_T62 x5_1 x36_2).f0.f0), .int .i64 ((rd_T62 x5_1 x36_2).f0.f1), .int .u32 0, .int .u32 0, .int .u16 0]) ?_ 2 _ rfl; (with_reducible repeat (first | refine blk_drewN ?_ _ | refine blk_drew ?_ | refine blk_alloc ?_ _)); refine blk_put (cs := #[.int .u32 ((rd_T62 x5_1 x36_2).f0.f0), .int .i64 0, .int .u32 0, .int .u32 0, .int .u16 0]) ?_ 1 _ rfl; (with_reducible repeat (first | refine blk_drewN ?_ _ | refine blk_drew ?_ | refine blk_alloc ?_ _)); refine blk_put (cs := #[.int .u32 0, .int .i64 0, .int .u32 0, .int .u32 0, .int .u16 0]) ?_ 0 _ rfl; (with_reducible repeat (first | refine blk_drewN ?_ _ | refine blk_drew ?_ | refine blk_alloc ?_ _)); exact BK279.out⟩
              have n4_ : Aside0 (Below w.heap.size w (((((w22.setCell ⟨gb279, 0, none⟩ (.int .u32 ((rd_T62 x5_1 x36_2).f0.f0))).setCell ⟨gb279, 1, none⟩ (.int .i64 ((rd_T62 x5_1 x36_2).f0.f1))).setCell ⟨gb279, 2, none⟩ (.int .u32 ((rd_T62 x5_1 x36_2).f1))).setCell ⟨gb279, 3, none⟩ (.int .u32 ((rd_T62 x5_1 x36_2).f2.f0))).setCell ⟨gb279, 4, none⟩ (.int .u16 ((rd_T62 x5_1 x36_2).f2.f1)))) := ⟨by repeat (first | (with_reducible first | exact HB.out | apply below_alloc | apply pw_below_drewN | apply below_drew1 | refine below_set ?_ GE279.out) | exact HB.out)⟩
              (try clear HO_5)
              (try clear HO_6)
              (try clear HO_34)
              (try clear BK279)
              (try clear HB)
              generalize (((((w22.setCell ⟨gb279, 0, none⟩ (.int .u32 ((rd_T62 x5_1 x36_2).f0.f0))).setCell ⟨gb279, 1, none⟩ (.int .i64 ((rd_T62 x5_1 x36_2).f0.f1))).setCell ⟨gb279, 2, none⟩ (.int .u32 ((rd_T62 x5_1 x36_2).f1))).setCell ⟨gb279, 3, none⟩ (.int .u32 ((rd_T62 x5_1 x36_2).f2.f0))).setCell ⟨gb279, 4, none⟩ (.int .u16 ((rd_T62 x5_1 x36_2).f2.f1))) = w24 at n0_ n1_ n2_ n3_ n4_ ⊢
              have HO_5 := n0_
              have HO_6 := n1_
              have HO_34 := n2_
              have BK279 := n3_
              have HB := n4_
              clear n0_ n1_ n2_ n3_ n4_
              have n0_ := Aside0.mk (Kd.R_drew HO_5.out)
              have n1_ := Aside0.mk (Kd.R_drew HO_6.out)
              have n2_ := Aside0.mk (Kd.R_drew HO_34.out)
              have n3_ := Aside0.mk (blk_drew BK279.out)
              have n4_ := Aside0.mk (below_drew1 HB.out)
              clear HO_5
              clear HO_6
              clear HO_34
              clear BK279
              clear HB
              have HO_5 := n0_
              have HO_6 := n1_
              have HO_34 := n2_
              have BK279 := n3_
              have HB := n4_
              clear n0_ n1_ n2_ n3_ n4_
              refine start_ (n := 5) (S := fun w' => w'.cell? ⟨gb279, 0, none⟩ = some (.int .u32 ((rd_T62 x5_1 x36_2).f0.f0)) ∧ w'.cell? ⟨gb279, 1, none⟩ = some (.int .i64 ((rd_T62 x5_1 x36_2).f0.f1)) ∧ w'.cell? ⟨gb279, 2, none⟩ = some (.int .u32 ((rd_T62 x5_1 x36_2).f1)) ∧ w'.cell? ⟨gb279, 3, none⟩ = some (.int .u32 ((rd_T62 x5_1 x36_2).f2.f0)) ∧ w'.cell? ⟨gb279, 4, none⟩ = some (.int .u16 ((rd_T62 x5_1 x36_2).f2.f1))) (ds := []) #[false, false, false, false, false] (by kernel_rfl) rfl rfl ⟨(blk_cell BK279.out 0).trans rfl, (blk_cell BK279.out 1).trans rfl, (blk_cell BK279.out 2).trans rfl, (blk_cell BK279.out 3).trans rfl, (blk_cell BK279.out 4).trans rfl⟩ (fun hHeld => ?_)
              generalize w24.drew = w25 at HO_5 HO_6 HO_34 BK279 HB hHeld ⊢
              refine take_ (i := 0) (N := some 40) (v := ?_) (a' := ?_) #[true, false, false, false, false] rfl rfl (by kernel_rfl) (fun _ _ _ h => h) (Or.inl ⟨by rfl, ?_⟩) hHeld ?_ ?_; rotate_left
              · rintro w' ⟨s0, s1, s2, s3, s4⟩
                go_simp
                with_reducible rfl
              rotate_left
              · simp only [Act.put, List.setIfInBounds_toArray, List.set_cons_zero, List.set_cons_succ, i64_w, i32_w]; rfl
              refine take_ (i := 2) (N := some 42) (v := ?_) (a' := ?_) #[true, false, true, false, false] rfl rfl (by kernel_rfl) (fun _ _ _ h => h) (Or.inl ⟨by rfl, ?_⟩) hHeld ?_ ?_; rotate_left
              · rintro w' ⟨s0, s1, s2, s3, s4⟩
                go_simp
                with_reducible rfl
              rotate_left
              · simp only [Act.put, List.setIfInBounds_toArray, List.set_cons_zero, List.set_cons_succ, i64_w, i32_w]; rfl
              refine one_ (i := 1) (N := some 41) #[true, true, true, false, false] rfl rfl (by kernel_rfl) (by decide) (fun K hK => ?_)
              refine goes_ Try.func35 (by kernel_rfl) rfl #[.agg #[.int .u32 ((rd_T62 x5_1 x36_2).f0.f0), .int .i64 ((rd_T62 x5_1 x36_2).f0.f1), .int .u32 ((rd_T62 x5_1 x36_2).f1), .int .u32 ((rd_T62 x5_1 x36_2).f2.f0), .int .u16 ((rd_T62 x5_1 x36_2).f2.f1)]] (by rfl) rfl rfl (by (try simp only [List.map_toArray, List.map_cons, List.map_nil]); first | done | rfl | (simp only [List.length_drop, List.length_take]; rfl)) ?_
              with_reducible refine (tlv_Update_Right.calls ((rd_T62 x5_1 x36_2).f0.f0) ((rd_T62 x5_1 x36_2).f0.f1) ((rd_T62 x5_1 x36_2).f1) ((rd_T62 x5_1 x36_2).f2.f0) ((rd_T62 x5_1 x36_2).f2.f1) t280 _ A19.out).mono ?_
              rintro e w26 ⟨rfl, hb⟩
              refine ⟨_, rfl, ?_⟩
              have n0_ := Aside0.mk (Kd.R_below (by (with_reducible repeat (first | apply Kd.R_alloc | apply Kd.R_drewN | apply Kd.R_drew)); exact HO_5.out) hb)
              have n1_ := Aside0.mk (Kd.R_below (by (with_reducible repeat (first | apply Kd.R_alloc | apply Kd.R_drewN | apply Kd.R_drew)); exact HO_6.out) hb)
              have n2_ := Aside0.mk (Kd.R_below (by (with_reducible repeat (first | apply Kd.R_alloc | apply Kd.R_drewN | apply Kd.R_drew)); exact HO_34.out) hb)
              have n3_ := Aside0.mk (blk_below (g := gb279) (o := .cells #[.int .u32 ((rd_T62 x5_1 x36_2).f0.f0), .int .i64 ((rd_T62 x5_1 x36_2).f0.f1), .int .u32 ((rd_T62 x5_1 x36_2).f1), .int .u32 ((rd_T62 x5_1 x36_2).f2.f0), .int .u16 ((rd_T62 x5_1 x36_2).f2.f1)] 62 (0, 0)) (by (with_reducible repeat (first | refine blk_drewN ?_ _ | refine blk_drew ?_ | refine blk_alloc ?_ _)); exact BK279.out) hb)
              have n4_ := Aside0.mk (below_step (by repeat (first | (with_reducible first | exact HB.out | apply below_alloc | apply pw_below_drewN | apply below_drew1 | refine below_set ?_ GE279.out) | exact HB.out)) hb)
              clear HO_5
              clear HO_6
              clear HO_34
              clear BK279
              clear HB
              have HO_5 := n0_
              have HO_6 := n1_
              have HO_34 := n2_
              have BK279 := n3_
              have HB := n4_
              clear n0_ n1_ n2_ n3_ n4_
              (try clear hb)
              (try clear hb2)
              (try clear hk)
              (try clear hi)
              refine hK.out _ _ ⟨(blk_cell BK279.out 0).trans rfl, (blk_cell BK279.out 1).trans rfl, (blk_cell BK279.out 2).trans rfl, (blk_cell BK279.out 3).trans rfl, (blk_cell BK279.out 4).trans rfl⟩ (fun hHeld => ?_)
              clear hK K
              refine norm_ (a' := ?_) ?_ ?_
              rotate_left
              · show Act.put _ (some 41) _ = _
                simp only [Act.put, List.setIfInBounds_toArray, List.set_cons_zero, List.set_cons_succ, i64_w, i32_w]
                rfl
              refine one_ (i := 3) (N := some 43) #[true, true, true, true, false] rfl rfl (by kernel_rfl) (by decide) (fun K hK => ?_)
              refine goes_ Try.func36 (by kernel_rfl) rfl #[.agg #[.int .u32 ((rd_T62 x5_1 x36_2).f0.f0), .int .i64 ((rd_T62 x5_1 x36_2).f0.f1), .int .u32 ((rd_T62 x5_1 x36_2).f1), .int .u32 ((rd_T62 x5_1 x36_2).f2.f0), .int .u16 ((rd_T62 x5_1 x36_2).f2.f1)]] (by rfl) rfl rfl (by (try simp only [List.map_toArray, List.map_cons, List.map_nil]); first | done | rfl | (simp only [List.length_drop, List.length_take]; rfl)) ?_
              with_reducible refine (wayfarerlaw08_Right.calls k2 ((rd_T62 x5_1 x36_2).f0.f0) ((rd_T62 x5_1 x36_2).f0.f1) ((rd_T62 x5_1 x36_2).f1) ((rd_T62 x5_1 x36_2).f2.f0) ((rd_T62 x5_1 x36_2).f2.f1) t281 _ A20.out).mono ?_
              rintro e w27 ⟨rfl, hb⟩
              refine ⟨_, rfl, ?_⟩
              have n0_ := Aside0.mk (Kd.R_below (by (with_reducible repeat (first | apply Kd.R_alloc | apply Kd.R_drewN | apply Kd.R_drew)); exact HO_5.out) hb)
              have n1_ := Aside0.mk (Kd.R_below (by (with_reducible repeat (first | apply Kd.R_alloc | apply Kd.R_drewN | apply Kd.R_drew)); exact HO_6.out) hb)
              have n2_ := Aside0.mk (Kd.R_below (by (with_reducible repeat (first | apply Kd.R_alloc | apply Kd.R_drewN | apply Kd.R_drew)); exact HO_34.out) hb)
              have n3_ := Aside0.mk (blk_below (g := gb279) (o := .cells #[.int .u32 ((rd_T62 x5_1 x36_2).f0.f0), .int .i64 ((rd_T62 x5_1 x36_2).f0.f1), .int .u32 ((rd_T62 x5_1 x36_2).f1), .int .u32 ((rd_T62 x5_1 x36_2).f2.f0), .int .u16 ((rd_T62 x5_1 x36_2).f2.f1)] 62 (0, 0)) (by (with_reducible repeat (first | refine blk_drewN ?_ _ | refine blk_drew ?_ | refine blk_alloc ?_ _)); exact BK279.out) hb)
              have n4_ := Aside0.mk (below_step (by repeat (first | (with_reducible first | exact HB.out | apply below_alloc | apply pw_below_drewN | apply below_drew1 | refine below_set ?_ GE279.out) | exact HB.out)) hb)
              clear HO_5
              clear HO_6
              clear HO_34
              clear BK279
              clear HB
              have HO_5 := n0_
              have HO_6 := n1_
              have HO_34 := n2_
              have BK279 := n3_
              have HB := n4_
              clear n0_ n1_ n2_ n3_ n4_
              (try clear hb)
              (try clear hb2)
              (try clear hk)
              (try clear hi)
              refine hK.out _ _ ⟨(blk_cell BK279.out 0).trans rfl, (blk_cell BK279.out 1).trans rfl, (blk_cell BK279.out 2).trans rfl, (blk_cell BK279.out 3).trans rfl, (blk_cell BK279.out 4).trans rfl⟩ (fun hHeld => ?_)
              clear hK K
              refine norm_ (a' := ?_) ?_ ?_
              rotate_left
              · show Act.put _ (some 43) _ = _
                simp only [Act.put, List.setIfInBounds_toArray, List.set_cons_zero, List.set_cons_succ, i64_w, i32_w]
                rfl
              refine pure_ (i := 4) (N := some 44) (v := ?_) (a' := ?_) #[true, true, true, true, true] rfl rfl (by kernel_rfl) (fun _ _ _ h => h) (Or.inl ⟨by rfl, ?_⟩) ?_ ?_; rotate_left
              · intro w'; go_simp; with_reducible rfl
              rotate_left; · simp only [Act.put, List.setIfInBounds_toArray, List.set_cons_zero, List.set_cons_succ, i64_w, i32_w]; rfl
              refine done_ (by kernel_rfl) ?_
              try go_wp2
              go_ret
              exact ⟨by first | rfl | (simp [errW_none, errW_some] <;> rfl) | (simp [*, errW_none, errW_some] <;> rfl), by repeat (first | (with_reducible first | exact HB.out | apply below_alloc | apply pw_below_drewN | apply below_drew1 | refine below_set ?_ GE279.out) | exact HB.out)⟩
            rw [if_neg c21] at H; have c21b0 : (t280 != t281) = false := by simpa using c21
            (try (have c21b1 : decide (t280 = t281) = true := by simpa using c21))
            (try (have c21b2 : (t280 == t281) = true := by simpa using c21))
            clear c21
            replace H := Option.bind_eq_some_iff.mp H
            obtain ⟨t282, A280, H⟩ := H
            replace H : (if t282 = true then (if x6_2.length < 4398046511104 then (wayfarerlaw08_TlvTells.l1 k2 x5_1 (x6_2 ++ [(⟨(⟨(rd_T62 x5_1 x36_2).f0.f0, (rd_T62 x5_1 x36_2).f0.f1⟩ : S29), (rd_T62 x5_1 x36_2).f1, (⟨(rd_T62 x5_1 x36_2).f2.f0, (rd_T62 x5_1 x36_2).f2.f1⟩ : S39)⟩ : S62)]) x5_1 (x5_1.length : Int) (wrap64 (x36_2 + 1))) else (none)) else (wayfarerlaw08_TlvTells.l1 k2 x5_1 x6_2 x5_1 (x5_1.length : Int) (wrap64 (x36_2 + 1)))) = some r := H
            have A28 := Aside0.mk A280
            clear A280
            by_cases c29 : t282 = true
            case neg =>
              replace c29 := Bool.eq_false_iff.mpr c29
              subst c29
              have H1 : (wayfarerlaw08_TlvTells.l1 k2 x5_1 x6_2 x5_1 (x5_1.length : Int) (wrap64 (x36_2 + 1))) = some r := by rw [if_neg (show ¬ (false = true) by decide)] at H; exact H
              clear H
              have H := H1
              clear H1
              have H' := Aside0.mk H
              clear H
              have p278 : 0 ≤ (x36_2 : Int) := of_decide_eq_true (by first | (with_reducible assumption) | assumption)
              have q278 : x36_2 < (x5_1.length : Int) := of_decide_eq_true (by first | (with_reducible assumption) | assumption)
              obtain ⟨ad278, e278, hx278_0, hx278_1, hx278_2, hx278_3, hx278_4⟩ := at_T62 (Kd.R_reads' HO_34.out).2.2 x36_2 p278 q278
              cases e278
              replace p278 := eq_true p278
              replace q278 := eq_true q278
              try go_wp2_with (first | ((with_reducible refine gate_dst (N := 9) rfl ?_); (try (refine gate_guard (by rfl) ?_; dsimp only)); refine box_event ?hg (N := 9) ?hd (cs := #[.int .u32 0, .int .i64 0, .int .u32 0, .int .u32 0, .int .u16 0]) (t := 62) ?hr ?_; (case hd => rfl); (case hg => rfl); (case hr => first | (go_simp; done) | (go_simp; rfl)); intro gb279 hg w41 hbox hb; have n0_ := Aside0.mk (Kd.R_below (Kd.R_elderB (by (with_reducible repeat (first | apply Kd.R_alloc | apply Kd.R_drewN | apply Kd.R_drew)); exact HO_5.out) gb279 (Nat.le_of_eq hg.symm)) hb); have n1_ := Aside0.mk (Kd.R_below (Kd.R_elderB (by (with_reducible repeat (first | apply Kd.R_alloc | apply Kd.R_drewN | apply Kd.R_drew)); exact HO_6.out) gb279 (Nat.le_of_eq hg.symm)) hb); have n2_ := Aside0.mk (Kd.R_below (Kd.R_elderB (by (with_reducible repeat (first | apply Kd.R_alloc | apply Kd.R_drewN | apply Kd.R_drew)); exact HO_34.out) gb279 (Nat.le_of_eq hg.symm)) hb); have n3_ := Aside0.mk (below_step (by repeat (first | (with_reducible first | exact HB.out | apply below_alloc | apply pw_below_drewN | apply below_drew1) | exact HB.out)) hb); have n4_ := Aside0.mk (hbox); have n5_ := Aside0.mk ((by rw [hg]; exact (below_size (by repeat (first | (with_reducible first | exact HB.out | apply below_alloc | apply pw_below_drewN | apply below_drew1) | exact HB.out))) : w.heap.size ≤ gb279)); have n6_ := Aside0.mk ((by rw [hg]; exact (below_size (by repeat (first | (with_reducible first | exact HB.out | apply below_alloc | apply pw_below_drewN | apply below_drew1) | exact HB.out))) : w.heap.size ≤ gb279)); clear HO_5; clear HO_6; clear HO_34; clear HB; have HO_5 := n0_; have HO_6 := n1_; have HO_34 := n2_; have HB := n3_; have BK279 := n4_; have GW279 := n5_; have GE279 := n6_; clear n0_ n1_ n2_ n3_ n4_ n5_ n6_; clear hb hbox hg; have hcz42_0 : w41.cell? ⟨gb279, 0, none⟩ = some (.int .u32 0) := (blk_cell BK279.out 0).trans rfl; have hcz42_1 : w41.cell? ⟨gb279, 1, none⟩ = some (.int .i64 0) := (blk_cell BK279.out 1).trans rfl; have hcz42_2 : w41.cell? ⟨gb279, 2, none⟩ = some (.int .u32 0) := (blk_cell BK279.out 2).trans rfl; have hcz42_3 : w41.cell? ⟨gb279, 3, none⟩ = some (.int .u32 0) := (blk_cell BK279.out 3).trans rfl; have hcz42_4 : w41.cell? ⟨gb279, 4, none⟩ = some (.int .u16 0) := (blk_cell BK279.out 4).trans rfl; have hfz42_0 := blk_frozen BK279.out 0; have hfz42_1 := blk_frozen BK279.out 1; have hfz42_2 := blk_frozen BK279.out 2; have hfz42_3 := blk_frozen BK279.out 3; have hfz42_4 := blk_frozen BK279.out 4))
              have n0_ : Aside0 (Kd.R k62 62 (((((w41.setCell ⟨gb279, 0, none⟩ (.int .u32 ((rd_T62 x5_1 x36_2).f0.f0))).setCell ⟨gb279, 1, none⟩ (.int .i64 ((rd_T62 x5_1 x36_2).f0.f1))).setCell ⟨gb279, 2, none⟩ (.int .u32 ((rd_T62 x5_1 x36_2).f1))).setCell ⟨gb279, 3, none⟩ (.int .u32 ((rd_T62 x5_1 x36_2).f2.f0))).setCell ⟨gb279, 4, none⟩ (.int .u16 ((rd_T62 x5_1 x36_2).f2.f1))) w.heap.size (fun k_ => some k_ ≠ (u6 : Value).ownBlock ∧ k_ ≠ gb279) (.slice (some ad278) x5_1.length co15) x5_1) := ⟨by (with_reducible repeat (first | apply Kd.R_alloc | apply Kd.R_drewN | apply Kd.R_drew)); exact Kd.R_mono (Kd.R_far (p := ⟨gb279, 4, none⟩) (Kd.R_far (p := ⟨gb279, 3, none⟩) (Kd.R_far (p := ⟨gb279, 2, none⟩) (Kd.R_far (p := ⟨gb279, 1, none⟩) (Kd.R_far (p := ⟨gb279, 0, none⟩) (Kd.R_mono HO_5.out (fun k_ hk => (⟨hk, hk.2⟩ : _ ∧ k_ ≠ gb279))) (fun _ hk => hk.2) (.int .u32 ((rd_T62 x5_1 x36_2).f0.f0))) (fun _ hk => hk.2) (.int .i64 ((rd_T62 x5_1 x36_2).f0.f1))) (fun _ hk => hk.2) (.int .u32 ((rd_T62 x5_1 x36_2).f1))) (fun _ hk => hk.2) (.int .u32 ((rd_T62 x5_1 x36_2).f2.f0))) (fun _ hk => hk.2) (.int .u16 ((rd_T62 x5_1 x36_2).f2.f1))) (fun _ hk => ⟨hk.1.1, hk.1.2⟩)⟩
              have n1_ : Aside0 (Kd.R k62 62 (((((w41.setCell ⟨gb279, 0, none⟩ (.int .u32 ((rd_T62 x5_1 x36_2).f0.f0))).setCell ⟨gb279, 1, none⟩ (.int .i64 ((rd_T62 x5_1 x36_2).f0.f1))).setCell ⟨gb279, 2, none⟩ (.int .u32 ((rd_T62 x5_1 x36_2).f1))).setCell ⟨gb279, 3, none⟩ (.int .u32 ((rd_T62 x5_1 x36_2).f2.f0))).setCell ⟨gb279, 4, none⟩ (.int .u16 ((rd_T62 x5_1 x36_2).f2.f1))) w.heap.size (fun k_ => some k_ ≠ (.slice (some ad278) x5_1.length co15 : Value).ownBlock ∧ some k_ ≠ (.slice (some ad278) x5_1.length co15 : Value).ownBlock ∧ k_ ≠ gb279) u6 x6_2) := ⟨by (with_reducible repeat (first | apply Kd.R_alloc | apply Kd.R_drewN | apply Kd.R_drew)); exact Kd.R_mono (Kd.R_far (p := ⟨gb279, 4, none⟩) (Kd.R_far (p := ⟨gb279, 3, none⟩) (Kd.R_far (p := ⟨gb279, 2, none⟩) (Kd.R_far (p := ⟨gb279, 1, none⟩) (Kd.R_far (p := ⟨gb279, 0, none⟩) (Kd.R_mono HO_6.out (fun k_ hk => (⟨hk, hk.2⟩ : _ ∧ k_ ≠ gb279))) (fun _ hk => hk.2) (.int .u32 ((rd_T62 x5_1 x36_2).f0.f0))) (fun _ hk => hk.2) (.int .i64 ((rd_T62 x5_1 x36_2).f0.f1))) (fun _ hk => hk.2) (.int .u32 ((rd_T62 x5_1 x36_2).f1))) (fun _ hk => hk.2) (.int .u32 ((rd_T62 x5_1 x36_2).f2.f0))) (fun _ hk => hk.2) (.int .u16 ((rd_T62 x5_1 x36_2).f2.f1))) (fun _ hk => ⟨hk.1.1.1, ⟨hk.1.1.2, hk.1.2⟩⟩)⟩
              have n2_ : Aside0 (Kd.R k62 62 (((((w41.setCell ⟨gb279, 0, none⟩ (.int .u32 ((rd_T62 x5_1 x36_2).f0.f0))).setCell ⟨gb279, 1, none⟩ (.int .i64 ((rd_T62 x5_1 x36_2).f0.f1))).setCell ⟨gb279, 2, none⟩ (.int .u32 ((rd_T62 x5_1 x36_2).f1))).setCell ⟨gb279, 3, none⟩ (.int .u32 ((rd_T62 x5_1 x36_2).f2.f0))).setCell ⟨gb279, 4, none⟩ (.int .u16 ((rd_T62 x5_1 x36_2).f2.f1))) w.heap.size (fun k_ => some k_ ≠ (u6 : Value).ownBlock ∧ k_ ≠ gb279) (.slice (some ad278) x5_1.length co15) x5_1) := ⟨by (with_reducible repeat (first | apply Kd.R_alloc | apply Kd.R_drewN | apply Kd.R_drew)); exact Kd.R_mono (Kd.R_far (p := ⟨gb279, 4, none⟩) (Kd.R_far (p := ⟨gb279, 3, none⟩) (Kd.R_far (p := ⟨gb279, 2, none⟩) (Kd.R_far (p := ⟨gb279, 1, none⟩) (Kd.R_far (p := ⟨gb279, 0, none⟩) (Kd.R_mono HO_34.out (fun k_ hk => (⟨hk, hk.2⟩ : _ ∧ k_ ≠ gb279))) (fun _ hk => hk.2) (.int .u32 ((rd_T62 x5_1 x36_2).f0.f0))) (fun _ hk => hk.2) (.int .i64 ((rd_T62 x5_1 x36_2).f0.f1))) (fun _ hk => hk.2) (.int .u32 ((rd_T62 x5_1 x36_2).f1))) (fun _ hk => hk.2) (.int .u32 ((rd_T62 x5_1 x36_2).f2.f0))) (fun _ hk => hk.2) (.int .u16 ((rd_T62 x5_1 x36_2).f2.f1))) (fun _ hk => ⟨hk.1.1, hk.1.2⟩)⟩
              have n3_ : Aside0 ((((((w41.setCell ⟨gb279, 0, none⟩ (.int .u32 ((rd_T62 x5_1 x36_2).f0.f0))).setCell ⟨gb279, 1, none⟩ (.int .i64 ((rd_T62 x5_1 x36_2).f0.f1))).setCell ⟨gb279, 2, none⟩ (.int .u32 ((rd_T62 x5_1 x36_2).f1))).setCell ⟨gb279, 3, none⟩ (.int .u32 ((rd_T62 x5_1 x36_2).f2.f0))).setCell ⟨gb279, 4, none⟩ (.int .u16 ((rd_T62 x5_1 x36_2).f2.f1))).heap[gb279]? = some (.cells #[.int .u32 ((rd_T62 x5_1 x36_2).f0.f0), .int .i64 ((rd_T62 x5_1 x36_2).f0.f1), .int .u32 ((rd_T62 x5_1 x36_2).f1), .int .u32 ((rd_T62 x5_1 x36_2).f2.f0), .int .u16 ((rd_T62 x5_1 x36_2).f2.f1)] 62 (0, 0))) := ⟨by (with_reducible repeat (first | refine blk_drewN ?_ _ | refine blk_drew ?_ | refine blk_alloc ?_ _)); refine blk_put (cs := #[.int .u32 ((rd_T62 x5_1 x36_2).f0.f0), .int .i64 ((rd_T62 x5_1 x36_2).f0.f1), .int .u32 ((rd_T62 x5_1 x36_2).f1), .int .u32 ((rd_T62 x5_1 x36_2).f2.f0), .int .u16 0]) ?_ 4 _ rfl; (with_reducible repeat (first | refine blk_drewN ?_ _ | refine blk_drew ?_ | refine blk_alloc ?_ _)); refine blk_put (cs := #[.int .u32 ((rd_T62 x5_1 x36_2).f0.f0), .int .i64 ((rd_T62 x5_1 x36_2).f0.f1), .int .u32 ((rd_T62 x5_1 x36_2).f1), .int .u32 0, .int .u16 0]) ?_ 3 _ rfl; (with_reducible repeat (first | refine blk_drewN ?_ _ | refine blk_drew ?_ | refine blk_alloc ?_ _)); refine blk_put (cs := #[.int .u32 ((rd_T62 x5_1 x36_2).f0.f0), .int .i64 ((rd_T62 x5_1 x36_2).f0.f1), .int .u32 0, .int .u32 0, .int .u16 0]) ?_ 2 _ rfl; (with_reducible repeat (first | refine blk_drewN ?_ _ | refine blk_drew ?_ | refine blk_alloc ?_ _)); refine blk_put (cs := #[.int .u32 ((rd_T62 x5_1 x36_2).f0.f0), .int .i64 0, .int .u32 0, .int .u32 0, .int .u16 0]) ?_ 1 _ rfl; (with_reducible repeat (first | refine blk_drewN ?_ _ | refine blk_drew ?_ | refine blk_alloc ?_ _)); refine blk_put (cs := #[.int .u32 0, .int .i64 0, .int .u32 0, .int .u32 0, .int .u16 0]) ?_ 0 _ rfl; (with_reducible repeat (first | refine blk_drewN ?_ _ | refine blk_drew ?_ | refine blk_alloc ?_ _)); exact BK279.out⟩
              have n4_ : Aside0 (Below w.heap.size w (((((w41.setCell ⟨gb279, 0, none⟩ (.int .u32 ((rd_T62 x5_1 x36_2).f0.f0))).setCell ⟨gb279, 1, none⟩ (.int .i64 ((rd_T62 x5_1 x36_2).f0.f1))).setCell ⟨gb279, 2, none⟩ (.int .u32 ((rd_T62 x5_1 x36_2).f1))).setCell ⟨gb279, 3, none⟩ (.int .u32 ((rd_T62 x5_1 x36_2).f2.f0))).setCell ⟨gb279, 4, none⟩ (.int .u16 ((rd_T62 x5_1 x36_2).f2.f1)))) := ⟨by repeat (first | (with_reducible first | exact HB.out | apply below_alloc | apply pw_below_drewN | apply below_drew1 | refine below_set ?_ GE279.out) | exact HB.out)⟩
              (try clear HO_5)
              (try clear HO_6)
              (try clear HO_34)
              (try clear BK279)
              (try clear HB)
              generalize (((((w41.setCell ⟨gb279, 0, none⟩ (.int .u32 ((rd_T62 x5_1 x36_2).f0.f0))).setCell ⟨gb279, 1, none⟩ (.int .i64 ((rd_T62 x5_1 x36_2).f0.f1))).setCell ⟨gb279, 2, none⟩ (.int .u32 ((rd_T62 x5_1 x36_2).f1))).setCell ⟨gb279, 3, none⟩ (.int .u32 ((rd_T62 x5_1 x36_2).f2.f0))).setCell ⟨gb279, 4, none⟩ (.int .u16 ((rd_T62 x5_1 x36_2).f2.f1))) = w43 at n0_ n1_ n2_ n3_ n4_ ⊢
              have HO_5 := n0_
              have HO_6 := n1_
              have HO_34 := n2_
              have BK279 := n3_
              have HB := n4_
              clear n0_ n1_ n2_ n3_ n4_
              have n0_ := Aside0.mk (Kd.R_drew HO_5.out)
              have n1_ := Aside0.mk (Kd.R_drew HO_6.out)
              have n2_ := Aside0.mk (Kd.R_drew HO_34.out)
              have n3_ := Aside0.mk (blk_drew BK279.out)
              have n4_ := Aside0.mk (below_drew1 HB.out)
              clear HO_5
              clear HO_6
              clear HO_34
              clear BK279
              clear HB
              have HO_5 := n0_
              have HO_6 := n1_
              have HO_34 := n2_
              have BK279 := n3_
              have HB := n4_
              clear n0_ n1_ n2_ n3_ n4_
              refine start_ (n := 5) (S := fun w' => w'.cell? ⟨gb279, 0, none⟩ = some (.int .u32 ((rd_T62 x5_1 x36_2).f0.f0)) ∧ w'.cell? ⟨gb279, 1, none⟩ = some (.int .i64 ((rd_T62 x5_1 x36_2).f0.f1)) ∧ w'.cell? ⟨gb279, 2, none⟩ = some (.int .u32 ((rd_T62 x5_1 x36_2).f1)) ∧ w'.cell? ⟨gb279, 3, none⟩ = some (.int .u32 ((rd_T62 x5_1 x36_2).f2.f0)) ∧ w'.cell? ⟨gb279, 4, none⟩ = some (.int .u16 ((rd_T62 x5_1 x36_2).f2.f1))) (ds := []) #[false, false, false, false, false] (by kernel_rfl) rfl rfl ⟨(blk_cell BK279.out 0).trans rfl, (blk_cell BK279.out 1).trans rfl, (blk_cell BK279.out 2).trans rfl, (blk_cell BK279.out 3).trans rfl, (blk_cell BK279.out 4).trans rfl⟩ (fun hHeld => ?_)
              generalize w43.drew = w44 at HO_5 HO_6 HO_34 BK279 HB hHeld ⊢
              refine take_ (i := 0) (N := some 40) (v := ?_) (a' := ?_) #[true, false, false, false, false] rfl rfl (by kernel_rfl) (fun _ _ _ h => h) (Or.inl ⟨by rfl, ?_⟩) hHeld ?_ ?_; rotate_left
              · rintro w' ⟨s0, s1, s2, s3, s4⟩
                go_simp
                with_reducible rfl
              rotate_left
              · simp only [Act.put, List.setIfInBounds_toArray, List.set_cons_zero, List.set_cons_succ, i64_w, i32_w]; rfl
              refine take_ (i := 2) (N := some 42) (v := ?_) (a' := ?_) #[true, false, true, false, false] rfl rfl (by kernel_rfl) (fun _ _ _ h => h) (Or.inl ⟨by rfl, ?_⟩) hHeld ?_ ?_; rotate_left
              · rintro w' ⟨s0, s1, s2, s3, s4⟩
                go_simp
                with_reducible rfl
              rotate_left
              · simp only [Act.put, List.setIfInBounds_toArray, List.set_cons_zero, List.set_cons_succ, i64_w, i32_w]; rfl
              refine one_ (i := 1) (N := some 41) #[true, true, true, false, false] rfl rfl (by kernel_rfl) (by decide) (fun K hK => ?_)
              refine goes_ Try.func35 (by kernel_rfl) rfl #[.agg #[.int .u32 ((rd_T62 x5_1 x36_2).f0.f0), .int .i64 ((rd_T62 x5_1 x36_2).f0.f1), .int .u32 ((rd_T62 x5_1 x36_2).f1), .int .u32 ((rd_T62 x5_1 x36_2).f2.f0), .int .u16 ((rd_T62 x5_1 x36_2).f2.f1)]] (by rfl) rfl rfl (by (try simp only [List.map_toArray, List.map_cons, List.map_nil]); first | done | rfl | (simp only [List.length_drop, List.length_take]; rfl)) ?_
              with_reducible refine (tlv_Update_Right.calls ((rd_T62 x5_1 x36_2).f0.f0) ((rd_T62 x5_1 x36_2).f0.f1) ((rd_T62 x5_1 x36_2).f1) ((rd_T62 x5_1 x36_2).f2.f0) ((rd_T62 x5_1 x36_2).f2.f1) t280 _ A19.out).mono ?_
              rintro e w45 ⟨rfl, hb⟩
              refine ⟨_, rfl, ?_⟩
              have n0_ := Aside0.mk (Kd.R_below (by (with_reducible repeat (first | apply Kd.R_alloc | apply Kd.R_drewN | apply Kd.R_drew)); exact HO_5.out) hb)
              have n1_ := Aside0.mk (Kd.R_below (by (with_reducible repeat (first | apply Kd.R_alloc | apply Kd.R_drewN | apply Kd.R_drew)); exact HO_6.out) hb)
              have n2_ := Aside0.mk (Kd.R_below (by (with_reducible repeat (first | apply Kd.R_alloc | apply Kd.R_drewN | apply Kd.R_drew)); exact HO_34.out) hb)
              have n3_ := Aside0.mk (blk_below (g := gb279) (o := .cells #[.int .u32 ((rd_T62 x5_1 x36_2).f0.f0), .int .i64 ((rd_T62 x5_1 x36_2).f0.f1), .int .u32 ((rd_T62 x5_1 x36_2).f1), .int .u32 ((rd_T62 x5_1 x36_2).f2.f0), .int .u16 ((rd_T62 x5_1 x36_2).f2.f1)] 62 (0, 0)) (by (with_reducible repeat (first | refine blk_drewN ?_ _ | refine blk_drew ?_ | refine blk_alloc ?_ _)); exact BK279.out) hb)
              have n4_ := Aside0.mk (below_step (by repeat (first | (with_reducible first | exact HB.out | apply below_alloc | apply pw_below_drewN | apply below_drew1 | refine below_set ?_ GE279.out) | exact HB.out)) hb)
              clear HO_5
              clear HO_6
              clear HO_34
              clear BK279
              clear HB
              have HO_5 := n0_
              have HO_6 := n1_
              have HO_34 := n2_
              have BK279 := n3_
              have HB := n4_
              clear n0_ n1_ n2_ n3_ n4_
              (try clear hb)
              (try clear hb2)
              (try clear hk)
              (try clear hi)
              refine hK.out _ _ ⟨(blk_cell BK279.out 0).trans rfl, (blk_cell BK279.out 1).trans rfl, (blk_cell BK279.out 2).trans rfl, (blk_cell BK279.out 3).trans rfl, (blk_cell BK279.out 4).trans rfl⟩ (fun hHeld => ?_)
              clear hK K
              refine norm_ (a' := ?_) ?_ ?_
              rotate_left
              · show Act.put _ (some 41) _ = _
                simp only [Act.put, List.setIfInBounds_toArray, List.set_cons_zero, List.set_cons_succ, i64_w, i32_w]
                rfl
              refine one_ (i := 3) (N := some 43) #[true, true, true, true, false] rfl rfl (by kernel_rfl) (by decide) (fun K hK => ?_)
              refine goes_ Try.func36 (by kernel_rfl) rfl #[.agg #[.int .u32 ((rd_T62 x5_1 x36_2).f0.f0), .int .i64 ((rd_T62 x5_1 x36_2).f0.f1), .int .u32 ((rd_T62 x5_1 x36_2).f1), .int .u32 ((rd_T62 x5_1 x36_2).f2.f0), .int .u16 ((rd_T62 x5_1 x36_2).f2.f1)]] (by rfl) rfl rfl (by (try simp only [List.map_toArray, List.map_cons, List.map_nil]); first | done | rfl | (simp only [List.length_drop, List.length_take]; rfl)) ?_
              with_reducible refine (wayfarerlaw08_Right.calls k2 ((rd_T62 x5_1 x36_2).f0.f0) ((rd_T62 x5_1 x36_2).f0.f1) ((rd_T62 x5_1 x36_2).f1) ((rd_T62 x5_1 x36_2).f2.f0) ((rd_T62 x5_1 x36_2).f2.f1) t281 _ A20.out).mono ?_
              rintro e w46 ⟨rfl, hb⟩
              refine ⟨_, rfl, ?_⟩
              have n0_ := Aside0.mk (Kd.R_below (by (with_reducible repeat (first | apply Kd.R_alloc | apply Kd.R_drewN | apply Kd.R_drew)); exact HO_5.out) hb)
              have n1_ := Aside0.mk (Kd.R_below (by (with_reducible repeat (first | apply Kd.R_alloc | apply Kd.R_drewN | apply Kd.R_drew)); exact HO_6.out) hb)
              have n2_ := Aside0.mk (Kd.R_below (by (with_reducible repeat (first | apply Kd.R_alloc | apply Kd.R_drewN | apply Kd.R_drew)); exact HO_34.out) hb)
              have n3_ := Aside0.mk (blk_below (g := gb279) (o := .cells #[.int .u32 ((rd_T62 x5_1 x36_2).f0.f0), .int .i64 ((rd_T62 x5_1 x36_2).f0.f1), .int .u32 ((rd_T62 x5_1 x36_2).f1), .int .u32 ((rd_T62 x5_1 x36_2).f2.f0), .int .u16 ((rd_T62 x5_1 x36_2).f2.f1)] 62 (0, 0)) (by (with_reducible repeat (first | refine blk_drewN ?_ _ | refine blk_drew ?_ | refine blk_alloc ?_ _)); exact BK279.out) hb)
              have n4_ := Aside0.mk (below_step (by repeat (first | (with_reducible first | exact HB.out | apply below_alloc | apply pw_below_drewN | apply below_drew1 | refine below_set ?_ GE279.out) | exact HB.out)) hb)
              clear HO_5
              clear HO_6
              clear HO_34
              clear BK279
              clear HB
              have HO_5 := n0_
              have HO_6 := n1_
              have HO_34 := n2_
              have BK279 := n3_
              have HB := n4_
              clear n0_ n1_ n2_ n3_ n4_
              (try clear hb)
              (try clear hb2)
              (try clear hk)
              (try clear hi)
              refine hK.out _ _ ⟨(blk_cell BK279.out 0).trans rfl, (blk_cell BK279.out 1).trans rfl, (blk_cell BK279.out 2).trans rfl, (blk_cell BK279.out 3).trans rfl, (blk_cell BK279.out 4).trans rfl⟩ (fun hHeld => ?_)
              clear hK K
              refine norm_ (a' := ?_) ?_ ?_
              rotate_left
              · show Act.put _ (some 43) _ = _
                simp only [Act.put, List.setIfInBounds_toArray, List.set_cons_zero, List.set_cons_succ, i64_w, i32_w]
                rfl
              refine pure_ (i := 4) (N := some 44) (v := ?_) (a' := ?_) #[true, true, true, true, true] rfl rfl (by kernel_rfl) (fun _ _ _ h => h) (Or.inl ⟨by rfl, ?_⟩) ?_ ?_; rotate_left
              · intro w'; go_simp; with_reducible rfl
              rotate_left; · simp only [Act.put, List.setIfInBounds_toArray, List.set_cons_zero, List.set_cons_succ, i64_w, i32_w]; rfl
              refine done_ (by kernel_rfl) ?_
              have hcz47_0 : w46.cell? ⟨gb279, 0, none⟩ = some (.int .u32 ((rd_T62 x5_1 x36_2).f0.f0)) := (blk_cell BK279.out 0).trans rfl
              have hcz47_1 : w46.cell? ⟨gb279, 1, none⟩ = some (.int .i64 ((rd_T62 x5_1 x36_2).f0.f1)) := (blk_cell BK279.out 1).trans rfl
              have hcz47_2 : w46.cell? ⟨gb279, 2, none⟩ = some (.int .u32 ((rd_T62 x5_1 x36_2).f1)) := (blk_cell BK279.out 2).trans rfl
              have hcz47_3 : w46.cell? ⟨gb279, 3, none⟩ = some (.int .u32 ((rd_T62 x5_1 x36_2).f2.f0)) := (blk_cell BK279.out 3).trans rfl
              have hcz47_4 : w46.cell? ⟨gb279, 4, none⟩ = some (.int .u16 ((rd_T62 x5_1 x36_2).f2.f1)) := (blk_cell BK279.out 4).trans rfl
              have hfz47_0 := blk_frozen BK279.out 0
              have hfz47_1 := blk_frozen BK279.out 1
              have hfz47_2 := blk_frozen BK279.out 2
              have hfz47_3 := blk_frozen BK279.out 3
              have hfz47_4 := blk_frozen BK279.out 4
              try go_wp2_with (first | ((with_reducible refine gate_callee (f := 36) rfl ?_); refine goesL_ (some 46) rfl rfl Try.func36 (by kernel_rfl) rfl #[.agg #[.int .u32 ((rd_T62 x5_1 x36_2).f0.f0), .int .i64 ((rd_T62 x5_1 x36_2).f0.f1), .int .u32 ((rd_T62 x5_1 x36_2).f1), .int .u32 ((rd_T62 x5_1 x36_2).f2.f0), .int .u16 ((rd_T62 x5_1 x36_2).f2.f1)]] rfl (by (try simp only [List.map_toArray, List.map_cons, List.map_nil]); first | done | rfl | (simp only [List.length_drop, List.length_take]; rfl)) ?_; (with_reducible refine (wayfarerlaw08_Right.calls k2 ((rd_T62 x5_1 x36_2).f0.f0) ((rd_T62 x5_1 x36_2).f0.f1) ((rd_T62 x5_1 x36_2).f1) ((rd_T62 x5_1 x36_2).f2.f0) ((rd_T62 x5_1 x36_2).f2.f1) false _ A28.out).mono ?_); rintro e w48 ⟨rfl, hb⟩; refine ⟨_, rfl, ?_⟩; have n0_ := Aside0.mk (Kd.R_below (by (with_reducible repeat (first | apply Kd.R_alloc | apply Kd.R_drewN | apply Kd.R_drew)); exact HO_5.out) hb); have n1_ := Aside0.mk (Kd.R_below (by (with_reducible repeat (first | apply Kd.R_alloc | apply Kd.R_drewN | apply Kd.R_drew)); exact HO_6.out) hb); have n2_ := Aside0.mk (Kd.R_below (by (with_reducible repeat (first | apply Kd.R_alloc | apply Kd.R_drewN | apply Kd.R_drew)); exact HO_34.out) hb); have n3_ := Aside0.mk (blk_below (g := gb279) (o := .cells #[.int .u32 ((rd_T62 x5_1 x36_2).f0.f0), .int .i64 ((rd_T62 x5_1 x36_2).f0.f1), .int .u32 ((rd_T62 x5_1 x36_2).f1), .int .u32 ((rd_T62 x5_1 x36_2).f2.f0), .int .u16 ((rd_T62 x5_1 x36_2).f2.f1)] 62 (0, 0)) (by (with_reducible repeat (first | refine blk_drewN ?_ _ | refine blk_drew ?_ | refine blk_alloc ?_ _)); exact BK279.out) hb); have n4_ := Aside0.mk (below_step (by repeat (first | (with_reducible first | exact HB.out | apply below_alloc | apply pw_below_drewN | apply below_drew1 | refine below_set ?_ GE279.out) | exact HB.out)) hb); clear HO_5; clear HO_6; clear HO_34; clear BK279; clear HB; have HO_5 := n0_; have HO_6 := n1_; have HO_34 := n2_; have BK279 := n3_; have HB := n4_; clear n0_ n1_ n2_ n3_ n4_; (try clear hb); (try clear hb2); (try clear hk); (try clear hi)))
              go_roundg k2
              case measure => have := HK1.out; have := HK2.out; omega
              case rel => exact ⟨(x6_2), (wrap64 (x36_2 + 1)), (by first | rfl | (simp; done) | (simp [*]; done)), H', ⟨by have := HK1.out; have := HK2.out; omega⟩, ⟨by (with_reducible repeat (first | apply Kd.R_alloc | apply Kd.R_drewN | apply Kd.R_drew)); exact Kd.R_mono HO_5.out (fun _ hk => hk.1)⟩, ⟨by (with_reducible repeat (first | apply Kd.R_alloc | apply Kd.R_drewN | apply Kd.R_drew)); exact Kd.R_mono HO_6.out (fun _ hk => ⟨hk.1, hk.2.1⟩)⟩, ⟨by (with_reducible repeat (first | apply Kd.R_alloc | apply Kd.R_drewN | apply Kd.R_drew)); exact Kd.R_mono HO_34.out (fun _ hk => hk.1)⟩, ⟨by repeat (first | (with_reducible first | exact HB.out | apply below_alloc | apply pw_below_drewN | apply below_drew1 | refine below_set ?_ GE279.out) | exact HB.out)⟩⟩
            subst c29
            have H1 : (if x6_2.length < 4398046511104 then (wayfarerlaw08_TlvTells.l1 k2 x5_1 (x6_2 ++ [(⟨(⟨(rd_T62 x5_1 x36_2).f0.f0, (rd_T62 x5_1 x36_2).f0.f1⟩ : S29), (rd_T62 x5_1 x36_2).f1, (⟨(rd_T62 x5_1 x36_2).f2.f0, (rd_T62 x5_1 x36_2).f2.f1⟩ : S39)⟩ : S62)]) x5_1 (x5_1.length : Int) (wrap64 (x36_2 + 1))) else (none)) = some r := by rw [if_pos rfl] at H; exact H
            clear H
            have H := H1
            clear H1
            by_cases c30 : x6_2.length < 4398046511104
            case neg =>
              rw [if_neg c30] at H; exact absurd H (by simp)
            rw [if_pos c30] at H; have LMc30 := Aside0.mk c30
            clear c30
            obtain ⟨y283, hy283⟩ : ∃ y_ : List (S62), y_ = (x6_2 ++ [(⟨(⟨(rd_T62 x5_1 x36_2).f0.f0, (rd_T62 x5_1 x36_2).f0.f1⟩ : S29), (rd_T62 x5_1 x36_2).f1, (⟨(rd_T62 x5_1 x36_2).f2.f0, (rd_T62 x5_1 x36_2).f2.f1⟩ : S39)⟩ : S62)]) := ⟨_, rfl⟩
            replace H : (wayfarerlaw08_TlvTells.l1 k2 x5_1 y283 x5_1 (x5_1.length : Int) (wrap64 (x36_2 + 1))) = some r := by first | (rw [hy283]; with_reducible exact H) | (have H2_ := (Option.bind_some _ _).symm.trans H; rw [hy283]; with_reducible exact H2_) | (have H2_ := (Option.bind_some _ _).symm.trans H; with_reducible exact H2_) | with_reducible exact H | (rw [hy283]; exact H) | exact H
            have Ny283 := Aside0.mk hy283
            clear hy283
            have H' := Aside0.mk H
            clear H
            have p278 : 0 ≤ (x36_2 : Int) := of_decide_eq_true (by first | (with_reducible assumption) | assumption)
            have q278 : x36_2 < (x5_1.length : Int) := of_decide_eq_true (by first | (with_reducible assumption) | assumption)
            obtain ⟨ad278, e278, hx278_0, hx278_1, hx278_2, hx278_3, hx278_4⟩ := at_T62 (Kd.R_reads' HO_34.out).2.2 x36_2 p278 q278
            cases e278
            replace p278 := eq_true p278
            replace q278 := eq_true q278
            try go_wp2_with (first | ((with_reducible refine gate_dst (N := 9) rfl ?_); (try (refine gate_guard (by rfl) ?_; dsimp only)); refine box_event ?hg (N := 9) ?hd (cs := #[.int .u32 0, .int .i64 0, .int .u32 0, .int .u32 0, .int .u16 0]) (t := 62) ?hr ?_; (case hd => rfl); (case hg => rfl); (case hr => first | (go_simp; done) | (go_simp; rfl)); intro gb279 hg w31 hbox hb; have n0_ := Aside0.mk (Kd.R_below (Kd.R_elderB (by (with_reducible repeat (first | apply Kd.R_alloc | apply Kd.R_drewN | apply Kd.R_drew)); exact HO_5.out) gb279 (Nat.le_of_eq hg.symm)) hb); have n1_ := Aside0.mk (Kd.R_below (Kd.R_elderB (by (with_reducible repeat (first | apply Kd.R_alloc | apply Kd.R_drewN | apply Kd.R_drew)); exact HO_6.out) gb279 (Nat.le_of_eq hg.symm)) hb); have n2_ := Aside0.mk (Kd.R_below (Kd.R_elderB (by (with_reducible repeat (first | apply Kd.R_alloc | apply Kd.R_drewN | apply Kd.R_drew)); exact HO_34.out) gb279 (Nat.le_of_eq hg.symm)) hb); have n3_ := Aside0.mk (below_step (by repeat (first | (with_reducible first | exact HB.out | apply below_alloc | apply pw_below_drewN | apply below_drew1) | exact HB.out)) hb); have n4_ := Aside0.mk (hbox); have n5_ := Aside0.mk ((by rw [hg]; exact (below_size (by repeat (first | (with_reducible first | exact HB.out | apply below_alloc | apply pw_below_drewN | apply below_drew1) | exact HB.out))) : w.heap.size ≤ gb279)); have n6_ := Aside0.mk ((by rw [hg]; exact (below_size (by repeat (first | (with_reducible first | exact HB.out | apply below_alloc | apply pw_below_drewN | apply below_drew1) | exact HB.out))) : w.heap.size ≤ gb279)); clear HO_5; clear HO_6; clear HO_34; clear HB; have HO_5 := n0_; have HO_6 := n1_; have HO_34 := n2_; have HB := n3_; have BK279 := n4_; have GW279 := n5_; have GE279 := n6_; clear n0_ n1_ n2_ n3_ n4_ n5_ n6_; clear hb hbox hg; have hcz32_0 : w31.cell? ⟨gb279, 0, none⟩ = some (.int .u32 0) := (blk_cell BK279.out 0).trans rfl; have hcz32_1 : w31.cell? ⟨gb279, 1, none⟩ = some (.int .i64 0) := (blk_cell BK279.out 1).trans rfl; have hcz32_2 : w31.cell? ⟨gb279, 2, none⟩ = some (.int .u32 0) := (blk_cell BK279.out 2).trans rfl; have hcz32_3 : w31.cell? ⟨gb279, 3, none⟩ = some (.int .u32 0) := (blk_cell BK279.out 3).trans rfl; have hcz32_4 : w31.cell? ⟨gb279, 4, none⟩ = some (.int .u16 0) := (blk_cell BK279.out 4).trans rfl; have hfz32_0 := blk_frozen BK279.out 0; have hfz32_1 := blk_frozen BK279.out 1; have hfz32_2 := blk_frozen BK279.out 2; have hfz32_3 := blk_frozen BK279.out 3; have hfz32_4 := blk_frozen BK279.out 4))
            have n0_ : Aside0 (Kd.R k62 62 (((((w31.setCell ⟨gb279, 0, none⟩ (.int .u32 ((rd_T62 x5_1 x36_2).f0.f0))).setCell ⟨gb279, 1, none⟩ (.int .i64 ((rd_T62 x5_1 x36_2).f0.f1))).setCell ⟨gb279, 2, none⟩ (.int .u32 ((rd_T62 x5_1 x36_2).f1))).setCell ⟨gb279, 3, none⟩ (.int .u32 ((rd_T62 x5_1 x36_2).f2.f0))).setCell ⟨gb279, 4, none⟩ (.int .u16 ((rd_T62 x5_1 x36_2).f2.f1))) w.heap.size (fun k_ => some k_ ≠ (u6 : Value).ownBlock ∧ k_ ≠ gb279) (.slice (some ad278) x5_1.length co15) x5_1) := ⟨by (with_reducible repeat (first | apply Kd.R_alloc | apply Kd.R_drewN | apply Kd.R_drew)); exact Kd.R_mono (Kd.R_far (p := ⟨gb279, 4, none⟩) (Kd.R_far (p := ⟨gb279, 3, none⟩) (Kd.R_far (p := ⟨gb279, 2, none⟩) (Kd.R_far (p := ⟨gb279, 1, none⟩) (Kd.R_far (p := ⟨gb279, 0, none⟩) (Kd.R_mono HO_5.out (fun k_ hk => (⟨hk, hk.2⟩ : _ ∧ k_ ≠ gb279))) (fun _ hk => hk.2) (.int .u32 ((rd_T62 x5_1 x36_2).f0.f0))) (fun _ hk => hk.2) (.int .i64 ((rd_T62 x5_1 x36_2).f0.f1))) (fun _ hk => hk.2) (.int .u32 ((rd_T62 x5_1 x36_2).f1))) (fun _ hk => hk.2) (.int .u32 ((rd_T62 x5_1 x36_2).f2.f0))) (fun _ hk => hk.2) (.int .u16 ((rd_T62 x5_1 x36_2).f2.f1))) (fun _ hk => ⟨hk.1.1, hk.1.2⟩)⟩
            have n1_ : Aside0 (Kd.R k62 62 (((((w31.setCell ⟨gb279, 0, none⟩ (.int .u32 ((rd_T62 x5_1 x36_2).f0.f0))).setCell ⟨gb279, 1, none⟩ (.int .i64 ((rd_T62 x5_1 x36_2).f0.f1))).setCell ⟨gb279, 2, none⟩ (.int .u32 ((rd_T62 x5_1 x36_2).f1))).setCell ⟨gb279, 3, none⟩ (.int .u32 ((rd_T62 x5_1 x36_2).f2.f0))).setCell ⟨gb279, 4, none⟩ (.int .u16 ((rd_T62 x5_1 x36_2).f2.f1))) w.heap.size (fun k_ => some k_ ≠ (.slice (some ad278) x5_1.length co15 : Value).ownBlock ∧ some k_ ≠ (.slice (some ad278) x5_1.length co15 : Value).ownBlock ∧ k_ ≠ gb279) u6 x6_2) := ⟨by (with_reducible repeat (first | apply Kd.R_alloc | apply Kd.R_drewN | apply Kd.R_drew)); exact Kd.R_mono (Kd.R_far (p := ⟨gb279, 4, none⟩) (Kd.R_far (p := ⟨gb279, 3, none⟩) (Kd.R_far (p := ⟨gb279, 2, none⟩) (Kd.R_far (p := ⟨gb279, 1, none⟩) (Kd.R_far (p := ⟨gb279, 0, none⟩) (Kd.R_mono HO_6.out (fun k_ hk => (⟨hk, hk.2⟩ : _ ∧ k_ ≠ gb279))) (fun _ hk => hk.2) (.int .u32 ((rd_T62 x5_1 x36_2).f0.f0))) (fun _ hk => hk.2) (.int .i64 ((rd_T62 x5_1 x36_2).f0.f1))) (fun _ hk => hk.2) (.int .u32 ((rd_T62 x5_1 x36_2).f1))) (fun _ hk => hk.2) (.int .u32 ((rd_T62 x5_1 x36_2).f2.f0))) (fun _ hk => hk.2) (.int .u16 ((rd_T62 x5_1 x36_2).f2.f1))) (fun _ hk => ⟨hk.1.1.1, ⟨hk.1.1.2, hk.1.2⟩⟩)⟩
            have n2_ : Aside0 (Kd.R k62 62 (((((w31.setCell ⟨gb279, 0, none⟩ (.int .u32 ((rd_T62 x5_1 x36_2).f0.f0))).setCell ⟨gb279, 1, none⟩ (.int .i64 ((rd_T62 x5_1 x36_2).f0.f1))).setCell ⟨gb279, 2, none⟩ (.int .u32 ((rd_T62 x5_1 x36_2).f1))).setCell ⟨gb279, 3, none⟩ (.int .u32 ((rd_T62 x5_1 x36_2).f2.f0))).setCell ⟨gb279, 4, none⟩ (.int .u16 ((rd_T62 x5_1 x36_2).f2.f1))) w.heap.size (fun k_ => some k_ ≠ (u6 : Value).ownBlock ∧ k_ ≠ gb279) (.slice (some ad278) x5_1.length co15) x5_1) := ⟨by (with_reducible repeat (first | apply Kd.R_alloc | apply Kd.R_drewN | apply Kd.R_drew)); exact Kd.R_mono (Kd.R_far (p := ⟨gb279, 4, none⟩) (Kd.R_far (p := ⟨gb279, 3, none⟩) (Kd.R_far (p := ⟨gb279, 2, none⟩) (Kd.R_far (p := ⟨gb279, 1, none⟩) (Kd.R_far (p := ⟨gb279, 0, none⟩) (Kd.R_mono HO_34.out (fun k_ hk => (⟨hk, hk.2⟩ : _ ∧ k_ ≠ gb279))) (fun _ hk => hk.2) (.int .u32 ((rd_T62 x5_1 x36_2).f0.f0))) (fun _ hk => hk.2) (.int .i64 ((rd_T62 x5_1 x36_2).f0.f1))) (fun _ hk => hk.2) (.int .u32 ((rd_T62 x5_1 x36_2).f1))) (fun _ hk => hk.2) (.int .u32 ((rd_T62 x5_1 x36_2).f2.f0))) (fun _ hk => hk.2) (.int .u16 ((rd_T62 x5_1 x36_2).f2.f1))) (fun _ hk => ⟨hk.1.1, hk.1.2⟩)⟩
            have n3_ : Aside0 ((((((w31.setCell ⟨gb279, 0, none⟩ (.int .u32 ((rd_T62 x5_1 x36_2).f0.f0))).setCell ⟨gb279, 1, none⟩ (.int .i64 ((rd_T62 x5_1 x36_2).f0.f1))).setCell ⟨gb279, 2, none⟩ (.int .u32 ((rd_T62 x5_1 x36_2).f1))).setCell ⟨gb279, 3, none⟩ (.int .u32 ((rd_T62 x5_1 x36_2).f2.f0))).setCell ⟨gb279, 4, none⟩ (.int .u16 ((rd_T62 x5_1 x36_2).f2.f1))).heap[gb279]? = some (.cells #[.int .u32 ((rd_T62 x5_1 x36_2).f0.f0), .int .i64 ((rd_T62 x5_1 x36_2).f0.f1), .int .u32 ((rd_T62 x5_1 x36_2).f1), .int .u32 ((rd_T62 x5_1 x36_2).f2.f0), .int .u16 ((rd_T62 x5_1 x36_2).f2.f1)] 62 (0, 0))) := ⟨by (with_reducible repeat (first | refine blk_drewN ?_ _ | refine blk_drew ?_ | refine blk_alloc ?_ _)); refine blk_put (cs := #[.int .u32 ((rd_T62 x5_1 x36_2).f0.f0), .int .i64 ((rd_T62 x5_1 x36_2).f0.f1), .int .u32 ((rd_T62 x5_1 x36_2).f1), .int .u32 ((rd_T62 x5_1 x36_2).f2.f0), .int .u16 0]) ?_ 4 _ rfl; (with_reducible repeat (first | refine blk_drewN ?_ _ | refine blk_drew ?_ | refine blk_alloc ?_ _)); refine blk_put (cs := #[.int .u32 ((rd_T62 x5_1 x36_2).f0.f0), .int .i64 ((rd_T62 x5_1 x36_2).f0.f1), .int .u32 ((rd_T62 x5_1 x36_2).f1), .int .u32 0, .int .u16 0]) ?_ 3 _ rfl; (with_reducible repeat (first | refine blk_drewN ?_ _ | refine blk_drew ?_ | refine blk_alloc ?_ _)); refine blk_put (cs := #[.int .u32 ((rd_T62 x5_1 x36_2).f0.f0), .int .i64 ((rd_T62 x5_1 x36_2).f0.f1), .int .u32 0, .int .u32 0, .int .u16 0]) ?_ 2 _ rfl; (with_reducible repeat (first | refine blk_drewN ?_ _ | refine blk_drew ?_ | refine blk_alloc ?_ _)); refine blk_put (cs := #[.int .u32 ((rd_T62 x5_1 x36_2).f0.f0), .int .i64 0, .int .u32 0, .int .u32 0, .int .u16 0]) ?_ 1 _ rfl; (with_reducible repeat (first | refine blk_drewN ?_ _ | refine blk_drew ?_ | refine blk_alloc ?_ _)); refine blk_put (cs := #[.int .u32 0, .int .i64 0, .int .u32 0, .int .u32 0, .int .u16 0]) ?_ 0 _ rfl; (with_reducible repeat (first | refine blk_drewN ?_ _ | refine blk_drew ?_ | refine blk_alloc ?_ _)); exact BK279.out⟩
            have n4_ : Aside0 (Below w.heap.size w (((((w31.setCell ⟨gb279, 0, none⟩ (.int .u32 ((rd_T62 x5_1 x36_2).f0.f0))).setCell ⟨gb279, 1, none⟩ (.int .i64 ((rd_T62 x5_1 x36_2).f0.f1))).setCell ⟨gb279, 2, none⟩ (.int .u32 ((rd_T62 x5_1 x36_2).f1))).setCell ⟨gb279, 3, none⟩ (.int .u32 ((rd_T62 x5_1 x36_2).f2.f0))).setCell ⟨gb279, 4, none⟩ (.int .u16 ((rd_T62 x5_1 x36_2).f2.f1)))) := ⟨by repeat (first | (with_reducible first | exact HB.out | apply below_alloc | apply pw_below_drewN | apply below_drew1 | refine below_set ?_ GE279.out) | exact HB.out)⟩
            (try clear HO_5)
            (try clear HO_6)
            (try clear HO_34)
            (try clear BK279)
            (try clear HB)
            generalize (((((w31.setCell ⟨gb279, 0, none⟩ (.int .u32 ((rd_T62 x5_1 x36_2).f0.f0))).setCell ⟨gb279, 1, none⟩ (.int .i64 ((rd_T62 x5_1 x36_2).f0.f1))).setCell ⟨gb279, 2, none⟩ (.int .u32 ((rd_T62 x5_1 x36_2).f1))).setCell ⟨gb279, 3, none⟩ (.int .u32 ((rd_T62 x5_1 x36_2).f2.f0))).setCell ⟨gb279, 4, none⟩ (.int .u16 ((rd_T62 x5_1 x36_2).f2.f1))) = w33 at n0_ n1_ n2_ n3_ n4_ ⊢
            have HO_5 := n0_
            have HO_6 := n1_
            have HO_34 := n2_
            have BK279 := n3_
            have HB := n4_
            clear n0_ n1_ n2_ n3_ n4_
            have n0_ := Aside0.mk (Kd.R_drew HO_5.out)
            have n1_ := Aside0.mk (Kd.R_drew HO_6.out)
            have n2_ := Aside0.mk (Kd.R_drew HO_34.out)
            have n3_ := Aside0.mk (blk_drew BK279.out)
            have n4_ := Aside0.mk (below_drew1 HB.out)
            clear HO_5
            clear HO_6
            clear HO_34
            clear BK279
            clear HB
            have HO_5 := n0_
            have HO_6 := n1_
            have HO_34 := n2_
            have BK279 := n3_
            have HB := n4_
            clear n0_ n1_ n2_ n3_ n4_
            refine start_ (n := 5) (S := fun w' => w'.cell? ⟨gb279, 0, none⟩ = some (.int .u32 ((rd_T62 x5_1 x36_2).f0.f0)) ∧ w'.cell? ⟨gb279, 1, none⟩ = some (.int .i64 ((rd_T62 x5_1 x36_2).f0.f1)) ∧ w'.cell? ⟨gb279, 2, none⟩ = some (.int .u32 ((rd_T62 x5_1 x36_2).f1)) ∧ w'.cell? ⟨gb279, 3, none⟩ = some (.int .u32 ((rd_T62 x5_1 x36_2).f2.f0)) ∧ w'.cell? ⟨gb279, 4, none⟩ = some (.int .u16 ((rd_T62 x5_1 x36_2).f2.f1))) (ds := []) #[false, false, false, false, false] (by kernel_rfl) rfl rfl ⟨(blk_cell BK279.out 0).trans rfl, (blk_cell BK279.out 1).trans rfl, (blk_cell BK279.out 2).trans rfl, (blk_cell BK279.out 3).trans rfl, (blk_cell BK279.out 4).trans rfl⟩ (fun hHeld => ?_)
            generalize w33.drew = w34 at HO_5 HO_6 HO_34 BK279 HB hHeld ⊢
            refine take_ (i := 0) (N := some 40) (v := ?_) (a' := ?_) #[true, false, false, false, false] rfl rfl (by kernel_rfl) (fun _ _ _ h => h) (Or.inl ⟨by rfl, ?_⟩) hHeld ?_ ?_; rotate_left
            · rintro w' ⟨s0, s1, s2, s3, s4⟩
              go_simp
              with_reducible rfl
            rotate_left
            · simp only [Act.put, List.setIfInBounds_toArray, List.set_cons_zero, List.set_cons_succ, i64_w, i32_w]; rfl
            refine take_ (i := 2) (N := some 42) (v := ?_) (a' := ?_) #[true, false, true, false, false] rfl rfl (by kernel_rfl) (fun _ _ _ h => h) (Or.inl ⟨by rfl, ?_⟩) hHeld ?_ ?_; rotate_left
            · rintro w' ⟨s0, s1, s2, s3, s4⟩
              go_simp
              with_reducible rfl
            rotate_left
            · simp only [Act.put, List.setIfInBounds_toArray, List.set_cons_zero, List.set_cons_succ, i64_w, i32_w]; rfl
            refine one_ (i := 1) (N := some 41) #[true, true, true, false, false] rfl rfl (by kernel_rfl) (by decide) (fun K hK => ?_)
            refine goes_ Try.func35 (by kernel_rfl) rfl #[.agg #[.int .u32 ((rd_T62 x5_1 x36_2).f0.f0), .int .i64 ((rd_T62 x5_1 x36_2).f0.f1), .int .u32 ((rd_T62 x5_1 x36_2).f1), .int .u32 ((rd_T62 x5_1 x36_2).f2.f0), .int .u16 ((rd_T62 x5_1 x36_2).f2.f1)]] (by rfl) rfl rfl (by (try simp only [List.map_toArray, List.map_cons, List.map_nil]); first | done | rfl | (simp only [List.length_drop, List.length_take]; rfl)) ?_
            with_reducible refine (tlv_Update_Right.calls ((rd_T62 x5_1 x36_2).f0.f0) ((rd_T62 x5_1 x36_2).f0.f1) ((rd_T62 x5_1 x36_2).f1) ((rd_T62 x5_1 x36_2).f2.f0) ((rd_T62 x5_1 x36_2).f2.f1) t280 _ A19.out).mono ?_
            rintro e w35 ⟨rfl, hb⟩
            refine ⟨_, rfl, ?_⟩
            have n0_ := Aside0.mk (Kd.R_below (by (with_reducible repeat (first | apply Kd.R_alloc | apply Kd.R_drewN | apply Kd.R_drew)); exact HO_5.out) hb)
            have n1_ := Aside0.mk (Kd.R_below (by (with_reducible repeat (first | apply Kd.R_alloc | apply Kd.R_drewN | apply Kd.R_drew)); exact HO_6.out) hb)
            have n2_ := Aside0.mk (Kd.R_below (by (with_reducible repeat (first | apply Kd.R_alloc | apply Kd.R_drewN | apply Kd.R_drew)); exact HO_34.out) hb)
            have n3_ := Aside0.mk (blk_below (g := gb279) (o := .cells #[.int .u32 ((rd_T62 x5_1 x36_2).f0.f0), .int .i64 ((rd_T62 x5_1 x36_2).f0.f1), .int .u32 ((rd_T62 x5_1 x36_2).f1), .int .u32 ((rd_T62 x5_1 x36_2).f2.f0), .int .u16 ((rd_T62 x5_1 x36_2).f2.f1)] 62 (0, 0)) (by (with_reducible repeat (first | refine blk_drewN ?_ _ | refine blk_drew ?_ | refine blk_alloc ?_ _)); exact BK279.out) hb)
            have n4_ := Aside0.mk (below_step (by repeat (first | (with_reducible first | exact HB.out | apply below_alloc | apply pw_below_drewN | apply below_drew1 | refine below_set ?_ GE279.out) | exact HB.out)) hb)
            clear HO_5
            clear HO_6
            clear HO_34
            clear BK279
            clear HB
            have HO_5 := n0_
            have HO_6 := n1_
            have HO_34 := n2_
            have BK279 := n3_
            have HB := n4_
            clear n0_ n1_ n2_ n3_ n4_
            (try clear hb)
            (try clear hb2)
            (try clear hk)
            (try clear hi)
            refine hK.out _ _ ⟨(blk_cell BK279.out 0).trans rfl, (blk_cell BK279.out 1).trans rfl, (blk_cell BK279.out 2).trans rfl, (blk_cell BK279.out 3).trans rfl, (blk_cell BK279.out 4).trans rfl⟩ (fun hHeld => ?_)
            clear hK K
            refine norm_ (a' := ?_) ?_ ?_
            rotate_left
            · show Act.put _ (some 41) _ = _
              simp only [Act.put, List.setIfInBounds_toArray, List.set_cons_zero, List.set_cons_succ, i64_w, i32_w]
              rfl
            refine one_ (i := 3) (N := some 43) #[true, true, true, true, false] rfl rfl (by kernel_rfl) (by decide) (fun K hK => ?_)
            refine goes_ Try.func36 (by kernel_rfl) rfl #[.agg #[.int .u32 ((rd_T62 x5_1 x36_2).f0.f0), .int .i64 ((rd_T62 x5_1 x36_2).f0.f1), .int .u32 ((rd_T62 x5_1 x36_2).f1), .int .u32 ((rd_T62 x5_1 x36_2).f2.f0), .int .u16 ((rd_T62 x5_1 x36_2).f2.f1)]] (by rfl) rfl rfl (by (try simp only [List.map_toArray, List.map_cons, List.map_nil]); first | done | rfl | (simp only [List.length_drop, List.length_take]; rfl)) ?_
            with_reducible refine (wayfarerlaw08_Right.calls k2 ((rd_T62 x5_1 x36_2).f0.f0) ((rd_T62 x5_1 x36_2).f0.f1) ((rd_T62 x5_1 x36_2).f1) ((rd_T62 x5_1 x36_2).f2.f0) ((rd_T62 x5_1 x36_2).f2.f1) t281 _ A20.out).mono ?_
            rintro e w36 ⟨rfl, hb⟩
            refine ⟨_, rfl, ?_⟩
            have n0_ := Aside0.mk (Kd.R_below (by (with_reducible repeat (first | apply Kd.R_alloc | apply Kd.R_drewN | apply Kd.R_drew)); exact HO_5.out) hb)
            have n1_ := Aside0.mk (Kd.R_below (by (with_reducible repeat (first | apply Kd.R_alloc | apply Kd.R_drewN | apply Kd.R_drew)); exact HO_6.out) hb)
            have n2_ := Aside0.mk (Kd.R_below (by (with_reducible repeat (first | apply Kd.R_alloc | apply Kd.R_drewN | apply Kd.R_drew)); exact HO_34.out) hb)
            have n3_ := Aside0.mk (blk_below (g := gb279) (o := .cells #[.int .u32 ((rd_T62 x5_1 x36_2).f0.f0), .int .i64 ((rd_T62 x5_1 x36_2).f0.f1), .int .u32 ((rd_T62 x5_1 x36_2).f1), .int .u32 ((rd_T62 x5_1 x36_2).f2.f0), .int .u16 ((rd_T62 x5_1 x36_2).f2.f1)] 62 (0, 0)) (by (with_reducible repeat (first | refine blk_drewN ?_ _ | refine blk_drew ?_ | refine blk_alloc ?_ _)); exact BK279.out) hb)
            have n4_ := Aside0.mk (below_step (by repeat (first | (with_reducible first | exact HB.out | apply below_alloc | apply pw_below_drewN | apply below_drew1 | refine below_set ?_ GE279.out) | exact HB.out)) hb)
            clear HO_5
            clear HO_6
            clear HO_34
            clear BK279
            clear HB
            have HO_5 := n0_
            have HO_6 := n1_
            have HO_34 := n2_
            have BK279 := n3_
            have HB := n4_
            clear n0_ n1_ n2_ n3_ n4_
            (try clear hb)
            (try clear hb2)
            (try clear hk)
            (try clear hi)
            refine hK.out _ _ ⟨(blk_cell BK279.out 0).trans rfl, (blk_cell BK279.out 1).trans rfl, (blk_cell BK279.out 2).trans rfl, (blk_cell BK279.out 3).trans rfl, (blk_cell BK279.out 4).trans rfl⟩ (fun hHeld => ?_)
            clear hK K
            refine norm_ (a' := ?_) ?_ ?_
            rotate_left
            · show Act.put _ (some 43) _ = _
              simp only [Act.put, List.setIfInBounds_toArray, List.set_cons_zero, List.set_cons_succ, i64_w, i32_w]
              rfl
            refine pure_ (i := 4) (N := some 44) (v := ?_) (a' := ?_) #[true, true, true, true, true] rfl rfl (by kernel_rfl) (fun _ _ _ h => h) (Or.inl ⟨by rfl, ?_⟩) ?_ ?_; rotate_left
            · intro w'; go_simp; with_reducible rfl
            rotate_left; · simp only [Act.put, List.setIfInBounds_toArray, List.set_cons_zero, List.set_cons_succ, i64_w, i32_w]; rfl
            refine done_ (by kernel_rfl) ?_
            have hcz37_0 : w36.cell? ⟨gb279, 0, none⟩ = some (.int .u32 ((rd_T62 x5_1 x36_2).f0.f0)) := (blk_cell BK279.out 0).trans rfl
            have hcz37_1 : w36.cell? ⟨gb279, 1, none⟩ = some (.int .i64 ((rd_T62 x5_1 x36_2).f0.f1)) := (blk_cell BK279.out 1).trans rfl
            have hcz37_2 : w36.cell? ⟨gb279, 2, none⟩ = some (.int .u32 ((rd_T62 x5_1 x36_2).f1)) := (blk_cell BK279.out 2).trans rfl
            have hcz37_3 : w36.cell? ⟨gb279, 3, none⟩ = some (.int .u32 ((rd_T62 x5_1 x36_2).f2.f0)) := (blk_cell BK279.out 3).trans rfl
            have hcz37_4 : w36.cell? ⟨gb279, 4, none⟩ = some (.int .u16 ((rd_T62 x5_1 x36_2).f2.f1)) := (blk_cell BK279.out 4).trans rfl
            have hfz37_0 := blk_frozen BK279.out 0
            have hfz37_1 := blk_frozen BK279.out 1
            have hfz37_2 := blk_frozen BK279.out 2
            have hfz37_3 := blk_frozen BK279.out 3
            have hfz37_4 := blk_frozen BK279.out 4
            try go_wp2_with (first | ((with_reducible refine gate_callee (f := 36) rfl ?_); refine goesL_ (some 46) rfl rfl Try.func36 (by kernel_rfl) rfl #[.agg #[.int .u32 ((rd_T62 x5_1 x36_2).f0.f0), .int .i64 ((rd_T62 x5_1 x36_2).f0.f1), .int .u32 ((rd_T62 x5_1 x36_2).f1), .int .u32 ((rd_T62 x5_1 x36_2).f2.f0), .int .u16 ((rd_T62 x5_1 x36_2).f2.f1)]] rfl (by (try simp only [List.map_toArray, List.map_cons, List.map_nil]); first | done | rfl | (simp only [List.length_drop, List.length_take]; rfl)) ?_; (with_reducible refine (wayfarerlaw08_Right.calls k2 ((rd_T62 x5_1 x36_2).f0.f0) ((rd_T62 x5_1 x36_2).f0.f1) ((rd_T62 x5_1 x36_2).f1) ((rd_T62 x5_1 x36_2).f2.f0) ((rd_T62 x5_1 x36_2).f2.f1) true _ A28.out).mono ?_); rintro e w38 ⟨rfl, hb⟩; refine ⟨_, rfl, ?_⟩; have n0_ := Aside0.mk (Kd.R_below (by (with_reducible repeat (first | apply Kd.R_alloc | apply Kd.R_drewN | apply Kd.R_drew)); exact HO_5.out) hb); have n1_ := Aside0.mk (Kd.R_below (by (with_reducible repeat (first | apply Kd.R_alloc | apply Kd.R_drewN | apply Kd.R_drew)); exact HO_6.out) hb); have n2_ := Aside0.mk (Kd.R_below (by (with_reducible repeat (first | apply Kd.R_alloc | apply Kd.R_drewN | apply Kd.R_drew)); exact HO_34.out) hb); have n3_ := Aside0.mk (blk_below (g := gb279) (o := .cells #[.int .u32 ((rd_T62 x5_1 x36_2).f0.f0), .int .i64 ((rd_T62 x5_1 x36_2).f0.f1), .int .u32 ((rd_T62 x5_1 x36_2).f1), .int .u32 ((rd_T62 x5_1 x36_2).f2.f0), .int .u16 ((rd_T62 x5_1 x36_2).f2.f1)] 62 (0, 0)) (by (with_reducible repeat (first | refine blk_drewN ?_ _ | refine blk_drew ?_ | refine blk_alloc ?_ _)); exact BK279.out) hb); have n4_ := Aside0.mk (below_step (by repeat (first | (with_reducible first | exact HB.out | apply below_alloc | apply pw_below_drewN | apply below_drew1 | refine below_set ?_ GE279.out) | exact HB.out)) hb); clear HO_5; clear HO_6; clear HO_34; clear BK279; clear HB; have HO_5 := n0_; have HO_6 := n1_; have HO_34 := n2_; have BK279 := n3_; have HB := n4_; clear n0_ n1_ n2_ n3_ n4_; (try clear hb); (try clear hb2); (try clear hk); (try clear hi); have hcz39_0 : w38.cell? ⟨gb279, 0, none⟩ = some (.int .u32 ((rd_T62 x5_1 x36_2).f0.f0)) := (blk_cell BK279.out 0).trans rfl; have hcz39_1 : w38.cell? ⟨gb279, 1, none⟩ = some (.int .i64 ((rd_T62 x5_1 x36_2).f0.f1)) := (blk_cell BK279.out 1).trans rfl; have hcz39_2 : w38.cell? ⟨gb279, 2, none⟩ = some (.int .u32 ((rd_T62 x5_1 x36_2).f1)) := (blk_cell BK279.out 2).trans rfl; have hcz39_3 : w38.cell? ⟨gb279, 3, none⟩ = some (.int .u32 ((rd_T62 x5_1 x36_2).f2.f0)) := (blk_cell BK279.out 3).trans rfl; have hcz39_4 : w38.cell? ⟨gb279, 4, none⟩ = some (.int .u16 ((rd_T62 x5_1 x36_2).f2.f1)) := (blk_cell BK279.out 4).trans rfl; have hfz39_0 := blk_frozen BK279.out 0; have hfz39_1 := blk_frozen BK279.out 1; have hfz39_2 := blk_frozen BK279.out 2; have hfz39_3 := blk_frozen BK279.out 3; have hfz39_4 := blk_frozen BK279.out 4) | ((with_reducible refine gate_builtin (b := .append) (xs := #[.tmp 47, .tmp 49]) rfl ?_); (try (refine gate_guard (by rfl) ?_; dsimp only)); at_builtin; refine Kd.R_append k62 (w0 := w) w.heap.size rfl (.tmp 47) (.tmp 49) 60 62 (.agg #[(.int .u32 0), (.int .i64 0), (.int .u32 0), (.int .u32 0), (.int .u16 0)]) 32 rfl Try.underlying60 info62 rfl (by decide) (by omega) u6 x6_2 (⟨(⟨(rd_T62 x5_1 x36_2).f0.f0, (rd_T62 x5_1 x36_2).f0.f1⟩ : S29), (rd_T62 x5_1 x36_2).f1, (⟨(rd_T62 x5_1 x36_2).f2.f0, (rd_T62 x5_1 x36_2).f2.f1⟩ : S39)⟩ : S62) [.int .u32 ((rd_T62 x5_1 x36_2).f0.f0), .int .i64 ((rd_T62 x5_1 x36_2).f0.f1), .int .u32 ((rd_T62 x5_1 x36_2).f1), .int .u32 ((rd_T62 x5_1 x36_2).f2.f0), .int .u16 ((rd_T62 x5_1 x36_2).f2.f1)] (fun k_ => some k_ ≠ (.slice (some ad278) x5_1.length co15 : Value).ownBlock ∧ some k_ ≠ (.slice (some ad278) x5_1.length co15 : Value).ownBlock ∧ k_ ≠ gb279) (fun _ => False) rfl rfl ?aP (fun _ hk => hk.elim) ?aF ?aO ?aB ?aS ?aL ?_; (case aP => exact k62_mkM _ _ _ (⟨(⟨(rd_T62 x5_1 x36_2).f0.f0, (rd_T62 x5_1 x36_2).f0.f1⟩ : S29), (rd_T62 x5_1 x36_2).f1, (⟨(rd_T62 x5_1 x36_2).f2.f0, (rd_T62 x5_1 x36_2).f2.f1⟩ : S39)⟩ : S62)); (case aB => exact (by repeat (first | (with_reducible first | exact HB.out | apply below_alloc | apply pw_below_drewN | apply below_drew1 | refine below_set ?_ GE279.out) | exact HB.out))); (case aF => exact (fun k_ hk => ⟨Kd.fresh' (Kd.R_lt (by (with_reducible repeat (first | apply Kd.R_alloc | apply Kd.R_drewN | apply Kd.R_drew)); exact HO_5.out)) k_ hk, Kd.fresh' (Kd.R_lt (by (with_reducible repeat (first | apply Kd.R_alloc | apply Kd.R_drewN | apply Kd.R_drew)); exact HO_34.out)) k_ hk, Kd.freshB (g := gb279) (o := .cells #[.int .u32 ((rd_T62 x5_1 x36_2).f0.f0), .int .i64 ((rd_T62 x5_1 x36_2).f0.f1), .int .u32 ((rd_T62 x5_1 x36_2).f1), .int .u32 ((rd_T62 x5_1 x36_2).f2.f0), .int .u16 ((rd_T62 x5_1 x36_2).f2.f1)] 62 (0, 0)) (by (with_reducible repeat (first | refine blk_drewN ?_ _ | refine blk_drew ?_ | refine blk_alloc ?_ _)); exact BK279.out) k_ hk⟩)); (case aO => exact (by (with_reducible repeat (first | apply Kd.R_alloc | apply Kd.R_drewN | apply Kd.R_drew)); exact HO_6.out)); (case aS => exact (below_size (by repeat (first | (with_reducible first | exact HB.out | apply below_alloc | apply pw_below_drewN | apply below_drew1 | refine below_set ?_ GE279.out) | exact HB.out)))); (case aL => have := LMc30.out; omega); intro v284 w40 ho hb hg hat; rw [← Ny283.out] at ho; have n0_ := Aside0.mk (Kd.R_after (ok := (fun k_ => k_ ≠ gb279)) (by (with_reducible repeat (first | apply Kd.R_alloc | apply Kd.R_drewN | apply Kd.R_drew)); exact Kd.R_mono HO_5.out (fun _ hk => by first | exact ⟨hk.2, hk.1⟩ | exact hk | exact ⟨hk.1.2, hk.2⟩ | exact ⟨hk.2, hk.1.2⟩)) hg hat); have n1_ := Aside0.mk (Kd.R_after (ok := (fun k_ => k_ ≠ gb279)) (by (with_reducible repeat (first | apply Kd.R_alloc | apply Kd.R_drewN | apply Kd.R_drew)); exact Kd.R_mono HO_34.out (fun _ hk => by first | exact ⟨hk.2, hk.1⟩ | exact hk | exact ⟨hk.1.2, hk.2⟩ | exact ⟨hk.2, hk.1.2⟩)) hg hat); have n2_ := Aside0.mk (blk_grown (g := gb279) (o := .cells #[.int .u32 ((rd_T62 x5_1 x36_2).f0.f0), .int .i64 ((rd_T62 x5_1 x36_2).f0.f1), .int .u32 ((rd_T62 x5_1 x36_2).f1), .int .u32 ((rd_T62 x5_1 x36_2).f2.f0), .int .u16 ((rd_T62 x5_1 x36_2).f2.f1)] 62 (0, 0)) (by (with_reducible repeat (first | refine blk_drewN ?_ _ | refine blk_drew ?_ | refine blk_alloc ?_ _)); exact BK279.out) hg (Kd.R_away HO_6.out (fun _ hk => hk.2.2))); have n3_ := Aside0.mk (hb); have n4_ := Aside0.mk (ho); clear HO_5; clear HO_34; clear BK279; clear HB; clear HO_6; have HO_5 := n0_; have HO_34 := n1_; have BK279 := n2_; have HB := n3_; have HO285 := n4_; clear n0_ n1_ n2_ n3_ n4_; clear ho hb hg hat))
            go_roundg k2
            case measure => have := HK1.out; have := HK2.out; omega
            case rel => exact ⟨(y283), (wrap64 (x36_2 + 1)), (by first | rfl | (simp; done) | (simp [*]; done)), H', ⟨by have := HK1.out; have := HK2.out; omega⟩, ⟨by (with_reducible repeat (first | apply Kd.R_alloc | apply Kd.R_drewN | apply Kd.R_drew)); exact Kd.R_mono HO_5.out (fun _ hk => hk.2)⟩, ⟨by (with_reducible repeat (first | apply Kd.R_alloc | apply Kd.R_drewN | apply Kd.R_drew)); exact Kd.R_mono HO285.out (fun _ hk => ⟨hk.1, hk.2.1⟩)⟩, ⟨by (with_reducible repeat (first | apply Kd.R_alloc | apply Kd.R_drewN | apply Kd.R_drew)); exact Kd.R_mono HO_34.out (fun _ hk => hk.2)⟩, ⟨by repeat (first | (with_reducible first | exact HB.out | apply below_alloc | apply pw_below_drewN | apply below_drew1 | refine below_set ?_ GE279.out) | exact HB.out)⟩⟩
          rw [if_neg c16] at H; have c16b0 : decide (x36_2 < (x5_1.length : Int)) = false := decide_eq_false c16
          clear c16
          replace H := Option.bind_eq_some_iff.mp H
          obtain ⟨t286, A490, H⟩ := H
          replace H : ((wayfarerlaw08_encode.f k2 x5_1).bind fun t289 => (if (t286.length : Int) = (t289.length : Int) then (wayfarerlaw08_TlvTells.l2 k2 x6_2 t289 (([] : List (S62))) t286 (t286.length : Int) 0) else (some false))) = some r := H
          have A49 := Aside0.mk A490
          clear A490
          replace H := Option.bind_eq_some_iff.mp H
          obtain ⟨t289, A500, H⟩ := H
          replace H : (if (t286.length : Int) = (t289.length : Int) then (wayfarerlaw08_TlvTells.l2 k2 x6_2 t289 (([] : List (S62))) t286 (t286.length : Int) 0) else (some false)) = some r := H
          have A50 := Aside0.mk A500
          clear A500
          obtain ⟨y292, hy292⟩ : ∃ y_ : List (S62), y_ = (([] : List (S62))) := ⟨_, rfl⟩
          replace H : (if (t286.length : Int) = (t289.length : Int) then (wayfarerlaw08_TlvTells.l2 k2 x6_2 t289 y292 t286 (t286.length : Int) 0) else (some false)) = some r := by first | (rw [hy292]; with_reducible exact H) | (have H2_ := (Option.bind_some _ _).symm.trans H; rw [hy292]; with_reducible exact H2_) | (have H2_ := (Option.bind_some _ _).symm.trans H; with_reducible exact H2_) | with_reducible exact H | (rw [hy292]; exact H) | exact H
          have Ny292 := Aside0.mk hy292
          clear hy292
          by_cases c51 : (t286.length : Int) = (t289.length : Int)
          case neg =>
            rw [if_neg c51] at H; have c51b0 : ((t286.length : Int) == (t289.length : Int)) = false := beq_eq_false_iff_ne.mpr c51
            have c51b1 : ((t286.length : Int) != (t289.length : Int)) = true := bne_iff_ne.mpr c51
            have c51b2 : (t286.length == t289.length) = false := by first | simpa using c51 | (simp at c51 ⊢; omega)
            obtain rfl := Option.some.inj H
            go_wp2_with (first | ((with_reducible refine gate_callee (f := 37) rfl ?_); refine goesL_ (some 53) rfl rfl Try.func37 (by kernel_rfl) rfl #[.slice Ao15 x5_1.length co15] rfl (by (try simp only [List.map_toArray, List.map_cons, List.map_nil]); first | done | rfl | (simp only [List.length_drop, List.length_take]; rfl)) ?_; (with_reducible refine (tlv_Encode.calls k2 _ _ x5_1 t286 _ ?side1 ?side2 A49.out).mono ?_); (case side1 => repeat (first | exact (Kd.R_reads' HO_5.out).2.2 | (with_reducible refine Kd.C_alloc ?_ _) | (with_reducible refine Kd.C_drewN ?_ _) | (with_reducible refine Kd.C_drew ?_))); (case side2 => exact (Kd.R_reads' HO_5.out).2.1); rintro e w89 ⟨v287, rfl, ho0, hb⟩; refine ⟨_, rfl, ?_⟩; have n0_ := Aside0.mk (Kd.R_below (by (with_reducible repeat (first | apply Kd.R_alloc | apply Kd.R_drewN | apply Kd.R_drew)); exact HO_5.out) hb); have n1_ := Aside0.mk (Kd.R_below (by (with_reducible repeat (first | apply Kd.R_alloc | apply Kd.R_drewN | apply Kd.R_drew)); exact HO_6.out) hb); have n2_ := Aside0.mk (Kd.R_below (by (with_reducible repeat (first | apply Kd.R_alloc | apply Kd.R_drewN | apply Kd.R_drew)); exact HO_34.out) hb); have n3_ := Aside0.mk (Kd.S_lower ho0 (below_size (by repeat (first | (with_reducible first | exact HB.out | apply below_alloc | apply pw_below_drewN | apply below_drew1) | exact HB.out)))); have n4_ := Aside0.mk (below_step (by repeat (first | (with_reducible first | exact HB.out | apply below_alloc | apply pw_below_drewN | apply below_drew1) | exact HB.out)) hb); clear HO_5; clear HO_6; clear HO_34; clear HB; have HO_5 := n0_; have HO_6 := n1_; have HO_34 := n2_; have HO288 := n3_; have HB := n4_; clear n0_ n1_ n2_ n3_ n4_; (try clear hb); (try clear hb2); (try clear hk); (try clear hi); (try clear ho0)) | ((with_reducible refine gate_callee (f := 38) rfl ?_); refine goesL_ (some 55) rfl rfl Try.func38 (by kernel_rfl) rfl #[.slice Ao15 x5_1.length co15] rfl (by (try simp only [List.map_toArray, List.map_cons, List.map_nil]); first | done | rfl | (simp only [List.length_drop, List.length_take]; rfl)) ?_; (with_reducible refine (wayfarerlaw08_encode.calls k2 _ _ x5_1 t289 _ ?side1 ?side2 A50.out).mono ?_); (case side1 => repeat (first | exact (Kd.R_reads' HO_5.out).2.2 | (with_reducible refine Kd.C_alloc ?_ _) | (with_reducible refine Kd.C_drewN ?_ _) | (with_reducible refine Kd.C_drew ?_))); (case side2 => exact (Kd.R_reads' HO_5.out).2.1); rintro e w90 ⟨v290, rfl, ho0, hb⟩; refine ⟨_, rfl, ?_⟩; have n0_ := Aside0.mk (Kd.R_below (by (with_reducible repeat (first | apply Kd.R_alloc | apply Kd.R_drewN | apply Kd.R_drew)); exact HO_5.out) hb); have n1_ := Aside0.mk (Kd.R_below (by (with_reducible repeat (first | apply Kd.R_alloc | apply Kd.R_drewN | apply Kd.R_drew)); exact HO_6.out) hb); have n2_ := Aside0.mk (Kd.R_below (by (with_reducible repeat (first | apply Kd.R_alloc | apply Kd.R_drewN | apply Kd.R_drew)); exact HO_34.out) hb); have n3_ := Aside0.mk (Kd.S_elder' (by (with_reducible repeat (first | apply Kd.S_alloc | apply Kd.S_drewN | apply Kd.S_drew)); exact HO288.out) (Kd.S_base ho0) hb); have n4_ := Aside0.mk (Kd.S_lower (Kd.S_new' ho0 (Kd.S_lt (by (with_reducible repeat (first | apply Kd.S_alloc | apply Kd.S_drewN | apply Kd.S_drew)); exact HO288.out))) (below_size (by repeat (first | (with_reducible first | exact HB.out | apply below_alloc | apply pw_below_drewN | apply below_drew1) | exact HB.out)))); have n5_ := Aside0.mk (below_step (by repeat (first | (with_reducible first | exact HB.out | apply below_alloc | apply pw_below_drewN | apply below_drew1) | exact HB.out)) hb); clear HO_5; clear HO_6; clear HO_34; clear HO288; clear HB; have HO_5 := n0_; have HO_6 := n1_; have HO_34 := n2_; have HO288 := n3_; have HO291 := n4_; have HB := n5_; clear n0_ n1_ n2_ n3_ n4_ n5_; (try clear hb); (try clear hb2); (try clear hk); (try clear hi); (try clear ho0)) | ((with_reducible refine gate_dst (N := 56) rfl ?_); (try (refine gate_guard (by rfl) ?_; dsimp only)); refine Kd.R_lit k62 _ 62 ?hg (N := 56) ?hd (xs := ([] : List (S62))) (inner := []) (ok := fun _ => True) (okp := fun _ => True) ?hr ?hp (fun _ hk => hk) trivial (Below.refl _ _) (Nat.le_refl _) (by simp) ?_; (case hd => rfl); (case hg => rfl); (case hr => first | (go_simp; done) | (go_simp; rfl)); (case hp => exact (Reps.none _ _)); intro v293 w91 ho92 hb hg_ hnew_; clear hg_ hnew_; (first | rw [← Ny292.out] at ho92 | (simp only [Int.reduceToNat] at ho92; rw [← Ny292.out] at ho92)); have n0_ := Aside0.mk (Kd.R_elder' (by (with_reducible repeat (first | apply Kd.R_alloc | apply Kd.R_drewN | apply Kd.R_drew)); exact HO_5.out) (Kd.R_base ho92) hb); have n1_ := Aside0.mk (Kd.R_elder' (by (with_reducible repeat (first | apply Kd.R_alloc | apply Kd.R_drewN | apply Kd.R_drew)); exact HO_6.out) (Kd.R_base ho92) hb); have n2_ := Aside0.mk (Kd.R_elder' (by (with_reducible repeat (first | apply Kd.R_alloc | apply Kd.R_drewN | apply Kd.R_drew)); exact HO_34.out) (Kd.R_base ho92) hb); have n3_ := Aside0.mk (Kd.S_below (by (with_reducible repeat (first | apply Kd.S_alloc | apply Kd.S_drewN | apply Kd.S_drew)); exact HO288.out) hb); have n4_ := Aside0.mk (Kd.S_below (by (with_reducible repeat (first | apply Kd.S_alloc | apply Kd.S_drewN | apply Kd.S_drew)); exact HO291.out) hb); have n5_ := Aside0.mk (Kd.R_lower (Kd.R_new' (Kd.R_new' (Kd.R_new' ho92 (Kd.R_lt (by (with_reducible repeat (first | apply Kd.R_alloc | apply Kd.R_drewN | apply Kd.R_drew)); exact HO_5.out))) (Kd.R_lt (by (with_reducible repeat (first | apply Kd.R_alloc | apply Kd.R_drewN | apply Kd.R_drew)); exact HO_6.out))) (Kd.R_lt (by (with_reducible repeat (first | apply Kd.R_alloc | apply Kd.R_drewN | apply Kd.R_drew)); exact HO_34.out))) (below_size (by repeat (first | (with_reducible first | exact HB.out | apply below_alloc | apply pw_below_drewN | apply below_drew1) | exact HB.out)))); have n6_ := Aside0.mk (below_step (by repeat (first | (with_reducible first | exact HB.out | apply below_alloc | apply pw_below_drewN | apply below_drew1) | exact HB.out)) hb); clear HO_5; clear HO_6; clear HO_34; clear HO288; clear HO291; clear HB; have HO_5 := n0_; have HO_6 := n1_; have HO_34 := n2_; have HO288 := n3_; have HO291 := n4_; have HO294 := n5_; have HB := n6_; clear n0_ n1_ n2_ n3_ n4_ n5_ n6_; clear hb ho92; obtain ⟨Ao93, co93, eo93⟩ := Kd.S_slice HO288.out; subst eo93; obtain ⟨Ao94, co94, eo94⟩ := Kd.S_slice HO291.out; subst eo94))
            go_ret
            exact ⟨by first | rfl | (simp [errW_none, errW_some] <;> rfl) | (simp [*, errW_none, errW_some] <;> rfl), by repeat (first | (with_reducible first | exact HB.out | apply below_alloc | apply pw_below_drewN | apply below_drew1) | exact HB.out)⟩
          rw [if_pos c51] at H; have c51b0 : ((t286.length : Int) == (t289.length : Int)) = true := beq_iff_eq.mpr c51
          have c51b1 : ((t286.length : Int) != (t289.length : Int)) = false := bne_eq_false_iff_eq.mpr c51
          have c51b2 : (t286.length == t289.length) = true := by first | simpa using c51 | (simp at c51 ⊢; omega)
          clear c51
          have H' := Aside0.mk H
          clear H
          go_wp2_with (first | ((with_reducible refine gate_callee (f := 37) rfl ?_); refine goesL_ (some 53) rfl rfl Try.func37 (by kernel_rfl) rfl #[.slice Ao15 x5_1.length co15] rfl (by (try simp only [List.map_toArray, List.map_cons, List.map_nil]); first | done | rfl | (simp only [List.length_drop, List.length_take]; rfl)) ?_; (with_reducible refine (tlv_Encode.calls k2 _ _ x5_1 t286 _ ?side1 ?side2 A49.out).mono ?_); (case side1 => repeat (first | exact (Kd.R_reads' HO_5.out).2.2 | (with_reducible refine Kd.C_alloc ?_ _) | (with_reducible refine Kd.C_drewN ?_ _) | (with_reducible refine Kd.C_drew ?_))); (case side2 => exact (Kd.R_reads' HO_5.out).2.1); rintro e w52 ⟨v287, rfl, ho0, hb⟩; refine ⟨_, rfl, ?_⟩; have n0_ := Aside0.mk (Kd.R_below (by (with_reducible repeat (first | apply Kd.R_alloc | apply Kd.R_drewN | apply Kd.R_drew)); exact HO_5.out) hb); have n1_ := Aside0.mk (Kd.R_below (by (with_reducible repeat (first | apply Kd.R_alloc | apply Kd.R_drewN | apply Kd.R_drew)); exact HO_6.out) hb); have n2_ := Aside0.mk (Kd.R_below (by (with_reducible repeat (first | apply Kd.R_alloc | apply Kd.R_drewN | apply Kd.R_drew)); exact HO_34.out) hb); have n3_ := Aside0.mk (Kd.S_lower ho0 (below_size (by repeat (first | (with_reducible first | exact HB.out | apply below_alloc | apply pw_below_drewN | apply below_drew1) | exact HB.out)))); have n4_ := Aside0.mk (below_step (by repeat (first | (with_reducible first | exact HB.out | apply below_alloc | apply pw_below_drewN | apply below_drew1) | exact HB.out)) hb); clear HO_5; clear HO_6; clear HO_34; clear HB; have HO_5 := n0_; have HO_6 := n1_; have HO_34 := n2_; have HO288 := n3_; have HB := n4_; clear n0_ n1_ n2_ n3_ n4_; (try clear hb); (try clear hb2); (try clear hk); (try clear hi); (try clear ho0)) | ((with_reducible refine gate_callee (f := 38) rfl ?_); refine goesL_ (some 55) rfl rfl Try.func38 (by kernel_rfl) rfl #[.slice Ao15 x5_1.length co15] rfl (by (try simp only [List.map_toArray, List.map_cons, List.map_nil]); first | done | rfl | (simp only [List.length_drop, List.length_take]; rfl)) ?_; (with_reducible refine (wayfarerlaw08_encode.calls k2 _ _ x5_1 t289 _ ?side1 ?side2 A50.out).mono ?_); (case side1 => repeat (first | exact (Kd.R_reads' HO_5.out).2.2 | (with_reducible refine Kd.C_alloc ?_ _) | (with_reducible refine Kd.C_drewN ?_ _) | (with_reducible refine Kd.C_drew ?_))); (case side2 => exact (Kd.R_reads' HO_5.out).2.1); rintro e w53 ⟨v290, rfl, ho0, hb⟩; refine ⟨_, rfl, ?_⟩; have n0_ := Aside0.mk (Kd.R_below (by (with_reducible repeat (first | apply Kd.R_alloc | apply Kd.R_drewN | apply Kd.R_drew)); exact HO_5.out) hb); have n1_ := Aside0.mk (Kd.R_below (by (with_reducible repeat (first | apply Kd.R_alloc | apply Kd.R_drewN | apply Kd.R_drew)); exact HO_6.out) hb); have n2_ := Aside0.mk (Kd.R_below (by (with_reducible repeat (first | apply Kd.R_alloc | apply Kd.R_drewN | apply Kd.R_drew)); exact HO_34.out) hb); have n3_ := Aside0.mk (Kd.S_elder' (by (with_reducible repeat (first | apply Kd.S_alloc | apply Kd.S_drewN | apply Kd.S_drew)); exact HO288.out) (Kd.S_base ho0) hb); have n4_ := Aside0.mk (Kd.S_lower (Kd.S_new' ho0 (Kd.S_lt (by (with_reducible repeat (first | apply Kd.S_alloc | apply Kd.S_drewN | apply Kd.S_drew)); exact HO288.out))) (below_size (by repeat (first | (with_reducible first | exact HB.out | apply below_alloc | apply pw_below_drewN | apply below_drew1) | exact HB.out)))); have n5_ := Aside0.mk (below_step (by repeat (first | (with_reducible first | exact HB.out | apply below_alloc | apply pw_below_drewN | apply below_drew1) | exact HB.out)) hb); clear HO_5; clear HO_6; clear HO_34; clear HO288; clear HB; have HO_5 := n0_; have HO_6 := n1_; have HO_34 := n2_; have HO288 := n3_; have HO291 := n4_; have HB := n5_; clear n0_ n1_ n2_ n3_ n4_ n5_; (try clear hb); (try clear hb2); (try clear hk); (try clear hi); (try clear ho0)) | ((with_reducible refine gate_dst (N := 56) rfl ?_); (try (refine gate_guard (by rfl) ?_; dsimp only)); refine Kd.R_lit k62 _ 62 ?hg (N := 56) ?hd (xs := ([] : List (S62))) (inner := []) (ok := fun _ => True) (okp := fun _ => True) ?hr ?hp (fun _ hk => hk) trivial (Below.refl _ _) (Nat.le_refl _) (by simp) ?_; (case hd => rfl); (case hg => rfl); (case hr => first | (go_simp; done) | (go_simp; rfl)); (case hp => exact (Reps.none _ _)); intro v293 w54 ho55 hb hg_ hnew_; clear hg_ hnew_; (first | rw [← Ny292.out] at ho55 | (simp only [Int.reduceToNat] at ho55; rw [← Ny292.out] at ho55)); have n0_ := Aside0.mk (Kd.R_elder' (by (with_reducible repeat (first | apply Kd.R_alloc | apply Kd.R_drewN | apply Kd.R_drew)); exact HO_5.out) (Kd.R_base ho55) hb); have n1_ := Aside0.mk (Kd.R_elder' (by (with_reducible repeat (first | apply Kd.R_alloc | apply Kd.R_drewN | apply Kd.R_drew)); exact HO_6.out) (Kd.R_base ho55) hb); have n2_ := Aside0.mk (Kd.R_elder' (by (with_reducible repeat (first | apply Kd.R_alloc | apply Kd.R_drewN | apply Kd.R_drew)); exact HO_34.out) (Kd.R_base ho55) hb); have n3_ := Aside0.mk (Kd.S_below (by (with_reducible repeat (first | apply Kd.S_alloc | apply Kd.S_drewN | apply Kd.S_drew)); exact HO288.out) hb); have n4_ := Aside0.mk (Kd.S_below (by (with_reducible repeat (first | apply Kd.S_alloc | apply Kd.S_drewN | apply Kd.S_drew)); exact HO291.out) hb); have n5_ := Aside0.mk (Kd.R_lower (Kd.R_new' (Kd.R_new' (Kd.R_new' ho55 (Kd.R_lt (by (with_reducible repeat (first | apply Kd.R_alloc | apply Kd.R_drewN | apply Kd.R_drew)); exact HO_5.out))) (Kd.R_lt (by (with_reducible repeat (first | apply Kd.R_alloc | apply Kd.R_drewN | apply Kd.R_drew)); exact HO_6.out))) (Kd.R_lt (by (with_reducible repeat (first | apply Kd.R_alloc | apply Kd.R_drewN | apply Kd.R_drew)); exact HO_34.out))) (below_size (by repeat (first | (with_reducible first | exact HB.out | apply below_alloc | apply pw_below_drewN | apply below_drew1) | exact HB.out)))); have n6_ := Aside0.mk (below_step (by repeat (first | (with_reducible first | exact HB.out | apply below_alloc | apply pw_below_drewN | apply below_drew1) | exact HB.out)) hb); clear HO_5; clear HO_6; clear HO_34; clear HO288; clear HO291; clear HB; have HO_5 := n0_; have HO_6 := n1_; have HO_34 := n2_; have HO288 := n3_; have HO291 := n4_; have HO294 := n5_; have HB := n6_; clear n0_ n1_ n2_ n3_ n4_ n5_ n6_; clear hb ho55; obtain ⟨Ao56, co56, eo56⟩ := Kd.S_slice HO288.out; subst eo56; obtain ⟨Ao57, co57, eo57⟩ := Kd.S_slice HO291.out; subst eo57))
          go_loopg [12, 64] k2 (fun kq v12 v64 w' => ∃ (x12_3 : List (S62)) (x64_3 : Int), v64 = .int .i64 x64_3 ∧ Aside0 (wayfarerlaw08_TlvTells.l2 kq x6_2 t289 x12_3 t286 (t286.length : Int) x64_3 = some r) ∧ Aside0 (kq ≤ k2) ∧ Aside0 (Kd.R k62 62 w' w.heap.size (fun k_ => some k_ ≠ (v12 : Value).ownBlock) u6 x6_2) ∧ Aside0 (Kd.S (Kd.slice 5 (Kd.int .u8)) 22 w' w.heap.size (fun k_ => some k_ ≠ ((.slice Ao56 t286.length co56) : Value).ownBlock) (.slice Ao57 t289.length co57) t289) ∧ Aside0 (Kd.R k62 62 w' w.heap.size (fun k_ => some k_ ≠ (u6 : Value).ownBlock) v12 x12_3) ∧ Aside0 (Kd.S (Kd.slice 5 (Kd.int .u8)) 22 w' w.heap.size (fun k_ => some k_ ≠ ((.slice Ao57 t289.length co57) : Value).ownBlock) (.slice Ao56 t286.length co56) t286) ∧ Aside0 (Below w.heap.size w w'))
          case atStart => exact ⟨(y292), (0), (by first | rfl | (simp; done) | (simp [*]; done)), H', ⟨Nat.le_refl _⟩, ⟨by (with_reducible repeat (first | apply Kd.R_alloc | apply Kd.R_drewN | apply Kd.R_drew)); exact Kd.R_mono HO_6.out (fun _ hk => hk.2)⟩, ⟨by (with_reducible repeat (first | apply Kd.S_alloc | apply Kd.S_drewN | apply Kd.S_drew)); exact Kd.S_mono HO291.out (fun _ hk => hk.2)⟩, ⟨by (with_reducible repeat (first | apply Kd.R_alloc | apply Kd.R_drewN | apply Kd.R_drew)); exact Kd.R_mono HO294.out (fun _ hk => hk.1.2)⟩, ⟨by (with_reducible repeat (first | apply Kd.S_alloc | apply Kd.S_drewN | apply Kd.S_drew)); exact Kd.S_mono HO288.out (fun _ hk => hk.2)⟩, ⟨by repeat (first | (with_reducible first | exact HB.out | apply below_alloc | apply pw_below_drewN | apply below_drew1) | exact HB.out)⟩⟩
          case round =>
            clear H'
            try clear c1; try clear c2; try clear p2; try clear q2; try clear hx2; try clear c3; try clear c4; try clear c5; try clear c5b0; try clear c5b1; try clear p6; try clear c10; try clear c12; try clear c12b0; try clear c13; try clear c16; try clear c16b0; try clear c17; try clear c17b0; try clear c18; try clear c18b0; try clear c21; try clear c21b0; try clear c21b1; try clear c21b2
            try clear p27; try clear q27; try clear hx27; try clear c29; try clear c30; try clear c34; try clear c35; try clear c36; try clear c37; try clear c38; try clear c51; try clear c51b0; try clear c51b1; try clear c51b2; try clear hcz23_0; try clear hcz23_1; try clear hcz23_2; try clear hcz23_3; try clear hcz23_4; try clear hcz32_0; try clear hcz32_1; try clear hcz32_2; try clear hcz32_3
            try clear hcz32_4; try clear hcz37_0; try clear hcz37_1; try clear hcz37_2; try clear hcz37_3; try clear hcz37_4; try clear hcz39_0; try clear hcz39_1; try clear hcz39_2; try clear hcz39_3; try clear hcz39_4; try clear hcz42_0; try clear hcz42_1; try clear hcz42_2; try clear hcz42_3; try clear hcz42_4; try clear hcz47_0; try clear hcz47_1; try clear hcz47_2; try clear hcz47_3
            try clear hcz47_4; try clear hfz23_0; try clear hfz23_1; try clear hfz23_2; try clear hfz23_3; try clear hfz23_4; try clear hfz32_0; try clear hfz32_1; try clear hfz32_2; try clear hfz32_3; try clear hfz32_4; try clear hfz37_0; try clear hfz37_1; try clear hfz37_2; try clear hfz37_3; try clear hfz37_4; try clear hfz39_0; try clear hfz39_1; try clear hfz39_2; try clear hfz39_3
            try clear hfz39_4; try clear hfz42_0; try clear hfz42_1; try clear hfz42_2; try clear hfz42_3; try clear hfz42_4; try clear hfz47_0; try clear hfz47_1; try clear hfz47_2; try clear hfz47_3; try clear hfz47_4; try clear hx278_0; try clear hx278_1; try clear hx278_2; try clear hx278_3; try clear hx278_4; try clear p2; try clear p278; try clear p6; try clear q278
            obtain ⟨x12_3, x64_3, rfl, HA, HK3, HO_6, HO_11, HO_12, HO_62, HB⟩ := hrel
            cases gk with
            | zero => exact absurd HA.out (by simp [wayfarerlaw08_TlvTells.l2])
            | succ k3 =>
              have H := HA.out
              clear HA
              simp only [wayfarerlaw08_TlvTells.l2] at H
              by_cases c58 : x64_3 < (t286.length : Int)
              case neg =>
                rw [if_neg c58] at H; have c58b0 : decide (x64_3 < (t286.length : Int)) = false := decide_eq_false c58
                clear c58
                replace H := Option.bind_eq_some_iff.mp H
                obtain ⟨t304, A860, H⟩ := H
                replace H : (some t304) = some r := H
                have A86 := Aside0.mk A860
                clear A860
                obtain rfl := Option.some.inj H
                obtain ⟨Ao87, co87, eo87⟩ := Kd.R_slice HO_12.out
                subst eo87
                obtain ⟨Ao88, co88, eo88⟩ := Kd.R_slice HO_6.out
                subst eo88
                go_wp2_with (first | ((with_reducible refine gate_callee (f := 40) rfl ?_); refine goesL_ (some 97) rfl rfl Try.func40 (by kernel_rfl) rfl #[.slice Ao87 x12_3.length co87, .slice Ao88 x6_2.length co88] rfl (by (try simp only [List.map_toArray, List.map_cons, List.map_nil]); first | done | rfl | (simp only [List.length_drop, List.length_take]; rfl)) ?_; (with_reducible refine (wayfarerlaw08_Same.calls k3 _ _ x12_3 _ _ x6_2 t304 _ ?side1 ?side2 ?side3 ?side4 A86.out).mono ?_); (case side1 => repeat (first | exact (Kd.R_reads' HO_12.out).2.2 | (with_reducible refine Kd.C_alloc ?_ _) | (with_reducible refine Kd.C_drewN ?_ _) | (with_reducible refine Kd.C_drew ?_))); (case side2 => exact (Kd.R_reads' HO_12.out).2.1); (case side3 => repeat (first | exact (Kd.R_reads' HO_6.out).2.2 | (with_reducible refine Kd.C_alloc ?_ _) | (with_reducible refine Kd.C_drewN ?_ _) | (with_reducible refine Kd.C_drew ?_))); (case side4 => exact (Kd.R_reads' HO_6.out).2.1); rintro e w' ⟨rfl, ⟨nd, rfl⟩⟩; refine ⟨_, rfl, ?_⟩))
                go_ret
                exact ⟨by first | rfl | (simp [errW_none, errW_some] <;> rfl) | (simp [*, errW_none, errW_some] <;> rfl), by repeat (first | (with_reducible first | exact HB.out | apply below_alloc | apply pw_below_drewN | apply below_drew1) | exact HB.out)⟩
              rw [if_pos c58] at H; have c58b0 : decide (x64_3 < (t286.length : Int)) = true := decide_eq_true c58
              clear c58
              by_cases c59 : 0 ≤ x64_3
              case neg =>
                rw [if_neg c59] at H; exact absurd H (by simp)
              rw [if_pos c59] at H; have c59b0 : decide (0 ≤ x64_3) = true := decide_eq_true c59
              clear c59
              by_cases c60 : x64_3 < (t286.length : Int)
              case neg =>
                rw [if_neg c60] at H; exact absurd H (by simp)
              rw [if_pos c60] at H; have c60b0 : decide (x64_3 < (t286.length : Int)) = true := decide_eq_true c60
              clear c60
              replace H := Option.bind_eq_some_iff.mp H
              obtain ⟨⟨t296, t299⟩, A610, H⟩ := H
              replace H : (if t299 = true then (if x64_3 < (t289.length : Int) then (if (strOfNums (rd_L9 t286 x64_3)).toList = (strOfNums (rd_L9 t289 x64_3)).toList then (if ((rd_L9 t286 x64_3).length : Int) > 1024 then (some false) else (if x12_3.length + t296.length < 4398046511104 then (wayfarerlaw08_TlvTells.l2 k3 x6_2 t289 (x12_3 ++ t296) t286 (t286.length : Int) (wrap64 (x64_3 + 1))) else (none))) else (some false)) else (none)) else (some false)) = some r := H
              have A61 := Aside0.mk A610
              clear A610
              by_cases c62 : t299 = true
              case neg =>
                replace c62 := Bool.eq_false_iff.mpr c62
                subst c62
                have H1 : (some false) = some r := by rw [if_neg (show ¬ (false = true) by decide)] at H; exact H
                clear H
                have H := H1
                clear H1
                obtain rfl := Option.some.inj H
                have p295 : 0 ≤ (x64_3 : Int) := of_decide_eq_true (by first | (with_reducible assumption) | assumption)
                have q295 : x64_3 < (t286.length : Int) := of_decide_eq_true (by first | (with_reducible assumption) | assumption)
                obtain ⟨ad295, A295_0, c295_0, e295, hx295_0, hl295_0, hi295_0⟩ := at_L9 (Kd.S_reads' HO_62.out).2.2 x64_3 p295 q295
                cases e295
                obtain ⟨ce295, hce295, hMe295, hcc295⟩ := Kd.S_get HO_62.out [] x64_3 p295 (by first | exact q295 | exact of_decide_eq_true (by first | (with_reducible assumption) | assumption) | (have e_ := (Kd.S_reads' HO_62.out).1; omega))
                obtain ⟨ve295_0, rfl, ge295_0⟩ := hMe295
                have hv295_0 := hcc295 0 _ rfl
                rw [Nat.add_zero, show ((Kd.slice 5 (Kd.int .u8))).sz = 1 from rfl, Nat.mul_one] at hv295_0
                replace hv295_0 := Option.some.inj (hv295_0.symm.trans hx295_0)
                rw [hv295_0] at ge295_0
                have HL295_0 := Aside0.mk (show Kd.R (Kd.int .u8) 5 _ _ _ _ (rd_L9 t286 x64_3) from ge295_0)
                clear hv295_0 ge295_0
                clear hcc295 hce295
                have HR295_0 := Aside0.mk hi295_0
                have HC295_0 := Aside0.mk hl295_0
                clear hi295_0 hl295_0
                replace p295 := eq_true p295
                replace q295 := eq_true q295
                try go_wp2_with (first | ((with_reducible refine gate_callee (f := 39) rfl ?_); refine goesL_ (some 71) rfl rfl Try.func39 (by kernel_rfl) rfl #[.slice A295_0 (rd_L9 t286 x64_3).length c295_0] rfl (by (try simp only [List.map_toArray, List.map_cons, List.map_nil]); first | done | rfl | (simp only [List.length_drop, List.length_take]; rfl)) ?_; (with_reducible refine (tlv_Decode.calls k3 (fun k_ => some k_ = (.slice A295_0 (rd_L9 t286 x64_3).length c295_0 : Value).ownBlock) _ _ (rd_L9 t286 x64_3) t296 false _ ?side1 A61.out).mono ?_); (case side1 => exact Kd.R_V (Kd.R_tight rfl (Kd.R_apart' (Kd.R_apart' (HL295_0.out) (Kd.R_typed HO_6.out) (by decide)) (Kd.R_typed HO_12.out) (by decide)))); rintro e w84 ⟨v297, rfl, ho0, hb⟩; refine ⟨_, rfl, ?_⟩; have n0_ := Aside0.mk (Kd.R_elder' (by (with_reducible repeat (first | apply Kd.R_alloc | apply Kd.R_drewN | apply Kd.R_drew)); exact HO_6.out) (Kd.R_base ho0) hb); have n1_ := Aside0.mk (Kd.S_below (by (with_reducible repeat (first | apply Kd.S_alloc | apply Kd.S_drewN | apply Kd.S_drew)); exact HO_11.out) hb); have n2_ := Aside0.mk (Kd.R_elder' (by (with_reducible repeat (first | apply Kd.R_alloc | apply Kd.R_drewN | apply Kd.R_drew)); exact HO_12.out) (Kd.R_base ho0) hb); have n3_ := Aside0.mk (Kd.S_below (by (with_reducible repeat (first | apply Kd.S_alloc | apply Kd.S_drewN | apply Kd.S_drew)); exact HO_62.out) hb); have n4_ := Aside0.mk (Kd.R_below (by (with_reducible repeat (first | apply Kd.R_alloc | apply Kd.R_drewN | apply Kd.R_drew)); exact HL295_0.out) hb); have n5_ := Aside0.mk (Kd.R_lower (Kd.R_new' (Kd.R_new' (Kd.R_mono (ok' := fun k_ => True) ho0 (fun _ hk_ => trivial)) (Kd.R_lt (by (with_reducible repeat (first | apply Kd.R_alloc | apply Kd.R_drewN | apply Kd.R_drew)); exact HO_6.out))) (Kd.R_lt (by (with_reducible repeat (first | apply Kd.R_alloc | apply Kd.R_drewN | apply Kd.R_drew)); exact HO_12.out))) (below_size (by repeat (first | (with_reducible first | exact HB.out | apply below_alloc | apply pw_below_drewN | apply below_drew1) | exact HB.out)))); have n6_ := Aside0.mk (Kd.C_below (by repeat (first | (with_reducible exact HR295_0.out) | (with_reducible refine Kd.C_alloc ?_ _) | (with_reducible refine Kd.C_drewN ?_ _) | (with_reducible refine Kd.C_drew ?_) | exact HR295_0.out)) hb); have n7_ := Aside0.mk (below_step (by repeat (first | (with_reducible first | exact HB.out | apply below_alloc | apply pw_below_drewN | apply below_drew1) | exact HB.out)) hb); clear HO_6; clear HO_11; clear HO_12; clear HO_62; clear HL295_0; clear HR295_0; clear HB; have HO_6 := n0_; have HO_11 := n1_; have HO_12 := n2_; have HO_62 := n3_; have HL295_0 := n4_; have HO298 := n5_; have HR295_0 := n6_; have HB := n7_; clear n0_ n1_ n2_ n3_ n4_ n5_ n6_ n7_; (try clear hb); (try clear hb2); (try clear hk); (try clear hi); (try clear ho0)))
                have n0_ := Aside0.mk (Kd.R_drew HO_6.out)
                have n1_ := Aside0.mk (Kd.S_drew HO_11.out)
                have n2_ := Aside0.mk (Kd.R_drew HO_12.out)
                have n3_ := Aside0.mk (Kd.S_drew HO_62.out)
                have n4_ := Aside0.mk (Kd.R_drew HL295_0.out)
                have n5_ := Aside0.mk (Kd.R_drew HO298.out)
                have n6_ := Aside0.mk (Kd.C_drew HR295_0.out)
                have n7_ := Aside0.mk (below_drew1 HB.out)
                clear HO_6
                clear HO_11
                clear HO_12
                clear HO_62
                clear HL295_0
                clear HO298
                clear HR295_0
                clear HB
                have HO_6 := n0_
                have HO_11 := n1_
                have HO_12 := n2_
                have HO_62 := n3_
                have HL295_0 := n4_
                have HO298 := n5_
                have HR295_0 := n6_
                have HB := n7_
                clear n0_ n1_ n2_ n3_ n4_ n5_ n6_ n7_
                refine start_ (n := 17) (S := fun w' => True) (ds := []) (bA 17 0) (by kernel_rfl) rfl rfl trivial (fun hHeld => ?_); refine with_tabW wayfarerlaw08_TlvTells.tab28 wayfarerlaw08_TlvTells.bits28 (fun HT_ HW_ => ?_)
                generalize w84.drew = w85 at HO_6 HO_11 HO_12 HO_62 HL295_0 HO298 HR295_0 HB hHeld ⊢
                refine pure_ (i := 0) (N := some 74) (v := ?_) (a' := ?_) (bA 17 1) rfl rfl (any_of HT_.out (by kernel_rfl)) (fun _ _ _ h => h) (Or.inl ⟨by rfl, ?_⟩) ?_ ?_; rotate_left
                · intro w'; go_simp; with_reducible rfl
                rotate_left; · simp only [Act.put, List.setIfInBounds_toArray, List.set_cons_zero, List.set_cons_succ, i64_w, i32_w]; rfl
                refine pure_ (i := 1) (N := some 75) (v := ?_) (a' := ?_) (bA 17 3) rfl rfl (any_of HT_.out (by kernel_rfl)) (fun _ _ _ h => h) (Or.inl ⟨by rfl, ?_⟩) ?_ ?_; rotate_left
                · intro w'; go_simp; with_reducible rfl
                rotate_left; · simp only [Act.put, List.setIfInBounds_toArray, List.set_cons_zero, List.set_cons_succ, i64_w, i32_w]; rfl
                refine pure_ (i := 2) (N := some 76) (v := ?_) (a' := ?_) (bA 17 7) rfl rfl (any_of HT_.out (by kernel_rfl)) (fun _ _ _ h => h) (Or.inl ⟨by rfl, ?_⟩) ?_ ?_; rotate_left
                · intro w'; go_simp; with_reducible rfl
                rotate_left; · simp only [Act.put, List.setIfInBounds_toArray, List.set_cons_zero, List.set_cons_succ, i64_w, i32_w]; rfl
                refine pure_ (i := 3) (N := some 77) (v := undef) (a' := ?_) (bA 17 15) rfl rfl (any_of HT_.out (by kernel_rfl)) (fun _ _ _ h => h) (Or.inr ⟨by rfl, rfl⟩) ?_ ?_; rotate_left
                · simp only [Act.put, List.setIfInBounds_toArray, List.set_cons_zero, List.set_cons_succ, i64_w, i32_w]; rfl
                refine pure_ (i := 4) (N := some 78) (v := undef) (a' := ?_) (bA 17 31) rfl rfl (any_of HT_.out (by kernel_rfl)) (fun _ _ _ h => h) (Or.inr ⟨by rfl, rfl⟩) ?_ ?_; rotate_left
                · simp only [Act.put, List.setIfInBounds_toArray, List.set_cons_zero, List.set_cons_succ, i64_w, i32_w]; rfl
                refine pure_ (i := 5) (N := some 79) (v := undef) (a' := ?_) (bA 17 63) rfl rfl (any_of HT_.out (by kernel_rfl)) (fun _ _ _ h => h) (Or.inr ⟨by rfl, rfl⟩) ?_ ?_; rotate_left
                · simp only [Act.put, List.setIfInBounds_toArray, List.set_cons_zero, List.set_cons_succ, i64_w, i32_w]; rfl
                refine pure_ (i := 6) (N := some 80) (v := undef) (a' := ?_) (bA 17 127) rfl rfl (any_of HT_.out (by kernel_rfl)) (fun _ _ _ h => h) (Or.inr ⟨by rfl, rfl⟩) ?_ ?_; rotate_left
                · simp only [Act.put, List.setIfInBounds_toArray, List.set_cons_zero, List.set_cons_succ, i64_w, i32_w]; rfl
                refine pure_ (i := 7) (N := some 81) (v := undef) (a' := ?_) (bA 17 255) rfl rfl (any_of HT_.out (by kernel_rfl)) (fun _ _ _ h => h) (Or.inr ⟨by rfl, rfl⟩) ?_ ?_; rotate_left
                · simp only [Act.put, List.setIfInBounds_toArray, List.set_cons_zero, List.set_cons_succ, i64_w, i32_w]; rfl
                refine pure_ (i := 8) (N := some 82) (v := undef) (a' := ?_) (bA 17 511) rfl rfl (any_of HT_.out (by kernel_rfl)) (fun _ _ _ h => h) (Or.inr ⟨by rfl, rfl⟩) ?_ ?_; rotate_left
                · simp only [Act.put, List.setIfInBounds_toArray, List.set_cons_zero, List.set_cons_succ, i64_w, i32_w]; rfl
                refine pure_ (i := 9) (N := some 83) (v := undef) (a' := ?_) (bA 17 1023) rfl rfl (any_of HT_.out (by kernel_rfl)) (fun _ _ _ h => h) (Or.inr ⟨by rfl, rfl⟩) ?_ ?_; rotate_left
                · simp only [Act.put, List.setIfInBounds_toArray, List.set_cons_zero, List.set_cons_succ, i64_w, i32_w]; rfl
                refine pure_ (i := 10) (N := some 84) (v := undef) (a' := ?_) (bA 17 2047) rfl rfl (any_of HT_.out (by kernel_rfl)) (fun _ _ _ h => h) (Or.inr ⟨by rfl, rfl⟩) ?_ ?_; rotate_left
                · simp only [Act.put, List.setIfInBounds_toArray, List.set_cons_zero, List.set_cons_succ, i64_w, i32_w]; rfl
                refine pure_ (i := 11) (N := some 85) (v := ?_) (a' := ?_) (bA 17 4095) rfl rfl (any_of HT_.out (by kernel_rfl)) (fun _ _ _ h => h) (Or.inl ⟨by rfl, ?_⟩) ?_ ?_; rotate_left
                · intro w'; go_simp; with_reducible rfl
                rotate_left; · simp only [Act.put, List.setIfInBounds_toArray, List.set_cons_zero, List.set_cons_succ, i64_w, i32_w]; rfl
                refine pure_ (i := 12) (N := some 86) (v := ?_) (a' := ?_) (bA 17 8191) rfl rfl (any_of HT_.out (by kernel_rfl)) (fun _ _ _ h => h) (Or.inl ⟨by rfl, ?_⟩) ?_ ?_; rotate_left
                · intro w'; go_simp; with_reducible rfl
                rotate_left; · simp only [Act.put, List.setIfInBounds_toArray, List.set_cons_zero, List.set_cons_succ, i64_w, i32_w]; rfl
                refine pure_ (i := 13) (N := some 87) (v := undef) (a' := ?_) (bA 17 16383) rfl rfl (any_of HT_.out (by kernel_rfl)) (fun _ _ _ h => h) (Or.inr ⟨by rfl, rfl⟩) ?_ ?_; rotate_left
                · simp only [Act.put, List.setIfInBounds_toArray, List.set_cons_zero, List.set_cons_succ, i64_w, i32_w]; rfl
                refine pure_ (i := 14) (N := some 88) (v := undef) (a' := ?_) (bA 17 32767) rfl rfl (any_of HT_.out (by kernel_rfl)) (fun _ _ _ h => h) (Or.inr ⟨by rfl, rfl⟩) ?_ ?_; rotate_left
                · simp only [Act.put, List.setIfInBounds_toArray, List.set_cons_zero, List.set_cons_succ, i64_w, i32_w]; rfl
                refine pure_ (i := 15) (N := some 89) (v := undef) (a' := ?_) (bA 17 65535) rfl rfl (any_of HT_.out (by kernel_rfl)) (fun _ _ _ h => h) (Or.inr ⟨by rfl, rfl⟩) ?_ ?_; rotate_left
                · simp only [Act.put, List.setIfInBounds_toArray, List.set_cons_zero, List.set_cons_succ, i64_w, i32_w]; rfl
                refine pure_ (i := 16) (N := some 90) (v := ?_) (a' := ?_) (bA 17 131071) rfl rfl (any_of HT_.out (by kernel_rfl)) (fun _ _ _ h => h) (Or.inl ⟨by rfl, ?_⟩) ?_ ?_; rotate_left
                · intro w'; go_simp; with_reducible rfl
                rotate_left; · simp only [Act.put, List.setIfInBounds_toArray, List.set_cons_zero, List.set_cons_succ, i64_w, i32_w]; rfl
                refine done_ (done_of HT_.out (by kernel_rfl)) ?_
                try go_wp2
                go_ret
                exact ⟨by first | rfl | (simp [errW_none, errW_some] <;> rfl) | (simp [*, errW_none, errW_some] <;> rfl), by repeat (first | (with_reducible first | exact HB.out | apply below_alloc | apply pw_below_drewN | apply below_drew1) | exact HB.out)⟩
              subst c62
              have H1 : (if x64_3 < (t289.length : Int) then (if (strOfNums (rd_L9 t286 x64_3)).toList = (strOfNums (rd_L9 t289 x64_3)).toList then (if ((rd_L9 t286 x64_3).length : Int) > 1024 then (some false) else (if x12_3.length + t296.length < 4398046511104 then (wayfarerlaw08_TlvTells.l2 k3 x6_2 t289 (x12_3 ++ t296) t286 (t286.length : Int) (wrap64 (x64_3 + 1))) else (none))) else (some false)) else (none)) = some r := by rw [if_pos rfl] at H; exact H
              clear H
              have H := H1
              clear H1
              by_cases c63 : x64_3 < (t289.length : Int)
              case neg =>
                rw [if_neg c63] at H; exact absurd H (by simp)
              rw [if_pos c63] at H; have c63b0 : decide (x64_3 < (t289.length : Int)) = true := decide_eq_true c63
              clear c63
              by_cases c64 : (strOfNums (rd_L9 t286 x64_3)).toList = (strOfNums (rd_L9 t289 x64_3)).toList
              case neg =>
                rw [if_neg c64] at H; have c64b0 : ((strOfNums (rd_L9 t286 x64_3)).toList == (strOfNums (rd_L9 t289 x64_3)).toList) = false := beq_eq_false_iff_ne.mpr c64
                have c64b1 : ((strOfNums (rd_L9 t286 x64_3)).toList != (strOfNums (rd_L9 t289 x64_3)).toList) = true := bne_iff_ne.mpr c64
                obtain rfl := Option.some.inj H
                have p295 : 0 ≤ (x64_3 : Int) := of_decide_eq_true (by first | (with_reducible assumption) | assumption)
                have q295 : x64_3 < (t286.length : Int) := of_decide_eq_true (by first | (with_reducible assumption) | assumption)
                obtain ⟨ad295, A295_0, c295_0, e295, hx295_0, hl295_0, hi295_0⟩ := at_L9 (Kd.S_reads' HO_62.out).2.2 x64_3 p295 q295
                cases e295
                obtain ⟨ce295, hce295, hMe295, hcc295⟩ := Kd.S_get HO_62.out [] x64_3 p295 (by first | exact q295 | exact of_decide_eq_true (by first | (with_reducible assumption) | assumption) | (have e_ := (Kd.S_reads' HO_62.out).1; omega))
                obtain ⟨ve295_0, rfl, ge295_0⟩ := hMe295
                have hv295_0 := hcc295 0 _ rfl
                rw [Nat.add_zero, show ((Kd.slice 5 (Kd.int .u8))).sz = 1 from rfl, Nat.mul_one] at hv295_0
                replace hv295_0 := Option.some.inj (hv295_0.symm.trans hx295_0)
                rw [hv295_0] at ge295_0
                have HL295_0 := Aside0.mk (show Kd.R (Kd.int .u8) 5 _ _ _ _ (rd_L9 t286 x64_3) from ge295_0)
                clear hv295_0 ge295_0
                clear hcc295 hce295
                have HR295_0 := Aside0.mk hi295_0
                have HC295_0 := Aside0.mk hl295_0
                clear hi295_0 hl295_0
                replace p295 := eq_true p295
                replace q295 := eq_true q295
                try go_wp2_with (first | ((with_reducible refine gate_callee (f := 39) rfl ?_); refine goesL_ (some 71) rfl rfl Try.func39 (by kernel_rfl) rfl #[.slice A295_0 (rd_L9 t286 x64_3).length c295_0] rfl (by (try simp only [List.map_toArray, List.map_cons, List.map_nil]); first | done | rfl | (simp only [List.length_drop, List.length_take]; rfl)) ?_; (with_reducible refine (tlv_Decode.calls k3 (fun k_ => some k_ = (.slice A295_0 (rd_L9 t286 x64_3).length c295_0 : Value).ownBlock) _ _ (rd_L9 t286 x64_3) t296 true _ ?side1 A61.out).mono ?_); (case side1 => exact Kd.R_V (Kd.R_tight rfl (Kd.R_apart' (Kd.R_apart' (HL295_0.out) (Kd.R_typed HO_6.out) (by decide)) (Kd.R_typed HO_12.out) (by decide)))); rintro e w79 ⟨v297, rfl, ho0, hb⟩; refine ⟨_, rfl, ?_⟩; have n0_ := Aside0.mk (Kd.R_elder' (by (with_reducible repeat (first | apply Kd.R_alloc | apply Kd.R_drewN | apply Kd.R_drew)); exact HO_6.out) (Kd.R_base ho0) hb); have n1_ := Aside0.mk (Kd.S_below (by (with_reducible repeat (first | apply Kd.S_alloc | apply Kd.S_drewN | apply Kd.S_drew)); exact HO_11.out) hb); have n2_ := Aside0.mk (Kd.R_elder' (by (with_reducible repeat (first | apply Kd.R_alloc | apply Kd.R_drewN | apply Kd.R_drew)); exact HO_12.out) (Kd.R_base ho0) hb); have n3_ := Aside0.mk (Kd.S_below (by (with_reducible repeat (first | apply Kd.S_alloc | apply Kd.S_drewN | apply Kd.S_drew)); exact HO_62.out) hb); have n4_ := Aside0.mk (Kd.R_below (by (with_reducible repeat (first | apply Kd.R_alloc | apply Kd.R_drewN | apply Kd.R_drew)); exact HL295_0.out) hb); have n5_ := Aside0.mk (Kd.R_lower (Kd.R_new' (Kd.R_new' (Kd.R_mono (ok' := fun k_ => True) ho0 (fun _ hk_ => trivial)) (Kd.R_lt (by (with_reducible repeat (first | apply Kd.R_alloc | apply Kd.R_drewN | apply Kd.R_drew)); exact HO_6.out))) (Kd.R_lt (by (with_reducible repeat (first | apply Kd.R_alloc | apply Kd.R_drewN | apply Kd.R_drew)); exact HO_12.out))) (below_size (by repeat (first | (with_reducible first | exact HB.out | apply below_alloc | apply pw_below_drewN | apply below_drew1) | exact HB.out)))); have n6_ := Aside0.mk (Kd.C_below (by repeat (first | (with_reducible exact HR295_0.out) | (with_reducible refine Kd.C_alloc ?_ _) | (with_reducible refine Kd.C_drewN ?_ _) | (with_reducible refine Kd.C_drew ?_) | exact HR295_0.out)) hb); have n7_ := Aside0.mk (below_step (by repeat (first | (with_reducible first | exact HB.out | apply below_alloc | apply pw_below_drewN | apply below_drew1) | exact HB.out)) hb); clear HO_6; clear HO_11; clear HO_12; clear HO_62; clear HL295_0; clear HR295_0; clear HB; have HO_6 := n0_; have HO_11 := n1_; have HO_12 := n2_; have HO_62 := n3_; have HL295_0 := n4_; have HO298 := n5_; have HR295_0 := n6_; have HB := n7_; clear n0_ n1_ n2_ n3_ n4_ n5_ n6_ n7_; (try clear hb); (try clear hb2); (try clear hk); (try clear hi); (try clear ho0)))
                have n0_ := Aside0.mk (Kd.R_drew HO_6.out)
                have n1_ := Aside0.mk (Kd.S_drew HO_11.out)
                have n2_ := Aside0.mk (Kd.R_drew HO_12.out)
                have n3_ := Aside0.mk (Kd.S_drew HO_62.out)
                have n4_ := Aside0.mk (Kd.R_drew HL295_0.out)
                have n5_ := Aside0.mk (Kd.R_drew HO298.out)
                have n6_ := Aside0.mk (Kd.C_drew HR295_0.out)
                have n7_ := Aside0.mk (below_drew1 HB.out)
                clear HO_6
                clear HO_11
                clear HO_12
                clear HO_62
                clear HL295_0
                clear HO298
                clear HR295_0
                clear HB
                have HO_6 := n0_
                have HO_11 := n1_
                have HO_12 := n2_
                have HO_62 := n3_
                have HL295_0 := n4_
                have HO298 := n5_
                have HR295_0 := n6_
                have HB := n7_
                clear n0_ n1_ n2_ n3_ n4_ n5_ n6_ n7_
                have p300 : 0 ≤ (x64_3 : Int) := of_decide_eq_true (by first | (with_reducible assumption) | assumption)
                have q300 : x64_3 < (t289.length : Int) := of_decide_eq_true (by first | (with_reducible assumption) | assumption)
                obtain ⟨ad300, A300_0, c300_0, e300, hx300_0, hl300_0, hi300_0⟩ := at_L9 (Kd.S_reads' HO_11.out).2.2 x64_3 p300 q300
                cases e300
                obtain ⟨ce300, hce300, hMe300, hcc300⟩ := Kd.S_get HO_11.out [] x64_3 p300 (by first | exact q300 | exact of_decide_eq_true (by first | (with_reducible assumption) | assumption) | (have e_ := (Kd.S_reads' HO_11.out).1; omega))
                obtain ⟨ve300_0, rfl, ge300_0⟩ := hMe300
                have hv300_0 := hcc300 0 _ rfl
                rw [Nat.add_zero, show ((Kd.slice 5 (Kd.int .u8))).sz = 1 from rfl, Nat.mul_one] at hv300_0
                replace hv300_0 := Option.some.inj (hv300_0.symm.trans hx300_0)
                rw [hv300_0] at ge300_0
                have HL300_0 := Aside0.mk (show Kd.R (Kd.int .u8) 5 _ _ _ _ (rd_L9 t289 x64_3) from ge300_0)
                clear hv300_0 ge300_0
                clear hcc300 hce300
                have HR300_0 := Aside0.mk hi300_0
                have HC300_0 := Aside0.mk hl300_0
                clear hi300_0 hl300_0
                replace p300 := eq_true p300
                replace q300 := eq_true q300
                have hcv81 := Kd.C_string (P := Try.prog) (A := A295_0) (c := c295_0) Try.underlying22 Try.underlying5 Try.underlying9 (by repeat (first | (with_reducible exact HR295_0.out) | (with_reducible refine Kd.C_alloc ?_ _) | (with_reducible refine Kd.C_drewN ?_ _) | (with_reducible refine Kd.C_drew ?_) | exact HR295_0.out))
                have hcv82 := Kd.C_string (P := Try.prog) (A := A300_0) (c := c300_0) Try.underlying22 Try.underlying5 Try.underlying9 (by repeat (first | (with_reducible exact HR300_0.out) | (with_reducible refine Kd.C_alloc ?_ _) | (with_reducible refine Kd.C_drewN ?_ _) | (with_reducible refine Kd.C_drew ?_) | exact HR300_0.out))
                refine start_ (n := 17) (S := fun w' => w'.cell? (ad300.add (x64_3).toNat) = some (.slice A300_0 (rd_L9 t289 x64_3).length c300_0) ∧ (convert 22 9 (.slice A295_0 (rd_L9 t286 x64_3).length c295_0)).run Try.prog w' = .ok (.string (strOfNums (rd_L9 t286 x64_3))) w' ∧ (convert 22 9 (.slice A300_0 (rd_L9 t289 x64_3).length c300_0)).run Try.prog w' = .ok (.string (strOfNums (rd_L9 t289 x64_3))) w') (ds := []) (bA 17 0) (by kernel_rfl) rfl rfl ⟨hx300_0, Kd.C_string (P := Try.prog) (A := A295_0) (c := c295_0) Try.underlying22 Try.underlying5 Try.underlying9 (Kd.C_drew HR295_0.out), Kd.C_string (P := Try.prog) (A := A300_0) (c := c300_0) Try.underlying22 Try.underlying5 Try.underlying9 (Kd.C_drew HR300_0.out)⟩ (fun hHeld => ?_); refine with_tabW wayfarerlaw08_TlvTells.tab28 wayfarerlaw08_TlvTells.bits28 (fun HT_ HW_ => ?_)
                generalize w79.drew = w80 at HO_6 HO_11 HO_12 HO_62 HL295_0 HO298 HR295_0 HB HL300_0 HR300_0 hx300_0 hHeld ⊢
                refine pure_ (i := 0) (N := some 74) (v := ?_) (a' := ?_) (bA 17 1) rfl rfl (any_of HT_.out (by kernel_rfl)) (fun _ _ _ h => h) (Or.inl ⟨by rfl, ?_⟩) ?_ ?_; rotate_left
                · intro w'; go_simp; with_reducible rfl
                rotate_left; · simp only [Act.put, List.setIfInBounds_toArray, List.set_cons_zero, List.set_cons_succ, i64_w, i32_w]; rfl
                refine pure_ (i := 1) (N := some 75) (v := ?_) (a' := ?_) (bA 17 3) rfl rfl (any_of HT_.out (by kernel_rfl)) (fun _ _ _ h => h) (Or.inl ⟨by rfl, ?_⟩) ?_ ?_; rotate_left
                · intro w'; go_simp; with_reducible rfl
                rotate_left; · simp only [Act.put, List.setIfInBounds_toArray, List.set_cons_zero, List.set_cons_succ, i64_w, i32_w]; rfl
                refine pure_ (i := 2) (N := some 76) (v := ?_) (a' := ?_) (bA 17 7) rfl rfl (any_of HT_.out (by kernel_rfl)) (fun _ _ _ h => h) (Or.inl ⟨by rfl, ?_⟩) ?_ ?_; rotate_left
                · intro w'; go_simp; with_reducible rfl
                rotate_left; · simp only [Act.put, List.setIfInBounds_toArray, List.set_cons_zero, List.set_cons_succ, i64_w, i32_w]; rfl
                refine pure_ (i := 3) (N := some 77) (v := ?_) (a' := ?_) (bA 17 15) rfl rfl (any_of HT_.out (by kernel_rfl)) (fun _ _ _ h => h) (Or.inl ⟨by rfl, ?_⟩) ?_ ?_; rotate_left
                · intro w'; go_simp; with_reducible rfl
                rotate_left; · simp only [Act.put, List.setIfInBounds_toArray, List.set_cons_zero, List.set_cons_succ, i64_w, i32_w]; rfl
                refine take_ (i := 4) (N := some 78) (v := ?_) (a' := ?_) (bA 17 31) rfl rfl (take_ofW HT_.out HW_.out (by kernel_rfl)) (fun _ _ _ h => h) (Or.inl ⟨by rfl, ?_⟩) hHeld ?_ ?_; rotate_left
                · intro w' s0; obtain ⟨s0, s1, s2⟩ := s0; go_simp; with_reducible rfl
                rotate_left; · simp only [Act.put, List.setIfInBounds_toArray, List.set_cons_zero, List.set_cons_succ, i64_w, i32_w]; rfl
                refine pure_ (i := 5) (N := some 79) (v := ?_) (a' := ?_) (bA 17 63) rfl rfl (any_of HT_.out (by kernel_rfl)) (fun _ _ _ h => h) (Or.inl ⟨by rfl, ?_⟩) ?_ ?_; rotate_left
                · intro w'; go_simp; with_reducible rfl
                rotate_left; · simp only [Act.put, List.setIfInBounds_toArray, List.set_cons_zero, List.set_cons_succ, i64_w, i32_w]; rfl
                refine pure_ (i := 6) (N := some 80) (v := ?_) (a' := ?_) (bA 17 127) rfl rfl (any_of HT_.out (by kernel_rfl)) (fun _ _ _ h => h) (Or.inl ⟨by rfl, ?_⟩) ?_ ?_; rotate_left
                · intro w'; go_simp; with_reducible rfl
                rotate_left; · simp only [Act.put, List.setIfInBounds_toArray, List.set_cons_zero, List.set_cons_succ, i64_w, i32_w]; rfl
                refine pure_ (i := 7) (N := some 81) (v := ?_) (a' := ?_) (bA 17 255) rfl rfl (any_of HT_.out (by kernel_rfl)) (fun _ _ _ h => h) (Or.inl ⟨by rfl, ?_⟩) ?_ ?_; rotate_left
                · intro w'; go_simp; with_reducible rfl
                rotate_left; · simp only [Act.put, List.setIfInBounds_toArray, List.set_cons_zero, List.set_cons_succ, i64_w, i32_w]; rfl
                refine take_ (i := 8) (N := some 82) (v := ?_) (a' := ?_) (bA 17 511) rfl rfl (take_ofW HT_.out HW_.out (by kernel_rfl)) (fun _ _ _ h => h) (Or.inl ⟨by rfl, ?_⟩) hHeld ?_ ?_; rotate_left
                · intro w' s0; obtain ⟨s0, s1, s2⟩ := s0
                  go_simp
                  with_reducible rfl
                rotate_left
                · simp only [Act.put, List.setIfInBounds_toArray, List.set_cons_zero, List.set_cons_succ, i64_w, i32_w]; rfl
                refine take_ (i := 9) (N := some 83) (v := ?_) (a' := ?_) (bA 17 1023) rfl rfl (take_ofW HT_.out HW_.out (by kernel_rfl)) (fun _ _ _ h => h) (Or.inl ⟨by rfl, ?_⟩) hHeld ?_ ?_; rotate_left
                · intro w' s0; obtain ⟨s0, s1, s2⟩ := s0; go_simp; with_reducible rfl
                rotate_left; · simp only [Act.put, List.setIfInBounds_toArray, List.set_cons_zero, List.set_cons_succ, i64_w, i32_w]; rfl
                refine pure_ (i := 10) (N := some 84) (v := ?_) (a' := ?_) (bA 17 2047) rfl rfl (any_of HT_.out (by kernel_rfl)) (fun _ _ _ h => h) (Or.inl ⟨by rfl, ?_⟩) ?_ ?_; rotate_left
                · intro w'; go_simp; with_reducible rfl
                rotate_left; · simp only [Act.put, List.setIfInBounds_toArray, List.set_cons_zero, List.set_cons_succ, i64_w, i32_w]; rfl
                refine pure_ (i := 11) (N := some 85) (v := ?_) (a' := ?_) (bA 17 4095) rfl rfl (any_of HT_.out (by kernel_rfl)) (fun _ _ _ h => h) (Or.inl ⟨by rfl, ?_⟩) ?_ ?_; rotate_left
                · intro w'; go_simp; with_reducible rfl
                rotate_left; · simp only [Act.put, List.setIfInBounds_toArray, List.set_cons_zero, List.set_cons_succ, i64_w, i32_w]; rfl
                refine pure_ (i := 12) (N := some 86) (v := ?_) (a' := ?_) (bA 17 8191) rfl rfl (any_of HT_.out (by kernel_rfl)) (fun _ _ _ h => h) (Or.inl ⟨by rfl, ?_⟩) ?_ ?_; rotate_left
                · intro w'; go_simp; with_reducible rfl
                rotate_left; · simp only [Act.put, List.setIfInBounds_toArray, List.set_cons_zero, List.set_cons_succ, i64_w, i32_w]; rfl
                refine pure_ (i := 13) (N := some 87) (v := undef) (a' := ?_) (bA 17 16383) rfl rfl (any_of HT_.out (by kernel_rfl)) (fun _ _ _ h => h) (Or.inr ⟨by rfl, rfl⟩) ?_ ?_; rotate_left
                · simp only [Act.put, List.setIfInBounds_toArray, List.set_cons_zero, List.set_cons_succ, i64_w, i32_w]; rfl
                refine pure_ (i := 14) (N := some 88) (v := undef) (a' := ?_) (bA 17 32767) rfl rfl (any_of HT_.out (by kernel_rfl)) (fun _ _ _ h => h) (Or.inr ⟨by rfl, rfl⟩) ?_ ?_; rotate_left
                · simp only [Act.put, List.setIfInBounds_toArray, List.set_cons_zero, List.set_cons_succ, i64_w, i32_w]; rfl
                refine pure_ (i := 15) (N := some 89) (v := undef) (a' := ?_) (bA 17 65535) rfl rfl (any_of HT_.out (by kernel_rfl)) (fun _ _ _ h => h) (Or.inr ⟨by rfl, rfl⟩) ?_ ?_; rotate_left
                · simp only [Act.put, List.setIfInBounds_toArray, List.set_cons_zero, List.set_cons_succ, i64_w, i32_w]; rfl
                refine pure_ (i := 16) (N := some 90) (v := ?_) (a' := ?_) (bA 17 131071) rfl rfl (any_of HT_.out (by kernel_rfl)) (fun _ _ _ h => h) (Or.inl ⟨by rfl, ?_⟩) ?_ ?_; rotate_left
                · intro w'; go_simp; with_reducible rfl
                rotate_left; · simp only [Act.put, List.setIfInBounds_toArray, List.set_cons_zero, List.set_cons_succ, i64_w, i32_w]; rfl
                refine done_ (done_of HT_.out (by kernel_rfl)) ?_
                try go_wp2
                go_ret
                exact ⟨by first | rfl | (simp [errW_none, errW_some] <;> rfl) | (simp [*, errW_none, errW_some] <;> rfl), by repeat (first | (with_reducible first | exact HB.out | apply below_alloc | apply pw_below_drewN | apply below_drew1) | exact HB.out)⟩
              rw [if_pos c64] at H; have c64b0 : ((strOfNums (rd_L9 t286 x64_3)).toList == (strOfNums (rd_L9 t289 x64_3)).toList) = true := beq_iff_eq.mpr c64
              have c64b1 : ((strOfNums (rd_L9 t286 x64_3)).toList != (strOfNums (rd_L9 t289 x64_3)).toList) = false := bne_eq_false_iff_eq.mpr c64
              clear c64
              by_cases c65 : ((rd_L9 t286 x64_3).length : Int) > 1024
              case pos =>
                rw [if_pos c65] at H; have c65b0 : decide (1024 < ((rd_L9 t286 x64_3).length : Int)) = true := decide_eq_true c65
                have c65b1 : decide (1024 < (rd_L9 t286 x64_3).length) = true := decide_eq_true (by omega)
                clear c65
                obtain rfl := Option.some.inj H
                have p295 : 0 ≤ (x64_3 : Int) := of_decide_eq_true (by first | (with_reducible assumption) | assumption)
                have q295 : x64_3 < (t286.length : Int) := of_decide_eq_true (by first | (with_reducible assumption) | assumption)
                obtain ⟨ad295, A295_0, c295_0, e295, hx295_0, hl295_0, hi295_0⟩ := at_L9 (Kd.S_reads' HO_62.out).2.2 x64_3 p295 q295
                cases e295
                obtain ⟨ce295, hce295, hMe295, hcc295⟩ := Kd.S_get HO_62.out [] x64_3 p295 (by first | exact q295 | exact of_decide_eq_true (by first | (with_reducible assumption) | assumption) | (have e_ := (Kd.S_reads' HO_62.out).1; omega))
                obtain ⟨ve295_0, rfl, ge295_0⟩ := hMe295
                have hv295_0 := hcc295 0 _ rfl
                rw [Nat.add_zero, show ((Kd.slice 5 (Kd.int .u8))).sz = 1 from rfl, Nat.mul_one] at hv295_0
                replace hv295_0 := Option.some.inj (hv295_0.symm.trans hx295_0)
                rw [hv295_0] at ge295_0
                have HL295_0 := Aside0.mk (show Kd.R (Kd.int .u8) 5 _ _ _ _ (rd_L9 t286 x64_3) from ge295_0)
                clear hv295_0 ge295_0
                clear hcc295 hce295
                have HR295_0 := Aside0.mk hi295_0
                have HC295_0 := Aside0.mk hl295_0
                clear hi295_0 hl295_0
                replace p295 := eq_true p295
                replace q295 := eq_true q295
                try go_wp2_with (first | ((with_reducible refine gate_callee (f := 39) rfl ?_); refine goesL_ (some 71) rfl rfl Try.func39 (by kernel_rfl) rfl #[.slice A295_0 (rd_L9 t286 x64_3).length c295_0] rfl (by (try simp only [List.map_toArray, List.map_cons, List.map_nil]); first | done | rfl | (simp only [List.length_drop, List.length_take]; rfl)) ?_; (with_reducible refine (tlv_Decode.calls k3 (fun k_ => some k_ = (.slice A295_0 (rd_L9 t286 x64_3).length c295_0 : Value).ownBlock) _ _ (rd_L9 t286 x64_3) t296 true _ ?side1 A61.out).mono ?_); (case side1 => exact Kd.R_V (Kd.R_tight rfl (Kd.R_apart' (Kd.R_apart' (HL295_0.out) (Kd.R_typed HO_6.out) (by decide)) (Kd.R_typed HO_12.out) (by decide)))); rintro e w66 ⟨v297, rfl, ho0, hb⟩; refine ⟨_, rfl, ?_⟩; have n0_ := Aside0.mk (Kd.R_elder' (by (with_reducible repeat (first | apply Kd.R_alloc | apply Kd.R_drewN | apply Kd.R_drew)); exact HO_6.out) (Kd.R_base ho0) hb); have n1_ := Aside0.mk (Kd.S_below (by (with_reducible repeat (first | apply Kd.S_alloc | apply Kd.S_drewN | apply Kd.S_drew)); exact HO_11.out) hb); have n2_ := Aside0.mk (Kd.R_elder' (by (with_reducible repeat (first | apply Kd.R_alloc | apply Kd.R_drewN | apply Kd.R_drew)); exact HO_12.out) (Kd.R_base ho0) hb); have n3_ := Aside0.mk (Kd.S_below (by (with_reducible repeat (first | apply Kd.S_alloc | apply Kd.S_drewN | apply Kd.S_drew)); exact HO_62.out) hb); have n4_ := Aside0.mk (Kd.R_below (by (with_reducible repeat (first | apply Kd.R_alloc | apply Kd.R_drewN | apply Kd.R_drew)); exact HL295_0.out) hb); have n5_ := Aside0.mk (Kd.R_lower (Kd.R_new' (Kd.R_new' (Kd.R_mono (ok' := fun k_ => True) ho0 (fun _ hk_ => trivial)) (Kd.R_lt (by (with_reducible repeat (first | apply Kd.R_alloc | apply Kd.R_drewN | apply Kd.R_drew)); exact HO_6.out))) (Kd.R_lt (by (with_reducible repeat (first | apply Kd.R_alloc | apply Kd.R_drewN | apply Kd.R_drew)); exact HO_12.out))) (below_size (by repeat (first | (with_reducible first | exact HB.out | apply below_alloc | apply pw_below_drewN | apply below_drew1) | exact HB.out)))); have n6_ := Aside0.mk (Kd.C_below (by repeat (first | (with_reducible exact HR295_0.out) | (with_reducible refine Kd.C_alloc ?_ _) | (with_reducible refine Kd.C_drewN ?_ _) | (with_reducible refine Kd.C_drew ?_) | exact HR295_0.out)) hb); have n7_ := Aside0.mk (below_step (by repeat (first | (with_reducible first | exact HB.out | apply below_alloc | apply pw_below_drewN | apply below_drew1) | exact HB.out)) hb); clear HO_6; clear HO_11; clear HO_12; clear HO_62; clear HL295_0; clear HR295_0; clear HB; have HO_6 := n0_; have HO_11 := n1_; have HO_12 := n2_; have HO_62 := n3_; have HL295_0 := n4_; have HO298 := n5_; have HR295_0 := n6_; have HB := n7_; clear n0_ n1_ n2_ n3_ n4_ n5_ n6_ n7_; (try clear hb); (try clear hb2); (try clear hk); (try clear hi); (try clear ho0)))
                have n0_ := Aside0.mk (Kd.R_drew HO_6.out)
                have n1_ := Aside0.mk (Kd.S_drew HO_11.out)
                have n2_ := Aside0.mk (Kd.R_drew HO_12.out)
                have n3_ := Aside0.mk (Kd.S_drew HO_62.out)
                have n4_ := Aside0.mk (Kd.R_drew HL295_0.out)
                have n5_ := Aside0.mk (Kd.R_drew HO298.out)
                have n6_ := Aside0.mk (Kd.C_drew HR295_0.out)
                have n7_ := Aside0.mk (below_drew1 HB.out)
                clear HO_6
                clear HO_11
                clear HO_12
                clear HO_62
                clear HL295_0
                clear HO298
                clear HR295_0
                clear HB
                have HO_6 := n0_
                have HO_11 := n1_
                have HO_12 := n2_
                have HO_62 := n3_
                have HL295_0 := n4_
                have HO298 := n5_
                have HR295_0 := n6_
                have HB := n7_
                clear n0_ n1_ n2_ n3_ n4_ n5_ n6_ n7_
                have p300 : 0 ≤ (x64_3 : Int) := of_decide_eq_true (by first | (with_reducible assumption) | assumption)
                have q300 : x64_3 < (t289.length : Int) := of_decide_eq_true (by first | (with_reducible assumption) | assumption)
                obtain ⟨ad300, A300_0, c300_0, e300, hx300_0, hl300_0, hi300_0⟩ := at_L9 (Kd.S_reads' HO_11.out).2.2 x64_3 p300 q300
                cases e300
                obtain ⟨ce300, hce300, hMe300, hcc300⟩ := Kd.S_get HO_11.out [] x64_3 p300 (by first | exact q300 | exact of_decide_eq_true (by first | (with_reducible assumption) | assumption) | (have e_ := (Kd.S_reads' HO_11.out).1; omega))
                obtain ⟨ve300_0, rfl, ge300_0⟩ := hMe300
                have hv300_0 := hcc300 0 _ rfl
                rw [Nat.add_zero, show ((Kd.slice 5 (Kd.int .u8))).sz = 1 from rfl, Nat.mul_one] at hv300_0
                replace hv300_0 := Option.some.inj (hv300_0.symm.trans hx300_0)
                rw [hv300_0] at ge300_0
                have HL300_0 := Aside0.mk (show Kd.R (Kd.int .u8) 5 _ _ _ _ (rd_L9 t289 x64_3) from ge300_0)
                clear hv300_0 ge300_0
                clear hcc300 hce300
                have HR300_0 := Aside0.mk hi300_0
                have HC300_0 := Aside0.mk hl300_0
                clear hi300_0 hl300_0
                replace p300 := eq_true p300
                replace q300 := eq_true q300
                have hcv68 := Kd.C_string (P := Try.prog) (A := A295_0) (c := c295_0) Try.underlying22 Try.underlying5 Try.underlying9 (by repeat (first | (with_reducible exact HR295_0.out) | (with_reducible refine Kd.C_alloc ?_ _) | (with_reducible refine Kd.C_drewN ?_ _) | (with_reducible refine Kd.C_drew ?_) | exact HR295_0.out))
                have hcv69 := Kd.C_string (P := Try.prog) (A := A300_0) (c := c300_0) Try.underlying22 Try.underlying5 Try.underlying9 (by repeat (first | (with_reducible exact HR300_0.out) | (with_reducible refine Kd.C_alloc ?_ _) | (with_reducible refine Kd.C_drewN ?_ _) | (with_reducible refine Kd.C_drew ?_) | exact HR300_0.out))
                refine start_ (n := 17) (S := fun w' => w'.cell? (ad300.add (x64_3).toNat) = some (.slice A300_0 (rd_L9 t289 x64_3).length c300_0) ∧ (convert 22 9 (.slice A295_0 (rd_L9 t286 x64_3).length c295_0)).run Try.prog w' = .ok (.string (strOfNums (rd_L9 t286 x64_3))) w' ∧ (convert 22 9 (.slice A300_0 (rd_L9 t289 x64_3).length c300_0)).run Try.prog w' = .ok (.string (strOfNums (rd_L9 t289 x64_3))) w') (ds := []) (bA 17 0) (by kernel_rfl) rfl rfl ⟨hx300_0, Kd.C_string (P := Try.prog) (A := A295_0) (c := c295_0) Try.underlying22 Try.underlying5 Try.underlying9 (Kd.C_drew HR295_0.out), Kd.C_string (P := Try.prog) (A := A300_0) (c := c300_0) Try.underlying22 Try.underlying5 Try.underlying9 (Kd.C_drew HR300_0.out)⟩ (fun hHeld => ?_); refine with_tabW wayfarerlaw08_TlvTells.tab28 wayfarerlaw08_TlvTells.bits28 (fun HT_ HW_ => ?_)
                generalize w66.drew = w67 at HO_6 HO_11 HO_12 HO_62 HL295_0 HO298 HR295_0 HB HL300_0 HR300_0 hx300_0 hHeld ⊢
                refine pure_ (i := 0) (N := some 74) (v := ?_) (a' := ?_) (bA 17 1) rfl rfl (any_of HT_.out (by kernel_rfl)) (fun _ _ _ h => h) (Or.inl ⟨by rfl, ?_⟩) ?_ ?_; rotate_left
                · intro w'; go_simp; with_reducible rfl
                rotate_left; · simp only [Act.put, List.setIfInBounds_toArray, List.set_cons_zero, List.set_cons_succ, i64_w, i32_w]; rfl
                refine pure_ (i := 1) (N := some 75) (v := ?_) (a' := ?_) (bA 17 3) rfl rfl (any_of HT_.out (by kernel_rfl)) (fun _ _ _ h => h) (Or.inl ⟨by rfl, ?_⟩) ?_ ?_; rotate_left
                · intro w'; go_simp; with_reducible rfl
                rotate_left; · simp only [Act.put, List.setIfInBounds_toArray, List.set_cons_zero, List.set_cons_succ, i64_w, i32_w]; rfl
                refine pure_ (i := 2) (N := some 76) (v := ?_) (a' := ?_) (bA 17 7) rfl rfl (any_of HT_.out (by kernel_rfl)) (fun _ _ _ h => h) (Or.inl ⟨by rfl, ?_⟩) ?_ ?_; rotate_left
                · intro w'; go_simp; with_reducible rfl
                rotate_left; · simp only [Act.put, List.setIfInBounds_toArray, List.set_cons_zero, List.set_cons_succ, i64_w, i32_w]; rfl
                refine pure_ (i := 3) (N := some 77) (v := ?_) (a' := ?_) (bA 17 15) rfl rfl (any_of HT_.out (by kernel_rfl)) (fun _ _ _ h => h) (Or.inl ⟨by rfl, ?_⟩) ?_ ?_; rotate_left
                · intro w'; go_simp; with_reducible rfl
                rotate_left; · simp only [Act.put, List.setIfInBounds_toArray, List.set_cons_zero, List.set_cons_succ, i64_w, i32_w]; rfl
                refine take_ (i := 4) (N := some 78) (v := ?_) (a' := ?_) (bA 17 31) rfl rfl (take_ofW HT_.out HW_.out (by kernel_rfl)) (fun _ _ _ h => h) (Or.inl ⟨by rfl, ?_⟩) hHeld ?_ ?_; rotate_left
                · intro w' s0; obtain ⟨s0, s1, s2⟩ := s0; go_simp; with_reducible rfl
                rotate_left; · simp only [Act.put, List.setIfInBounds_toArray, List.set_cons_zero, List.set_cons_succ, i64_w, i32_w]; rfl
                refine pure_ (i := 5) (N := some 79) (v := ?_) (a' := ?_) (bA 17 63) rfl rfl (any_of HT_.out (by kernel_rfl)) (fun _ _ _ h => h) (Or.inl ⟨by rfl, ?_⟩) ?_ ?_; rotate_left
                · intro w'; go_simp; with_reducible rfl
                rotate_left; · simp only [Act.put, List.setIfInBounds_toArray, List.set_cons_zero, List.set_cons_succ, i64_w, i32_w]; rfl
                refine pure_ (i := 6) (N := some 80) (v := ?_) (a' := ?_) (bA 17 127) rfl rfl (any_of HT_.out (by kernel_rfl)) (fun _ _ _ h => h) (Or.inl ⟨by rfl, ?_⟩) ?_ ?_; rotate_left
                · intro w'; go_simp; with_reducible rfl
                rotate_left; · simp only [Act.put, List.setIfInBounds_toArray, List.set_cons_zero, List.set_cons_succ, i64_w, i32_w]; rfl
                refine pure_ (i := 7) (N := some 81) (v := ?_) (a' := ?_) (bA 17 255) rfl rfl (any_of HT_.out (by kernel_rfl)) (fun _ _ _ h => h) (Or.inl ⟨by rfl, ?_⟩) ?_ ?_; rotate_left
                · intro w'; go_simp; with_reducible rfl
                rotate_left; · simp only [Act.put, List.setIfInBounds_toArray, List.set_cons_zero, List.set_cons_succ, i64_w, i32_w]; rfl
                refine take_ (i := 8) (N := some 82) (v := ?_) (a' := ?_) (bA 17 511) rfl rfl (take_ofW HT_.out HW_.out (by kernel_rfl)) (fun _ _ _ h => h) (Or.inl ⟨by rfl, ?_⟩) hHeld ?_ ?_; rotate_left
                · intro w' s0; obtain ⟨s0, s1, s2⟩ := s0
                  go_simp
                  with_reducible rfl
                rotate_left
                · simp only [Act.put, List.setIfInBounds_toArray, List.set_cons_zero, List.set_cons_succ, i64_w, i32_w]; rfl
                refine take_ (i := 9) (N := some 83) (v := ?_) (a' := ?_) (bA 17 1023) rfl rfl (take_ofW HT_.out HW_.out (by kernel_rfl)) (fun _ _ _ h => h) (Or.inl ⟨by rfl, ?_⟩) hHeld ?_ ?_; rotate_left
                · intro w' s0; obtain ⟨s0, s1, s2⟩ := s0; go_simp; with_reducible rfl
                rotate_left; · simp only [Act.put, List.setIfInBounds_toArray, List.set_cons_zero, List.set_cons_succ, i64_w, i32_w]; rfl
                refine pure_ (i := 10) (N := some 84) (v := ?_) (a' := ?_) (bA 17 2047) rfl rfl (any_of HT_.out (by kernel_rfl)) (fun _ _ _ h => h) (Or.inl ⟨by rfl, ?_⟩) ?_ ?_; rotate_left
                · intro w'; go_simp; with_reducible rfl
                rotate_left; · simp only [Act.put, List.setIfInBounds_toArray, List.set_cons_zero, List.set_cons_succ, i64_w, i32_w]; rfl
                refine pure_ (i := 11) (N := some 85) (v := ?_) (a' := ?_) (bA 17 4095) rfl rfl (any_of HT_.out (by kernel_rfl)) (fun _ _ _ h => h) (Or.inl ⟨by rfl, ?_⟩) ?_ ?_; rotate_left
                · intro w'; go_simp; with_reducible rfl
                rotate_left; · simp only [Act.put, List.setIfInBounds_toArray, List.set_cons_zero, List.set_cons_succ, i64_w, i32_w]; rfl
                refine pure_ (i := 12) (N := some 86) (v := ?_) (a' := ?_) (bA 17 8191) rfl rfl (any_of HT_.out (by kernel_rfl)) (fun _ _ _ h => h) (Or.inl ⟨by rfl, ?_⟩) ?_ ?_; rotate_left
                · intro w'; go_simp; with_reducible rfl
                rotate_left; · simp only [Act.put, List.setIfInBounds_toArray, List.set_cons_zero, List.set_cons_succ, i64_w, i32_w]; rfl
                refine pure_ (i := 13) (N := some 87) (v := ?_) (a' := ?_) (bA 17 16383) rfl rfl (any_of HT_.out (by kernel_rfl)) (fun _ _ _ h => h) (Or.inl ⟨by rfl, ?_⟩) ?_ ?_; rotate_left
                · intro w'; go_simp; with_reducible rfl
                rotate_left; · simp only [Act.put, List.setIfInBounds_toArray, List.set_cons_zero, List.set_cons_succ, i64_w, i32_w]; rfl
                refine pure_ (i := 14) (N := some 88) (v := ?_) (a' := ?_) (bA 17 32767) rfl rfl (any_of HT_.out (by kernel_rfl)) (fun _ _ _ h => h) (Or.inl ⟨by rfl, ?_⟩) ?_ ?_; rotate_left
                · intro w'; go_simp; with_reducible rfl
                rotate_left; · simp only [Act.put, List.setIfInBounds_toArray, List.set_cons_zero, List.set_cons_succ, i64_w, i32_w]; rfl
                refine pure_ (i := 15) (N := some 89) (v := ?_) (a' := ?_) (bA 17 65535) rfl rfl (any_of HT_.out (by kernel_rfl)) (fun _ _ _ h => h) (Or.inl ⟨by rfl, ?_⟩) ?_ ?_; rotate_left
                · intro w'; go_simp; with_reducible rfl
                rotate_left; · simp only [Act.put, List.setIfInBounds_toArray, List.set_cons_zero, List.set_cons_succ, i64_w, i32_w]; rfl
                refine pure_ (i := 16) (N := some 90) (v := ?_) (a' := ?_) (bA 17 131071) rfl rfl (any_of HT_.out (by kernel_rfl)) (fun _ _ _ h => h) (Or.inl ⟨by rfl, ?_⟩) ?_ ?_; rotate_left
                · intro w'; go_simp; with_reducible rfl
                rotate_left; · simp only [Act.put, List.setIfInBounds_toArray, List.set_cons_zero, List.set_cons_succ, i64_w, i32_w]; rfl
                refine done_ (done_of HT_.out (by kernel_rfl)) ?_
                try go_wp2
                go_ret
                exact ⟨by first | rfl | (simp [errW_none, errW_some] <;> rfl) | (simp [*, errW_none, errW_some] <;> rfl), by repeat (first | (with_reducible first | exact HB.out | apply below_alloc | apply pw_below_drewN | apply below_drew1) | exact HB.out)⟩
              rw [if_neg c65] at H; have c65b0 : decide (1024 < ((rd_L9 t286 x64_3).length : Int)) = false := decide_eq_false c65
              have c65b1 : decide (1024 < (rd_L9 t286 x64_3).length) = false := decide_eq_false (by omega)
              clear c65
              by_cases c71 : x12_3.length + t296.length < 4398046511104
              case neg =>
                rw [if_neg c71] at H; exact absurd H (by simp)
              rw [if_pos c71] at H; have LMc71 := Aside0.mk c71
              clear c71
              obtain ⟨y301, hy301⟩ : ∃ y_ : List (S62), y_ = (x12_3 ++ t296) := ⟨_, rfl⟩
              replace H : (wayfarerlaw08_TlvTells.l2 k3 x6_2 t289 y301 t286 (t286.length : Int) (wrap64 (x64_3 + 1))) = some r := by first | (rw [hy301]; with_reducible exact H) | (have H2_ := (Option.bind_some _ _).symm.trans H; rw [hy301]; with_reducible exact H2_) | (have H2_ := (Option.bind_some _ _).symm.trans H; with_reducible exact H2_) | with_reducible exact H | (rw [hy301]; exact H) | exact H
              have Ny301 := Aside0.mk hy301
              clear hy301
              have H' := Aside0.mk H
              clear H
              have p295 : 0 ≤ (x64_3 : Int) := of_decide_eq_true (by first | (with_reducible assumption) | assumption)
              have q295 : x64_3 < (t286.length : Int) := of_decide_eq_true (by first | (with_reducible assumption) | assumption)
              obtain ⟨ad295, A295_0, c295_0, e295, hx295_0, hl295_0, hi295_0⟩ := at_L9 (Kd.S_reads' HO_62.out).2.2 x64_3 p295 q295
              cases e295
              obtain ⟨ce295, hce295, hMe295, hcc295⟩ := Kd.S_get HO_62.out [] x64_3 p295 (by first | exact q295 | exact of_decide_eq_true (by first | (with_reducible assumption) | assumption) | (have e_ := (Kd.S_reads' HO_62.out).1; omega))
              obtain ⟨ve295_0, rfl, ge295_0⟩ := hMe295
              have hv295_0 := hcc295 0 _ rfl
              rw [Nat.add_zero, show ((Kd.slice 5 (Kd.int .u8))).sz = 1 from rfl, Nat.mul_one] at hv295_0
              replace hv295_0 := Option.some.inj (hv295_0.symm.trans hx295_0)
              rw [hv295_0] at ge295_0
              have HL295_0 := Aside0.mk (show Kd.R (Kd.int .u8) 5 _ _ _ _ (rd_L9 t286 x64_3) from ge295_0)
              clear hv295_0 ge295_0
              clear hcc295 hce295
              have HR295_0 := Aside0.mk hi295_0
              have HC295_0 := Aside0.mk hl295_0
              clear hi295_0 hl295_0
              replace p295 := eq_true p295
              replace q295 := eq_true q295
              try go_wp2_with (first | ((with_reducible refine gate_callee (f := 39) rfl ?_); refine goesL_ (some 71) rfl rfl Try.func39 (by kernel_rfl) rfl #[.slice A295_0 (rd_L9 t286 x64_3).length c295_0] rfl (by (try simp only [List.map_toArray, List.map_cons, List.map_nil]); first | done | rfl | (simp only [List.length_drop, List.length_take]; rfl)) ?_; (with_reducible refine (tlv_Decode.calls k3 (fun k_ => some k_ = (.slice A295_0 (rd_L9 t286 x64_3).length c295_0 : Value).ownBlock) _ _ (rd_L9 t286 x64_3) t296 true _ ?side1 A61.out).mono ?_); (case side1 => exact Kd.R_V (Kd.R_tight rfl (Kd.R_apart' (Kd.R_apart' (HL295_0.out) (Kd.R_typed HO_6.out) (by decide)) (Kd.R_typed HO_12.out) (by decide)))); rintro e w72 ⟨v297, rfl, ho0, hb⟩; refine ⟨_, rfl, ?_⟩; have n0_ := Aside0.mk (Kd.R_elder' (by (with_reducible repeat (first | apply Kd.R_alloc | apply Kd.R_drewN | apply Kd.R_drew)); exact HO_6.out) (Kd.R_base ho0) hb); have n1_ := Aside0.mk (Kd.S_below (by (with_reducible repeat (first | apply Kd.S_alloc | apply Kd.S_drewN | apply Kd.S_drew)); exact HO_11.out) hb); have n2_ := Aside0.mk (Kd.R_elder' (by (with_reducible repeat (first | apply Kd.R_alloc | apply Kd.R_drewN | apply Kd.R_drew)); exact HO_12.out) (Kd.R_base ho0) hb); have n3_ := Aside0.mk (Kd.S_below (by (with_reducible repeat (first | apply Kd.S_alloc | apply Kd.S_drewN | apply Kd.S_drew)); exact HO_62.out) hb); have n4_ := Aside0.mk (Kd.R_below (by (with_reducible repeat (first | apply Kd.R_alloc | apply Kd.R_drewN | apply Kd.R_drew)); exact HL295_0.out) hb); have n5_ := Aside0.mk (Kd.R_lower (Kd.R_new' (Kd.R_new' (Kd.R_mono (ok' := fun k_ => True) ho0 (fun _ hk_ => trivial)) (Kd.R_lt (by (with_reducible repeat (first | apply Kd.R_alloc | apply Kd.R_drewN | apply Kd.R_drew)); exact HO_6.out))) (Kd.R_lt (by (with_reducible repeat (first | apply Kd.R_alloc | apply Kd.R_drewN | apply Kd.R_drew)); exact HO_12.out))) (below_size (by repeat (first | (with_reducible first | exact HB.out | apply below_alloc | apply pw_below_drewN | apply below_drew1) | exact HB.out)))); have n6_ := Aside0.mk (Kd.C_below (by repeat (first | (with_reducible exact HR295_0.out) | (with_reducible refine Kd.C_alloc ?_ _) | (with_reducible refine Kd.C_drewN ?_ _) | (with_reducible refine Kd.C_drew ?_) | exact HR295_0.out)) hb); have n7_ := Aside0.mk (below_step (by repeat (first | (with_reducible first | exact HB.out | apply below_alloc | apply pw_below_drewN | apply below_drew1) | exact HB.out)) hb); clear HO_6; clear HO_11; clear HO_12; clear HO_62; clear HL295_0; clear HR295_0; clear HB; have HO_6 := n0_; have HO_11 := n1_; have HO_12 := n2_; have HO_62 := n3_; have HL295_0 := n4_; have HO298 := n5_; have HR295_0 := n6_; have HB := n7_; clear n0_ n1_ n2_ n3_ n4_ n5_ n6_ n7_; (try clear hb); (try clear hb2); (try clear hk); (try clear hi); (try clear ho0)))
              have n0_ := Aside0.mk (Kd.R_drew HO_6.out)
              have n1_ := Aside0.mk (Kd.S_drew HO_11.out)
              have n2_ := Aside0.mk (Kd.R_drew HO_12.out)
              have n3_ := Aside0.mk (Kd.S_drew HO_62.out)
              have n4_ := Aside0.mk (Kd.R_drew HL295_0.out)
              have n5_ := Aside0.mk (Kd.R_drew HO298.out)
              have n6_ := Aside0.mk (Kd.C_drew HR295_0.out)
              have n7_ := Aside0.mk (below_drew1 HB.out)
              clear HO_6
              clear HO_11
              clear HO_12
              clear HO_62
              clear HL295_0
              clear HO298
              clear HR295_0
              clear HB
              have HO_6 := n0_
              have HO_11 := n1_
              have HO_12 := n2_
              have HO_62 := n3_
              have HL295_0 := n4_
              have HO298 := n5_
              have HR295_0 := n6_
              have HB := n7_
              clear n0_ n1_ n2_ n3_ n4_ n5_ n6_ n7_
              have p300 : 0 ≤ (x64_3 : Int) := of_decide_eq_true (by first | (with_reducible assumption) | assumption)
              have q300 : x64_3 < (t289.length : Int) := of_decide_eq_true (by first | (with_reducible assumption) | assumption)
              obtain ⟨ad300, A300_0, c300_0, e300, hx300_0, hl300_0, hi300_0⟩ := at_L9 (Kd.S_reads' HO_11.out).2.2 x64_3 p300 q300
              cases e300
              obtain ⟨ce300, hce300, hMe300, hcc300⟩ := Kd.S_get HO_11.out [] x64_3 p300 (by first | exact q300 | exact of_decide_eq_true (by first | (with_reducible assumption) | assumption) | (have e_ := (Kd.S_reads' HO_11.out).1; omega))
              obtain ⟨ve300_0, rfl, ge300_0⟩ := hMe300
              have hv300_0 := hcc300 0 _ rfl
              rw [Nat.add_zero, show ((Kd.slice 5 (Kd.int .u8))).sz = 1 from rfl, Nat.mul_one] at hv300_0
              replace hv300_0 := Option.some.inj (hv300_0.symm.trans hx300_0)
              rw [hv300_0] at ge300_0
              have HL300_0 := Aside0.mk (show Kd.R (Kd.int .u8) 5 _ _ _ _ (rd_L9 t289 x64_3) from ge300_0)
              clear hv300_0 ge300_0
              clear hcc300 hce300
              have HR300_0 := Aside0.mk hi300_0
              have HC300_0 := Aside0.mk hl300_0
              clear hi300_0 hl300_0
              replace p300 := eq_true p300
              replace q300 := eq_true q300
              have hcv74 := Kd.C_string (P := Try.prog) (A := A295_0) (c := c295_0) Try.underlying22 Try.underlying5 Try.underlying9 (by repeat (first | (with_reducible exact HR295_0.out) | (with_reducible refine Kd.C_alloc ?_ _) | (with_reducible refine Kd.C_drewN ?_ _) | (with_reducible refine Kd.C_drew ?_) | exact HR295_0.out))
              have hcv75 := Kd.C_string (P := Try.prog) (A := A300_0) (c := c300_0) Try.underlying22 Try.underlying5 Try.underlying9 (by repeat (first | (with_reducible exact HR300_0.out) | (with_reducible refine Kd.C_alloc ?_ _) | (with_reducible refine Kd.C_drewN ?_ _) | (with_reducible refine Kd.C_drew ?_) | exact HR300_0.out))
              refine start_ (n := 17) (S := fun w' => w'.cell? (ad300.add (x64_3).toNat) = some (.slice A300_0 (rd_L9 t289 x64_3).length c300_0) ∧ (convert 22 9 (.slice A295_0 (rd_L9 t286 x64_3).length c295_0)).run Try.prog w' = .ok (.string (strOfNums (rd_L9 t286 x64_3))) w' ∧ (convert 22 9 (.slice A300_0 (rd_L9 t289 x64_3).length c300_0)).run Try.prog w' = .ok (.string (strOfNums (rd_L9 t289 x64_3))) w') (ds := []) (bA 17 0) (by kernel_rfl) rfl rfl ⟨hx300_0, Kd.C_string (P := Try.prog) (A := A295_0) (c := c295_0) Try.underlying22 Try.underlying5 Try.underlying9 (Kd.C_drew HR295_0.out), Kd.C_string (P := Try.prog) (A := A300_0) (c := c300_0) Try.underlying22 Try.underlying5 Try.underlying9 (Kd.C_drew HR300_0.out)⟩ (fun hHeld => ?_); refine with_tabW wayfarerlaw08_TlvTells.tab28 wayfarerlaw08_TlvTells.bits28 (fun HT_ HW_ => ?_)
              generalize w72.drew = w73 at HO_6 HO_11 HO_12 HO_62 HL295_0 HO298 HR295_0 HB HL300_0 HR300_0 hx300_0 hHeld ⊢
              refine pure_ (i := 0) (N := some 74) (v := ?_) (a' := ?_) (bA 17 1) rfl rfl (any_of HT_.out (by kernel_rfl)) (fun _ _ _ h => h) (Or.inl ⟨by rfl, ?_⟩) ?_ ?_; rotate_left
              · intro w'; go_simp; with_reducible rfl
              rotate_left; · simp only [Act.put, List.setIfInBounds_toArray, List.set_cons_zero, List.set_cons_succ, i64_w, i32_w]; rfl
              refine pure_ (i := 1) (N := some 75) (v := ?_) (a' := ?_) (bA 17 3) rfl rfl (any_of HT_.out (by kernel_rfl)) (fun _ _ _ h => h) (Or.inl ⟨by rfl, ?_⟩) ?_ ?_; rotate_left
              · intro w'; go_simp; with_reducible rfl
              rotate_left; · simp only [Act.put, List.setIfInBounds_toArray, List.set_cons_zero, List.set_cons_succ, i64_w, i32_w]; rfl
              refine pure_ (i := 2) (N := some 76) (v := ?_) (a' := ?_) (bA 17 7) rfl rfl (any_of HT_.out (by kernel_rfl)) (fun _ _ _ h => h) (Or.inl ⟨by rfl, ?_⟩) ?_ ?_; rotate_left
              · intro w'; go_simp; with_reducible rfl
              rotate_left; · simp only [Act.put, List.setIfInBounds_toArray, List.set_cons_zero, List.set_cons_succ, i64_w, i32_w]; rfl
              refine pure_ (i := 3) (N := some 77) (v := ?_) (a' := ?_) (bA 17 15) rfl rfl (any_of HT_.out (by kernel_rfl)) (fun _ _ _ h => h) (Or.inl ⟨by rfl, ?_⟩) ?_ ?_; rotate_left
              · intro w'; go_simp; with_reducible rfl
              rotate_left; · simp only [Act.put, List.setIfInBounds_toArray, List.set_cons_zero, List.set_cons_succ, i64_w, i32_w]; rfl
              refine take_ (i := 4) (N := some 78) (v := ?_) (a' := ?_) (bA 17 31) rfl rfl (take_ofW HT_.out HW_.out (by kernel_rfl)) (fun _ _ _ h => h) (Or.inl ⟨by rfl, ?_⟩) hHeld ?_ ?_; rotate_left
              · intro w' s0; obtain ⟨s0, s1, s2⟩ := s0; go_simp; with_reducible rfl
              rotate_left; · simp only [Act.put, List.setIfInBounds_toArray, List.set_cons_zero, List.set_cons_succ, i64_w, i32_w]; rfl
              refine pure_ (i := 5) (N := some 79) (v := ?_) (a' := ?_) (bA 17 63) rfl rfl (any_of HT_.out (by kernel_rfl)) (fun _ _ _ h => h) (Or.inl ⟨by rfl, ?_⟩) ?_ ?_; rotate_left
              · intro w'; go_simp; with_reducible rfl
              rotate_left; · simp only [Act.put, List.setIfInBounds_toArray, List.set_cons_zero, List.set_cons_succ, i64_w, i32_w]; rfl
              refine pure_ (i := 6) (N := some 80) (v := ?_) (a' := ?_) (bA 17 127) rfl rfl (any_of HT_.out (by kernel_rfl)) (fun _ _ _ h => h) (Or.inl ⟨by rfl, ?_⟩) ?_ ?_; rotate_left
              · intro w'; go_simp; with_reducible rfl
              rotate_left; · simp only [Act.put, List.setIfInBounds_toArray, List.set_cons_zero, List.set_cons_succ, i64_w, i32_w]; rfl
              refine pure_ (i := 7) (N := some 81) (v := ?_) (a' := ?_) (bA 17 255) rfl rfl (any_of HT_.out (by kernel_rfl)) (fun _ _ _ h => h) (Or.inl ⟨by rfl, ?_⟩) ?_ ?_; rotate_left
              · intro w'; go_simp; with_reducible rfl
              rotate_left; · simp only [Act.put, List.setIfInBounds_toArray, List.set_cons_zero, List.set_cons_succ, i64_w, i32_w]; rfl
              refine take_ (i := 8) (N := some 82) (v := ?_) (a' := ?_) (bA 17 511) rfl rfl (take_ofW HT_.out HW_.out (by kernel_rfl)) (fun _ _ _ h => h) (Or.inl ⟨by rfl, ?_⟩) hHeld ?_ ?_; rotate_left
              · intro w' s0; obtain ⟨s0, s1, s2⟩ := s0
                go_simp
                with_reducible rfl
              rotate_left
              · simp only [Act.put, List.setIfInBounds_toArray, List.set_cons_zero, List.set_cons_succ, i64_w, i32_w]; rfl
              refine take_ (i := 9) (N := some 83) (v := ?_) (a' := ?_) (bA 17 1023) rfl rfl (take_ofW HT_.out HW_.out (by kernel_rfl)) (fun _ _ _ h => h) (Or.inl ⟨by rfl, ?_⟩) hHeld ?_ ?_; rotate_left
              · intro w' s0; obtain ⟨s0, s1, s2⟩ := s0; go_simp; with_reducible rfl
              rotate_left; · simp only [Act.put, List.setIfInBounds_toArray, List.set_cons_zero, List.set_cons_succ, i64_w, i32_w]; rfl
              refine pure_ (i := 10) (N := some 84) (v := ?_) (a' := ?_) (bA 17 2047) rfl rfl (any_of HT_.out (by kernel_rfl)) (fun _ _ _ h => h) (Or.inl ⟨by rfl, ?_⟩) ?_ ?_; rotate_left
              · intro w'; go_simp; with_reducible rfl
              rotate_left; · simp only [Act.put, List.setIfInBounds_toArray, List.set_cons_zero, List.set_cons_succ, i64_w, i32_w]; rfl
              refine pure_ (i := 11) (N := some 85) (v := ?_) (a' := ?_) (bA 17 4095) rfl rfl (any_of HT_.out (by kernel_rfl)) (fun _ _ _ h => h) (Or.inl ⟨by rfl, ?_⟩) ?_ ?_; rotate_left
              · intro w'; go_simp; with_reducible rfl
              rotate_left; · simp only [Act.put, List.setIfInBounds_toArray, List.set_cons_zero, List.set_cons_succ, i64_w, i32_w]; rfl
              refine pure_ (i := 12) (N := some 86) (v := ?_) (a' := ?_) (bA 17 8191) rfl rfl (any_of HT_.out (by kernel_rfl)) (fun _ _ _ h => h) (Or.inl ⟨by rfl, ?_⟩) ?_ ?_; rotate_left
              · intro w'; go_simp; with_reducible rfl
              rotate_left; · simp only [Act.put, List.setIfInBounds_toArray, List.set_cons_zero, List.set_cons_succ, i64_w, i32_w]; rfl
              refine pure_ (i := 13) (N := some 87) (v := ?_) (a' := ?_) (bA 17 16383) rfl rfl (any_of HT_.out (by kernel_rfl)) (fun _ _ _ h => h) (Or.inl ⟨by rfl, ?_⟩) ?_ ?_; rotate_left
              · intro w'; go_simp; with_reducible rfl
              rotate_left; · simp only [Act.put, List.setIfInBounds_toArray, List.set_cons_zero, List.set_cons_succ, i64_w, i32_w]; rfl
              refine pure_ (i := 14) (N := some 88) (v := ?_) (a' := ?_) (bA 17 32767) rfl rfl (any_of HT_.out (by kernel_rfl)) (fun _ _ _ h => h) (Or.inl ⟨by rfl, ?_⟩) ?_ ?_; rotate_left
              · intro w'; go_simp; with_reducible rfl
              rotate_left; · simp only [Act.put, List.setIfInBounds_toArray, List.set_cons_zero, List.set_cons_succ, i64_w, i32_w]; rfl
              refine pure_ (i := 15) (N := some 89) (v := ?_) (a' := ?_) (bA 17 65535) rfl rfl (any_of HT_.out (by kernel_rfl)) (fun _ _ _ h => h) (Or.inl ⟨by rfl, ?_⟩) ?_ ?_; rotate_left
              · intro w'; go_simp; with_reducible rfl
              rotate_left; · simp only [Act.put, List.setIfInBounds_toArray, List.set_cons_zero, List.set_cons_succ, i64_w, i32_w]; rfl
              refine pure_ (i := 16) (N := some 90) (v := ?_) (a' := ?_) (bA 17 131071) rfl rfl (any_of HT_.out (by kernel_rfl)) (fun _ _ _ h => h) (Or.inl ⟨by rfl, ?_⟩) ?_ ?_; rotate_left
              · intro w'; go_simp; with_reducible rfl
              rotate_left; · simp only [Act.put, List.setIfInBounds_toArray, List.set_cons_zero, List.set_cons_succ, i64_w, i32_w]; rfl
              refine done_ (done_of HT_.out (by kernel_rfl)) ?_
              obtain ⟨Ao78, co78, eo78⟩ := Kd.R_slice HO298.out
              subst eo78
              try go_wp2_with (first | ((with_reducible refine gate_builtin (b := .append) (xs := #[.tmp 91, .tmp 92]) rfl ?_); (try (refine gate_guard (by rfl) ?_; dsimp only)); at_builtin; refine Kd.R_append_rows k62 (w0 := w) w.heap.size rfl (.tmp 91) (.tmp 92) 60 62 (.agg #[(.int .u32 0), (.int .i64 0), (.int .u32 0), (.int .u32 0), (.int .u16 0)]) 32 rfl Try.underlying60 info62 rfl (by decide) (by omega) u12 x12_3 t296 _ _ _ (fun k_ => some k_ ≠ (u6 : Value).ownBlock ∧ some k_ ≠ (.slice Ao78 t296.length co78 : Value).ownBlock) (fun _ => False) rfl rfl ?aO ?aR (fun _ _ h => h) (fun _ h => h.elim) ?aF ?aB ?aS ?aL ?_; (case aR => repeat (first | exact (Kd.R_reads' HO298.out).2.2 | (with_reducible refine Kd.C_alloc ?_ _) | (with_reducible refine Kd.C_drewN ?_ _) | (with_reducible refine Kd.C_drew ?_))); (case aB => exact (by repeat (first | (with_reducible first | exact HB.out | apply below_alloc | apply pw_below_drewN | apply below_drew1) | exact HB.out))); (case aF => exact (fun k_ hk => ⟨Kd.fresh' (Kd.R_lt (by (with_reducible repeat (first | apply Kd.R_alloc | apply Kd.R_drewN | apply Kd.R_drew)); exact HO_6.out)) k_ hk, Kd.fresh' (Kd.R_lt (by (with_reducible repeat (first | apply Kd.R_alloc | apply Kd.R_drewN | apply Kd.R_drew)); exact HO298.out)) k_ hk⟩)); (case aO => exact (by (with_reducible repeat (first | apply Kd.R_alloc | apply Kd.R_drewN | apply Kd.R_drew)); exact Kd.R_mono HO_12.out (fun _ hk => by first | exact ⟨hk.2, hk.1⟩ | exact hk | exact ⟨hk.1.2, hk.2⟩ | exact ⟨hk.2, hk.1.2⟩))); (case aS => exact (below_size (by repeat (first | (with_reducible first | exact HB.out | apply below_alloc | apply pw_below_drewN | apply below_drew1) | exact HB.out)))); (case aL => have := LMc71.out; omega); intro v302 w77 ho hb hg hat; rw [← Ny301.out] at ho; have n0_ := Aside0.mk (Kd.R_after (ok := (fun k_ => some k_ ≠ (.slice Ao78 t296.length co78 : Value).ownBlock)) (by (with_reducible repeat (first | apply Kd.R_alloc | apply Kd.R_drewN | apply Kd.R_drew)); first | exact HO_6.out | exact Kd.R_mono HO_6.out (fun _ hk => ⟨hk.2, hk.1⟩)) hg hat); have n1_ := Aside0.mk (Kd.S_over' (by (with_reducible repeat (first | apply Kd.S_alloc | apply Kd.S_drewN | apply Kd.S_drew)); exact HO_11.out) (Kd.R_typed (by (with_reducible repeat (first | apply Kd.R_alloc | apply Kd.R_drewN | apply Kd.R_drew)); exact HO_12.out)) (by decide) hg); have n2_ := Aside0.mk (Kd.S_over' (by (with_reducible repeat (first | apply Kd.S_alloc | apply Kd.S_drewN | apply Kd.S_drew)); exact HO_62.out) (Kd.R_typed (by (with_reducible repeat (first | apply Kd.R_alloc | apply Kd.R_drewN | apply Kd.R_drew)); exact HO_12.out)) (by decide) hg); have n3_ := Aside0.mk (Kd.R_over' (by (with_reducible repeat (first | apply Kd.R_alloc | apply Kd.R_drewN | apply Kd.R_drew)); exact HL295_0.out) (Kd.R_typed (by (with_reducible repeat (first | apply Kd.R_alloc | apply Kd.R_drewN | apply Kd.R_drew)); exact HO_12.out)) (by decide) hg); have n4_ := Aside0.mk (Kd.R_after (ok := (fun k_ => some k_ ≠ (u6 : Value).ownBlock)) (by (with_reducible repeat (first | apply Kd.R_alloc | apply Kd.R_drewN | apply Kd.R_drew)); exact Kd.R_mono HO298.out (fun _ hk => by first | exact ⟨hk.2, hk.1⟩ | exact hk | exact ⟨hk.1.2, hk.2⟩ | exact ⟨hk.2, hk.1.2⟩)) hg hat); have n5_ := Aside0.mk (Kd.R_over' (by (with_reducible repeat (first | apply Kd.R_alloc | apply Kd.R_drewN | apply Kd.R_drew)); exact HL300_0.out) (Kd.R_typed (by (with_reducible repeat (first | apply Kd.R_alloc | apply Kd.R_drewN | apply Kd.R_drew)); exact HO_12.out)) (by decide) hg); have n6_ := Aside0.mk (hb); have n7_ := Aside0.mk (ho); clear HO_6; clear HO_11; clear HO_62; clear HL295_0; clear HO298; clear HL300_0; clear HB; clear HO_12; have HO_6 := n0_; have HO_11 := n1_; have HO_62 := n2_; have HL295_0 := n3_; have HO298 := n4_; have HL300_0 := n5_; have HB := n6_; have HO303 := n7_; clear n0_ n1_ n2_ n3_ n4_ n5_ n6_ n7_; clear ho hb hg hat))
              go_roundg k3
              case measure => have := HK1.out; have := HK2.out; have := HK3.out; omega
              case rel => exact ⟨(y301), (wrap64 (x64_3 + 1)), (by first | rfl | (simp; done) | (simp [*]; done)), H', ⟨by have := HK1.out; have := HK2.out; have := HK3.out; omega⟩, ⟨by (with_reducible repeat (first | apply Kd.R_alloc | apply Kd.R_drewN | apply Kd.R_drew)); exact Kd.R_mono HO_6.out (fun _ hk => hk.2)⟩, ⟨by (with_reducible repeat (first | apply Kd.S_alloc | apply Kd.S_drewN | apply Kd.S_drew)); exact HO_11.out⟩, ⟨by (with_reducible repeat (first | apply Kd.R_alloc | apply Kd.R_drewN | apply Kd.R_drew)); exact Kd.R_mono HO303.out (fun _ hk => hk.1)⟩, ⟨by (with_reducible repeat (first | apply Kd.S_alloc | apply Kd.S_drewN | apply Kd.S_drew)); exact HO_62.out⟩, ⟨by repeat (first | (with_reducible first | exact HB.out | apply below_alloc | apply pw_below_drewN | apply below_drew1) | exact HB.out)⟩⟩
end Go.Proofs.YtgmdjhokcipajaaQ.PTlv
