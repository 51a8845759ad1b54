-- written by this session's turned copy of the kit's print.py; Lean checks it
import Derived.Test.YtjdapfimjpbnmaaPScr0
import Derived.Test.YtjdapfimjpbnmaaPScr3
namespace Go.Proofs.YtjdapfimjpbnmaaQ.PScr
open Go.RowKit Go.Proofs.YtjdapfimjpbnmaaW.PrintWords Go.Proofs.YtjdapfimjpbnmaaW.PrintLast Go.Proofs.YtjdapfimjpbnmaaW.PrintMore
attribute [local go_sem] max2_int min2_int max_two min_two max_three min_three max_four min_four   -- for this text's walks alone
set_option linter.unusedVariables false
set_option linter.unusedSimpArgs false

/-! ### script_Encode: function 14 -/
mutual
def script_Encode.j0 : Nat → Int → Int → List (S30) → Bool → Option (List Int × Int)
  | 0, _, _, _, _ => none
  | k + 1, x0, x1, x2, x29 => if x29 = true then (some (([] : List Int), 1)) else ((script_put.f k (([(x0) % 256] : List Int)) (IntKind.u64.wrap (x1)) 2).bind fun t125 => (script_Encode.l0 k t125 x2 (x2.length : Int) 0))
def script_Encode.l0 : Nat → List Int → List (S30) → Int → Int → Option (List Int × Int)
  | 0, _, _, _, _ => none
  | k + 1, x8, x36, x37, x38 => if x38 < x37 then (if 0 ≤ x38 then (if x38 < (x36.length : Int) then ((script_Event_Right.f k ((rd_T30 x36 x38).f0) ((rd_T30 x36 x38).f1) ((rd_T30 x36 x38).f2) ((rd_T30 x36 x38).f3) ((rd_T30 x36 x38).f4.f0) ((rd_T30 x36 x38).f4.f1) ((rd_T30 x36 x38).f5)).bind fun t130 => (if t130 = true then (if x8.length < 140737488355328 then ((some (([(rd_T30 x36 x38).f1, (rd_T30 x36 x38).f2, (rd_T30 x36 x38).f3] : List Int) : List Int)).bind fun y134 => (script_Encode.l1 k (x8 ++ [((rd_T30 x36 x38).f0) % 256]) x36 x37 x38 y134 (y134.length : Int) 0 ((rd_T30 x36 x38).f0) ((rd_T30 x36 x38).f1) ((rd_T30 x36 x38).f2) ((rd_T30 x36 x38).f3) ((rd_T30 x36 x38).f4.f0) ((rd_T30 x36 x38).f4.f1) ((rd_T30 x36 x38).f5))) else (none)) else (some (([] : List Int), 1)))) else (none)) else (none)) else (some (x8, 0))
def script_Encode.l1 : Nat → List Int → List (S30) → Int → Int → List Int → Int → Int → Int → Int → Int → Int → Int → Int → ByteArray → Option (List Int × Int)
  | 0, _, _, _, _, _, _, _, _, _, _, _, _, _, _ => none
  | k + 1, x8, x36, x37, x38, x57, x58, x59, x130000, x130001, x130002, x130003, x130004, x130005, x130006 => if x59 < x58 then (if 0 ≤ x59 then (if x59 < (x57.length : Int) then ((script_put.f k x8 (IntKind.u64.wrap (rd x57 x59)) 3).bind fun t138 => (script_Encode.l1 k t138 x36 x37 x38 x57 x58 (wrap64 (x59 + 1)) x130000 x130001 x130002 x130003 x130004 x130005 x130006)) else (none)) else (none)) else ((script_put.f k x8 (IntKind.u64.wrap (x130004)) 4).bind fun t141 => ((some (([(x130005) % 256, ((x130006.size : Int)) % 256] : List Int) : List Int)).bind fun y144 => (if t141.length + y144.length < 140737488355328 then ((some (t141 ++ y144 : List Int)).bind fun y147 => (if y147.length + x130006.size < 140737488355328 then (script_Encode.l0 k (y147 ++ bytesOf x130006) x36 x37 (wrap64 (x38 + 1))) else (none))) else (none))))
end
def script_Encode.f (k : Nat) (a0 : Int) (a1 : Int) (l2 : List (S30)) : Option (List Int × Int) := if (l2.length : Int) > 8192 then (some (([] : List Int), 7)) else (if a0 < 1 then (script_Encode.j0 k a0 a1 l2 true) else (if a0 > 8 then (script_Encode.j0 k a0 a1 l2 true) else (if a1 < 1 then (script_Encode.j0 k a0 a1 l2 true) else (script_Encode.j0 k a0 a1 l2 (decide (a1 > 512))))))
theorem script_Encode.mono_l : ∀ k, (∀ y0 y1 y2 y3, LeO (script_Encode.j0 k y0 y1 y2 y3) (script_Encode.j0 (k + 1) y0 y1 y2 y3)) ∧ (∀ y0 y1 y2 y3, LeO (script_Encode.l0 k y0 y1 y2 y3) (script_Encode.l0 (k + 1) y0 y1 y2 y3)) ∧ (∀ y0 y1 y2 y3 y4 y5 y6 y7 y8 y9 y10 y11 y12 y13, LeO (script_Encode.l1 k y0 y1 y2 y3 y4 y5 y6 y7 y8 y9 y10 y11 y12 y13) (script_Encode.l1 (k + 1) y0 y1 y2 y3 y4 y5 y6 y7 y8 y9 y10 y11 y12 y13))
  | 0 => ⟨fun _ _ _ _ r h => by simp [script_Encode.j0] at h, fun _ _ _ _ r h => by simp [script_Encode.l0] at h, fun _ _ _ _ _ _ _ _ _ _ _ _ _ _ r h => by simp [script_Encode.l1] at h⟩
  | k + 1 => by
    obtain ⟨ih0, ih1, ih2⟩ := script_Encode.mono_l k
    refine ⟨?_, ?_, ?_⟩
    · intro y0 y1 y2 y3
      unfold script_Encode.j0
      repeat' first
      | (with_reducible exact ih0 _ _ _ _)
      | (with_reducible exact ih1 _ _ _ _)
      | (with_reducible exact ih2 _ _ _ _ _ _ _ _ _ _ _ _ _ _)
      | (with_reducible exact script_Event_Right.mono _ _ _ _ _ _ _ _)
      | (with_reducible exact script_put.mono _ _ _ _)
      | (with_reducible exact LeO.refl _)
      | (with_reducible exact LeO.none _)
      | (with_reducible refine LeO.ite ?_ ?_)
      | (with_reducible refine LeO.bind ?_ (fun _ => ?_))
      | exact ih0 _ _ _ _
      | exact ih1 _ _ _ _
      | exact ih2 _ _ _ _ _ _ _ _ _ _ _ _ _ _
      | exact script_Event_Right.mono _ _ _ _ _ _ _ _
      | exact script_put.mono _ _ _ _
      | exact LeO.none _
      | refine LeO.ite ?_ ?_
      | refine LeO.bind ?_ (fun _ => ?_)
    · intro y0 y1 y2 y3
      unfold script_Encode.l0
      repeat' first
      | (with_reducible exact ih0 _ _ _ _)
      | (with_reducible exact ih1 _ _ _ _)
      | (with_reducible exact ih2 _ _ _ _ _ _ _ _ _ _ _ _ _ _)
      | (with_reducible exact script_Event_Right.mono _ _ _ _ _ _ _ _)
      | (with_reducible exact script_put.mono _ _ _ _)
      | (with_reducible exact LeO.refl _)
      | (with_reducible exact LeO.none _)
      | (with_reducible refine LeO.ite ?_ ?_)
      | (with_reducible refine LeO.bind ?_ (fun _ => ?_))
      | exact ih0 _ _ _ _
      | exact ih1 _ _ _ _
      | exact ih2 _ _ _ _ _ _ _ _ _ _ _ _ _ _
      | exact script_Event_Right.mono _ _ _ _ _ _ _ _
      | exact script_put.mono _ _ _ _
      | exact LeO.none _
      | refine LeO.ite ?_ ?_
      | refine LeO.bind ?_ (fun _ => ?_)
    · intro y0 y1 y2 y3 y4 y5 y6 y7 y8 y9 y10 y11 y12 y13
      unfold script_Encode.l1
      repeat' first
      | (with_reducible exact ih0 _ _ _ _)
      | (with_reducible exact ih1 _ _ _ _)
      | (with_reducible exact ih2 _ _ _ _ _ _ _ _ _ _ _ _ _ _)
      | (with_reducible exact script_Event_Right.mono _ _ _ _ _ _ _ _)
      | (with_reducible exact script_put.mono _ _ _ _)
      | (with_reducible exact LeO.refl _)
      | (with_reducible exact LeO.none _)
      | (with_reducible refine LeO.ite ?_ ?_)
      | (with_reducible refine LeO.bind ?_ (fun _ => ?_))
      | exact ih0 _ _ _ _
      | exact ih1 _ _ _ _
      | exact ih2 _ _ _ _ _ _ _ _ _ _ _ _ _ _
      | exact script_Event_Right.mono _ _ _ _ _ _ _ _
      | exact script_put.mono _ _ _ _
      | exact LeO.none _
      | refine LeO.ite ?_ ?_
      | refine LeO.bind ?_ (fun _ => ?_)
theorem script_Encode.mono : ∀ a0 a1 a2 k, LeO (script_Encode.f k a0 a1 a2) (script_Encode.f (k + 1) a0 a1 a2) := by
  intro a0 a1 a2 k
  obtain ⟨ih0, ih1, ih2⟩ := script_Encode.mono_l k
  unfold script_Encode.f
  repeat' first
      | (with_reducible exact ih0 _ _ _ _)
      | (with_reducible exact ih1 _ _ _ _)
      | (with_reducible exact ih2 _ _ _ _ _ _ _ _ _ _ _ _ _ _)
      | (with_reducible exact script_Event_Right.mono _ _ _ _ _ _ _ _)
      | (with_reducible exact script_put.mono _ _ _ _)
      | (with_reducible exact LeO.refl _)
      | (with_reducible exact LeO.none _)
      | (with_reducible refine LeO.ite ?_ ?_)
      | (with_reducible refine LeO.bind ?_ (fun _ => ?_))
      | exact ih0 _ _ _ _
      | exact ih1 _ _ _ _
      | exact ih2 _ _ _ _ _ _ _ _ _ _ _ _ _ _
      | exact script_Event_Right.mono _ _ _ _ _ _ _ _
      | exact script_put.mono _ _ _ _
      | exact LeO.none _
      | refine LeO.ite ?_ ?_
      | refine LeO.bind ?_ (fun _ => ?_)
def script_Encode.T17 : Bool × List (List Nat × List Nat) := (true, [([], []), ([], []), ([1], [1]), ([2], [2]), ([3], [3]), ([0, 4], [0, 4]), ([], []), ([6], [6]), ([7], [7]), ([8], [8]), ([], []), ([10], [10]), ([11], [11]), ([12], [12]), ([9, 13], [9, 13]), ([5, 14, 5], [5, 14]), ([15, 15, 0, 1, 2, 3, 4, 5, 6, 7, 8, 9, 10, 11, 12, 13, 14, 15], [0, 15])])
def script_Encode.B17 : List Nat := [0, 0, 2, 6, 14, 31, 0, 64, 192, 448, 0, 1024, 3072, 7168, 16320, 32767, 65535]
theorem script_Encode.tab17 : rtab .any (opsOf Try.f14 17) = script_Encode.T17 := by kernel_rfl
theorem script_Encode.bits17 : waitsOk script_Encode.T17.2 script_Encode.B17 = true := by kernel_rfl
set_option maxHeartbeats 8000000 in
set_option maxRecDepth 100000 in
theorem script_Encode.calls (k : Nat) (a0 : Int) (a1 : Int) (A2 : Option Addr) (c2 : Nat) (l2 : List (S30)) (r1 : List Int) (r2 : Int) (w : World) (hr2 : Kd.C k30 w A2 l2.length l2) (hc2 : l2.length ≤ c2) (h : script_Encode.f k a0 a1 l2 = some (r1, r2)) :
    Calls Try.prog 14 #[.int .i64 a0, .int .i64 a1, .slice A2 l2.length c2] w fun e w' => ∃ v0_ : Value, e = .returned (.tuple #[v0_, .int .i64 r2]) ∧ Kd.R (Kd.int .u8) 5 w' w.heap.size (fun _ => True) v0_ r1 ∧ Below w.heap.size w w' := by
  have hu30 := Try.underlying30
  have HR2 := Aside0.mk hr2
  have HC2 := Aside0.mk hc2
  clear hr2 hc2
  have HB := Aside0.mk (Below.refl w.heap.size w)
  have H : (if (l2.length : Int) > 8192 then (some (([] : List Int), 7)) else (if a0 < 1 then (script_Encode.j0 k a0 a1 l2 true) else (if a0 > 8 then (script_Encode.j0 k a0 a1 l2 true) else (if a1 < 1 then (script_Encode.j0 k a0 a1 l2 true) else (script_Encode.j0 k a0 a1 l2 (decide (a1 > 512))))))) = some (r1, r2) := h
  clear h
  by_cases c4 : (l2.length : Int) > 8192
  case pos =>
    rw [if_pos c4] at H; have c4b0 : decide (8192 < (l2.length : Int)) = true := decide_eq_true c4
    have c4b1 : decide (8192 < l2.length) = true := decide_eq_true (by omega)
    clear c4
    simp only [Option.some.injEq, Prod.mk.injEq] at H
    obtain ⟨rfl, rfl⟩ := H
    go_enter Try.func14, Try.ntmps14
    go_wp2
    go_ret2
    exact ⟨_, by first | rfl | (simp [errW_none, errW_some] <;> rfl) | (simp [*, errW_none, errW_some] <;> rfl), by first | exact Kd.R_nil _ _ _ _ _ | exact Kd.N_nil _ _ _ _ _ | exact Kd.V_nil _ _ _ _ _ | exact Kd.Q_nil _ _ _ _ _ | exact Kd.S_nil _ _ _ _ _, by repeat (first | (with_reducible first | exact HB.out | apply below_alloc | apply pw_below_drewN | apply below_drew1) | exact HB.out)⟩
  rw [if_neg c4] at H; have c4b0 : decide (8192 < (l2.length : Int)) = false := decide_eq_false c4
  have c4b1 : decide (8192 < l2.length) = false := decide_eq_false (by omega)
  clear c4
  have HC5 := Aside0.mk H
  clear H
  go_enter Try.func14, Try.ntmps14
  go_upto_region 3 with (fail)
  go_cut [29] (fun v29 wc => ∃ (kq : Nat) (x29_4 : Bool), v29 = .bool x29_4 ∧ Aside0 (script_Encode.j0 kq a0 a1 l2 x29_4 = some (r1, r2)) ∧ Aside0 (kq ≤ k) ∧ Aside0 (Below w.heap.size w wc))
  case first =>
    have H := HC5.out
    clear HC5
    by_cases c6 : a0 < 1
    case pos =>
      rw [if_pos c6] at H; have c6b0 : decide (a0 < 1) = true := decide_eq_true c6
      clear c6
      (first | rw [c6b0] | (simp only [i64_w, i32_w]; rw [c6b0]) | skip)
      have H' := Aside0.mk H
      clear H
      go_wp2
      go_meet
      case rel => exact ⟨_, (true), (by first | rfl | (simp; done) | (simp [*]; done)), H', ⟨by first | omega | exact Nat.le_refl _⟩, ⟨by repeat (first | (with_reducible first | exact HB.out | apply below_alloc | apply pw_below_drewN | apply below_drew1) | exact HB.out)⟩⟩
    rw [if_neg c6] at H; have c6b0 : decide (a0 < 1) = false := decide_eq_false c6
    clear c6
    (first | rw [c6b0] | (simp only [i64_w, i32_w]; rw [c6b0]) | skip)
    by_cases c7 : a0 > 8
    case pos =>
      rw [if_pos c7] at H; have c7b0 : decide (8 < a0) = true := decide_eq_true c7
      clear c7
      have H' := Aside0.mk H
      clear H
      go_wp2
      go_meet
      case rel => exact ⟨_, (true), (by first | rfl | (simp; done) | (simp [*]; done)), H', ⟨by first | omega | exact Nat.le_refl _⟩, ⟨by repeat (first | (with_reducible first | exact HB.out | apply below_alloc | apply pw_below_drewN | apply below_drew1) | exact HB.out)⟩⟩
    rw [if_neg c7] at H; have c7b0 : decide (8 < a0) = false := decide_eq_false c7
    clear c7
    by_cases c8 : a1 < 1
    case neg =>
      rw [if_neg c8] at H; have c8b0 : decide (a1 < 1) = false := decide_eq_false c8
      clear c8
      have H' := Aside0.mk H
      clear H
      go_wp2
      go_meet
      case rel => exact ⟨_, (decide (a1 > 512)), (by first | rfl | (simp; done) | (simp [*]; done)), H', ⟨by first | omega | exact Nat.le_refl _⟩, ⟨by repeat (first | (with_reducible first | exact HB.out | apply below_alloc | apply pw_below_drewN | apply below_drew1) | exact HB.out)⟩⟩
    rw [if_pos c8] at H; have c8b0 : decide (a1 < 1) = true := decide_eq_true c8
    clear c8
    have H' := Aside0.mk H
    clear H
    go_wp2
    go_meet
    case rel => exact ⟨_, (true), (by first | rfl | (simp; done) | (simp [*]; done)), H', ⟨by first | omega | exact Nat.le_refl _⟩, ⟨by repeat (first | (with_reducible first | exact HB.out | apply below_alloc | apply pw_below_drewN | apply below_drew1) | exact HB.out)⟩⟩
  case rest =>
    clear HC5
    try clear c1; try clear c2; try clear p2; try clear c4; try clear c4b0; try clear c4b1; try clear c6; try clear c6b0; try clear c7; try clear c7b0; try clear c8; try clear c8b0
    obtain ⟨kq, x29_4, rfl, HA, HJ4, HB⟩ := hcut
    cases kq with
    | zero => exact absurd HA.out (by simp [script_Encode.j0])
    | succ kj4 =>
      have H := HA.out
      clear HA
      simp only [script_Encode.j0] at H
      by_cases c9 : x29_4 = true
      case pos =>
        subst c9
        have H1 : (some (([] : List Int), 1)) = some (r1, r2) := by rw [if_pos rfl] at H; exact H
        clear H
        have H := H1
        clear H1
        simp only [Option.some.injEq, Prod.mk.injEq] at H
        obtain ⟨rfl, rfl⟩ := H
        go_wp2
        go_ret2
        exact ⟨_, by first | rfl | (simp [errW_none, errW_some] <;> rfl) | (simp [*, errW_none, errW_some] <;> rfl), by first | exact Kd.R_nil _ _ _ _ _ | exact Kd.N_nil _ _ _ _ _ | exact Kd.V_nil _ _ _ _ _ | exact Kd.Q_nil _ _ _ _ _ | exact Kd.S_nil _ _ _ _ _, by repeat (first | (with_reducible first | exact HB.out | apply below_alloc | apply pw_below_drewN | apply below_drew1) | exact HB.out)⟩
      replace c9 := Bool.eq_false_iff.mpr c9
      subst c9
      have H1 : ((script_put.f kj4 (([(a0) % 256] : List Int)) (IntKind.u64.wrap (a1)) 2).bind fun t125 => (script_Encode.l0 kj4 t125 l2 (l2.length : Int) 0)) = some (r1, r2) := by rw [if_neg (show ¬ (false = true) by decide)] at H; exact H
      clear H
      have H := H1
      clear H1
      obtain ⟨y122, hy122⟩ : ∃ y_ : List Int, y_ = (([(a0) % 256] : List Int)) := ⟨_, rfl⟩
      replace H : ((script_put.f kj4 y122 (IntKind.u64.wrap (a1)) 2).bind fun t125 => (script_Encode.l0 kj4 t125 l2 (l2.length : Int) 0)) = some (r1, r2) := by first | (rw [hy122]; with_reducible exact H) | (have H2_ := (Option.bind_some _ _).symm.trans H; rw [hy122]; with_reducible exact H2_) | (have H2_ := (Option.bind_some _ _).symm.trans H; with_reducible exact H2_) | with_reducible exact H | (rw [hy122]; exact H) | exact H
      have Ny122 := Aside0.mk hy122
      clear hy122
      replace H := Option.bind_eq_some_iff.mp H
      obtain ⟨t125, A100, H⟩ := H
      replace H : (script_Encode.l0 kj4 t125 l2 (l2.length : Int) 0) = some (r1, r2) := H
      have A10 := Aside0.mk A100
      clear A100
      have H' := Aside0.mk H
      clear H
      go_wp2_with (first | ((with_reducible refine gate_dst (N := 32) rfl ?_); refine Kd.R_lit (Kd.int .u8) _ 5 ?hg (N := 32) ?hd (xs := ([(a0) % 256] : List Int)) (inner := [.int .u8 ((a0) % 256)]) (ok := fun _ => True) (okp := fun _ => True) ?hr ?hp (fun _ hk => hk) trivial (Below.refl _ _) (Nat.le_refl _) (by simp) ?_; (case hd => rfl); (case hg => rfl); (case hr => first | (go_simp; done) | (go_simp; rfl)); (case hp => exact (Reps.one (show Kd.M (Kd.int .u8) _ _ _ ((a0) % 256) [.int .u8 ((a0) % 256)] from rfl) (Reps.none _ _))); intro v123 w11 ho12 hb hg_ hnew_; clear hg_ hnew_; (first | rw [← Ny122.out] at ho12 | (simp only [Int.reduceToNat] at ho12; rw [← Ny122.out] at ho12)); have n0_ := Aside0.mk (Kd.R_lower ho12 (below_size (by repeat (first | (with_reducible first | exact HB.out | apply below_alloc | apply pw_below_drewN | apply below_drew1) | exact HB.out)))); have n1_ := Aside0.mk (below_step (by repeat (first | (with_reducible first | exact HB.out | apply below_alloc | apply pw_below_drewN | apply below_drew1) | exact HB.out)) hb); clear HB; have HO124 := n0_; have HB := n1_; clear n0_ n1_; clear hb ho12; obtain ⟨Ao13, co13, eo13⟩ := Kd.R_slice HO124.out; subst eo13) | ((with_reducible refine gate_callee (f := 34) rfl ?_); refine goesL_ (some 35) rfl rfl Try.func34 (by kernel_rfl) rfl #[.slice Ao13 y122.length co13, .int .u64 (IntKind.u64.wrap (a1)), .int .i64 2] rfl (by (try simp only [List.map_toArray, List.map_cons, List.map_nil]); first | done | rfl | (simp only [List.length_drop, List.length_take]; rfl)) ?_; (with_reducible refine (script_put.calls kj4 (fun k_ => some k_ = (.slice Ao13 y122.length co13 : Value).ownBlock) (.slice Ao13 y122.length co13) y122 (IntKind.u64.wrap (a1)) 2 t125 w _ ?side1 ?side2 A10.out).mono ?_); (case side1 => repeat (first | (with_reducible first | exact HB.out | apply below_alloc | apply pw_below_drewN | apply below_drew1) | exact HB.out)); (case side2 => exact Kd.R_tight rfl HO124.out); rintro e w14 ⟨v126, rfl, ho0, hb, hkp⟩; refine ⟨_, rfl, ?_⟩; have n0_ := Aside0.mk (Kd.R_mono (ok' := fun k_ => True) ho0 (fun k_ hk_ => trivial)); have n1_ := Aside0.mk (hb); clear HB; clear HO124; have HO127 := n0_; have HB := n1_; clear n0_ n1_; (try clear hb); (try clear hkp); (try clear ho0)))
      go_loopg [8, 38] kj4 (fun kq v8 v38 w' => ∃ (x8_2 : List Int) (x38_2 : Int), v38 = .int .i64 x38_2 ∧ Aside0 (script_Encode.l0 kq x8_2 l2 (l2.length : Int) x38_2 = some (r1, r2)) ∧ Aside0 (kq ≤ kj4) ∧ Aside0 (Kd.R (Kd.int .u8) 5 w' w.heap.size (fun _ => True) v8 x8_2) ∧ Aside0 (Below w.heap.size w w'))
      case atStart => exact ⟨(t125), (0), (by first | rfl | (simp; done) | (simp [*]; done)), H', ⟨Nat.le_refl _⟩, ⟨by (with_reducible repeat (first | apply Kd.R_alloc | apply Kd.R_drewN | apply Kd.R_drew)); exact HO127.out⟩, ⟨by repeat (first | (with_reducible first | exact HB.out | apply below_alloc | apply pw_below_drewN | apply below_drew1) | exact HB.out)⟩⟩
      case round =>
        clear H'
        try clear c1; try clear c2; try clear p2; try clear c3; try clear c4; try clear c4b0; try clear c4b1; try clear c6; try clear c6b0; try clear c7; try clear c7b0; try clear c8; try clear c8b0; try clear c9; try clear c14; try clear p2
        obtain ⟨x8_2, x38_2, rfl, HA, HK2, HO_8, HB⟩ := hrel
        cases gk with
        | zero => exact absurd HA.out (by simp [script_Encode.l0])
        | succ k2 =>
          have H := HA.out
          clear HA
          simp only [script_Encode.l0] at H
          by_cases c15 : x38_2 < (l2.length : Int)
          case neg =>
            rw [if_neg c15] at H; have c15b0 : decide (x38_2 < (l2.length : Int)) = false := decide_eq_false c15
            clear c15
            simp only [Option.some.injEq, Prod.mk.injEq] at H
            obtain ⟨rfl, rfl⟩ := H
            go_wp2
            go_ret2
            exact ⟨_, by first | rfl | (simp [errW_none, errW_some] <;> rfl) | (simp [*, errW_none, errW_some] <;> rfl), by (with_reducible repeat (first | apply Kd.R_alloc | apply Kd.R_drewN | apply Kd.R_drew)); exact HO_8.out, by repeat (first | (with_reducible first | exact HB.out | apply below_alloc | apply pw_below_drewN | apply below_drew1) | exact HB.out)⟩

          rw [if_pos c15] at H; have c15b0 : decide (x38_2 < (l2.length : Int)) = true := decide_eq_true c15
          clear c15
          by_cases c16 : 0 ≤ x38_2
          case neg =>
            rw [if_neg c16] at H; exact absurd H (by simp)
          rw [if_pos c16] at H; have c16b0 : decide (0 ≤ x38_2) = true := decide_eq_true c16
          clear c16
          by_cases c17 : x38_2 < (l2.length : Int)
          case neg =>
            rw [if_neg c17] at H; exact absurd H (by simp)
          rw [if_pos c17] at H; have c17b0 : decide (x38_2 < (l2.length : Int)) = true := decide_eq_true c17
          clear c17
          replace H := Option.bind_eq_some_iff.mp H
          obtain ⟨t130, A180, H⟩ := H
          replace H : (if t130 = true then (if x8_2.length < 140737488355328 then ((some (([(rd_T30 l2 x38_2).f1, (rd_T30 l2 x38_2).f2, (rd_T30 l2 x38_2).f3] : List Int) : List Int)).bind fun y134 => (script_Encode.l1 k2 (x8_2 ++ [((rd_T30 l2 x38_2).f0) % 256]) l2 (l2.length : Int) x38_2 y134 (y134.length : Int) 0 ((rd_T30 l2 x38_2).f0) ((rd_T30 l2 x38_2).f1) ((rd_T30 l2 x38_2).f2) ((rd_T30 l2 x38_2).f3) ((rd_T30 l2 x38_2).f4.f0) ((rd_T30 l2 x38_2).f4.f1) ((rd_T30 l2 x38_2).f5))) else (none)) else (some (([] : List Int), 1))) = some (r1, r2) := H
          have A18 := Aside0.mk A180
          clear A180
          by_cases c19 : t130 = true
          case neg =>
            replace c19 := Bool.eq_false_iff.mpr c19
            subst c19
            have H1 : (some (([] : List Int), 1)) = some (r1, r2) := by rw [if_neg (show ¬ (false = true) by decide)] at H; exact H
            clear H
            have H := H1
            clear H1
            simp only [Option.some.injEq, Prod.mk.injEq] at H
            obtain ⟨rfl, rfl⟩ := H
            have p128 : 0 ≤ (x38_2 : Int) := of_decide_eq_true (by first | (with_reducible assumption) | assumption)
            have q128 : x38_2 < (l2.length : Int) := of_decide_eq_true (by first | (with_reducible assumption) | assumption)
            obtain ⟨ad128, e128, hx128_0, hx128_1, hx128_2, hx128_3, hx128_4, hx128_5, hx128_6⟩ := at_T30 HR2.out x38_2 p128 q128
            cases e128
            replace hx128_0 := (HB.out.cell (World.block_lt_of_cell? w _ hx128_0)).trans hx128_0
            replace hx128_1 := (HB.out.cell (World.block_lt_of_cell? w _ hx128_1)).trans hx128_1
            replace hx128_2 := (HB.out.cell (World.block_lt_of_cell? w _ hx128_2)).trans hx128_2
            replace hx128_3 := (HB.out.cell (World.block_lt_of_cell? w _ hx128_3)).trans hx128_3
            replace hx128_4 := (HB.out.cell (World.block_lt_of_cell? w _ hx128_4)).trans hx128_4
            replace hx128_5 := (HB.out.cell (World.block_lt_of_cell? w _ hx128_5)).trans hx128_5
            replace hx128_6 := (HB.out.cell (World.block_lt_of_cell? w _ hx128_6)).trans hx128_6
            replace p128 := eq_true p128
            replace q128 := eq_true q128
            go_wp2_with (first | ((with_reducible refine gate_dst (N := 10) rfl ?_); refine box_event ?hg (N := 10) ?hd (cs := #[.int .i64 0, .int .i64 0, .int .i64 0, .int .i64 0, .int .u32 0, .int .i64 0, .string (⟨#[]⟩ : ByteArray)]) (t := 30) ?hr ?_; (case hd => rfl); (case hg => rfl); (case hr => first | (go_simp; done) | (go_simp; rfl)); intro gb129 hg w49 hbox hb; have n0_ := Aside0.mk (Kd.R_below (by (with_reducible repeat (first | apply Kd.R_alloc | apply Kd.R_drewN | apply Kd.R_drew)); exact HO_8.out) hb); have n1_ := Aside0.mk (below_step (by repeat (first | (with_reducible first | exact HB.out | apply below_alloc | apply pw_below_drewN | apply below_drew1) | exact HB.out)) hb); have n2_ := Aside0.mk (hbox); have n3_ := Aside0.mk ((by rw [hg]; exact (below_size (by repeat (first | (with_reducible first | exact HB.out | apply below_alloc | apply pw_below_drewN | apply below_drew1) | exact HB.out))) : w.heap.size ≤ gb129)); have n4_ := Aside0.mk ((by rw [hg]; exact (below_size (by repeat (first | (with_reducible first | exact HB.out | apply below_alloc | apply pw_below_drewN | apply below_drew1) | exact HB.out))) : w.heap.size ≤ gb129)); clear HO_8; clear HB; have HO_8 := n0_; have HB := n1_; have BK129 := n2_; have GW129 := n3_; have GE129 := n4_; clear n0_ n1_ n2_ n3_ n4_; clear hb hbox hg; have hcz50_0 : w49.cell? ⟨gb129, 0, none⟩ = some (.int .i64 0) := (blk_cell BK129.out 0).trans rfl; have hcz50_1 : w49.cell? ⟨gb129, 1, none⟩ = some (.int .i64 0) := (blk_cell BK129.out 1).trans rfl; have hcz50_2 : w49.cell? ⟨gb129, 2, none⟩ = some (.int .i64 0) := (blk_cell BK129.out 2).trans rfl; have hcz50_3 : w49.cell? ⟨gb129, 3, none⟩ = some (.int .i64 0) := (blk_cell BK129.out 3).trans rfl; have hcz50_4 : w49.cell? ⟨gb129, 4, none⟩ = some (.int .u32 0) := (blk_cell BK129.out 4).trans rfl; have hcz50_5 : w49.cell? ⟨gb129, 5, none⟩ = some (.int .i64 0) := (blk_cell BK129.out 5).trans rfl; have hcz50_6 : w49.cell? ⟨gb129, 6, none⟩ = some (.string (⟨#[]⟩ : ByteArray)) := (blk_cell BK129.out 6).trans rfl; have hfz50_0 := blk_frozen BK129.out 0; have hfz50_1 := blk_frozen BK129.out 1; have hfz50_2 := blk_frozen BK129.out 2; have hfz50_3 := blk_frozen BK129.out 3; have hfz50_4 := blk_frozen BK129.out 4; have hfz50_5 := blk_frozen BK129.out 5; have hfz50_6 := blk_frozen BK129.out 6) | ((with_reducible refine gate_callee (f := 12) rfl ?_); refine goesL_ (some 43) rfl rfl Try.func12 (by kernel_rfl) rfl #[.agg #[.int .i64 ((rd_T30 l2 x38_2).f0), .int .i64 ((rd_T30 l2 x38_2).f1), .int .i64 ((rd_T30 l2 x38_2).f2), .int .i64 ((rd_T30 l2 x38_2).f3), .int .u32 ((rd_T30 l2 x38_2).f4.f0), .int .i64 ((rd_T30 l2 x38_2).f4.f1), .string ((rd_T30 l2 x38_2).f5)]] rfl (by (try simp only [List.map_toArray, List.map_cons, List.map_nil]); first | done | rfl | (simp only [List.length_drop, List.length_take]; rfl)) ?_; (with_reducible refine (script_Event_Right.calls k2 ((rd_T30 l2 x38_2).f0) ((rd_T30 l2 x38_2).f1) ((rd_T30 l2 x38_2).f2) ((rd_T30 l2 x38_2).f3) ((rd_T30 l2 x38_2).f4.f0) ((rd_T30 l2 x38_2).f4.f1) ((rd_T30 l2 x38_2).f5) false _ A18.out).mono ?_); rintro e w51 ⟨rfl, hb⟩; refine ⟨_, rfl, ?_⟩; have n0_ := Aside0.mk (Kd.R_below (by (with_reducible repeat (first | apply Kd.R_alloc | apply Kd.R_drewN | apply Kd.R_drew)); exact (Kd.R_mono (Kd.R_far (p := ⟨gb129, 6, none⟩) (Kd.R_far (p := ⟨gb129, 5, none⟩) (Kd.R_far (p := ⟨gb129, 4, none⟩) (Kd.R_far (p := ⟨gb129, 3, none⟩) (Kd.R_far (p := ⟨gb129, 2, none⟩) (Kd.R_far (p := ⟨gb129, 1, none⟩) (Kd.R_far (p := ⟨gb129, 0, none⟩) (Kd.R_types HO_8.out BK129.out (by decide)) (fun _ hk => hk.2) (.int .i64 ((rd_T30 l2 x38_2).f0))) (fun _ hk => hk.2) (.int .i64 ((rd_T30 l2 x38_2).f1))) (fun _ hk => hk.2) (.int .i64 ((rd_T30 l2 x38_2).f2))) (fun _ hk => hk.2) (.int .i64 ((rd_T30 l2 x38_2).f3))) (fun _ hk => hk.2) (.int .u32 ((rd_T30 l2 x38_2).f4.f0))) (fun _ hk => hk.2) (.int .i64 ((rd_T30 l2 x38_2).f4.f1))) (fun _ hk => hk.2) (.string ((rd_T30 l2 x38_2).f5))) (fun _ h_ => h_.1))) hb); have n1_ := Aside0.mk (blk_below (g := gb129) (o := .cells #[.int .i64 ((rd_T30 l2 x38_2).f0), .int .i64 ((rd_T30 l2 x38_2).f1), .int .i64 ((rd_T30 l2 x38_2).f2), .int .i64 ((rd_T30 l2 x38_2).f3), .int .u32 ((rd_T30 l2 x38_2).f4.f0), .int .i64 ((rd_T30 l2 x38_2).f4.f1), .string ((rd_T30 l2 x38_2).f5)] 30 (0, 0)) (by (with_reducible repeat (first | refine blk_drewN ?_ _ | refine blk_drew ?_ | refine blk_alloc ?_ _)); refine blk_put (cs := #[.int .i64 ((rd_T30 l2 x38_2).f0), .int .i64 ((rd_T30 l2 x38_2).f1), .int .i64 ((rd_T30 l2 x38_2).f2), .int .i64 ((rd_T30 l2 x38_2).f3), .int .u32 ((rd_T30 l2 x38_2).f4.f0), .int .i64 ((rd_T30 l2 x38_2).f4.f1), .string (⟨#[]⟩ : ByteArray)]) ?_ 6 _ rfl; (with_reducible repeat (first | refine blk_drewN ?_ _ | refine blk_drew ?_ | refine blk_alloc ?_ _)); refine blk_put (cs := #[.int .i64 ((rd_T30 l2 x38_2).f0), .int .i64 ((rd_T30 l2 x38_2).f1), .int .i64 ((rd_T30 l2 x38_2).f2), .int .i64 ((rd_T30 l2 x38_2).f3), .int .u32 ((rd_T30 l2 x38_2).f4.f0), .int .i64 0, .string (⟨#[]⟩ : ByteArray)]) ?_ 5 _ rfl; (with_reducible repeat (first | refine blk_drewN ?_ _ | refine blk_drew ?_ | refine blk_alloc ?_ _)); refine blk_put (cs := #[.int .i64 ((rd_T30 l2 x38_2).f0), .int .i64 ((rd_T30 l2 x38_2).f1), .int .i64 ((rd_T30 l2 x38_2).f2), .int .i64 ((rd_T30 l2 x38_2).f3), .int .u32 0, .int .i64 0, .string (⟨#[]⟩ : ByteArray)]) ?_ 4 _ rfl; (with_reducible repeat (first | refine blk_drewN ?_ _ | refine blk_drew ?_ | refine blk_alloc ?_ _)); refine blk_put (cs := #[.int .i64 ((rd_T30 l2 x38_2).f0), .int .i64 ((rd_T30 l2 x38_2).f1), .int .i64 ((rd_T30 l2 x38_2).f2), .int .i64 0, .int .u32 0, .int .i64 0, .string (⟨#[]⟩ : ByteArray)]) ?_ 3 _ rfl; (with_reducible repeat (first | refine blk_drewN ?_ _ | refine blk_drew ?_ | refine blk_alloc ?_ _)); refine blk_put (cs := #[.int .i64 ((rd_T30 l2 x38_2).f0), .int .i64 ((rd_T30 l2 x38_2).f1), .int .i64 0, .int .i64 0, .int .u32 0, .int .i64 0, .string (⟨#[]⟩ : ByteArray)]) ?_ 2 _ rfl; (with_reducible repeat (first | refine blk_drewN ?_ _ | refine blk_drew ?_ | refine blk_alloc ?_ _)); refine blk_put (cs := #[.int .i64 ((rd_T30 l2 x38_2).f0), .int .i64 0, .int .i64 0, .int .i64 0, .int .u32 0, .int .i64 0, .string (⟨#[]⟩ : ByteArray)]) ?_ 1 _ rfl; (with_reducible repeat (first | refine blk_drewN ?_ _ | refine blk_drew ?_ | refine blk_alloc ?_ _)); refine blk_put (cs := #[.int .i64 0, .int .i64 0, .int .i64 0, .int .i64 0, .int .u32 0, .int .i64 0, .string (⟨#[]⟩ : ByteArray)]) ?_ 0 _ rfl; (with_reducible repeat (first | refine blk_drewN ?_ _ | refine blk_drew ?_ | refine blk_alloc ?_ _)); exact BK129.out) hb); have n2_ := Aside0.mk (below_step (by repeat (first | (with_reducible first | exact HB.out | apply below_alloc | apply pw_below_drewN | apply below_drew1 | refine below_set ?_ GE129.out) | exact HB.out)) hb); clear HO_8; clear BK129; clear HB; have HO_8 := n0_; have BK129 := n1_; have HB := n2_; clear n0_ n1_ n2_; (try clear hb); (try clear hb2); (try clear hk); (try clear hi)))
            go_ret2
            exact ⟨_, by first | rfl | (simp [errW_none, errW_some] <;> rfl) | (simp [*, errW_none, errW_some] <;> rfl), by first | exact Kd.R_nil _ _ _ _ _ | exact Kd.N_nil _ _ _ _ _ | exact Kd.V_nil _ _ _ _ _ | exact Kd.Q_nil _ _ _ _ _ | exact Kd.S_nil _ _ _ _ _, by repeat (first | (with_reducible first | exact HB.out | apply below_alloc | apply pw_below_drewN | apply below_drew1 | refine below_set ?_ GE129.out) | exact HB.out)⟩
          subst c19
          have H1 : (if x8_2.length < 140737488355328 then ((some (([(rd_T30 l2 x38_2).f1, (rd_T30 l2 x38_2).f2, (rd_T30 l2 x38_2).f3] : List Int) : List Int)).bind fun y134 => (script_Encode.l1 k2 (x8_2 ++ [((rd_T30 l2 x38_2).f0) % 256]) l2 (l2.length : Int) x38_2 y134 (y134.length : Int) 0 ((rd_T30 l2 x38_2).f0) ((rd_T30 l2 x38_2).f1) ((rd_T30 l2 x38_2).f2) ((rd_T30 l2 x38_2).f3) ((rd_T30 l2 x38_2).f4.f0) ((rd_T30 l2 x38_2).f4.f1) ((rd_T30 l2 x38_2).f5))) else (none)) = some (r1, r2) := by rw [if_pos rfl] at H; exact H
          clear H
          have H := H1
          clear H1
          by_cases c20 : x8_2.length < 140737488355328
          case neg =>
            rw [if_neg c20] at H; exact absurd H (by simp)
          rw [if_pos c20] at H; have LMc20 := Aside0.mk c20
          clear c20
          obtain ⟨y131, hy131⟩ : ∃ y_ : List Int, y_ = (x8_2 ++ [((rd_T30 l2 x38_2).f0) % 256]) := ⟨_, rfl⟩
          replace H : ((some (([(rd_T30 l2 x38_2).f1, (rd_T30 l2 x38_2).f2, (rd_T30 l2 x38_2).f3] : List Int) : List Int)).bind fun y134 => (script_Encode.l1 k2 y131 l2 (l2.length : Int) x38_2 y134 (y134.length : Int) 0 ((rd_T30 l2 x38_2).f0) ((rd_T30 l2 x38_2).f1) ((rd_T30 l2 x38_2).f2) ((rd_T30 l2 x38_2).f3) ((rd_T30 l2 x38_2).f4.f0) ((rd_T30 l2 x38_2).f4.f1) ((rd_T30 l2 x38_2).f5))) = some (r1, r2) := by first | (rw [hy131]; with_reducible exact H) | (have H2_ := (Option.bind_some _ _).symm.trans H; rw [hy131]; with_reducible exact H2_) | (have H2_ := (Option.bind_some _ _).symm.trans H; with_reducible exact H2_) | with_reducible exact H | (rw [hy131]; exact H) | exact H
          have Ny131 := Aside0.mk hy131
          clear hy131
          obtain ⟨y134, hy134⟩ : ∃ y_ : List Int, y_ = (([(rd_T30 l2 x38_2).f1, (rd_T30 l2 x38_2).f2, (rd_T30 l2 x38_2).f3] : List Int)) := ⟨_, rfl⟩
          replace H : (script_Encode.l1 k2 y131 l2 (l2.length : Int) x38_2 y134 (y134.length : Int) 0 ((rd_T30 l2 x38_2).f0) ((rd_T30 l2 x38_2).f1) ((rd_T30 l2 x38_2).f2) ((rd_T30 l2 x38_2).f3) ((rd_T30 l2 x38_2).f4.f0) ((rd_T30 l2 x38_2).f4.f1) ((rd_T30 l2 x38_2).f5)) = some (r1, r2) := by first | (rw [hy134]; with_reducible exact H) | (have H2_ := (Option.bind_some _ _).symm.trans H; rw [hy134]; with_reducible exact H2_) | (have H2_ := (Option.bind_some _ _).symm.trans H; with_reducible exact H2_) | with_reducible exact H | (rw [hy134]; exact H) | exact H
          have Ny134 := Aside0.mk hy134
          clear hy134
          have H' := Aside0.mk H
          clear H
          have p128 : 0 ≤ (x38_2 : Int) := of_decide_eq_true (by first | (with_reducible assumption) | assumption)
          have q128 : x38_2 < (l2.length : Int) := of_decide_eq_true (by first | (with_reducible assumption) | assumption)
          obtain ⟨ad128, e128, hx128_0, hx128_1, hx128_2, hx128_3, hx128_4, hx128_5, hx128_6⟩ := at_T30 HR2.out x38_2 p128 q128
          cases e128
          replace hx128_0 := (HB.out.cell (World.block_lt_of_cell? w _ hx128_0)).trans hx128_0
          replace hx128_1 := (HB.out.cell (World.block_lt_of_cell? w _ hx128_1)).trans hx128_1
          replace hx128_2 := (HB.out.cell (World.block_lt_of_cell? w _ hx128_2)).trans hx128_2
          replace hx128_3 := (HB.out.cell (World.block_lt_of_cell? w _ hx128_3)).trans hx128_3
          replace hx128_4 := (HB.out.cell (World.block_lt_of_cell? w _ hx128_4)).trans hx128_4
          replace hx128_5 := (HB.out.cell (World.block_lt_of_cell? w _ hx128_5)).trans hx128_5
          replace hx128_6 := (HB.out.cell (World.block_lt_of_cell? w _ hx128_6)).trans hx128_6
          replace p128 := eq_true p128
          replace q128 := eq_true q128
          go_wp2_with (first | ((with_reducible refine gate_dst (N := 10) rfl ?_); refine box_event ?hg (N := 10) ?hd (cs := #[.int .i64 0, .int .i64 0, .int .i64 0, .int .i64 0, .int .u32 0, .int .i64 0, .string (⟨#[]⟩ : ByteArray)]) (t := 30) ?hr ?_; (case hd => rfl); (case hg => rfl); (case hr => first | (go_simp; done) | (go_simp; rfl)); intro gb129 hg w21 hbox hb; have n0_ := Aside0.mk (Kd.R_below (by (with_reducible repeat (first | apply Kd.R_alloc | apply Kd.R_drewN | apply Kd.R_drew)); exact HO_8.out) hb); have n1_ := Aside0.mk (below_step (by repeat (first | (with_reducible first | exact HB.out | apply below_alloc | apply pw_below_drewN | apply below_drew1) | exact HB.out)) hb); have n2_ := Aside0.mk (hbox); have n3_ := Aside0.mk ((by rw [hg]; exact (below_size (by repeat (first | (with_reducible first | exact HB.out | apply below_alloc | apply pw_below_drewN | apply below_drew1) | exact HB.out))) : w.heap.size ≤ gb129)); have n4_ := Aside0.mk ((by rw [hg]; exact (below_size (by repeat (first | (with_reducible first | exact HB.out | apply below_alloc | apply pw_below_drewN | apply below_drew1) | exact HB.out))) : w.heap.size ≤ gb129)); clear HO_8; clear HB; have HO_8 := n0_; have HB := n1_; have BK129 := n2_; have GW129 := n3_; have GE129 := n4_; clear n0_ n1_ n2_ n3_ n4_; clear hb hbox hg; have hcz22_0 : w21.cell? ⟨gb129, 0, none⟩ = some (.int .i64 0) := (blk_cell BK129.out 0).trans rfl; have hcz22_1 : w21.cell? ⟨gb129, 1, none⟩ = some (.int .i64 0) := (blk_cell BK129.out 1).trans rfl; have hcz22_2 : w21.cell? ⟨gb129, 2, none⟩ = some (.int .i64 0) := (blk_cell BK129.out 2).trans rfl; have hcz22_3 : w21.cell? ⟨gb129, 3, none⟩ = some (.int .i64 0) := (blk_cell BK129.out 3).trans rfl; have hcz22_4 : w21.cell? ⟨gb129, 4, none⟩ = some (.int .u32 0) := (blk_cell BK129.out 4).trans rfl; have hcz22_5 : w21.cell? ⟨gb129, 5, none⟩ = some (.int .i64 0) := (blk_cell BK129.out 5).trans rfl; have hcz22_6 : w21.cell? ⟨gb129, 6, none⟩ = some (.string (⟨#[]⟩ : ByteArray)) := (blk_cell BK129.out 6).trans rfl; have hfz22_0 := blk_frozen BK129.out 0; have hfz22_1 := blk_frozen BK129.out 1; have hfz22_2 := blk_frozen BK129.out 2; have hfz22_3 := blk_frozen BK129.out 3; have hfz22_4 := blk_frozen BK129.out 4; have hfz22_5 := blk_frozen BK129.out 5; have hfz22_6 := blk_frozen BK129.out 6) | ((with_reducible refine gate_callee (f := 12) rfl ?_); refine goesL_ (some 43) rfl rfl Try.func12 (by kernel_rfl) rfl #[.agg #[.int .i64 ((rd_T30 l2 x38_2).f0), .int .i64 ((rd_T30 l2 x38_2).f1), .int .i64 ((rd_T30 l2 x38_2).f2), .int .i64 ((rd_T30 l2 x38_2).f3), .int .u32 ((rd_T30 l2 x38_2).f4.f0), .int .i64 ((rd_T30 l2 x38_2).f4.f1), .string ((rd_T30 l2 x38_2).f5)]] rfl (by (try simp only [List.map_toArray, List.map_cons, List.map_nil]); first | done | rfl | (simp only [List.length_drop, List.length_take]; rfl)) ?_; (with_reducible refine (script_Event_Right.calls k2 ((rd_T30 l2 x38_2).f0) ((rd_T30 l2 x38_2).f1) ((rd_T30 l2 x38_2).f2) ((rd_T30 l2 x38_2).f3) ((rd_T30 l2 x38_2).f4.f0) ((rd_T30 l2 x38_2).f4.f1) ((rd_T30 l2 x38_2).f5) true _ A18.out).mono ?_); rintro e w23 ⟨rfl, hb⟩; refine ⟨_, rfl, ?_⟩; have n0_ := Aside0.mk (Kd.R_below (by (with_reducible repeat (first | apply Kd.R_alloc | apply Kd.R_drewN | apply Kd.R_drew)); exact (Kd.R_mono (Kd.R_far (p := ⟨gb129, 6, none⟩) (Kd.R_far (p := ⟨gb129, 5, none⟩) (Kd.R_far (p := ⟨gb129, 4, none⟩) (Kd.R_far (p := ⟨gb129, 3, none⟩) (Kd.R_far (p := ⟨gb129, 2, none⟩) (Kd.R_far (p := ⟨gb129, 1, none⟩) (Kd.R_far (p := ⟨gb129, 0, none⟩) (Kd.R_types HO_8.out BK129.out (by decide)) (fun _ hk => hk.2) (.int .i64 ((rd_T30 l2 x38_2).f0))) (fun _ hk => hk.2) (.int .i64 ((rd_T30 l2 x38_2).f1))) (fun _ hk => hk.2) (.int .i64 ((rd_T30 l2 x38_2).f2))) (fun _ hk => hk.2) (.int .i64 ((rd_T30 l2 x38_2).f3))) (fun _ hk => hk.2) (.int .u32 ((rd_T30 l2 x38_2).f4.f0))) (fun _ hk => hk.2) (.int .i64 ((rd_T30 l2 x38_2).f4.f1))) (fun _ hk => hk.2) (.string ((rd_T30 l2 x38_2).f5))) (fun _ h_ => h_.1))) hb); have n1_ := Aside0.mk (blk_below (g := gb129) (o := .cells #[.int .i64 ((rd_T30 l2 x38_2).f0), .int .i64 ((rd_T30 l2 x38_2).f1), .int .i64 ((rd_T30 l2 x38_2).f2), .int .i64 ((rd_T30 l2 x38_2).f3), .int .u32 ((rd_T30 l2 x38_2).f4.f0), .int .i64 ((rd_T30 l2 x38_2).f4.f1), .string ((rd_T30 l2 x38_2).f5)] 30 (0, 0)) (by (with_reducible repeat (first | refine blk_drewN ?_ _ | refine blk_drew ?_ | refine blk_alloc ?_ _)); refine blk_put (cs := #[.int .i64 ((rd_T30 l2 x38_2).f0), .int .i64 ((rd_T30 l2 x38_2).f1), .int .i64 ((rd_T30 l2 x38_2).f2), .int .i64 ((rd_T30 l2 x38_2).f3), .int .u32 ((rd_T30 l2 x38_2).f4.f0), .int .i64 ((rd_T30 l2 x38_2).f4.f1), .string (⟨#[]⟩ : ByteArray)]) ?_ 6 _ rfl; (with_reducible repeat (first | refine blk_drewN ?_ _ | refine blk_drew ?_ | refine blk_alloc ?_ _)); refine blk_put (cs := #[.int .i64 ((rd_T30 l2 x38_2).f0), .int .i64 ((rd_T30 l2 x38_2).f1), .int .i64 ((rd_T30 l2 x38_2).f2), .int .i64 ((rd_T30 l2 x38_2).f3), .int .u32 ((rd_T30 l2 x38_2).f4.f0), .int .i64 0, .string (⟨#[]⟩ : ByteArray)]) ?_ 5 _ rfl; (with_reducible repeat (first | refine blk_drewN ?_ _ | refine blk_drew ?_ | refine blk_alloc ?_ _)); refine blk_put (cs := #[.int .i64 ((rd_T30 l2 x38_2).f0), .int .i64 ((rd_T30 l2 x38_2).f1), .int .i64 ((rd_T30 l2 x38_2).f2), .int .i64 ((rd_T30 l2 x38_2).f3), .int .u32 0, .int .i64 0, .string (⟨#[]⟩ : ByteArray)]) ?_ 4 _ rfl; (with_reducible repeat (first | refine blk_drewN ?_ _ | refine blk_drew ?_ | refine blk_alloc ?_ _)); refine blk_put (cs := #[.int .i64 ((rd_T30 l2 x38_2).f0), .int .i64 ((rd_T30 l2 x38_2).f1), .int .i64 ((rd_T30 l2 x38_2).f2), .int .i64 0, .int .u32 0, .int .i64 0, .string (⟨#[]⟩ : ByteArray)]) ?_ 3 _ rfl; (with_reducible repeat (first | refine blk_drewN ?_ _ | refine blk_drew ?_ | refine blk_alloc ?_ _)); refine blk_put (cs := #[.int .i64 ((rd_T30 l2 x38_2).f0), .int .i64 ((rd_T30 l2 x38_2).f1), .int .i64 0, .int .i64 0, .int .u32 0, .int .i64 0, .string (⟨#[]⟩ : ByteArray)]) ?_ 2 _ rfl; (with_reducible repeat (first | refine blk_drewN ?_ _ | refine blk_drew ?_ | refine blk_alloc ?_ _)); refine blk_put (cs := #[.int .i64 ((rd_T30 l2 x38_2).f0), .int .i64 0, .int .i64 0, .int .i64 0, .int .u32 0, .int .i64 0, .string (⟨#[]⟩ : ByteArray)]) ?_ 1 _ rfl; (with_reducible repeat (first | refine blk_drewN ?_ _ | refine blk_drew ?_ | refine blk_alloc ?_ _)); refine blk_put (cs := #[.int .i64 0, .int .i64 0, .int .i64 0, .int .i64 0, .int .u32 0, .int .i64 0, .string (⟨#[]⟩ : ByteArray)]) ?_ 0 _ rfl; (with_reducible repeat (first | refine blk_drewN ?_ _ | refine blk_drew ?_ | refine blk_alloc ?_ _)); exact BK129.out) hb); have n2_ := Aside0.mk (below_step (by repeat (first | (with_reducible first | exact HB.out | apply below_alloc | apply pw_below_drewN | apply below_drew1 | refine below_set ?_ GE129.out) | exact HB.out)) hb); clear HO_8; clear BK129; clear HB; have HO_8 := n0_; have BK129 := n1_; have HB := n2_; clear n0_ n1_ n2_; (try clear hb); (try clear hb2); (try clear hk); (try clear hi); have hcz24_0 : w23.cell? ⟨gb129, 0, none⟩ = some (.int .i64 ((rd_T30 l2 x38_2).f0)) := (blk_cell BK129.out 0).trans rfl; have hcz24_1 : w23.cell? ⟨gb129, 1, none⟩ = some (.int .i64 ((rd_T30 l2 x38_2).f1)) := (blk_cell BK129.out 1).trans rfl; have hcz24_2 : w23.cell? ⟨gb129, 2, none⟩ = some (.int .i64 ((rd_T30 l2 x38_2).f2)) := (blk_cell BK129.out 2).trans rfl; have hcz24_3 : w23.cell? ⟨gb129, 3, none⟩ = some (.int .i64 ((rd_T30 l2 x38_2).f3)) := (blk_cell BK129.out 3).trans rfl; have hcz24_4 : w23.cell? ⟨gb129, 4, none⟩ = some (.int .u32 ((rd_T30 l2 x38_2).f4.f0)) := (blk_cell BK129.out 4).trans rfl; have hcz24_5 : w23.cell? ⟨gb129, 5, none⟩ = some (.int .i64 ((rd_T30 l2 x38_2).f4.f1)) := (blk_cell BK129.out 5).trans rfl; have hcz24_6 : w23.cell? ⟨gb129, 6, none⟩ = some (.string ((rd_T30 l2 x38_2).f5)) := (blk_cell BK129.out 6).trans rfl; have hfz24_0 := blk_frozen BK129.out 0; have hfz24_1 := blk_frozen BK129.out 1; have hfz24_2 := blk_frozen BK129.out 2; have hfz24_3 := blk_frozen BK129.out 3; have hfz24_4 := blk_frozen BK129.out 4; have hfz24_5 := blk_frozen BK129.out 5; have hfz24_6 := blk_frozen BK129.out 6) | ((with_reducible refine gate_builtin (b := .append) (xs := #[.tmp 45, .tmp 49]) rfl ?_); at_builtin; refine Kd.R_append (Kd.int .u8) (w0 := w) w.heap.size rfl (.tmp 45) (.tmp 49) 32 5 (.int .u8 0) 1 rfl Try.underlying32 info5 rfl (by decide) (by omega) u8 x8_2 (((rd_T30 l2 x38_2).f0) % 256) [.int .u8 (((rd_T30 l2 x38_2).f0) % 256)] (fun _ => True) (fun _ => False) rfl rfl ?aP (fun _ hk => hk.elim) ?aF ?aO ?aB ?aS ?aL ?_; (case aP => exact rfl); (case aB => exact (by repeat (first | (with_reducible first | exact HB.out | apply below_alloc | apply pw_below_drewN | apply below_drew1 | refine below_set ?_ GE129.out) | exact HB.out))); (case aF => exact (fun _ _ => trivial)); (case aO => exact (by (with_reducible repeat (first | apply Kd.R_alloc | apply Kd.R_drewN | apply Kd.R_drew)); exact HO_8.out)); (case aS => exact (below_size (by repeat (first | (with_reducible first | exact HB.out | apply below_alloc | apply pw_below_drewN | apply below_drew1 | refine below_set ?_ GE129.out) | exact HB.out)))); (case aL => have := LMc20.out; omega); intro v132 w25 ho hb hg hat; rw [← Ny131.out] at ho; have n0_ := Aside0.mk (blk_grown (g := gb129) (o := .cells #[.int .i64 ((rd_T30 l2 x38_2).f0), .int .i64 ((rd_T30 l2 x38_2).f1), .int .i64 ((rd_T30 l2 x38_2).f2), .int .i64 ((rd_T30 l2 x38_2).f3), .int .u32 ((rd_T30 l2 x38_2).f4.f0), .int .i64 ((rd_T30 l2 x38_2).f4.f1), .string ((rd_T30 l2 x38_2).f5)] 30 (0, 0)) (by (with_reducible repeat (first | refine blk_drewN ?_ _ | refine blk_drew ?_ | refine blk_alloc ?_ _)); exact BK129.out) hg (Kd.R_ne HO_8.out BK129.out (by decide))); have n1_ := Aside0.mk (hb); have n2_ := Aside0.mk (ho); clear BK129; clear HB; clear HO_8; have BK129 := n0_; have HB := n1_; have HO133 := n2_; clear n0_ n1_ n2_; clear ho hb hg hat; have hcz26_0 : w25.cell? ⟨gb129, 0, none⟩ = some (.int .i64 ((rd_T30 l2 x38_2).f0)) := (blk_cell BK129.out 0).trans rfl; have hcz26_1 : w25.cell? ⟨gb129, 1, none⟩ = some (.int .i64 ((rd_T30 l2 x38_2).f1)) := (blk_cell BK129.out 1).trans rfl; have hcz26_2 : w25.cell? ⟨gb129, 2, none⟩ = some (.int .i64 ((rd_T30 l2 x38_2).f2)) := (blk_cell BK129.out 2).trans rfl; have hcz26_3 : w25.cell? ⟨gb129, 3, none⟩ = some (.int .i64 ((rd_T30 l2 x38_2).f3)) := (blk_cell BK129.out 3).trans rfl; have hcz26_4 : w25.cell? ⟨gb129, 4, none⟩ = some (.int .u32 ((rd_T30 l2 x38_2).f4.f0)) := (blk_cell BK129.out 4).trans rfl; have hcz26_5 : w25.cell? ⟨gb129, 5, none⟩ = some (.int .i64 ((rd_T30 l2 x38_2).f4.f1)) := (blk_cell BK129.out 5).trans rfl; have hcz26_6 : w25.cell? ⟨gb129, 6, none⟩ = some (.string ((rd_T30 l2 x38_2).f5)) := (blk_cell BK129.out 6).trans rfl; have hfz26_0 := blk_frozen BK129.out 0; have hfz26_1 := blk_frozen BK129.out 1; have hfz26_2 := blk_frozen BK129.out 2; have hfz26_3 := blk_frozen BK129.out 3; have hfz26_4 := blk_frozen BK129.out 4; have hfz26_5 := blk_frozen BK129.out 5; have hfz26_6 := blk_frozen BK129.out 6) | ((with_reducible refine gate_dst (N := 57) rfl ?_); refine Kd.R_lit (Kd.int .i64) _ 3 ?hg (N := 57) ?hd (xs := ([(rd_T30 l2 x38_2).f1, (rd_T30 l2 x38_2).f2, (rd_T30 l2 x38_2).f3] : List Int)) (inner := [.int .i64 ((rd_T30 l2 x38_2).f1), .int .i64 ((rd_T30 l2 x38_2).f2), .int .i64 ((rd_T30 l2 x38_2).f3)]) (ok := fun _ => True) (okp := fun _ => True) ?hr ?hp (fun _ hk => hk) trivial (Below.refl _ _) (Nat.le_refl _) (by simp) ?_; (case hd => rfl); (case hg => rfl); (case hr => first | (go_simp; done) | (go_simp; rfl)); (case hp => exact (Reps.one (show Kd.M (Kd.int .i64) _ _ _ ((rd_T30 l2 x38_2).f1) [.int .i64 ((rd_T30 l2 x38_2).f1)] from rfl) (Reps.one (show Kd.M (Kd.int .i64) _ _ _ ((rd_T30 l2 x38_2).f2) [.int .i64 ((rd_T30 l2 x38_2).f2)] from rfl) (Reps.one (show Kd.M (Kd.int .i64) _ _ _ ((rd_T30 l2 x38_2).f3) [.int .i64 ((rd_T30 l2 x38_2).f3)] from rfl) (Reps.none _ _))))); intro v135 w27 ho28 hb hg_ hnew_; clear hg_ hnew_; (first | rw [← Ny134.out] at ho28 | (simp only [Int.reduceToNat] at ho28; rw [← Ny134.out] at ho28)); have n0_ := Aside0.mk (Kd.R_below (by (with_reducible repeat (first | apply Kd.R_alloc | apply Kd.R_drewN | apply Kd.R_drew)); exact HO133.out) hb); have n1_ := Aside0.mk (Kd.R_lower ho28 (below_size (by repeat (first | (with_reducible first | exact HB.out | apply below_alloc | apply pw_below_drewN | apply below_drew1 | refine below_set ?_ GE129.out) | exact HB.out)))); have n2_ := Aside0.mk (blk_below (g := gb129) (o := .cells #[.int .i64 ((rd_T30 l2 x38_2).f0), .int .i64 ((rd_T30 l2 x38_2).f1), .int .i64 ((rd_T30 l2 x38_2).f2), .int .i64 ((rd_T30 l2 x38_2).f3), .int .u32 ((rd_T30 l2 x38_2).f4.f0), .int .i64 ((rd_T30 l2 x38_2).f4.f1), .string ((rd_T30 l2 x38_2).f5)] 30 (0, 0)) (by (with_reducible repeat (first | refine blk_drewN ?_ _ | refine blk_drew ?_ | refine blk_alloc ?_ _)); exact BK129.out) hb); have n3_ := Aside0.mk (below_step (by repeat (first | (with_reducible first | exact HB.out | apply below_alloc | apply pw_below_drewN | apply below_drew1 | refine below_set ?_ GE129.out) | exact HB.out)) hb); clear HO133; clear BK129; clear HB; have HO133 := n0_; have HO136 := n1_; have BK129 := n2_; have HB := n3_; clear n0_ n1_ n2_ n3_; clear hb ho28; obtain ⟨Ao29, co29, eo29⟩ := Kd.R_slice HO136.out; subst eo29))
          go_loopg [8, 59] k2 (fun kq v8 v59 w' => ∃ (x8_3 : List Int) (x59_3 : Int), v59 = .int .i64 x59_3 ∧ Aside0 (script_Encode.l1 kq x8_3 l2 (l2.length : Int) x38_2 y134 (y134.length : Int) x59_3 ((rd_T30 l2 x38_2).f0) ((rd_T30 l2 x38_2).f1) ((rd_T30 l2 x38_2).f2) ((rd_T30 l2 x38_2).f3) ((rd_T30 l2 x38_2).f4.f0) ((rd_T30 l2 x38_2).f4.f1) ((rd_T30 l2 x38_2).f5) = some (r1, r2)) ∧ Aside0 (kq ≤ k2) ∧ Aside0 (Kd.R (Kd.int .u8) 5 w' w.heap.size (fun _ => True) v8 x8_3) ∧ Aside0 (Kd.R (Kd.int .i64) 3 w' w.heap.size (fun _ => True) (.slice Ao29 y134.length co29) y134) ∧ Aside0 (w'.heap[gb129]? = some (.cells #[.int .i64 ((rd_T30 l2 x38_2).f0), .int .i64 ((rd_T30 l2 x38_2).f1), .int .i64 ((rd_T30 l2 x38_2).f2), .int .i64 ((rd_T30 l2 x38_2).f3), .int .u32 ((rd_T30 l2 x38_2).f4.f0), .int .i64 ((rd_T30 l2 x38_2).f4.f1), .string ((rd_T30 l2 x38_2).f5)] 30 (0, 0))) ∧ Aside0 (Below w.heap.size w w'))
          case atStart => exact ⟨(y131), (0), (by first | rfl | (simp; done) | (simp [*]; done)), H', ⟨Nat.le_refl _⟩, ⟨by (with_reducible repeat (first | apply Kd.R_alloc | apply Kd.R_drewN | apply Kd.R_drew)); exact HO133.out⟩, ⟨by (with_reducible repeat (first | apply Kd.R_alloc | apply Kd.R_drewN | apply Kd.R_drew)); exact HO136.out⟩, ⟨by (with_reducible repeat (first | refine blk_drewN ?_ _ | refine blk_drew ?_ | refine blk_alloc ?_ _)); exact BK129.out⟩, ⟨by repeat (first | (with_reducible first | exact HB.out | apply below_alloc | apply pw_below_drewN | apply below_drew1 | refine below_set ?_ GE129.out) | exact HB.out)⟩⟩
          case round =>
            clear H'
            try clear c1; try clear p1; try clear q1; try clear hx1; try clear c2; try clear p2; try clear c3; try clear c4; try clear c4b0; try clear c4b1; try clear c6; try clear c6b0; try clear c7; try clear c7b0; try clear c8; try clear c8b0; try clear c9; try clear c12; try clear p12; try clear q12; try clear hx12; try clear c14; try clear c15; try clear c15b0; try clear c16; try clear c16b0
            try clear c17; try clear c17b0; try clear c19; try clear c20; try clear hcz22_0; try clear hcz22_1; try clear hcz22_2; try clear hcz22_3; try clear hcz22_4; try clear hcz22_5; try clear hcz22_6; try clear hcz24_0; try clear hcz24_1; try clear hcz24_2; try clear hcz24_3; try clear hcz24_4; try clear hcz24_5; try clear hcz24_6; try clear hcz26_0; try clear hcz26_1; try clear hcz26_2
            try clear hcz26_3; try clear hcz26_4; try clear hcz26_5; try clear hcz26_6; try clear hfz22_0; try clear hfz22_1; try clear hfz22_2; try clear hfz22_3; try clear hfz22_4; try clear hfz22_5; try clear hfz22_6; try clear hfz24_0; try clear hfz24_1; try clear hfz24_2; try clear hfz24_3; try clear hfz24_4; try clear hfz24_5; try clear hfz24_6; try clear hfz26_0; try clear hfz26_1
            try clear hfz26_2; try clear hfz26_3; try clear hfz26_4; try clear hfz26_5; try clear hfz26_6; try clear hx128_0; try clear hx128_1; try clear hx128_2; try clear hx128_3; try clear hx128_4; try clear hx128_5; try clear hx128_6; try clear p128; try clear p2; try clear q128
            obtain ⟨x8_3, x59_3, rfl, HA, HK3, HO_8, HO_57, BK129, HB⟩ := hrel
            cases gk with
            | zero => exact absurd HA.out (by simp [script_Encode.l1])
            | succ k3 =>
              have H := HA.out
              clear HA
              simp only [script_Encode.l1] at H
              by_cases c30 : x59_3 < (y134.length : Int)
              case pos =>
                rw [if_pos c30] at H; have c30b0 : decide (x59_3 < (y134.length : Int)) = true := decide_eq_true c30
                clear c30
                by_cases c31 : 0 ≤ x59_3
                case neg =>
                  rw [if_neg c31] at H; exact absurd H (by simp)
                rw [if_pos c31] at H; have c31b0 : decide (0 ≤ x59_3) = true := decide_eq_true c31
                clear c31
                by_cases c32 : x59_3 < (y134.length : Int)
                case neg =>
                  rw [if_neg c32] at H; exact absurd H (by simp)
                rw [if_pos c32] at H; have c32b0 : decide (x59_3 < (y134.length : Int)) = true := decide_eq_true c32
                clear c32
                replace H := Option.bind_eq_some_iff.mp H
                obtain ⟨t138, A330, H⟩ := H
                replace H : (script_Encode.l1 k3 t138 l2 (l2.length : Int) x38_2 y134 (y134.length : Int) (wrap64 (x59_3 + 1)) ((rd_T30 l2 x38_2).f0) ((rd_T30 l2 x38_2).f1) ((rd_T30 l2 x38_2).f2) ((rd_T30 l2 x38_2).f3) ((rd_T30 l2 x38_2).f4.f0) ((rd_T30 l2 x38_2).f4.f1) ((rd_T30 l2 x38_2).f5)) = some (r1, r2) := H
                have A33 := Aside0.mk A330
                clear A330
                have H' := Aside0.mk H
                clear H
                have p137 : 0 ≤ (x59_3 : Int) := of_decide_eq_true (by first | (with_reducible assumption) | assumption)
                have q137 : x59_3 < (y134.length : Int) := of_decide_eq_true (by first | (with_reducible assumption) | assumption)
                obtain ⟨ad137, e137, hx137_0⟩ := Kd.at_int (Kd.R_reads' HO_57.out).2.2 x59_3 p137 q137
                cases e137
                replace p137 := eq_true p137
                replace q137 := eq_true q137
                obtain ⟨Ao34, co34, eo34⟩ := Kd.R_slice HO_8.out
                subst eo34
                go_wp2_with (first | ((with_reducible refine gate_callee (f := 34) rfl ?_); refine goesL_ (some 66) rfl rfl Try.func34 (by kernel_rfl) rfl #[.slice Ao34 x8_3.length co34, .int .u64 (IntKind.u64.wrap (rd y134 x59_3)), .int .i64 3] rfl (by (try simp only [List.map_toArray, List.map_cons, List.map_nil]); first | done | rfl | (simp only [List.length_drop, List.length_take]; rfl)) ?_; (with_reducible refine (script_put.calls k3 (fun k_ => some k_ = (.slice Ao34 x8_3.length co34 : Value).ownBlock) (.slice Ao34 x8_3.length co34) x8_3 (IntKind.u64.wrap (rd y134 x59_3)) 3 t138 w _ ?side1 ?side2 A33.out).mono ?_); (case side1 => repeat (first | (with_reducible first | exact HB.out | apply below_alloc | apply pw_below_drewN | apply below_drew1 | refine below_set ?_ GE129.out) | exact HB.out)); (case side2 => exact Kd.R_tight rfl HO_8.out); rintro e w35 ⟨v139, rfl, ho0, hb, hkp⟩; refine ⟨_, rfl, ?_⟩; have n0_ := Aside0.mk (Kd.R_mono (ok' := fun k_ => True) (Kd.R_keptB ((Kd.R_apart' HO_57.out (Kd.R_typed HO_8.out) (by decide))) hkp (fun k_ hk_ hs_ => (hk_.2) hs_)) (fun k_ hk_ => trivial)); have n1_ := Aside0.mk (blk_kept (by (with_reducible repeat (first | refine blk_drewN ?_ _ | refine blk_drew ?_ | refine blk_alloc ?_ _)); exact BK129.out) hkp (fun hs_ => (fun e_ => (Kd.R_ne HO_8.out BK129.out (by decide)) e_) hs_)); have n2_ := Aside0.mk (Kd.R_mono (ok' := fun k_ => True) ho0 (fun k_ hk_ => trivial)); have n3_ := Aside0.mk (hb); clear HO_57; clear BK129; clear HB; clear HO_8; have HO_57 := n0_; have BK129 := n1_; have HO140 := n2_; have HB := n3_; clear n0_ n1_ n2_ n3_; (try clear hb); (try clear hkp); (try clear ho0)))
                go_roundg k3
                case measure => have := HJ4.out; have := HK2.out; have := HK3.out; omega
                case rel => exact ⟨(t138), (wrap64 (x59_3 + 1)), (by first | rfl | (simp; done) | (simp [*]; done)), H', ⟨by have := HJ4.out; have := HK2.out; have := HK3.out; omega⟩, ⟨by (with_reducible repeat (first | apply Kd.R_alloc | apply Kd.R_drewN | apply Kd.R_drew)); exact HO140.out⟩, ⟨by (with_reducible repeat (first | apply Kd.R_alloc | apply Kd.R_drewN | apply Kd.R_drew)); exact HO_57.out⟩, ⟨by (with_reducible repeat (first | refine blk_drewN ?_ _ | refine blk_drew ?_ | refine blk_alloc ?_ _)); exact BK129.out⟩, ⟨by repeat (first | (with_reducible first | exact HB.out | apply below_alloc | apply pw_below_drewN | apply below_drew1 | refine below_set ?_ GE129.out) | exact HB.out)⟩⟩
              rw [if_neg c30] at H; have c30b0 : decide (x59_3 < (y134.length : Int)) = false := decide_eq_false c30
              clear c30
              replace H := Option.bind_eq_some_iff.mp H
              obtain ⟨t141, A360, H⟩ := H
              replace H : ((some (([(((rd_T30 l2 x38_2).f4.f1)) % 256, ((((rd_T30 l2 x38_2).f5).size : Int)) % 256] : List Int) : List Int)).bind fun y144 => (if t141.length + y144.length < 140737488355328 then ((some (t141 ++ y144 : List Int)).bind fun y147 => (if y147.length + ((rd_T30 l2 x38_2).f5).size < 140737488355328 then (script_Encode.l0 k3 (y147 ++ bytesOf ((rd_T30 l2 x38_2).f5)) l2 (l2.length : Int) (wrap64 (x38_2 + 1))) else (none))) else (none))) = some (r1, r2) := H
              have A36 := Aside0.mk A360
              clear A360
              obtain ⟨y144, hy144⟩ : ∃ y_ : List Int, y_ = (([(((rd_T30 l2 x38_2).f4.f1)) % 256, ((((rd_T30 l2 x38_2).f5).size : Int)) % 256] : List Int)) := ⟨_, rfl⟩
              replace H : (if t141.length + y144.length < 140737488355328 then ((some (t141 ++ y144 : List Int)).bind fun y147 => (if y147.length + ((rd_T30 l2 x38_2).f5).size < 140737488355328 then (script_Encode.l0 k3 (y147 ++ bytesOf ((rd_T30 l2 x38_2).f5)) l2 (l2.length : Int) (wrap64 (x38_2 + 1))) else (none))) else (none)) = some (r1, r2) := by first | (rw [hy144]; with_reducible exact H) | (have H2_ := (Option.bind_some _ _).symm.trans H; rw [hy144]; with_reducible exact H2_) | (have H2_ := (Option.bind_some _ _).symm.trans H; with_reducible exact H2_) | with_reducible exact H | (rw [hy144]; exact H) | exact H
              have Ny144 := Aside0.mk hy144
              clear hy144
              by_cases c37 : t141.length + y144.length < 140737488355328
              case neg =>
                rw [if_neg c37] at H; exact absurd H (by simp)
              rw [if_pos c37] at H; have LMc37 := Aside0.mk c37
              clear c37
              obtain ⟨y147, hy147⟩ : ∃ y_ : List Int, y_ = (t141 ++ y144) := ⟨_, rfl⟩
              replace H : (if y147.length + ((rd_T30 l2 x38_2).f5).size < 140737488355328 then (script_Encode.l0 k3 (y147 ++ bytesOf ((rd_T30 l2 x38_2).f5)) l2 (l2.length : Int) (wrap64 (x38_2 + 1))) else (none)) = some (r1, r2) := by first | (rw [hy147]; with_reducible exact H) | (have H2_ := (Option.bind_some _ _).symm.trans H; rw [hy147]; with_reducible exact H2_) | (have H2_ := (Option.bind_some _ _).symm.trans H; with_reducible exact H2_) | with_reducible exact H | (rw [hy147]; exact H) | exact H
              have Ny147 := Aside0.mk hy147
              clear hy147
              by_cases c38 : y147.length + ((rd_T30 l2 x38_2).f5).size < 140737488355328
              case neg =>
                rw [if_neg c38] at H; exact absurd H (by simp)
              rw [if_pos c38] at H; have LMc38 := Aside0.mk c38
              clear c38
              obtain ⟨y150, hy150⟩ : ∃ y_ : List Int, y_ = (y147 ++ bytesOf ((rd_T30 l2 x38_2).f5)) := ⟨_, rfl⟩
              replace H : (script_Encode.l0 k3 y150 l2 (l2.length : Int) (wrap64 (x38_2 + 1))) = some (r1, r2) := by first | (rw [hy150]; with_reducible exact H) | (have H2_ := (Option.bind_some _ _).symm.trans H; rw [hy150]; with_reducible exact H2_) | (have H2_ := (Option.bind_some _ _).symm.trans H; with_reducible exact H2_) | with_reducible exact H | (rw [hy150]; exact H) | exact H
              have Ny150 := Aside0.mk hy150
              clear hy150
              have H' := Aside0.mk H
              clear H
              obtain ⟨Ao39, co39, eo39⟩ := Kd.R_slice HO_8.out
              subst eo39
              try go_wp2
              have n0_ := Aside0.mk (Kd.R_drew HO_8.out)
              have n1_ := Aside0.mk (Kd.R_drew HO_57.out)
              have n2_ := Aside0.mk (blk_drew BK129.out)
              have n3_ := Aside0.mk (below_drew1 HB.out)
              clear HO_8
              clear HO_57
              clear BK129
              clear HB
              have HO_8 := n0_
              have HO_57 := n1_
              have BK129 := n2_
              have HB := n3_
              clear n0_ n1_ n2_ n3_
              refine start_ (n := 17) (S := fun w' => w'.cell? ⟨gb129, 0, none⟩ = some (.int .i64 ((rd_T30 l2 x38_2).f0)) ∧ w'.cell? ⟨gb129, 1, none⟩ = some (.int .i64 ((rd_T30 l2 x38_2).f1)) ∧ w'.cell? ⟨gb129, 2, none⟩ = some (.int .i64 ((rd_T30 l2 x38_2).f2)) ∧ w'.cell? ⟨gb129, 3, none⟩ = some (.int .i64 ((rd_T30 l2 x38_2).f3)) ∧ w'.cell? ⟨gb129, 4, none⟩ = some (.int .u32 ((rd_T30 l2 x38_2).f4.f0)) ∧ w'.cell? ⟨gb129, 5, none⟩ = some (.int .i64 ((rd_T30 l2 x38_2).f4.f1)) ∧ w'.cell? ⟨gb129, 6, none⟩ = some (.string ((rd_T30 l2 x38_2).f5))) (ds := []) (bA 17 0) (by kernel_rfl) rfl rfl ⟨(blk_cell BK129.out 0).trans rfl, (blk_cell BK129.out 1).trans rfl, (blk_cell BK129.out 2).trans rfl, (blk_cell BK129.out 3).trans rfl, (blk_cell BK129.out 4).trans rfl, (blk_cell BK129.out 5).trans rfl, (blk_cell BK129.out 6).trans rfl⟩ (fun hHeld => ?_); refine with_tabW script_Encode.tab17 script_Encode.bits17 (fun HT_ HW_ => ?_)
              generalize wr.drew = w40 at HO_8 HO_57 BK129 HB hHeld ⊢
              refine pure_ (i := 0) (N := some 68) (v := ?_) (a' := ?_) (bA 17 1) rfl rfl (any_of HT_.out (by kernel_rfl)) (fun _ _ _ h => h) (Or.inl ⟨by rfl, ?_⟩) ?_ ?_; rotate_left
              · intro w'; go_simp; with_reducible rfl
              rotate_left; · simp only [Act.put, List.setIfInBounds_toArray, List.set_cons_zero, List.set_cons_succ, i64_w, i32_w]; rfl
              refine pure_ (i := 1) (N := some 69) (v := ?_) (a' := ?_) (bA 17 3) rfl rfl (any_of HT_.out (by kernel_rfl)) (fun _ _ _ h => h) (Or.inl ⟨by rfl, ?_⟩) ?_ ?_; rotate_left
              · intro w'; go_simp; with_reducible rfl
              rotate_left; · simp only [Act.put, List.setIfInBounds_toArray, List.set_cons_zero, List.set_cons_succ, i64_w, i32_w]; rfl
              refine pure_ (i := 2) (N := some 70) (v := ?_) (a' := ?_) (bA 17 7) rfl rfl (any_of HT_.out (by kernel_rfl)) (fun _ _ _ h => h) (Or.inl ⟨by rfl, ?_⟩) ?_ ?_; rotate_left
              · intro w'; go_simp; with_reducible rfl
              rotate_left; · simp only [Act.put, List.setIfInBounds_toArray, List.set_cons_zero, List.set_cons_succ, i64_w, i32_w]; rfl
              refine pure_ (i := 6) (N := some 74) (v := ?_) (a' := ?_) (bA 17 71) rfl rfl (any_of HT_.out (by kernel_rfl)) (fun _ _ _ h => h) (Or.inl ⟨by rfl, ?_⟩) ?_ ?_; rotate_left
              · intro w'; go_simp; with_reducible rfl
              rotate_left; · simp only [Act.put, List.setIfInBounds_toArray, List.set_cons_zero, List.set_cons_succ, i64_w, i32_w]; rfl
              refine pure_ (i := 7) (N := some 75) (v := ?_) (a' := ?_) (bA 17 199) rfl rfl (any_of HT_.out (by kernel_rfl)) (fun _ _ _ h => h) (Or.inl ⟨by rfl, ?_⟩) ?_ ?_; rotate_left
              · intro w'; go_simp; with_reducible rfl
              rotate_left; · simp only [Act.put, List.setIfInBounds_toArray, List.set_cons_zero, List.set_cons_succ, i64_w, i32_w]; rfl
              refine pure_ (i := 10) (N := some 78) (v := ?_) (a' := ?_) (bA 17 1223) rfl rfl (any_of HT_.out (by kernel_rfl)) (fun _ _ _ h => h) (Or.inl ⟨by rfl, ?_⟩) ?_ ?_; rotate_left
              · intro w'; go_simp; with_reducible rfl
              rotate_left; · simp only [Act.put, List.setIfInBounds_toArray, List.set_cons_zero, List.set_cons_succ, i64_w, i32_w]; rfl
              refine take_ (i := 3) (N := some 71) (v := ?_) (a' := ?_) (bA 17 1231) rfl rfl (take_ofW HT_.out HW_.out (by kernel_rfl)) (fun _ _ _ h => h) (Or.inl ⟨by rfl, ?_⟩) hHeld ?_ ?_; rotate_left
              · rintro w' ⟨s0, s1, s2, s3, s4, s5, s6⟩
                go_simp
                with_reducible rfl
              rotate_left
              · simp only [Act.put, List.setIfInBounds_toArray, List.set_cons_zero, List.set_cons_succ, i64_w, i32_w]; rfl
              refine pure_ (i := 4) (N := some 72) (v := ?_) (a' := ?_) (bA 17 1247) rfl rfl (any_of HT_.out (by kernel_rfl)) (fun _ _ _ h => h) (Or.inl ⟨by rfl, ?_⟩) ?_ ?_; rotate_left
              · intro w'; go_simp; with_reducible rfl
              rotate_left; · simp only [Act.put, List.setIfInBounds_toArray, List.set_cons_zero, List.set_cons_succ, i64_w, i32_w]; rfl
              refine take_ (i := 8) (N := some 76) (v := ?_) (a' := ?_) (bA 17 1503) rfl rfl (take_ofW HT_.out HW_.out (by kernel_rfl)) (fun _ _ _ h => h) (Or.inl ⟨by rfl, ?_⟩) hHeld ?_ ?_; rotate_left
              · rintro w' ⟨s0, s1, s2, s3, s4, s5, s6⟩
                go_simp
                with_reducible rfl
              rotate_left
              · simp only [Act.put, List.setIfInBounds_toArray, List.set_cons_zero, List.set_cons_succ, i64_w, i32_w]; rfl
              refine pure_ (i := 9) (N := some 77) (v := ?_) (a' := ?_) (bA 17 2015) rfl rfl (any_of HT_.out (by kernel_rfl)) (fun _ _ _ h => h) (Or.inl ⟨by rfl, ?_⟩) ?_ ?_; rotate_left
              · intro w'; go_simp; with_reducible rfl
              rotate_left; · simp only [Act.put, List.setIfInBounds_toArray, List.set_cons_zero, List.set_cons_succ, i64_w, i32_w]; rfl
              refine take_ (i := 11) (N := some 79) (v := ?_) (a' := ?_) (bA 17 4063) rfl rfl (take_ofW HT_.out HW_.out (by kernel_rfl)) (fun _ _ _ h => h) (Or.inl ⟨by rfl, ?_⟩) hHeld ?_ ?_; rotate_left
              · rintro w' ⟨s0, s1, s2, s3, s4, s5, s6⟩
                go_simp
                with_reducible rfl
              rotate_left
              · simp only [Act.put, List.setIfInBounds_toArray, List.set_cons_zero, List.set_cons_succ, i64_w, i32_w]; rfl
              refine pure_ (i := 12) (N := some 80) (v := ?_) (a' := ?_) (bA 17 8159) rfl rfl (any_of HT_.out (by kernel_rfl)) (fun _ _ _ h => h) (Or.inl ⟨by rfl, ?_⟩) ?_ ?_; rotate_left
              · intro w'; go_simp; with_reducible rfl
              rotate_left; · simp only [Act.put, List.setIfInBounds_toArray, List.set_cons_zero, List.set_cons_succ, i64_w, i32_w]; rfl
              refine pure_ (i := 13) (N := some 81) (v := ?_) (a' := ?_) (bA 17 16351) rfl rfl (any_of HT_.out (by kernel_rfl)) (fun _ _ _ h => h) (Or.inl ⟨by rfl, ?_⟩) ?_ ?_; rotate_left
              · intro w'; go_simp; with_reducible rfl
              rotate_left; · simp only [Act.put, List.setIfInBounds_toArray, List.set_cons_zero, List.set_cons_succ, i64_w, i32_w]; rfl
              refine join_ (σ := Value × Value) 2 (bA 17 32767) (fun s_ => [(73, s_.1), (82, s_.2)]) (fun s_ w' => (w'.cell? ⟨gb129, 0, none⟩ = some (.int .i64 ((rd_T30 l2 x38_2).f0)) ∧ w'.cell? ⟨gb129, 1, none⟩ = some (.int .i64 ((rd_T30 l2 x38_2).f1)) ∧ w'.cell? ⟨gb129, 2, none⟩ = some (.int .i64 ((rd_T30 l2 x38_2).f2)) ∧ w'.cell? ⟨gb129, 3, none⟩ = some (.int .i64 ((rd_T30 l2 x38_2).f3)) ∧ w'.cell? ⟨gb129, 4, none⟩ = some (.int .u32 ((rd_T30 l2 x38_2).f4.f0)) ∧ w'.cell? ⟨gb129, 5, none⟩ = some (.int .i64 ((rd_T30 l2 x38_2).f4.f1)) ∧ w'.cell? ⟨gb129, 6, none⟩ = some (.string ((rd_T30 l2 x38_2).f5))) ∧ (Kd.R (Kd.int .u8) 5 w' w.heap.size (fun k_ => some k_ ≠ (s_.2 : Value).ownBlock) s_.1 t141) ∧ (Kd.R (Kd.int .u8) 5 w' w.heap.size (fun k_ => some k_ ≠ (s_.1 : Value).ownBlock) s_.2 y144) ∧ (Kd.R (Kd.int .i64) 3 w' w.heap.size (fun _ => True) (.slice Ao29 y134.length co29) y134) ∧ (w'.heap[gb129]? = some (.cells #[.int .i64 ((rd_T30 l2 x38_2).f0), .int .i64 ((rd_T30 l2 x38_2).f1), .int .i64 ((rd_T30 l2 x38_2).f2), .int .i64 ((rd_T30 l2 x38_2).f3), .int .u32 ((rd_T30 l2 x38_2).f4.f0), .int .i64 ((rd_T30 l2 x38_2).f4.f1), .string ((rd_T30 l2 x38_2).f5)] 30 (0, 0))) ∧ (Below w.heap.size w w')) ?_ ?_
              rotate_left
              · intro hCont
                refine two_ (i := 5) (j := 14) (Ni := some 73) (Nj := some 82) (bA 17 16383) (bA 17 32735) rfl rfl rfl rfl (two_of HT_.out (by kernel_rfl)) (by decide) (by decide) (fun K hK => ?_) (fun K hK => ?_)
                · skip
                  refine goes_ Try.func34 (by kernel_rfl) rfl #[.slice Ao39 x8_3.length co39, .int .u64 (IntKind.u64.wrap (((rd_T30 l2 x38_2).f4.f0))), .int .i64 4] (by rfl) rfl rfl (by (try simp only [List.map_toArray, List.map_cons, List.map_nil]); first | done | rfl | (simp only [List.length_drop, List.length_take]; rfl)) ?_
                  with_reducible refine (script_put.calls k3 (fun k_ => some k_ = (.slice Ao39 x8_3.length co39 : Value).ownBlock) (.slice Ao39 x8_3.length co39) x8_3 (IntKind.u64.wrap (((rd_T30 l2 x38_2).f4.f0))) 4 t141 w _ ?side1 ?side2 A36.out).mono ?_
                  (case side1 => repeat (first | (with_reducible first | exact HB.out | apply below_alloc | apply pw_below_drewN | apply below_drew1 | refine below_set ?_ GE129.out) | exact HB.out))
                  (case side2 => exact Kd.R_tight rfl HO_8.out)
                  rintro e w41 ⟨v142, rfl, ho0, hb, hkp⟩
                  refine ⟨_, rfl, ?_⟩
                  have n0_ := Aside0.mk (Kd.R_mono (ok' := fun k_ => True) (Kd.R_keptB ((Kd.R_apart' HO_57.out (Kd.R_typed HO_8.out) (by decide))) hkp (fun k_ hk_ hs_ => (hk_.2) hs_)) (fun k_ hk_ => trivial))
                  have n1_ := Aside0.mk (blk_kept (by (with_reducible repeat (first | refine blk_drewN ?_ _ | refine blk_drew ?_ | refine blk_alloc ?_ _)); exact BK129.out) hkp (fun hs_ => (fun e_ => (Kd.R_ne HO_8.out BK129.out (by decide)) e_) hs_))
                  have n2_ := Aside0.mk (Kd.R_mono (ok' := fun k_ => True) ho0 (fun k_ hk_ => trivial))
                  have n3_ := Aside0.mk (hb)
                  clear HO_57
                  clear BK129
                  clear HB
                  clear HO_8
                  have HO_57 := n0_
                  have BK129 := n1_
                  have HO143 := n2_
                  have HB := n3_
                  clear n0_ n1_ n2_ n3_
                  (try clear hb)
                  (try clear hkp)
                  (try clear ho0)
                  refine hK.out _ _ ⟨(blk_cell BK129.out 0).trans rfl, (blk_cell BK129.out 1).trans rfl, (blk_cell BK129.out 2).trans rfl, (blk_cell BK129.out 3).trans rfl, (blk_cell BK129.out 4).trans rfl, (blk_cell BK129.out 5).trans rfl, (blk_cell BK129.out 6).trans rfl⟩ (fun hHeld => ?_)
                  clear hK K
                  refine norm_ (a' := ?_) ?_ ?_
                  rotate_left
                  · show Act.put _ (some 73) _ = _
                    simp only [Act.put, List.setIfInBounds_toArray, List.set_cons_zero, List.set_cons_succ, i64_w, i32_w]
                    rfl
                  refine one_ (i := 14) (N := some 82) (bA 17 32767) rfl rfl (one_of HT_.out (by kernel_rfl)) (by decide) (fun K hK => ?_)
                  refine Kd.R_lit_step (Kd.int .u8) _ 5 ?hg (N := 82) ?hd (xs := ([(((rd_T30 l2 x38_2).f4.f1)) % 256, ((((rd_T30 l2 x38_2).f5).size : Int)) % 256] : List Int)) (inner := [.int .u8 ((((rd_T30 l2 x38_2).f4.f1)) % 256), .int .u8 (((((rd_T30 l2 x38_2).f5).size : Int)) % 256)]) (ok := fun _ => True) (okp := fun _ => True) ?hr ?hp (fun _ hk => hk) trivial (Below.refl _ _) (Nat.le_refl _) (by simp) ?_; (case hd => rfl); (case hg => rfl); (case hr => first | (go_simp; done) | (go_simp; rfl)); (case hp => exact (Reps.one (show Kd.M (Kd.int .u8) _ _ _ ((((rd_T30 l2 x38_2).f4.f1)) % 256) [.int .u8 ((((rd_T30 l2 x38_2).f4.f1)) % 256)] from rfl) (Reps.one (show Kd.M (Kd.int .u8) _ _ _ (((((rd_T30 l2 x38_2).f5).size : Int)) % 256) [.int .u8 (((((rd_T30 l2 x38_2).f5).size : Int)) % 256)] from rfl) (Reps.none _ _))))
                  intro v145 w42 ho43 hb hg_ hnew_
                  clear hg_ hnew_
                  (first | rw [← Ny144.out] at ho43 | (simp only [Int.reduceToNat] at ho43; rw [← Ny144.out] at ho43))
                  have n0_ := Aside0.mk (Kd.R_below (by (with_reducible repeat (first | apply Kd.R_alloc | apply Kd.R_drewN | apply Kd.R_drew)); exact HO_57.out) hb)
                  have n1_ := Aside0.mk (Kd.R_elder' (by (with_reducible repeat (first | apply Kd.R_alloc | apply Kd.R_drewN | apply Kd.R_drew)); exact HO143.out) (Kd.R_base ho43) hb)
                  have n2_ := Aside0.mk (Kd.R_lower (Kd.R_new' ho43 (Kd.R_lt (by (with_reducible repeat (first | apply Kd.R_alloc | apply Kd.R_drewN | apply Kd.R_drew)); exact HO143.out))) (below_size (by repeat (first | (with_reducible first | exact HB.out | apply below_alloc | apply pw_below_drewN | apply below_drew1 | refine below_set ?_ GE129.out) | exact HB.out))))
                  have n3_ := Aside0.mk (blk_below (g := gb129) (o := .cells #[.int .i64 ((rd_T30 l2 x38_2).f0), .int .i64 ((rd_T30 l2 x38_2).f1), .int .i64 ((rd_T30 l2 x38_2).f2), .int .i64 ((rd_T30 l2 x38_2).f3), .int .u32 ((rd_T30 l2 x38_2).f4.f0), .int .i64 ((rd_T30 l2 x38_2).f4.f1), .string ((rd_T30 l2 x38_2).f5)] 30 (0, 0)) (by (with_reducible repeat (first | refine blk_drewN ?_ _ | refine blk_drew ?_ | refine blk_alloc ?_ _)); exact BK129.out) hb)
                  have n4_ := Aside0.mk (below_step (by repeat (first | (with_reducible first | exact HB.out | apply below_alloc | apply pw_below_drewN | apply below_drew1 | refine below_set ?_ GE129.out) | exact HB.out)) hb)
                  clear HO_57
                  clear HO143
                  clear BK129
                  clear HB
                  have HO_57 := n0_
                  have HO143 := n1_
                  have HO146 := n2_
                  have BK129 := n3_
                  have HB := n4_
                  clear n0_ n1_ n2_ n3_ n4_
                  clear hb ho43
                  refine hK.out _ _ ⟨(blk_cell BK129.out 0).trans rfl, (blk_cell BK129.out 1).trans rfl, (blk_cell BK129.out 2).trans rfl, (blk_cell BK129.out 3).trans rfl, (blk_cell BK129.out 4).trans rfl, (blk_cell BK129.out 5).trans rfl, (blk_cell BK129.out 6).trans rfl⟩ (fun hHeld => ?_)
                  clear hK K
                  refine norm_ (a' := ?_) ?_ ?_
                  rotate_left
                  · show Act.put _ (some 82) _ = _
                    simp only [Act.put, List.setIfInBounds_toArray, List.set_cons_zero, List.set_cons_succ, i64_w, i32_w]
                    rfl
                  exact norm_ (by simp only [putAll, Act.put, List.setIfInBounds_toArray, List.set_cons_zero, List.set_cons_succ]) (hCont (v142, v145) _ ⟨hHeld, (by (with_reducible repeat (first | apply Kd.R_alloc | apply Kd.R_drewN | apply Kd.R_drew)); exact Kd.R_mono HO143.out (fun _ hk => hk.2)), (by (with_reducible repeat (first | apply Kd.R_alloc | apply Kd.R_drewN | apply Kd.R_drew)); exact Kd.R_mono HO146.out (fun _ hk => hk.2)), (by (with_reducible repeat (first | apply Kd.R_alloc | apply Kd.R_drewN | apply Kd.R_drew)); exact HO_57.out), (by (with_reducible repeat (first | refine blk_drewN ?_ _ | refine blk_drew ?_ | refine blk_alloc ?_ _)); exact BK129.out), (by repeat (first | (with_reducible first | exact HB.out | apply below_alloc | apply pw_below_drewN | apply below_drew1 | refine below_set ?_ GE129.out) | exact HB.out))⟩)
                · skip
                  refine Kd.R_lit_step (Kd.int .u8) _ 5 ?hg (N := 82) ?hd (xs := ([(((rd_T30 l2 x38_2).f4.f1)) % 256, ((((rd_T30 l2 x38_2).f5).size : Int)) % 256] : List Int)) (inner := [.int .u8 ((((rd_T30 l2 x38_2).f4.f1)) % 256), .int .u8 (((((rd_T30 l2 x38_2).f5).size : Int)) % 256)]) (ok := fun _ => True) (okp := fun _ => True) ?hr ?hp (fun _ hk => hk) trivial (Below.refl _ _) (Nat.le_refl _) (by simp) ?_; (case hd => rfl); (case hg => rfl); (case hr => first | (go_simp; done) | (go_simp; rfl)); (case hp => exact (Reps.one (show Kd.M (Kd.int .u8) _ _ _ ((((rd_T30 l2 x38_2).f4.f1)) % 256) [.int .u8 ((((rd_T30 l2 x38_2).f4.f1)) % 256)] from rfl) (Reps.one (show Kd.M (Kd.int .u8) _ _ _ (((((rd_T30 l2 x38_2).f5).size : Int)) % 256) [.int .u8 (((((rd_T30 l2 x38_2).f5).size : Int)) % 256)] from rfl) (Reps.none _ _))))
                  intro v145 w41 ho42 hb hg_ hnew_
                  clear hg_ hnew_
                  (first | rw [← Ny144.out] at ho42 | (simp only [Int.reduceToNat] at ho42; rw [← Ny144.out] at ho42))
                  have n0_ := Aside0.mk (Kd.R_elder' (by (with_reducible repeat (first | apply Kd.R_alloc | apply Kd.R_drewN | apply Kd.R_drew)); exact HO_8.out) (Kd.R_base ho42) hb)
                  have n1_ := Aside0.mk (Kd.R_below (by (with_reducible repeat (first | apply Kd.R_alloc | apply Kd.R_drewN | apply Kd.R_drew)); exact HO_57.out) hb)
                  have n2_ := Aside0.mk (Kd.R_lower (Kd.R_new' ho42 (Kd.R_lt (by (with_reducible repeat (first | apply Kd.R_alloc | apply Kd.R_drewN | apply Kd.R_drew)); exact HO_8.out))) (below_size (by repeat (first | (with_reducible first | exact HB.out | apply below_alloc | apply pw_below_drewN | apply below_drew1 | refine below_set ?_ GE129.out) | exact HB.out))))
                  have n3_ := Aside0.mk (blk_below (g := gb129) (o := .cells #[.int .i64 ((rd_T30 l2 x38_2).f0), .int .i64 ((rd_T30 l2 x38_2).f1), .int .i64 ((rd_T30 l2 x38_2).f2), .int .i64 ((rd_T30 l2 x38_2).f3), .int .u32 ((rd_T30 l2 x38_2).f4.f0), .int .i64 ((rd_T30 l2 x38_2).f4.f1), .string ((rd_T30 l2 x38_2).f5)] 30 (0, 0)) (by (with_reducible repeat (first | refine blk_drewN ?_ _ | refine blk_drew ?_ | refine blk_alloc ?_ _)); exact BK129.out) hb)
                  have n4_ := Aside0.mk (below_step (by repeat (first | (with_reducible first | exact HB.out | apply below_alloc | apply pw_below_drewN | apply below_drew1 | refine below_set ?_ GE129.out) | exact HB.out)) hb)
                  clear HO_8
                  clear HO_57
                  clear BK129
                  clear HB
                  have HO_8 := n0_
                  have HO_57 := n1_
                  have HO146 := n2_
                  have BK129 := n3_
                  have HB := n4_
                  clear n0_ n1_ n2_ n3_ n4_
                  clear hb ho42
                  refine hK.out _ _ ⟨(blk_cell BK129.out 0).trans rfl, (blk_cell BK129.out 1).trans rfl, (blk_cell BK129.out 2).trans rfl, (blk_cell BK129.out 3).trans rfl, (blk_cell BK129.out 4).trans rfl, (blk_cell BK129.out 5).trans rfl, (blk_cell BK129.out 6).trans rfl⟩ (fun hHeld => ?_)
                  clear hK K
                  refine norm_ (a' := ?_) ?_ ?_
                  rotate_left
                  · show Act.put _ (some 82) _ = _
                    simp only [Act.put, List.setIfInBounds_toArray, List.set_cons_zero, List.set_cons_succ, i64_w, i32_w]
                    rfl
                  refine one_ (i := 5) (N := some 73) (bA 17 32767) rfl rfl (one_of HT_.out (by kernel_rfl)) (by decide) (fun K hK => ?_)
                  refine goes_ Try.func34 (by kernel_rfl) rfl #[.slice Ao39 x8_3.length co39, .int .u64 (IntKind.u64.wrap (((rd_T30 l2 x38_2).f4.f0))), .int .i64 4] (by rfl) rfl rfl (by (try simp only [List.map_toArray, List.map_cons, List.map_nil]); first | done | rfl | (simp only [List.length_drop, List.length_take]; rfl)) ?_
                  with_reducible refine (script_put.calls k3 (fun k_ => some k_ = (.slice Ao39 x8_3.length co39 : Value).ownBlock) (.slice Ao39 x8_3.length co39) x8_3 (IntKind.u64.wrap (((rd_T30 l2 x38_2).f4.f0))) 4 t141 w _ ?side1 ?side2 A36.out).mono ?_
                  (case side1 => repeat (first | (with_reducible first | exact HB.out | apply below_alloc | apply pw_below_drewN | apply below_drew1 | refine below_set ?_ GE129.out) | exact HB.out))
                  (case side2 => exact Kd.R_tight rfl HO_8.out)
                  rintro e w43 ⟨v142, rfl, ho0, hb, hkp⟩
                  refine ⟨_, rfl, ?_⟩
                  have n0_ := Aside0.mk (Kd.R_mono (ok' := fun k_ => True) (Kd.R_keptB ((Kd.R_apart' HO_57.out (Kd.R_typed HO_8.out) (by decide))) hkp (fun k_ hk_ hs_ => (hk_.2) hs_)) (fun k_ hk_ => trivial))
                  have n1_ := Aside0.mk (blk_kept (by (with_reducible repeat (first | refine blk_drewN ?_ _ | refine blk_drew ?_ | refine blk_alloc ?_ _)); exact BK129.out) hkp (fun hs_ => (fun e_ => (Kd.R_ne HO_8.out BK129.out (by decide)) e_) hs_))
                  have n2_ := Aside0.mk (Kd.R_mono (ok' := fun k_ => some k_ ≠ (v142 : Value).ownBlock) (Kd.R_keptB (HO146.out) hkp (fun k_ hk_ hs_ => (hk_.2) hs_)) (fun k_ hk_ => fun e_ => Or.elim (ho0.1 k_ e_.symm) (fun hs_ => hk_.2.1 hs_) (fun hn_ => Nat.not_le.2 hk_.2.2 hn_)))
                  have n3_ := Aside0.mk (Kd.R_mono (ok' := fun k_ => some k_ ≠ (v145 : Value).ownBlock) ho0 (fun k_ hk_ => Or.elim hk_ (fun hs_ => fun e_ => (((HO146.out).1 k_ e_.symm).2) hs_) (fun hn_ => (Kd.fresh' (Kd.R_lt (by (with_reducible repeat (first | apply Kd.R_alloc | apply Kd.R_drewN | apply Kd.R_drew)); exact HO146.out)) k_ hn_))))
                  have n4_ := Aside0.mk (hb)
                  clear HO_57
                  clear BK129
                  clear HO146
                  clear HB
                  clear HO_8
                  have HO_57 := n0_
                  have BK129 := n1_
                  have HO146 := n2_
                  have HO143 := n3_
                  have HB := n4_
                  clear n0_ n1_ n2_ n3_ n4_
                  (try clear hb)
                  (try clear hkp)
                  (try clear ho0)
                  refine hK.out _ _ ⟨(blk_cell BK129.out 0).trans rfl, (blk_cell BK129.out 1).trans rfl, (blk_cell BK129.out 2).trans rfl, (blk_cell BK129.out 3).trans rfl, (blk_cell BK129.out 4).trans rfl, (blk_cell BK129.out 5).trans rfl, (blk_cell BK129.out 6).trans rfl⟩ (fun hHeld => ?_)
                  clear hK K
                  refine norm_ (a' := ?_) ?_ ?_
                  rotate_left
                  · show Act.put _ (some 73) _ = _
                    simp only [Act.put, List.setIfInBounds_toArray, List.set_cons_zero, List.set_cons_succ, i64_w, i32_w]
                    rfl
                  exact norm_ (by simp only [putAll, Act.put, List.setIfInBounds_toArray, List.set_cons_zero, List.set_cons_succ]) (hCont (v142, v145) _ ⟨hHeld, (by (with_reducible repeat (first | apply Kd.R_alloc | apply Kd.R_drewN | apply Kd.R_drew)); exact HO143.out), (by (with_reducible repeat (first | apply Kd.R_alloc | apply Kd.R_drewN | apply Kd.R_drew)); exact HO146.out), (by (with_reducible repeat (first | apply Kd.R_alloc | apply Kd.R_drewN | apply Kd.R_drew)); exact HO_57.out), (by (with_reducible repeat (first | refine blk_drewN ?_ _ | refine blk_drew ?_ | refine blk_alloc ?_ _)); exact BK129.out), (by repeat (first | (with_reducible first | exact HB.out | apply below_alloc | apply pw_below_drewN | apply below_drew1 | refine below_set ?_ GE129.out) | exact HB.out))⟩)
              rintro ⟨v142, v145⟩ w44 ⟨hS_, h0_, h1_, h2_, h3_, h4_⟩
              have n0_ : Aside0 (Kd.R (Kd.int .u8) 5 w44 w.heap.size (fun k_ => some k_ ≠ (v145 : Value).ownBlock) v142 t141) := ⟨h0_⟩
              have n1_ : Aside0 (Kd.R (Kd.int .u8) 5 w44 w.heap.size (fun k_ => some k_ ≠ (v142 : Value).ownBlock) v145 y144) := ⟨h1_⟩
              have n2_ : Aside0 (Kd.R (Kd.int .i64) 3 w44 w.heap.size (fun _ => True) (.slice Ao29 y134.length co29) y134) := ⟨h2_⟩
              have n3_ : Aside0 (w44.heap[gb129]? = some (.cells #[.int .i64 ((rd_T30 l2 x38_2).f0), .int .i64 ((rd_T30 l2 x38_2).f1), .int .i64 ((rd_T30 l2 x38_2).f2), .int .i64 ((rd_T30 l2 x38_2).f3), .int .u32 ((rd_T30 l2 x38_2).f4.f0), .int .i64 ((rd_T30 l2 x38_2).f4.f1), .string ((rd_T30 l2 x38_2).f5)] 30 (0, 0))) := ⟨h3_⟩
              have n4_ : Aside0 (Below w.heap.size w w44) := ⟨h4_⟩
              clear HO_8
              clear HO_57
              clear BK129
              clear HB
              clear h0_ h1_ h2_ h3_ h4_
              have HO143 := n0_
              have HO146 := n1_
              have HO_57 := n2_
              have BK129 := n3_
              have HB := n4_
              clear n0_ n1_ n2_ n3_ n4_
              have hHeld : w44.cell? ⟨gb129, 0, none⟩ = some (.int .i64 ((rd_T30 l2 x38_2).f0)) ∧ w44.cell? ⟨gb129, 1, none⟩ = some (.int .i64 ((rd_T30 l2 x38_2).f1)) ∧ w44.cell? ⟨gb129, 2, none⟩ = some (.int .i64 ((rd_T30 l2 x38_2).f2)) ∧ w44.cell? ⟨gb129, 3, none⟩ = some (.int .i64 ((rd_T30 l2 x38_2).f3)) ∧ w44.cell? ⟨gb129, 4, none⟩ = some (.int .u32 ((rd_T30 l2 x38_2).f4.f0)) ∧ w44.cell? ⟨gb129, 5, none⟩ = some (.int .i64 ((rd_T30 l2 x38_2).f4.f1)) ∧ w44.cell? ⟨gb129, 6, none⟩ = some (.string ((rd_T30 l2 x38_2).f5)) := hS_
              obtain ⟨Ao46, co46, eo46⟩ := Kd.R_slice HO146.out
              (first | subst eo46 | (injection eo46 with f1_ f2_ f3_; have f4_ := f1_.symm; have f5_ := f3_.symm; clear f1_ f2_ f3_; subst f4_; subst f5_))
              refine norm_ (a' := ?_) ?_ ?_
              rotate_left
              · simp only [putAll, Act.put, List.setIfInBounds_toArray, List.set_cons_zero, List.set_cons_succ]
                rfl
              refine one_ (i := 15) (N := some 83) (bA 17 65535) rfl rfl (one_of HT_.out (by kernel_rfl)) (by decide) (fun K hK => ?_)
              refine Kd.R_append_rows_step (Kd.int .u8) (w0 := w) w.heap.size (by rfl) (.tmp 73) (.tmp 82) 32 5 (.int .u8 0) 1 rfl Try.underlying32 info5 rfl (by decide) (by omega) v142 t141 y144 _ _ _ (fun k_ => some k_ ≠ (.slice Ao46 y144.length co46 : Value).ownBlock) (fun _ => False) rfl rfl ?aO ?aR (fun _ _ h => h) (fun _ h => h.elim) ?aF ?aB ?aS ?aL ?_
              (case aR => repeat (first | exact (Kd.R_reads' HO146.out).2.2 | (with_reducible refine Kd.C_alloc ?_ _) | (with_reducible refine Kd.C_drewN ?_ _) | (with_reducible refine Kd.C_drew ?_)))
              (case aB => exact (by repeat (first | (with_reducible first | exact HB.out | apply below_alloc | apply pw_below_drewN | apply below_drew1 | refine below_set ?_ GE129.out) | exact HB.out)))
              (case aF => exact (fun k_ hk => Kd.fresh' (Kd.R_lt (by (with_reducible repeat (first | apply Kd.R_alloc | apply Kd.R_drewN | apply Kd.R_drew)); exact HO146.out)) k_ hk))
              (case aO => exact (by (with_reducible repeat (first | apply Kd.R_alloc | apply Kd.R_drewN | apply Kd.R_drew)); exact HO143.out))
              (case aS => exact (below_size (by repeat (first | (with_reducible first | exact HB.out | apply below_alloc | apply pw_below_drewN | apply below_drew1 | refine below_set ?_ GE129.out) | exact HB.out))))
              (case aL => have := LMc37.out; omega)
              intro v148 w45 ho hb hg hat
              rw [← Ny147.out] at ho
              have n0_ := Aside0.mk (Kd.R_over' (by (with_reducible repeat (first | apply Kd.R_alloc | apply Kd.R_drewN | apply Kd.R_drew)); exact HO_57.out) (Kd.R_typed (by (with_reducible repeat (first | apply Kd.R_alloc | apply Kd.R_drewN | apply Kd.R_drew)); exact HO143.out)) (by decide) hg)
              have n1_ := Aside0.mk (blk_grown (g := gb129) (o := .cells #[.int .i64 ((rd_T30 l2 x38_2).f0), .int .i64 ((rd_T30 l2 x38_2).f1), .int .i64 ((rd_T30 l2 x38_2).f2), .int .i64 ((rd_T30 l2 x38_2).f3), .int .u32 ((rd_T30 l2 x38_2).f4.f0), .int .i64 ((rd_T30 l2 x38_2).f4.f1), .string ((rd_T30 l2 x38_2).f5)] 30 (0, 0)) (by (with_reducible repeat (first | refine blk_drewN ?_ _ | refine blk_drew ?_ | refine blk_alloc ?_ _)); exact BK129.out) hg (Kd.R_ne HO143.out BK129.out (by decide)))
              have n2_ := Aside0.mk (Kd.R_after (ok := (fun _ => True)) (by (with_reducible repeat (first | apply Kd.R_alloc | apply Kd.R_drewN | apply Kd.R_drew)); exact Kd.R_mono HO146.out (fun _ hk => ⟨trivial, hk⟩)) hg hat)
              have n3_ := Aside0.mk (hb)
              have n4_ := Aside0.mk (ho)
              clear HO_57
              clear BK129
              clear HO146
              clear HB
              clear HO143
              have HO_57 := n0_
              have BK129 := n1_
              have HO146 := n2_
              have HB := n3_
              have HO149 := n4_
              clear n0_ n1_ n2_ n3_ n4_
              clear ho hb hg hat
              refine hK.out _ _ ⟨(blk_cell BK129.out 0).trans rfl, (blk_cell BK129.out 1).trans rfl, (blk_cell BK129.out 2).trans rfl, (blk_cell BK129.out 3).trans rfl, (blk_cell BK129.out 4).trans rfl, (blk_cell BK129.out 5).trans rfl, (blk_cell BK129.out 6).trans rfl⟩ (fun hHeld => ?_)
              clear hK K
              refine norm_ (a' := ?_) ?_ ?_
              rotate_left
              · show Act.put _ (some 83) _ = _
                simp only [Act.put, List.setIfInBounds_toArray, List.set_cons_zero, List.set_cons_succ, i64_w, i32_w]
                rfl
              refine pure_ (i := 16) (N := some 8) (v := ?_) (a' := ?_) (bA 17 131071) rfl rfl (any_of HT_.out (by kernel_rfl)) (fun _ _ _ h => h) (Or.inl ⟨by rfl, ?_⟩) ?_ ?_; rotate_left
              · intro w'; go_simp; with_reducible rfl
              rotate_left; · simp only [Act.put, List.setIfInBounds_toArray, List.set_cons_zero, List.set_cons_succ, i64_w, i32_w]; rfl
              refine done_ (done_of HT_.out (by kernel_rfl)) ?_
              have hcz47_0 : w45.cell? ⟨gb129, 0, none⟩ = some (.int .i64 ((rd_T30 l2 x38_2).f0)) := (blk_cell BK129.out 0).trans rfl
              have hcz47_1 : w45.cell? ⟨gb129, 1, none⟩ = some (.int .i64 ((rd_T30 l2 x38_2).f1)) := (blk_cell BK129.out 1).trans rfl
              have hcz47_2 : w45.cell? ⟨gb129, 2, none⟩ = some (.int .i64 ((rd_T30 l2 x38_2).f2)) := (blk_cell BK129.out 2).trans rfl
              have hcz47_3 : w45.cell? ⟨gb129, 3, none⟩ = some (.int .i64 ((rd_T30 l2 x38_2).f3)) := (blk_cell BK129.out 3).trans rfl
              have hcz47_4 : w45.cell? ⟨gb129, 4, none⟩ = some (.int .u32 ((rd_T30 l2 x38_2).f4.f0)) := (blk_cell BK129.out 4).trans rfl
              have hcz47_5 : w45.cell? ⟨gb129, 5, none⟩ = some (.int .i64 ((rd_T30 l2 x38_2).f4.f1)) := (blk_cell BK129.out 5).trans rfl
              have hcz47_6 : w45.cell? ⟨gb129, 6, none⟩ = some (.string ((rd_T30 l2 x38_2).f5)) := (blk_cell BK129.out 6).trans rfl
              have hfz47_0 := blk_frozen BK129.out 0
              have hfz47_1 := blk_frozen BK129.out 1
              have hfz47_2 := blk_frozen BK129.out 2
              have hfz47_3 := blk_frozen BK129.out 3
              have hfz47_4 := blk_frozen BK129.out 4
              have hfz47_5 := blk_frozen BK129.out 5
              have hfz47_6 := blk_frozen BK129.out 6
              try go_wp2_with (first | (at_builtin; refine Go.Proofs.Ytjdapfimjpbnmaa.R_append_str (w0 := w) w.heap.size rfl (.tmp 84) _ 32 9 5 rfl Try.underlying32 Try.underlying9 info5 v148 y147 ((rd_T30 l2 x38_2).f5) (fun k_ => some k_ ≠ (.slice Ao46 y144.length co46 : Value).ownBlock) rfl rfl ?aO ?aF ?aB ?aS ?aL ?_; (case aB => exact (by repeat (first | (with_reducible first | exact HB.out | apply below_alloc | apply pw_below_drewN | apply below_drew1 | refine below_set ?_ GE129.out) | exact HB.out))); (case aF => exact (fun k_ hk => Kd.fresh' (Kd.R_lt (by (with_reducible repeat (first | apply Kd.R_alloc | apply Kd.R_drewN | apply Kd.R_drew)); exact HO146.out)) k_ hk)); (case aO => exact (by (with_reducible repeat (first | apply Kd.R_alloc | apply Kd.R_drewN | apply Kd.R_drew)); exact HO149.out)); (case aS => exact (below_size (by repeat (first | (with_reducible first | exact HB.out | apply below_alloc | apply pw_below_drewN | apply below_drew1 | refine below_set ?_ GE129.out) | exact HB.out)))); (case aL => have := LMc38.out; omega); intro v151 w48 ho hb hg hat; rw [← Ny150.out] at ho; change Kd.R (Kd.int .u8) 5 w48 w.heap.size (fun k_ => some k_ ≠ (.slice Ao46 y144.length co46 : Value).ownBlock) v151 y150 at ho; have n0_ := Aside0.mk (Kd.R_over' (by (with_reducible repeat (first | apply Kd.R_alloc | apply Kd.R_drewN | apply Kd.R_drew)); exact HO_57.out) (Kd.R_typed (by (with_reducible repeat (first | apply Kd.R_alloc | apply Kd.R_drewN | apply Kd.R_drew)); exact HO149.out)) (by decide) hg); have n1_ := Aside0.mk (blk_grown (g := gb129) (o := .cells #[.int .i64 ((rd_T30 l2 x38_2).f0), .int .i64 ((rd_T30 l2 x38_2).f1), .int .i64 ((rd_T30 l2 x38_2).f2), .int .i64 ((rd_T30 l2 x38_2).f3), .int .u32 ((rd_T30 l2 x38_2).f4.f0), .int .i64 ((rd_T30 l2 x38_2).f4.f1), .string ((rd_T30 l2 x38_2).f5)] 30 (0, 0)) (by (with_reducible repeat (first | refine blk_drewN ?_ _ | refine blk_drew ?_ | refine blk_alloc ?_ _)); exact BK129.out) hg (Kd.R_ne HO149.out BK129.out (by decide))); have n2_ := Aside0.mk (Kd.R_after (ok := (fun _ => True)) (by (with_reducible repeat (first | apply Kd.R_alloc | apply Kd.R_drewN | apply Kd.R_drew)); exact HO146.out) hg hat); have n3_ := Aside0.mk (hb); have n4_ := Aside0.mk (ho); clear HO_57; clear BK129; clear HO146; clear HB; clear HO149; have HO_57 := n0_; have BK129 := n1_; have HO146 := n2_; have HB := n3_; have HO152 := n4_; clear n0_ n1_ n2_ n3_ n4_; clear ho hb hg hat))
              go_roundg k3
              case measure => have := HJ4.out; have := HK2.out; have := HK3.out; omega
              case rel => exact ⟨(y150), (wrap64 (x38_2 + 1)), (by first | rfl | (simp; done) | (simp [*]; done)), H', ⟨by have := HJ4.out; have := HK2.out; have := HK3.out; omega⟩, ⟨by (with_reducible repeat (first | apply Kd.R_alloc | apply Kd.R_drewN | apply Kd.R_drew)); exact Kd.R_mono HO152.out (fun _ hk => trivial)⟩, ⟨by repeat (first | (with_reducible first | exact HB.out | apply below_alloc | apply pw_below_drewN | apply below_drew1 | refine below_set ?_ GE129.out) | exact HB.out)⟩⟩
/-! ### script_get: function 35 -/
def script_get.l0 : Nat → ByteArray → Int → Int → Int → Option (Int)
  | 0, _, _, _, _ => none
  | k + 1, x0, x3, x6, x7 => if x7 < x6 then (if 0 ≤ x7 then (if x7 < (x0.size : Int) then (script_get.l0 k x0 (Go.bits .or .u64 (IntKind.u64.wrap (x3 * 256)) (IntKind.u64.wrap (bt x0 x7))) x6 (wrap64 (x7 + 1))) else (none)) else (none)) else (some x3)
def script_get.f (k : Nat) (a0 : ByteArray) : Option (Int) := script_get.l0 k a0 0 (a0.size : Int) 0
theorem script_get.mono_l : ∀ k, (∀ y0 y1 y2 y3, LeO (script_get.l0 k y0 y1 y2 y3) (script_get.l0 (k + 1) y0 y1 y2 y3))
  | 0 => fun _ _ _ _ r h => by simp [script_get.l0] at h
  | k + 1 => by
    have ih0 := script_get.mono_l k
    · intro y0 y1 y2 y3
      unfold script_get.l0
      repeat' first
      | (with_reducible exact ih0 _ _ _ _)
      | (with_reducible exact LeO.refl _)
      | (with_reducible exact LeO.none _)
      | (with_reducible refine LeO.ite ?_ ?_)
      | (with_reducible refine LeO.bind ?_ (fun _ => ?_))
      | exact ih0 _ _ _ _
      | exact LeO.none _
      | refine LeO.ite ?_ ?_
      | refine LeO.bind ?_ (fun _ => ?_)
theorem script_get.mono : ∀ a0 k, LeO (script_get.f k a0) (script_get.f (k + 1) a0) := by
  intro a0 k
  have ih0 := script_get.mono_l k
  unfold script_get.f
  repeat' first
      | (with_reducible exact ih0 _ _ _ _)
      | (with_reducible exact LeO.refl _)
      | (with_reducible exact LeO.none _)
      | (with_reducible refine LeO.ite ?_ ?_)
      | (with_reducible refine LeO.bind ?_ (fun _ => ?_))
      | exact ih0 _ _ _ _
      | exact LeO.none _
      | refine LeO.ite ?_ ?_
      | refine LeO.bind ?_ (fun _ => ?_)
set_option maxHeartbeats 8000000 in
set_option maxRecDepth 100000 in
theorem script_get.calls (k : Nat) (a0 : ByteArray) (r : Int) (w : World) (h : script_get.f k a0 = some r) :
    Calls Try.prog 35 #[.string a0] w fun e w' => e = .returned (.int .u64 r) ∧ Drawn0 w w' := by
  have H : (script_get.l0 k a0 0 (a0.size : Int) 0) = some r := h
  clear h
  have H' := Aside0.mk H
  clear H
  go_enter Try.func35, Try.ntmps35
  go_wp2
  go_loopg [3, 7] k (fun kq v3 v7 w' => ∃ (x3_1 : Int) (x7_1 : Int), v3 = .int .u64 x3_1 ∧ v7 = .int .i64 x7_1 ∧ Aside0 (script_get.l0 kq a0 x3_1 (a0.size : Int) x7_1 = some r) ∧ Aside0 (kq ≤ k) ∧ Drawn0 w w')
  case atStart => exact ⟨(0), (0), (by first | rfl | (simp; done) | (simp [*]; done)), (by first | rfl | (simp; done) | (simp [*]; done)), H', ⟨Nat.le_refl _⟩, by repeat (first | exact Drawn0.refl _ | apply Drawn0.step)⟩
  case round =>
    clear H'
    obtain ⟨x3_1, x7_1, rfl, rfl, HA, HK1, ⟨m1, rfl⟩⟩ := hrel
    cases gk with
    | zero => exact absurd HA.out (by simp [script_get.l0])
    | succ k1 =>
      have H := HA.out
      clear HA
      simp only [script_get.l0] at H
      by_cases c2 : x7_1 < (a0.size : Int)
      case neg =>
        rw [if_neg c2] at H; have c2b0 : decide (x7_1 < (a0.size : Int)) = false := decide_eq_false c2
        clear c2
        obtain rfl := Option.some.inj H
        go_wp2
        go_ret
        exact ⟨by first | rfl | (simp; done) | (simp [*]; done), by repeat (first | exact Drawn0.refl _ | apply Drawn0.step)⟩

      rw [if_pos c2] at H; have c2b0 : decide (x7_1 < (a0.size : Int)) = true := decide_eq_true c2
      clear c2
      by_cases c3 : 0 ≤ x7_1
      case neg =>
        rw [if_neg c3] at H; exact absurd H (by simp)
      rw [if_pos c3] at H; have c3b0 : decide (0 ≤ x7_1) = true := decide_eq_true c3
      clear c3
      by_cases c4 : x7_1 < (a0.size : Int)
      case neg =>
        rw [if_neg c4] at H; exact absurd H (by simp)
      rw [if_pos c4] at H; have c4b0 : decide (x7_1 < (a0.size : Int)) = true := decide_eq_true c4
      clear c4
      have H' := Aside0.mk H
      clear H
      have p5 : 0 ≤ (x7_1 : Int) := of_decide_eq_true (by first | (with_reducible assumption) | assumption)
      have q5 : x7_1 < (a0.size : Int) := of_decide_eq_true (by first | (with_reducible assumption) | assumption)
      have hx5 := bt_at a0 x7_1
      replace p5 := eq_true p5
      replace q5 := eq_true q5
      go_wp2
      go_roundg k1
      case measure => have := HK1.out; omega
      case rel => exact ⟨(Go.bits .or .u64 (IntKind.u64.wrap (x3_1 * 256)) (IntKind.u64.wrap (bt a0 x7_1))), (wrap64 (x7_1 + 1)), (by first | rfl | (simp; done) | (simp [*]; done)), (by first | rfl | (simp; done) | (simp [*]; done)), H', ⟨by have := HK1.out; omega⟩, by repeat (first | exact Drawn0.refl _ | apply Drawn0.step)⟩
end Go.Proofs.YtjdapfimjpbnmaaQ.PScr
