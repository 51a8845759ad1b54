-- written by this session's turned copy of the kit's print.py; Lean checks it
import Derived.Test.YtgmdjhokcipajaaPTlx0
import Derived.Test.YtgmdjhokcipajaaPTlx2
import Derived.Test.YtgmdjhokcipajaaPTlx3
namespace Go.Proofs.YtgmdjhokcipajaaQ.PTlx
open Go.RowKit Go.Proofs.YtgmdjhokcipajaaW.PrintWords Go.Proofs.YtgmdjhokcipajaaW.PrintLast Go.Proofs.YtgmdjhokcipajaaW.PrintMore
attribute [local go_sem] max2_int min2_int max_two min_two max_three min_three max_four min_four   -- for this text's walks alone
set_option linter.unusedVariables false
set_option linter.unusedSimpArgs false

/-! ### tlv_Encode: function 37 -/
-- EXT wayfarer/tlv.Encode | making=1 | rounds=1
theorem tlv_Encode.inf22 : (Try.prog.info? 22).map (fun i => (i.zero, i.size, i.bytes)) = some (some (.slice none 0 0), 1, 24) := by kernel_rfl
theorem tlv_put.grows : ∀ (k : Nat) (x : List Int) (n i : Int) (r : List Int), tlv_put.l0 k x n i = some r → x.length ≤ r.length
  | 0, _, _, _, _, h => by simp [tlv_put.l0] at h
  | k + 1, x, n, i, r, h => by
    simp only [tlv_put.l0] at h
    split at h
    · split at h
      · split at h
        · have := tlv_put.grows k _ _ _ _ h
          simp at this
          omega
        · cases h
      · cases h
    · cases h
      exact Nat.le_refl _
theorem tlv_part.j0_ne (k : Nat) (x : List Int) (a l s m q : Int) (r : List Int) (h : tlv_part.j0 k x a l s m q = some r) : r ≠ [] := by
  cases k with
  | zero => simp [tlv_part.j0] at h
  | succ k =>
    simp only [tlv_part.j0] at h
    obtain ⟨t, -, h⟩ := Option.bind_eq_some_iff.1 h
    obtain ⟨y, hy, h⟩ := Option.bind_eq_some_iff.1 h
    split at h
    case isFalse => cases h
    obtain ⟨t2, h2, h⟩ := Option.bind_eq_some_iff.1 h
    obtain ⟨t3, h3, h⟩ := Option.bind_eq_some_iff.1 h
    obtain ⟨t4, -, h⟩ := Option.bind_eq_some_iff.1 h
    have g2 := tlv_put.grows _ _ _ _ _ h2
    have g3 := tlv_put.grows _ _ _ _ _ h3
    have gy : y.length = 3 := by rw [← Option.some.inj hy]; rfl
    rw [List.length_append, gy] at g2
    split at h
    case isFalse => cases h
    split at h
    case isFalse => cases h
    obtain ⟨y2, -, h⟩ := Option.bind_eq_some_iff.1 h
    split at h
    case isFalse => cases h
    have h := Option.some.inj h
    intro hr
    rw [hr] at h
    have h0 := (List.append_eq_nil_iff.1 h).1
    have h1 := congrArg List.length h0
    simp only [List.length_nil] at h1
    omega
theorem tlv_part.ne (k : Nat) (x : List Int) (a l i s m q : Int) (r : List Int) (h : tlv_part.f k x a l i s m q = some r) : r ≠ [] := by
  unfold tlv_part.f at h
  split at h
  · exact tlv_part.j0_ne _ _ _ _ _ _ _ _ h
  · obtain ⟨y, -, h⟩ := Option.bind_eq_some_iff.1 h
    split at h
    · obtain ⟨t, -, h⟩ := Option.bind_eq_some_iff.1 h
      exact tlv_part.j0_ne _ _ _ _ _ _ _ _ h
    · cases h
theorem tlv_Encode.ne_y {y a t : List Int} (hy : y = a ++ t) (ht : t ≠ []) : y ≠ [] := by
  rw [hy]
  intro h
  exact ht (List.append_eq_nil_iff.1 h).2
/-- A page's head and its parts. -/
def tlv_Encode.page (x : List Int) : List Int := [87, 1, (x.length : Int) / 256 % 256, (x.length : Int) % 256] ++ x
def tlv_Encode.rowOk (x : List Int) : Bool := !x.isEmpty && Ytgmdjhokcipajaa.byteB x && decide (x.length ≤ 1020)
def tlv_Encode.tail (x3 : List (List Int)) : Option (List (List Int)) := if x3.all tlv_Encode.rowOk = true ∧ x3.length ≤ 1000000 then some (x3.map tlv_Encode.page) else none
def tlv_Encode.mix (x3 : List (List Int)) (j : Nat) : List (List Int) := (x3.take j).map tlv_Encode.page ++ x3.drop j
theorem tlv_Encode.mix_zero (x3 : List (List Int)) : tlv_Encode.mix x3 0 = x3 := rfl
theorem tlv_Encode.mix_len (x3 : List (List Int)) (j : Nat) (h : j ≤ x3.length) : (tlv_Encode.mix x3 j).length = x3.length := by
  simp [tlv_Encode.mix]
  omega
theorem tlv_Encode.mix_get (x3 : List (List Int)) (j : Nat) (h : j < x3.length) (z : List Int) : (tlv_Encode.mix x3 j).getD j z = x3[j] := by
  simp [tlv_Encode.mix, List.getElem?_append_right, Nat.min_eq_left (Nat.le_of_lt h), h]
theorem tlv_Encode.mix_succ (x3 : List (List Int)) (j : Nat) (h : j < x3.length) : (tlv_Encode.mix x3 j).set j (tlv_Encode.page x3[j]) = tlv_Encode.mix x3 (j + 1) := by
  unfold tlv_Encode.mix
  have hl : ((x3.take j).map tlv_Encode.page).length = j := by simp; omega
  rw [List.set_append_right _ _ (by omega), hl, Nat.sub_self, List.take_succ_eq_append_getElem h, List.map_append, List.append_assoc]
  congr 1
  rw [List.drop_eq_getElem_cons h, List.set_cons_zero]
  rfl
theorem tlv_Encode.mix_end (x3 : List (List Int)) : tlv_Encode.mix x3 x3.length = x3.map tlv_Encode.page := by simp [tlv_Encode.mix]
def tlv_Encode.j1 (k : Nat) (x3 : List (List Int)) : Option (List (List Int)) := if k = 0 then none else tlv_Encode.tail x3
theorem tlv_Encode.j1_succ (k : Nat) (x3 : List (List Int)) : tlv_Encode.j1 (k + 1) x3 = tlv_Encode.tail x3 := by simp [tlv_Encode.j1]
theorem tlv_Encode.j1_zero (x3 : List (List Int)) : tlv_Encode.j1 0 x3 = none := by simp [tlv_Encode.j1]
theorem tlv_Encode.j1_mono (k : Nat) (x3 : List (List Int)) : LeO (tlv_Encode.j1 k x3) (tlv_Encode.j1 (k + 1) x3) := by
  cases k with
  | zero => intro r h; rw [tlv_Encode.j1_zero] at h; cases h
  | succ k => rw [tlv_Encode.j1_succ, tlv_Encode.j1_succ]; exact LeO.refl _
def tlv_Encode.l0 : Nat → List (List Int) → List Int → Int → List (S62) → Int → Int → Option ((List (List Int)))
  | 0, _, _, _, _, _, _ => none
  | k + 1, x3, x4, x5, x11, x12, x13 => if x13 < x12 then (if 0 ≤ x13 then (if x13 < (x11.length : Int) then ((tlv_Update_Right.f ((rd_T62 x11 x13).f0.f0) ((rd_T62 x11 x13).f0.f1) ((rd_T62 x11 x13).f1) ((rd_T62 x11 x13).f2.f0) ((rd_T62 x11 x13).f2.f1)).bind fun t144 => (if t144 = true then ((tlv_part.f k ([] : List Int) ((rd_T62 x11 x13).f0.f0) ((rd_T62 x11 x13).f0.f1) ((rd_T62 x11 x13).f1) ((rd_T62 x11 x13).f2.f0) ((rd_T62 x11 x13).f2.f1) x5).bind fun t145 => (if (wrap64 ((x4.length : Int) + (t145.length : Int))) > 1020 then (if x3.length < 5864062014805 then ((tlv_part.f k ([] : List Int) ((rd_T62 x11 x13).f0.f0) ((rd_T62 x11 x13).f0.f1) ((rd_T62 x11 x13).f1) ((rd_T62 x11 x13).f2.f0) ((rd_T62 x11 x13).f2.f1) 0).bind fun t151 => (if ([] : List Int).length + t151.length < 140737488355328 then (tlv_Encode.l0 k (x3 ++ [x4]) (([] : List Int) ++ t151) ((rd_T62 x11 x13).f1) x11 x12 (wrap64 (x13 + 1))) else (none))) else (none)) else (if x4.length + t145.length < 140737488355328 then (tlv_Encode.l0 k x3 (x4 ++ t145) ((rd_T62 x11 x13).f1) x11 x12 (wrap64 (x13 + 1))) else (none)))) else (tlv_Encode.l0 k x3 x4 x5 x11 x12 (wrap64 (x13 + 1))))) else (none)) else (none)) else (if (x4.length : Int) = 0 then (tlv_Encode.j1 k x3) else (if x3.length < 5864062014805 then (tlv_Encode.j1 k (x3 ++ [x4])) else (none)))
def tlv_Encode.f (k : Nat) (l0 : List (S62)) : Option ((List (List Int))) := tlv_Encode.l0 k ([] : List (List Int)) ([] : List Int) 0 l0 (l0.length : Int) 0
theorem tlv_Encode.mono_l : ∀ k, (∀ y0 y1 y2 y3 y4 y5, LeO (tlv_Encode.l0 k y0 y1 y2 y3 y4 y5) (tlv_Encode.l0 (k + 1) y0 y1 y2 y3 y4 y5))
  | 0 => fun _ _ _ _ _ _ r h => by simp [tlv_Encode.l0] at h
  | k + 1 => by
    have ih0 := tlv_Encode.mono_l k
    intro y0 y1 y2 y3 y4 y5
    unfold tlv_Encode.l0
    repeat' first
      | (with_reducible exact ih0 _ _ _ _ _ _)
      | (with_reducible exact tlv_Encode.j1_mono _ _)
      | (with_reducible exact tlv_part.mono _ _ _ _ _ _ _ _)
      | (with_reducible exact LeO.refl _)
      | (with_reducible exact LeO.none _)
      | (with_reducible refine LeO.ite ?_ ?_)
      | (with_reducible refine LeO.bind ?_ (fun _ => ?_))
theorem tlv_Encode.mono : ∀ a0 k, LeO (tlv_Encode.f k a0) (tlv_Encode.f (k + 1) a0) := by
  intro a0 k
  unfold tlv_Encode.f
  exact tlv_Encode.mono_l k _ _ _ _ _ _
theorem tlv_put.two (n : Int) (h0 : 0 ≤ n) (h1 : n ≤ 65535) : tlv_put.f 3 [87, 1] n 2 = some [87, 1, n / 256 % 256, n % 256] := by
  have e1 : shr .u32 n 8 = n / 256 := rfl
  have e0 : shr .u32 n 0 = n := by show n / 1 = n; omega
  simp [tlv_put.f, tlv_put.l0, wrap64, e1, e0]
theorem tlv_Encode.row_ok {X : List (List Int)} (h : X.all tlv_Encode.rowOk = true) (j : Nat) (hj : j < X.length) : 0 < X[j].length ∧ Ytgmdjhokcipajaa.Byte X[j] ∧ X[j].length ≤ 1020 := by
  have := List.all_eq_true.1 h _ (List.getElem_mem hj)
  simp only [tlv_Encode.rowOk, Bool.and_eq_true, Bool.not_eq_true', decide_eq_true_eq, Ytgmdjhokcipajaa.byteB_iff] at this
  obtain ⟨⟨h1, h2⟩, h3⟩ := this
  refine ⟨List.length_pos_iff.2 fun e => ?_, h2, h3⟩
  rw [e] at h1
  cases h1
set_option maxHeartbeats 8000000 in
set_option maxRecDepth 100000 in
theorem tlv_Encode.calls (k : Nat) (A0 : Option Addr) (c0 : Nat) (l0 : List (S62)) (r : List (List Int)) (w : World) (hr0 : Kd.C k62 w A0 l0.length l0) (hc0 : l0.length ≤ c0) (h : tlv_Encode.f k l0 = some r) :
    Calls Try.prog 37 #[.slice A0 l0.length c0] w fun e w' => ∃ v0_ : Value, e = .returned (v0_) ∧ Kd.S (Kd.slice 5 (Kd.int .u8)) 22 w' w.heap.size (fun _ => True) v0_ r ∧ Below w.heap.size w w' := by
  have hu62 := Try.underlying62
  have HR0 := Aside0.mk hr0
  have HC0 := Aside0.mk hc0
  clear hr0 hc0
  have HB := Aside0.mk (Below.refl w.heap.size w)
  have H : (tlv_Encode.l0 k ([] : List (List Int)) ([] : List Int) 0 l0 (l0.length : Int) 0) = some r := h
  clear h
  have H' := Aside0.mk H
  clear H
  go_enter Try.func37, Try.ntmps37
  go_wp2
  go_loopg [3, 4, 5, 13] k (fun kq v3 v4 v5 v13 w' => ∃ (x3_1 : List (List Int)) (x4_1 : List Int) (x5_1 : Int) (x13_1 : Int), v5 = .int .u32 x5_1 ∧ v13 = .int .i64 x13_1 ∧ Aside0 (tlv_Encode.l0 kq x3_1 x4_1 x5_1 l0 (l0.length : Int) x13_1 = some r) ∧ Aside0 (kq ≤ k) ∧ Aside0 (Kd.S (Kd.slice 5 (Kd.int .u8)) 22 w' w.heap.size (fun k_ => some k_ ≠ (v4 : Value).ownBlock) v3 x3_1) ∧ Aside0 (Kd.R (Kd.int .u8) 5 w' w.heap.size (fun _ => True) v4 x4_1) ∧ Aside0 (x4_1 = [] → v4 = .slice none 0 0) ∧ Aside0 (Below w.heap.size w w'))
  case atStart => exact ⟨(([] : List (List Int))), (([] : List Int)), (0), (0), (by first | rfl | (simp; done) | (simp [*]; done)), (by first | rfl | (simp; done) | (simp [*]; done)), H', ⟨Nat.le_refl _⟩, ⟨by first | exact Kd.S_nil _ _ _ _ _ | exact Kd.N_nil _ _ _ _ _ | exact Kd.V_nil _ _ _ _ _ | exact Kd.Q_nil _ _ _ _ _ | exact Kd.R_nil _ _ _ _ _⟩, ⟨by first | exact Kd.R_nil _ _ _ _ _ | exact Kd.N_nil _ _ _ _ _ | exact Kd.V_nil _ _ _ _ _ | exact Kd.Q_nil _ _ _ _ _ | exact Kd.S_nil _ _ _ _ _⟩, ⟨fun _ => rfl⟩, ⟨by repeat (first | (with_reducible first | exact HB.out | apply below_alloc | apply pw_below_drewN | apply below_drew1) | exact HB.out)⟩⟩
  case round =>
    clear H'
    obtain ⟨x3_1, x4_1, x5_1, x13_1, rfl, rfl, HA, HK1, HO_3, HO_4, HNIL, HB⟩ := hrel
    cases gk with
    | zero => exact absurd HA.out (by simp [tlv_Encode.l0])
    | succ k1 =>
      have H := HA.out
      clear HA
      simp only [tlv_Encode.l0] at H
      by_cases c2 : x13_1 < (l0.length : Int)
      case neg =>
        rw [if_neg c2] at H; have c2b0 : decide (x13_1 < (l0.length : Int)) = false := decide_eq_false c2
        clear c2
        have HC38 := Aside0.mk H
        clear H
        obtain ⟨Ao39, co39, eo39⟩ := Kd.R_slice HO_4.out
        subst eo39
        have hA4 : Ao39.isNone = x4_1.isEmpty := by
          cases x4_1 with
          | nil => have f0 := HNIL.out rfl; injection f0 with f1 f2 f3; subst f1; rfl
          | cons y_ ys_ => obtain ⟨ad, e, -⟩ := Kd.at_int (Kd.R_reads' HO_4.out).2.2 0 (by omega) (by simp <;> omega); subst e; rfl
        have hr4 : ∀ W : World, (binOp .neq 22 (.slice Ao39 x4_1.length co39) (.slice none 0 0)).run Try.prog W = .ok (.bool ((x4_1.length : Int) != 0)) W := fun W => by
          rw [Go.run_neq_slice_nil W 22 5 Ao39 x4_1.length co39 Try.underlying22, hA4]
          congr 2
          cases x4_1 with
          | nil => rfl
          | cons y_ ys_ => simp <;> omega
        clear hA4
        go_upto_if 42 with (fail)
        go_cut [3] (fun v3 wc => ∃ (kq : Nat) (x3_37 : List (List Int)), Aside0 (tlv_Encode.j1 kq x3_37 = some r) ∧ Aside0 (kq ≤ k1) ∧ Aside0 (Kd.S (Kd.slice 5 (Kd.int .u8)) 22 wc w.heap.size (fun _ => True) v3 x3_37) ∧ Aside0 (Below w.heap.size w wc))
        case first =>
          have H := HC38.out
          clear HC38
          by_cases c40 : (x4_1.length : Int) = 0
          case pos =>
            rw [if_pos c40] at H; have c40b0 : ((x4_1.length : Int) == 0) = true := beq_iff_eq.mpr c40
            have c40b1 : ((x4_1.length : Int) != 0) = false := bne_eq_false_iff_eq.mpr c40
            clear c40
            rw [c40b1]
            have H' := Aside0.mk H
            clear H
            go_wp2
            go_meet
            case rel => exact ⟨_, (x3_1), H', ⟨by have := HK1.out; first | omega | exact Nat.le_refl _⟩, ⟨by (with_reducible repeat (first | apply Kd.S_alloc | apply Kd.S_drewN | apply Kd.S_drew)); exact Kd.S_mono HO_3.out (fun _ hk => trivial)⟩, ⟨by repeat (first | (with_reducible first | exact HB.out | apply below_alloc | apply pw_below_drewN | apply below_drew1) | exact HB.out)⟩⟩
          rw [if_neg c40] at H; have c40b0 : ((x4_1.length : Int) == 0) = false := beq_eq_false_iff_ne.mpr c40
          have c40b1 : ((x4_1.length : Int) != 0) = true := bne_iff_ne.mpr c40
          have c40b2 : ¬ (x4_1 = []) := fun h_ => c40 (by rw [h_]; rfl)
          rw [c40b1]
          by_cases c41 : x3_1.length < 5864062014805
          case neg =>
            rw [if_neg c41] at H; exact absurd H (by simp)
          rw [if_pos c41] at H; have LMc41 := Aside0.mk c41
          clear c41
          obtain ⟨y160, hy160⟩ : ∃ y_ : List (List Int), y_ = (x3_1 ++ [x4_1]) := ⟨_, rfl⟩
          replace H : (tlv_Encode.j1 k1 y160) = some r := by first | (rw [hy160]; with_reducible exact H) | (have H2_ := (Option.bind_some _ _).symm.trans H; rw [hy160]; with_reducible exact H2_) | (have H2_ := (Option.bind_some _ _).symm.trans H; with_reducible exact H2_) | with_reducible exact H | (rw [hy160]; exact H) | exact H
          have Ny160 := Aside0.mk hy160
          clear hy160
          have H' := Aside0.mk H
          clear H
          go_wp2_with (first | ((with_reducible refine gate_builtin (b := .append) (xs := #[.tmp 43, .tmp 45]) rfl ?_); at_builtin; refine Kd.S_append (Kd.slice 5 (Kd.int .u8)) (w0 := w) w.heap.size rfl (.tmp 43) (.tmp 45) 64 22 (.slice none 0 0) 24 rfl Try.underlying64 tlv_Encode.inf22 rfl (by decide) (by omega) u3 x3_1 x4_1 [.slice Ao39 x4_1.length co39] (fun _ => True) (fun k_ => some k_ = (.slice Ao39 x4_1.length co39 : Value).ownBlock) rfl rfl ?aP (fun k_ hk_ => ((Kd.R_mono (ok' := fun k_ => ((fun _ => True)) k_ ∧ some k_ ≠ (u3 : Value).ownBlock) (Kd.R_apart' (HO_4.out) (Kd.S_typed HO_3.out) (by decide)) (fun k_ hk => ⟨trivial, hk.2⟩))).1 k_ hk_.symm) ?aF ?aO ?aB ?aS ?aL ?_; (case aP => exact Kd.M_row (Kd.R_mono (Kd.R_tight rfl (Kd.R_mono (ok' := fun k_ => ((fun _ => True)) k_ ∧ some k_ ≠ (u3 : Value).ownBlock) (Kd.R_apart' (HO_4.out) (Kd.S_typed HO_3.out) (by decide)) (fun k_ hk => ⟨trivial, hk.2⟩))) (fun _ h_ => h_))); (case aB => exact (by repeat (first | (with_reducible first | exact HB.out | apply below_alloc | apply pw_below_drewN | apply below_drew1) | exact HB.out))); (case aF => exact (fun _ _ => trivial)); (case aO => exact (by (with_reducible repeat (first | apply Kd.S_alloc | apply Kd.S_drewN | apply Kd.S_drew)); exact Kd.S_mono HO_3.out (fun k_ hk => ⟨trivial, fun e_ => hk e_⟩))); (case aS => exact (below_size (by repeat (first | (with_reducible first | exact HB.out | apply below_alloc | apply pw_below_drewN | apply below_drew1) | exact HB.out)))); (case aL => have := LMc41.out; omega); intro v161 w42 ho hb hg hat; rw [← Ny160.out] at ho; have n0_ := Aside0.mk (hb); have n1_ := Aside0.mk (ho); clear HB; clear HO_3; clear HO_4; have HB := n0_; have HO162 := n1_; clear n0_ n1_; clear ho hb hg hat))
          go_meet
          case rel => exact ⟨_, (y160), H', ⟨by have := HK1.out; first | omega | exact Nat.le_refl _⟩, ⟨by (with_reducible repeat (first | apply Kd.S_alloc | apply Kd.S_drewN | apply Kd.S_drew)); exact HO162.out⟩, ⟨by repeat (first | (with_reducible first | exact HB.out | apply below_alloc | apply pw_below_drewN | apply below_drew1) | exact HB.out)⟩⟩
        case rest =>
          clear HC38
          try clear c1; try clear p1; try clear q1; try clear hx1; try clear c2; try clear c2b0; try clear p2; try clear c3; try clear c3b0; try clear c4; try clear c4b0; try clear c5; try clear c6; try clear p6; try clear c8; try clear c8b0; try clear c9; try clear c11; try clear p14; try clear q14; try clear hx14; try clear c25; try clear c35; try clear c37; try clear c40; try clear c40b0; try clear c40b1
          try clear c40b2; try clear c41; try clear hcz13_0; try clear hcz13_1; try clear hcz13_2; try clear hcz13_3; try clear hcz13_4; try clear hcz15_0; try clear hcz15_1; try clear hcz15_2; try clear hcz15_3; try clear hcz15_4; try clear hcz20_0; try clear hcz20_1; try clear hcz20_2; try clear hcz20_3; try clear hcz20_4; try clear hcz27_0; try clear hcz27_1; try clear hcz27_2; try clear hcz27_3
          try clear hcz27_4; try clear hcz29_0; try clear hcz29_1; try clear hcz29_2; try clear hcz29_3; try clear hcz29_4; try clear hcz36_0; try clear hcz36_1; try clear hcz36_2; try clear hcz36_3; try clear hcz36_4; try clear hfz13_0; try clear hfz13_1; try clear hfz13_2; try clear hfz13_3; try clear hfz13_4; try clear hfz15_0; try clear hfz15_1; try clear hfz15_2; try clear hfz15_3; try clear hfz15_4
          try clear hfz20_0; try clear hfz20_1; try clear hfz20_2; try clear hfz20_3; try clear hfz20_4; try clear hfz27_0; try clear hfz27_1; try clear hfz27_2; try clear hfz27_3; try clear hfz27_4; try clear hfz29_0; try clear hfz29_1; try clear hfz29_2; try clear hfz29_3; try clear hfz29_4; try clear hfz36_0; try clear hfz36_1; try clear hfz36_2; try clear hfz36_3; try clear hfz36_4; try clear hx142_0
          try clear hx142_1; try clear hx142_2; try clear hx142_3; try clear hx142_4; try clear p142; try clear q142
          obtain ⟨kq, x3_37, HA, HJ37, HO_3, HB⟩ := hcut
          cases kq with
          | zero => exact absurd HA.out (by simp [tlv_Encode.j1_zero])
          | succ kj37 =>
            have H := HA.out
            clear HA
            simp only [tlv_Encode.j1_succ] at H
            have H' := Aside0.mk H
            clear H
            obtain ⟨Ao43, co43, eo43⟩ := Kd.S_slice HO_3.out
            subst eo43
            unfold tlv_Encode.tail at H'
            have H2 := H'.out
            clear H'
            split at H2
            case isFalse => exact absurd H2 (by simp)
            rename_i hrows
            obtain rfl := Option.some.inj H2
            clear H2
            have HS := Aside0.mk HO_3.out
            have HX := Aside0.mk hrows
            have hlen := (Kd.S_reads' HO_3.out).1
            have hlm := (Kd.S_reads' HO_3.out).2.2.2.1
            clear hrows HO_3
            go_wp2
            go_loopw [49] (fun i wr => ∃ j : Nat, j ≤ x3_37.length ∧ i = .int .i64 j ∧ Aside0 (Kd.S (Kd.slice 5 (Kd.int .u8)) 22 wr w.heap.size (fun _ => True) (.slice Ao43 x3_37.length co43) (tlv_Encode.mix x3_37 j)) ∧ Aside0 (Below w.heap.size w wr)) (fun i _ => x3_37.length - (intOf i).toNat)
            case atStart => exact ⟨0, Nat.zero_le _, rfl, ⟨by rw [tlv_Encode.mix_zero]; exact HS.out⟩, ⟨by repeat (first | (with_reducible first | exact HB.out | apply below_alloc | apply pw_below_drewN | apply below_drew1) | exact HB.out)⟩⟩
            case round =>
              clear HS HB
              obtain ⟨j, hj, rfl, HS, HB⟩ := hrel
              by_cases hlt : j < x3_37.length
              · obtain ⟨hx0, hxb, hxl⟩ := tlv_Encode.row_ok HX.out.1 j hlt
                have hml := tlv_Encode.mix_len x3_37 j hj
                have hmg := tlv_Encode.mix_get x3_37 j hlt []
                have hms := Lib.hid (tlv_Encode.mix_succ x3_37 j hlt)
                obtain ⟨gr, capr, hv, hgb, hgl, -⟩ := Kd.S_form HS.out (by omega)
                injection hv with hv1 hv2 hv3
                subst hv1 hv3
                clear hv2
                obtain ⟨-, -, hC⟩ := Kd.S_reads' HS.out
                rw [hml] at hC
                obtain ⟨AX, cX, hcell, hcX, hCX⟩ := Ytgmdjhokcipajaa.C_row hC j hlt
                rw [hmg] at hcell hcX hCX
                obtain ⟨adX, eX, -⟩ := Kd.at_int hCX 0 (by omega) (by omega)
                subst eX
                have hcell' : wr.cell? ⟨gr, j, none⟩ = some (.slice (some adX) x3_37[j].length cX) := by rw [← hcell, add_plain]
                obtain ⟨-, -, -, -, -, hfz, -⟩ := Kd.S_elem HS.out [] (j : Int) (by omega) (by omega)
                have hfz0 : wr.frozen? ⟨gr, j, none⟩ = false := by
                  have := hfz 0
                  rw [Int.toNat_natCast, show j * (Kd.slice 5 (Kd.int .u8)).sz + 0 = j by show j * 1 + 0 = j; omega] at this
                  exact this
                have HCX := Aside0.mk hCX
                have HXB := Aside0.mk hxb
                clear hC hcell hCX hxb hmg hml hfz
                generalize x3_37[j] = x at *
                have hO2 := Ytgmdjhokcipajaa.Own8.new wr wr.heap.size [87, 1] (Nat.le_refl _) (by decide)
                have hb2 := (Below.refl wr.heap.size wr).alloc (Nat.le_refl _) (.cells (Ytgmdjhokcipajaa.u8s [87, 1]).toArray 5)
                go_wp2_with fail
                refine (tlv_put.calls 3 (fun k_ => wr.heap.size ≤ k_) _ [87, 1] (x.length : Int) 2 _ wr _ hb2 (Ytgmdjhokcipajaa.own8_R hO2 (fun k h => h)) (tlv_put.two _ (by omega) (by omega))).mono ?_
                rintro e w2 ⟨v2, rfl, hR2, hb3, -⟩
                clear hO2 hb2
                have hO3 := Ytgmdjhokcipajaa.R_own8 hR2
                clear hR2
                have hge := hb3.size
                obtain ⟨v4, w4, hrun, hO4, hb4, -⟩ := Ytgmdjhokcipajaa.app8 wr.heap.size v2 _ x w2 hO3 adX x.length cX rfl
                  (fun i u hi => by
                    obtain ⟨ad', ex, hc⟩ := (Kd.C_below HCX.out hb3).2.2 (by omega)
                    cases ex
                    simp only [Ytgmdjhokcipajaa.u8s, List.getElem?_map, Option.map_eq_some_iff] at hi
                    obtain ⟨y, hy, rfl⟩ := hi
                    obtain ⟨cs, -, hR, hcs⟩ := hc i y hy
                    have hR' : cs = [Value.int .u8 y] := hR
                    have h0_ := hcs 0 (.int .u8 y) (by rw [hR']; rfl)
                    have es : i * (Kd.int .u8).sz + 0 = i := by show i * 1 + 0 = i; omega
                    rw [es] at h0_
                    exact h0_) (by simp; omega) hge
                obtain ⟨A4, c4, e4v⟩ := Kd.R_slice (Ytgmdjhokcipajaa.own8_R hO4 (ok := fun _ => True) (fun k h => trivial))
                subst e4v
                have hb5 := hb3.trans hb4
                have hcell4 : w4.cell? ⟨gr, j, none⟩ = some (.slice (some adX) x.length cX) := (hb5.cell (p := ⟨gr, j, none⟩) hgl).trans hcell'
                have hfz4 : w4.frozen? ⟨gr, j, none⟩ = false := (hb5.frozen (p := ⟨gr, j, none⟩) hgl).trans hfz0
                have hlt4 : decide (j < x3_37.length) = true := decide_eq_true hlt
                clear hb3 hb4 hcell' hfz0 hO3 hge
                go_wp2_with (at_builtin; refine Ytgmdjhokcipajaa.wpList_app rfl _ _ _ _ rfl rfl rfl hrun ?_)
                go_roundw
                case rel =>
                  refine ⟨j + 1, by omega, by go_num, ⟨?_⟩, ⟨(below_step HB.out hb5).setCell hgb _⟩⟩
                  rw [← hms.out]
                  have e4 : tlv_Encode.page x = [87, 1, (x.length : Int) / 256 % 256, (x.length : Int) % 256] ++ x := rfl
                  rw [e4]
                  exact Ytgmdjhokcipajaa.S_store_row HS.out hb5 _ _ (Kd.R_lower (Ytgmdjhokcipajaa.own8_R hO4 (fun k h => h)) (HB.out.size)) j hlt
                case measure => simp [intOf]; omega
              · obtain rfl : j = x3_37.length := by omega
                have HS' := HS.out
                rw [tlv_Encode.mix_end] at HS'
                have HS2 := Aside0.mk HS'
                clear HS HS'
                go_wp2
                go_ret
                exact ⟨_, rfl, HS2.out, HB.out⟩
      rw [if_pos c2] at H; have c2b0 : decide (x13_1 < (l0.length : Int)) = true := decide_eq_true c2
      clear c2
      by_cases c3 : 0 ≤ x13_1
      case neg =>
        rw [if_neg c3] at H; exact absurd H (by simp)
      rw [if_pos c3] at H; have c3b0 : decide (0 ≤ x13_1) = true := decide_eq_true c3
      clear c3
      by_cases c4 : x13_1 < (l0.length : Int)
      case neg =>
        rw [if_neg c4] at H; exact absurd H (by simp)
      rw [if_pos c4] at H; have c4b0 : decide (x13_1 < (l0.length : Int)) = true := decide_eq_true c4
      clear c4
      replace H := Option.bind_eq_some_iff.mp H
      obtain ⟨t144, A50, H⟩ := H
      replace H : (if t144 = true then ((tlv_part.f k1 ([] : List Int) ((rd_T62 l0 x13_1).f0.f0) ((rd_T62 l0 x13_1).f0.f1) ((rd_T62 l0 x13_1).f1) ((rd_T62 l0 x13_1).f2.f0) ((rd_T62 l0 x13_1).f2.f1) x5_1).bind fun t145 => (if (wrap64 ((x4_1.length : Int) + (t145.length : Int))) > 1020 then (if x3_1.length < 5864062014805 then ((tlv_part.f k1 ([] : List Int) ((rd_T62 l0 x13_1).f0.f0) ((rd_T62 l0 x13_1).f0.f1) ((rd_T62 l0 x13_1).f1) ((rd_T62 l0 x13_1).f2.f0) ((rd_T62 l0 x13_1).f2.f1) 0).bind fun t151 => (if ([] : List Int).length + t151.length < 140737488355328 then (tlv_Encode.l0 k1 (x3_1 ++ [x4_1]) (([] : List Int) ++ t151) ((rd_T62 l0 x13_1).f1) l0 (l0.length : Int) (wrap64 (x13_1 + 1))) else (none))) else (none)) else (if x4_1.length + t145.length < 140737488355328 then (tlv_Encode.l0 k1 x3_1 (x4_1 ++ t145) ((rd_T62 l0 x13_1).f1) l0 (l0.length : Int) (wrap64 (x13_1 + 1))) else (none)))) else (tlv_Encode.l0 k1 x3_1 x4_1 x5_1 l0 (l0.length : Int) (wrap64 (x13_1 + 1)))) = some r := H
      have A5 := Aside0.mk A50
      clear A50
      by_cases c6 : t144 = true
      case neg =>
        replace c6 := Bool.eq_false_iff.mpr c6
        subst c6
        have H1 : (tlv_Encode.l0 k1 x3_1 x4_1 x5_1 l0 (l0.length : Int) (wrap64 (x13_1 + 1))) = some r := by rw [if_neg (show ¬ (false = true) by decide)] at H; exact H
        clear H
        have H := H1
        clear H1
        have H' := Aside0.mk H
        clear H
        have p142 : 0 ≤ (x13_1 : Int) := of_decide_eq_true (by first | (with_reducible assumption) | assumption)
        have q142 : x13_1 < (l0.length : Int) := of_decide_eq_true (by first | (with_reducible assumption) | assumption)
        obtain ⟨ad142, e142, hx142_0, hx142_1, hx142_2, hx142_3, hx142_4⟩ := at_T62 HR0.out x13_1 p142 q142
        cases e142
        replace hx142_0 := (HB.out.cell (World.block_lt_of_cell? w _ hx142_0)).trans hx142_0
        replace hx142_1 := (HB.out.cell (World.block_lt_of_cell? w _ hx142_1)).trans hx142_1
        replace hx142_2 := (HB.out.cell (World.block_lt_of_cell? w _ hx142_2)).trans hx142_2
        replace hx142_3 := (HB.out.cell (World.block_lt_of_cell? w _ hx142_3)).trans hx142_3
        replace hx142_4 := (HB.out.cell (World.block_lt_of_cell? w _ hx142_4)).trans hx142_4
        replace p142 := eq_true p142
        replace q142 := eq_true q142
        go_wp2_with (first | ((with_reducible refine gate_dst (N := 7) rfl ?_); refine box_event ?hg (N := 7) ?hd (cs := #[.int .u32 0, .int .i64 0, .int .u32 0, .int .u32 0, .int .u16 0]) (t := 62) ?hr ?_; (case hd => rfl); (case hg => rfl); (case hr => first | (go_simp; done) | (go_simp; rfl)); intro gb143 hg w35 hbox hb; have n0_ := Aside0.mk (Kd.S_below (by (with_reducible repeat (first | apply Kd.S_alloc | apply Kd.S_drewN | apply Kd.S_drew)); exact HO_3.out) hb); have n1_ := Aside0.mk (Kd.R_below (by (with_reducible repeat (first | apply Kd.R_alloc | apply Kd.R_drewN | apply Kd.R_drew)); exact HO_4.out) hb); have n2_ := Aside0.mk (below_step (by repeat (first | (with_reducible first | exact HB.out | apply below_alloc | apply pw_below_drewN | apply below_drew1) | exact HB.out)) hb); have n3_ := Aside0.mk (hbox); have n4_ := Aside0.mk ((by rw [hg]; exact (below_size (by repeat (first | (with_reducible first | exact HB.out | apply below_alloc | apply pw_below_drewN | apply below_drew1) | exact HB.out))) : w.heap.size ≤ gb143)); have n5_ := Aside0.mk ((by rw [hg]; exact (below_size (by repeat (first | (with_reducible first | exact HB.out | apply below_alloc | apply pw_below_drewN | apply below_drew1) | exact HB.out))) : w.heap.size ≤ gb143)); clear HO_3; clear HO_4; clear HB; have HO_3 := n0_; have HO_4 := n1_; have HB := n2_; have BK143 := n3_; have GW143 := n4_; have GE143 := n5_; clear n0_ n1_ n2_ n3_ n4_ n5_; clear hb hbox hg; have hcz36_0 : w35.cell? ⟨gb143, 0, none⟩ = some (.int .u32 0) := (blk_cell BK143.out 0).trans rfl; have hcz36_1 : w35.cell? ⟨gb143, 1, none⟩ = some (.int .i64 0) := (blk_cell BK143.out 1).trans rfl; have hcz36_2 : w35.cell? ⟨gb143, 2, none⟩ = some (.int .u32 0) := (blk_cell BK143.out 2).trans rfl; have hcz36_3 : w35.cell? ⟨gb143, 3, none⟩ = some (.int .u32 0) := (blk_cell BK143.out 3).trans rfl; have hcz36_4 : w35.cell? ⟨gb143, 4, none⟩ = some (.int .u16 0) := (blk_cell BK143.out 4).trans rfl; have hfz36_0 := blk_frozen BK143.out 0; have hfz36_1 := blk_frozen BK143.out 1; have hfz36_2 := blk_frozen BK143.out 2; have hfz36_3 := blk_frozen BK143.out 3; have hfz36_4 := blk_frozen BK143.out 4) | ((with_reducible refine gate_callee (f := 35) rfl ?_); refine goesL_ (some 18) rfl rfl Try.func35 (by kernel_rfl) rfl #[.agg #[.int .u32 ((rd_T62 l0 x13_1).f0.f0), .int .i64 ((rd_T62 l0 x13_1).f0.f1), .int .u32 ((rd_T62 l0 x13_1).f1), .int .u32 ((rd_T62 l0 x13_1).f2.f0), .int .u16 ((rd_T62 l0 x13_1).f2.f1)]] rfl (by (try simp only [List.map_toArray, List.map_cons, List.map_nil]); first | done | rfl | (simp only [List.length_drop, List.length_take]; rfl)) ?_; (with_reducible refine (tlv_Update_Right.calls ((rd_T62 l0 x13_1).f0.f0) ((rd_T62 l0 x13_1).f0.f1) ((rd_T62 l0 x13_1).f1) ((rd_T62 l0 x13_1).f2.f0) ((rd_T62 l0 x13_1).f2.f1) false _ A5.out).mono ?_); rintro e w37 ⟨rfl, hb⟩; refine ⟨_, rfl, ?_⟩; have n0_ := Aside0.mk (Kd.S_below (by (with_reducible repeat (first | apply Kd.S_alloc | apply Kd.S_drewN | apply Kd.S_drew)); exact (Kd.S_mono (Kd.S_far (p := ⟨gb143, 4, none⟩) (Kd.S_far (p := ⟨gb143, 3, none⟩) (Kd.S_far (p := ⟨gb143, 2, none⟩) (Kd.S_far (p := ⟨gb143, 1, none⟩) (Kd.S_far (p := ⟨gb143, 0, none⟩) (Kd.S_types HO_3.out BK143.out (by decide)) (fun _ hk => hk.2) (.int .u32 ((rd_T62 l0 x13_1).f0.f0))) (fun _ hk => hk.2) (.int .i64 ((rd_T62 l0 x13_1).f0.f1))) (fun _ hk => hk.2) (.int .u32 ((rd_T62 l0 x13_1).f1))) (fun _ hk => hk.2) (.int .u32 ((rd_T62 l0 x13_1).f2.f0))) (fun _ hk => hk.2) (.int .u16 ((rd_T62 l0 x13_1).f2.f1))) (fun _ h_ => h_.1))) hb); have n1_ := Aside0.mk (Kd.R_below (by (with_reducible repeat (first | apply Kd.R_alloc | apply Kd.R_drewN | apply Kd.R_drew)); exact (Kd.R_mono (Kd.R_far (p := ⟨gb143, 4, none⟩) (Kd.R_far (p := ⟨gb143, 3, none⟩) (Kd.R_far (p := ⟨gb143, 2, none⟩) (Kd.R_far (p := ⟨gb143, 1, none⟩) (Kd.R_far (p := ⟨gb143, 0, none⟩) (Kd.R_types HO_4.out BK143.out (by decide)) (fun _ hk => hk.2) (.int .u32 ((rd_T62 l0 x13_1).f0.f0))) (fun _ hk => hk.2) (.int .i64 ((rd_T62 l0 x13_1).f0.f1))) (fun _ hk => hk.2) (.int .u32 ((rd_T62 l0 x13_1).f1))) (fun _ hk => hk.2) (.int .u32 ((rd_T62 l0 x13_1).f2.f0))) (fun _ hk => hk.2) (.int .u16 ((rd_T62 l0 x13_1).f2.f1))) (fun _ h_ => h_.1))) hb); have n2_ := Aside0.mk (blk_below (g := gb143) (o := .cells #[.int .u32 ((rd_T62 l0 x13_1).f0.f0), .int .i64 ((rd_T62 l0 x13_1).f0.f1), .int .u32 ((rd_T62 l0 x13_1).f1), .int .u32 ((rd_T62 l0 x13_1).f2.f0), .int .u16 ((rd_T62 l0 x13_1).f2.f1)] 62 (0, 0)) (by (with_reducible repeat (first | refine blk_drewN ?_ _ | refine blk_drew ?_ | refine blk_alloc ?_ _)); refine blk_put (cs := #[.int .u32 ((rd_T62 l0 x13_1).f0.f0), .int .i64 ((rd_T62 l0 x13_1).f0.f1), .int .u32 ((rd_T62 l0 x13_1).f1), .int .u32 ((rd_T62 l0 x13_1).f2.f0), .int .u16 0]) ?_ 4 _ rfl; (with_reducible repeat (first | refine blk_drewN ?_ _ | refine blk_drew ?_ | refine blk_alloc ?_ _)); refine blk_put (cs := #[.int .u32 ((rd_T62 l0 x13_1).f0.f0), .int .i64 ((rd_T62 l0 x13_1).f0.f1), .int .u32 ((rd_T62 l0 x13_1).f1), .int .u32 0, .int .u16 0]) ?_ 3 _ rfl; (with_reducible repeat (first | refine blk_drewN ?_ _ | refine blk_drew ?_ | refine blk_alloc ?_ _)); refine blk_put (cs := #[.int .u32 ((rd_T62 l0 x13_1).f0.f0), .int .i64 ((rd_T62 l0 x13_1).f0.f1), .int .u32 0, .int .u32 0, .int .u16 0]) ?_ 2 _ rfl; (with_reducible repeat (first | refine blk_drewN ?_ _ | refine blk_drew ?_ | refine blk_alloc ?_ _)); refine blk_put (cs := #[.int .u32 ((rd_T62 l0 x13_1).f0.f0), .int .i64 0, .int .u32 0, .int .u32 0, .int .u16 0]) ?_ 1 _ rfl; (with_reducible repeat (first | refine blk_drewN ?_ _ | refine blk_drew ?_ | refine blk_alloc ?_ _)); refine blk_put (cs := #[.int .u32 0, .int .i64 0, .int .u32 0, .int .u32 0, .int .u16 0]) ?_ 0 _ rfl; (with_reducible repeat (first | refine blk_drewN ?_ _ | refine blk_drew ?_ | refine blk_alloc ?_ _)); exact BK143.out) hb); have n3_ := Aside0.mk (below_step (by repeat (first | (with_reducible first | exact HB.out | apply below_alloc | apply pw_below_drewN | apply below_drew1 | refine below_set ?_ GE143.out) | exact HB.out)) hb); clear HO_3; clear HO_4; clear BK143; clear HB; have HO_3 := n0_; have HO_4 := n1_; have BK143 := n2_; have HB := n3_; clear n0_ n1_ n2_ n3_; (try clear hb); (try clear hb2); (try clear hk); (try clear hi)))
        go_roundg k1
        case measure => have := HK1.out; omega
        case rel => exact ⟨(x3_1), (x4_1), (x5_1), (wrap64 (x13_1 + 1)), (by first | rfl | (simp; done) | (simp [*]; done)), (by first | rfl | (simp; done) | (simp [*]; done)), H', ⟨by have := HK1.out; omega⟩, ⟨by (with_reducible repeat (first | apply Kd.S_alloc | apply Kd.S_drewN | apply Kd.S_drew)); exact HO_3.out⟩, ⟨by (with_reducible repeat (first | apply Kd.R_alloc | apply Kd.R_drewN | apply Kd.R_drew)); exact HO_4.out⟩, HNIL, ⟨by repeat (first | (with_reducible first | exact HB.out | apply below_alloc | apply pw_below_drewN | apply below_drew1 | refine below_set ?_ GE143.out) | exact HB.out)⟩⟩
      subst c6
      have H1 : ((tlv_part.f k1 ([] : List Int) ((rd_T62 l0 x13_1).f0.f0) ((rd_T62 l0 x13_1).f0.f1) ((rd_T62 l0 x13_1).f1) ((rd_T62 l0 x13_1).f2.f0) ((rd_T62 l0 x13_1).f2.f1) x5_1).bind fun t145 => (if (wrap64 ((x4_1.length : Int) + (t145.length : Int))) > 1020 then (if x3_1.length < 5864062014805 then ((tlv_part.f k1 ([] : List Int) ((rd_T62 l0 x13_1).f0.f0) ((rd_T62 l0 x13_1).f0.f1) ((rd_T62 l0 x13_1).f1) ((rd_T62 l0 x13_1).f2.f0) ((rd_T62 l0 x13_1).f2.f1) 0).bind fun t151 => (if ([] : List Int).length + t151.length < 140737488355328 then (tlv_Encode.l0 k1 (x3_1 ++ [x4_1]) (([] : List Int) ++ t151) ((rd_T62 l0 x13_1).f1) l0 (l0.length : Int) (wrap64 (x13_1 + 1))) else (none))) else (none)) else (if x4_1.length + t145.length < 140737488355328 then (tlv_Encode.l0 k1 x3_1 (x4_1 ++ t145) ((rd_T62 l0 x13_1).f1) l0 (l0.length : Int) (wrap64 (x13_1 + 1))) else (none)))) = some r := by rw [if_pos rfl] at H; exact H
      clear H
      have H := H1
      clear H1
      replace H := Option.bind_eq_some_iff.mp H
      obtain ⟨t145, A70, H⟩ := H
      replace H : (if (wrap64 ((x4_1.length : Int) + (t145.length : Int))) > 1020 then (if x3_1.length < 5864062014805 then ((tlv_part.f k1 ([] : List Int) ((rd_T62 l0 x13_1).f0.f0) ((rd_T62 l0 x13_1).f0.f1) ((rd_T62 l0 x13_1).f1) ((rd_T62 l0 x13_1).f2.f0) ((rd_T62 l0 x13_1).f2.f1) 0).bind fun t151 => (if ([] : List Int).length + t151.length < 140737488355328 then (tlv_Encode.l0 k1 (x3_1 ++ [x4_1]) (([] : List Int) ++ t151) ((rd_T62 l0 x13_1).f1) l0 (l0.length : Int) (wrap64 (x13_1 + 1))) else (none))) else (none)) else (if x4_1.length + t145.length < 140737488355328 then (tlv_Encode.l0 k1 x3_1 (x4_1 ++ t145) ((rd_T62 l0 x13_1).f1) l0 (l0.length : Int) (wrap64 (x13_1 + 1))) else (none))) = some r := H
      have A7 := Aside0.mk A70
      have NE145 := Aside0.mk (tlv_part.ne _ _ _ _ _ _ _ _ _ A70)
      clear A70
      by_cases c8 : (wrap64 ((x4_1.length : Int) + (t145.length : Int))) > 1020
      case neg =>
        rw [if_neg c8] at H; have c8b0 : decide (1020 < (wrap64 ((x4_1.length : Int) + (t145.length : Int)))) = false := decide_eq_false c8
        clear c8
        by_cases c25 : x4_1.length + t145.length < 140737488355328
        case neg =>
          rw [if_neg c25] at H; exact absurd H (by simp)
        rw [if_pos c25] at H; have LMc25 := Aside0.mk c25
        clear c25
        obtain ⟨y157, hy157⟩ : ∃ y_ : List Int, y_ = (x4_1 ++ t145) := ⟨_, rfl⟩
        replace H : (tlv_Encode.l0 k1 x3_1 y157 ((rd_T62 l0 x13_1).f1) l0 (l0.length : Int) (wrap64 (x13_1 + 1))) = some r := by first | (rw [hy157]; with_reducible exact H) | (have H2_ := (Option.bind_some _ _).symm.trans H; rw [hy157]; with_reducible exact H2_) | (have H2_ := (Option.bind_some _ _).symm.trans H; with_reducible exact H2_) | with_reducible exact H | (rw [hy157]; exact H) | exact H
        have Ny157 := Aside0.mk hy157
        clear hy157
        have H' := Aside0.mk H
        clear H
        have p142 : 0 ≤ (x13_1 : Int) := of_decide_eq_true (by first | (with_reducible assumption) | assumption)
        have q142 : x13_1 < (l0.length : Int) := of_decide_eq_true (by first | (with_reducible assumption) | assumption)
        obtain ⟨ad142, e142, hx142_0, hx142_1, hx142_2, hx142_3, hx142_4⟩ := at_T62 HR0.out x13_1 p142 q142
        cases e142
        replace hx142_0 := (HB.out.cell (World.block_lt_of_cell? w _ hx142_0)).trans hx142_0
        replace hx142_1 := (HB.out.cell (World.block_lt_of_cell? w _ hx142_1)).trans hx142_1
        replace hx142_2 := (HB.out.cell (World.block_lt_of_cell? w _ hx142_2)).trans hx142_2
        replace hx142_3 := (HB.out.cell (World.block_lt_of_cell? w _ hx142_3)).trans hx142_3
        replace hx142_4 := (HB.out.cell (World.block_lt_of_cell? w _ hx142_4)).trans hx142_4
        replace p142 := eq_true p142
        replace q142 := eq_true q142
        try go_wp2_with (first | ((with_reducible refine gate_dst (N := 7) rfl ?_); refine box_event ?hg (N := 7) ?hd (cs := #[.int .u32 0, .int .i64 0, .int .u32 0, .int .u32 0, .int .u16 0]) (t := 62) ?hr ?_; (case hd => rfl); (case hg => rfl); (case hr => first | (go_simp; done) | (go_simp; rfl)); intro gb143 hg w26 hbox hb; have n0_ := Aside0.mk (Kd.S_below (by (with_reducible repeat (first | apply Kd.S_alloc | apply Kd.S_drewN | apply Kd.S_drew)); exact HO_3.out) hb); have n1_ := Aside0.mk (Kd.R_below (by (with_reducible repeat (first | apply Kd.R_alloc | apply Kd.R_drewN | apply Kd.R_drew)); exact HO_4.out) hb); have n2_ := Aside0.mk (below_step (by repeat (first | (with_reducible first | exact HB.out | apply below_alloc | apply pw_below_drewN | apply below_drew1) | exact HB.out)) hb); have n3_ := Aside0.mk (hbox); have n4_ := Aside0.mk ((by rw [hg]; exact (below_size (by repeat (first | (with_reducible first | exact HB.out | apply below_alloc | apply pw_below_drewN | apply below_drew1) | exact HB.out))) : w.heap.size ≤ gb143)); have n5_ := Aside0.mk ((by rw [hg]; exact (below_size (by repeat (first | (with_reducible first | exact HB.out | apply below_alloc | apply pw_below_drewN | apply below_drew1) | exact HB.out))) : w.heap.size ≤ gb143)); clear HO_3; clear HO_4; clear HB; have HO_3 := n0_; have HO_4 := n1_; have HB := n2_; have BK143 := n3_; have GW143 := n4_; have GE143 := n5_; clear n0_ n1_ n2_ n3_ n4_ n5_; clear hb hbox hg; have hcz27_0 : w26.cell? ⟨gb143, 0, none⟩ = some (.int .u32 0) := (blk_cell BK143.out 0).trans rfl; have hcz27_1 : w26.cell? ⟨gb143, 1, none⟩ = some (.int .i64 0) := (blk_cell BK143.out 1).trans rfl; have hcz27_2 : w26.cell? ⟨gb143, 2, none⟩ = some (.int .u32 0) := (blk_cell BK143.out 2).trans rfl; have hcz27_3 : w26.cell? ⟨gb143, 3, none⟩ = some (.int .u32 0) := (blk_cell BK143.out 3).trans rfl; have hcz27_4 : w26.cell? ⟨gb143, 4, none⟩ = some (.int .u16 0) := (blk_cell BK143.out 4).trans rfl; have hfz27_0 := blk_frozen BK143.out 0; have hfz27_1 := blk_frozen BK143.out 1; have hfz27_2 := blk_frozen BK143.out 2; have hfz27_3 := blk_frozen BK143.out 3; have hfz27_4 := blk_frozen BK143.out 4) | ((with_reducible refine gate_callee (f := 35) rfl ?_); refine goesL_ (some 18) rfl rfl Try.func35 (by kernel_rfl) rfl #[.agg #[.int .u32 ((rd_T62 l0 x13_1).f0.f0), .int .i64 ((rd_T62 l0 x13_1).f0.f1), .int .u32 ((rd_T62 l0 x13_1).f1), .int .u32 ((rd_T62 l0 x13_1).f2.f0), .int .u16 ((rd_T62 l0 x13_1).f2.f1)]] rfl (by (try simp only [List.map_toArray, List.map_cons, List.map_nil]); first | done | rfl | (simp only [List.length_drop, List.length_take]; rfl)) ?_; (with_reducible refine (tlv_Update_Right.calls ((rd_T62 l0 x13_1).f0.f0) ((rd_T62 l0 x13_1).f0.f1) ((rd_T62 l0 x13_1).f1) ((rd_T62 l0 x13_1).f2.f0) ((rd_T62 l0 x13_1).f2.f1) true _ A5.out).mono ?_); rintro e w28 ⟨rfl, hb⟩; refine ⟨_, rfl, ?_⟩; have n0_ := Aside0.mk (Kd.S_below (by (with_reducible repeat (first | apply Kd.S_alloc | apply Kd.S_drewN | apply Kd.S_drew)); exact (Kd.S_mono (Kd.S_far (p := ⟨gb143, 4, none⟩) (Kd.S_far (p := ⟨gb143, 3, none⟩) (Kd.S_far (p := ⟨gb143, 2, none⟩) (Kd.S_far (p := ⟨gb143, 1, none⟩) (Kd.S_far (p := ⟨gb143, 0, none⟩) (Kd.S_types HO_3.out BK143.out (by decide)) (fun _ hk => hk.2) (.int .u32 ((rd_T62 l0 x13_1).f0.f0))) (fun _ hk => hk.2) (.int .i64 ((rd_T62 l0 x13_1).f0.f1))) (fun _ hk => hk.2) (.int .u32 ((rd_T62 l0 x13_1).f1))) (fun _ hk => hk.2) (.int .u32 ((rd_T62 l0 x13_1).f2.f0))) (fun _ hk => hk.2) (.int .u16 ((rd_T62 l0 x13_1).f2.f1))) (fun _ h_ => h_.1))) hb); have n1_ := Aside0.mk (Kd.R_below (by (with_reducible repeat (first | apply Kd.R_alloc | apply Kd.R_drewN | apply Kd.R_drew)); exact (Kd.R_mono (Kd.R_far (p := ⟨gb143, 4, none⟩) (Kd.R_far (p := ⟨gb143, 3, none⟩) (Kd.R_far (p := ⟨gb143, 2, none⟩) (Kd.R_far (p := ⟨gb143, 1, none⟩) (Kd.R_far (p := ⟨gb143, 0, none⟩) (Kd.R_types HO_4.out BK143.out (by decide)) (fun _ hk => hk.2) (.int .u32 ((rd_T62 l0 x13_1).f0.f0))) (fun _ hk => hk.2) (.int .i64 ((rd_T62 l0 x13_1).f0.f1))) (fun _ hk => hk.2) (.int .u32 ((rd_T62 l0 x13_1).f1))) (fun _ hk => hk.2) (.int .u32 ((rd_T62 l0 x13_1).f2.f0))) (fun _ hk => hk.2) (.int .u16 ((rd_T62 l0 x13_1).f2.f1))) (fun _ h_ => h_.1))) hb); have n2_ := Aside0.mk (blk_below (g := gb143) (o := .cells #[.int .u32 ((rd_T62 l0 x13_1).f0.f0), .int .i64 ((rd_T62 l0 x13_1).f0.f1), .int .u32 ((rd_T62 l0 x13_1).f1), .int .u32 ((rd_T62 l0 x13_1).f2.f0), .int .u16 ((rd_T62 l0 x13_1).f2.f1)] 62 (0, 0)) (by (with_reducible repeat (first | refine blk_drewN ?_ _ | refine blk_drew ?_ | refine blk_alloc ?_ _)); refine blk_put (cs := #[.int .u32 ((rd_T62 l0 x13_1).f0.f0), .int .i64 ((rd_T62 l0 x13_1).f0.f1), .int .u32 ((rd_T62 l0 x13_1).f1), .int .u32 ((rd_T62 l0 x13_1).f2.f0), .int .u16 0]) ?_ 4 _ rfl; (with_reducible repeat (first | refine blk_drewN ?_ _ | refine blk_drew ?_ | refine blk_alloc ?_ _)); refine blk_put (cs := #[.int .u32 ((rd_T62 l0 x13_1).f0.f0), .int .i64 ((rd_T62 l0 x13_1).f0.f1), .int .u32 ((rd_T62 l0 x13_1).f1), .int .u32 0, .int .u16 0]) ?_ 3 _ rfl; (with_reducible repeat (first | refine blk_drewN ?_ _ | refine blk_drew ?_ | refine blk_alloc ?_ _)); refine blk_put (cs := #[.int .u32 ((rd_T62 l0 x13_1).f0.f0), .int .i64 ((rd_T62 l0 x13_1).f0.f1), .int .u32 0, .int .u32 0, .int .u16 0]) ?_ 2 _ rfl; (with_reducible repeat (first | refine blk_drewN ?_ _ | refine blk_drew ?_ | refine blk_alloc ?_ _)); refine blk_put (cs := #[.int .u32 ((rd_T62 l0 x13_1).f0.f0), .int .i64 0, .int .u32 0, .int .u32 0, .int .u16 0]) ?_ 1 _ rfl; (with_reducible repeat (first | refine blk_drewN ?_ _ | refine blk_drew ?_ | refine blk_alloc ?_ _)); refine blk_put (cs := #[.int .u32 0, .int .i64 0, .int .u32 0, .int .u32 0, .int .u16 0]) ?_ 0 _ rfl; (with_reducible repeat (first | refine blk_drewN ?_ _ | refine blk_drew ?_ | refine blk_alloc ?_ _)); exact BK143.out) hb); have n3_ := Aside0.mk (below_step (by repeat (first | (with_reducible first | exact HB.out | apply below_alloc | apply pw_below_drewN | apply below_drew1 | refine below_set ?_ GE143.out) | exact HB.out)) hb); clear HO_3; clear HO_4; clear BK143; clear HB; have HO_3 := n0_; have HO_4 := n1_; have BK143 := n2_; have HB := n3_; clear n0_ n1_ n2_ n3_; (try clear hb); (try clear hb2); (try clear hk); (try clear hi); have hcz29_0 : w28.cell? ⟨gb143, 0, none⟩ = some (.int .u32 ((rd_T62 l0 x13_1).f0.f0)) := (blk_cell BK143.out 0).trans rfl; have hcz29_1 : w28.cell? ⟨gb143, 1, none⟩ = some (.int .i64 ((rd_T62 l0 x13_1).f0.f1)) := (blk_cell BK143.out 1).trans rfl; have hcz29_2 : w28.cell? ⟨gb143, 2, none⟩ = some (.int .u32 ((rd_T62 l0 x13_1).f1)) := (blk_cell BK143.out 2).trans rfl; have hcz29_3 : w28.cell? ⟨gb143, 3, none⟩ = some (.int .u32 ((rd_T62 l0 x13_1).f2.f0)) := (blk_cell BK143.out 3).trans rfl; have hcz29_4 : w28.cell? ⟨gb143, 4, none⟩ = some (.int .u16 ((rd_T62 l0 x13_1).f2.f1)) := (blk_cell BK143.out 4).trans rfl; have hfz29_0 := blk_frozen BK143.out 0; have hfz29_1 := blk_frozen BK143.out 1; have hfz29_2 := blk_frozen BK143.out 2; have hfz29_3 := blk_frozen BK143.out 3; have hfz29_4 := blk_frozen BK143.out 4) | ((with_reducible refine gate_callee (f := 53) rfl ?_); refine goesL_ (some 22) rfl rfl Try.func53 (by kernel_rfl) rfl #[.slice none 0 0, .agg #[.int .u32 ((rd_T62 l0 x13_1).f0.f0), .int .i64 ((rd_T62 l0 x13_1).f0.f1), .int .u32 ((rd_T62 l0 x13_1).f1), .int .u32 ((rd_T62 l0 x13_1).f2.f0), .int .u16 ((rd_T62 l0 x13_1).f2.f1)], .int .u32 x5_1] rfl (by (try simp only [List.map_toArray, List.map_cons, List.map_nil]); first | done | rfl | (simp only [List.length_drop, List.length_take]; rfl)) ?_; (refine (tlv_part.calls k1 (fun k_ => some k_ = (.slice none 0 0 : Value).ownBlock) (.slice none 0 0) ([] : List Int) ((rd_T62 l0 x13_1).f0.f0) ((rd_T62 l0 x13_1).f0.f1) ((rd_T62 l0 x13_1).f1) ((rd_T62 l0 x13_1).f2.f0) ((rd_T62 l0 x13_1).f2.f1) x5_1 t145 w _ ?side1 ?side2 A7.out).mono ?_); (case side1 => repeat (first | (with_reducible first | exact HB.out | apply below_alloc | apply pw_below_drewN | apply below_drew1 | refine below_set ?_ GE143.out) | exact HB.out)); (case side2 => exact Kd.R_nil _ _ _ _ _); rintro e w30 ⟨v146, rfl, ho0, hb, hkp⟩; refine ⟨_, rfl, ?_⟩; have n0_ := Aside0.mk (Kd.S_mono (ok' := fun k_ => some k_ ≠ (u4 : Value).ownBlock ∧ some k_ ≠ (v146 : Value).ownBlock) (Kd.S_keptB (HO_3.out) hkp (fun k_ hk_ hs_ => (fun e_ => by simp [Value.ownBlock] at e_) hs_)) (fun k_ hk_ => ⟨hk_.1, fun e_ => Or.elim (ho0.1 k_ e_.symm) (fun hs_ => hk_.2.1 hs_) (fun hn_ => Nat.not_le.2 hk_.2.2 hn_)⟩)); have n1_ := Aside0.mk (Kd.R_mono (ok' := fun k_ => some k_ ≠ (v146 : Value).ownBlock) (Kd.R_keptB (HO_4.out) hkp (fun k_ hk_ hs_ => (fun e_ => by simp [Value.ownBlock] at e_) hs_)) (fun k_ hk_ => fun e_ => Or.elim (ho0.1 k_ e_.symm) (fun hs_ => hk_.2.1 hs_) (fun hn_ => Nat.not_le.2 hk_.2.2 hn_))); have n2_ := Aside0.mk (blk_kept (by (with_reducible repeat (first | refine blk_drewN ?_ _ | refine blk_drew ?_ | refine blk_alloc ?_ _)); exact BK143.out) hkp (fun hs_ => (fun e_ => by simp [Value.ownBlock] at e_) hs_)); have n3_ := Aside0.mk (Kd.R_mono (ok' := fun k_ => some k_ ≠ (u4 : Value).ownBlock) ho0 (fun k_ hk_ => Or.elim hk_ (fun hs_ => absurd hs_ (by simp [Value.ownBlock])) (fun hn_ => (Kd.fresh' (Kd.R_lt (by (with_reducible repeat (first | apply Kd.R_alloc | apply Kd.R_drewN | apply Kd.R_drew)); exact HO_4.out)) k_ hn_)))); have n4_ := Aside0.mk (hb); clear HO_3; clear HO_4; clear BK143; clear HB; have HO_3 := n0_; have HO_4 := n1_; have BK143 := n2_; have HO147 := n3_; have HB := n4_; clear n0_ n1_ n2_ n3_ n4_; (try clear hb); (try clear hkp); (try clear ho0); obtain ⟨Ao31, co31, eo31⟩ := Kd.R_slice HO_4.out; subst eo31; obtain ⟨Ao32, co32, eo32⟩ := Kd.R_slice HO147.out; subst eo32))
        have n0_ := Aside0.mk (Kd.S_drew HO_3.out)
        have n1_ := Aside0.mk (Kd.R_drew HO_4.out)
        have n2_ := Aside0.mk (Kd.R_drew HO147.out)
        have n3_ := Aside0.mk (blk_drew BK143.out)
        have n4_ := Aside0.mk (below_drew1 HB.out)
        clear HO_3
        clear HO_4
        clear HO147
        clear BK143
        clear HB
        have HO_3 := n0_
        have HO_4 := n1_
        have HO147 := n2_
        have BK143 := n3_
        have HB := n4_
        clear n0_ n1_ n2_ n3_ n4_
        refine start_ (n := 7) (S := fun w' => w'.cell? ⟨gb143, 0, none⟩ = some (.int .u32 ((rd_T62 l0 x13_1).f0.f0)) ∧ w'.cell? ⟨gb143, 1, none⟩ = some (.int .i64 ((rd_T62 l0 x13_1).f0.f1)) ∧ w'.cell? ⟨gb143, 2, none⟩ = some (.int .u32 ((rd_T62 l0 x13_1).f1)) ∧ w'.cell? ⟨gb143, 3, none⟩ = some (.int .u32 ((rd_T62 l0 x13_1).f2.f0)) ∧ w'.cell? ⟨gb143, 4, none⟩ = some (.int .u16 ((rd_T62 l0 x13_1).f2.f1))) (ds := []) #[false, false, false, false, false, false, false] (by kernel_rfl) rfl rfl ⟨(blk_cell BK143.out 0).trans rfl, (blk_cell BK143.out 1).trans rfl, (blk_cell BK143.out 2).trans rfl, (blk_cell BK143.out 3).trans rfl, (blk_cell BK143.out 4).trans rfl⟩ (fun hHeld => ?_)
        generalize w30.drew = w33 at HO_3 HO_4 HO147 BK143 HB hHeld ⊢
        refine pure_ (i := 0) (N := some 35) (v := ?_) (a' := ?_) #[true, false, false, false, false, false, false] rfl rfl (by kernel_rfl) (fun _ _ _ h => h) (Or.inl ⟨by rfl, ?_⟩) ?_ ?_; rotate_left
        · intro w'; go_simp; with_reducible rfl
        rotate_left; · simp only [Act.put, List.setIfInBounds_toArray, List.set_cons_zero, List.set_cons_succ, i64_w, i32_w]; rfl
        refine pure_ (i := 1) (N := some 36) (v := ?_) (a' := ?_) #[true, true, false, false, false, false, false] rfl rfl (by kernel_rfl) (fun _ _ _ h => h) (Or.inl ⟨by rfl, ?_⟩) ?_ ?_; rotate_left
        · intro w'; go_simp; with_reducible rfl
        rotate_left; · simp only [Act.put, List.setIfInBounds_toArray, List.set_cons_zero, List.set_cons_succ, i64_w, i32_w]; rfl
        refine pure_ (i := 3) (N := some 38) (v := ?_) (a' := ?_) #[true, true, false, true, false, false, false] rfl rfl (by kernel_rfl) (fun _ _ _ h => h) (Or.inl ⟨by rfl, ?_⟩) ?_ ?_; rotate_left
        · intro w'; go_simp; with_reducible rfl
        rotate_left; · simp only [Act.put, List.setIfInBounds_toArray, List.set_cons_zero, List.set_cons_succ, i64_w, i32_w]; rfl
        refine take_ (i := 4) (N := some 39) (v := ?_) (a' := ?_) #[true, true, false, true, true, false, false] rfl rfl (by kernel_rfl) (fun _ _ _ h => h) (Or.inl ⟨by rfl, ?_⟩) hHeld ?_ ?_; rotate_left
        · rintro w' ⟨s0, s1, s2, s3, s4⟩
          go_simp
          with_reducible rfl
        rotate_left
        · simp only [Act.put, List.setIfInBounds_toArray, List.set_cons_zero, List.set_cons_succ, i64_w, i32_w]; rfl
        refine one_ (i := 2) (N := some 37) #[true, true, true, true, true, false, false] rfl rfl (by kernel_rfl) (by decide) (fun K hK => ?_)
        refine Kd.R_append_rows_step (Kd.int .u8) (w0 := w) w.heap.size (by rfl) (.tmp 35) (.tmp 36) 22 5 (.int .u8 0) 1 rfl Try.underlying22 info5 rfl (by decide) (by omega) (.slice Ao31 x4_1.length co31) x4_1 t145 _ _ _ (fun k_ => some k_ ≠ (.slice Ao32 t145.length co32 : Value).ownBlock) (fun _ => False) rfl rfl ?aO ?aR (fun _ _ h => h) (fun _ h => h.elim) ?aF ?aB ?aS ?aL ?_
        (case aR => repeat (first | exact (Kd.R_reads' HO147.out).2.2 | (with_reducible refine Kd.C_alloc ?_ _) | (with_reducible refine Kd.C_drewN ?_ _) | (with_reducible refine Kd.C_drew ?_)))
        (case aB => exact (by repeat (first | (with_reducible first | exact HB.out | apply below_alloc | apply pw_below_drewN | apply below_drew1 | refine below_set ?_ GE143.out) | exact HB.out)))
        (case aF => exact (fun k_ hk => Kd.fresh' (Kd.R_lt (by (with_reducible repeat (first | apply Kd.R_alloc | apply Kd.R_drewN | apply Kd.R_drew)); exact HO147.out)) k_ hk))
        (case aO => exact (by (with_reducible repeat (first | apply Kd.R_alloc | apply Kd.R_drewN | apply Kd.R_drew)); exact HO_4.out))
        (case aS => exact (below_size (by repeat (first | (with_reducible first | exact HB.out | apply below_alloc | apply pw_below_drewN | apply below_drew1 | refine below_set ?_ GE143.out) | exact HB.out))))
        (case aL => have := LMc25.out; omega)
        intro v158 w34 ho hb hg hat
        rw [← Ny157.out] at ho
        have n0_ := Aside0.mk (Kd.S_after (ok := (fun k_ => some k_ ≠ (.slice Ao32 t145.length co32 : Value).ownBlock)) (by (with_reducible repeat (first | apply Kd.S_alloc | apply Kd.S_drewN | apply Kd.S_drew)); exact Kd.S_mono HO_3.out (fun _ hk => ⟨hk.2, hk.1⟩)) hg hat)
        have n1_ := Aside0.mk (blk_grown (g := gb143) (o := .cells #[.int .u32 ((rd_T62 l0 x13_1).f0.f0), .int .i64 ((rd_T62 l0 x13_1).f0.f1), .int .u32 ((rd_T62 l0 x13_1).f1), .int .u32 ((rd_T62 l0 x13_1).f2.f0), .int .u16 ((rd_T62 l0 x13_1).f2.f1)] 62 (0, 0)) (by (with_reducible repeat (first | refine blk_drewN ?_ _ | refine blk_drew ?_ | refine blk_alloc ?_ _)); exact BK143.out) hg (Kd.R_ne HO_4.out BK143.out (by decide)))
        have n2_ := Aside0.mk (Kd.R_after (ok := (fun _ => True)) (by (with_reducible repeat (first | apply Kd.R_alloc | apply Kd.R_drewN | apply Kd.R_drew)); exact Kd.R_mono HO147.out (fun _ hk => ⟨trivial, hk⟩)) hg hat)
        have n3_ := Aside0.mk (hb)
        have n4_ := Aside0.mk (ho)
        clear HO_3
        clear BK143
        clear HO147
        clear HB
        clear HO_4
        have HO_3 := n0_
        have BK143 := n1_
        have HO147 := n2_
        have HB := n3_
        have HO159 := n4_
        clear n0_ n1_ n2_ n3_ n4_
        clear ho hb hg hat
        refine hK.out _ _ ⟨(blk_cell BK143.out 0).trans rfl, (blk_cell BK143.out 1).trans rfl, (blk_cell BK143.out 2).trans rfl, (blk_cell BK143.out 3).trans rfl, (blk_cell BK143.out 4).trans rfl⟩ (fun hHeld => ?_)
        clear hK K
        refine norm_ (a' := ?_) ?_ ?_
        rotate_left
        · show Act.put _ (some 37) _ = _
          simp only [Act.put, List.setIfInBounds_toArray, List.set_cons_zero, List.set_cons_succ, i64_w, i32_w]
          rfl
        refine pure_ (i := 5) (N := some 4) (v := ?_) (a' := ?_) #[true, true, true, true, true, true, false] rfl rfl (by kernel_rfl) (fun _ _ _ h => h) (Or.inl ⟨by rfl, ?_⟩) ?_ ?_; rotate_left
        · intro w'; go_simp; with_reducible rfl
        rotate_left; · simp only [Act.put, List.setIfInBounds_toArray, List.set_cons_zero, List.set_cons_succ, i64_w, i32_w]; rfl
        refine pure_ (i := 6) (N := some 5) (v := ?_) (a' := ?_) #[true, true, true, true, true, true, true] rfl rfl (by kernel_rfl) (fun _ _ _ h => h) (Or.inl ⟨by rfl, ?_⟩) ?_ ?_; rotate_left
        · intro w'; go_simp; with_reducible rfl
        rotate_left; · simp only [Act.put, List.setIfInBounds_toArray, List.set_cons_zero, List.set_cons_succ, i64_w, i32_w]; rfl
        refine done_ (by kernel_rfl) ?_
        try go_wp2
        go_roundg k1
        case measure => have := HK1.out; omega
        case rel => exact ⟨(x3_1), (y157), ((rd_T62 l0 x13_1).f1), (wrap64 (x13_1 + 1)), (by first | rfl | (simp; done) | (simp [*]; done)), (by first | rfl | (simp; done) | (simp [*]; done)), H', ⟨by have := HK1.out; omega⟩, ⟨by (with_reducible repeat (first | apply Kd.S_alloc | apply Kd.S_drewN | apply Kd.S_drew)); exact Kd.S_mono HO_3.out (fun _ hk => hk.2)⟩, ⟨by (with_reducible repeat (first | apply Kd.R_alloc | apply Kd.R_drewN | apply Kd.R_drew)); exact Kd.R_mono HO159.out (fun _ hk => trivial)⟩, ⟨fun h_ => absurd h_ (tlv_Encode.ne_y Ny157.out NE145.out)⟩, ⟨by repeat (first | (with_reducible first | exact HB.out | apply below_alloc | apply pw_below_drewN | apply below_drew1 | refine below_set ?_ GE143.out) | exact HB.out)⟩⟩
      rw [if_pos c8] at H; have c8b0 : decide (1020 < (wrap64 ((x4_1.length : Int) + (t145.length : Int)))) = true := decide_eq_true c8
      clear c8
      by_cases c9 : x3_1.length < 5864062014805
      case neg =>
        rw [if_neg c9] at H; exact absurd H (by simp)
      rw [if_pos c9] at H; have LMc9 := Aside0.mk c9
      clear c9
      obtain ⟨y148, hy148⟩ : ∃ y_ : List (List Int), y_ = (x3_1 ++ [x4_1]) := ⟨_, rfl⟩
      replace H : ((tlv_part.f k1 ([] : List Int) ((rd_T62 l0 x13_1).f0.f0) ((rd_T62 l0 x13_1).f0.f1) ((rd_T62 l0 x13_1).f1) ((rd_T62 l0 x13_1).f2.f0) ((rd_T62 l0 x13_1).f2.f1) 0).bind fun t151 => (if ([] : List Int).length + t151.length < 140737488355328 then (tlv_Encode.l0 k1 y148 (([] : List Int) ++ t151) ((rd_T62 l0 x13_1).f1) l0 (l0.length : Int) (wrap64 (x13_1 + 1))) else (none))) = some r := by first | (rw [hy148]; with_reducible exact H) | (have H2_ := (Option.bind_some _ _).symm.trans H; rw [hy148]; with_reducible exact H2_) | (have H2_ := (Option.bind_some _ _).symm.trans H; with_reducible exact H2_) | with_reducible exact H | (rw [hy148]; exact H) | exact H
      have Ny148 := Aside0.mk hy148
      clear hy148
      replace H := Option.bind_eq_some_iff.mp H
      obtain ⟨t151, A100, H⟩ := H
      have NE151 := Aside0.mk (tlv_part.ne _ _ _ _ _ _ _ _ _ A100)
      replace H : (if ([] : List Int).length + t151.length < 140737488355328 then (tlv_Encode.l0 k1 y148 (([] : List Int) ++ t151) ((rd_T62 l0 x13_1).f1) l0 (l0.length : Int) (wrap64 (x13_1 + 1))) else (none)) = some r := H
      have A10 := Aside0.mk A100
      clear A100
      by_cases c11 : ([] : List Int).length + t151.length < 140737488355328
      case neg =>
        rw [if_neg c11] at H; exact absurd H (by simp)
      rw [if_pos c11] at H; have LMc11 := Aside0.mk c11
      clear c11
      obtain ⟨y154, hy154⟩ : ∃ y_ : List Int, y_ = (([] : List Int) ++ t151) := ⟨_, rfl⟩
      replace H : (tlv_Encode.l0 k1 y148 y154 ((rd_T62 l0 x13_1).f1) l0 (l0.length : Int) (wrap64 (x13_1 + 1))) = some r := by first | (rw [hy154]; with_reducible exact H) | (have H2_ := (Option.bind_some _ _).symm.trans H; rw [hy154]; with_reducible exact H2_) | (have H2_ := (Option.bind_some _ _).symm.trans H; with_reducible exact H2_) | with_reducible exact H | (rw [hy154]; exact H) | exact H
      have Ny154 := Aside0.mk hy154
      clear hy154
      have H' := Aside0.mk H
      clear H
      have p142 : 0 ≤ (x13_1 : Int) := of_decide_eq_true (by first | (with_reducible assumption) | assumption)
      have q142 : x13_1 < (l0.length : Int) := of_decide_eq_true (by first | (with_reducible assumption) | assumption)
      obtain ⟨ad142, e142, hx142_0, hx142_1, hx142_2, hx142_3, hx142_4⟩ := at_T62 HR0.out x13_1 p142 q142
      cases e142
      replace hx142_0 := (HB.out.cell (World.block_lt_of_cell? w _ hx142_0)).trans hx142_0
      replace hx142_1 := (HB.out.cell (World.block_lt_of_cell? w _ hx142_1)).trans hx142_1
      replace hx142_2 := (HB.out.cell (World.block_lt_of_cell? w _ hx142_2)).trans hx142_2
      replace hx142_3 := (HB.out.cell (World.block_lt_of_cell? w _ hx142_3)).trans hx142_3
      replace hx142_4 := (HB.out.cell (World.block_lt_of_cell? w _ hx142_4)).trans hx142_4
      replace p142 := eq_true p142
      replace q142 := eq_true q142
      try go_wp2_with (first | ((with_reducible refine gate_dst (N := 7) rfl ?_); refine box_event ?hg (N := 7) ?hd (cs := #[.int .u32 0, .int .i64 0, .int .u32 0, .int .u32 0, .int .u16 0]) (t := 62) ?hr ?_; (case hd => rfl); (case hg => rfl); (case hr => first | (go_simp; done) | (go_simp; rfl)); intro gb143 hg w12 hbox hb; have n0_ := Aside0.mk (Kd.S_below (by (with_reducible repeat (first | apply Kd.S_alloc | apply Kd.S_drewN | apply Kd.S_drew)); exact HO_3.out) hb); have n1_ := Aside0.mk (Kd.R_below (by (with_reducible repeat (first | apply Kd.R_alloc | apply Kd.R_drewN | apply Kd.R_drew)); exact HO_4.out) hb); have n2_ := Aside0.mk (below_step (by repeat (first | (with_reducible first | exact HB.out | apply below_alloc | apply pw_below_drewN | apply below_drew1) | exact HB.out)) hb); have n3_ := Aside0.mk (hbox); have n4_ := Aside0.mk ((by rw [hg]; exact (below_size (by repeat (first | (with_reducible first | exact HB.out | apply below_alloc | apply pw_below_drewN | apply below_drew1) | exact HB.out))) : w.heap.size ≤ gb143)); have n5_ := Aside0.mk ((by rw [hg]; exact (below_size (by repeat (first | (with_reducible first | exact HB.out | apply below_alloc | apply pw_below_drewN | apply below_drew1) | exact HB.out))) : w.heap.size ≤ gb143)); clear HO_3; clear HO_4; clear HB; have HO_3 := n0_; have HO_4 := n1_; have HB := n2_; have BK143 := n3_; have GW143 := n4_; have GE143 := n5_; clear n0_ n1_ n2_ n3_ n4_ n5_; clear hb hbox hg; have hcz13_0 : w12.cell? ⟨gb143, 0, none⟩ = some (.int .u32 0) := (blk_cell BK143.out 0).trans rfl; have hcz13_1 : w12.cell? ⟨gb143, 1, none⟩ = some (.int .i64 0) := (blk_cell BK143.out 1).trans rfl; have hcz13_2 : w12.cell? ⟨gb143, 2, none⟩ = some (.int .u32 0) := (blk_cell BK143.out 2).trans rfl; have hcz13_3 : w12.cell? ⟨gb143, 3, none⟩ = some (.int .u32 0) := (blk_cell BK143.out 3).trans rfl; have hcz13_4 : w12.cell? ⟨gb143, 4, none⟩ = some (.int .u16 0) := (blk_cell BK143.out 4).trans rfl; have hfz13_0 := blk_frozen BK143.out 0; have hfz13_1 := blk_frozen BK143.out 1; have hfz13_2 := blk_frozen BK143.out 2; have hfz13_3 := blk_frozen BK143.out 3; have hfz13_4 := blk_frozen BK143.out 4) | ((with_reducible refine gate_callee (f := 35) rfl ?_); refine goesL_ (some 18) rfl rfl Try.func35 (by kernel_rfl) rfl #[.agg #[.int .u32 ((rd_T62 l0 x13_1).f0.f0), .int .i64 ((rd_T62 l0 x13_1).f0.f1), .int .u32 ((rd_T62 l0 x13_1).f1), .int .u32 ((rd_T62 l0 x13_1).f2.f0), .int .u16 ((rd_T62 l0 x13_1).f2.f1)]] rfl (by (try simp only [List.map_toArray, List.map_cons, List.map_nil]); first | done | rfl | (simp only [List.length_drop, List.length_take]; rfl)) ?_; (with_reducible refine (tlv_Update_Right.calls ((rd_T62 l0 x13_1).f0.f0) ((rd_T62 l0 x13_1).f0.f1) ((rd_T62 l0 x13_1).f1) ((rd_T62 l0 x13_1).f2.f0) ((rd_T62 l0 x13_1).f2.f1) true _ A5.out).mono ?_); rintro e w14 ⟨rfl, hb⟩; refine ⟨_, rfl, ?_⟩; have n0_ := Aside0.mk (Kd.S_below (by (with_reducible repeat (first | apply Kd.S_alloc | apply Kd.S_drewN | apply Kd.S_drew)); exact (Kd.S_mono (Kd.S_far (p := ⟨gb143, 4, none⟩) (Kd.S_far (p := ⟨gb143, 3, none⟩) (Kd.S_far (p := ⟨gb143, 2, none⟩) (Kd.S_far (p := ⟨gb143, 1, none⟩) (Kd.S_far (p := ⟨gb143, 0, none⟩) (Kd.S_types HO_3.out BK143.out (by decide)) (fun _ hk => hk.2) (.int .u32 ((rd_T62 l0 x13_1).f0.f0))) (fun _ hk => hk.2) (.int .i64 ((rd_T62 l0 x13_1).f0.f1))) (fun _ hk => hk.2) (.int .u32 ((rd_T62 l0 x13_1).f1))) (fun _ hk => hk.2) (.int .u32 ((rd_T62 l0 x13_1).f2.f0))) (fun _ hk => hk.2) (.int .u16 ((rd_T62 l0 x13_1).f2.f1))) (fun _ h_ => h_.1))) hb); have n1_ := Aside0.mk (Kd.R_below (by (with_reducible repeat (first | apply Kd.R_alloc | apply Kd.R_drewN | apply Kd.R_drew)); exact (Kd.R_mono (Kd.R_far (p := ⟨gb143, 4, none⟩) (Kd.R_far (p := ⟨gb143, 3, none⟩) (Kd.R_far (p := ⟨gb143, 2, none⟩) (Kd.R_far (p := ⟨gb143, 1, none⟩) (Kd.R_far (p := ⟨gb143, 0, none⟩) (Kd.R_types HO_4.out BK143.out (by decide)) (fun _ hk => hk.2) (.int .u32 ((rd_T62 l0 x13_1).f0.f0))) (fun _ hk => hk.2) (.int .i64 ((rd_T62 l0 x13_1).f0.f1))) (fun _ hk => hk.2) (.int .u32 ((rd_T62 l0 x13_1).f1))) (fun _ hk => hk.2) (.int .u32 ((rd_T62 l0 x13_1).f2.f0))) (fun _ hk => hk.2) (.int .u16 ((rd_T62 l0 x13_1).f2.f1))) (fun _ h_ => h_.1))) hb); have n2_ := Aside0.mk (blk_below (g := gb143) (o := .cells #[.int .u32 ((rd_T62 l0 x13_1).f0.f0), .int .i64 ((rd_T62 l0 x13_1).f0.f1), .int .u32 ((rd_T62 l0 x13_1).f1), .int .u32 ((rd_T62 l0 x13_1).f2.f0), .int .u16 ((rd_T62 l0 x13_1).f2.f1)] 62 (0, 0)) (by (with_reducible repeat (first | refine blk_drewN ?_ _ | refine blk_drew ?_ | refine blk_alloc ?_ _)); refine blk_put (cs := #[.int .u32 ((rd_T62 l0 x13_1).f0.f0), .int .i64 ((rd_T62 l0 x13_1).f0.f1), .int .u32 ((rd_T62 l0 x13_1).f1), .int .u32 ((rd_T62 l0 x13_1).f2.f0), .int .u16 0]) ?_ 4 _ rfl; (with_reducible repeat (first | refine blk_drewN ?_ _ | refine blk_drew ?_ | refine blk_alloc ?_ _)); refine blk_put (cs := #[.int .u32 ((rd_T62 l0 x13_1).f0.f0), .int .i64 ((rd_T62 l0 x13_1).f0.f1), .int .u32 ((rd_T62 l0 x13_1).f1), .int .u32 0, .int .u16 0]) ?_ 3 _ rfl; (with_reducible repeat (first | refine blk_drewN ?_ _ | refine blk_drew ?_ | refine blk_alloc ?_ _)); refine blk_put (cs := #[.int .u32 ((rd_T62 l0 x13_1).f0.f0), .int .i64 ((rd_T62 l0 x13_1).f0.f1), .int .u32 0, .int .u32 0, .int .u16 0]) ?_ 2 _ rfl; (with_reducible repeat (first | refine blk_drewN ?_ _ | refine blk_drew ?_ | refine blk_alloc ?_ _)); refine blk_put (cs := #[.int .u32 ((rd_T62 l0 x13_1).f0.f0), .int .i64 0, .int .u32 0, .int .u32 0, .int .u16 0]) ?_ 1 _ rfl; (with_reducible repeat (first | refine blk_drewN ?_ _ | refine blk_drew ?_ | refine blk_alloc ?_ _)); refine blk_put (cs := #[.int .u32 0, .int .i64 0, .int .u32 0, .int .u32 0, .int .u16 0]) ?_ 0 _ rfl; (with_reducible repeat (first | refine blk_drewN ?_ _ | refine blk_drew ?_ | refine blk_alloc ?_ _)); exact BK143.out) hb); have n3_ := Aside0.mk (below_step (by repeat (first | (with_reducible first | exact HB.out | apply below_alloc | apply pw_below_drewN | apply below_drew1 | refine below_set ?_ GE143.out) | exact HB.out)) hb); clear HO_3; clear HO_4; clear BK143; clear HB; have HO_3 := n0_; have HO_4 := n1_; have BK143 := n2_; have HB := n3_; clear n0_ n1_ n2_ n3_; (try clear hb); (try clear hb2); (try clear hk); (try clear hi); have hcz15_0 : w14.cell? ⟨gb143, 0, none⟩ = some (.int .u32 ((rd_T62 l0 x13_1).f0.f0)) := (blk_cell BK143.out 0).trans rfl; have hcz15_1 : w14.cell? ⟨gb143, 1, none⟩ = some (.int .i64 ((rd_T62 l0 x13_1).f0.f1)) := (blk_cell BK143.out 1).trans rfl; have hcz15_2 : w14.cell? ⟨gb143, 2, none⟩ = some (.int .u32 ((rd_T62 l0 x13_1).f1)) := (blk_cell BK143.out 2).trans rfl; have hcz15_3 : w14.cell? ⟨gb143, 3, none⟩ = some (.int .u32 ((rd_T62 l0 x13_1).f2.f0)) := (blk_cell BK143.out 3).trans rfl; have hcz15_4 : w14.cell? ⟨gb143, 4, none⟩ = some (.int .u16 ((rd_T62 l0 x13_1).f2.f1)) := (blk_cell BK143.out 4).trans rfl; have hfz15_0 := blk_frozen BK143.out 0; have hfz15_1 := blk_frozen BK143.out 1; have hfz15_2 := blk_frozen BK143.out 2; have hfz15_3 := blk_frozen BK143.out 3; have hfz15_4 := blk_frozen BK143.out 4) | ((with_reducible refine gate_callee (f := 53) rfl ?_); refine goesL_ (some 22) rfl rfl Try.func53 (by kernel_rfl) rfl #[.slice none 0 0, .agg #[.int .u32 ((rd_T62 l0 x13_1).f0.f0), .int .i64 ((rd_T62 l0 x13_1).f0.f1), .int .u32 ((rd_T62 l0 x13_1).f1), .int .u32 ((rd_T62 l0 x13_1).f2.f0), .int .u16 ((rd_T62 l0 x13_1).f2.f1)], .int .u32 x5_1] rfl (by (try simp only [List.map_toArray, List.map_cons, List.map_nil]); first | done | rfl | (simp only [List.length_drop, List.length_take]; rfl)) ?_; (refine (tlv_part.calls k1 (fun k_ => some k_ = (.slice none 0 0 : Value).ownBlock) (.slice none 0 0) ([] : List Int) ((rd_T62 l0 x13_1).f0.f0) ((rd_T62 l0 x13_1).f0.f1) ((rd_T62 l0 x13_1).f1) ((rd_T62 l0 x13_1).f2.f0) ((rd_T62 l0 x13_1).f2.f1) x5_1 t145 w _ ?side1 ?side2 A7.out).mono ?_); (case side1 => repeat (first | (with_reducible first | exact HB.out | apply below_alloc | apply pw_below_drewN | apply below_drew1 | refine below_set ?_ GE143.out) | exact HB.out)); (case side2 => exact Kd.R_nil _ _ _ _ _); rintro e w16 ⟨v146, rfl, ho0, hb, hkp⟩; refine ⟨_, rfl, ?_⟩; have n0_ := Aside0.mk (Kd.S_mono (ok' := fun k_ => some k_ ≠ (u4 : Value).ownBlock ∧ some k_ ≠ (v146 : Value).ownBlock) (Kd.S_keptB (HO_3.out) hkp (fun k_ hk_ hs_ => (fun e_ => by simp [Value.ownBlock] at e_) hs_)) (fun k_ hk_ => ⟨hk_.1, fun e_ => Or.elim (ho0.1 k_ e_.symm) (fun hs_ => hk_.2.1 hs_) (fun hn_ => Nat.not_le.2 hk_.2.2 hn_)⟩)); have n1_ := Aside0.mk (Kd.R_mono (ok' := fun k_ => some k_ ≠ (v146 : Value).ownBlock) (Kd.R_keptB (HO_4.out) hkp (fun k_ hk_ hs_ => (fun e_ => by simp [Value.ownBlock] at e_) hs_)) (fun k_ hk_ => fun e_ => Or.elim (ho0.1 k_ e_.symm) (fun hs_ => hk_.2.1 hs_) (fun hn_ => Nat.not_le.2 hk_.2.2 hn_))); have n2_ := Aside0.mk (blk_kept (by (with_reducible repeat (first | refine blk_drewN ?_ _ | refine blk_drew ?_ | refine blk_alloc ?_ _)); exact BK143.out) hkp (fun hs_ => (fun e_ => by simp [Value.ownBlock] at e_) hs_)); have n3_ := Aside0.mk (Kd.R_mono (ok' := fun k_ => some k_ ≠ (u4 : Value).ownBlock) ho0 (fun k_ hk_ => Or.elim hk_ (fun hs_ => absurd hs_ (by simp [Value.ownBlock])) (fun hn_ => (Kd.fresh' (Kd.R_lt (by (with_reducible repeat (first | apply Kd.R_alloc | apply Kd.R_drewN | apply Kd.R_drew)); exact HO_4.out)) k_ hn_)))); have n4_ := Aside0.mk (hb); clear HO_3; clear HO_4; clear BK143; clear HB; have HO_3 := n0_; have HO_4 := n1_; have BK143 := n2_; have HO147 := n3_; have HB := n4_; clear n0_ n1_ n2_ n3_ n4_; (try clear hb); (try clear hkp); (try clear ho0); obtain ⟨Ao17, co17, eo17⟩ := Kd.R_slice HO_4.out; subst eo17; obtain ⟨Ao18, co18, eo18⟩ := Kd.R_slice HO147.out; subst eo18) | ((with_reducible refine gate_builtin (b := .append) (xs := #[.tmp 29, .tmp 31]) rfl ?_); at_builtin; refine Kd.S_append (Kd.slice 5 (Kd.int .u8)) (w0 := w) w.heap.size rfl (.tmp 29) (.tmp 31) 64 22 (.slice none 0 0) 24 rfl Try.underlying64 tlv_Encode.inf22 rfl (by decide) (by omega) u3 x3_1 x4_1 [.slice Ao17 x4_1.length co17] (fun k_ => some k_ ≠ (.slice Ao18 t145.length co18 : Value).ownBlock) (fun k_ => some k_ = (.slice Ao17 x4_1.length co17 : Value).ownBlock) rfl rfl ?aP (fun k_ hk_ => ((Kd.R_mono (ok' := fun k_ => ((fun k_ => some k_ ≠ (.slice Ao18 t145.length co18 : Value).ownBlock)) k_ ∧ some k_ ≠ (u3 : Value).ownBlock) (Kd.R_apart' (HO_4.out) (Kd.S_typed HO_3.out) (by decide)) (fun k_ hk => ⟨hk.1, hk.2⟩))).1 k_ hk_.symm) ?aF ?aO ?aB ?aS ?aL ?_; (case aP => exact Kd.M_row (Kd.R_mono (Kd.R_tight rfl (Kd.R_mono (ok' := fun k_ => ((fun k_ => some k_ ≠ (.slice Ao18 t145.length co18 : Value).ownBlock)) k_ ∧ some k_ ≠ (u3 : Value).ownBlock) (Kd.R_apart' (HO_4.out) (Kd.S_typed HO_3.out) (by decide)) (fun k_ hk => ⟨hk.1, hk.2⟩))) (fun _ h_ => h_))); (case aB => exact (by repeat (first | (with_reducible first | exact HB.out | apply below_alloc | apply pw_below_drewN | apply below_drew1 | refine below_set ?_ GE143.out) | exact HB.out))); (case aF => exact (fun k_ hk => Kd.fresh' (Kd.R_lt (by (with_reducible repeat (first | apply Kd.R_alloc | apply Kd.R_drewN | apply Kd.R_drew)); exact HO147.out)) k_ hk)); (case aO => exact (by (with_reducible repeat (first | apply Kd.S_alloc | apply Kd.S_drewN | apply Kd.S_drew)); exact Kd.S_mono HO_3.out (fun k_ hk => ⟨hk.2, fun e_ => hk.1 e_⟩))); (case aS => exact (below_size (by repeat (first | (with_reducible first | exact HB.out | apply below_alloc | apply pw_below_drewN | apply below_drew1 | refine below_set ?_ GE143.out) | exact HB.out)))); (case aL => have := LMc9.out; omega); intro v149 w19 ho hb hg hat; rw [← Ny148.out] at ho; have n0_ := Aside0.mk (blk_grown (g := gb143) (o := .cells #[.int .u32 ((rd_T62 l0 x13_1).f0.f0), .int .i64 ((rd_T62 l0 x13_1).f0.f1), .int .u32 ((rd_T62 l0 x13_1).f1), .int .u32 ((rd_T62 l0 x13_1).f2.f0), .int .u16 ((rd_T62 l0 x13_1).f2.f1)] 62 (0, 0)) (by (with_reducible repeat (first | refine blk_drewN ?_ _ | refine blk_drew ?_ | refine blk_alloc ?_ _)); exact BK143.out) hg (Kd.S_ne HO_3.out BK143.out (by decide))); have n1_ := Aside0.mk (Kd.R_over' (by (with_reducible repeat (first | apply Kd.R_alloc | apply Kd.R_drewN | apply Kd.R_drew)); exact HO147.out) (Kd.S_typed (by (with_reducible repeat (first | apply Kd.S_alloc | apply Kd.S_drewN | apply Kd.S_drew)); exact HO_3.out)) (by decide) hg); have n2_ := Aside0.mk (hb); have n3_ := Aside0.mk (ho); clear BK143; clear HO147; clear HB; clear HO_3; clear HO_4; have BK143 := n0_; have HO147 := n1_; have HB := n2_; have HO150 := n3_; clear n0_ n1_ n2_ n3_; clear ho hb hg hat; have hcz20_0 : w19.cell? ⟨gb143, 0, none⟩ = some (.int .u32 ((rd_T62 l0 x13_1).f0.f0)) := (blk_cell BK143.out 0).trans rfl; have hcz20_1 : w19.cell? ⟨gb143, 1, none⟩ = some (.int .i64 ((rd_T62 l0 x13_1).f0.f1)) := (blk_cell BK143.out 1).trans rfl; have hcz20_2 : w19.cell? ⟨gb143, 2, none⟩ = some (.int .u32 ((rd_T62 l0 x13_1).f1)) := (blk_cell BK143.out 2).trans rfl; have hcz20_3 : w19.cell? ⟨gb143, 3, none⟩ = some (.int .u32 ((rd_T62 l0 x13_1).f2.f0)) := (blk_cell BK143.out 3).trans rfl; have hcz20_4 : w19.cell? ⟨gb143, 4, none⟩ = some (.int .u16 ((rd_T62 l0 x13_1).f2.f1)) := (blk_cell BK143.out 4).trans rfl; have hfz20_0 := blk_frozen BK143.out 0; have hfz20_1 := blk_frozen BK143.out 1; have hfz20_2 := blk_frozen BK143.out 2; have hfz20_3 := blk_frozen BK143.out 3; have hfz20_4 := blk_frozen BK143.out 4) | ((with_reducible refine gate_callee (f := 53) rfl ?_); refine goesL_ (some 34) rfl rfl Try.func53 (by kernel_rfl) rfl #[.slice none 0 0, .agg #[.int .u32 ((rd_T62 l0 x13_1).f0.f0), .int .i64 ((rd_T62 l0 x13_1).f0.f1), .int .u32 ((rd_T62 l0 x13_1).f1), .int .u32 ((rd_T62 l0 x13_1).f2.f0), .int .u16 ((rd_T62 l0 x13_1).f2.f1)], .int .u32 0] rfl (by (try simp only [List.map_toArray, List.map_cons, List.map_nil]); first | done | rfl | (simp only [List.length_drop, List.length_take]; rfl)) ?_; (refine (tlv_part.calls k1 (fun k_ => some k_ = (.slice none 0 0 : Value).ownBlock) (.slice none 0 0) ([] : List Int) ((rd_T62 l0 x13_1).f0.f0) ((rd_T62 l0 x13_1).f0.f1) ((rd_T62 l0 x13_1).f1) ((rd_T62 l0 x13_1).f2.f0) ((rd_T62 l0 x13_1).f2.f1) 0 t151 w _ ?side1 ?side2 A10.out).mono ?_); (case side1 => repeat (first | (with_reducible first | exact HB.out | apply below_alloc | apply pw_below_drewN | apply below_drew1 | refine below_set ?_ GE143.out) | exact HB.out)); (case side2 => exact Kd.R_nil _ _ _ _ _); rintro e w21 ⟨v152, rfl, ho0, hb, hkp⟩; refine ⟨_, rfl, ?_⟩; have n0_ := Aside0.mk (blk_kept (by (with_reducible repeat (first | refine blk_drewN ?_ _ | refine blk_drew ?_ | refine blk_alloc ?_ _)); exact BK143.out) hkp (fun hs_ => (fun e_ => by simp [Value.ownBlock] at e_) hs_)); have n1_ := Aside0.mk (Kd.R_mono (ok' := fun k_ => some k_ ≠ (v152 : Value).ownBlock) (Kd.R_keptB (HO147.out) hkp (fun k_ hk_ hs_ => (fun e_ => by simp [Value.ownBlock] at e_) hs_)) (fun k_ hk_ => fun e_ => Or.elim (ho0.1 k_ e_.symm) (fun hs_ => hk_.2.1 hs_) (fun hn_ => Nat.not_le.2 hk_.2.2 hn_))); have n2_ := Aside0.mk (Kd.S_mono (ok' := fun k_ => some k_ ≠ (.slice Ao18 t145.length co18 : Value).ownBlock ∧ some k_ ≠ (v152 : Value).ownBlock) (Kd.S_keptB (HO150.out) hkp (fun k_ hk_ hs_ => (fun e_ => by simp [Value.ownBlock] at e_) hs_)) (fun k_ hk_ => ⟨hk_.1, fun e_ => Or.elim (ho0.1 k_ e_.symm) (fun hs_ => hk_.2.1 hs_) (fun hn_ => Nat.not_le.2 hk_.2.2 hn_)⟩)); have n3_ := Aside0.mk (Kd.R_mono (ok' := fun k_ => some k_ ≠ (.slice Ao18 t145.length co18 : Value).ownBlock) ho0 (fun k_ hk_ => Or.elim hk_ (fun hs_ => absurd hs_ (by simp [Value.ownBlock])) (fun hn_ => (Kd.fresh' (Kd.R_lt (by (with_reducible repeat (first | apply Kd.R_alloc | apply Kd.R_drewN | apply Kd.R_drew)); exact HO147.out)) k_ hn_)))); have n4_ := Aside0.mk (hb); clear BK143; clear HO147; clear HO150; clear HB; have BK143 := n0_; have HO147 := n1_; have HO150 := n2_; have HO153 := n3_; have HB := n4_; clear n0_ n1_ n2_ n3_ n4_; (try clear hb); (try clear hkp); (try clear ho0)))
      have n0_ := Aside0.mk (Kd.R_drew HO147.out)
      have n1_ := Aside0.mk (Kd.S_drew HO150.out)
      have n2_ := Aside0.mk (Kd.R_drew HO153.out)
      have n3_ := Aside0.mk (blk_drew BK143.out)
      have n4_ := Aside0.mk (below_drew1 HB.out)
      clear HO147
      clear HO150
      clear HO153
      clear BK143
      clear HB
      have HO147 := n0_
      have HO150 := n1_
      have HO153 := n2_
      have BK143 := n3_
      have HB := n4_
      clear n0_ n1_ n2_ n3_ n4_
      obtain ⟨Ao24, co24, eo24⟩ := Kd.R_slice HO153.out
      (first | subst eo24 | (injection eo24 with f1_ f2_ f3_; have f4_ := f1_.symm; have f5_ := f3_.symm; clear f1_ f2_ f3_; subst f4_; subst f5_))
      refine start_ (n := 7) (S := fun w' => w'.cell? ⟨gb143, 0, none⟩ = some (.int .u32 ((rd_T62 l0 x13_1).f0.f0)) ∧ w'.cell? ⟨gb143, 1, none⟩ = some (.int .i64 ((rd_T62 l0 x13_1).f0.f1)) ∧ w'.cell? ⟨gb143, 2, none⟩ = some (.int .u32 ((rd_T62 l0 x13_1).f1)) ∧ w'.cell? ⟨gb143, 3, none⟩ = some (.int .u32 ((rd_T62 l0 x13_1).f2.f0)) ∧ w'.cell? ⟨gb143, 4, none⟩ = some (.int .u16 ((rd_T62 l0 x13_1).f2.f1))) (ds := []) #[false, false, false, false, false, false, false] (by kernel_rfl) rfl rfl ⟨(blk_cell BK143.out 0).trans rfl, (blk_cell BK143.out 1).trans rfl, (blk_cell BK143.out 2).trans rfl, (blk_cell BK143.out 3).trans rfl, (blk_cell BK143.out 4).trans rfl⟩ (fun hHeld => ?_)
      generalize w21.drew = w22 at HO147 HO150 HO153 BK143 HB hHeld ⊢
      refine pure_ (i := 0) (N := some 35) (v := ?_) (a' := ?_) #[true, false, false, false, false, false, false] rfl rfl (by kernel_rfl) (fun _ _ _ h => h) (Or.inl ⟨by rfl, ?_⟩) ?_ ?_; rotate_left
      · intro w'; go_simp; with_reducible rfl
      rotate_left; · simp only [Act.put, List.setIfInBounds_toArray, List.set_cons_zero, List.set_cons_succ, i64_w, i32_w]; rfl
      refine pure_ (i := 1) (N := some 36) (v := ?_) (a' := ?_) #[true, true, false, false, false, false, false] rfl rfl (by kernel_rfl) (fun _ _ _ h => h) (Or.inl ⟨by rfl, ?_⟩) ?_ ?_; rotate_left
      · intro w'; go_simp; with_reducible rfl
      rotate_left; · simp only [Act.put, List.setIfInBounds_toArray, List.set_cons_zero, List.set_cons_succ, i64_w, i32_w]; rfl
      refine pure_ (i := 3) (N := some 38) (v := ?_) (a' := ?_) #[true, true, false, true, false, false, false] rfl rfl (by kernel_rfl) (fun _ _ _ h => h) (Or.inl ⟨by rfl, ?_⟩) ?_ ?_; rotate_left
      · intro w'; go_simp; with_reducible rfl
      rotate_left; · simp only [Act.put, List.setIfInBounds_toArray, List.set_cons_zero, List.set_cons_succ, i64_w, i32_w]; rfl
      refine take_ (i := 4) (N := some 39) (v := ?_) (a' := ?_) #[true, true, false, true, true, false, false] rfl rfl (by kernel_rfl) (fun _ _ _ h => h) (Or.inl ⟨by rfl, ?_⟩) hHeld ?_ ?_; rotate_left
      · rintro w' ⟨s0, s1, s2, s3, s4⟩
        go_simp
        with_reducible rfl
      rotate_left
      · simp only [Act.put, List.setIfInBounds_toArray, List.set_cons_zero, List.set_cons_succ, i64_w, i32_w]; rfl
      refine one_ (i := 2) (N := some 37) #[true, true, true, true, true, false, false] rfl rfl (by kernel_rfl) (by decide) (fun K hK => ?_)
      refine Kd.R_append_rows_step (Kd.int .u8) (w0 := w) w.heap.size (by rfl) (.tmp 35) (.tmp 36) 22 5 (.int .u8 0) 1 rfl Try.underlying22 info5 rfl (by decide) (by omega) (.slice none 0 0) ([] : List Int) t151 _ _ _ (fun k_ => some k_ ≠ (.slice Ao18 t145.length co18 : Value).ownBlock ∧ some k_ ≠ (.slice Ao24 t151.length co24 : Value).ownBlock) (fun _ => False) rfl rfl ?aO ?aR (fun _ _ h => h) (fun _ h => h.elim) ?aF ?aB ?aS ?aL ?_
      (case aR => repeat (first | exact (Kd.R_reads' HO153.out).2.2 | (with_reducible refine Kd.C_alloc ?_ _) | (with_reducible refine Kd.C_drewN ?_ _) | (with_reducible refine Kd.C_drew ?_)))
      (case aB => exact (by repeat (first | (with_reducible first | exact HB.out | apply below_alloc | apply pw_below_drewN | apply below_drew1 | refine below_set ?_ GE143.out) | exact HB.out)))
      (case aF => exact (fun k_ hk => ⟨Kd.fresh' (Kd.R_lt (by (with_reducible repeat (first | apply Kd.R_alloc | apply Kd.R_drewN | apply Kd.R_drew)); exact HO147.out)) k_ hk, Kd.fresh' (Kd.R_lt (by (with_reducible repeat (first | apply Kd.R_alloc | apply Kd.R_drewN | apply Kd.R_drew)); exact HO153.out)) k_ hk⟩))
      (case aO => exact ((Kd.R_nil _ _ _ _ (fun k_ => some k_ ≠ (.slice Ao18 t145.length co18 : Value).ownBlock ∧ some k_ ≠ (.slice Ao24 t151.length co24 : Value).ownBlock))))
      (case aS => exact (below_size (by repeat (first | (with_reducible first | exact HB.out | apply below_alloc | apply pw_below_drewN | apply below_drew1 | refine below_set ?_ GE143.out) | exact HB.out))))
      (case aL => have := LMc11.out; omega)
      intro v155 w23 ho hb hg hat
      rw [← Ny154.out] at ho
      have n0_ := Aside0.mk (blk_grown (g := gb143) (o := .cells #[.int .u32 ((rd_T62 l0 x13_1).f0.f0), .int .i64 ((rd_T62 l0 x13_1).f0.f1), .int .u32 ((rd_T62 l0 x13_1).f1), .int .u32 ((rd_T62 l0 x13_1).f2.f0), .int .u16 ((rd_T62 l0 x13_1).f2.f1)] 62 (0, 0)) (by (with_reducible repeat (first | refine blk_drewN ?_ _ | refine blk_drew ?_ | refine blk_alloc ?_ _)); exact BK143.out) hg (by simp [Value.ownBlock]))
      have n1_ := Aside0.mk (Kd.R_after (Kd.R_apart_nil (by (with_reducible repeat (first | apply Kd.R_alloc | apply Kd.R_drewN | apply Kd.R_drew)); exact HO147.out)) hg hat)
      have n2_ := Aside0.mk (Kd.S_after (Kd.S_apart_nil (by (with_reducible repeat (first | apply Kd.S_alloc | apply Kd.S_drewN | apply Kd.S_drew)); exact HO150.out)) hg hat)
      have n3_ := Aside0.mk (Kd.R_after (Kd.R_apart_nil (by (with_reducible repeat (first | apply Kd.R_alloc | apply Kd.R_drewN | apply Kd.R_drew)); exact HO153.out)) hg hat)
      have n4_ := Aside0.mk (hb)
      have n5_ := Aside0.mk (ho)
      clear BK143
      clear HO147
      clear HO150
      clear HO153
      clear HB
      have BK143 := n0_
      have HO147 := n1_
      have HO150 := n2_
      have HO153 := n3_
      have HB := n4_
      have HO156 := n5_
      clear n0_ n1_ n2_ n3_ n4_ n5_
      clear ho hb hg hat
      refine hK.out _ _ ⟨(blk_cell BK143.out 0).trans rfl, (blk_cell BK143.out 1).trans rfl, (blk_cell BK143.out 2).trans rfl, (blk_cell BK143.out 3).trans rfl, (blk_cell BK143.out 4).trans rfl⟩ (fun hHeld => ?_)
      clear hK K
      refine norm_ (a' := ?_) ?_ ?_
      rotate_left
      · show Act.put _ (some 37) _ = _
        simp only [Act.put, List.setIfInBounds_toArray, List.set_cons_zero, List.set_cons_succ, i64_w, i32_w]
        rfl
      refine pure_ (i := 5) (N := some 4) (v := ?_) (a' := ?_) #[true, true, true, true, true, true, false] rfl rfl (by kernel_rfl) (fun _ _ _ h => h) (Or.inl ⟨by rfl, ?_⟩) ?_ ?_; rotate_left
      · intro w'; go_simp; with_reducible rfl
      rotate_left; · simp only [Act.put, List.setIfInBounds_toArray, List.set_cons_zero, List.set_cons_succ, i64_w, i32_w]; rfl
      refine pure_ (i := 6) (N := some 5) (v := ?_) (a' := ?_) #[true, true, true, true, true, true, true] rfl rfl (by kernel_rfl) (fun _ _ _ h => h) (Or.inl ⟨by rfl, ?_⟩) ?_ ?_; rotate_left
      · intro w'; go_simp; with_reducible rfl
      rotate_left; · simp only [Act.put, List.setIfInBounds_toArray, List.set_cons_zero, List.set_cons_succ, i64_w, i32_w]; rfl
      refine done_ (by kernel_rfl) ?_
      try go_wp2
      go_roundg k1
      case measure => have := HK1.out; omega
      case rel => exact ⟨(y148), (y154), ((rd_T62 l0 x13_1).f1), (wrap64 (x13_1 + 1)), (by first | rfl | (simp; done) | (simp [*]; done)), (by first | rfl | (simp; done) | (simp [*]; done)), H', ⟨by have := HK1.out; omega⟩, ⟨by (with_reducible repeat (first | apply Kd.S_alloc | apply Kd.S_drewN | apply Kd.S_drew)); exact Kd.S_mono HO150.out (fun _ hk => hk.2)⟩, ⟨by (with_reducible repeat (first | apply Kd.R_alloc | apply Kd.R_drewN | apply Kd.R_drew)); exact Kd.R_mono HO156.out (fun _ hk => trivial)⟩, ⟨fun h_ => absurd h_ (tlv_Encode.ne_y Ny154.out NE151.out)⟩, ⟨by repeat (first | (with_reducible first | exact HB.out | apply below_alloc | apply pw_below_drewN | apply below_drew1 | refine below_set ?_ GE143.out) | exact HB.out)⟩⟩

/-! ### tlv_get: function 55 -/
def tlv_get.l0 : Nat → Int → List Int → Int → Int → Option (Int)
  | 0, _, _, _, _ => none
  | k + 1, x3, x6, x7, x8 => if x8 < x7 then (if 0 ≤ x8 then (if x8 < (x6.length : Int) then (tlv_get.l0 k (Go.bits .or .u32 ((x3 * 256) % 4294967296) ((rd x6 x8) % 4294967296)) x6 x7 (wrap64 (x8 + 1))) else (none)) else (none)) else (some x3)
def tlv_get.f (k : Nat) (l0 : List Int) : Option (Int) := tlv_get.l0 k 0 l0 (l0.length : Int) 0
theorem tlv_get.mono_l : ∀ k, (∀ y0 y1 y2 y3, LeO (tlv_get.l0 k y0 y1 y2 y3) (tlv_get.l0 (k + 1) y0 y1 y2 y3))
  | 0 => fun _ _ _ _ r h => by simp [tlv_get.l0] at h
  | k + 1 => by
    have ih0 := tlv_get.mono_l k
    · intro y0 y1 y2 y3
      unfold tlv_get.l0
      repeat' first
      | (with_reducible exact ih0 _ _ _ _)
      | (with_reducible exact LeO.refl _)
      | (with_reducible exact LeO.none _)
      | (with_reducible refine LeO.ite ?_ ?_)
      | (with_reducible refine LeO.bind ?_ (fun _ => ?_))
      | exact ih0 _ _ _ _
      | exact LeO.none _
      | refine LeO.ite ?_ ?_
      | refine LeO.bind ?_ (fun _ => ?_)
theorem tlv_get.mono : ∀ a0 k, LeO (tlv_get.f k a0) (tlv_get.f (k + 1) a0) := by
  intro a0 k
  have ih0 := tlv_get.mono_l k
  unfold tlv_get.f
  repeat' first
      | (with_reducible exact ih0 _ _ _ _)
      | (with_reducible exact LeO.refl _)
      | (with_reducible exact LeO.none _)
      | (with_reducible refine LeO.ite ?_ ?_)
      | (with_reducible refine LeO.bind ?_ (fun _ => ?_))
      | exact ih0 _ _ _ _
      | exact LeO.none _
      | refine LeO.ite ?_ ?_
      | refine LeO.bind ?_ (fun _ => ?_)
set_option maxHeartbeats 8000000 in
set_option maxRecDepth 100000 in
theorem tlv_get.calls (k : Nat) (A0 : Option Addr) (c0 : Nat) (l0 : List Int) (r : Int) (w : World) (hr0 : Kd.C (Kd.int .u8) w A0 l0.length l0) (hc0 : l0.length ≤ c0) (h : tlv_get.f k l0 = some r) :
    Calls Try.prog 55 #[.slice A0 l0.length c0] w fun e w' => e = .returned (.int .u32 r) ∧ Drawn0 w w' := by
  have HR0 := Aside0.mk hr0
  have HC0 := Aside0.mk hc0
  clear hr0 hc0
  have H : (tlv_get.l0 k 0 l0 (l0.length : Int) 0) = some r := h
  clear h
  have H' := Aside0.mk H
  clear H
  go_enter Try.func55, Try.ntmps55
  go_wp2
  go_loopg [3, 8] k (fun kq v3 v8 w' => ∃ (x3_1 : Int) (x8_1 : Int), v3 = .int .u32 x3_1 ∧ v8 = .int .i64 x8_1 ∧ Aside0 (tlv_get.l0 kq x3_1 l0 (l0.length : Int) x8_1 = some r) ∧ Aside0 (kq ≤ k) ∧ Drawn0 w w')
  case atStart => exact ⟨(0), (0), (by first | rfl | (simp; done) | (simp [*]; done)), (by first | rfl | (simp; done) | (simp [*]; done)), H', ⟨Nat.le_refl _⟩, by repeat (first | exact Drawn0.refl _ | apply Drawn0.step)⟩
  case round =>
    clear H'
    obtain ⟨x3_1, x8_1, rfl, rfl, HA, HK1, ⟨m1, rfl⟩⟩ := hrel
    cases gk with
    | zero => exact absurd HA.out (by simp [tlv_get.l0])
    | succ k1 =>
      have H := HA.out
      clear HA
      simp only [tlv_get.l0] at H
      by_cases c2 : x8_1 < (l0.length : Int)
      case neg =>
        rw [if_neg c2] at H; have c2b0 : decide (x8_1 < (l0.length : Int)) = false := decide_eq_false c2
        clear c2
        obtain rfl := Option.some.inj H
        go_wp2
        go_ret
        exact ⟨by first | rfl | (simp; done) | (simp [*]; done), by repeat (first | exact Drawn0.refl _ | apply Drawn0.step)⟩

      rw [if_pos c2] at H; have c2b0 : decide (x8_1 < (l0.length : Int)) = true := decide_eq_true c2
      clear c2
      by_cases c3 : 0 ≤ x8_1
      case neg =>
        rw [if_neg c3] at H; exact absurd H (by simp)
      rw [if_pos c3] at H; have c3b0 : decide (0 ≤ x8_1) = true := decide_eq_true c3
      clear c3
      by_cases c4 : x8_1 < (l0.length : Int)
      case neg =>
        rw [if_neg c4] at H; exact absurd H (by simp)
      rw [if_pos c4] at H; have c4b0 : decide (x8_1 < (l0.length : Int)) = true := decide_eq_true c4
      clear c4
      have H' := Aside0.mk H
      clear H
      have p142 : 0 ≤ (x8_1 : Int) := of_decide_eq_true (by first | (with_reducible assumption) | assumption)
      have q142 : x8_1 < (l0.length : Int) := of_decide_eq_true (by first | (with_reducible assumption) | assumption)
      obtain ⟨ad142, e142, hx142_0⟩ := Kd.at_int HR0.out x8_1 p142 q142
      cases e142
      replace p142 := eq_true p142
      replace q142 := eq_true q142
      go_wp2
      go_roundg k1
      case measure => have := HK1.out; omega
      case rel => exact ⟨(Go.bits .or .u32 ((x3_1 * 256) % 4294967296) ((rd l0 x8_1) % 4294967296)), (wrap64 (x8_1 + 1)), (by first | rfl | (simp; done) | (simp [*]; done)), (by first | rfl | (simp; done) | (simp [*]; done)), H', ⟨by have := HK1.out; omega⟩, by repeat (first | exact Drawn0.refl _ | apply Drawn0.step)⟩
end Go.Proofs.YtgmdjhokcipajaaQ.PTlx
