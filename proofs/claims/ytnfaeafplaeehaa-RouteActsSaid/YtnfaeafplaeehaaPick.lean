import Derived.Test.YtnfaeafplaeehaaTable2
import Derived.WalkMore
set_option linter.unusedVariables false
set_option linter.unusedSimpArgs false
namespace Go.Proofs.Ytnfaeafplaeehaa
open Go.RowKit
/-! The nearest way of a table. -/
instance (S : List Nat) : LR (Kept S) := ⟨Kept.refl S, Kept.trans⟩
theorem Blk.nE {w : World} {g k : Nat} {t u : TypeId} {cs ds : Array Value} (h : Blk w g t cs) (h2 : Blk w k u ds) (ht : t ≠ u) : g ≠ k := fun e => by
  subst e
  unfold Blk at h h2
  rw [h] at h2
  cases h2
  exact ht rfl
theorem blk_set5 {w : World} {g : Nat} {t : TypeId} {a b c d e : Value} (h : Blk w g t #[a, b, c, d, e]) (v0 v1 v2 v3 v4 : Value) : Blk (((((w.setCell ⟨g, 0, none⟩ v0).setCell ⟨g, 1, none⟩ v1).setCell ⟨g, 2, none⟩ v2).setCell ⟨g, 3, none⟩ v3).setCell ⟨g, 4, none⟩ v4).drew g t #[v0, v1, v2, v3, v4] := by
  have := ((((h.set 0 v0).set 1 v1).set 2 v2).set 3 v3).set 4 v4
  simpa using this.drew
theorem kept_set5 (w : World) (g : Nat) (v0 v1 v2 v3 v4 : Value) : Kept [g] w (((((w.setCell ⟨g, 0, none⟩ v0).setCell ⟨g, 1, none⟩ v1).setCell ⟨g, 2, none⟩ v2).setCell ⟨g, 3, none⟩ v3).setCell ⟨g, 4, none⟩ v4).drew :=
  kept_drew (kept_set (kept_set (kept_set (kept_set (kept_set (Kept.refl _ _) _ _ (.inl (by simp))) _ _ (.inl (by simp))) _ _ (.inl (by simp))) _ _ (.inl (by simp))) _ _ (.inl (by simp)))
theorem qfact (n q : Nat) (h : n < q) : q ∉ [n] := by simp; omega
def pickStep (m : List (RKey × Rt)) (a l : Int) (cost : Int → Int) (may : Rt → Bool) (s : Rt × Int × Bool) (i : Nat) : Rt × Int × Bool :=
  if (getR m ⟨a, l, i⟩).2 = false ∨ cost i ≤ 0 ∨ may (getR m ⟨a, l, i⟩).1 = false then s
  else if beyondM (getR m ⟨a, l, i⟩).1.m (cost i) ≠ 65535 ∧ (s.2.2 = false ∨ beyondM (getR m ⟨a, l, i⟩).1.m (cost i) < s.2.1) then ((getR m ⟨a, l, i⟩).1, beyondM (getR m ⟨a, l, i⟩).1.m (cost i), true)
  else s
def pickN (m : List (RKey × Rt)) (a l : Int) (cost : Int → Int) (may : Rt → Bool) : Nat → Rt × Int × Bool
  | 0 => (rt0, 0, false)
  | k + 1 => pickStep m a l cost may (pickN m a l cost may k) k
theorem getR_mem (m : List (RKey × Rt)) (k : RKey) (h : (getR m k).2 = true) : (k, (getR m k).1) ∈ m := by
  unfold getR at *
  cases hg : getM m k with
  | none => rw [hg] at h; cases h
  | some r =>
    unfold getM at hg
    obtain ⟨x, hx, rfl⟩ := Option.map_eq_some_iff.1 hg
    have h1 := List.find?_some hx
    have h2 := List.mem_of_find?_eq_some hx
    have : k = x.1 := by simpa using h1
    subst this
    exact h2
set_option maxHeartbeats 4000000 in
theorem table_Pick (m : List (RKey × Rt)) (a l : Int) (t g : Nat) (w : World) (h : TbAt w t g m) (hmm : ∀ e ∈ m, 0 ≤ e.2.m ∧ e.2.m ≤ 65535) (gc gm : Nat) (rc cc rm cm : Array Value)
    (eC : ∀ args w, (callFunc gc args).run Try.prog w = .ok (.enter gc args) w) (eM : ∀ args w, (callFunc gm args).run Try.prog w = .ok (.enter gm args) w) (cost : Int → Int) (may : Rt → Bool) (J : World → Prop) (hJ : ∀ W W', J W → Below W.heap.size W W' → J W') (h0 : J w)
    (hC : ∀ (i : Int) W, J W → Calls Try.prog gc (rc ++ #[.int .i64 i] ++ cc) W fun e W' => e = .returned (.int .i64 (cost i)) ∧ Below W.heap.size W W') (hM : ∀ (r : Rt) W, J W → Calls Try.prog gm (rm ++ #[r.val] ++ cm) W fun e W' => e = .returned (.bool (may r)) ∧ Below W.heap.size W W') :
    Calls Try.prog 47 #[.pointer (some ⟨t, 0, none⟩), .agg #[.int .u32 a, .int .i64 l], .func (.func gc) rc cc, .func (.func gm) rm cm] w fun e w' => e = .returned (.tuple #[(pickN m a l cost may 9).1.val, .bool (pickN m a l cost may 9).2.2]) ∧ Below w.heap.size w w' := by
  have hb0 := (((Below.refl w.heap.size w).alloc (Nat.le_refl _) (.cells #[.int .u32 a, .int .i64 l] 25)).alloc (by simp) (.cells #[.int .i64 0, .int .u32 0, .int .u32 0, .int .u16 0, .int .i64 0] 68)).alloc (by simp; omega) (.cells #[.int .i64 0, .int .u32 0, .int .u32 0, .int .u16 0, .int .i64 0] 68)
  have kP := ((Blk.new w 25 #[.int .u32 a, .int .i64 l]).alloc (.cells #[.int .i64 0, .int .u32 0, .int .u32 0, .int .u16 0, .int .i64 0] 68)).alloc (.cells #[.int .i64 0, .int .u32 0, .int .u32 0, .int .u16 0, .int .i64 0] 68)
  have kR := (Blk.new (w.alloc (.cells #[.int .u32 a, .int .i64 l] 25)) 68 #[.int .i64 0, .int .u32 0, .int .u32 0, .int .u16 0, .int .i64 0]).alloc (.cells #[.int .i64 0, .int .u32 0, .int .u32 0, .int .u16 0, .int .i64 0] 68)
  have kB := Blk.new ((w.alloc (.cells #[.int .u32 a, .int .i64 l] 25)).alloc (.cells #[.int .i64 0, .int .u32 0, .int .u32 0, .int .u16 0, .int .i64 0] 68)) 68 #[.int .i64 0, .int .u32 0, .int .u32 0, .int .u16 0, .int .i64 0]
  simp only [World.size_alloc] at kR kB
  go_enter Try.func47, Try.ntmps47
  go_wp2
  go_step3
  go_wp2
  go_step3
  go_wp2
  go_loopw [11, 12, 18] (fun mt fd i wr => ∃ k : Nat, k ≤ 9 ∧ i = .int .i64 k ∧ mt = .int .u16 (pickN m a l cost may k).2.1 ∧ fd = .bool (pickN m a l cost may k).2.2 ∧ Blk wr w.heap.size 25 #[.int .u32 a, .int .i64 l] ∧
      Blk wr (w.heap.size + 1) 68 #[.int .i64 0, .int .u32 0, .int .u32 0, .int .u16 0, .int .i64 0] ∧ Blk wr (w.heap.size + 1 + 1) 68 (match pickN m a l cost may k with | (⟨rn, ri, rs, rm, rx⟩, _) => #[.int .i64 rn, .int .u32 ri, .int .u32 rs, .int .u16 rm, .int .i64 rx]) ∧ Below w.heap.size w wr) (fun _ _ i _ => 9 - (intOf i).toNat)
  case atStart => exact ⟨0, Nat.zero_le _, rfl, rfl, rfl, kP, kR, kB, hb0⟩
  case round =>
    clear kP kR kB hb0
    obtain ⟨k, hk, rfl, rfl, rfl, kP, kR, kB, hb⟩ := hrel
    by_cases hlt : k < 9
    · have HN := Lib.hid (show pickN m a l cost may (k + 1) = pickStep m a l cost may (pickN m a l cost may k) k from rfl)
      have hbdm := getR_mem m ⟨a, l, k⟩
      have hG := table_Get m a l k t g wr (h.below hb)
      have l1 := kP.lt
      have p0 := kP.cell 0
      have p1 := kP.cell 1
      simp only [List.getElem?_toArray, List.getElem?_cons_zero, List.getElem?_cons_succ] at p0 p1
      unfold pickStep at HN
      generalize pickN m a l cost may k = S at *
      generalize getR m ⟨a, l, k⟩ = q at *
      obtain ⟨⟨sn, si, ss, sm, sx⟩, mt, fd⟩ := S
      obtain ⟨⟨rn, ri, rs, rm', rx⟩, ok⟩ := q
      simp only [Rt.val] at hG kB HN
      go_wp2_with fail
      refine hG.mono ?_
      rintro e w1 ⟨rfl, hb1⟩
      replace kP := kP.below' hb1
      replace kR := kR.below' hb1
      replace kB := kB.below' hb1
      replace hb := hb.trans (hb1.mono hb.size)
      clear hb1 hG l1 p0 p1
      cases ok with
      | false =>
        rw [if_pos (.inl rfl)] at HN
        go_wp2_with fail
        have hbb := kB.lt
        have hbA := (Below.refl w1.heap.size w1).alloc (Nat.le_refl _) (.cells #[.int .i64 rn, .int .u32 ri, .int .u32 rs, .int .u16 rm', .int .i64 rx] 68)
        have kQ := Blk.new w1 68 #[.int .i64 rn, .int .u32 ri, .int .u32 rs, .int .u16 rm', .int .i64 rx]
        replace kP := kP.below' hbA
        replace kR := kR.below' hbA
        replace kB := kB.below' hbA
        replace hb := hb.trans ((hbA).mono hb.size)
        clear hbA
        have hqb := Lib.hid (show w.heap.size + 1 + 1 < w1.heap.size from hbb)
        generalize w1.alloc (.cells #[.int .i64 rn, .int .u32 ri, .int .u32 rs, .int .u16 rm', .int .i64 rx] 68) = W1 at *
        generalize w1.heap.size = q at *
        refine (hC k W1 (hJ _ _ h0 hb)).mono ?_
        rintro e w2 ⟨rfl, hb2⟩
        replace kP := kP.below' hb2
        replace kR := kR.below' hb2
        replace kB := kB.below' hb2
        replace hb := hb.trans ((hb2).mono hb.size)
        replace kQ := kQ.below' hb2
        clear hb2
        go_wp2
        go_roundw
        case rel => exact ⟨k + 1, by omega, by go_num, HN.out ▸ rfl, HN.out ▸ rfl, kP, kR, by rw [HN.out]; exact kB, hb⟩
        case measure => simp [intOf]; omega
      | true =>
        have hm' := hmm _ (hbdm rfl)
        simp only at hm'
        clear hbdm
        by_cases hc : cost k ≤ 0
        · rw [if_pos (.inr (.inl hc))] at HN
          go_wp2_with fail
          have hbb := kB.lt
          have hbA := (Below.refl w1.heap.size w1).alloc (Nat.le_refl _) (.cells #[.int .i64 rn, .int .u32 ri, .int .u32 rs, .int .u16 rm', .int .i64 rx] 68)
          have kQ := Blk.new w1 68 #[.int .i64 rn, .int .u32 ri, .int .u32 rs, .int .u16 rm', .int .i64 rx]
          replace kP := kP.below' hbA
          replace kR := kR.below' hbA
          replace kB := kB.below' hbA
          replace hb := hb.trans ((hbA).mono hb.size)
          clear hbA
          have hqb := Lib.hid (show w.heap.size + 1 + 1 < w1.heap.size from hbb)
          generalize w1.alloc (.cells #[.int .i64 rn, .int .u32 ri, .int .u32 rs, .int .u16 rm', .int .i64 rx] 68) = W1 at *
          generalize w1.heap.size = q at *
          refine (hC k W1 (hJ _ _ h0 hb)).mono ?_
          rintro e w2 ⟨rfl, hb2⟩
          replace kP := kP.below' hb2
          replace kR := kR.below' hb2
          replace kB := kB.below' hb2
          replace hb := hb.trans ((hb2).mono hb.size)
          replace kQ := kQ.below' hb2
          clear hb2
          go_wp2
          go_roundw
          case rel => exact ⟨k + 1, by omega, by go_num, HN.out ▸ rfl, HN.out ▸ rfl, kP, kR, by rw [HN.out]; exact kB, hb⟩
          case measure => simp [intOf]; omega
        · cases hmy : may ⟨rn, ri, rs, rm', rx⟩ with
          | false =>
            rw [if_pos (.inr (.inr hmy))] at HN
            go_wp2_with fail
            have hbb := kB.lt
            have hbA := (Below.refl w1.heap.size w1).alloc (Nat.le_refl _) (.cells #[.int .i64 rn, .int .u32 ri, .int .u32 rs, .int .u16 rm', .int .i64 rx] 68)
            have kQ := Blk.new w1 68 #[.int .i64 rn, .int .u32 ri, .int .u32 rs, .int .u16 rm', .int .i64 rx]
            replace kP := kP.below' hbA
            replace kR := kR.below' hbA
            replace kB := kB.below' hbA
            replace hb := hb.trans ((hbA).mono hb.size)
            clear hbA
            have hqb := Lib.hid (show w.heap.size + 1 + 1 < w1.heap.size from hbb)
            generalize w1.alloc (.cells #[.int .i64 rn, .int .u32 ri, .int .u32 rs, .int .u16 rm', .int .i64 rx] 68) = W1 at *
            generalize w1.heap.size = q at *
            refine (hC k W1 (hJ _ _ h0 hb)).mono ?_
            rintro e w2 ⟨rfl, hb2⟩
            replace kP := kP.below' hb2
            replace kR := kR.below' hb2
            replace kB := kB.below' hb2
            replace hb := hb.trans ((hb2).mono hb.size)
            replace kQ := kQ.below' hb2
            clear hb2
            have q1 := kQ.lt
            have c0 := kQ.cell 0
            have c1 := kQ.cell 1
            have c2 := kQ.cell 2
            have c3 := kQ.cell 3
            have c4 := kQ.cell 4
            simp only [List.getElem?_toArray, List.getElem?_cons_zero, List.getElem?_cons_succ] at c0 c1 c2 c3 c4
            go_wp2_with fail
            refine (hM ⟨rn, ri, rs, rm', rx⟩ w2 (hJ _ _ h0 hb)).mono ?_
            rintro e w3 ⟨rfl, hb2⟩
            replace kP := kP.below' hb2
            replace kR := kR.below' hb2
            replace kB := kB.below' hb2
            replace hb := hb.trans ((hb2).mono hb.size)
            replace kQ := kQ.below' hb2
            clear hb2 q1 c0 c1 c2 c3 c4
            rw [hmy]
            go_wp2
            go_roundw
            case rel => exact ⟨k + 1, by omega, by go_num, HN.out ▸ rfl, HN.out ▸ rfl, kP, kR, by rw [HN.out]; exact kB, hb⟩
            case measure => simp [intOf]; omega
          | true =>
            rw [if_neg (by simp [hc, hmy])] at HN
            go_wp2_with fail
            have hbb := kB.lt
            have hbA := (Below.refl w1.heap.size w1).alloc (Nat.le_refl _) (.cells #[.int .i64 rn, .int .u32 ri, .int .u32 rs, .int .u16 rm', .int .i64 rx] 68)
            have kQ := Blk.new w1 68 #[.int .i64 rn, .int .u32 ri, .int .u32 rs, .int .u16 rm', .int .i64 rx]
            replace kP := kP.below' hbA
            replace kR := kR.below' hbA
            replace kB := kB.below' hbA
            replace hb := hb.trans ((hbA).mono hb.size)
            clear hbA
            have hqb := Lib.hid (show w.heap.size + 1 + 1 < w1.heap.size from hbb)
            generalize w1.alloc (.cells #[.int .i64 rn, .int .u32 ri, .int .u32 rs, .int .u16 rm', .int .i64 rx] 68) = W1 at *
            generalize w1.heap.size = q at *
            refine (hC k W1 (hJ _ _ h0 hb)).mono ?_
            rintro e w2 ⟨rfl, hb2⟩
            replace kP := kP.below' hb2
            replace kR := kR.below' hb2
            replace kB := kB.below' hb2
            replace hb := hb.trans ((hb2).mono hb.size)
            replace kQ := kQ.below' hb2
            clear hb2
            have q1 := kQ.lt
            have c0 := kQ.cell 0
            have c1 := kQ.cell 1
            have c2 := kQ.cell 2
            have c3 := kQ.cell 3
            have c4 := kQ.cell 4
            simp only [List.getElem?_toArray, List.getElem?_cons_zero, List.getElem?_cons_succ] at c0 c1 c2 c3 c4
            go_wp2_with fail
            refine (hM ⟨rn, ri, rs, rm', rx⟩ w2 (hJ _ _ h0 hb)).mono ?_
            rintro e w3 ⟨rfl, hb2⟩
            replace kP := kP.below' hb2
            replace kR := kR.below' hb2
            replace kB := kB.below' hb2
            replace hb := hb.trans ((hb2).mono hb.size)
            replace kQ := kQ.below' hb2
            clear hb2 q1 c0 c1 c2 c3 c4
            rw [hmy]
            have q1 := kQ.lt
            have c2 := kQ.cell 2
            have c3 := kQ.cell 3
            simp only [List.getElem?_toArray, List.getElem?_cons_zero, List.getElem?_cons_succ] at c2 c3
            go_wp2_with fail
            refine (dist_Beyond rs rm' (cost k) w3 hm').mono ?_
            rintro e w4 ⟨rfl, hb2⟩
            replace kP := kP.below' hb2
            replace kR := kR.below' hb2
            replace kB := kB.below' hb2
            replace hb := hb.trans ((hb2).mono hb.size)
            replace kQ := kQ.below' hb2
            clear hb2 q1 c2 c3
            generalize beyondM rm' (cost k) = d at *
            go_wp2_with fail
            have hbA := (Below.refl w4.heap.size w4).alloc (Nat.le_refl _) (.cells #[.int .u32 rs, .int .u16 d] 30)
            have kD := Blk.new w4 30 #[.int .u32 rs, .int .u16 d]
            replace kP := kP.below' hbA
            replace kR := kR.below' hbA
            replace kB := kB.below' hbA
            replace hb := hb.trans ((hbA).mono hb.size)
            replace kQ := kQ.below' hbA
            clear hbA
            generalize w4.alloc (.cells #[.int .u32 rs, .int .u16 d] 30) = W4 at *
            generalize w4.heap.size = qd at *
            refine (dist_Lost rs d W4).mono ?_
            rintro e w5 ⟨rfl, hb2⟩
            replace kP := kP.below' hb2
            replace kR := kR.below' hb2
            replace kB := kB.below' hb2
            replace hb := hb.trans ((hb2).mono hb.size)
            replace kQ := kQ.below' hb2
            replace kD := kD.below' hb2
            clear hb2
            have q2 := kD.lt
            have c6 := kD.cell 1
            simp only [List.getElem?_toArray, List.getElem?_cons_zero, List.getElem?_cons_succ] at c6
            by_cases hd : d = 65535
            · rw [if_neg (by simp [hd])] at HN
              have hd' : (d == 65535) = true := beq_iff_eq.2 hd
              go_wp2
              go_roundw
              case rel => exact ⟨k + 1, by omega, by go_num, HN.out ▸ rfl, HN.out ▸ rfl, kP, kR, by rw [HN.out]; exact kB, hb⟩
              case measure => simp [intOf]; omega
            · have hd' : (d == 65535) = false := beq_eq_false_iff_ne.2 hd
              cases fd with
              | false =>
                rw [if_pos ⟨hd, .inl rfl⟩] at HN
                go_wp2_with fail
                have kd := kD
                have q0 := kQ.lt
                have hqd : qd ∉ [w.heap.size + 1 + 1] := by have := kD.nE kB (by decide); simpa using this
                have s0 := kB.lt
                have sc0 := kB.cell 0
                have sc1 := kB.cell 1
                have sc2 := kB.cell 2
                have sc3 := kB.cell 3
                have sc4 := kB.cell 4
                have sf0 := kB.frozen 0
                have sf1 := kB.frozen 1
                have sf2 := kB.frozen 2
                have sf3 := kB.frozen 3
                have sf4 := kB.frozen 4
                simp only [List.getElem?_toArray, List.getElem?_cons_zero, List.getElem?_cons_succ] at sc0 sc1 sc2 sc3 sc4
                refine draw_start [] (Kept [w.heap.size + 1 + 1]) (by kernel_rfl) ?_
                refine draw_chunk (n := 66) (by kernel_rfl) (fun _ _ _ _ _ h => h) [0, 1, 2] [] _ #[true, true, true, false, false, false] (by kernel_rfl) 3 _ ?_ _ rfl ?_ ?_
                rotate_left
                · intro w' hw'
                  have y := hw'.blk kQ.drew (qfact _ _ hqb.out); have z := hw'.blk kD.drew hqd; have y1 := y.lt; have z1 := z.lt; have y0 := y.cell 0; have ya := y.cell 1; have yb := y.cell 2; have yc := y.cell 3; have yd := y.cell 4; have za := z.cell 1; simp only [List.getElem?_toArray, List.getElem?_cons_zero, List.getElem?_cons_succ] at y0 ya yb yc yd za
                  refine ci_step (i := 0) (v := ?_) rfl (by kernel_rfl) ?_ ?_
                  rotate_left
                  · first | (go_simp; done) | (go_simp; with_reducible rfl)
                  skip
                  try simp only [Act.put, List.setIfInBounds_toArray, List.set_cons_zero, List.set_cons_succ]
                  refine ci_step (i := 1) (v := ?_) rfl (by kernel_rfl) ?_ ?_
                  rotate_left
                  · first | (go_simp; done) | (go_simp; with_reducible rfl)
                  skip
                  try simp only [Act.put, List.setIfInBounds_toArray, List.set_cons_zero, List.set_cons_succ]
                  refine ci_step (i := 2) (v := ?_) rfl (by kernel_rfl) ?_ ?_
                  rotate_left
                  · first | (go_simp; done) | (go_simp; with_reducible rfl)
                  skip
                  try simp only [Act.put, List.setIfInBounds_toArray, List.set_cons_zero, List.set_cons_succ]
                  refine ci_end ?_
                  rfl
                refine draw_eff (i := 3) rfl (by kernel_rfl) (listed' := #[true, true, true, true, false, false]) rfl (fun K hK => ?_)
                replace hK := Lib.hid hK
                go_wp2_with fail
                have hk5 := kept_set5 w5 (w.heap.size + 1 + 1) (.int .i64 rn) (.int .u32 ri) (.int .u32 rs) (.int .u16 rm') (.int .i64 rx)
                refine hK.out _ _ ⟨fun _ => ⟨hk5.os, hk5.tape, hk5.output, hk5.size, hk5.block⟩, ?_⟩
                clear hK
                refine draw_chunk (n := 66) (by kernel_rfl) (fun _ _ _ _ _ h => h) [4, 5] [] _ #[true, true, true, true, true, true] (by kernel_rfl) 0 _ ?_ _ rfl ?_ ?_
                rotate_left
                · intro w' hw'
                  refine ci_step (i := 4) (v := ?_) rfl (by kernel_rfl) ?_ ?_
                  rotate_left
                  · first | (go_simp; done) | (go_simp; with_reducible rfl)
                  skip
                  try simp only [Act.put, List.setIfInBounds_toArray, List.set_cons_zero, List.set_cons_succ]
                  refine ci_step (i := 5) (v := ?_) rfl (by kernel_rfl) ?_ ?_
                  rotate_left
                  · first | (go_simp; done) | (go_simp; with_reducible rfl)
                  skip
                  try simp only [Act.put, List.setIfInBounds_toArray, List.set_cons_zero, List.set_cons_succ]
                  refine ci_end ?_
                  rfl
                refine draw_done (by kernel_rfl) ?_ _
                replace kP := hk5.blk kP (by simp; omega)
                replace kR := hk5.blk kR (by simp)
                replace kB := blk_set5 kB (.int .i64 rn) (.int .u32 ri) (.int .u32 rs) (.int .u16 rm') (.int .i64 rx)
                replace hb := hk5.below hb hb.size (by simp; omega)
                clear hk5 sc0 sc1 sc2 sc3 sc4 sf0 sf1 sf2 sf3 sf4 s0 q0 c6 q2
                generalize (((((w5.setCell ⟨w.heap.size + 1 + 1, 0, none⟩ (.int .i64 rn)).setCell ⟨w.heap.size + 1 + 1, 1, none⟩ (.int .u32 ri)).setCell ⟨w.heap.size + 1 + 1, 2, none⟩ (.int .u32 rs)).setCell ⟨w.heap.size + 1 + 1, 3, none⟩ (.int .u16 rm')).setCell ⟨w.heap.size + 1 + 1, 4, none⟩ (.int .i64 rx)).drew = W6 at *
                go_wp2
                go_roundw
                case rel => exact ⟨k + 1, by omega, by go_num, HN.out ▸ rfl, HN.out ▸ rfl, kP, kR, by rw [HN.out]; exact kB, hb⟩
                case measure => simp [intOf]; omega
              | true =>
                by_cases hlt2 : d < mt
                · rw [if_pos ⟨hd, .inr hlt2⟩] at HN
                  go_wp2_with fail
                  have kd := kD
                  have q0 := kQ.lt
                  have hqd : qd ∉ [w.heap.size + 1 + 1] := by have := kD.nE kB (by decide); simpa using this
                  have s0 := kB.lt
                  have sc0 := kB.cell 0
                  have sc1 := kB.cell 1
                  have sc2 := kB.cell 2
                  have sc3 := kB.cell 3
                  have sc4 := kB.cell 4
                  have sf0 := kB.frozen 0
                  have sf1 := kB.frozen 1
                  have sf2 := kB.frozen 2
                  have sf3 := kB.frozen 3
                  have sf4 := kB.frozen 4
                  simp only [List.getElem?_toArray, List.getElem?_cons_zero, List.getElem?_cons_succ] at sc0 sc1 sc2 sc3 sc4
                  refine draw_start [] (Kept [w.heap.size + 1 + 1]) (by kernel_rfl) ?_
                  refine draw_chunk (n := 66) (by kernel_rfl) (fun _ _ _ _ _ h => h) [0, 1, 2] [] _ #[true, true, true, false, false, false] (by kernel_rfl) 3 _ ?_ _ rfl ?_ ?_
                  rotate_left
                  · intro w' hw'
                    have y := hw'.blk kQ.drew (qfact _ _ hqb.out); have z := hw'.blk kD.drew hqd; have y1 := y.lt; have z1 := z.lt; have y0 := y.cell 0; have ya := y.cell 1; have yb := y.cell 2; have yc := y.cell 3; have yd := y.cell 4; have za := z.cell 1; simp only [List.getElem?_toArray, List.getElem?_cons_zero, List.getElem?_cons_succ] at y0 ya yb yc yd za
                    refine ci_step (i := 0) (v := ?_) rfl (by kernel_rfl) ?_ ?_
                    rotate_left
                    · first | (go_simp; done) | (go_simp; with_reducible rfl)
                    skip
                    try simp only [Act.put, List.setIfInBounds_toArray, List.set_cons_zero, List.set_cons_succ]
                    refine ci_step (i := 1) (v := ?_) rfl (by kernel_rfl) ?_ ?_
                    rotate_left
                    · first | (go_simp; done) | (go_simp; with_reducible rfl)
                    skip
                    try simp only [Act.put, List.setIfInBounds_toArray, List.set_cons_zero, List.set_cons_succ]
                    refine ci_step (i := 2) (v := ?_) rfl (by kernel_rfl) ?_ ?_
                    rotate_left
                    · first | (go_simp; done) | (go_simp; with_reducible rfl)
                    skip
                    try simp only [Act.put, List.setIfInBounds_toArray, List.set_cons_zero, List.set_cons_succ]
                    refine ci_end ?_
                    rfl
                  refine draw_eff (i := 3) rfl (by kernel_rfl) (listed' := #[true, true, true, true, false, false]) rfl (fun K hK => ?_)
                  replace hK := Lib.hid hK
                  go_wp2_with fail
                  have hk5 := kept_set5 w5 (w.heap.size + 1 + 1) (.int .i64 rn) (.int .u32 ri) (.int .u32 rs) (.int .u16 rm') (.int .i64 rx)
                  refine hK.out _ _ ⟨fun _ => ⟨hk5.os, hk5.tape, hk5.output, hk5.size, hk5.block⟩, ?_⟩
                  clear hK
                  refine draw_chunk (n := 66) (by kernel_rfl) (fun _ _ _ _ _ h => h) [4, 5] [] _ #[true, true, true, true, true, true] (by kernel_rfl) 0 _ ?_ _ rfl ?_ ?_
                  rotate_left
                  · intro w' hw'
                    refine ci_step (i := 4) (v := ?_) rfl (by kernel_rfl) ?_ ?_
                    rotate_left
                    · first | (go_simp; done) | (go_simp; with_reducible rfl)
                    skip
                    try simp only [Act.put, List.setIfInBounds_toArray, List.set_cons_zero, List.set_cons_succ]
                    refine ci_step (i := 5) (v := ?_) rfl (by kernel_rfl) ?_ ?_
                    rotate_left
                    · first | (go_simp; done) | (go_simp; with_reducible rfl)
                    skip
                    try simp only [Act.put, List.setIfInBounds_toArray, List.set_cons_zero, List.set_cons_succ]
                    refine ci_end ?_
                    rfl
                  refine draw_done (by kernel_rfl) ?_ _
                  replace kP := hk5.blk kP (by simp; omega)
                  replace kR := hk5.blk kR (by simp)
                  replace kB := blk_set5 kB (.int .i64 rn) (.int .u32 ri) (.int .u32 rs) (.int .u16 rm') (.int .i64 rx)
                  replace hb := hk5.below hb hb.size (by simp; omega)
                  clear hk5 sc0 sc1 sc2 sc3 sc4 sf0 sf1 sf2 sf3 sf4 s0 q0 c6 q2
                  generalize (((((w5.setCell ⟨w.heap.size + 1 + 1, 0, none⟩ (.int .i64 rn)).setCell ⟨w.heap.size + 1 + 1, 1, none⟩ (.int .u32 ri)).setCell ⟨w.heap.size + 1 + 1, 2, none⟩ (.int .u32 rs)).setCell ⟨w.heap.size + 1 + 1, 3, none⟩ (.int .u16 rm')).setCell ⟨w.heap.size + 1 + 1, 4, none⟩ (.int .i64 rx)).drew = W6 at *
                  go_wp2
                  go_roundw
                  case rel => exact ⟨k + 1, by omega, by go_num, HN.out ▸ rfl, HN.out ▸ rfl, kP, kR, by rw [HN.out]; exact kB, hb⟩
                  case measure => simp [intOf]; omega
                · rw [if_neg (by simp [hlt2])] at HN
                  go_wp2
                  go_roundw
                  case rel => exact ⟨k + 1, by omega, by go_num, HN.out ▸ rfl, HN.out ▸ rfl, kP, kR, by rw [HN.out]; exact kB, hb⟩
                  case measure => simp [intOf]; omega
    · obtain rfl : k = 9 := by omega
      have r0 := kR.lt
      have b0 := kB.lt
      obtain ⟨⟨⟨sn, si, ss, sm, sx⟩, mt, fd⟩, hS⟩ : ∃ S, pickN m a l cost may 9 = S := ⟨_, rfl⟩
      rw [hS] at kB ⊢
      simp only at kB
      replace hS := Lib.hid hS
      have rc0 := kR.cell 0
      have rc1 := kR.cell 1
      have rc2 := kR.cell 2
      have rc3 := kR.cell 3
      have rc4 := kR.cell 4
      have rf0 := kR.frozen 0
      have rf1 := kR.frozen 1
      have rf2 := kR.frozen 2
      have rf3 := kR.frozen 3
      have rf4 := kR.frozen 4
      have bc0 := kB.cell 0
      have bc1 := kB.cell 1
      have bc2 := kB.cell 2
      have bc3 := kB.cell 3
      have bc4 := kB.cell 4
      simp only [List.getElem?_toArray, List.getElem?_cons_zero, List.getElem?_cons_succ] at rc0 rc1 rc2 rc3 rc4 bc0 bc1 bc2 bc3 bc4
      go_wp2
      try rw [Exit.noGoto_ret]
      refine bodyPost_ret (v := .tuple #[.agg #[.int .i64 sn, .int .u32 si, .int .u32 ss, .int .u16 sm, .int .i64 sx], .bool fd]) ?_ rfl ⟨by rw [hS.out]; rfl, ((((hb.setCell (by simp) _).setCell (by simp) _).setCell (by simp) _).setCell (by simp) _).setCell (by simp) _⟩
      simp [results, Try.results47, go_sem, rc0, rc1, rc2, rc3, rc4, r0]
end Go.Proofs.Ytnfaeafplaeehaa
