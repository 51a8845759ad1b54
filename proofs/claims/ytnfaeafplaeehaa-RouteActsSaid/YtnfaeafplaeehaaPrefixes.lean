import Derived.Test.YtnfaeafplaeehaaPrefs
set_option linter.unusedVariables false
set_option linter.unusedSimpArgs false
namespace Go.Proofs.Ytnfaeafplaeehaa
open Go.RowKit Go.Sort Go.Lib Go.Shelf
/-! The table's prefixes, each handed to a function of the caller's. -/
/-- What a call of the caller's function leaves as it is: rows of keys, and the boxes of tables. -/
def staysT : Obj → Bool
  | .cells _ t m => decide ((t = 140 ∨ t = 64) ∧ m = (0, 0))
  | _ => false
structure KeepsT (W W' : World) : Prop where
  size : W.heap.size ≤ W'.heap.size
  same : ∀ (k : Nat) (o : Obj), W.heap[k]? = some o → staysT o = true → W'.heap[k]? = some o
theorem KeepsT.refl (W : World) : KeepsT W W := ⟨Nat.le_refl _, fun _ _ h _ => h⟩
theorem KeepsT.trans {A B C : World} (h : KeepsT A B) (k : KeepsT B C) : KeepsT A C := ⟨Nat.le_trans h.size k.size, fun i o hi ho => k.same i o (h.same i o hi ho) ho⟩
theorem KeepsT.of_below {A B : World} (h : Below A.heap.size A B) : KeepsT A B := ⟨h.size, fun i o hi _ => (h.block i (lt_of_heap hi)).trans hi⟩
theorem KeepsT.drew {A B : World} (h : KeepsT A B) : KeepsT A B.drew := ⟨h.size, h.same⟩
theorem KeepsT.box {A B : World} (h : KeepsT A B) {g : Nat} {cs : Array Value} (hb : Blk A g 64 cs) : Blk B g 64 cs := h.same g _ hb (by simp [staysT])
theorem KeepsT.row {A B : World} (h : KeepsT A B) {n : Nat} {ad : Option Addr} {cs : List Value} (hr : Row A 3 ad n cs) (hb : ∀ b off, ad = some ⟨b, off, none⟩ → ∃ cur, A.heap[b]? = some (.cells cur 140 (0, 0))) : Row B 3 ad n cs := by
  obtain ⟨a, b, c⟩ := hr
  refine ⟨a, b, fun h0 => ?_⟩
  obtain ⟨g, off, e, hlt, hc⟩ := c h0
  obtain ⟨cur, hcur⟩ := hb g off e
  exact ⟨g, off, e, Nat.lt_of_lt_of_le hlt h.size, fun j u hj => (World.cell?_of_block (w := A) ((h.same g _ hcur (by simp [staysT])).trans hcur.symm)).trans (hc j u hj)⟩
theorem take_p (ss : List RKey) (k : Nat) (hk : k < ss.length) : uniqP ((ss.take (k + 1)).map RKey.p) = if k ≠ 0 ∧ ((ss.getD (k - 1) ⟨0, 0, 0⟩).p = ss[k].p) then uniqP ((ss.take k).map RKey.p) else uniqP ((ss.take k).map RKey.p) ++ [ss[k].p] := by
  rw [List.take_succ_eq_append_getElem hk, List.map_append, List.map_singleton, uniqP_snoc]
  cases k with
  | zero => simp
  | succ k =>
    have h1 : ((ss.take (k + 1)).map RKey.p).getLast? = some (ss.getD k ⟨0, 0, 0⟩).p := by
      rw [List.take_succ_eq_append_getElem (show k < ss.length by omega), List.map_append, List.map_singleton, List.getLast?_concat]
      simp [show k < ss.length by omega]
    rw [h1]
    simp
theorem tb_keys (mb : Option Nat) (w : World) : Calls Try.prog 68 #[.map mb] w fun e w' => e = .returned (.func (.func 99) #[] #[.pointer (some ⟨w.heap.size, 0, none⟩)]) ∧ w' = w.alloc (.cells #[.map mb] 136) := by
  go_enter Try.func68, Try.ntmps68
  go_wp2
  go_ret
  exact ⟨rfl, rfl⟩
theorem pfx_app (ss : List RKey) (k : Nat) (q : List Pfx) (h : uniqP ((ss.take k).map RKey.p) = q) : uniqP (ss.map RKey.p) = q ++ ((uniqP (ss.map RKey.p)).drop q.length) := by
  obtain ⟨post, hp⟩ := uniqP_app ((ss.drop k).map RKey.p) ((ss.take k).map RKey.p)
  rw [← List.map_append, List.take_append_drop, h] at hp
  rw [hp]
  simp
attribute [-go_sem] Go.run_equalIn_agg in
set_option maxHeartbeats 4000000 in
theorem prefixes_of (g : Nat) (caps : Array Value) (eg : ∀ args w, (callFunc g args).run Try.prog w = .ok (.enter g args) w) (m : List (RKey × Rt)) (t gm bx : Nat) (w0 : World) (hT : TbAt w0 t gm m)
    (kbx : Blk w0 bx 64 #[.pointer (some ⟨t, 0, none⟩)]) (hN : m.length ≤ 1000000) (J Jx : List Pfx → World → Prop) (hJ : ∀ pre W W', J pre W → Below W.heap.size W W' → J pre W') (hX : ∀ pre W W', Jx pre W → Below W.heap.size W W' → Jx pre W')
    (hY : ∀ pre x W, J pre W → pre.length < m.length → Calls Try.prog g (#[x.val] ++ caps) W fun e W' => KeepsT W W' ∧ ((e = .returned (.bool true) ∧ J (pre ++ [x]) W') ∨ (e = .returned (.bool false) ∧ Jx (pre ++ [x]) W'))) (h0 : J [] w0) :
    Calls Try.prog 66 #[.func (.func g) #[] caps, .pointer (some ⟨bx, 0, none⟩)] w0 fun e w' => e = .returned (.tuple #[]) ∧ ∃ ps, IsPrefs m ps ∧ (J ps w' ∨ ∃ pre post, ps = pre ++ post ∧ Jx pre w') := by
  have c1 := kbx.cell 0
  simp only [List.getElem?_toArray, List.getElem?_cons_zero] at c1
  have b0 := hT.1.cell 0
  simp only [List.getElem?_toArray, List.getElem?_cons_zero] at b0
  have hs1 := sRt_func w0.heap.size gm m (w0.alloc (.cells #[.map (some gm)] 136)) (by simp) (by simp) (hT.2.1.alloc _) hN
  go_enter Try.func66, Try.ntmps66
  go_wp2_with (first
    | (go_at_call 68; refine (tb_keys _ _).mono ?_; rintro e w1 ⟨rfl, rfl⟩)
    | (go_at_call 67; refine hs1.mono ?_))
  rintro e w1 ⟨ad, c, ss, rfl, hp, hs, hr, hb1, hfr⟩
  have hlen : ss.length = m.length := by have := hp.length_eq; simpa using this
  have HP := Lib.hid (isPrefs_of hp hs)
  have hmax := hr.2.1
  have hcur : ∀ b off, ad = some ⟨b, off, none⟩ → ∃ cur, w1.heap[b]? = some (.cells cur 140 (0, 0)) := fun b off h => (hfr b off h).2
  have hj0 := hJ _ _ _ h0 (((Below.refl _ w0).alloc (Nat.le_refl _) (.cells #[.map (some gm)] 136)).trans (hb1.mono (by simp)))
  have HLN := Lib.hid hlen
  clear hfr hs hp hs1 c1 b0 h0 hlen hb1
  go_wp2
  go_loopw [14] (fun i wr => ∃ k : Nat, k ≤ ss.length ∧ i = .int .i64 k ∧ J (uniqP ((ss.take k).map RKey.p)) wr ∧ KeepsT w1 wr) (fun i _ => ss.length - (intOf i).toNat)
  case atStart => exact ⟨0, Nat.zero_le _, rfl, hj0, KeepsT.refl _⟩
  case round =>
    clear hj0
    obtain ⟨k, hk, rfl, hj, hw⟩ := hrel
    by_cases hlt : k < ss.length
    · obtain ⟨b, off, rfl, hbl, hcell⟩ := (hw.row hr hcur).2.2 (by omega)
      have hpl : (uniqP ((ss.take k).map RKey.p)).length < m.length := by
        have h1 := uniqP_len ((ss.take k).map RKey.p)
        have h2 := HLN.out
        rw [List.length_map, List.length_take] at h1
        omega
      have e0 := hcell (k * 3 + 0) _ ((flat_get RKey.cells 3 (fun _ => rfl) ss k 0 hlt (by omega)).trans rfl)
      have e1 := hcell (k * 3 + 1) _ ((flat_get RKey.cells 3 (fun _ => rfl) ss k 1 hlt (by omega)).trans rfl)
      have e2 := hcell (k * 3 + 2) _ ((flat_get RKey.cells 3 (fun _ => rfl) ss k 2 hlt (by omega)).trans rfl)
      have HT := Lib.hid (take_p ss k hlt)
      have HPL := Lib.hid hpl
      clear hpl
      have HA := Lib.hid (fun q (h : uniqP ((ss.take (k + 1)).map RKey.p) = q) => pfx_app ss (k + 1) q h)
      by_cases hk0 : k = 0
      · have hk1 : ((k : Int) == 0) = true := beq_iff_eq.2 (by omega)
        rw [if_neg (by simp [hk0])] at HT
        clear hk0
        generalize ss[k] = x at *
        obtain ⟨xa, xl, xn⟩ := x
        simp only [← Nat.add_assoc, Nat.add_zero] at e0 e1 e2
        clear hcell
        go_wp2
        have hbA := (Below.refl wr.heap.size wr).alloc (Nat.le_refl _) (.cells #[.int .u32 xa, .int .i64 xl, .int .i64 xn] 140)
        have kx := Blk.new wr 140 #[.int .u32 xa, .int .i64 xl, .int .i64 xn]
        replace hw := hw.trans (KeepsT.of_below hbA)
        replace hj := hJ _ _ _ hj hbA
        clear hbA e0 e1 e2 hr
        generalize wr.alloc (.cells #[.int .u32 xa, .int .i64 xl, .int .i64 xn] 140) = W at *
        generalize wr.heap.size = q at *
        have v2 := kx.lt
        have x0 := kx.cell 0
        have x1 := kx.cell 1
        have x2 := kx.cell 2
        simp only [List.getElem?_toArray, List.getElem?_cons_zero, List.getElem?_cons_succ] at x0 x1 x2
        refine draw_start [17] Later (by kernel_rfl) ?_
        refine draw_chunk (n := 40) (by kernel_rfl) (fun _ _ _ _ _ h => h) [0, 1, 2, 3, 4, 5, 6, 7, 8, 9, 10, 11, 12, 13, 14, 15, 16] [] _ #[true, true, true, true, true, true, true, true, true, true, true, true, true, true, true, true, true, false, false, false] (by kernel_rfl) 3 _ ?_ _ rfl ?_ ?_
        rotate_left
        · intro w' hw'
          have hc' : ∀ b o, b < W.heap.size → w'.cell? ⟨b, o, none⟩ = W.cell? ⟨b, o, none⟩ := (bcell hw').1
          refine ci_step (i := 0) (v := ?_) rfl (by kernel_rfl) ?_ ?_
          rotate_left
          · first | (go_simp; done) | (go_simp; with_reducible rfl)
          skip
          try simp only [Act.put, List.setIfInBounds_toArray, List.set_cons_zero, List.set_cons_succ]
          refine ci_step (i := 1) (v := ?_) rfl (by kernel_rfl) ?_ ?_
          rotate_left
          · first | (go_simp; done) | (go_simp; with_reducible rfl)
          skip
          try simp only [Act.put, List.setIfInBounds_toArray, List.set_cons_zero, List.set_cons_succ]
          refine ci_step (i := 2) (v := ?_) rfl (by kernel_rfl) ?_ ?_
          rotate_left
          · first | (go_simp; done) | (go_simp; with_reducible rfl)
          skip
          try simp only [Act.put, List.setIfInBounds_toArray, List.set_cons_zero, List.set_cons_succ]
          refine ci_off (i := 3) rfl (by kernel_rfl) ?_
          try simp only [Act.put, List.setIfInBounds_toArray, List.set_cons_zero, List.set_cons_succ]
          refine ci_off (i := 4) rfl (by kernel_rfl) ?_
          try simp only [Act.put, List.setIfInBounds_toArray, List.set_cons_zero, List.set_cons_succ]
          refine ci_off (i := 5) rfl (by kernel_rfl) ?_
          try simp only [Act.put, List.setIfInBounds_toArray, List.set_cons_zero, List.set_cons_succ]
          refine ci_off (i := 6) rfl (by kernel_rfl) ?_
          try simp only [Act.put, List.setIfInBounds_toArray, List.set_cons_zero, List.set_cons_succ]
          refine ci_off (i := 7) rfl (by kernel_rfl) ?_
          try simp only [Act.put, List.setIfInBounds_toArray, List.set_cons_zero, List.set_cons_succ]
          refine ci_off (i := 8) rfl (by kernel_rfl) ?_
          try simp only [Act.put, List.setIfInBounds_toArray, List.set_cons_zero, List.set_cons_succ]
          refine ci_off (i := 9) rfl (by kernel_rfl) ?_
          try simp only [Act.put, List.setIfInBounds_toArray, List.set_cons_zero, List.set_cons_succ]
          refine ci_off (i := 10) rfl (by kernel_rfl) ?_
          try simp only [Act.put, List.setIfInBounds_toArray, List.set_cons_zero, List.set_cons_succ]
          refine ci_off (i := 11) rfl (by kernel_rfl) ?_
          try simp only [Act.put, List.setIfInBounds_toArray, List.set_cons_zero, List.set_cons_succ]
          refine ci_step (i := 12) (v := ?_) rfl (by kernel_rfl) ?_ ?_
          rotate_left
          · first | (go_simp; done) | (go_simp; with_reducible rfl)
          skip
          try simp only [Act.put, List.setIfInBounds_toArray, List.set_cons_zero, List.set_cons_succ]
          refine ci_step (i := 13) (v := ?_) rfl (by kernel_rfl) ?_ ?_
          rotate_left
          · first | (go_simp; done) | (go_simp; with_reducible rfl)
          skip
          try simp only [Act.put, List.setIfInBounds_toArray, List.set_cons_zero, List.set_cons_succ]
          refine ci_step (i := 14) (v := ?_) rfl (by kernel_rfl) ?_ ?_
          rotate_left
          · first | (go_simp; done) | (go_simp; with_reducible rfl)
          skip
          try simp only [Act.put, List.setIfInBounds_toArray, List.set_cons_zero, List.set_cons_succ]
          refine ci_step (i := 15) (v := ?_) rfl (by kernel_rfl) ?_ ?_
          rotate_left
          · first | (go_simp; done) | (go_simp; with_reducible rfl)
          skip
          try simp only [Act.put, List.setIfInBounds_toArray, List.set_cons_zero, List.set_cons_succ]
          refine ci_step (i := 16) (v := ?_) rfl (by kernel_rfl) ?_ ?_
          rotate_left
          · first | (go_simp; done) | (go_simp; with_reducible rfl)
          skip
          try simp only [Act.put, List.setIfInBounds_toArray, List.set_cons_zero, List.set_cons_succ]
          refine ci_end ?_
          rfl
        refine draw_eff (i := 17) rfl (by kernel_rfl) (listed' := #[true, true, true, true, true, true, true, true, true, true, true, true, true, true, true, true, true, true, false, false]) rfl (fun K hK => ?_)
        replace hK := Lib.hid hK
        have hy := hY (uniqP ((ss.take k).map RKey.p)) ⟨xa, xl⟩ W.drew (hJ _ _ _ hj (Below.drew (Below.refl _ _))) HPL.out
        simp only [Pfx.val] at hy
        go_wp2_with fail
        refine hy.mono ?_
        rintro e w2 ⟨hk2, ⟨rfl, hj2⟩ | ⟨rfl, hj2⟩⟩
        · go_wp2
          refine hK.out _ _ ⟨fun h => absurd (by decide) h, ?_⟩
          clear hK
          refine draw_chunk (n := 40) (by kernel_rfl) (fun _ _ _ _ _ h => h) [18, 19] [] _ #[true, true, true, true, true, true, true, true, true, true, true, true, true, true, true, true, true, true, true, true] (by kernel_rfl) 0 _ ?_ _ rfl ?_ ?_
          rotate_left
          · intro w' hw'
            have hc' : ∀ b o, b < w2.heap.size → w'.cell? ⟨b, o, none⟩ = w2.cell? ⟨b, o, none⟩ := (bcell hw').1
            refine ci_step (i := 18) (v := ?_) rfl (by kernel_rfl) ?_ ?_
            rotate_left
            · first | (go_simp; done) | (go_simp; with_reducible rfl)
            skip
            try simp only [Act.put, List.setIfInBounds_toArray, List.set_cons_zero, List.set_cons_succ]
            refine ci_step (i := 19) (v := ?_) rfl (by kernel_rfl) ?_ ?_
            rotate_left
            · first | (go_simp; done) | (go_simp; with_reducible rfl)
            skip
            try simp only [Act.put, List.setIfInBounds_toArray, List.set_cons_zero, List.set_cons_succ]
            refine ci_end ?_
            rfl
          refine draw_done (by kernel_rfl) ?_ _
          go_wp2
          go_roundw
          case rel => exact ⟨k + 1, by omega, by go_num, by rw [HT.out]; exact hj2, hw.drew.trans hk2⟩
          case measure => simp [intOf]; omega
        · go_wp2
          refine hK.out _ _ ⟨fun h => absurd (by decide) h, ?_⟩
          clear hK
          refine draw_chunk (n := 40) (by kernel_rfl) (fun _ _ _ _ _ h => h) [18, 19] [] _ #[true, true, true, true, true, true, true, true, true, true, true, true, true, true, true, true, true, true, true, true] (by kernel_rfl) 0 _ ?_ _ rfl ?_ ?_
          rotate_left
          · intro w' hw'
            have hc' : ∀ b o, b < w2.heap.size → w'.cell? ⟨b, o, none⟩ = w2.cell? ⟨b, o, none⟩ := (bcell hw').1
            refine ci_step (i := 18) (v := ?_) rfl (by kernel_rfl) ?_ ?_
            rotate_left
            · first | (go_simp; done) | (go_simp; with_reducible rfl)
            skip
            try simp only [Act.put, List.setIfInBounds_toArray, List.set_cons_zero, List.set_cons_succ]
            refine ci_step (i := 19) (v := ?_) rfl (by kernel_rfl) ?_ ?_
            rotate_left
            · first | (go_simp; done) | (go_simp; with_reducible rfl)
            skip
            try simp only [Act.put, List.setIfInBounds_toArray, List.set_cons_zero, List.set_cons_succ]
            refine ci_end ?_
            rfl
          refine draw_done (by kernel_rfl) ?_ _
          go_wp2
          refine bodyPost_ret (results_none rfl _ _ _) rfl ⟨rfl, _, HP.out, .inr ⟨_, _, HA.out _ HT.out, hj2⟩⟩
      · obtain ⟨j, rfl⟩ : ∃ j, k = j + 1 := ⟨k - 1, by omega⟩
        have hk1 : (((j + 1 : Nat) : Int) == 0) = false := beq_eq_false_iff_ne.2 (by omega)
        have hk2 : IntKind.i64.wrap (j : Int) = (j : Int) := by rw [IntKind.wrap_i64]; omega
        have hk3 : (j : Int) < (ss.length : Int) := by omega
        have hk4 : (0 : Int) ≤ (j : Int) := by omega
        have f0 := hcell (j * 3 + 0) _ ((flat_get RKey.cells 3 (fun _ => rfl) ss j 0 (by omega) (by omega)).trans rfl)
        have f1 := hcell (j * 3 + 1) _ ((flat_get RKey.cells 3 (fun _ => rfl) ss j 1 (by omega) (by omega)).trans rfl)
        rw [show ss.getD (j + 1 - 1) ⟨0, 0, 0⟩ = ss[j] by simp [show j < ss.length by omega]] at HT
        generalize ss[j + 1] = x at *
        generalize ss[j] = y at *
        obtain ⟨xa, xl, xn⟩ := x
        obtain ⟨ya, yl, yn⟩ := y
        simp only [← Nat.add_assoc, Nat.add_zero] at e0 e1 e2 f0 f1
        clear hcell hk0
        have hpe : ∀ w, (Op.equalIn 10000 25 (.agg #[.int .u32 ya, .int .i64 yl]) (.agg #[.int .u32 xa, .int .i64 xl])).run Try.prog w = .ok (decide ((⟨ya, yl⟩ : Pfx) = ⟨xa, xl⟩)) w := pfx_eq 9998 ⟨ya, yl⟩ ⟨xa, xl⟩
        go_wp2
        have hbA := (Below.refl wr.heap.size wr).alloc (Nat.le_refl _) (.cells #[.int .u32 xa, .int .i64 xl, .int .i64 xn] 140)
        have kx := Blk.new wr 140 #[.int .u32 xa, .int .i64 xl, .int .i64 xn]
        replace hw := hw.trans (KeepsT.of_below hbA)
        replace hj := hJ _ _ _ hj hbA
        replace f0 := (bcell hbA).1 b _ hbl |>.trans f0
        replace f1 := (bcell hbA).1 b _ hbl |>.trans f1
        replace hbl := Nat.lt_of_lt_of_le hbl hbA.size
        clear hbA e0 e1 e2 hr hcur
        generalize wr.alloc (.cells #[.int .u32 xa, .int .i64 xl, .int .i64 xn] 140) = W at *
        generalize wr.heap.size = q at *
        have v2 := kx.lt
        have x0 := kx.cell 0
        have x1 := kx.cell 1
        have x2 := kx.cell 2
        simp only [List.getElem?_toArray, List.getElem?_cons_zero, List.getElem?_cons_succ] at x0 x1 x2
        by_cases hsame : (⟨ya, yl⟩ : Pfx) = ⟨xa, xl⟩
        · rw [if_pos ⟨by omega, hsame⟩] at HT
          rw [decide_eq_true hsame] at hpe
          clear hsame
          refine draw_start [] Later (by kernel_rfl) ?_
          refine draw_chunk (n := 40) (by kernel_rfl) (fun _ _ _ _ _ h => h) [0, 1, 2, 3, 4, 5, 6, 7, 8, 9, 10, 11, 12, 13, 14, 15, 16, 17, 18, 19] [] _ #[true, true, true, true, true, true, true, true, true, true, true, true, true, true, true, true, true, true, true, true] (by kernel_rfl) 0 _ ?_ _ rfl ?_ ?_
          rotate_left
          · intro w' hw'
            have hc' : ∀ b o, b < W.heap.size → w'.cell? ⟨b, o, none⟩ = W.cell? ⟨b, o, none⟩ := (bcell hw').1
            have f0' := (hc' b _ hbl).trans f0; have f1' := (hc' b _ hbl).trans f1
            refine ci_step (i := 0) (v := ?_) rfl (by kernel_rfl) ?_ ?_
            rotate_left
            · first | (go_simp; done) | (go_simp; with_reducible rfl)
            skip
            try simp only [Act.put, List.setIfInBounds_toArray, List.set_cons_zero, List.set_cons_succ]
            refine ci_step (i := 1) (v := ?_) rfl (by kernel_rfl) ?_ ?_
            rotate_left
            · first | (go_simp; done) | (go_simp; with_reducible rfl)
            skip
            try simp only [Act.put, List.setIfInBounds_toArray, List.set_cons_zero, List.set_cons_succ]
            refine ci_step (i := 2) (v := ?_) rfl (by kernel_rfl) ?_ ?_
            rotate_left
            · first | (go_simp; done) | (go_simp; with_reducible rfl)
            skip
            try simp only [Act.put, List.setIfInBounds_toArray, List.set_cons_zero, List.set_cons_succ]
            refine ci_step (i := 3) (v := ?_) rfl (by kernel_rfl) ?_ ?_
            rotate_left
            · first | (go_simp; done) | (go_simp; with_reducible rfl)
            skip
            try simp only [Act.put, List.setIfInBounds_toArray, List.set_cons_zero, List.set_cons_succ]
            refine ci_step (i := 4) (v := ?_) rfl (by kernel_rfl) ?_ ?_
            rotate_left
            · first | (go_simp; done) | (go_simp; with_reducible rfl)
            skip
            try simp only [Act.put, List.setIfInBounds_toArray, List.set_cons_zero, List.set_cons_succ]
            refine ci_step (i := 5) (v := ?_) rfl (by kernel_rfl) ?_ ?_
            rotate_left
            · first | (go_simp; done) | (go_simp; with_reducible rfl)
            skip
            try simp only [Act.put, List.setIfInBounds_toArray, List.set_cons_zero, List.set_cons_succ]
            refine ci_step (i := 6) (v := ?_) rfl (by kernel_rfl) ?_ ?_
            rotate_left
            · first | (go_simp; done) | (go_simp; with_reducible rfl)
            skip
            try simp only [Act.put, List.setIfInBounds_toArray, List.set_cons_zero, List.set_cons_succ]
            refine ci_step (i := 7) (v := ?_) rfl (by kernel_rfl) ?_ ?_
            rotate_left
            · first | (go_simp; done) | (go_simp; with_reducible rfl)
            skip
            try simp only [Act.put, List.setIfInBounds_toArray, List.set_cons_zero, List.set_cons_succ]
            refine ci_step (i := 8) (v := ?_) rfl (by kernel_rfl) ?_ ?_
            rotate_left
            · first | (go_simp; done) | (go_simp; with_reducible rfl)
            skip
            try simp only [Act.put, List.setIfInBounds_toArray, List.set_cons_zero, List.set_cons_succ]
            refine ci_step (i := 9) (v := ?_) rfl (by kernel_rfl) ?_ ?_
            rotate_left
            · first | (go_simp; done) | (go_simp; with_reducible rfl)
            skip
            try simp only [Act.put, List.setIfInBounds_toArray, List.set_cons_zero, List.set_cons_succ]
            refine ci_step (i := 10) (v := ?_) rfl (by kernel_rfl) ?_ ?_
            rotate_left
            · first | (go_simp; done) | (go_simp; with_reducible rfl)
            skip
            try simp only [Act.put, List.setIfInBounds_toArray, List.set_cons_zero, List.set_cons_succ]
            refine ci_step (i := 11) (v := ?_) rfl (by kernel_rfl) ?_ ?_
            rotate_left
            · first | (go_simp; done) | (go_simp; with_reducible rfl)
            skip
            try simp only [Act.put, List.setIfInBounds_toArray, List.set_cons_zero, List.set_cons_succ]
            refine ci_step (i := 12) (v := ?_) rfl (by kernel_rfl) ?_ ?_
            rotate_left
            · first | (go_simp; done) | (go_simp; with_reducible rfl)
            skip
            try simp only [Act.put, List.setIfInBounds_toArray, List.set_cons_zero, List.set_cons_succ]
            refine ci_step (i := 13) (v := ?_) rfl (by kernel_rfl) ?_ ?_
            rotate_left
            · first | (go_simp; done) | (go_simp; with_reducible rfl)
            skip
            try simp only [Act.put, List.setIfInBounds_toArray, List.set_cons_zero, List.set_cons_succ]
            refine ci_off (i := 14) rfl (by kernel_rfl) ?_
            try simp only [Act.put, List.setIfInBounds_toArray, List.set_cons_zero, List.set_cons_succ]
            refine ci_off (i := 15) rfl (by kernel_rfl) ?_
            try simp only [Act.put, List.setIfInBounds_toArray, List.set_cons_zero, List.set_cons_succ]
            refine ci_off (i := 16) rfl (by kernel_rfl) ?_
            try simp only [Act.put, List.setIfInBounds_toArray, List.set_cons_zero, List.set_cons_succ]
            refine ci_off (i := 17) rfl (by kernel_rfl) ?_
            try simp only [Act.put, List.setIfInBounds_toArray, List.set_cons_zero, List.set_cons_succ]
            refine ci_off (i := 18) rfl (by kernel_rfl) ?_
            try simp only [Act.put, List.setIfInBounds_toArray, List.set_cons_zero, List.set_cons_succ]
            refine ci_step (i := 19) (v := ?_) rfl (by kernel_rfl) ?_ ?_
            rotate_left
            · first | (go_simp; done) | (go_simp; with_reducible rfl)
            skip
            try simp only [Act.put, List.setIfInBounds_toArray, List.set_cons_zero, List.set_cons_succ]
            refine ci_end ?_
            rfl
          refine draw_done (by kernel_rfl) ?_ _
          go_wp2
          go_roundw
          case rel => exact ⟨j + 1 + 1, by omega, by go_num, by rw [HT.out]; exact hJ _ _ _ hj (Below.drew (Below.refl _ _)), hw.drew⟩
          case measure => simp [intOf]; omega
        · rw [if_neg (by simp only [RKey.p]; exact fun h => hsame h.2)] at HT
          rw [decide_eq_false hsame] at hpe
          clear hsame
          refine draw_start [17] Later (by kernel_rfl) ?_
          refine draw_chunk (n := 40) (by kernel_rfl) (fun _ _ _ _ _ h => h) [0, 1, 2, 3, 4, 5, 6, 7, 8, 9, 10, 11, 12, 13, 14, 15, 16] [] _ #[true, true, true, true, true, true, true, true, true, true, true, true, true, true, true, true, true, false, false, false] (by kernel_rfl) 3 _ ?_ _ rfl ?_ ?_
          rotate_left
          · intro w' hw'
            have hc' : ∀ b o, b < W.heap.size → w'.cell? ⟨b, o, none⟩ = W.cell? ⟨b, o, none⟩ := (bcell hw').1
            have f0' := (hc' b _ hbl).trans f0; have f1' := (hc' b _ hbl).trans f1
            refine ci_step (i := 0) (v := ?_) rfl (by kernel_rfl) ?_ ?_
            rotate_left
            · first | (go_simp; done) | (go_simp; with_reducible rfl)
            skip
            try simp only [Act.put, List.setIfInBounds_toArray, List.set_cons_zero, List.set_cons_succ]
            refine ci_step (i := 1) (v := ?_) rfl (by kernel_rfl) ?_ ?_
            rotate_left
            · first | (go_simp; done) | (go_simp; with_reducible rfl)
            skip
            try simp only [Act.put, List.setIfInBounds_toArray, List.set_cons_zero, List.set_cons_succ]
            refine ci_step (i := 2) (v := ?_) rfl (by kernel_rfl) ?_ ?_
            rotate_left
            · first | (go_simp; done) | (go_simp; with_reducible rfl)
            skip
            try simp only [Act.put, List.setIfInBounds_toArray, List.set_cons_zero, List.set_cons_succ]
            refine ci_step (i := 3) (v := ?_) rfl (by kernel_rfl) ?_ ?_
            rotate_left
            · first | (go_simp; done) | (go_simp; with_reducible rfl)
            skip
            try simp only [Act.put, List.setIfInBounds_toArray, List.set_cons_zero, List.set_cons_succ]
            refine ci_step (i := 4) (v := ?_) rfl (by kernel_rfl) ?_ ?_
            rotate_left
            · first | (go_simp; done) | (go_simp; with_reducible rfl)
            skip
            try simp only [Act.put, List.setIfInBounds_toArray, List.set_cons_zero, List.set_cons_succ]
            refine ci_step (i := 5) (v := ?_) rfl (by kernel_rfl) ?_ ?_
            rotate_left
            · first | (go_simp; done) | (go_simp; with_reducible rfl)
            skip
            try simp only [Act.put, List.setIfInBounds_toArray, List.set_cons_zero, List.set_cons_succ]
            refine ci_step (i := 6) (v := ?_) rfl (by kernel_rfl) ?_ ?_
            rotate_left
            · first | (go_simp; done) | (go_simp; with_reducible rfl)
            skip
            try simp only [Act.put, List.setIfInBounds_toArray, List.set_cons_zero, List.set_cons_succ]
            refine ci_step (i := 7) (v := ?_) rfl (by kernel_rfl) ?_ ?_
            rotate_left
            · first | (go_simp; done) | (go_simp; with_reducible rfl)
            skip
            try simp only [Act.put, List.setIfInBounds_toArray, List.set_cons_zero, List.set_cons_succ]
            refine ci_step (i := 8) (v := ?_) rfl (by kernel_rfl) ?_ ?_
            rotate_left
            · first | (go_simp; done) | (go_simp; with_reducible rfl)
            skip
            try simp only [Act.put, List.setIfInBounds_toArray, List.set_cons_zero, List.set_cons_succ]
            refine ci_step (i := 9) (v := ?_) rfl (by kernel_rfl) ?_ ?_
            rotate_left
            · first | (go_simp; done) | (go_simp; with_reducible rfl)
            skip
            try simp only [Act.put, List.setIfInBounds_toArray, List.set_cons_zero, List.set_cons_succ]
            refine ci_step (i := 10) (v := ?_) rfl (by kernel_rfl) ?_ ?_
            rotate_left
            · first | (go_simp; done) | (go_simp; with_reducible rfl)
            skip
            try simp only [Act.put, List.setIfInBounds_toArray, List.set_cons_zero, List.set_cons_succ]
            refine ci_step (i := 11) (v := ?_) rfl (by kernel_rfl) ?_ ?_
            rotate_left
            · first | (go_simp; done) | (go_simp; with_reducible rfl)
            skip
            try simp only [Act.put, List.setIfInBounds_toArray, List.set_cons_zero, List.set_cons_succ]
            refine ci_step (i := 12) (v := ?_) rfl (by kernel_rfl) ?_ ?_
            rotate_left
            · first | (go_simp; done) | (go_simp; with_reducible rfl)
            skip
            try simp only [Act.put, List.setIfInBounds_toArray, List.set_cons_zero, List.set_cons_succ]
            refine ci_step (i := 13) (v := ?_) rfl (by kernel_rfl) ?_ ?_
            rotate_left
            · first | (go_simp; done) | (go_simp; with_reducible rfl)
            skip
            try simp only [Act.put, List.setIfInBounds_toArray, List.set_cons_zero, List.set_cons_succ]
            refine ci_step (i := 14) (v := ?_) rfl (by kernel_rfl) ?_ ?_
            rotate_left
            · first | (go_simp; done) | (go_simp; with_reducible rfl)
            skip
            try simp only [Act.put, List.setIfInBounds_toArray, List.set_cons_zero, List.set_cons_succ]
            refine ci_step (i := 15) (v := ?_) rfl (by kernel_rfl) ?_ ?_
            rotate_left
            · first | (go_simp; done) | (go_simp; with_reducible rfl)
            skip
            try simp only [Act.put, List.setIfInBounds_toArray, List.set_cons_zero, List.set_cons_succ]
            refine ci_step (i := 16) (v := ?_) rfl (by kernel_rfl) ?_ ?_
            rotate_left
            · first | (go_simp; done) | (go_simp; with_reducible rfl)
            skip
            try simp only [Act.put, List.setIfInBounds_toArray, List.set_cons_zero, List.set_cons_succ]
            refine ci_end ?_
            rfl
          refine draw_eff (i := 17) rfl (by kernel_rfl) (listed' := #[true, true, true, true, true, true, true, true, true, true, true, true, true, true, true, true, true, true, false, false]) rfl (fun K hK => ?_)
          replace hK := Lib.hid hK
          have hy := hY (uniqP ((ss.take (j + 1)).map RKey.p)) ⟨xa, xl⟩ W.drew (hJ _ _ _ hj (Below.drew (Below.refl _ _))) HPL.out
          simp only [Pfx.val] at hy
          go_wp2_with fail
          refine hy.mono ?_
          rintro e w2 ⟨hk2, ⟨rfl, hj2⟩ | ⟨rfl, hj2⟩⟩
          · go_wp2
            refine hK.out _ _ ⟨fun h => absurd (by decide) h, ?_⟩
            clear hK
            refine draw_chunk (n := 40) (by kernel_rfl) (fun _ _ _ _ _ h => h) [18, 19] [] _ #[true, true, true, true, true, true, true, true, true, true, true, true, true, true, true, true, true, true, true, true] (by kernel_rfl) 0 _ ?_ _ rfl ?_ ?_
            rotate_left
            · intro w' hw'
              have hc' : ∀ b o, b < w2.heap.size → w'.cell? ⟨b, o, none⟩ = w2.cell? ⟨b, o, none⟩ := (bcell hw').1
              refine ci_step (i := 18) (v := ?_) rfl (by kernel_rfl) ?_ ?_
              rotate_left
              · first | (go_simp; done) | (go_simp; with_reducible rfl)
              skip
              try simp only [Act.put, List.setIfInBounds_toArray, List.set_cons_zero, List.set_cons_succ]
              refine ci_step (i := 19) (v := ?_) rfl (by kernel_rfl) ?_ ?_
              rotate_left
              · first | (go_simp; done) | (go_simp; with_reducible rfl)
              skip
              try simp only [Act.put, List.setIfInBounds_toArray, List.set_cons_zero, List.set_cons_succ]
              refine ci_end ?_
              rfl
            refine draw_done (by kernel_rfl) ?_ _
            go_wp2
            go_roundw
            case rel => exact ⟨j + 1 + 1, by omega, by go_num, by rw [HT.out]; exact hj2, hw.drew.trans hk2⟩
            case measure => simp [intOf]; omega
          · go_wp2
            refine hK.out _ _ ⟨fun h => absurd (by decide) h, ?_⟩
            clear hK
            refine draw_chunk (n := 40) (by kernel_rfl) (fun _ _ _ _ _ h => h) [18, 19] [] _ #[true, true, true, true, true, true, true, true, true, true, true, true, true, true, true, true, true, true, true, true] (by kernel_rfl) 0 _ ?_ _ rfl ?_ ?_
            rotate_left
            · intro w' hw'
              have hc' : ∀ b o, b < w2.heap.size → w'.cell? ⟨b, o, none⟩ = w2.cell? ⟨b, o, none⟩ := (bcell hw').1
              refine ci_step (i := 18) (v := ?_) rfl (by kernel_rfl) ?_ ?_
              rotate_left
              · first | (go_simp; done) | (go_simp; with_reducible rfl)
              skip
              try simp only [Act.put, List.setIfInBounds_toArray, List.set_cons_zero, List.set_cons_succ]
              refine ci_step (i := 19) (v := ?_) rfl (by kernel_rfl) ?_ ?_
              rotate_left
              · first | (go_simp; done) | (go_simp; with_reducible rfl)
              skip
              try simp only [Act.put, List.setIfInBounds_toArray, List.set_cons_zero, List.set_cons_succ]
              refine ci_end ?_
              rfl
            refine draw_done (by kernel_rfl) ?_ _
            go_wp2
            refine bodyPost_ret (results_none rfl _ _ _) rfl ⟨rfl, _, HP.out, .inr ⟨_, _, HA.out _ HT.out, hj2⟩⟩
    · obtain rfl : k = ss.length := by omega
      rw [List.take_length] at hj
      go_wp2
      go_end0
      exact ⟨rfl, _, HP.out, .inl hj⟩
end Go.Proofs.Ytnfaeafplaeehaa
