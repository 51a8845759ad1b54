import Derived.Test.YtnfaeafplaeehaaShows2
set_option linter.unusedVariables false
set_option linter.unusedSimpArgs false
namespace Go.Proofs.Ytnfaeafplaeehaa
open Go.RowKit Go.Sort Go.Lib Go.Shelf
/-! The iterators over a state, with the model's closures as what they call. -/
theorem pfx_rise (ss : List Pfx) (h : ss.Pairwise fun x y => ltOf pfxCf y x = false) (hn : ss.Nodup) (k : Nat) (hk : k < ss.length) :
    k = 0 ∨ lessB ((ss.take k).getLast?.getD ⟨0, 0⟩).a ((ss.take k).getLast?.getD ⟨0, 0⟩).l ss[k].a ss[k].l = true := by
  cases k with
  | zero => exact .inl rfl
  | succ k =>
    refine .inr ?_
    have h1 : (ss.take (k + 1)).getLast?.getD ⟨0, 0⟩ = ss[k] := by
      rw [List.take_succ_eq_append_getElem (show k < ss.length by omega), List.getLast?_concat, Option.getD_some]
    rw [h1]
    have h2 := List.pairwise_iff_getElem.1 h k (k + 1) (by omega) hk (by omega)
    have h3 : ss[k] ≠ ss[k + 1] := List.pairwise_iff_getElem.1 hn k (k + 1) (by omega) hk (by omega)
    rw [pfxLt] at h2
    generalize ss[k] = x at *
    generalize ss[k + 1] = y at *
    obtain ⟨a, l⟩ := x
    obtain ⟨b, m⟩ := y
    simp only [ne_eq, Pfx.mk.injEq, lessB, decide_eq_true_eq, decide_eq_false_iff_not] at *
    omega
theorem key_rise (ss : List Key) (h : ss.Pairwise fun x y => ltOf kcmp y x = false) (hn : ss.Nodup) (k : Nat) (hk : k < ss.length) :
    k = 0 ∨ lessB ((ss.take k).getLast?.getD ⟨0, 0, 0⟩).a ((ss.take k).getLast?.getD ⟨0, 0, 0⟩).l ss[k].a ss[k].l = true ∨ (lessB ((ss.take k).getLast?.getD ⟨0, 0, 0⟩).a ((ss.take k).getLast?.getD ⟨0, 0, 0⟩).l ss[k].a ss[k].l = false ∧ ((ss.take k).getLast?.getD ⟨0, 0, 0⟩).a = ss[k].a ∧ ((ss.take k).getLast?.getD ⟨0, 0, 0⟩).l = ss[k].l ∧ ((ss.take k).getLast?.getD ⟨0, 0, 0⟩).id < ss[k].id) := by
  cases k with
  | zero => exact .inl rfl
  | succ k =>
    refine .inr ?_
    have h1 : (ss.take (k + 1)).getLast?.getD ⟨0, 0, 0⟩ = ss[k] := by
      rw [List.take_succ_eq_append_getElem (show k < ss.length by omega), List.getLast?_concat, Option.getD_some]
    rw [h1]
    have h2 := List.pairwise_iff_getElem.1 h k (k + 1) (by omega) hk (by omega)
    have h3 : ss[k] ≠ ss[k + 1] := List.pairwise_iff_getElem.1 hn k (k + 1) (by omega) hk (by omega)
    rw [keyLt] at h2
    generalize ss[k] = x at *
    generalize ss[k + 1] = y at *
    obtain ⟨a, l, i⟩ := x
    obtain ⟨b, m, j⟩ := y
    simp only [ne_eq, Key.mk.injEq, lessB, decide_eq_true_eq, decide_eq_false_iff_not] at *
    omega
theorem getM_mem {α β : Type} [DecidableEq α] (m : List (α × β)) (k : α) (h : k ∈ m.map (·.1)) : ∃ v, getM m k = some v := by
  induction m with
  | nil => simp at h
  | cons e m ih =>
    by_cases he : k = e.1
    · exact ⟨e.2, by unfold getM; rw [List.find?_cons_of_pos (by simpa using he)]; rfl⟩
    · have : k ∈ m.map (·.1) := by
        rcases List.mem_cons.1 h with h | h
        · exact absurd h he
        · exact h
      obtain ⟨v, hv⟩ := ih this
      exact ⟨v, by unfold getM at *; rw [List.find?_cons_of_neg (by simpa using he)]; exact hv⟩
theorem last_take {α : Type} (ss : List α) (d : α) (k : Nat) (hk : k < ss.length) : (ss.take (k + 1)).getLast?.getD d = ss[k] := by
  rw [List.take_succ_eq_append_getElem hk, List.getLast?_concat, Option.getD_some]
theorem three_off {w : World} {k bo bn bl : Nat} {t t1 t2 t3 : TypeId} {cs c1 c2 c3 : Array Value} (h : Blk w k t cs) (k1 : Blk w bo t1 c1) (k2 : Blk w bn t2 c2) (k3 : Blk w bl t3 c3) (n1 : t ≠ t1) (n2 : t ≠ t2) (n3 : t ≠ t3) : k ∉ [bo, bn, bl] := by
  simp only [List.mem_cons, List.not_mem_nil, or_false, not_or]
  exact ⟨h.ne k1 n1, h.ne k2 n2, h.ne k3 n3⟩
theorem map_off {α β : Type} {w : World} {k bo bn bl : Nat} {t1 t2 t3 : TypeId} {c1 c2 c3 : Array Value} {ek : α → Value} {ev : β → Value} {m : List (α × β)} (h : MapAt w k ek ev m) (k1 : Blk w bo t1 c1) (k2 : Blk w bn t2 c2) (k3 : Blk w bl t3 c3) : k ∉ [bo, bn, bl] := by
  simp only [List.mem_cons, List.not_mem_nil, or_false, not_or]
  exact ⟨h.ne k1, h.ne k2, h.ne k3⟩
theorem StAt.off {T t1 t2 t3 : TypeId} {w : World} {s g1 g2 bo bn bl : Nat} {σ : St} {c1 c2 c3 : Array Value} (h : StAt T w s g1 g2 σ) (k1 : Blk w bo t1 c1) (k2 : Blk w bn t2 c2) (k3 : Blk w bl t3 c3) (n1 : T ≠ t1) (n2 : T ≠ t2) (n3 : T ≠ t3) : s ∉ [bo, bn, bl] ∧ g1 ∉ [bo, bn, bl] ∧ g2 ∉ [bo, bn, bl] :=
  ⟨three_off h.1 k1 k2 k3 n1 n2 n3, map_off h.2.1 k1 k2 k3, map_off h.2.2.1 k1 k2 k3⟩
set_option maxHeartbeats 4000000 in
theorem owns1 (σ τ : St) (heq : ∀ k, getM σ.own k = getM τ.own k) (m h1 h2 s g1 g2 bm bs bo bn bl bx : Nat) (w : World) (hM : StAt 45 w m h1 h2 σ) (hS : StAt 121 w s g1 g2 τ)
    (kbm : Blk w bm 35 #[.pointer (some ⟨m, 0, none⟩)]) (kbs : Blk w bs 33 #[.pointer (some ⟨s, 0, none⟩)]) (kbx : Blk w bx 33 #[.pointer (some ⟨s, 0, none⟩)])
    (kbo : Blk w bo 4 #[.bool true]) (kbn : Blk w bn 3 #[.int .i64 (0 : Nat)]) (kbl : Blk w bl 25 #[.int .u32 0, .int .i64 0])
    (hnd : (τ.own.map (·.1)).Nodup) (hN : τ.own.length < 1000000) :
    Calls Try.prog 101 #[.func (.func 73) #[] #[.pointer (some ⟨bm, 0, none⟩), .pointer (some ⟨bs, 0, none⟩), .pointer (some ⟨bo, 0, none⟩), .pointer (some ⟨bn, 0, none⟩), .pointer (some ⟨bl, 0, none⟩)], .pointer (some ⟨bx, 0, none⟩)] w fun e w' => e = .returned (.tuple #[]) ∧ Blk w' bo 4 #[.bool true] ∧ Blk w' bn 3 #[.int .i64 τ.own.length] ∧ Kept [bo, bn, bl] w w' := by
  have c1 := kbx.cell 0
  simp only [List.getElem?_toArray, List.getElem?_cons_zero] at c1
  have hSB := hS.1
  have s0 := hSB.cell 0
  have s1 := hSB.cell 1
  have s2 := hSB.cell 2
  have s3 := hSB.cell 3
  have sf0 := hSB.frozen 0
  have sf1 := hSB.frozen 1
  have sf2 := hSB.frozen 2
  have sf3 := hSB.frozen 3
  simp only [List.getElem?_toArray, List.getElem?_cons_zero, List.getElem?_cons_succ] at s0 s1 s2 s3
  have q1 := kbo.lt
  have q2 := kbn.lt
  have q3 := kbl.lt
  obtain ⟨oM1, oM2, oM3⟩ := hM.off kbo kbn kbl (by decide) (by decide) (by decide)
  obtain ⟨oS1, oS2, oS3⟩ := hS.off kbo kbn kbl (by decide) (by decide) (by decide)
  have ox := three_off kbx kbo kbn kbl (by decide) (by decide) (by decide)
  have om := three_off kbm kbo kbn kbl (by decide) (by decide) (by decide)
  have os := three_off kbs kbo kbn kbl (by decide) (by decide) (by decide)
  go_enter Try.func101, Try.ntmps101
  go_wp2_with fail
  refine (sPfx_all g1 τ.own _ hS.2.1 (Nat.le_of_lt hN)).mono ?_
  rintro e w1 ⟨ad, c, ss, rfl, hp, hs, hr, hb1, hfr⟩
  have hlen : ss.length = τ.own.length := by have := hp.length_eq; simpa using this
  have hsn : ss.Nodup := hp.nodup_iff.2 hnd
  have hfr' : ∀ b off, ad = some ⟨b, off, none⟩ → b ∉ [bo, bn, bl] := fun b off h => by
    have := (hfr b off h).1
    simp only [List.mem_cons, List.not_mem_nil, or_false, not_or]
    omega
  have hmax := hr.2.1
  have hk0 : Kept [bo, bn, bl] w w1 := Kept.of_below hb1
  replace hM := hM.below hb1
  replace hS := hS.below hb1
  replace kbm := kbm.below' hb1
  replace kbs := kbs.below' hb1
  replace kbx := kbx.below' hb1
  replace kbo := kbo.below' hb1
  replace kbn := kbn.below' hb1
  replace kbl := kbl.below' hb1
  clear hb1 hfr c1 s0 s1 s2 s3 sf0 sf1 sf2 sf3 hSB q1 q2 q3
  go_wp2
  go_loopw [11] (fun i wr => ∃ k : Nat, k ≤ ss.length ∧ i = .int .i64 k ∧ Blk wr bo 4 #[.bool true] ∧ Blk wr bn 3 #[.int .i64 k] ∧ Blk wr bl 25 #[.int .u32 ((ss.take k).getLast?.getD ⟨0, 0⟩).a, .int .i64 ((ss.take k).getLast?.getD ⟨0, 0⟩).l] ∧ Kept [bo, bn, bl] w1 wr) (fun i _ => ss.length - (intOf i).toNat)
  case atStart => exact ⟨0, Nat.zero_le _, rfl, kbo, kbn, kbl, Kept.refl _ _⟩
  case round =>
    clear kbo kbn kbl
    obtain ⟨k, hk, rfl, kbo, kbn, kbl, hw⟩ := hrel
    by_cases hlt : k < ss.length
    · obtain ⟨b, off, rfl, hbl, hcell⟩ := (hw.row hr hfr').2.2 (by omega)
      have e0 := hcell (k * 2 + 0) _ ((flat_get Pfx.cells 2 (fun _ => rfl) ss k 0 hlt (by omega)).trans rfl)
      have e1 := hcell (k * 2 + 1) _ ((flat_get Pfx.cells 2 (fun _ => rfl) ss k 1 hlt (by omega)).trans rfl)
      have HL := Lib.hid (last_take ss ⟨0, 0⟩ k hlt)
      have hrise := pfx_rise ss hs hsn k hlt
      obtain ⟨on, hon⟩ := getM_mem τ.own ss[k] (hp.mem_iff.1 (List.getElem_mem hlt))
      generalize ss[k] = x at *
      obtain ⟨xa, xl⟩ := x
      simp only [← Nat.add_assoc, Nat.add_zero] at e0 e1
      clear hcell
      go_wp2_with fail
      replace hM := hM.kept hw oM1 oM2 oM3
      replace hS := hS.kept hw oS1 oS2 oS3
      replace kbm := hw.blk kbm om
      replace kbs := hw.blk kbs os
      replace kbx := hw.blk kbx ox
      have hbA := (Below.refl wr.heap.size wr).alloc (Nat.le_refl _) (.cells #[.int .u32 xa, .int .i64 xl] 25)
      have kx := Blk.new wr 25 #[.int .u32 xa, .int .i64 xl]
      replace hw := hw.trans (Kept.of_below (S := [bo, bn, bl]) hbA)
      replace hM := hM.below hbA
      replace hS := hS.below hbA
      replace kbm := kbm.below' hbA
      replace kbs := kbs.below' hbA
      replace kbx := kbx.below' hbA
      replace kbo := kbo.below' hbA
      replace kbn := kbn.below' hbA
      replace kbl := kbl.below' hbA
      clear hbA e0 e1 hbl hr hfr'
      generalize wr.alloc (.cells #[.int .u32 xa, .int .i64 xl] 25) = W at *
      generalize wr.heap.size = q at *
      have hSB := hS.1
      have hm1 := hS.2.1
      have v1 := hSB.lt
      have v2 := kx.lt
      have v3 := kbx.lt
      have c1 := kbx.cell 0
      simp only [List.getElem?_toArray, List.getElem?_cons_zero] at c1
      have s0 := hSB.cell 0
      have s1 := hSB.cell 1
      have s2 := hSB.cell 2
      have s3 := hSB.cell 3
      have sf0 := hSB.frozen 0
      have sf1 := hSB.frozen 1
      have sf2 := hSB.frozen 2
      have sf3 := hSB.frozen 3
      simp only [List.getElem?_toArray, List.getElem?_cons_zero, List.getElem?_cons_succ] at s0 s1 s2 s3
      have x0 := kx.cell 0
      have x1 := kx.cell 1
      simp only [List.getElem?_toArray, List.getElem?_cons_zero, List.getElem?_cons_succ] at x0 x1
      refine draw_start [8] Later (by kernel_rfl) ?_
      refine draw_chunk (n := 26) (by kernel_rfl) (fun _ _ _ _ _ h => h) [0, 1, 2, 3, 4, 5, 6, 7] [] _ #[true, true, true, true, true, true, true, true, false, false] (by kernel_rfl) 2 _ ?_ _ rfl ?_ ?_
      rotate_left
      · intro w' hw'
        have hc' : ∀ b o, b < W.heap.size → w'.cell? ⟨b, o, none⟩ = W.cell? ⟨b, o, none⟩ := (bcell hw').1
        have hlk := run_lookup_some pfx_keys Try.underlying42 (hm1.same ((undrew hw').block g1 hm1.lt)) ⟨xa, xl⟩ on hon false; simp only [Pfx.val] at hlk
        refine ci_step (i := 0) (v := ?_) rfl (by kernel_rfl) ?_ ?_
        rotate_left
        · first | (go_simp; done) | (go_simp; with_reducible rfl)
        skip
        try simp only [Act.put, List.setIfInBounds_toArray, List.set_cons_zero, List.set_cons_succ]
        refine ci_step (i := 1) (v := ?_) rfl (by kernel_rfl) ?_ ?_
        rotate_left
        · first | (go_simp; done) | (go_simp; with_reducible rfl)
        skip
        try simp only [Act.put, List.setIfInBounds_toArray, List.set_cons_zero, List.set_cons_succ]
        refine ci_step (i := 2) (v := ?_) rfl (by kernel_rfl) ?_ ?_
        rotate_left
        · first | (go_simp; done) | (go_simp; with_reducible rfl)
        skip
        try simp only [Act.put, List.setIfInBounds_toArray, List.set_cons_zero, List.set_cons_succ]
        refine ci_step (i := 3) (v := ?_) rfl (by kernel_rfl) ?_ ?_
        rotate_left
        · first | (go_simp; done) | (go_simp; with_reducible rfl)
        skip
        try simp only [Act.put, List.setIfInBounds_toArray, List.set_cons_zero, List.set_cons_succ]
        refine ci_step (i := 4) (v := ?_) rfl (by kernel_rfl) ?_ ?_
        rotate_left
        · first | (go_simp; done) | (go_simp; with_reducible rfl)
        skip
        try simp only [Act.put, List.setIfInBounds_toArray, List.set_cons_zero, List.set_cons_succ]
        refine ci_step (i := 5) (v := ?_) rfl (by kernel_rfl) ?_ ?_
        rotate_left
        · first | (go_simp; done) | (go_simp; with_reducible rfl)
        skip
        try simp only [Act.put, List.setIfInBounds_toArray, List.set_cons_zero, List.set_cons_succ]
        refine ci_step (i := 6) (v := ?_) rfl (by kernel_rfl) ?_ ?_
        rotate_left
        · first | (go_simp; done) | (go_simp; with_reducible rfl)
        skip
        try simp only [Act.put, List.setIfInBounds_toArray, List.set_cons_zero, List.set_cons_succ]
        refine ci_step (i := 7) (v := ?_) rfl (by kernel_rfl) ?_ ?_
        rotate_left
        · first | (go_simp; done) | (go_simp; with_reducible rfl)
        skip
        try simp only [Act.put, List.setIfInBounds_toArray, List.set_cons_zero, List.set_cons_succ]
        refine ci_end ?_
        rfl
      refine draw_eff (i := 8) rfl (by kernel_rfl) (listed' := #[true, true, true, true, true, true, true, true, true, false]) rfl (fun K hK => ?_)
      replace hK := Lib.hid hK
      go_wp2_with fail
      refine (shows1 σ τ ⟨xa, xl⟩ on _ _ k m h1 h2 s g1 g2 bm bs bo bn bl W.drew hM hS kbm kbs kbo kbn kbl ((heq _).trans hon) hon hrise (by omega)).mono ?_
      rintro e w2 ⟨rfl, kbo, kbn, kbl, hk2⟩
      go_wp2_with fail
      refine hK.out _ _ ⟨fun h => absurd (by decide) h, ?_⟩
      clear hK
      refine draw_chunk (n := 26) (by kernel_rfl) (fun _ _ _ _ _ h => h) [9] [] _ #[true, true, true, true, true, true, true, true, true, true] (by kernel_rfl) 0 _ ?_ _ rfl ?_ ?_
      rotate_left
      · intro w' hw'
        have hc' : ∀ b o, b < w2.heap.size → w'.cell? ⟨b, o, none⟩ = w2.cell? ⟨b, o, none⟩ := (bcell hw').1
        refine ci_step (i := 9) (v := ?_) rfl (by kernel_rfl) ?_ ?_
        rotate_left
        · first | (go_simp; done) | (go_simp; with_reducible rfl)
        skip
        try simp only [Act.put, List.setIfInBounds_toArray, List.set_cons_zero, List.set_cons_succ]
        refine ci_end ?_
        rfl
      refine draw_done (by kernel_rfl) ?_ _
      go_wp2
      go_roundw
      case rel =>
        refine ⟨k + 1, by omega, by go_num, kbo, kbn, ?_, (kept_drew hw).trans hk2⟩
        rw [HL.out]
        exact kbl
      case measure => simp [intOf]; omega
    · obtain rfl : k = ss.length := by omega
      go_wp2
      refine bodyPost_end (results_none rfl _ _ _) rfl ⟨rfl, kbo, ?_, hk0.trans hw⟩
      rw [hlen] at kbn
      exact kbn
set_option maxHeartbeats 4000000 in
theorem floors1 (σ τ : St) (heq : ∀ k, getM σ.fl k = getM τ.fl k) (m h1 h2 s g1 g2 bm bs bo bn bl bx : Nat) (w : World) (hM : StAt 45 w m h1 h2 σ) (hS : StAt 121 w s g1 g2 τ)
    (kbm : Blk w bm 35 #[.pointer (some ⟨m, 0, none⟩)]) (kbs : Blk w bs 33 #[.pointer (some ⟨s, 0, none⟩)]) (kbx : Blk w bx 33 #[.pointer (some ⟨s, 0, none⟩)])
    (kbo : Blk w bo 4 #[.bool true]) (kbn : Blk w bn 3 #[.int .i64 (0 : Nat)]) (kbl : Blk w bl 27 #[.int .u32 0, .int .i64 0, .int .u32 0])
    (hnd : (τ.fl.map (·.1)).Nodup) (hN : τ.fl.length < 1000000) :
    Calls Try.prog 103 #[.func (.func 75) #[] #[.pointer (some ⟨bm, 0, none⟩), .pointer (some ⟨bs, 0, none⟩), .pointer (some ⟨bn, 0, none⟩), .pointer (some ⟨bl, 0, none⟩), .pointer (some ⟨bo, 0, none⟩)], .pointer (some ⟨bx, 0, none⟩)] w fun e w' => e = .returned (.tuple #[]) ∧ Blk w' bo 4 #[.bool true] ∧ Blk w' bn 3 #[.int .i64 τ.fl.length] ∧ Kept [bo, bn, bl] w w' := by
  have c1 := kbx.cell 0
  simp only [List.getElem?_toArray, List.getElem?_cons_zero] at c1
  have hSB := hS.1
  have s0 := hSB.cell 0
  have s1 := hSB.cell 1
  have s2 := hSB.cell 2
  have s3 := hSB.cell 3
  have sf0 := hSB.frozen 0
  have sf1 := hSB.frozen 1
  have sf2 := hSB.frozen 2
  have sf3 := hSB.frozen 3
  simp only [List.getElem?_toArray, List.getElem?_cons_zero, List.getElem?_cons_succ] at s0 s1 s2 s3
  have q1 := kbo.lt
  have q2 := kbn.lt
  have q3 := kbl.lt
  obtain ⟨oM1, oM2, oM3⟩ := hM.off kbo kbn kbl (by decide) (by decide) (by decide)
  obtain ⟨oS1, oS2, oS3⟩ := hS.off kbo kbn kbl (by decide) (by decide) (by decide)
  have ox := three_off kbx kbo kbn kbl (by decide) (by decide) (by decide)
  have om := three_off kbm kbo kbn kbl (by decide) (by decide) (by decide)
  have os := three_off kbs kbo kbn kbl (by decide) (by decide) (by decide)
  go_enter Try.func103, Try.ntmps103
  go_wp2_with fail
  refine (sKey_all g2 τ.fl _ hS.2.2.1 (Nat.le_of_lt hN)).mono ?_
  rintro e w1 ⟨ad, c, ss, rfl, hp, hs, hr, hb1, hfr⟩
  have hlen : ss.length = τ.fl.length := by have := hp.length_eq; simpa using this
  have hsn : ss.Nodup := hp.nodup_iff.2 hnd
  have hfr' : ∀ b off, ad = some ⟨b, off, none⟩ → b ∉ [bo, bn, bl] := fun b off h => by
    have := (hfr b off h).1
    simp only [List.mem_cons, List.not_mem_nil, or_false, not_or]
    omega
  have hmax := hr.2.1
  have hk0 : Kept [bo, bn, bl] w w1 := Kept.of_below hb1
  replace hM := hM.below hb1
  replace hS := hS.below hb1
  replace kbm := kbm.below' hb1
  replace kbs := kbs.below' hb1
  replace kbx := kbx.below' hb1
  replace kbo := kbo.below' hb1
  replace kbn := kbn.below' hb1
  replace kbl := kbl.below' hb1
  clear hb1 hfr c1 s0 s1 s2 s3 sf0 sf1 sf2 sf3 hSB q1 q2 q3
  go_wp2
  go_loopw [11] (fun i wr => ∃ k : Nat, k ≤ ss.length ∧ i = .int .i64 k ∧ Blk wr bo 4 #[.bool true] ∧ Blk wr bn 3 #[.int .i64 k] ∧ Blk wr bl 27 #[.int .u32 ((ss.take k).getLast?.getD ⟨0, 0, 0⟩).a, .int .i64 ((ss.take k).getLast?.getD ⟨0, 0, 0⟩).l, .int .u32 ((ss.take k).getLast?.getD ⟨0, 0, 0⟩).id] ∧ Kept [bo, bn, bl] w1 wr) (fun i _ => ss.length - (intOf i).toNat)
  case atStart => exact ⟨0, Nat.zero_le _, rfl, kbo, kbn, kbl, Kept.refl _ _⟩
  case round =>
    clear kbo kbn kbl
    obtain ⟨k, hk, rfl, kbo, kbn, kbl, hw⟩ := hrel
    by_cases hlt : k < ss.length
    · obtain ⟨b, off, rfl, hbl, hcell⟩ := (hw.row hr hfr').2.2 (by omega)
      have e0 := hcell (k * 3 + 0) _ ((flat_get Key.cells 3 (fun _ => rfl) ss k 0 hlt (by omega)).trans rfl)
      have e1 := hcell (k * 3 + 1) _ ((flat_get Key.cells 3 (fun _ => rfl) ss k 1 hlt (by omega)).trans rfl)
      have e2 := hcell (k * 3 + 2) _ ((flat_get Key.cells 3 (fun _ => rfl) ss k 2 hlt (by omega)).trans rfl)
      have HL := Lib.hid (last_take ss ⟨0, 0, 0⟩ k hlt)
      have hrise := key_rise ss hs hsn k hlt
      obtain ⟨⟨ds, dm⟩, hon⟩ := getM_mem τ.fl ss[k] (hp.mem_iff.1 (List.getElem_mem hlt))
      generalize ss[k] = x at *
      obtain ⟨xa, xl, xi⟩ := x
      simp only [← Nat.add_assoc, Nat.add_zero] at e0 e1 e2
      clear hcell
      go_wp2_with fail
      replace hM := hM.kept hw oM1 oM2 oM3
      replace hS := hS.kept hw oS1 oS2 oS3
      replace kbm := hw.blk kbm om
      replace kbs := hw.blk kbs os
      replace kbx := hw.blk kbx ox
      have hbA := (Below.refl wr.heap.size wr).alloc (Nat.le_refl _) (.cells #[.int .u32 xa, .int .i64 xl, .int .u32 xi] 27)
      have kx := Blk.new wr 27 #[.int .u32 xa, .int .i64 xl, .int .u32 xi]
      replace hw := hw.trans (Kept.of_below (S := [bo, bn, bl]) hbA)
      replace hM := hM.below hbA
      replace hS := hS.below hbA
      replace kbm := kbm.below' hbA
      replace kbs := kbs.below' hbA
      replace kbx := kbx.below' hbA
      replace kbo := kbo.below' hbA
      replace kbn := kbn.below' hbA
      replace kbl := kbl.below' hbA
      clear hbA e0 e1 e2 hbl hr hfr'
      generalize wr.alloc (.cells #[.int .u32 xa, .int .i64 xl, .int .u32 xi] 27) = W at *
      generalize wr.heap.size = q at *
      have hSB := hS.1
      have hm1 := hS.2.2.1
      have v1 := hSB.lt
      have v2 := kx.lt
      have v3 := kbx.lt
      have c1 := kbx.cell 0
      simp only [List.getElem?_toArray, List.getElem?_cons_zero] at c1
      have s0 := hSB.cell 0
      have s1 := hSB.cell 1
      have s2 := hSB.cell 2
      have s3 := hSB.cell 3
      have sf0 := hSB.frozen 0
      have sf1 := hSB.frozen 1
      have sf2 := hSB.frozen 2
      have sf3 := hSB.frozen 3
      simp only [List.getElem?_toArray, List.getElem?_cons_zero, List.getElem?_cons_succ] at s0 s1 s2 s3
      have x0 := kx.cell 0
      have x1 := kx.cell 1
      have x2 := kx.cell 2
      simp only [List.getElem?_toArray, List.getElem?_cons_zero, List.getElem?_cons_succ] at x0 x1 x2
      refine draw_start [8] Later (by kernel_rfl) ?_
      refine draw_chunk (n := 26) (by kernel_rfl) (fun _ _ _ _ _ h => h) [0, 1, 2, 3, 4, 5, 6, 7] [] _ #[true, true, true, true, true, true, true, true, false, false] (by kernel_rfl) 2 _ ?_ _ rfl ?_ ?_
      rotate_left
      · intro w' hw'
        have hc' : ∀ b o, b < W.heap.size → w'.cell? ⟨b, o, none⟩ = W.cell? ⟨b, o, none⟩ := (bcell hw').1
        have hlk := run_lookup_some key_keys Try.underlying43 (hm1.same ((undrew hw').block g2 hm1.lt)) ⟨xa, xl, xi⟩ (ds, dm) hon false; simp only [Key.val, dstV] at hlk
        refine ci_step (i := 0) (v := ?_) rfl (by kernel_rfl) ?_ ?_
        rotate_left
        · first | (go_simp; done) | (go_simp; with_reducible rfl)
        skip
        try simp only [Act.put, List.setIfInBounds_toArray, List.set_cons_zero, List.set_cons_succ]
        refine ci_step (i := 1) (v := ?_) rfl (by kernel_rfl) ?_ ?_
        rotate_left
        · first | (go_simp; done) | (go_simp; with_reducible rfl)
        skip
        try simp only [Act.put, List.setIfInBounds_toArray, List.set_cons_zero, List.set_cons_succ]
        refine ci_step (i := 2) (v := ?_) rfl (by kernel_rfl) ?_ ?_
        rotate_left
        · first | (go_simp; done) | (go_simp; with_reducible rfl)
        skip
        try simp only [Act.put, List.setIfInBounds_toArray, List.set_cons_zero, List.set_cons_succ]
        refine ci_step (i := 3) (v := ?_) rfl (by kernel_rfl) ?_ ?_
        rotate_left
        · first | (go_simp; done) | (go_simp; with_reducible rfl)
        skip
        try simp only [Act.put, List.setIfInBounds_toArray, List.set_cons_zero, List.set_cons_succ]
        refine ci_step (i := 4) (v := ?_) rfl (by kernel_rfl) ?_ ?_
        rotate_left
        · first | (go_simp; done) | (go_simp; with_reducible rfl)
        skip
        try simp only [Act.put, List.setIfInBounds_toArray, List.set_cons_zero, List.set_cons_succ]
        refine ci_step (i := 5) (v := ?_) rfl (by kernel_rfl) ?_ ?_
        rotate_left
        · first | (go_simp; done) | (go_simp; with_reducible rfl)
        skip
        try simp only [Act.put, List.setIfInBounds_toArray, List.set_cons_zero, List.set_cons_succ]
        refine ci_step (i := 6) (v := ?_) rfl (by kernel_rfl) ?_ ?_
        rotate_left
        · first | (go_simp; done) | (go_simp; with_reducible rfl)
        skip
        try simp only [Act.put, List.setIfInBounds_toArray, List.set_cons_zero, List.set_cons_succ]
        refine ci_step (i := 7) (v := ?_) rfl (by kernel_rfl) ?_ ?_
        rotate_left
        · first | (go_simp; done) | (go_simp; with_reducible rfl)
        skip
        try simp only [Act.put, List.setIfInBounds_toArray, List.set_cons_zero, List.set_cons_succ]
        refine ci_end ?_
        rfl
      refine draw_eff (i := 8) rfl (by kernel_rfl) (listed' := #[true, true, true, true, true, true, true, true, true, false]) rfl (fun K hK => ?_)
      replace hK := Lib.hid hK
      go_wp2_with fail
      refine (shows2 σ τ ⟨xa, xl, xi⟩ (ds, dm) _ _ _ k m h1 h2 s g1 g2 bm bs bo bn bl W.drew hM hS kbm kbs kbo kbn kbl ((heq _).trans hon) hon hrise (by omega)).mono ?_
      rintro e w2 ⟨rfl, kbo, kbn, kbl, hk2⟩
      go_wp2_with fail
      refine hK.out _ _ ⟨fun h => absurd (by decide) h, ?_⟩
      clear hK
      refine draw_chunk (n := 26) (by kernel_rfl) (fun _ _ _ _ _ h => h) [9] [] _ #[true, true, true, true, true, true, true, true, true, true] (by kernel_rfl) 0 _ ?_ _ rfl ?_ ?_
      rotate_left
      · intro w' hw'
        have hc' : ∀ b o, b < w2.heap.size → w'.cell? ⟨b, o, none⟩ = w2.cell? ⟨b, o, none⟩ := (bcell hw').1
        refine ci_step (i := 9) (v := ?_) rfl (by kernel_rfl) ?_ ?_
        rotate_left
        · first | (go_simp; done) | (go_simp; with_reducible rfl)
        skip
        try simp only [Act.put, List.setIfInBounds_toArray, List.set_cons_zero, List.set_cons_succ]
        refine ci_end ?_
        rfl
      refine draw_done (by kernel_rfl) ?_ _
      go_wp2
      go_roundw
      case rel =>
        refine ⟨k + 1, by omega, by go_num, kbo, kbn, ?_, (kept_drew hw).trans hk2⟩
        rw [HL.out]
        exact kbl
      case measure => simp [intOf]; omega
    · obtain rfl : k = ss.length := by omega
      go_wp2
      refine bodyPost_end (results_none rfl _ _ _) rfl ⟨rfl, kbo, ?_, hk0.trans hw⟩
      rw [hlen] at kbn
      exact kbn
end Go.Proofs.Ytnfaeafplaeehaa
