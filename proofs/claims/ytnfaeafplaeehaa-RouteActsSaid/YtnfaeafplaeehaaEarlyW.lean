import Derived.Test.YtnfaeafplaeehaaEarly2
set_option linter.unusedVariables false
set_option linter.unusedSimpArgs false
namespace Go.Proofs.Ytnfaeafplaeehaa
open Go.RowKit
/-! The law RouteEarly, walked. -/
theorem table_Prefixes (t : Nat) (w : World) : Calls Try.prog 33 #[.pointer (some ⟨t, 0, none⟩)] w fun e w' => e = .returned (.func (.func 66) #[] #[.pointer (some ⟨w.heap.size, 0, none⟩)]) ∧ w' = w.alloc (.cells #[.pointer (some ⟨t, 0, none⟩)] 64) := by
  go_enter Try.func33, Try.ntmps33
  go_wp2
  go_ret
  exact ⟨rfl, rfl⟩
theorem ownsRow_row {W : World} {base : Nat} {e : TypeId} {size n : Nat} {v : Value} {xs : List Value} (h : W.ownsRow base e size v n xs) (hn : n ≤ 1000000) : ∃ A c, v = .slice A n c ∧ Row W size A n xs ∧ ∀ b off, A = some ⟨b, off, none⟩ → b < W.heap.size := by
  obtain ⟨h1, h2⟩ := h
  rcases h2 with ⟨rfl, rfl⟩ | ⟨g, cap, cur, rfl, e2, e3, e4, e5, e6, e7⟩
  · exact ⟨none, 0, rfl, ⟨h1, by decide, fun h => absurd h (by simp)⟩, fun b off h => by cases h⟩
  · refine ⟨_, cap, rfl, ⟨h1, by omega, fun _ => ⟨g, 0, rfl, lt_of_heap e3, fun j u hj => ?_⟩⟩, fun b off h => by cases h; exact lt_of_heap e3⟩
    have kb : Blk W g e cur := e3
    rw [kb.cell (0 + j), ← hj, ← e7, Nat.zero_add, List.getElem?_take]
    have hj2 : j < n * size := by
      rcases Nat.lt_or_ge j xs.length with h | h
      · omega
      · rw [List.getElem?_eq_none h] at hj; cases hj
    rw [if_pos hj2, Array.getElem?_toList]
theorem keepsT_of {bs bn ba bk : Nat} {A : Option Addr} {c : Nat} {ps : List Pfx} {K : Int} {W W' : World} {pre : List Pfx} (h : Walk2 bs bn ba bk A c ps K W pre) (hk : Kept [bs, bn] W W') : KeepsT W W' := ⟨hk.size, fun k o ho hs => by
  refine (hk.block k (lt_of_heap ho) fun hm => ?_).trans ho
  simp only [List.mem_cons, List.not_mem_nil, or_false] at hm
  rcases hm with rfl | rfl
  · have := h.s
    unfold Blk at this
    rw [this] at ho
    cases ho
    simp [staysT] at hs
  · have := h.n
    unfold Blk at this
    rw [this] at ho
    cases ho
    simp [staysT] at hs⟩
set_option maxRecDepth 100000 in
set_option maxHeartbeats 4000000 in
theorem law09_Early (qs : List Pfx) (A : Option Addr) (c : Nat) (stop : Int) (w : World) (hr : Row w 2 A qs.length (qs.flatMap Pfx.cells)) (hst : -9223372036854775808 ≤ stop ∧ stop ≤ 9223372036854775807) :
    Calls Try.prog 6 #[.slice A qs.length c, .int .i64 stop] w fun e w' => e = .returned (.bool true) ∧ Below w.heap.size w w' := by
  go_enter Try.func6, Try.ntmps6
  go_wp2_with fail
  refine (law09_head w).mono ?_
  rintro e w1 ⟨rfl, hb⟩
  have hmax := hr.2.1
  by_cases h40 : 40 < qs.length
  · have d : decide ((40 : Int) < (qs.length : Int)) = true := decide_eq_true (by omega)
    go_wp2
    go_ret
    exact ⟨rfl, hb⟩
  have d : decide ((40 : Int) < (qs.length : Int)) = false := decide_eq_false (by omega)
  go_wp2_with fail
  refine (table_New w1).mono ?_
  rintro e w2 ⟨hb2, t, g, rfl, hT, ht, hg⟩
  replace ht := Nat.le_trans hb.size ht
  replace hg := Nat.le_trans hb.size hg
  replace hb := hb.trans (hb2.mono hb.size)
  clear hb2 d
  go_wp2
  go_loopw [20] (fun i wr => ∃ k : Nat, k ≤ qs.length ∧ i = .int .i64 k ∧ Below w.heap.size w wr ∧ ∃ m, TbAt wr t g m ∧ m.length ≤ k) (fun i _ => qs.length - (intOf i).toNat)
  case atStart => exact ⟨0, Nat.zero_le _, rfl, hb, [], hT, Nat.zero_le _⟩
  case round =>
    clear hb hT
    obtain ⟨k, hk, rfl, hb, m, hT, hmk⟩ := hrel
    by_cases hlt : k < qs.length
    · obtain ⟨b, off, rfl, hbl, hcell⟩ := hr.2.2 (by omega)
      have e0 := (hb.cell (p := ⟨b, _, none⟩) hbl).trans (hcell (k * 2 + 0) _ ((flat_get Pfx.cells 2 (fun _ => rfl) qs k 0 hlt (by omega)).trans rfl))
      have e1 := (hb.cell (p := ⟨b, _, none⟩) hbl).trans (hcell (k * 2 + 1) _ ((flat_get Pfx.cells 2 (fun _ => rfl) qs k 1 hlt (by omega)).trans rfl))
      generalize qs[k] = x at *
      obtain ⟨xa, xl⟩ := x
      simp only [← Nat.add_assoc, Nat.add_zero] at e0 e1
      clear hcell
      go_wp2_with fail
      have hbA := (Below.refl wr.heap.size wr).alloc (Nat.le_refl _) (.cells #[.int .u32 xa, .int .i64 xl] 25)
      generalize bits BinOp.and IntKind.i64 (↑k) 7 = fr at *
      refine (table_Set m xa xl ⟨fr, 0, 0, 0, 0⟩ t g _ (hT.below hbA)).mono ?_
      rintro e w3 ⟨rfl, hT3, hk3⟩
      have hb3 := hk3.below (hb.trans (hbA.mono hb.size)) (by have := hb.size; have := hbA.size; omega) (by simpa using hg)
      clear hbA hk3
      go_wp2
      go_roundw
      case rel => exact ⟨k + 1, by omega, by go_num, hb3, _, hT3, by have := updM_len (⟨xa, xl, fr⟩ : RKey) (⟨fr, 0, 0, 0, 0⟩ : Rt) m; omega⟩
      case measure => simp [intOf]; omega
    · go_wp2_with fail
      have hbw := hb.size
      have hbA := ((Below.refl wr.heap.size wr).alloc (Nat.le_refl _) (.cells #[] 25)).alloc (by simp) (.cells #[.slice (some ⟨wr.heap.size, 0, none⟩) 0 0] 63)
      have hall : AllAt w.heap.size (wr.heap.size + 1) ((wr.alloc (.cells #[] 25)).alloc (.cells #[.slice (some ⟨wr.heap.size, 0, none⟩) 0 0] 63)) [] := by
        refine ⟨.slice (some ⟨wr.heap.size, 0, none⟩) 0 0, ?_, ⟨rfl, .inr ⟨wr.heap.size, 0, #[], rfl, hbw, ?_, Nat.le_refl _, by decide, rfl, rfl⟩⟩⟩
        · have := Blk.new (wr.alloc (.cells #[] 25)) 63 #[.slice (some ⟨wr.heap.size, 0, none⟩) 0 0]
          simpa using this
        · exact (Below.heap_alloc _ _ _ (by simp)).trans (heap_new wr _)
      replace hT := hT.below hbA
      replace hb := hb.trans (hbA.mono hb.size)
      clear hbA
      obtain ⟨ba, hba⟩ : ∃ ba, wr.heap.size + 1 = ba := ⟨_, rfl⟩
      have hba' : w.heap.size ≤ ba := by omega
      generalize (wr.alloc (.cells #[] 25)).alloc (.cells #[.slice (some ⟨wr.heap.size, 0, none⟩) 0 0] 63) = W1 at *
      rw [hba] at hall ⊢
      clear hba hbw
      refine (table_Prefixes t W1).mono ?_
      rintro e w3 ⟨rfl, rfl⟩
      have hbA := (Below.refl W1.heap.size W1).alloc (Nat.le_refl _) (.cells #[.pointer (some ⟨t, 0, none⟩)] 64)
      have kx := Blk.new W1 64 #[.pointer (some ⟨t, 0, none⟩)]
      replace hT := hT.below hbA
      replace hb := hb.trans (hbA.mono hb.size)
      replace hall := hall.below hbA
      clear hbA
      generalize W1.alloc (.cells #[.pointer (some ⟨t, 0, none⟩)] 64) = W2 at *
      generalize W1.heap.size = bx at *
      have e34 : ∀ args w, (callFunc 34 args).run Try.prog w = .ok (.enter 34 args) w := enters_of Try.func34 (by kernel_rfl) rfl
      have hP := prefixes_of 34 #[.pointer (some ⟨ba, 0, none⟩)] e34 m t g bx W2 hT kx (by omega) (fun pre W => AllAt w.heap.size ba W pre ∧ TbAt W t g m ∧ Below w.heap.size w W) (fun _ _ => False)
        (fun pre W W' h hbb => ⟨h.1.below hbb, h.2.1.below hbb, h.2.2.trans (hbb.mono h.2.2.size)⟩) (fun _ _ _ h _ => h)
        (fun pre x W h hl => (early1 w.heap.size ba pre x W h.1 (by omega) hba' h.2.2.size).mono fun e W' ⟨h1, h2, h3, h4⟩ => ⟨h3.toT, .inl ⟨h1, h2, h3.tb h.2.1, h.2.2.trans h4⟩⟩) ⟨hall, hT, hb⟩
      clear kx hall hT hb e34
      go_wp2_with fail
      refine hP.mono ?_
      rintro e W3 ⟨rfl, ps, hps, ⟨hall, hT, hb⟩ | ⟨_, _, _, h⟩⟩
      rotate_left
      · exact h.elim
      clear hP
      have hpl := hps.2.2
      obtain ⟨v, ka, hrow⟩ := hall
      obtain ⟨A2, c2, rfl, hr2, hA2⟩ := ownsRow_row hrow (by omega)
      have a1 := ka.lt
      have a0 := ka.cell 0
      simp only [List.getElem?_toArray, List.getElem?_cons_zero] at a0
      have u1 : IntKind.u64.wrap ((ps.length : Int) + 1) = (ps.length : Int) + 1 := by rw [IntKind.wrap_u64]; omega
      go_wp2_with fail
      have hKb : 0 ≤ wrap64 ((IntKind.u64.wrap stop).tmod ((ps.length : Int) + 1)) ∧ wrap64 ((IntKind.u64.wrap stop).tmod ((ps.length : Int) + 1)) ≤ (ps.length : Int) := by
        have h1 : 0 ≤ IntKind.u64.wrap stop := by rw [IntKind.wrap_u64]; omega
        rw [Int.tmod_eq_emod_of_nonneg h1]
        have h2 := Int.emod_nonneg (IntKind.u64.wrap stop) (show ((ps.length : Int) + 1) ≠ 0 by omega)
        have h3 := Int.emod_lt_of_pos (IntKind.u64.wrap stop) (show 0 < ((ps.length : Int) + 1) by omega)
        generalize IntKind.u64.wrap stop % ((ps.length : Int) + 1) = y at *
        unfold wrap64
        omega
      generalize wrap64 ((IntKind.u64.wrap stop).tmod ((ps.length : Int) + 1)) = K at *
      have hba2 := a1
      have hbA := (((Below.refl W3.heap.size W3).alloc (Nat.le_refl _) (.cells #[.int .i64 K] 3)).alloc (by simp) (.cells #[.int .i64 0] 3)).alloc (by simp; omega) (.cells #[.bool true] 4)
      have kk := ((Blk.new W3 3 #[.int .i64 K]).alloc (.cells #[.int .i64 0] 3)).alloc (.cells #[.bool true] 4)
      have kn := (Blk.new (W3.alloc (.cells #[.int .i64 K] 3)) 3 #[.int .i64 0]).alloc (.cells #[.bool true] 4)
      have ks := Blk.new ((W3.alloc (.cells #[.int .i64 K] 3)).alloc (.cells #[.int .i64 0] 3)) 4 #[.bool true]
      simp only [World.size_alloc] at kn ks
      have hS0 := hb.size
      replace hr2 := hr2.below hbA
      replace ka := ka.below' hbA
      replace hT := hT.below hbA
      replace hb := hb.trans (hbA.mono hb.size)
      have hAn : ∀ b off, A2 = some ⟨b, off, none⟩ → b ≠ W3.heap.size + 1 + 1 ∧ b ≠ W3.heap.size + 1 := fun b off h => by have := hA2 b off h; omega
      have hw2 : Walk2 (W3.heap.size + 1 + 1) (W3.heap.size + 1) ba W3.heap.size A2 c2 ps K _ [] := ⟨by simpa [sameP] using ks, by simpa using kn, ka, kk, hr2⟩
      clear kk kn ks ka hr2 hbA a0 a1 hrow hA2 u1
      generalize ((W3.alloc (.cells #[.int .i64 K] 3)).alloc (.cells #[.int .i64 0] 3)).alloc (.cells #[.bool true] 4) = W4 at *
      generalize W3.heap.size = z at *
      refine (table_Prefixes t W4).mono ?_
      rintro e w3 ⟨rfl, rfl⟩
      have hbA := (Below.refl W4.heap.size W4).alloc (Nat.le_refl _) (.cells #[.pointer (some ⟨t, 0, none⟩)] 64)
      have kx := Blk.new W4 64 #[.pointer (some ⟨t, 0, none⟩)]
      replace hT := hT.below hbA
      replace hb := hb.trans (hbA.mono hb.size)
      replace hw2 := hw2.below hbA
      clear hbA
      generalize W4.alloc (.cells #[.pointer (some ⟨t, 0, none⟩)] 64) = W5 at *
      generalize W4.heap.size = bx2 at *
      have e35 : ∀ args w, (callFunc 35 args).run Try.prog w = .ok (.enter 35 args) w := enters_of Try.func35 (by kernel_rfl) rfl
      have hP := prefixes_of 35 #[.pointer (some ⟨z + 1 + 1, 0, none⟩), .pointer (some ⟨z + 1, 0, none⟩), .pointer (some ⟨ba, 0, none⟩), .pointer (some ⟨z, 0, none⟩)] e35 m t g bx2 W5 hT kx (by omega)
        (fun pre W => Walk2 (z + 1 + 1) (z + 1) ba z A2 c2 ps K W pre ∧ (pre.length : Int) ≤ K ∧ Below w.heap.size w W) (fun pre W => Walk2 (z + 1 + 1) (z + 1) ba z A2 c2 ps K W pre ∧ (pre.length : Int) = K + 1 ∧ Below w.heap.size w W)
        (fun pre W W' h hbb => ⟨h.1.below hbb, h.2.1, h.2.2.trans (hbb.mono h.2.2.size)⟩) (fun pre W W' h hbb => ⟨h.1.below hbb, h.2.1, h.2.2.trans (hbb.mono h.2.2.size)⟩)
        (fun pre x W h hl => (early2 (z + 1 + 1) (z + 1) ba z A2 c2 ps K pre x W h.1 (by omega) hAn (by omega) (by omega)).mono fun e W' ⟨h1, h2, h3⟩ => ⟨keepsT_of h.1 h3, by
          have hbl := h3.below h.2.2 h.2.2.size (by simp; omega)
          have hl := h.2.1
          by_cases hd : (pre.length : Int) + 1 ≤ K
          · exact .inl ⟨by rw [h1, decide_eq_true hd], h2, by simpa using hd, hbl⟩
          · exact .inr ⟨by rw [h1, decide_eq_false hd], h2, by simp; omega, hbl⟩⟩) ⟨hw2, by simp; omega, hb⟩
      clear kx hw2 hT hb e35
      go_wp2_with fail
      refine hP.mono ?_
      rintro e W6 ⟨rfl, ps2, hps2, hj⟩
      clear hP
      obtain rfl := hps.unique hps2
      obtain ⟨pre, hw2, hsb, hmn, hb⟩ : ∃ pre, Walk2 (z + 1 + 1) (z + 1) ba z A2 c2 ps K W6 pre ∧ sameP ps pre = true ∧ ((pre.length : Int) == min (K + 1) (ps.length : Int)) = true ∧ Below w.heap.size w W6 := by
        rcases hj with ⟨h1, h2, h3⟩ | ⟨pre, post, rfl, h1, h2, h3⟩
        · exact ⟨ps, h1, by simp [sameP], beq_iff_eq.2 (by omega), h3⟩
        · refine ⟨pre, h1, by simp [sameP], beq_iff_eq.2 ?_, h3⟩
          rw [List.length_append]
          omega
      obtain ⟨ks, kn, ka, kk, hr2⟩ := hw2
      rw [hsb] at ks
      have s1 := ks.lt
      have n1 := kn.lt
      have a1 := ka.lt
      have k1 := kk.lt
      have s0 := ks.cell 0
      have n0 := kn.cell 0
      have a0 := ka.cell 0
      have k0 := kk.cell 0
      simp only [List.getElem?_toArray, List.getElem?_cons_zero] at s0 n0 a0 k0
      clear hj hAn
      have wk : wrap64 (K + 1) = K + 1 := by unfold wrap64; omega
      go_wp2
      go_ret
      exact ⟨rfl, hb⟩
end Go.Proofs.Ytnfaeafplaeehaa
