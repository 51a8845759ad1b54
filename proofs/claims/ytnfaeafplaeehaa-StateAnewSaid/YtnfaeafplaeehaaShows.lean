import Derived.Test.YtnfaeafplaeehaaSortM
import Derived.Test.YtnfaeafplaeehaaLess
import Derived.Test.YtnfaeafplaeehaaModel
import Derived.Test.YtnfaeafplaeehaaFeas
set_option linter.unusedVariables false
set_option linter.unusedSimpArgs false
namespace Go.Proofs.Ytnfaeafplaeehaa
open Go.RowKit Go.Sort Go.Lib Go.Shelf
/-! What a model shows of a state: the closures that the iterators call. -/
theorem state_ID (σ : St) (s g1 g2 : Nat) (w : World) (h : StAt 121 w s g1 g2 σ) :
    Calls Try.prog 71 #[.pointer (some ⟨s, 0, none⟩)] w fun e w' => e = .returned (.int .u32 σ.id) ∧ w' = w := by
  obtain ⟨hB, hm1, hm2, hs1, hs2, h12⟩ := h
  have b0 := hB.cell 0
  have b1 := hB.cell 1
  have b2 := hB.cell 2
  have b3 := hB.cell 3
  have bf0 := hB.frozen 0
  have bf1 := hB.frozen 1
  have bf2 := hB.frozen 2
  have bf3 := hB.frozen 3
  simp only [List.getElem?_toArray, List.getElem?_cons_zero, List.getElem?_cons_succ] at b0 b1 b2 b3
  go_enter Try.func71, Try.ntmps71
  go_wp2
  go_ret
  exact ⟨rfl, rfl⟩
theorem bool_zero (w : World) : (zeroValue 4).run Try.prog w = .ok (.bool false) w := by kernel_rfl
theorem look_own {w : World} {b : Nat} {m : List (Pfx × Bool)} (h : MapAt w b Pfx.val Value.bool m) (k : Pfx) : (Instr.lookup 42 (.map (some b)) (.agg #[.int .u32 k.a, .int .i64 k.l]) true).run Try.prog w = .ok (.tuple #[.bool ((getM m k).getD false), .bool (getM m k).isSome]) w := by
  cases hg : getM m k with
  | none => exact run_lookup_none pfx_keys Try.underlying42 h k hg true _ bool_zero
  | some v => exact run_lookup_some pfx_keys Try.underlying42 h k v hg true
theorem state_Own (σ : St) (k : Pfx) (s g1 g2 : Nat) (w : World) (h : StAt 121 w s g1 g2 σ) :
    Calls Try.prog 40 #[.pointer (some ⟨s, 0, none⟩), .agg #[.int .u32 k.a, .int .i64 k.l]] w fun e w' => e = .returned (.tuple #[.bool ((getM σ.own k).getD false), .bool (getM σ.own k).isSome]) ∧ Below w.heap.size w w' := by
  obtain ⟨hB, hm1, hm2, hs1, hs2, h12⟩ := h
  obtain ⟨id, lease, own, fl⟩ := σ
  dsimp only at hB hm1 hm2 ⊢
  have hl := fun (w' : World) (hw : w'.heap[g1]? = w.heap[g1]?) => look_own (hm1.same hw) k
  obtain ⟨a, l⟩ := k
  simp only at hl ⊢
  have hlt := hB.lt
  have hb0 := (Below.refl w.heap.size w).alloc (Nat.le_refl _) (.cells #[.int .u32 a, .int .i64 l] 25)
  have kB := hB.alloc (.cells #[.int .u32 a, .int .i64 l] 25)
  have kY := Blk.new w 25 #[.int .u32 a, .int .i64 l]
  have hM := fun (w' : World) (hw : Below (w.alloc (.cells #[.int .u32 a, .int .i64 l] 25)).heap.size (w.alloc (.cells #[.int .u32 a, .int .i64 l] 25)) w') => hl w' ((hw.block g1 (by have := hm1.lt; simp; omega)).trans (Below.heap_alloc _ _ _ hm1.lt))
  generalize hv : (getM own (⟨a, l⟩ : Pfx)).getD false = v at hM
  generalize hi : (getM own (⟨a, l⟩ : Pfx)).isSome = i at hM
  have HV := Lib.hid hv
  have HI := Lib.hid hi
  clear hv hi hl
  go_enter Try.func40, Try.ntmps40
  go_wp2_with fail
  generalize w.alloc (.cells #[.int .u32 a, .int .i64 l] 25) = W at hb0 kB kY hM ⊢
  have hlB := kB.lt
  have hlY := kY.lt
  have b0 := kB.cell 0
  have b1 := kB.cell 1
  have b2 := kB.cell 2
  have b3 := kB.cell 3
  have bf0 := kB.frozen 0
  have bf1 := kB.frozen 1
  have bf2 := kB.frozen 2
  have bf3 := kB.frozen 3
  simp only [List.getElem?_toArray, List.getElem?_cons_zero, List.getElem?_cons_succ] at b0 b1 b2 b3
  have y0 := kY.cell 0
  have y1 := kY.cell 1
  simp only [List.getElem?_toArray, List.getElem?_cons_zero, List.getElem?_cons_succ] at y0 y1
  refine draw_start [] Later (by kernel_rfl) ?_
  refine draw_chunk (n := 19) (by kernel_rfl) (fun _ _ _ _ _ h => h) [0, 1, 2, 3, 4, 5, 6, 7, 8, 9, 10] [] _ #[true, true, true, true, true, true, true, true, true, true, true] (by kernel_rfl) 0 _ ?_ _ rfl ?_ ?_
  rotate_left
  · intro w' hw'
    have hc' : ∀ b o, b < W.heap.size → w'.cell? ⟨b, o, none⟩ = W.cell? ⟨b, o, none⟩ := (bcell hw').1
    have hlk := hM w' (undrew hw')
    refine ci_step (i := 0) (v := ?_) rfl (by kernel_rfl) ?_ ?_
    rotate_left
    · first | (go_simp; done) | (go_simp; with_reducible rfl)
    skip
    try simp only [Act.put, List.setIfInBounds_toArray, List.set_cons_zero, List.set_cons_succ]
    refine ci_step (i := 1) (v := ?_) rfl (by kernel_rfl) ?_ ?_
    rotate_left
    · first | (go_simp; done) | (go_simp; with_reducible rfl)
    skip
    try simp only [Act.put, List.setIfInBounds_toArray, List.set_cons_zero, List.set_cons_succ]
    refine ci_step (i := 2) (v := ?_) rfl (by kernel_rfl) ?_ ?_
    rotate_left
    · first | (go_simp; done) | (go_simp; with_reducible rfl)
    skip
    try simp only [Act.put, List.setIfInBounds_toArray, List.set_cons_zero, List.set_cons_succ]
    refine ci_step (i := 3) (v := ?_) rfl (by kernel_rfl) ?_ ?_
    rotate_left
    · first | (go_simp; done) | (go_simp; with_reducible rfl)
    skip
    try simp only [Act.put, List.setIfInBounds_toArray, List.set_cons_zero, List.set_cons_succ]
    refine ci_step (i := 4) (v := ?_) rfl (by kernel_rfl) ?_ ?_
    rotate_left
    · first | (go_simp; done) | (go_simp; with_reducible rfl)
    skip
    try simp only [Act.put, List.setIfInBounds_toArray, List.set_cons_zero, List.set_cons_succ]
    refine ci_step (i := 5) (v := ?_) rfl (by kernel_rfl) ?_ ?_
    rotate_left
    · first | (go_simp; done) | (go_simp; with_reducible rfl)
    skip
    try simp only [Act.put, List.setIfInBounds_toArray, List.set_cons_zero, List.set_cons_succ]
    refine ci_step (i := 6) (v := ?_) rfl (by kernel_rfl) ?_ ?_
    rotate_left
    · first | (go_simp; done) | (go_simp; with_reducible rfl)
    skip
    try simp only [Act.put, List.setIfInBounds_toArray, List.set_cons_zero, List.set_cons_succ]
    refine ci_step (i := 7) (v := ?_) rfl (by kernel_rfl) ?_ ?_
    rotate_left
    · first | (go_simp; done) | (go_simp; with_reducible rfl)
    skip
    try simp only [Act.put, List.setIfInBounds_toArray, List.set_cons_zero, List.set_cons_succ]
    refine ci_step (i := 8) (v := ?_) rfl (by kernel_rfl) ?_ ?_
    rotate_left
    · first | (go_simp; done) | (go_simp; with_reducible rfl)
    skip
    try simp only [Act.put, List.setIfInBounds_toArray, List.set_cons_zero, List.set_cons_succ]
    refine ci_step (i := 9) (v := ?_) rfl (by kernel_rfl) ?_ ?_
    rotate_left
    · first | (go_simp; done) | (go_simp; with_reducible rfl)
    skip
    try simp only [Act.put, List.setIfInBounds_toArray, List.set_cons_zero, List.set_cons_succ]
    refine ci_step (i := 10) (v := ?_) rfl (by kernel_rfl) ?_ ?_
    rotate_left
    · first | (go_simp; done) | (go_simp; with_reducible rfl)
    skip
    try simp only [Act.put, List.setIfInBounds_toArray, List.set_cons_zero, List.set_cons_succ]
    refine ci_end ?_
    rfl
  refine draw_done (by kernel_rfl) ?_ _
  go_wp2
  refine bodyPost_ret (v := .tuple #[.bool v, .bool i]) (by simp [results, Try.results40, go_sem]) rfl ⟨rfl, Below.drew hb0⟩
theorem Blk.ne {w : World} {g k : Nat} {t u : TypeId} {cs ds : Array Value} (h : Blk w g t cs) (h2 : Blk w k u ds) (ht : t ≠ u) : g ≠ k := by
  rintro rfl
  have := h.symm.trans h2
  simp at this
  exact ht this.2
theorem MapAt.ne {α β : Type} {w : World} {g k : Nat} {u : TypeId} {ds : Array Value} {ek : α → Value} {ev : β → Value} {m : List (α × β)} (h : MapAt w g ek ev m) (h2 : Blk w k u ds) : g ≠ k := by
  rintro rfl
  obtain ⟨es, c, h, _⟩ := h
  have := h.symm.trans h2
  simp at this
theorem shows1 (σ τ : St) (x : Pfx) (on : Bool) (la ll : Int) (n m h1 h2 s g1 g2 bm bs bo bn bl : Nat) (W : World) (hM : StAt 45 W m h1 h2 σ) (hS : StAt 121 W s g1 g2 τ)
    (kbm : Blk W bm 35 #[.pointer (some ⟨m, 0, none⟩)]) (kbs : Blk W bs 33 #[.pointer (some ⟨s, 0, none⟩)])
    (kbo : Blk W bo 4 #[.bool true]) (kbn : Blk W bn 3 #[.int .i64 n]) (kbl : Blk W bl 25 #[.int .u32 la, .int .i64 ll])
    (hx : getM σ.own x = some on) (hx2 : getM τ.own x = some on) (hn : n = 0 ∨ lessB la ll x.a x.l = true) (hn2 : n < 1000000) :
    Calls Try.prog 73 #[.agg #[.int .u32 x.a, .int .i64 x.l], .bool on, .pointer (some ⟨bm, 0, none⟩), .pointer (some ⟨bs, 0, none⟩), .pointer (some ⟨bo, 0, none⟩), .pointer (some ⟨bn, 0, none⟩), .pointer (some ⟨bl, 0, none⟩)] W fun e W' => e = .returned (.bool true) ∧ Blk W' bo 4 #[.bool true] ∧ Blk W' bn 3 #[.int .i64 (n + 1 : Nat)] ∧ Blk W' bl 25 #[.int .u32 x.a, .int .i64 x.l] ∧ Kept [bo, bn, bl] W W' := by
  obtain ⟨xa, xl⟩ := x
  simp only at hn ⊢
  have n1 : bo ≠ bn := kbo.ne kbn (by decide)
  have n2 : bo ≠ bl := kbo.ne kbl (by decide)
  have n3 : bn ≠ bl := kbn.ne kbl (by decide)
  have n4 : W.heap.size ≠ bo := by have := kbo.lt; omega
  have n5 : W.heap.size ≠ bn := by have := kbn.lt; omega
  have n6 : W.heap.size ≠ bl := by have := kbl.lt; omega
  have n7 := n1.symm
  have n8 := n2.symm
  have n9 := n3.symm
  have hb0 := (Below.refl W.heap.size W).alloc (Nat.le_refl _) (.cells #[.int .u32 xa, .int .i64 xl] 25)
  have hK := Kept.of_below (S := [bo, bn, bl]) hb0
  have kx := Blk.new W 25 #[.int .u32 xa, .int .i64 xl]
  replace kbm := kbm.below' hb0
  replace kbs := kbs.below' hb0
  replace kbo := kbo.below' hb0
  replace kbn := kbn.below' hb0
  replace kbl := kbl.below' hb0
  replace hS := hS.below hb0
  have kM := hM.1.below' hb0
  have hm1 := hM.2.1.below hb0
  have hL := fun (w' : World) (hw : Below (W.alloc (.cells #[.int .u32 xa, .int .i64 xl] 25)).heap.size (W.alloc (.cells #[.int .u32 xa, .int .i64 xl] 25)) w') => look_own (hm1.same (hw.block h1 hm1.lt)) ⟨xa, xl⟩
  simp only [hx, Option.getD_some, Option.isSome_some] at hL
  have HX := Lib.hid hx2
  clear hx hx2 hm1 hM hb0
  by_cases h0 : n = 0
  · subst h0
    go_enter Try.func73, Try.ntmps73
    go_wp2_with fail
    generalize W.alloc (.cells #[.int .u32 xa, .int .i64 xl] 25) = W1 at *
    have e1 := kbm.lt
    have e2 := kbs.lt
    have e3 := kbo.lt
    have e4 := kbn.lt
    have e5 := kbl.lt
    have e6 := kx.lt
    have e7 := kM.lt
    have c1 := kbm.cell 0
    have c2 := kbs.cell 0
    have c3 := kbo.cell 0
    have c4 := kbn.cell 0
    simp only [List.getElem?_toArray, List.getElem?_cons_zero, List.getElem?_cons_succ] at c1 c2 c3 c4
    have l0 := kbl.cell 0
    have l1 := kbl.cell 1
    simp only [List.getElem?_toArray, List.getElem?_cons_zero, List.getElem?_cons_succ] at l0 l1
    have x0 := kx.cell 0
    have x1 := kx.cell 1
    simp only [List.getElem?_toArray, List.getElem?_cons_zero, List.getElem?_cons_succ] at x0 x1
    have m0 := kM.cell 0
    have m1 := kM.cell 1
    have m2 := kM.cell 2
    have m3 := kM.cell 3
    have mf0 := kM.frozen 0
    have mf1 := kM.frozen 1
    have mf2 := kM.frozen 2
    have mf3 := kM.frozen 3
    simp only [List.getElem?_toArray, List.getElem?_cons_zero, List.getElem?_cons_succ] at m0 m1 m2 m3
    refine draw_start [] Later (by kernel_rfl) ?_
    refine draw_chunk (n := 58) (by kernel_rfl) (fun _ _ _ _ _ h => h) [0, 1, 2, 3, 4, 5, 6, 7, 8, 9, 10] [] _ #[true, true, true, true, true, true, true, true, true, true, true] (by kernel_rfl) 0 _ ?_ _ rfl ?_ ?_
    rotate_left
    · intro w' hw'
      have hc' : ∀ b o, b < W1.heap.size → w'.cell? ⟨b, o, none⟩ = W1.cell? ⟨b, o, none⟩ := (bcell hw').1
      have hlk := hL w' (undrew hw')
      refine ci_step (i := 0) (v := ?_) rfl (by kernel_rfl) ?_ ?_
      rotate_left
      · first | (go_simp; done) | (go_simp; with_reducible rfl)
      skip
      try simp only [Act.put, List.setIfInBounds_toArray, List.set_cons_zero, List.set_cons_succ]
      refine ci_step (i := 1) (v := ?_) rfl (by kernel_rfl) ?_ ?_
      rotate_left
      · first | (go_simp; done) | (go_simp; with_reducible rfl)
      skip
      try simp only [Act.put, List.setIfInBounds_toArray, List.set_cons_zero, List.set_cons_succ]
      refine ci_step (i := 2) (v := ?_) rfl (by kernel_rfl) ?_ ?_
      rotate_left
      · first | (go_simp; done) | (go_simp; with_reducible rfl)
      skip
      try simp only [Act.put, List.setIfInBounds_toArray, List.set_cons_zero, List.set_cons_succ]
      refine ci_step (i := 3) (v := ?_) rfl (by kernel_rfl) ?_ ?_
      rotate_left
      · first | (go_simp; done) | (go_simp; with_reducible rfl)
      skip
      try simp only [Act.put, List.setIfInBounds_toArray, List.set_cons_zero, List.set_cons_succ]
      refine ci_step (i := 4) (v := ?_) rfl (by kernel_rfl) ?_ ?_
      rotate_left
      · first | (go_simp; done) | (go_simp; with_reducible rfl)
      skip
      try simp only [Act.put, List.setIfInBounds_toArray, List.set_cons_zero, List.set_cons_succ]
      refine ci_step (i := 5) (v := ?_) rfl (by kernel_rfl) ?_ ?_
      rotate_left
      · first | (go_simp; done) | (go_simp; with_reducible rfl)
      skip
      try simp only [Act.put, List.setIfInBounds_toArray, List.set_cons_zero, List.set_cons_succ]
      refine ci_step (i := 6) (v := ?_) rfl (by kernel_rfl) ?_ ?_
      rotate_left
      · first | (go_simp; done) | (go_simp; with_reducible rfl)
      skip
      try simp only [Act.put, List.setIfInBounds_toArray, List.set_cons_zero, List.set_cons_succ]
      refine ci_step (i := 7) (v := ?_) rfl (by kernel_rfl) ?_ ?_
      rotate_left
      · first | (go_simp; done) | (go_simp; with_reducible rfl)
      skip
      try simp only [Act.put, List.setIfInBounds_toArray, List.set_cons_zero, List.set_cons_succ]
      refine ci_step (i := 8) (v := ?_) rfl (by kernel_rfl) ?_ ?_
      rotate_left
      · first | (go_simp; done) | (go_simp; with_reducible rfl)
      skip
      try simp only [Act.put, List.setIfInBounds_toArray, List.set_cons_zero, List.set_cons_succ]
      refine ci_step (i := 9) (v := ?_) rfl (by kernel_rfl) ?_ ?_
      rotate_left
      · first | (go_simp; done) | (go_simp; with_reducible rfl)
      skip
      try simp only [Act.put, List.setIfInBounds_toArray, List.set_cons_zero, List.set_cons_succ]
      refine ci_step (i := 10) (v := ?_) rfl (by kernel_rfl) ?_ ?_
      rotate_left
      · first | (go_simp; done) | (go_simp; with_reducible rfl)
      skip
      try simp only [Act.put, List.setIfInBounds_toArray, List.set_cons_zero, List.set_cons_succ]
      refine ci_end ?_
      rfl
    refine draw_done (by kernel_rfl) ?_ _
    go_wp2_with fail
    refine (state_Own τ ⟨xa, xl⟩ s g1 g2 W1.drew hS).mono ?_
    rintro e w2 ⟨rfl, hb2⟩
    rw [HX.out]
    simp only [Option.getD_some, Option.isSome_some]
    replace kbo := kbo.drew.below' hb2
    replace kbn := kbn.drew.below' hb2
    replace kbl := kbl.drew.below' hb2
    replace kx := kx.drew.below' hb2
    replace hK := (kept_drew hK).trans (Kept.of_below (S := [bo, bn, bl]) hb2)
    clear hb2 c1 c2 c3 c4 l0 l1 x0 x1 m0 m1 m2 m3 e1 e2 e3 e4 e5 e6 e7 hL
    have c3 := kbo.cell 0
    have c4 := kbn.cell 0
    simp only [List.getElem?_toArray, List.getElem?_cons_zero, List.getElem?_cons_succ] at c3 c4
    have l0 := kbl.cell 0
    have l1 := kbl.cell 1
    simp only [List.getElem?_toArray, List.getElem?_cons_zero, List.getElem?_cons_succ] at l0 l1
    have x0 := kx.cell 0
    have x1 := kx.cell 1
    simp only [List.getElem?_toArray, List.getElem?_cons_zero, List.getElem?_cons_succ] at x0 x1
    have f1 := kbo.frozen 0
    have f2 := kbn.frozen 0
    have f3 := kbl.frozen 0
    have f4 := kbl.frozen 1
    go_wp2
    go_ret
    refine ⟨rfl, ?_, ?_, ?_, ?_⟩
    · simpa using (((kbo.set 0 (.bool true)).other (a := ⟨bl, 0, none⟩) n2 (.int .u32 xa)).other (a := ⟨bl, 1, none⟩) n2 (.int .i64 xl)).other (a := ⟨bn, 0, none⟩) n1 (.int .i64 1)
    · simpa using (((kbn.other (a := ⟨bo, 0, none⟩) n7 (.bool true)).other (a := ⟨bl, 0, none⟩) n3 (.int .u32 xa)).other (a := ⟨bl, 1, none⟩) n3 (.int .i64 xl)).set 0 (.int .i64 1)
    · simpa using (((kbl.other (a := ⟨bo, 0, none⟩) n8 (.bool true)).set 0 (.int .u32 xa)).set 1 (.int .i64 xl)).other (a := ⟨bn, 0, none⟩) n9 (.int .i64 1)
    · exact kept_set (kept_set (kept_set (kept_set hK _ _ (.inl (by simp))) _ _ (.inl (by simp))) _ _ (.inl (by simp))) _ _ (.inl (by simp))
  · have hless := hn.resolve_left h0
    have hne : ((n : Int) == 0) = false := by simpa using h0
    clear hn
    go_enter Try.func73, Try.ntmps73
    go_wp2_with fail
    generalize W.alloc (.cells #[.int .u32 xa, .int .i64 xl] 25) = W1 at *
    have e1 := kbm.lt
    have e2 := kbs.lt
    have e3 := kbo.lt
    have e4 := kbn.lt
    have e5 := kbl.lt
    have e6 := kx.lt
    have e7 := kM.lt
    have c1 := kbm.cell 0
    have c2 := kbs.cell 0
    have c3 := kbo.cell 0
    have c4 := kbn.cell 0
    simp only [List.getElem?_toArray, List.getElem?_cons_zero, List.getElem?_cons_succ] at c1 c2 c3 c4
    have l0 := kbl.cell 0
    have l1 := kbl.cell 1
    simp only [List.getElem?_toArray, List.getElem?_cons_zero, List.getElem?_cons_succ] at l0 l1
    have x0 := kx.cell 0
    have x1 := kx.cell 1
    simp only [List.getElem?_toArray, List.getElem?_cons_zero, List.getElem?_cons_succ] at x0 x1
    have m0 := kM.cell 0
    have m1 := kM.cell 1
    have m2 := kM.cell 2
    have m3 := kM.cell 3
    have mf0 := kM.frozen 0
    have mf1 := kM.frozen 1
    have mf2 := kM.frozen 2
    have mf3 := kM.frozen 3
    simp only [List.getElem?_toArray, List.getElem?_cons_zero, List.getElem?_cons_succ] at m0 m1 m2 m3
    refine draw_start [] Later (by kernel_rfl) ?_
    refine draw_chunk (n := 58) (by kernel_rfl) (fun _ _ _ _ _ h => h) [0, 1, 2, 3, 4, 5, 6, 7, 8, 9, 10] [] _ #[true, true, true, true, true, true, true, true, true, true, true] (by kernel_rfl) 0 _ ?_ _ rfl ?_ ?_
    rotate_left
    · intro w' hw'
      have hc' : ∀ b o, b < W1.heap.size → w'.cell? ⟨b, o, none⟩ = W1.cell? ⟨b, o, none⟩ := (bcell hw').1
      have hlk := hL w' (undrew hw')
      refine ci_step (i := 0) (v := ?_) rfl (by kernel_rfl) ?_ ?_
      rotate_left
      · first | (go_simp; done) | (go_simp; with_reducible rfl)
      skip
      try simp only [Act.put, List.setIfInBounds_toArray, List.set_cons_zero, List.set_cons_succ]
      refine ci_step (i := 1) (v := ?_) rfl (by kernel_rfl) ?_ ?_
      rotate_left
      · first | (go_simp; done) | (go_simp; with_reducible rfl)
      skip
      try simp only [Act.put, List.setIfInBounds_toArray, List.set_cons_zero, List.set_cons_succ]
      refine ci_step (i := 2) (v := ?_) rfl (by kernel_rfl) ?_ ?_
      rotate_left
      · first | (go_simp; done) | (go_simp; with_reducible rfl)
      skip
      try simp only [Act.put, List.setIfInBounds_toArray, List.set_cons_zero, List.set_cons_succ]
      refine ci_step (i := 3) (v := ?_) rfl (by kernel_rfl) ?_ ?_
      rotate_left
      · first | (go_simp; done) | (go_simp; with_reducible rfl)
      skip
      try simp only [Act.put, List.setIfInBounds_toArray, List.set_cons_zero, List.set_cons_succ]
      refine ci_step (i := 4) (v := ?_) rfl (by kernel_rfl) ?_ ?_
      rotate_left
      · first | (go_simp; done) | (go_simp; with_reducible rfl)
      skip
      try simp only [Act.put, List.setIfInBounds_toArray, List.set_cons_zero, List.set_cons_succ]
      refine ci_step (i := 5) (v := ?_) rfl (by kernel_rfl) ?_ ?_
      rotate_left
      · first | (go_simp; done) | (go_simp; with_reducible rfl)
      skip
      try simp only [Act.put, List.setIfInBounds_toArray, List.set_cons_zero, List.set_cons_succ]
      refine ci_step (i := 6) (v := ?_) rfl (by kernel_rfl) ?_ ?_
      rotate_left
      · first | (go_simp; done) | (go_simp; with_reducible rfl)
      skip
      try simp only [Act.put, List.setIfInBounds_toArray, List.set_cons_zero, List.set_cons_succ]
      refine ci_step (i := 7) (v := ?_) rfl (by kernel_rfl) ?_ ?_
      rotate_left
      · first | (go_simp; done) | (go_simp; with_reducible rfl)
      skip
      try simp only [Act.put, List.setIfInBounds_toArray, List.set_cons_zero, List.set_cons_succ]
      refine ci_step (i := 8) (v := ?_) rfl (by kernel_rfl) ?_ ?_
      rotate_left
      · first | (go_simp; done) | (go_simp; with_reducible rfl)
      skip
      try simp only [Act.put, List.setIfInBounds_toArray, List.set_cons_zero, List.set_cons_succ]
      refine ci_step (i := 9) (v := ?_) rfl (by kernel_rfl) ?_ ?_
      rotate_left
      · first | (go_simp; done) | (go_simp; with_reducible rfl)
      skip
      try simp only [Act.put, List.setIfInBounds_toArray, List.set_cons_zero, List.set_cons_succ]
      refine ci_step (i := 10) (v := ?_) rfl (by kernel_rfl) ?_ ?_
      rotate_left
      · first | (go_simp; done) | (go_simp; with_reducible rfl)
      skip
      try simp only [Act.put, List.setIfInBounds_toArray, List.set_cons_zero, List.set_cons_succ]
      refine ci_end ?_
      rfl
    refine draw_done (by kernel_rfl) ?_ _
    go_wp2_with fail
    refine (state_Own τ ⟨xa, xl⟩ s g1 g2 W1.drew hS).mono ?_
    rintro e w2 ⟨rfl, hb2⟩
    rw [HX.out]
    simp only [Option.getD_some, Option.isSome_some]
    replace kbo := kbo.drew.below' hb2
    replace kbn := kbn.drew.below' hb2
    replace kbl := kbl.drew.below' hb2
    replace kx := kx.drew.below' hb2
    replace hK := (kept_drew hK).trans (Kept.of_below (S := [bo, bn, bl]) hb2)
    clear hb2 c1 c2 c3 c4 l0 l1 x0 x1 m0 m1 m2 m3 e1 e2 e3 e4 e5 e6 e7 hL
    have c3 := kbo.cell 0
    have c4 := kbn.cell 0
    simp only [List.getElem?_toArray, List.getElem?_cons_zero, List.getElem?_cons_succ] at c3 c4
    have l0 := kbl.cell 0
    have l1 := kbl.cell 1
    simp only [List.getElem?_toArray, List.getElem?_cons_zero, List.getElem?_cons_succ] at l0 l1
    have x0 := kx.cell 0
    have x1 := kx.cell 1
    simp only [List.getElem?_toArray, List.getElem?_cons_zero, List.getElem?_cons_succ] at x0 x1
    go_wp2_with fail
    refine (law02_Less la ll xa xl _).mono ?_
    rintro e w3 ⟨rfl, hb3⟩
    rw [hless]
    replace kbo := kbo.below' hb3
    replace kbn := kbn.below' hb3
    replace kbl := kbl.below' hb3
    replace kx := kx.below' hb3
    replace hK := hK.trans (Kept.of_below (S := [bo, bn, bl]) hb3)
    clear hb3 c3 c4 l0 l1 x0 x1
    have c3 := kbo.cell 0
    have c4 := kbn.cell 0
    simp only [List.getElem?_toArray, List.getElem?_cons_zero, List.getElem?_cons_succ] at c3 c4
    have l0 := kbl.cell 0
    have l1 := kbl.cell 1
    simp only [List.getElem?_toArray, List.getElem?_cons_zero, List.getElem?_cons_succ] at l0 l1
    have x0 := kx.cell 0
    have x1 := kx.cell 1
    simp only [List.getElem?_toArray, List.getElem?_cons_zero, List.getElem?_cons_succ] at x0 x1
    have hwr : IntKind.i64.wrap ((n : Int) + 1) = (n : Int) + 1 := by rw [IntKind.wrap_i64]; omega
    have f1 := kbo.frozen 0
    have f2 := kbn.frozen 0
    have f3 := kbl.frozen 0
    have f4 := kbl.frozen 1
    go_wp2
    go_ret
    refine ⟨rfl, ?_, ?_, ?_, ?_⟩
    · simpa using (((kbo.set 0 (.bool true)).other (a := ⟨bl, 0, none⟩) n2 (.int .u32 xa)).other (a := ⟨bl, 1, none⟩) n2 (.int .i64 xl)).other (a := ⟨bn, 0, none⟩) n1 (.int .i64 ((n : Int) + 1))
    · simpa using (((kbn.other (a := ⟨bo, 0, none⟩) n7 (.bool true)).other (a := ⟨bl, 0, none⟩) n3 (.int .u32 xa)).other (a := ⟨bl, 1, none⟩) n3 (.int .i64 xl)).set 0 (.int .i64 ((n : Int) + 1))
    · simpa using (((kbl.other (a := ⟨bo, 0, none⟩) n8 (.bool true)).set 0 (.int .u32 xa)).set 1 (.int .i64 xl)).other (a := ⟨bn, 0, none⟩) n9 (.int .i64 ((n : Int) + 1))
    · exact kept_set (kept_set (kept_set (kept_set hK _ _ (.inl (by simp))) _ _ (.inl (by simp))) _ _ (.inl (by simp))) _ _ (.inl (by simp))
end Go.Proofs.Ytnfaeafplaeehaa
