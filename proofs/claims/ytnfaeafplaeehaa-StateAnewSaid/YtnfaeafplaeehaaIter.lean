import Derived.Test.YtnfaeafplaeehaaOwns
import Derived.Test.YtnfaeafplaeehaaRegionI
import Derived.RangeFuncNested
set_option linter.unusedVariables false
set_option linter.unusedSimpArgs false
namespace Go.Proofs.Ytnfaeafplaeehaa
open Go.RowKit Go.Sort Go.Lib Go.Shelf
/-! The iterators over a state, at a loop's own yield. -/
/-- What a collecting round leaves as it is: all but its own row of records, the box of that row, and the loop's own objects. -/
def staysO : Obj → Bool
  | .map .. => true
  | .cells _ t m => decide (t ≠ 22 ∧ t ≠ 39 ∧ m = (0, 0))
  | _ => false
structure KeepsS (W W' : World) : Prop where
  size : W.heap.size ≤ W'.heap.size
  same : ∀ (k : Nat) (o : Obj), W.heap[k]? = some o → staysO o = true → W'.heap[k]? = some o
theorem KeepsS.refl (W : World) : KeepsS W W := ⟨Nat.le_refl _, fun _ _ h _ => h⟩
theorem KeepsS.trans {A B C : World} (h : KeepsS A B) (k : KeepsS B C) : KeepsS A C := ⟨Nat.le_trans h.size k.size, fun i o hi ho => k.same i o (h.same i o hi ho) ho⟩
theorem KeepsS.of_below {A B : World} (h : Below A.heap.size A B) : KeepsS A B := ⟨h.size, fun i o hi _ => (h.block i (lt_of_heap hi)).trans hi⟩
theorem KeepsS.drew {A B : World} (h : KeepsS A B) : KeepsS A B.drew := ⟨h.size, h.same⟩
theorem KeepsS.blk {A B : World} (h : KeepsS A B) {g : Nat} {t : TypeId} {cs : Array Value} (hb : Blk A g t cs) (h1 : t ≠ 22) (h2 : t ≠ 39) : Blk B g t cs := h.same g _ hb (by simp [staysO, h1, h2])
theorem KeepsS.map {α β : Type} {A B : World} (h : KeepsS A B) {b : Nat} {ek : α → Value} {ev : β → Value} {m : List (α × β)} (hm : MapAt A b ek ev m) : MapAt B b ek ev m := by
  obtain ⟨es, c, h1, r⟩ := hm
  exact ⟨es, c, h.same b _ h1 rfl, r⟩
theorem KeepsS.st {T : TypeId} {A B : World} (h : KeepsS A B) {s g1 g2 : Nat} {σ : St} (hs : StAt T A s g1 g2 σ) (h1 : T ≠ 22) (h2 : T ≠ 39) : StAt T B s g1 g2 σ :=
  ⟨h.blk hs.1 h1 h2, h.map hs.2.1, h.map hs.2.2.1, hs.2.2.2⟩
theorem KeepsS.row {A B : World} (h : KeepsS A B) {size n : Nat} {ad : Option Addr} {cs : List Value} {t : TypeId} (hr : Row A size ad n cs) (hb : ∀ b off, ad = some ⟨b, off, none⟩ → ∃ cur, A.heap[b]? = some (.cells cur t (0, 0))) (h1 : t ≠ 22) (h2 : t ≠ 39) : Row B size ad n cs := by
  obtain ⟨a, b, c⟩ := hr
  refine ⟨a, b, fun h0 => ?_⟩
  obtain ⟨g, off, e, hlt, hc⟩ := c h0
  obtain ⟨cur, hcur⟩ := hb g off e
  exact ⟨g, off, e, Nat.lt_of_lt_of_le hlt h.size, fun j u hj => (World.cell?_of_block (w := A) ((h.blk hcur h1 h2).trans hcur.symm)).trans (hc j u hj)⟩
set_option maxRecDepth 100000 in
set_option maxHeartbeats 4000000 in
theorem owns_in (n : Nat) (hn : 1 ≤ n) (τ : St) (bx s g1 g2 : Nat) (w0 : World) (hS0 : StAt 121 w0 s g1 g2 τ) (kbx0 : Blk w0 bx 33 #[.pointer (some ⟨s, 0, none⟩)]) (hN : τ.own.length ≤ 1000000) :
    SeqStopsK Fence.wide n Try.prog 101 #[.pointer (some ⟨bx, 0, none⟩)] (fun e : Pfx × Bool => #[.agg #[.int .u32 e.1.a, .int .i64 e.1.l], .bool e.2]) KeepsS (fun xs => ∃ ss : List Pfx, ss.Perm (τ.own.map (·.1)) ∧ xs = ss.map (fun x => (x, (getM τ.own x).getD false))) (fun _ => True) τ.own.length w0 := by
  intro l J Jx w hW hAJ hAX hY h0
  have hJ : ∀ pre W W', J pre W → Below W.heap.size W W' → J pre W' := fun pre W W' h hb => hAJ pre W W' none h ⟨hb.os, hb.tape, hb.output, hb.size, fun k hk _ => hb.block k hk⟩ (fun r e => by cases e)
  have hX : ∀ pre W W', Jx pre W → Below W.heap.size W W' → Jx pre W' := fun pre W W' h hb => hAX pre W W' none h ⟨hb.os, hb.tape, hb.output, hb.size, fun k hk _ => hb.block k hk⟩ (fun r e => by cases e)
  have hS := hS0.below hW
  have kbx := kbx0.below' hW
  show CallsIn Fence.wide n Try.prog _ #[.func (.yield l) #[] #[], .pointer (some ⟨bx, 0, none⟩)] w _
  have c1 := kbx.cell 0
  simp only [List.getElem?_toArray, List.getElem?_cons_zero] at c1
  have hSB := hS.1
  have s0 := hSB.cell 0
  have s1 := hSB.cell 1
  have s2 := hSB.cell 2
  have s3 := hSB.cell 3
  have sf0 := hSB.frozen 0
  have sf1 := hSB.frozen 1
  have sf2 := hSB.frozen 2
  have sf3 := hSB.frozen 3
  simp only [List.getElem?_toArray, List.getElem?_cons_zero, List.getElem?_cons_succ] at s0 s1 s2 s3
  have hfS : Fence.wide.fn 102 := trivial
  have hcall := callsIn_wide (n := n - 1) |>.2 (sPfx_all g1 τ.own w hS.2.1 hN)
  refine callsIn_of_wp Try.func101 rfl trivial ?_ rfl
  simp only [Try.ntmps101, List.size_toArray, List.length_cons, List.length_nil, Nat.reduceAdd, Nat.reduceSub, Array.replicate_succ, Array.replicate_zero, List.push_toArray, List.append_toArray, List.nil_append, List.cons_append]
  gi_wp2_with (gi_at_call 102; refine hcall.mono ?_; rintro e w1 ⟨ad, c, ss, rfl, hp, hs, hr, hb1, hfr⟩; have HB1 := Lib.hid hb1; have HFR := Lib.hid hfr; have HR := Lib.hid hr; have HPP := Lib.hid hp; clear hb1 hfr hr hp)
  have hb1 := HB1.out
  have hfr := HFR.out
  have hr := HR.out
  have hp := HPP.out
  clear HB1 HFR HR HPP
  have hlen : ss.length = τ.own.length := by have := hp.length_eq; simpa using this
  have HLN := Lib.hid hlen
  have hmax := hr.2.1
  have hk0 : KeepsS w w1 := KeepsS.of_below hb1
  have hj0 := hJ [] w w1 h0 hb1
  replace hS := hS.below hb1
  replace kbx := kbx.below' hb1
  have hcur : ∀ b off, ad = some ⟨b, off, none⟩ → ∃ cur, w1.heap[b]? = some (.cells cur 25 (0, 0)) := fun b off h => (hfr b off h).2
  clear hb1 hfr c1 s0 s1 s2 s3 sf0 sf1 sf2 sf3 hSB hcall h0 hlen hs
  try gi_wp2
  gi_loopw [11] (fun i wr => ∃ k : Nat, k ≤ ss.length ∧ i = .int .i64 k ∧ J ((ss.take k).map fun x => (x, (getM τ.own x).getD false)) wr ∧ KeepsS w1 wr) (fun i _ => ss.length - (intOf i).toNat)
  case atStart => exact ⟨0, Nat.zero_le _, rfl, hj0, KeepsS.refl _⟩
  case round =>
    clear hj0
    obtain ⟨k, hk, rfl, hj, hw⟩ := hrel
    by_cases hlt : k < ss.length
    · have hcur' := hcur
      obtain ⟨b, off, rfl, hbl, hcell⟩ := (hw.row hr hcur (by decide) (by decide)).2.2 (by omega)
      have e0 := hcell (k * 2 + 0) _ ((flat_get Pfx.cells 2 (fun _ => rfl) ss k 0 hlt (by omega)).trans rfl)
      have e1 := hcell (k * 2 + 1) _ ((flat_get Pfx.cells 2 (fun _ => rfl) ss k 1 hlt (by omega)).trans rfl)
      have HT := Lib.hid (show ss.take (k + 1) = ss.take k ++ [ss[k]] from List.take_succ_eq_append_getElem hlt)
      obtain ⟨on, hon⟩ := getM_mem τ.own ss[k] (hp.mem_iff.1 (List.getElem_mem hlt))
      generalize ss[k] = x at *
      obtain ⟨xa, xl⟩ := x
      simp only [← Nat.add_assoc, Nat.add_zero] at e0 e1
      clear hcell
      gi_wp2
      replace hS := hw.st hS (by decide) (by decide)
      replace kbx := hw.blk kbx (by decide) (by decide)
      have hbA := (Below.refl wr.heap.size wr).alloc (Nat.le_refl _) (.cells #[.int .u32 xa, .int .i64 xl] 25)
      have kx := Blk.new wr 25 #[.int .u32 xa, .int .i64 xl]
      replace hw := hw.trans (KeepsS.of_below hbA)
      replace hj := hJ _ _ _ hj hbA
      replace hS := hS.below hbA
      replace kbx := kbx.below' hbA
      clear hbA e0 e1 hbl hr hcur hcur'
      generalize wr.alloc (.cells #[.int .u32 xa, .int .i64 xl] 25) = W at *
      generalize wr.heap.size = q at *
      have hSB := hS.1
      have hm1 := hS.2.1
      have v1 := hSB.lt
      have v2 := kx.lt
      have v3 := kbx.lt
      have c1 := kbx.cell 0
      simp only [List.getElem?_toArray, List.getElem?_cons_zero] at c1
      have s0 := hSB.cell 0
      have s1 := hSB.cell 1
      have s2 := hSB.cell 2
      have s3 := hSB.cell 3
      have sf0 := hSB.frozen 0
      have sf1 := hSB.frozen 1
      have sf2 := hSB.frozen 2
      have sf3 := hSB.frozen 3
      simp only [List.getElem?_toArray, List.getElem?_cons_zero, List.getElem?_cons_succ] at s0 s1 s2 s3
      have x0 := kx.cell 0
      have x1 := kx.cell 1
      simp only [List.getElem?_toArray, List.getElem?_cons_zero, List.getElem?_cons_succ] at x0 x1
      refine draw_startI [8] Later (by kernel_rfl) ?_
      refine draw_chunkI (n := 26) (by kernel_rfl) (fun _ _ _ _ _ h => h) [0, 1, 2, 3, 4, 5, 6, 7] [] _ #[true, true, true, true, true, true, true, true, false, false] (by kernel_rfl) 2 _ ?_ _ rfl ?_ ?_
      rotate_left
      · intro w' hw'
        have hc' : ∀ b o, b < W.heap.size → w'.cell? ⟨b, o, none⟩ = W.cell? ⟨b, o, none⟩ := (bcell hw').1
        have hlk := run_lookup_some pfx_keys Try.underlying42 (hm1.same ((undrew hw').block g1 hm1.lt)) ⟨xa, xl⟩ on hon false; simp only [Pfx.val] at hlk
        refine ci_step (i := 0) (v := ?_) rfl (by kernel_rfl) ?_ ?_
        rotate_left
        · first | (go_simp; done) | (go_simp; with_reducible rfl)
        skip
        try simp only [Act.put, List.setIfInBounds_toArray, List.set_cons_zero, List.set_cons_succ]
        refine ci_step (i := 1) (v := ?_) rfl (by kernel_rfl) ?_ ?_
        rotate_left
        · first | (go_simp; done) | (go_simp; with_reducible rfl)
        skip
        try simp only [Act.put, List.setIfInBounds_toArray, List.set_cons_zero, List.set_cons_succ]
        refine ci_step (i := 2) (v := ?_) rfl (by kernel_rfl) ?_ ?_
        rotate_left
        · first | (go_simp; done) | (go_simp; with_reducible rfl)
        skip
        try simp only [Act.put, List.setIfInBounds_toArray, List.set_cons_zero, List.set_cons_succ]
        refine ci_step (i := 3) (v := ?_) rfl (by kernel_rfl) ?_ ?_
        rotate_left
        · first | (go_simp; done) | (go_simp; with_reducible rfl)
        skip
        try simp only [Act.put, List.setIfInBounds_toArray, List.set_cons_zero, List.set_cons_succ]
        refine ci_step (i := 4) (v := ?_) rfl (by kernel_rfl) ?_ ?_
        rotate_left
        · first | (go_simp; done) | (go_simp; with_reducible rfl)
        skip
        try simp only [Act.put, List.setIfInBounds_toArray, List.set_cons_zero, List.set_cons_succ]
        refine ci_step (i := 5) (v := ?_) rfl (by kernel_rfl) ?_ ?_
        rotate_left
        · first | (go_simp; done) | (go_simp; with_reducible rfl)
        skip
        try simp only [Act.put, List.setIfInBounds_toArray, List.set_cons_zero, List.set_cons_succ]
        refine ci_step (i := 6) (v := ?_) rfl (by kernel_rfl) ?_ ?_
        rotate_left
        · first | (go_simp; done) | (go_simp; with_reducible rfl)
        skip
        try simp only [Act.put, List.setIfInBounds_toArray, List.set_cons_zero, List.set_cons_succ]
        refine ci_step (i := 7) (v := ?_) rfl (by kernel_rfl) ?_ ?_
        rotate_left
        · first | (go_simp; done) | (go_simp; with_reducible rfl)
        skip
        try simp only [Act.put, List.setIfInBounds_toArray, List.set_cons_zero, List.set_cons_succ]
        refine ci_end ?_
        rfl
      refine draw_effI (i := 8) rfl (by kernel_rfl) (listed' := #[true, true, true, true, true, true, true, true, true, false]) rfl (fun K hK => ?_)
      replace hK := Lib.hid hK
      obtain ⟨fn, tmps, assign, body, hy, hR⟩ := hY ((ss.take k).map fun x => (x, (getM τ.own x).getD false)) (⟨xa, xl⟩, on) W.drew (hJ _ _ _ hj (Below.drew (Below.refl _ _))) (by rw [List.length_map, List.length_take, ← HLN.out]; omega)
      gi_wp2
      refine hR.mono ?_
      rintro e w2 (⟨rfl, hj2, hk2⟩ | ⟨rfl, hj2⟩)
      · gi_wp2
        refine hK.out _ _ ⟨fun h => absurd (by decide) h, ?_⟩
        clear hK
        refine draw_chunkI (n := 26) (by kernel_rfl) (fun _ _ _ _ _ h => h) [9] [] _ #[true, true, true, true, true, true, true, true, true, true] (by kernel_rfl) 0 _ ?_ _ rfl ?_ ?_
        rotate_left
        · intro w' hw'
          have hc' : ∀ b o, b < w2.heap.size → w'.cell? ⟨b, o, none⟩ = w2.cell? ⟨b, o, none⟩ := (bcell hw').1
          refine ci_step (i := 9) (v := ?_) rfl (by kernel_rfl) ?_ ?_
          rotate_left
          · first | (go_simp; done) | (go_simp; with_reducible rfl)
          skip
          try simp only [Act.put, List.setIfInBounds_toArray, List.set_cons_zero, List.set_cons_succ]
          refine ci_end ?_
          rfl
        refine draw_doneI (by kernel_rfl) ?_ _
        gi_wp2
        go_roundw
        case rel => exact ⟨k + 1, by omega, by go_num, by rw [HT.out, List.map_append, List.map_singleton, hon]; exact hJ _ _ _ hj2 (Below.refl _ _), hw.drew.trans hk2⟩
        case measure => simp [intOf]; omega
      · gi_wp2
        refine hK.out _ _ ⟨fun h => absurd (by decide) h, ?_⟩
        clear hK
        refine draw_chunkI (n := 26) (by kernel_rfl) (fun _ _ _ _ _ h => h) [9] [] _ #[true, true, true, true, true, true, true, true, true, true] (by kernel_rfl) 0 _ ?_ _ rfl ?_ ?_
        rotate_left
        · intro w' hw'
          refine ci_step (i := 9) (v := ?_) rfl (by kernel_rfl) ?_ ?_
          rotate_left
          · first | (go_simp; done) | (go_simp; with_reducible rfl)
          skip
          try simp only [Act.put, List.setIfInBounds_toArray, List.set_cons_zero, List.set_cons_succ]
          refine ci_end ?_
          rfl
        refine draw_doneI (by kernel_rfl) ?_ _
        gi_wp2
        exact bodyPost_ret (results_none rfl _ _ _) rfl ⟨⟨_, rfl⟩, .inr ⟨_, trivial, hX _ _ _ hj2 (Below.refl _ _)⟩⟩
    · obtain rfl : k = ss.length := by omega
      rw [List.take_length] at hj
      gi_wp2
      go_end0
      exact ⟨⟨_, rfl⟩, .inl ⟨_, ⟨ss, hp, rfl⟩, hj⟩⟩
set_option maxRecDepth 100000 in
set_option maxHeartbeats 4000000 in
theorem floors_in (n : Nat) (hn : 1 ≤ n) (τ : St) (bx s g1 g2 : Nat) (w0 : World) (hS0 : StAt 121 w0 s g1 g2 τ) (kbx0 : Blk w0 bx 33 #[.pointer (some ⟨s, 0, none⟩)]) (hN : τ.fl.length ≤ 1000000) :
    SeqStopsK Fence.wide n Try.prog 103 #[.pointer (some ⟨bx, 0, none⟩)] (fun e : Key × Dst => #[.agg #[.int .u32 e.1.a, .int .i64 e.1.l, .int .u32 e.1.id], .agg #[.int .u32 e.2.1, .int .u16 e.2.2]]) KeepsS (fun xs => ∃ ss : List Key, ss.Perm (τ.fl.map (·.1)) ∧ xs = ss.map (fun x => (x, (getM τ.fl x).getD (0, 0)))) (fun _ => True) τ.fl.length w0 := by
  intro l J Jx w hW hAJ hAX hY h0
  have hJ : ∀ pre W W', J pre W → Below W.heap.size W W' → J pre W' := fun pre W W' h hb => hAJ pre W W' none h ⟨hb.os, hb.tape, hb.output, hb.size, fun k hk _ => hb.block k hk⟩ (fun r e => by cases e)
  have hX : ∀ pre W W', Jx pre W → Below W.heap.size W W' → Jx pre W' := fun pre W W' h hb => hAX pre W W' none h ⟨hb.os, hb.tape, hb.output, hb.size, fun k hk _ => hb.block k hk⟩ (fun r e => by cases e)
  have hS := hS0.below hW
  have kbx := kbx0.below' hW
  show CallsIn Fence.wide n Try.prog _ #[.func (.yield l) #[] #[], .pointer (some ⟨bx, 0, none⟩)] w _
  have c1 := kbx.cell 0
  simp only [List.getElem?_toArray, List.getElem?_cons_zero] at c1
  have hSB := hS.1
  have s0 := hSB.cell 0
  have s1 := hSB.cell 1
  have s2 := hSB.cell 2
  have s3 := hSB.cell 3
  have sf0 := hSB.frozen 0
  have sf1 := hSB.frozen 1
  have sf2 := hSB.frozen 2
  have sf3 := hSB.frozen 3
  simp only [List.getElem?_toArray, List.getElem?_cons_zero, List.getElem?_cons_succ] at s0 s1 s2 s3
  have hfS : Fence.wide.fn 104 := trivial
  have hcall := callsIn_wide (n := n - 1) |>.2 (sKey_all g2 τ.fl w hS.2.2.1 hN)
  refine callsIn_of_wp Try.func103 rfl trivial ?_ rfl
  simp only [Try.ntmps103, List.size_toArray, List.length_cons, List.length_nil, Nat.reduceAdd, Nat.reduceSub, Array.replicate_succ, Array.replicate_zero, List.push_toArray, List.append_toArray, List.nil_append, List.cons_append]
  gi_wp2_with (gi_at_call 104; refine hcall.mono ?_; rintro e w1 ⟨ad, c, ss, rfl, hp, hs, hr, hb1, hfr⟩; have HB1 := Lib.hid hb1; have HFR := Lib.hid hfr; have HR := Lib.hid hr; have HPP := Lib.hid hp; clear hb1 hfr hr hp)
  have hb1 := HB1.out
  have hfr := HFR.out
  have hr := HR.out
  have hp := HPP.out
  clear HB1 HFR HR HPP
  have hlen : ss.length = τ.fl.length := by have := hp.length_eq; simpa using this
  have HLN := Lib.hid hlen
  have hmax := hr.2.1
  have hk0 : KeepsS w w1 := KeepsS.of_below hb1
  have hj0 := hJ [] w w1 h0 hb1
  replace hS := hS.below hb1
  replace kbx := kbx.below' hb1
  have hcur : ∀ b off, ad = some ⟨b, off, none⟩ → ∃ cur, w1.heap[b]? = some (.cells cur 27 (0, 0)) := fun b off h => (hfr b off h).2
  clear hb1 hfr c1 s0 s1 s2 s3 sf0 sf1 sf2 sf3 hSB hcall h0 hlen hs
  try gi_wp2
  gi_loopw [11] (fun i wr => ∃ k : Nat, k ≤ ss.length ∧ i = .int .i64 k ∧ J ((ss.take k).map fun x => (x, (getM τ.fl x).getD (0, 0))) wr ∧ KeepsS w1 wr) (fun i _ => ss.length - (intOf i).toNat)
  case atStart => exact ⟨0, Nat.zero_le _, rfl, hj0, KeepsS.refl _⟩
  case round =>
    clear hj0
    obtain ⟨k, hk, rfl, hj, hw⟩ := hrel
    by_cases hlt : k < ss.length
    · have hcur' := hcur
      obtain ⟨b, off, rfl, hbl, hcell⟩ := (hw.row hr hcur (by decide) (by decide)).2.2 (by omega)
      have e0 := hcell (k * 3 + 0) _ ((flat_get Key.cells 3 (fun _ => rfl) ss k 0 hlt (by omega)).trans rfl)
      have e1 := hcell (k * 3 + 1) _ ((flat_get Key.cells 3 (fun _ => rfl) ss k 1 hlt (by omega)).trans rfl)
      have e2 := hcell (k * 3 + 2) _ ((flat_get Key.cells 3 (fun _ => rfl) ss k 2 hlt (by omega)).trans rfl)
      have HT := Lib.hid (show ss.take (k + 1) = ss.take k ++ [ss[k]] from List.take_succ_eq_append_getElem hlt)
      obtain ⟨⟨ds, dm⟩, hon⟩ := getM_mem τ.fl ss[k] (hp.mem_iff.1 (List.getElem_mem hlt))
      generalize ss[k] = x at *
      obtain ⟨xa, xl, xi⟩ := x
      simp only [← Nat.add_assoc, Nat.add_zero] at e0 e1 e2
      clear hcell
      gi_wp2
      replace hS := hw.st hS (by decide) (by decide)
      replace kbx := hw.blk kbx (by decide) (by decide)
      have hbA := (Below.refl wr.heap.size wr).alloc (Nat.le_refl _) (.cells #[.int .u32 xa, .int .i64 xl, .int .u32 xi] 27)
      have kx := Blk.new wr 27 #[.int .u32 xa, .int .i64 xl, .int .u32 xi]
      replace hw := hw.trans (KeepsS.of_below hbA)
      replace hj := hJ _ _ _ hj hbA
      replace hS := hS.below hbA
      replace kbx := kbx.below' hbA
      clear hbA e0 e1 e2 hbl hr hcur hcur'
      generalize wr.alloc (.cells #[.int .u32 xa, .int .i64 xl, .int .u32 xi] 27) = W at *
      generalize wr.heap.size = q at *
      have hSB := hS.1
      have hm1 := hS.2.2.1
      have v1 := hSB.lt
      have v2 := kx.lt
      have v3 := kbx.lt
      have c1 := kbx.cell 0
      simp only [List.getElem?_toArray, List.getElem?_cons_zero] at c1
      have s0 := hSB.cell 0
      have s1 := hSB.cell 1
      have s2 := hSB.cell 2
      have s3 := hSB.cell 3
      have sf0 := hSB.frozen 0
      have sf1 := hSB.frozen 1
      have sf2 := hSB.frozen 2
      have sf3 := hSB.frozen 3
      simp only [List.getElem?_toArray, List.getElem?_cons_zero, List.getElem?_cons_succ] at s0 s1 s2 s3
      have x0 := kx.cell 0
      have x1 := kx.cell 1
      have x2 := kx.cell 2
      simp only [List.getElem?_toArray, List.getElem?_cons_zero, List.getElem?_cons_succ] at x0 x1 x2
      refine draw_startI [8] Later (by kernel_rfl) ?_
      refine draw_chunkI (n := 26) (by kernel_rfl) (fun _ _ _ _ _ h => h) [0, 1, 2, 3, 4, 5, 6, 7] [] _ #[true, true, true, true, true, true, true, true, false, false] (by kernel_rfl) 2 _ ?_ _ rfl ?_ ?_
      rotate_left
      · intro w' hw'
        have hc' : ∀ b o, b < W.heap.size → w'.cell? ⟨b, o, none⟩ = W.cell? ⟨b, o, none⟩ := (bcell hw').1
        have hlk := run_lookup_some key_keys Try.underlying43 (hm1.same ((undrew hw').block g2 hm1.lt)) ⟨xa, xl, xi⟩ (ds, dm) hon false; simp only [Key.val, dstV] at hlk
        refine ci_step (i := 0) (v := ?_) rfl (by kernel_rfl) ?_ ?_
        rotate_left
        · first | (go_simp; done) | (go_simp; with_reducible rfl)
        skip
        try simp only [Act.put, List.setIfInBounds_toArray, List.set_cons_zero, List.set_cons_succ]
        refine ci_step (i := 1) (v := ?_) rfl (by kernel_rfl) ?_ ?_
        rotate_left
        · first | (go_simp; done) | (go_simp; with_reducible rfl)
        skip
        try simp only [Act.put, List.setIfInBounds_toArray, List.set_cons_zero, List.set_cons_succ]
        refine ci_step (i := 2) (v := ?_) rfl (by kernel_rfl) ?_ ?_
        rotate_left
        · first | (go_simp; done) | (go_simp; with_reducible rfl)
        skip
        try simp only [Act.put, List.setIfInBounds_toArray, List.set_cons_zero, List.set_cons_succ]
        refine ci_step (i := 3) (v := ?_) rfl (by kernel_rfl) ?_ ?_
        rotate_left
        · first | (go_simp; done) | (go_simp; with_reducible rfl)
        skip
        try simp only [Act.put, List.setIfInBounds_toArray, List.set_cons_zero, List.set_cons_succ]
        refine ci_step (i := 4) (v := ?_) rfl (by kernel_rfl) ?_ ?_
        rotate_left
        · first | (go_simp; done) | (go_simp; with_reducible rfl)
        skip
        try simp only [Act.put, List.setIfInBounds_toArray, List.set_cons_zero, List.set_cons_succ]
        refine ci_step (i := 5) (v := ?_) rfl (by kernel_rfl) ?_ ?_
        rotate_left
        · first | (go_simp; done) | (go_simp; with_reducible rfl)
        skip
        try simp only [Act.put, List.setIfInBounds_toArray, List.set_cons_zero, List.set_cons_succ]
        refine ci_step (i := 6) (v := ?_) rfl (by kernel_rfl) ?_ ?_
        rotate_left
        · first | (go_simp; done) | (go_simp; with_reducible rfl)
        skip
        try simp only [Act.put, List.setIfInBounds_toArray, List.set_cons_zero, List.set_cons_succ]
        refine ci_step (i := 7) (v := ?_) rfl (by kernel_rfl) ?_ ?_
        rotate_left
        · first | (go_simp; done) | (go_simp; with_reducible rfl)
        skip
        try simp only [Act.put, List.setIfInBounds_toArray, List.set_cons_zero, List.set_cons_succ]
        refine ci_end ?_
        rfl
      refine draw_effI (i := 8) rfl (by kernel_rfl) (listed' := #[true, true, true, true, true, true, true, true, true, false]) rfl (fun K hK => ?_)
      replace hK := Lib.hid hK
      obtain ⟨fn, tmps, assign, body, hy, hR⟩ := hY ((ss.take k).map fun x => (x, (getM τ.fl x).getD (0, 0))) (⟨xa, xl, xi⟩, (ds, dm)) W.drew (hJ _ _ _ hj (Below.drew (Below.refl _ _))) (by rw [List.length_map, List.length_take, ← HLN.out]; omega)
      gi_wp2
      refine hR.mono ?_
      rintro e w2 (⟨rfl, hj2, hk2⟩ | ⟨rfl, hj2⟩)
      · gi_wp2
        refine hK.out _ _ ⟨fun h => absurd (by decide) h, ?_⟩
        clear hK
        refine draw_chunkI (n := 26) (by kernel_rfl) (fun _ _ _ _ _ h => h) [9] [] _ #[true, true, true, true, true, true, true, true, true, true] (by kernel_rfl) 0 _ ?_ _ rfl ?_ ?_
        rotate_left
        · intro w' hw'
          have hc' : ∀ b o, b < w2.heap.size → w'.cell? ⟨b, o, none⟩ = w2.cell? ⟨b, o, none⟩ := (bcell hw').1
          refine ci_step (i := 9) (v := ?_) rfl (by kernel_rfl) ?_ ?_
          rotate_left
          · first | (go_simp; done) | (go_simp; with_reducible rfl)
          skip
          try simp only [Act.put, List.setIfInBounds_toArray, List.set_cons_zero, List.set_cons_succ]
          refine ci_end ?_
          rfl
        refine draw_doneI (by kernel_rfl) ?_ _
        gi_wp2
        go_roundw
        case rel => exact ⟨k + 1, by omega, by go_num, by rw [HT.out, List.map_append, List.map_singleton, hon]; exact hJ _ _ _ hj2 (Below.refl _ _), hw.drew.trans hk2⟩
        case measure => simp [intOf]; omega
      · gi_wp2
        refine hK.out _ _ ⟨fun h => absurd (by decide) h, ?_⟩
        clear hK
        refine draw_chunkI (n := 26) (by kernel_rfl) (fun _ _ _ _ _ h => h) [9] [] _ #[true, true, true, true, true, true, true, true, true, true] (by kernel_rfl) 0 _ ?_ _ rfl ?_ ?_
        rotate_left
        · intro w' hw'
          refine ci_step (i := 9) (v := ?_) rfl (by kernel_rfl) ?_ ?_
          rotate_left
          · first | (go_simp; done) | (go_simp; with_reducible rfl)
          skip
          try simp only [Act.put, List.setIfInBounds_toArray, List.set_cons_zero, List.set_cons_succ]
          refine ci_end ?_
          rfl
        refine draw_doneI (by kernel_rfl) ?_ _
        gi_wp2
        exact bodyPost_ret (results_none rfl _ _ _) rfl ⟨⟨_, rfl⟩, .inr ⟨_, trivial, hX _ _ _ hj2 (Below.refl _ _)⟩⟩
    · obtain rfl : k = ss.length := by omega
      rw [List.take_length] at hj
      gi_wp2
      go_end0
      exact ⟨⟨_, rfl⟩, .inl ⟨_, ⟨ss, hp, rfl⟩, hj⟩⟩
end Go.Proofs.Ytnfaeafplaeehaa
