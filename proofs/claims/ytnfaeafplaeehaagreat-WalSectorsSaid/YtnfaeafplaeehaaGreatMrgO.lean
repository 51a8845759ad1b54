/- own texts of this claim, one behind the other: see the remarks within -/
import Derived.Test.YtnfaeafplaeehaaGreatMrgN
import Derived.Test.YtnfaeafplaeehaaGreatMrgG
import Derived.Test.YtnfaeafplaeehaaGreatRegionI
import Derived.RangeFuncNested
import Derived.BigQuiet
section
set_option linter.unusedVariables false
set_option linter.unusedSimpArgs false
namespace Go.Proofs.YtnfaeafplaeehaaGreat
open Go.RowKit Go.Sort Go.Lib Go.Shelf
/-! The iterators over a state, at a loop's own yield: the keys in order. -/
theorem getM_memS {α β : Type} [DecidableEq α] (m : List (α × β)) (k : α) (h : k ∈ m.map (·.1)) : ∃ v, getM m k = some v := by
  induction m with
  | nil => simp at h
  | cons e m ih =>
    by_cases he : k = e.1
    · exact ⟨e.2, by unfold getM; rw [List.find?_cons_of_pos (by simpa using he)]; rfl⟩
    · have : k ∈ m.map (·.1) := by
        rcases List.mem_cons.1 h with h | h
        · exact absurd h he
        · exact h
      obtain ⟨v, hv⟩ := ih this
      exact ⟨v, by unfold getM at *; rw [List.find?_cons_of_neg (by simpa using he)]; exact hv⟩
def pfxSort (l : List Pfx) : List Pfx := l.mergeSort (fun x y => !(ltOf pfxCf y x))
def keySort (l : List Key) : List Key := l.mergeSort (fun x y => !(ltOf kcmp y x))
theorem swo_eq {α : Type} {lt : α → α → Bool} (hw : SWO lt) (ha : ∀ x y, lt x y = false → lt y x = false → x = y) {ss K : List α} (hp : ss.Perm K) (hs : ss.Pairwise fun x y => lt y x = false) : ss = K.mergeSort (fun x y => !(lt y x)) := by
  have h1 := List.pairwise_mergeSort (le := fun x y => !(lt y x)) (fun a b c h1 h2 => by
    simp only [Bool.not_eq_true'] at *
    exact hw.ntrans _ _ _ h2 h1) (fun a b => by
    by_cases h : lt b a = true
    · have : lt a b = false := by
        cases h2 : lt a b with
        | false => rfl
        | true => exact absurd (hw.trans _ _ _ h h2) (by rw [hw.irrefl]; simp)
      simp [this]
    · simp at h; simp [h]) K
  refine List.Perm.eq_of_pairwise (le := fun x y => lt y x = false) (fun a b _ _ h1 h2 => ha _ _ h2 h1) hs ?_ (hp.trans (List.mergeSort_perm _ _).symm)
  exact h1.imp (fun h => by simpa using h)
theorem pfx_eq_sort {ss K : List Pfx} (hp : ss.Perm K) (hs : ss.Pairwise fun x y => ltOf pfxCf y x = false) : ss = pfxSort K :=
  swo_eq pfxSWO (fun x y h1 h2 => by
    rw [pfxLt] at h1 h2
    obtain ⟨a, l⟩ := x
    obtain ⟨b, m⟩ := y
    simp only [decide_eq_false_iff_not, Pfx.mk.injEq] at *
    omega) hp hs
theorem key_eq_sort {ss K : List Key} (hp : ss.Perm K) (hs : ss.Pairwise fun x y => ltOf kcmp y x = false) : ss = keySort K :=
  swo_eq keySWO (fun x y h1 h2 => by
    rw [keyLt] at h1 h2
    obtain ⟨a, l, i⟩ := x
    obtain ⟨b, m, j⟩ := y
    simp only [decide_eq_false_iff_not, Key.mk.injEq] at *
    omega) hp hs
/-- What a collecting round leaves as it is: all but its own row of records, the box of that row, and the loop's own objects. -/
def staysO : Obj → Bool
  | .map .. => true
  | .cells _ t m => decide (t ≠ 22 ∧ t ≠ 41 ∧ m = (0, 0))
  | _ => false
structure KeepsS (W W' : World) : Prop where
  size : W.heap.size ≤ W'.heap.size
  same : ∀ (k : Nat) (o : Obj), W.heap[k]? = some o → staysO o = true → W'.heap[k]? = some o
theorem KeepsS.refl (W : World) : KeepsS W W := ⟨Nat.le_refl _, fun _ _ h _ => h⟩
theorem KeepsS.trans {A B C : World} (h : KeepsS A B) (k : KeepsS B C) : KeepsS A C := ⟨Nat.le_trans h.size k.size, fun i o hi ho => k.same i o (h.same i o hi ho) ho⟩
theorem KeepsS.of_below {A B : World} (h : Below A.heap.size A B) : KeepsS A B := ⟨h.size, fun i o hi _ => (h.block i (lt_of_heap hi)).trans hi⟩
theorem KeepsS.drew {A B : World} (h : KeepsS A B) : KeepsS A B.drew := ⟨h.size, h.same⟩
theorem KeepsS.blk {A B : World} (h : KeepsS A B) {g : Nat} {t : TypeId} {cs : Array Value} (hb : Blk A g t cs) (h1 : t ≠ 22) (h2 : t ≠ 41) : Blk B g t cs := h.same g _ hb (by simp [staysO, h1, h2])
theorem KeepsS.map {α β : Type} {A B : World} (h : KeepsS A B) {b : Nat} {ek : α → Value} {ev : β → Value} {m : List (α × β)} (hm : MapAt A b ek ev m) : MapAt B b ek ev m := by
  obtain ⟨es, c, h1, r⟩ := hm
  exact ⟨es, c, h.same b _ h1 rfl, r⟩
theorem KeepsS.st {T : TypeId} {A B : World} (h : KeepsS A B) {s g1 g2 : Nat} {σ : St} (hs : StAt T A s g1 g2 σ) (h1 : T ≠ 22) (h2 : T ≠ 41) : StAt T B s g1 g2 σ :=
  ⟨h.blk hs.1 h1 h2, h.map hs.2.1, h.map hs.2.2.1, hs.2.2.2⟩
theorem KeepsS.row {A B : World} (h : KeepsS A B) {size n : Nat} {ad : Option Addr} {cs : List Value} {t : TypeId} (hr : Row A size ad n cs) (hb : ∀ b off, ad = some ⟨b, off, none⟩ → ∃ cur, A.heap[b]? = some (.cells cur t (0, 0))) (h1 : t ≠ 22) (h2 : t ≠ 41) : Row B size ad n cs := by
  obtain ⟨a, b, c⟩ := hr
  refine ⟨a, b, fun h0 => ?_⟩
  obtain ⟨g, off, e, hlt, hc⟩ := c h0
  obtain ⟨cur, hcur⟩ := hb g off e
  exact ⟨g, off, e, Nat.lt_of_lt_of_le hlt h.size, fun j u hj => (World.cell?_of_block (w := A) ((h.blk hcur h1 h2).trans hcur.symm)).trans (hc j u hj)⟩
set_option maxRecDepth 100000 in
set_option maxHeartbeats 4000000 in
theorem owns_in (n : Nat) (hn : 1 ≤ n) (τ : St) (bx s g1 g2 : Nat) (w0 : World) (hS0 : StAt 75 w0 s g1 g2 τ) (kbx0 : Blk w0 bx 43 #[.pointer (some ⟨s, 0, none⟩)]) (hN : τ.own.length ≤ 1000000) :
    SeqStopsK Fence.wide n Tryz.prog 48 #[.pointer (some ⟨bx, 0, none⟩)] (fun e : Pfx × Bool => #[.agg #[.int .u32 e.1.a, .int .i64 e.1.l], .bool e.2]) KeepsS (fun xs => ∃ ss : List Pfx, ss = pfxSort (τ.own.map (·.1)) ∧ xs = ss.map (fun x => (x, (getM τ.own x).getD false))) (fun _ => True) τ.own.length w0 := by
  intro l J Jx w hW hAJ hAX hY h0
  have hJ : ∀ pre W W', J pre W → Below W.heap.size W W' → J pre W' := fun pre W W' h hb => hAJ pre W W' none h ⟨hb.os, hb.tape, hb.output, hb.size, fun k hk _ => hb.block k hk⟩ (fun r e => by cases e)
  have hX : ∀ pre W W', Jx pre W → Below W.heap.size W W' → Jx pre W' := fun pre W W' h hb => hAX pre W W' none h ⟨hb.os, hb.tape, hb.output, hb.size, fun k hk _ => hb.block k hk⟩ (fun r e => by cases e)
  have hS := hS0.below hW
  have kbx := kbx0.below' hW
  show CallsIn Fence.wide n Tryz.prog _ #[.func (.yield l) #[] #[], .pointer (some ⟨bx, 0, none⟩)] w _
  have c1 := kbx.cell 0
  simp only [List.getElem?_toArray, List.getElem?_cons_zero] at c1
  have hSB := hS.1
  have s0 := hSB.cell 0
  have s1 := hSB.cell 1
  have s2 := hSB.cell 2
  have s3 := hSB.cell 3
  have sf0 := hSB.frozen 0
  have sf1 := hSB.frozen 1
  have sf2 := hSB.frozen 2
  have sf3 := hSB.frozen 3
  simp only [List.getElem?_toArray, List.getElem?_cons_zero, List.getElem?_cons_succ] at s0 s1 s2 s3
  have hfS : Fence.wide.fn 49 := trivial
  have hcall := callsIn_wide (n := n - 1) |>.2 (sPfx_all g1 τ.own w hS.2.1 hN)
  refine callsIn_of_wp Tryz.func48 rfl trivial ?_ rfl
  simp only [Tryz.ntmps48, List.size_toArray, List.length_cons, List.length_nil, Nat.reduceAdd, Nat.reduceSub, Array.replicate_succ, Array.replicate_zero, List.push_toArray, List.append_toArray, List.nil_append, List.cons_append]
  gi_wp2_with (gi_at_call 49; refine hcall.mono ?_; rintro e w1 ⟨ad, c, ss, rfl, hp, hs, hr, hb1, hfr⟩; have HB1 := Lib.hid hb1; have HFR := Lib.hid hfr; have HR := Lib.hid hr; have HPP := Lib.hid hp; clear hb1 hfr hr hp)
  have hb1 := HB1.out
  have hfr := HFR.out
  have hr := HR.out
  have hp := HPP.out
  clear HB1 HFR HR HPP
  have HSS := Lib.hid (pfx_eq_sort hp hs)
  have hlen : ss.length = τ.own.length := by have := hp.length_eq; simpa using this
  have HLN := Lib.hid hlen
  have hmax := hr.2.1
  have hk0 : KeepsS w w1 := KeepsS.of_below hb1
  have hj0 := hJ [] w w1 h0 hb1
  replace hS := hS.below hb1
  replace kbx := kbx.below' hb1
  have hcur : ∀ b off, ad = some ⟨b, off, none⟩ → ∃ cur, w1.heap[b]? = some (.cells cur 36 (0, 0)) := fun b off h => (hfr b off h).2
  clear hb1 hfr c1 s0 s1 s2 s3 sf0 sf1 sf2 sf3 hSB hcall h0 hlen hs
  try gi_wp2
  gi_loopw [11] (fun i wr => ∃ k : Nat, k ≤ ss.length ∧ i = .int .i64 k ∧ J ((ss.take k).map fun x => (x, (getM τ.own x).getD false)) wr ∧ KeepsS w1 wr) (fun i _ => ss.length - (intOf i).toNat)
  case atStart => exact ⟨0, Nat.zero_le _, rfl, hj0, KeepsS.refl _⟩
  case round =>
    clear hj0
    obtain ⟨k, hk, rfl, hj, hw⟩ := hrel
    by_cases hlt : k < ss.length
    · have hcur' := hcur
      obtain ⟨b, off, rfl, hbl, hcell⟩ := (hw.row hr hcur (by decide) (by decide)).2.2 (by omega)
      have e0 := hcell (k * 2 + 0) _ ((flat_get Pfx.cells 2 (fun _ => rfl) ss k 0 hlt (by omega)).trans rfl)
      have e1 := hcell (k * 2 + 1) _ ((flat_get Pfx.cells 2 (fun _ => rfl) ss k 1 hlt (by omega)).trans rfl)
      have HT := Lib.hid (show ss.take (k + 1) = ss.take k ++ [ss[k]] from List.take_succ_eq_append_getElem hlt)
      obtain ⟨on, hon⟩ := getM_memS τ.own ss[k] (hp.mem_iff.1 (List.getElem_mem hlt))
      generalize ss[k] = x at *
      obtain ⟨xa, xl⟩ := x
      simp only [← Nat.add_assoc, Nat.add_zero] at e0 e1
      clear hcell
      gi_wp2
      replace hS := hw.st hS (by decide) (by decide)
      replace kbx := hw.blk kbx (by decide) (by decide)
      have hbA := (Below.refl wr.heap.size wr).alloc (Nat.le_refl _) (.cells #[.int .u32 xa, .int .i64 xl] 36)
      have kx := Blk.new wr 36 #[.int .u32 xa, .int .i64 xl]
      replace hw := hw.trans (KeepsS.of_below hbA)
      replace hj := hJ _ _ _ hj hbA
      replace hS := hS.below hbA
      replace kbx := kbx.below' hbA
      clear hbA e0 e1 hbl hr hcur hcur'
      generalize wr.alloc (.cells #[.int .u32 xa, .int .i64 xl] 36) = W at *
      generalize wr.heap.size = q at *
      have hSB := hS.1
      have hm1 := hS.2.1
      have v1 := hSB.lt
      have v2 := kx.lt
      have v3 := kbx.lt
      have c1 := kbx.cell 0
      simp only [List.getElem?_toArray, List.getElem?_cons_zero] at c1
      have s0 := hSB.cell 0
      have s1 := hSB.cell 1
      have s2 := hSB.cell 2
      have s3 := hSB.cell 3
      have sf0 := hSB.frozen 0
      have sf1 := hSB.frozen 1
      have sf2 := hSB.frozen 2
      have sf3 := hSB.frozen 3
      simp only [List.getElem?_toArray, List.getElem?_cons_zero, List.getElem?_cons_succ] at s0 s1 s2 s3
      have x0 := kx.cell 0
      have x1 := kx.cell 1
      simp only [List.getElem?_toArray, List.getElem?_cons_zero, List.getElem?_cons_succ] at x0 x1
      refine draw_startI [8] Later (by kernel_rfl) ?_
      refine draw_chunkI (n := 26) (by kernel_rfl) (fun _ _ _ _ _ h => h) [0, 1, 2, 3, 4, 5, 6, 7] [] _ #[true, true, true, true, true, true, true, true, false, false] (by kernel_rfl) 2 _ ?_ _ rfl ?_ ?_
      rotate_left
      · intro w' hw'
        have hc' : ∀ b o, b < W.heap.size → w'.cell? ⟨b, o, none⟩ = W.cell? ⟨b, o, none⟩ := (bcell hw').1
        have hlk := run_lookup_some pfx_keys Tryz.underlying66 (hm1.same ((undrew hw').block g1 hm1.lt)) ⟨xa, xl⟩ on hon false; simp only [Pfx.val] at hlk
        iterate 8
          refine ci_step (v := ?_) rfl (by kernel_rfl) ?_ ?_
          rotate_left
          · first | (go_simp; done) | (go_simp; with_reducible rfl)
          try simp only [Act.put, List.setIfInBounds_toArray, List.set_cons_zero, List.set_cons_succ]
        refine ci_end ?_
        rfl
      refine draw_effI (i := 8) rfl (by kernel_rfl) (listed' := #[true, true, true, true, true, true, true, true, true, false]) rfl (fun K hK => ?_)
      replace hK := Lib.hid hK
      obtain ⟨fn, tmps, assign, body, hy, hR⟩ := hY ((ss.take k).map fun x => (x, (getM τ.own x).getD false)) (⟨xa, xl⟩, on) W.drew (hJ _ _ _ hj (Below.drew (Below.refl _ _))) (by rw [List.length_map, List.length_take, ← HLN.out]; omega)
      gi_wp2
      refine hR.mono ?_
      rintro e w2 (⟨rfl, hj2, hk2⟩ | ⟨rfl, hj2⟩)
      · gi_wp2
        refine hK.out _ _ ⟨fun h => absurd (by decide) h, ?_⟩
        clear hK
        refine draw_chunkI (n := 26) (by kernel_rfl) (fun _ _ _ _ _ h => h) [9] [] _ #[true, true, true, true, true, true, true, true, true, true] (by kernel_rfl) 0 _ ?_ _ rfl ?_ ?_
        rotate_left
        · intro w' hw'
          have hc' : ∀ b o, b < w2.heap.size → w'.cell? ⟨b, o, none⟩ = w2.cell? ⟨b, o, none⟩ := (bcell hw').1
          refine ci_step (i := 9) (v := ?_) rfl (by kernel_rfl) ?_ ?_
          rotate_left
          · first | (go_simp; done) | (go_simp; with_reducible rfl)
          skip
          try simp only [Act.put, List.setIfInBounds_toArray, List.set_cons_zero, List.set_cons_succ]
          refine ci_end ?_
          rfl
        refine draw_doneI (by kernel_rfl) ?_ _
        gi_wp2
        go_roundw
        case rel => exact ⟨k + 1, by omega, by go_num, by rw [HT.out, List.map_append, List.map_singleton, hon]; exact hJ _ _ _ hj2 (Below.refl _ _), hw.drew.trans hk2⟩
        case measure => simp [intOf]; omega
      · gi_wp2
        refine hK.out _ _ ⟨fun h => absurd (by decide) h, ?_⟩
        clear hK
        refine draw_chunkI (n := 26) (by kernel_rfl) (fun _ _ _ _ _ h => h) [9] [] _ #[true, true, true, true, true, true, true, true, true, true] (by kernel_rfl) 0 _ ?_ _ rfl ?_ ?_
        rotate_left
        · intro w' hw'
          refine ci_step (i := 9) (v := ?_) rfl (by kernel_rfl) ?_ ?_
          rotate_left
          · first | (go_simp; done) | (go_simp; with_reducible rfl)
          skip
          try simp only [Act.put, List.setIfInBounds_toArray, List.set_cons_zero, List.set_cons_succ]
          refine ci_end ?_
          rfl
        refine draw_doneI (by kernel_rfl) ?_ _
        gi_wp2
        exact bodyPost_ret (results_none rfl _ _ _) rfl ⟨⟨_, rfl⟩, .inr ⟨_, trivial, hX _ _ _ hj2 (Below.refl _ _)⟩⟩
    · obtain rfl : k = ss.length := by omega
      rw [List.take_length] at hj
      gi_wp2
      go_end0
      exact ⟨⟨_, rfl⟩, .inl ⟨_, ⟨ss, HSS.out, rfl⟩, hj⟩⟩
set_option maxRecDepth 100000 in
set_option maxHeartbeats 4000000 in
theorem floors_in (n : Nat) (hn : 1 ≤ n) (τ : St) (bx s g1 g2 : Nat) (w0 : World) (hS0 : StAt 75 w0 s g1 g2 τ) (kbx0 : Blk w0 bx 43 #[.pointer (some ⟨s, 0, none⟩)]) (hN : τ.fl.length ≤ 1000000) :
    SeqStopsK Fence.wide n Tryz.prog 51 #[.pointer (some ⟨bx, 0, none⟩)] (fun e : Key × Dst => #[.agg #[.int .u32 e.1.a, .int .i64 e.1.l, .int .u32 e.1.id], .agg #[.int .u32 e.2.1, .int .u16 e.2.2]]) KeepsS (fun xs => ∃ ss : List Key, ss = keySort (τ.fl.map (·.1)) ∧ xs = ss.map (fun x => (x, (getM τ.fl x).getD (0, 0)))) (fun _ => True) τ.fl.length w0 := by
  intro l J Jx w hW hAJ hAX hY h0
  have hJ : ∀ pre W W', J pre W → Below W.heap.size W W' → J pre W' := fun pre W W' h hb => hAJ pre W W' none h ⟨hb.os, hb.tape, hb.output, hb.size, fun k hk _ => hb.block k hk⟩ (fun r e => by cases e)
  have hX : ∀ pre W W', Jx pre W → Below W.heap.size W W' → Jx pre W' := fun pre W W' h hb => hAX pre W W' none h ⟨hb.os, hb.tape, hb.output, hb.size, fun k hk _ => hb.block k hk⟩ (fun r e => by cases e)
  have hS := hS0.below hW
  have kbx := kbx0.below' hW
  show CallsIn Fence.wide n Tryz.prog _ #[.func (.yield l) #[] #[], .pointer (some ⟨bx, 0, none⟩)] w _
  have c1 := kbx.cell 0
  simp only [List.getElem?_toArray, List.getElem?_cons_zero] at c1
  have hSB := hS.1
  have s0 := hSB.cell 0
  have s1 := hSB.cell 1
  have s2 := hSB.cell 2
  have s3 := hSB.cell 3
  have sf0 := hSB.frozen 0
  have sf1 := hSB.frozen 1
  have sf2 := hSB.frozen 2
  have sf3 := hSB.frozen 3
  simp only [List.getElem?_toArray, List.getElem?_cons_zero, List.getElem?_cons_succ] at s0 s1 s2 s3
  have hfS : Fence.wide.fn 52 := trivial
  have hcall := callsIn_wide (n := n - 1) |>.2 (sKey_all g2 τ.fl w hS.2.2.1 hN)
  refine callsIn_of_wp Tryz.func51 rfl trivial ?_ rfl
  simp only [Tryz.ntmps51, List.size_toArray, List.length_cons, List.length_nil, Nat.reduceAdd, Nat.reduceSub, Array.replicate_succ, Array.replicate_zero, List.push_toArray, List.append_toArray, List.nil_append, List.cons_append]
  gi_wp2_with (gi_at_call 52; refine hcall.mono ?_; rintro e w1 ⟨ad, c, ss, rfl, hp, hs, hr, hb1, hfr⟩; have HB1 := Lib.hid hb1; have HFR := Lib.hid hfr; have HR := Lib.hid hr; have HPP := Lib.hid hp; clear hb1 hfr hr hp)
  have hb1 := HB1.out
  have hfr := HFR.out
  have hr := HR.out
  have hp := HPP.out
  clear HB1 HFR HR HPP
  have HSS := Lib.hid (key_eq_sort hp hs)
  have hlen : ss.length = τ.fl.length := by have := hp.length_eq; simpa using this
  have HLN := Lib.hid hlen
  have hmax := hr.2.1
  have hk0 : KeepsS w w1 := KeepsS.of_below hb1
  have hj0 := hJ [] w w1 h0 hb1
  replace hS := hS.below hb1
  replace kbx := kbx.below' hb1
  have hcur : ∀ b off, ad = some ⟨b, off, none⟩ → ∃ cur, w1.heap[b]? = some (.cells cur 80 (0, 0)) := fun b off h => (hfr b off h).2
  clear hb1 hfr c1 s0 s1 s2 s3 sf0 sf1 sf2 sf3 hSB hcall h0 hlen hs
  try gi_wp2
  gi_loopw [11] (fun i wr => ∃ k : Nat, k ≤ ss.length ∧ i = .int .i64 k ∧ J ((ss.take k).map fun x => (x, (getM τ.fl x).getD (0, 0))) wr ∧ KeepsS w1 wr) (fun i _ => ss.length - (intOf i).toNat)
  case atStart => exact ⟨0, Nat.zero_le _, rfl, hj0, KeepsS.refl _⟩
  case round =>
    clear hj0
    obtain ⟨k, hk, rfl, hj, hw⟩ := hrel
    by_cases hlt : k < ss.length
    · have hcur' := hcur
      obtain ⟨b, off, rfl, hbl, hcell⟩ := (hw.row hr hcur (by decide) (by decide)).2.2 (by omega)
      have e0 := hcell (k * 3 + 0) _ ((flat_get Key.cells 3 (fun _ => rfl) ss k 0 hlt (by omega)).trans rfl)
      have e1 := hcell (k * 3 + 1) _ ((flat_get Key.cells 3 (fun _ => rfl) ss k 1 hlt (by omega)).trans rfl)
      have e2 := hcell (k * 3 + 2) _ ((flat_get Key.cells 3 (fun _ => rfl) ss k 2 hlt (by omega)).trans rfl)
      have HT := Lib.hid (show ss.take (k + 1) = ss.take k ++ [ss[k]] from List.take_succ_eq_append_getElem hlt)
      obtain ⟨⟨ds, dm⟩, hon⟩ := getM_memS τ.fl ss[k] (hp.mem_iff.1 (List.getElem_mem hlt))
      generalize ss[k] = x at *
      obtain ⟨xa, xl, xi⟩ := x
      simp only [← Nat.add_assoc, Nat.add_zero] at e0 e1 e2
      clear hcell
      gi_wp2
      replace hS := hw.st hS (by decide) (by decide)
      replace kbx := hw.blk kbx (by decide) (by decide)
      have hbA := (Below.refl wr.heap.size wr).alloc (Nat.le_refl _) (.cells #[.int .u32 xa, .int .i64 xl, .int .u32 xi] 80)
      have kx := Blk.new wr 80 #[.int .u32 xa, .int .i64 xl, .int .u32 xi]
      replace hw := hw.trans (KeepsS.of_below hbA)
      replace hj := hJ _ _ _ hj hbA
      replace hS := hS.below hbA
      replace kbx := kbx.below' hbA
      clear hbA e0 e1 e2 hbl hr hcur hcur'
      generalize wr.alloc (.cells #[.int .u32 xa, .int .i64 xl, .int .u32 xi] 80) = W at *
      generalize wr.heap.size = q at *
      have hSB := hS.1
      have hm1 := hS.2.2.1
      have v1 := hSB.lt
      have v2 := kx.lt
      have v3 := kbx.lt
      have c1 := kbx.cell 0
      simp only [List.getElem?_toArray, List.getElem?_cons_zero] at c1
      have s0 := hSB.cell 0
      have s1 := hSB.cell 1
      have s2 := hSB.cell 2
      have s3 := hSB.cell 3
      have sf0 := hSB.frozen 0
      have sf1 := hSB.frozen 1
      have sf2 := hSB.frozen 2
      have sf3 := hSB.frozen 3
      simp only [List.getElem?_toArray, List.getElem?_cons_zero, List.getElem?_cons_succ] at s0 s1 s2 s3
      have x0 := kx.cell 0
      have x1 := kx.cell 1
      have x2 := kx.cell 2
      simp only [List.getElem?_toArray, List.getElem?_cons_zero, List.getElem?_cons_succ] at x0 x1 x2
      refine draw_startI [8] Later (by kernel_rfl) ?_
      refine draw_chunkI (n := 26) (by kernel_rfl) (fun _ _ _ _ _ h => h) [0, 1, 2, 3, 4, 5, 6, 7] [] _ #[true, true, true, true, true, true, true, true, false, false] (by kernel_rfl) 2 _ ?_ _ rfl ?_ ?_
      rotate_left
      · intro w' hw'
        have hc' : ∀ b o, b < W.heap.size → w'.cell? ⟨b, o, none⟩ = W.cell? ⟨b, o, none⟩ := (bcell hw').1
        have hlk := run_lookup_some key_keys Tryz.underlying67 (hm1.same ((undrew hw').block g2 hm1.lt)) ⟨xa, xl, xi⟩ (ds, dm) hon false; simp only [Key.val, dstV] at hlk
        iterate 8
          refine ci_step (v := ?_) rfl (by kernel_rfl) ?_ ?_
          rotate_left
          · first | (go_simp; done) | (go_simp; with_reducible rfl)
          try simp only [Act.put, List.setIfInBounds_toArray, List.set_cons_zero, List.set_cons_succ]
        refine ci_end ?_
        rfl
      refine draw_effI (i := 8) rfl (by kernel_rfl) (listed' := #[true, true, true, true, true, true, true, true, true, false]) rfl (fun K hK => ?_)
      replace hK := Lib.hid hK
      obtain ⟨fn, tmps, assign, body, hy, hR⟩ := hY ((ss.take k).map fun x => (x, (getM τ.fl x).getD (0, 0))) (⟨xa, xl, xi⟩, (ds, dm)) W.drew (hJ _ _ _ hj (Below.drew (Below.refl _ _))) (by rw [List.length_map, List.length_take, ← HLN.out]; omega)
      gi_wp2
      refine hR.mono ?_
      rintro e w2 (⟨rfl, hj2, hk2⟩ | ⟨rfl, hj2⟩)
      · gi_wp2
        refine hK.out _ _ ⟨fun h => absurd (by decide) h, ?_⟩
        clear hK
        refine draw_chunkI (n := 26) (by kernel_rfl) (fun _ _ _ _ _ h => h) [9] [] _ #[true, true, true, true, true, true, true, true, true, true] (by kernel_rfl) 0 _ ?_ _ rfl ?_ ?_
        rotate_left
        · intro w' hw'
          have hc' : ∀ b o, b < w2.heap.size → w'.cell? ⟨b, o, none⟩ = w2.cell? ⟨b, o, none⟩ := (bcell hw').1
          refine ci_step (i := 9) (v := ?_) rfl (by kernel_rfl) ?_ ?_
          rotate_left
          · first | (go_simp; done) | (go_simp; with_reducible rfl)
          skip
          try simp only [Act.put, List.setIfInBounds_toArray, List.set_cons_zero, List.set_cons_succ]
          refine ci_end ?_
          rfl
        refine draw_doneI (by kernel_rfl) ?_ _
        gi_wp2
        go_roundw
        case rel => exact ⟨k + 1, by omega, by go_num, by rw [HT.out, List.map_append, List.map_singleton, hon]; exact hJ _ _ _ hj2 (Below.refl _ _), hw.drew.trans hk2⟩
        case measure => simp [intOf]; omega
      · gi_wp2
        refine hK.out _ _ ⟨fun h => absurd (by decide) h, ?_⟩
        clear hK
        refine draw_chunkI (n := 26) (by kernel_rfl) (fun _ _ _ _ _ h => h) [9] [] _ #[true, true, true, true, true, true, true, true, true, true] (by kernel_rfl) 0 _ ?_ _ rfl ?_ ?_
        rotate_left
        · intro w' hw'
          refine ci_step (i := 9) (v := ?_) rfl (by kernel_rfl) ?_ ?_
          rotate_left
          · first | (go_simp; done) | (go_simp; with_reducible rfl)
          skip
          try simp only [Act.put, List.setIfInBounds_toArray, List.set_cons_zero, List.set_cons_succ]
          refine ci_end ?_
          rfl
        refine draw_doneI (by kernel_rfl) ?_ _
        gi_wp2
        exact bodyPost_ret (results_none rfl _ _ _) rfl ⟨⟨_, rfl⟩, .inr ⟨_, trivial, hX _ _ _ hj2 (Below.refl _ _)⟩⟩
    · obtain rfl : k = ss.length := by omega
      rw [List.take_length] at hj
      gi_wp2
      go_end0
      exact ⟨⟨_, rfl⟩, .inl ⟨_, ⟨ss, HSS.out, rfl⟩, hj⟩⟩
end Go.Proofs.YtnfaeafplaeehaaGreat
end
section
set_option linter.unusedVariables false
set_option linter.unusedSimpArgs false
namespace Go.Proofs.YtnfaeafplaeehaaGreat
open Go.RowKit Go.Sort Go.Lib Go.Shelf
/-! A state's records, in order. -/
def ownRec (e : Pfx × Bool) : Rec := ⟨2, 0, 0, 0, e.1.a, e.1.l, e.2, 0, 0⟩
def leaseRec (x : Int) : Rec := ⟨3, 0, 0, 0, 0, 0, false, x, 0⟩
def flRec (e : Key × Dst) : Rec := ⟨4, 0, 0, e.1.id, e.1.a, e.1.l, false, e.2.1, e.2.2⟩
def recsOf (σ : St) (ss : List Pfx) (ks : List Key) : List Rec :=
  (ss.map fun x => ownRec (x, (getM σ.own x).getD false)) ++ (if 0 < σ.lease then [leaseRec σ.lease] else []) ++ (ks.map fun x => flRec (x, (getM σ.fl x).getD (0, 0)))
/-- A state's records. -/
def recsM (σ : St) : List Rec := recsOf σ (pfxSort (σ.own.map (·.1))) (keySort (σ.fl.map (·.1)))
theorem pfxSort_len (l : List Pfx) : (pfxSort l).length = l.length := (List.mergeSort_perm _ _).length_eq
theorem keySort_len (l : List Key) : (keySort l).length = l.length := (List.mergeSort_perm _ _).length_eq
theorem stOwns (s : Nat) (w : World) : Calls Tryz.prog 28 #[.pointer (some ⟨s, 0, none⟩)] w fun e w' => e = .returned (.func (.func 48) #[] #[.pointer (some ⟨w.heap.size, 0, none⟩)]) ∧ w' = w.alloc (.cells #[.pointer (some ⟨s, 0, none⟩)] 43) := by
  go_enter Tryz.func28, Tryz.ntmps28
  go_wp2
  go_ret
  exact ⟨rfl, rfl⟩
theorem stFloors (s : Nat) (w : World) : Calls Tryz.prog 29 #[.pointer (some ⟨s, 0, none⟩)] w fun e w' => e = .returned (.func (.func 51) #[] #[.pointer (some ⟨w.heap.size, 0, none⟩)]) ∧ w' = w.alloc (.cells #[.pointer (some ⟨s, 0, none⟩)] 43) := by
  go_enter Tryz.func29, Tryz.ntmps29
  go_wp2
  go_ret
  exact ⟨rfl, rfl⟩
theorem KeepsS.putObj (W : World) (l : Nat) (o o' : Obj) (hl : W.heap[l]? = some o) (hc : o.isCells = false) (hw : o.isWalk = false) : KeepsS W (W.putObj l o') :=
  ⟨by simp, fun k o2 hk ho => by
    by_cases e : k = l
    · subst e
      rw [hl] at hk
      cases hk
      cases o <;> simp [staysO, Obj.isCells, Obj.isWalk] at *
    · exact (World.putObj_heap_other e).trans hk⟩
theorem KeepsS.of_grownBy {W W' : World} {row : Option Nat} (hg : W.grownBy W' row) (hrow : ∀ (j : Nat) (o : Obj), row = some j → W.heap[j]? = some o → staysO o = false) : KeepsS W W' :=
  ⟨hg.size, fun k o hk ho => by
    refine (hg.block k (lt_of_heap hk) ?_).trans hk
    intro e
    rw [hrow k o e.symm hk] at ho
    cases ho⟩
theorem below_ownFrom {β : Type} {n0 B : Nat} (w : World) (hB : n0 ≤ B) : OwnFrom B (fun (_ : β) W => Below n0 w W ∧ n0 ≤ W.heap.size) := fun s X Y row hs hg hr =>
  ⟨hs.1.grown hg hs.2 (fun k e => Nat.le_trans hB (hr k e).1), Nat.le_trans hs.2 hg.size⟩
theorem recs_info : (Tryz.prog.info? 41).map (fun i => (i.zero, i.size, i.bytes)) = some (some (.agg #[.int .i64 0, .int .u32 0, .int .u32 0, .int .u32 0, .int .u32 0, .int .i64 0, .bool false, .int .u32 0, .int .u16 0]), 9, 56) := by kernel_rfl
/-- What the box of the records holds. -/
def RecBox (B n0 : Nat) (R : List Rec) (W : World) : Prop := ∃ v, Boxed W B 22 v ∧ W.ownsRow n0 41 9 v R.length (recs R) ∧ (v = .slice none 0 0 ↔ R = [])
theorem recBox_own {β : Type} (B n0 : Nat) (f : β → List Rec) : Own (fun s W => RecBox B n0 (f s) W) := holdsRow_own n0 B 22 41 9 (fun s => (f s).length) (fun s => recs (f s)) (fun s v => v = .slice none 0 0 ↔ f s = [])
theorem wpIn_calm {n : Nat} {P : Program} {c : Code} {K : Act → World → Prop} {Q' : Exit → Act → World → Prop} {a : Act} {w : World} (h : c.wpIn Fence.wide n P (Exit.then K (fun _ _ _ => False)) a w) : c.wpIn Fence.wide n P (Exit.then K Q') a w :=
  wpIn_mono h (fun e a w hq => by cases e <;> first | exact hq | exact hq.elim)
def ownI (B n0 : Nat) (w : World) (pre : List (Pfx × Bool)) (W : World) : Prop := RecBox B n0 (pre.map ownRec) W ∧ Below n0 w W ∧ n0 ≤ W.heap.size
theorem row_of_owns {W : World} {n0 : Nat} {t : TypeId} {v : Value} {n : Nat} {xs : List Value} (h : W.ownsRow n0 t 9 v n xs) (hn : n ≤ 140737488351232) : ∃ (ad : Option Addr) (c : Nat), v = .slice ad n c ∧ Row W 9 ad n xs ∧ ∀ b off, ad = some ⟨b, off, none⟩ → n0 ≤ b := by
  obtain ⟨hl, h⟩ := h
  rcases h with ⟨rfl, rfl⟩ | ⟨g, cap, cur, rfl, hg, hh, hc, hm, hs, ht⟩
  · exact ⟨none, 0, rfl, ⟨hl, hn, fun h => absurd h (by omega)⟩, fun b off h => by cases h⟩
  · refine ⟨_, _, rfl, ⟨hl, hn, fun _ => ⟨g, 0, rfl, lt_of_heap hh, fun j u hj => ?_⟩⟩, fun b off h => by cases h; exact hg⟩
    have hlt : j < n * 9 := by
      have := (List.getElem?_eq_some_iff.1 hj).1
      omega
    rw [← ht, List.getElem?_take, if_pos hlt] at hj
    simp only [World.cell?, hh, Nat.zero_add]
    rw [← hj]
    simp
def flI (B n0 D : Nat) (w : World) (R1 : List Rec) (pre : List (Key × Dst)) (W : World) : Prop := RecBox B n0 (R1 ++ pre.map flRec) W ∧ (Below n0 w W ∧ n0 ≤ W.heap.size) ∧ W.heap[D]? = some (.deferred (some []))
theorem flI_own (B n0 D : Nat) (w : World) (R1 : List Rec) {B0 : Nat} (h0 : n0 ≤ B0) (hD : D < B0) : OwnFrom B0 (flI B n0 D w R1) := fun s X Y row hs hg hr =>
  ⟨(recBox_own B n0 (fun pre : List (Key × Dst) => R1 ++ pre.map flRec)).from B0 s X Y row hs.1 hg hr, below_ownFrom w h0 s X Y row hs.2.1 hg hr, (hg.block D (lt_of_heap hs.2.2) (fun e => by have := (hr D e.symm).1; omega)).trans hs.2.2⟩
set_option maxRecDepth 100000 in
set_option maxHeartbeats 8000000 in
theorem state_Records (σ : St) (s g1 g2 : Nat) (w : World) (hS : StAt 75 w s g1 g2 σ) (hN1 : σ.own.length ≤ 1000) (hN2 : σ.fl.length ≤ 1000) :
    CallsIn Fence.wide 9 Tryz.prog 10 #[.pointer (some ⟨s, 0, none⟩)] w fun e w' => ∃ (ad : Option Addr) (c : Nat), e = .returned (.slice ad (recsM σ).length c) ∧ Row w' 9 ad (recsM σ).length (recs (recsM σ)) ∧ (∀ b off, ad = some ⟨b, off, none⟩ → w.heap.size ≤ b) ∧ Below w.heap.size w w' := by
  obtain ⟨i0, hi, hz0, hz1, hz2⟩ := info_parts recs_info
  have hO := fun W => callsIn_wide (n := 8) |>.2 (stOwns s W)
  have hfO : Fence.wide.fn 28 := trivial
  have hF := fun W => callsIn_wide (n := 8) |>.2 (stFloors s W)
  have hfF : Fence.wide.fn 29 := trivial
  refine callsIn_of_wp_marks Tryz.func10 rfl trivial ?_ rfl
  simp only [Tryz.ntmps10, List.size_toArray, List.length_cons, List.length_nil, Nat.reduceAdd, Nat.reduceSub, Array.replicate_succ, Array.replicate_zero, List.push_toArray, List.append_toArray, List.nil_append, List.cons_append]
  gi_wp2_with (gi_at_call 28; refine (hO _).mono ?_; rintro e w1 ⟨rfl, rfl⟩)
  have kbx := Blk.new (w.alloc (.cells #[.slice none 0 0] 22)) 43 #[.pointer (some ⟨s, 0, none⟩)]
  simp only [World.size_alloc] at kbx
  have kB : Boxed ((w.alloc (.cells #[.slice none 0 0] 22)).alloc (.cells #[.pointer (some ⟨s, 0, none⟩)] 43)) w.heap.size 22 (.slice none 0 0) := (Boxed.new w _ _).alloc _
  have hb1 := ((Below.refl w.heap.size w).alloc (Nat.le_refl _) (.cells #[.slice none 0 0] 22)).alloc (by simp) (.cells #[.pointer (some ⟨s, 0, none⟩)] 43)
  have hsz : w.heap.size + 1 < ((w.alloc (.cells #[.slice none 0 0] 22)).alloc (.cells #[.pointer (some ⟨s, 0, none⟩)] 43)).heap.size := by simp
  have hS1 := hS.below hb1
  generalize (w.alloc (.cells #[.slice none 0 0] 22)).alloc (.cells #[.pointer (some ⟨s, 0, none⟩)] 43) = W1 at *
  have hn1 : w.heap.size ≤ W1.heap.size := hb1.size
  refine wpIn_rangeFunc_ownH (α := Pfx × Bool) rfl (by omega) (gf := 48) (lb := #[.pointer (some ⟨w.heap.size + 1, 0, none⟩)]) rfl trivial (enters_of Tryz.func48 (by kernel_rfl) rfl)
    (owns_in 8 (by omega) σ (w.heap.size + 1) s g1 g2 W1 hS1 kbx (by omega)) (fun h k => h.trans k) (fun W l o o' _ hl hc hw => KeepsS.putObj W l o o' hl hc hw) (Below.refl _ _) (fun _ => rfl)
    (ownI w.heap.size w.heap.size w) (fun _ _ _ => False) (((recBox_own _ _ _).from _).and (below_ownFrom w hn1)) (fun _ _ _ _ _ h _ _ => h) ⟨⟨_, kB, ⟨rfl, .inl ⟨rfl, rfl⟩⟩, by simp⟩, hb1, hn1⟩
    (fun e a' W => ∃ q, Blk W q 36 #[.int .u32 e.1.a, .int .i64 e.1.l] ∧ a' = { tmps := #[.pointer (some ⟨s, 0, none⟩), undef, .slice none 0 0, .pointer (some ⟨w.heap.size, 0, none⟩), .pointer (some ⟨q, 0, none⟩), .bool e.2, undef, undef, .pointer (some ⟨s, 0, none⟩), .func (.func 48) #[] #[.pointer (some ⟨w.heap.size + 1, 0, none⟩)], .agg #[.int .u32 e.1.a, .int .i64 e.1.l], .bool e.2, undef, undef, undef, undef, undef, undef, undef, undef, undef, undef, undef, undef, undef, undef, undef, undef, undef, undef, undef, undef, undef, undef, undef, undef, undef, undef, undef, undef, undef, undef, undef, undef, undef, undef], defers := [] }) ?_ ?_ ?_ ?_ ?_
  · rintro x a' ⟨⟩ X Y row ⟨q, hq, ha⟩ hg hr
    refine ⟨q, (hg.block q hq.lt (fun e => ?_)).trans hq, ha⟩
    obtain ⟨-, o, ho, hc⟩ := hr q e.symm
    rw [show X.heap[q]? = _ from hq] at ho
    cases ho
    cases hc
  · rintro l pre ⟨x, on⟩ W K hI hK
    have hbA := (Below.refl W.heap.size W).alloc (Nat.le_refl _) (.cells #[.int .u32 x.a, .int .i64 x.l] 36)
    have kq := Blk.new W 36 #[.int .u32 x.a, .int .i64 x.l]
    gi_wp2_with gi_round_op_a
    exact hK _ _ ((KeepsOthers.alloc W _).from _) (KeepsS.of_below hbA) ((((recBox_own _ _ _).from _).and (below_ownFrom w hn1)).alloc _ hI) ⟨_, kq, rfl⟩
  · rintro l pre ⟨x, on⟩ a' W hl hrc ⟨⟨v, hv, hrow, hnil⟩, hbl, hge⟩ ⟨q, hq, rfl⟩ hlen
    have hqlt := hq.lt
    have hvlt := hv.lt
    have v0 := hv.cell
    have vf := hv.frozen
    obtain ⟨xa, xl⟩ := x
    simp only at hq ⊢
    have x0 := hq.cell 0
    have x1 := hq.cell 1
    simp only [List.getElem?_toArray, List.getElem?_cons_zero, List.getElem?_cons_succ] at x0 x1
    have hlen' : (pre.map ownRec).length < 1000 := by rw [List.length_map]; omega
    have HP := Lib.hid (show (pre ++ [((⟨xa, xl⟩ : Pfx), on)]).map ownRec = pre.map ownRec ++ [ownRec (⟨xa, xl⟩, on)] from by rw [List.map_append]; rfl)
    generalize pre.map ownRec = Rp at hrow hnil hlen' HP
    have HLN := Lib.hid hlen'
    clear hlen hlen'
    gi_wp2_with (first
      | (gi_at_builtin; refine wpListIn_append_own _ rfl _ _ 22 rfl w.heap.size 41 i0 (.agg #[.int .i64 0, .int .u32 0, .int .u32 0, .int .u32 0, .int .u32 0, .int .i64 0, .bool false, .int .u32 0, .int .u16 0]) 9 56 Tryz.underlying22 hi hz0 hz1 hz2 rfl (by decide) _ _ _ rfl (hrow.alloc _) ⟨W.heap.size, 0, none⟩ 1 1 (ownRec (⟨xa, xl⟩, on)).cells rfl rfl (cells_new _ _ _) (by simp [Value.oneCell', Rec.cells]) (by unfold maxLen; have := HLN.out; omega) (by have := HLN.out; omega) (by simp; omega) ?_; intro v' w3 hown' hg3 hnil3
         have hg3' : (W.alloc (.cells (ownRec (⟨xa, xl⟩, on)).cells.toArray 41)).grownBy w3 v.ownBlock := hg3
         obtain ⟨hv1, hv2, hr2, hko, hbw⟩ := Boxed.appended hv (by decide) hrow hge (Nat.le_refl _) hown' hg3'
         obtain ⟨g', cap', rfl⟩ := ownsRow_succ hown'
         have hks : KeepsS W (w3.setCell ⟨w.heap.size, 0, none⟩ (.slice (some ⟨g', 0, none⟩) (Rp.length + 1) cap')) := by
           refine ((KeepsS.of_below ((Below.refl _ W).alloc (Nat.le_refl _) _)).trans (KeepsS.of_grownBy hg3' fun j o ej hj => ?_)).trans (KeepsS.of_grownBy (grownBy_setCell' w3 _ _) fun j o ej hj => ?_)
           · rcases (hrow.alloc (.cells (ownRec (⟨xa, xl⟩, on)).cells.toArray 41)).2 with ⟨rfl, _⟩ | ⟨g, cap, cur, rfl, _, hgb, _⟩
             · simp [Value.ownBlock] at ej
             · obtain rfl : g = j := by simpa [Value.ownBlock] using ej
               rw [hgb] at hj
               cases hj
               simp [staysO]
           · cases ej
             rw [show w3.heap[w.heap.size]? = _ from hv1] at hj
             cases hj
             simp [staysO]
         have c3 := hv1.cell
         have f3 := hv1.frozen
         have HV2 := Lib.hid hv2
         have HR2 := Lib.hid hr2
         have HKO := Lib.hid hko
         have HBW := Lib.hid hbw
         have HKS := Lib.hid hks
         clear hv2 hr2 hko hbw hks hg3 hg3' hown' hnil3 hv1
         go_frame)
      | gi_round_op_a)
    have hsz' : w.heap.size ≤ (w3.setCell ⟨w.heap.size, 0, none⟩ (.slice (some ⟨g', 0, none⟩) (Rp.length + 1) cap')).heap.size := Nat.le_trans hge HBW.out.size
    refine ⟨HKO.out.from _, HKS.out, ⟨_, HV2.out, ?_, ?_⟩, hbl.trans HBW.out, hsz'⟩
    · rw [HP.out, List.length_append]
      have hr3 : recs (Rp ++ [ownRec (⟨xa, xl⟩, on)]) = recs Rp ++ (ownRec (⟨xa, xl⟩, on)).cells := by simp [recs]
      rw [hr3]
      exact HR2.out
    · rw [HP.out]
      simp
  · rintro D xs W hD ⟨ss, hp, rfl⟩ ⟨hbox, hbl, hge⟩ hdef
    have hRE : (ss.map fun x => (x, (getM σ.own x).getD false)).map ownRec = ss.map fun x => ownRec (x, (getM σ.own x).getD false) := by rw [List.map_map]; rfl
    rw [hRE] at hbox
    have hlr : (ss.map fun x => ownRec (x, (getM σ.own x).getD false)).length ≤ 1000 := by have := pfxSort_len (σ.own.map (·.1)); rw [← hp, List.length_map] at this; simp; omega
    have HSP := Lib.hid hp
    generalize hRo : (ss.map fun x => ownRec (x, (getM σ.own x).getD false)) = Ro at hbox hlr
    have HRO := Lib.hid hRo
    have HLR := Lib.hid hlr
    clear hRE hRo hlr
    have hS2 := hS.below hbl
    have hSB := hS2.1
    have hlS := hSB.lt
    have s0 := hSB.cell 0
    have s1 := hSB.cell 1
    have s2 := hSB.cell 2
    have s3 := hSB.cell 3
    have sf0 := hSB.frozen 0
    have sf1 := hSB.frozen 1
    have sf2 := hSB.frozen 2
    have sf3 := hSB.frozen 3
    simp only [List.getElem?_toArray, List.getElem?_cons_zero, List.getElem?_cons_succ] at s0 s1 s2 s3
    by_cases h0 : 0 < σ.lease
    · have hd0 : decide (σ.lease > 0) = true := decide_eq_true h0
      obtain ⟨v, hv, hrow, hnil⟩ := hbox
      have v0 := hv.cell
      have vf := hv.frozen
      have hvlt := hv.lt
      gi_wp2
      refine wpIn_calm ?_
      refine draw_startI [8, 9] Later (by kernel_rfl) ?_
      refine draw_chunkI (n := 46) (by kernel_rfl) (fun _ _ _ _ _ h => h) [0, 1, 2, 3, 4, 5, 6] [] _ #[true, true, true, true, true, true, true, false, false, false] (by kernel_rfl) 3 _ ?_ _ rfl ?_ ?_
      rotate_left
      · intro w' hw'
        have hc' : ∀ b o, b < W.heap.size → w'.cell? ⟨b, o, none⟩ = W.cell? ⟨b, o, none⟩ := (bcell hw').1
        iterate 7
          refine ci_step (v := ?_) rfl (by kernel_rfl) ?_ ?_
          rotate_left
          · first | (go_simp; done) | (go_simp; with_reducible rfl)
          try simp only [Act.put, List.setIfInBounds_toArray, List.set_cons_zero, List.set_cons_succ]
        refine ci_end ?_
        rfl
      refine draw_effI (i := 7) rfl (by kernel_rfl) (listed' := #[true, true, true, true, true, true, true, true, false, false]) rfl (fun K hK => ?_)
      replace hK := Lib.hid hK
      gi_wp2
      refine hK.out _ _ ⟨fun _ => (Below.refl _ _).alloc (Nat.le_refl _) _, ?_⟩
      clear hK
      refine draw_effI (i := 8) rfl (by kernel_rfl) (listed' := #[true, true, true, true, true, true, true, true, true, false]) rfl (fun K hK => ?_)
      replace hK := Lib.hid hK
      have hrow' : W.drew.ownsRow w.heap.size 41 9 v Ro.length (recs Ro) := hrow
      have hv' : Boxed W.drew w.heap.size 22 v := hv
      refine wpListIn_append_own _ rfl _ _ 22 rfl w.heap.size 41 i0 (.agg #[.int .i64 0, .int .u32 0, .int .u32 0, .int .u32 0, .int .u32 0, .int .i64 0, .bool false, .int .u32 0, .int .u16 0]) 9 56 Tryz.underlying22 hi hz0 hz1 hz2 rfl (by decide) _ _ _ rfl (hrow'.alloc _) ⟨W.heap.size, 0, none⟩ 1 1 (leaseRec σ.lease).cells rfl rfl (cells_new W.drew _ _) (by simp [Value.oneCell', Rec.cells]) (by unfold maxLen; have := HLR.out; omega) (by have := HLR.out; omega) (by simp; omega) ?_
      intro v' w3 hown' hg3 hnil3
      have hg3' : (W.drew.alloc (.cells (leaseRec σ.lease).cells.toArray 41)).grownBy w3 v.ownBlock := hg3
      obtain ⟨hv1, hv2, hr2, hko, hbw⟩ := Boxed.appended hv' (by decide) hrow' hge (Nat.le_refl _) hown' hg3'
      obtain ⟨g', cap', rfl⟩ := ownsRow_succ hown'
      have c3 := hv1.cell
      have f3 := hv1.frozen
      have HV2 := Lib.hid hv2
      have HR2 := Lib.hid hr2
      have HKO := Lib.hid hko
      have HBW := Lib.hid hbw
      clear hv2 hr2 hko hbw hg3 hg3' hown' hnil3 hv1
      gi_wp2
      refine hK.out _ _ ⟨fun h => absurd (by decide) h, ?_⟩
      clear hK
      refine draw_effI (i := 9) rfl (by kernel_rfl) (listed' := #[true, true, true, true, true, true, true, true, true, true]) rfl (fun K hK => ?_)
      replace hK := Lib.hid hK
      gi_wp2
      refine hK.out _ _ ⟨fun h => absurd (by decide) h, ?_⟩
      clear hK
      refine draw_doneI (by kernel_rfl) ?_ _
      have hdef4 := HKO.out.same D _ hdef rfl
      have hbl4 := (Below.drew hbl).trans HBW.out
      have hbox4 : RecBox w.heap.size w.heap.size (Ro ++ [leaseRec σ.lease]) _ := ⟨_, HV2.out, by rw [List.length_append, show recs (Ro ++ [leaseRec σ.lease]) = recs Ro ++ (leaseRec σ.lease).cells by simp [recs]]; exact HR2.out, by simp⟩
      have HR4 := Lib.hid (show recsOf σ ss [] = Ro ++ [leaseRec σ.lease] by unfold recsOf; rw [HRO.out, if_pos h0]; simp)
      have hge4 : w.heap.size ≤ (w3.setCell ⟨w.heap.size, 0, none⟩ (.slice (some ⟨g', 0, none⟩) (Ro.length + 1) cap')).heap.size := Nat.le_trans hge HBW.out.size
      have HL1 := Lib.hid (show (Ro ++ [leaseRec σ.lease]).length ≤ 1001 by have := HLR.out; simp; omega)
      generalize Ro ++ [leaseRec σ.lease] = R1 at hbox4 HR4 HL1
      clear hdef hbl hS2 hSB hlS s0 s1 s2 s3 sf0 sf1 sf2 sf3 hv hrow hnil v0 vf hrow' hv' c3 f3 HV2 HR2 HKO HBW HLR HRO
      generalize w3.setCell ⟨w.heap.size, 0, none⟩ (.slice (some ⟨g', 0, none⟩) (Ro.length + 1) cap') = W4 at *
      have hS4 := hS.below hbl4
      have hS5 := hS4.below ((Below.refl W4.heap.size W4).alloc (Nat.le_refl _) (.cells #[.pointer (some ⟨s, 0, none⟩)] 43))
      have kbx5 := Blk.new W4 43 #[.pointer (some ⟨s, 0, none⟩)]
      have hbl5 := hbl4.alloc hge4 (.cells #[.pointer (some ⟨s, 0, none⟩)] 43)
      have hdef5 : (W4.alloc (.cells #[.pointer (some ⟨s, 0, none⟩)] 43)).heap[D]? = some (.deferred (some [])) := (Below.heap_alloc W4 _ D (lt_of_heap hdef4)).trans hdef4
      have hbox5 : RecBox w.heap.size w.heap.size (R1 ++ ([] : List (Key × Dst)).map flRec) (W4.alloc (.cells #[.pointer (some ⟨s, 0, none⟩)] 43)) := by
        simp only [List.map_nil, List.append_nil]
        exact (recBox_own w.heap.size w.heap.size (fun _ : Unit => R1)) () W4 _ none hbox4 (World.grownBy_alloc W4 _ none) (fun r e => by cases e)
      have hge5 : w.heap.size ≤ (W4.alloc (.cells #[.pointer (some ⟨s, 0, none⟩)] 43)).heap.size := by simp; omega
      have hD5 := lt_of_heap hdef5
      gi_wp2_with (gi_at_call 29; refine (hF _).mono ?_; rintro e w1 ⟨rfl, rfl⟩)
      generalize hW5 : W4.alloc (.cells #[.pointer (some ⟨s, 0, none⟩)] 43) = W5 at *
      clear hW5
      refine wpIn_rangeFunc_ownH (α := Key × Dst) rfl (by omega) (gf := 51) (lb := #[.pointer (some ⟨W4.heap.size, 0, none⟩)]) rfl trivial (enters_of Tryz.func51 (by kernel_rfl) rfl)
        (floors_in 8 (by omega) σ W4.heap.size s g1 g2 W5 hS5 kbx5 (by omega)) (fun h k => h.trans k) (fun W l o o' _ hl hc hw => KeepsS.putObj W l o o' hl hc hw) (Below.refl _ _) (fun _ => rfl)
        (flI w.heap.size w.heap.size D w R1) (fun _ _ _ => False) (flI_own _ _ _ _ _ hge5 hD5) (fun _ _ _ _ _ h _ _ => h) ⟨hbox5, ⟨hbl5, hge5⟩, hdef5⟩
        (fun e a' Wx => ∃ q r, Blk Wx q 80 #[.int .u32 e.1.a, .int .i64 e.1.l, .int .u32 e.1.id] ∧ Blk Wx r 39 #[.int .u32 e.2.1, .int .u16 e.2.2] ∧ a' = { tmps := #[.pointer (some ⟨s, 0, none⟩), undef, .slice none 0 0, .pointer (some ⟨w.heap.size, 0, none⟩), undef, undef, .pointer (some ⟨q, 0, none⟩), .pointer (some ⟨r, 0, none⟩), .pointer (some ⟨s, 0, none⟩), .func (.func 48) #[] #[.pointer (some ⟨w.heap.size + 1, 0, none⟩)], undef, undef, undef, undef, undef, undef, undef, undef, .pointer (some ⟨s, 0, none⟩), .pointer (some ⟨s, 0, none⟩), .pointer (some ⟨s, 1, none⟩), .int .u32 σ.lease, .bool true, v, .pointer (some ⟨s, 0, none⟩), .pointer (some ⟨s, 0, none⟩), .pointer (some ⟨s, 1, none⟩), .int .u32 σ.lease, .agg #[.int .u32 σ.lease, .int .u16 0], .agg #[.int .i64 3, .int .u32 0, .int .u32 0, .int .u32 0, .int .u32 0, .int .i64 0, .bool false, .int .u32 σ.lease, .int .u16 0], .slice (some ⟨W.heap.size, 0, none⟩) 1 1, .slice (some ⟨g', 0, none⟩) (Ro.length + 1) cap', .pointer (some ⟨s, 0, none⟩), .func (.func 51) #[] #[.pointer (some ⟨W4.heap.size, 0, none⟩)], .agg #[.int .u32 e.1.a, .int .i64 e.1.l, .int .u32 e.1.id], .agg #[.int .u32 e.2.1, .int .u16 e.2.2], undef, undef, undef, undef, undef, undef, undef, undef, undef, undef], defers := [] }) ?_ ?_ ?_ ?_ ?_
      · rintro x a' ⟨⟩ X Y row ⟨q, r, hq, hr0, ha⟩ hg hr
        have no : ∀ {k t cs}, Blk X k t cs → some k ≠ row := fun {k t cs} hk e => by
          obtain ⟨-, o, ho, hc⟩ := hr k e.symm
          rw [show X.heap[k]? = _ from hk] at ho
          cases ho
          cases hc
        exact ⟨q, r, (hg.block q hq.lt (no hq)).trans hq, (hg.block r hr0.lt (no hr0)).trans hr0, ha⟩
      · rintro l pre ⟨x, d⟩ W K hI hK
        have hbA := ((Below.refl W.heap.size W).alloc (Nat.le_refl _) (.cells #[.int .u32 x.a, .int .i64 x.l, .int .u32 x.id] 80)).alloc (by simp) (.cells #[.int .u32 d.1, .int .u16 d.2] 39)
        have kq := (Blk.new W 80 #[.int .u32 x.a, .int .i64 x.l, .int .u32 x.id]).alloc (.cells #[.int .u32 d.1, .int .u16 d.2] 39)
        have kr := Blk.new (W.alloc (.cells #[.int .u32 x.a, .int .i64 x.l, .int .u32 x.id] 80)) 39 #[.int .u32 d.1, .int .u16 d.2]
        simp only [World.size_alloc] at kr
        gi_wp2_with gi_round_op_a
        exact hK _ _ (((KeepsOthers.alloc W _).trans (KeepsOthers.alloc _ _)).from _) (KeepsS.of_below hbA) ((flI_own _ _ _ _ _ hge5 hD5).alloc _ ((flI_own _ _ _ _ _ hge5 hD5).alloc _ hI)) ⟨_, _, kq, kr, rfl⟩
      · rintro l pre ⟨x, d⟩ a' W hl hrc ⟨⟨v, hv, hrow, hnil⟩, ⟨hbl, hge⟩, hdd⟩ ⟨q, r, hq, hr0, rfl⟩ hlen
        have hqlt := hq.lt
        have hrlt := hr0.lt
        have hvlt := hv.lt
        have v0 := hv.cell
        have vf := hv.frozen
        obtain ⟨xa, xl, xi⟩ := x
        obtain ⟨ds, dm⟩ := d
        simp only at hq hr0 ⊢
        have x0 := hq.cell 0
        have x1 := hq.cell 1
        have x2 := hq.cell 2
        simp only [List.getElem?_toArray, List.getElem?_cons_zero, List.getElem?_cons_succ] at x0 x1 x2
        have d0 := hr0.cell 0
        have d1 := hr0.cell 1
        simp only [List.getElem?_toArray, List.getElem?_cons_zero, List.getElem?_cons_succ] at d0 d1
        have hlen' : (R1 ++ pre.map flRec).length ≤ 3000 := by rw [List.length_append, List.length_map]; have := HL1.out; omega
        have HP := Lib.hid (show R1 ++ (pre ++ [((⟨xa, xl, xi⟩ : Key), ((ds, dm) : Dst))]).map flRec = (R1 ++ pre.map flRec) ++ [flRec (⟨xa, xl, xi⟩, (ds, dm))] from by rw [List.map_append, List.append_assoc]; rfl)
        generalize R1 ++ pre.map flRec = Rp at hrow hnil hlen' HP
        have HLN := Lib.hid hlen'
        clear hlen hlen'
        gi_wp2_with (first
          | (gi_at_builtin; refine wpListIn_append_own _ rfl _ _ 22 rfl w.heap.size 41 i0 (.agg #[.int .i64 0, .int .u32 0, .int .u32 0, .int .u32 0, .int .u32 0, .int .i64 0, .bool false, .int .u32 0, .int .u16 0]) 9 56 Tryz.underlying22 hi hz0 hz1 hz2 rfl (by decide) _ _ _ rfl (hrow.alloc _) ⟨W.heap.size, 0, none⟩ 1 1 (flRec (⟨xa, xl, xi⟩, (ds, dm))).cells rfl rfl (cells_new _ _ _) (by simp [Value.oneCell', Rec.cells]) (by unfold maxLen; have := HLN.out; omega) (by have := HLN.out; omega) (by simp; omega) ?_; intro v' w3 hown' hg3 hnil3
             have hg3' : (W.alloc (.cells (flRec (⟨xa, xl, xi⟩, (ds, dm))).cells.toArray 41)).grownBy w3 v.ownBlock := hg3
             obtain ⟨hv1, hv2, hr2, hko, hbw⟩ := Boxed.appended hv (by decide) hrow hge (Nat.le_refl _) hown' hg3'
             obtain ⟨g', cap', rfl⟩ := ownsRow_succ hown'
             have hks : KeepsS W (w3.setCell ⟨w.heap.size, 0, none⟩ (.slice (some ⟨g', 0, none⟩) (Rp.length + 1) cap')) := by
               refine ((KeepsS.of_below ((Below.refl _ W).alloc (Nat.le_refl _) _)).trans (KeepsS.of_grownBy hg3' fun j o ej hj => ?_)).trans (KeepsS.of_grownBy (grownBy_setCell' w3 _ _) fun j o ej hj => ?_)
               · rcases (hrow.alloc (.cells (flRec (⟨xa, xl, xi⟩, (ds, dm))).cells.toArray 41)).2 with ⟨rfl, _⟩ | ⟨g, cap, cur, rfl, _, hgb, _⟩
                 · simp [Value.ownBlock] at ej
                 · obtain rfl : g = j := by simpa [Value.ownBlock] using ej
                   rw [hgb] at hj
                   cases hj
                   simp [staysO]
               · cases ej
                 rw [show w3.heap[w.heap.size]? = _ from hv1] at hj
                 cases hj
                 simp [staysO]
             have c3 := hv1.cell
             have f3 := hv1.frozen
             have HV2 := Lib.hid hv2
             have HR2 := Lib.hid hr2
             have HKO := Lib.hid hko
             have HBW := Lib.hid hbw
             have HKS := Lib.hid hks
             clear hv2 hr2 hko hbw hks hg3 hg3' hown' hnil3 hv1
             go_frame)
          | gi_round_op_a)
        have hsz' : w.heap.size ≤ (w3.setCell ⟨w.heap.size, 0, none⟩ (.slice (some ⟨g', 0, none⟩) (Rp.length + 1) cap')).heap.size := Nat.le_trans hge HBW.out.size
        refine ⟨HKO.out.from _, HKS.out, ⟨_, HV2.out, ?_, ?_⟩, ⟨hbl.trans HBW.out, hsz'⟩, HKO.out.same D _ hdd rfl⟩
        · rw [HP.out, List.length_append]
          have hr3 : recs (Rp ++ [flRec (⟨xa, xl, xi⟩, (ds, dm))]) = recs Rp ++ (flRec (⟨xa, xl, xi⟩, (ds, dm))).cells := by simp [recs]
          rw [hr3]
          exact HR2.out
        · rw [HP.out]
          simp
      · rintro D2 xs W hD2 ⟨ks, hkp, rfl⟩ ⟨⟨v, hv, hrow, hnil⟩, ⟨hbl, hge⟩, hdd⟩ hdd2
        have hKE : (ks.map fun x => (x, (getM σ.fl x).getD (0, 0))).map flRec = ks.map fun x => flRec (x, (getM σ.fl x).getD (0, 0)) := by rw [List.map_map]; rfl
        rw [hKE] at hrow hnil
        have HRM := Lib.hid (show recsM σ = recsOf σ ss ks by rw [hkp]; unfold recsM; rw [HSP.out])
        have HRR := Lib.hid (show recsOf σ ss ks = R1 ++ ks.map fun x => flRec (x, (getM σ.fl x).getD (0, 0)) from by rw [← HR4.out]; unfold recsOf; simp)
        have hln : (R1 ++ ks.map fun x => flRec (x, (getM σ.fl x).getD (0, 0))).length ≤ 140737488351232 := by rw [List.length_append, List.length_map]; have := HL1.out; have := keySort_len (σ.fl.map (·.1)); rw [← hkp, List.length_map] at this; omega
        rw [← HRR.out] at hrow hnil hln
        generalize hRR : recsOf σ ss ks = RR at hrow hnil hln
        have HRX := Lib.hid hRR
        have HLN := Lib.hid hln
        clear hRR hln
        have v0 := hv.cell
        have hvlt := hv.lt
        gi_wp2
        have hne : D ≠ D2 := by omega
        have hddx : (W.putObj D2 (.deferred none)).heap[D]? = some (.deferred (some [])) := (World.putObj_heap_other hne).trans hdd
        refine ⟨by simp, .inl ⟨_, _, rfl, run_takeDeferred hdd2, ?_⟩⟩
        refine ⟨by simp, .inl ⟨_, _, rfl, run_takeDeferred hddx, ?_⟩⟩
        have hrx := ownsRow_putObj (ownsRow_putObj hrow (.deferred none) hdd2 rfl) (.deferred none) hddx rfl
        obtain ⟨ad, c, rfl, hrow9, hfr9⟩ := row_of_owns hrx HLN.out
        refine ⟨_, results_tmp rfl _ _ _, ad, c, by rw [HRM.out, HRX.out]; rfl, by rw [HRM.out, HRX.out]; exact hrow9, hfr9, ?_⟩
        exact (hbl.grown (grownBy_putObj' W D2 _) hge (fun k e => by cases e; omega)).grown (grownBy_putObj' _ D _) (by simpa using hge) (fun k e => by cases e; omega)
      · rintro D c pre W _ _ h
        exact h.elim
    · have hd0 : decide (σ.lease > 0) = false := decide_eq_false h0
      have hdef4 := hdef
      have hbl4 := hbl
      have hge4 := hge
      have HR4 := Lib.hid (show recsOf σ ss [] = Ro by unfold recsOf; rw [HRO.out, if_neg h0]; simp)
      have HL1 := Lib.hid (show Ro.length ≤ 1001 by have := HLR.out; omega)
      have hbox4 := hbox
      generalize Ro = R1 at hbox4 HR4 HL1
      clear hdef hbl hS2 hbox
      have hS4 := hS.below hbl4
      have hS5 := hS4.below ((Below.refl W.heap.size W).alloc (Nat.le_refl _) (.cells #[.pointer (some ⟨s, 0, none⟩)] 43))
      have kbx5 := Blk.new W 43 #[.pointer (some ⟨s, 0, none⟩)]
      have hbl5 := hbl4.alloc hge4 (.cells #[.pointer (some ⟨s, 0, none⟩)] 43)
      have hdef5 : (W.alloc (.cells #[.pointer (some ⟨s, 0, none⟩)] 43)).heap[D]? = some (.deferred (some [])) := (Below.heap_alloc W _ D (lt_of_heap hdef4)).trans hdef4
      have hbox5 : RecBox w.heap.size w.heap.size (R1 ++ ([] : List (Key × Dst)).map flRec) (W.alloc (.cells #[.pointer (some ⟨s, 0, none⟩)] 43)) := by
        simp only [List.map_nil, List.append_nil]
        exact (recBox_own w.heap.size w.heap.size (fun _ : Unit => R1)) () W _ none hbox4 (World.grownBy_alloc W _ none) (fun r e => by cases e)
      have hge5 : w.heap.size ≤ (W.alloc (.cells #[.pointer (some ⟨s, 0, none⟩)] 43)).heap.size := by simp; omega
      have hD5 := lt_of_heap hdef5
      gi_wp2_with (gi_at_call 29; refine (hF _).mono ?_; rintro e w1 ⟨rfl, rfl⟩)
      generalize hW5 : W.alloc (.cells #[.pointer (some ⟨s, 0, none⟩)] 43) = W5 at *
      clear hW5
      refine wpIn_rangeFunc_ownH (α := Key × Dst) rfl (by omega) (gf := 51) (lb := #[.pointer (some ⟨W.heap.size, 0, none⟩)]) rfl trivial (enters_of Tryz.func51 (by kernel_rfl) rfl)
        (floors_in 8 (by omega) σ W.heap.size s g1 g2 W5 hS5 kbx5 (by omega)) (fun h k => h.trans k) (fun W l o o' _ hl hc hw => KeepsS.putObj W l o o' hl hc hw) (Below.refl _ _) (fun _ => rfl)
        (flI w.heap.size w.heap.size D w R1) (fun _ _ _ => False) (flI_own _ _ _ _ _ hge5 hD5) (fun _ _ _ _ _ h _ _ => h) ⟨hbox5, ⟨hbl5, hge5⟩, hdef5⟩
        (fun e a' Wx => ∃ q r, Blk Wx q 80 #[.int .u32 e.1.a, .int .i64 e.1.l, .int .u32 e.1.id] ∧ Blk Wx r 39 #[.int .u32 e.2.1, .int .u16 e.2.2] ∧ a' = { tmps := #[.pointer (some ⟨s, 0, none⟩), undef, .slice none 0 0, .pointer (some ⟨w.heap.size, 0, none⟩), undef, undef, .pointer (some ⟨q, 0, none⟩), .pointer (some ⟨r, 0, none⟩), .pointer (some ⟨s, 0, none⟩), .func (.func 48) #[] #[.pointer (some ⟨w.heap.size + 1, 0, none⟩)], undef, undef, undef, undef, undef, undef, undef, undef, .pointer (some ⟨s, 0, none⟩), .pointer (some ⟨s, 0, none⟩), .pointer (some ⟨s, 1, none⟩), .int .u32 σ.lease, .bool false, undef, undef, undef, undef, undef, undef, undef, undef, undef, .pointer (some ⟨s, 0, none⟩), .func (.func 51) #[] #[.pointer (some ⟨W.heap.size, 0, none⟩)], .agg #[.int .u32 e.1.a, .int .i64 e.1.l, .int .u32 e.1.id], .agg #[.int .u32 e.2.1, .int .u16 e.2.2], undef, undef, undef, undef, undef, undef, undef, undef, undef, undef], defers := [] }) ?_ ?_ ?_ ?_ ?_
      · rintro x a' ⟨⟩ X Y row ⟨q, r, hq, hr0, ha⟩ hg hr
        have no : ∀ {k t cs}, Blk X k t cs → some k ≠ row := fun {k t cs} hk e => by
          obtain ⟨-, o, ho, hc⟩ := hr k e.symm
          rw [show X.heap[k]? = _ from hk] at ho
          cases ho
          cases hc
        exact ⟨q, r, (hg.block q hq.lt (no hq)).trans hq, (hg.block r hr0.lt (no hr0)).trans hr0, ha⟩
      · rintro l pre ⟨x, d⟩ W K hI hK
        have hbA := ((Below.refl W.heap.size W).alloc (Nat.le_refl _) (.cells #[.int .u32 x.a, .int .i64 x.l, .int .u32 x.id] 80)).alloc (by simp) (.cells #[.int .u32 d.1, .int .u16 d.2] 39)
        have kq := (Blk.new W 80 #[.int .u32 x.a, .int .i64 x.l, .int .u32 x.id]).alloc (.cells #[.int .u32 d.1, .int .u16 d.2] 39)
        have kr := Blk.new (W.alloc (.cells #[.int .u32 x.a, .int .i64 x.l, .int .u32 x.id] 80)) 39 #[.int .u32 d.1, .int .u16 d.2]
        simp only [World.size_alloc] at kr
        gi_wp2_with gi_round_op_a
        exact hK _ _ (((KeepsOthers.alloc W _).trans (KeepsOthers.alloc _ _)).from _) (KeepsS.of_below hbA) ((flI_own _ _ _ _ _ hge5 hD5).alloc _ ((flI_own _ _ _ _ _ hge5 hD5).alloc _ hI)) ⟨_, _, kq, kr, rfl⟩
      · rintro l pre ⟨x, d⟩ a' W hl hrc ⟨⟨v, hv, hrow, hnil⟩, ⟨hbl, hge⟩, hdd⟩ ⟨q, r, hq, hr0, rfl⟩ hlen
        have hqlt := hq.lt
        have hrlt := hr0.lt
        have hvlt := hv.lt
        have v0 := hv.cell
        have vf := hv.frozen
        obtain ⟨xa, xl, xi⟩ := x
        obtain ⟨ds, dm⟩ := d
        simp only at hq hr0 ⊢
        have x0 := hq.cell 0
        have x1 := hq.cell 1
        have x2 := hq.cell 2
        simp only [List.getElem?_toArray, List.getElem?_cons_zero, List.getElem?_cons_succ] at x0 x1 x2
        have d0 := hr0.cell 0
        have d1 := hr0.cell 1
        simp only [List.getElem?_toArray, List.getElem?_cons_zero, List.getElem?_cons_succ] at d0 d1
        have hlen' : (R1 ++ pre.map flRec).length ≤ 3000 := by rw [List.length_append, List.length_map]; have := HL1.out; omega
        have HP := Lib.hid (show R1 ++ (pre ++ [((⟨xa, xl, xi⟩ : Key), ((ds, dm) : Dst))]).map flRec = (R1 ++ pre.map flRec) ++ [flRec (⟨xa, xl, xi⟩, (ds, dm))] from by rw [List.map_append, List.append_assoc]; rfl)
        generalize R1 ++ pre.map flRec = Rp at hrow hnil hlen' HP
        have HLN := Lib.hid hlen'
        clear hlen hlen'
        gi_wp2_with (first
          | (gi_at_builtin; refine wpListIn_append_own _ rfl _ _ 22 rfl w.heap.size 41 i0 (.agg #[.int .i64 0, .int .u32 0, .int .u32 0, .int .u32 0, .int .u32 0, .int .i64 0, .bool false, .int .u32 0, .int .u16 0]) 9 56 Tryz.underlying22 hi hz0 hz1 hz2 rfl (by decide) _ _ _ rfl (hrow.alloc _) ⟨W.heap.size, 0, none⟩ 1 1 (flRec (⟨xa, xl, xi⟩, (ds, dm))).cells rfl rfl (cells_new _ _ _) (by simp [Value.oneCell', Rec.cells]) (by unfold maxLen; have := HLN.out; omega) (by have := HLN.out; omega) (by simp; omega) ?_; intro v' w3 hown' hg3 hnil3
             have hg3' : (W.alloc (.cells (flRec (⟨xa, xl, xi⟩, (ds, dm))).cells.toArray 41)).grownBy w3 v.ownBlock := hg3
             obtain ⟨hv1, hv2, hr2, hko, hbw⟩ := Boxed.appended hv (by decide) hrow hge (Nat.le_refl _) hown' hg3'
             obtain ⟨g', cap', rfl⟩ := ownsRow_succ hown'
             have hks : KeepsS W (w3.setCell ⟨w.heap.size, 0, none⟩ (.slice (some ⟨g', 0, none⟩) (Rp.length + 1) cap')) := by
               refine ((KeepsS.of_below ((Below.refl _ W).alloc (Nat.le_refl _) _)).trans (KeepsS.of_grownBy hg3' fun j o ej hj => ?_)).trans (KeepsS.of_grownBy (grownBy_setCell' w3 _ _) fun j o ej hj => ?_)
               · rcases (hrow.alloc (.cells (flRec (⟨xa, xl, xi⟩, (ds, dm))).cells.toArray 41)).2 with ⟨rfl, _⟩ | ⟨g, cap, cur, rfl, _, hgb, _⟩
                 · simp [Value.ownBlock] at ej
                 · obtain rfl : g = j := by simpa [Value.ownBlock] using ej
                   rw [hgb] at hj
                   cases hj
                   simp [staysO]
               · cases ej
                 rw [show w3.heap[w.heap.size]? = _ from hv1] at hj
                 cases hj
                 simp [staysO]
             have c3 := hv1.cell
             have f3 := hv1.frozen
             have HV2 := Lib.hid hv2
             have HR2 := Lib.hid hr2
             have HKO := Lib.hid hko
             have HBW := Lib.hid hbw
             have HKS := Lib.hid hks
             clear hv2 hr2 hko hbw hks hg3 hg3' hown' hnil3 hv1
             go_frame)
          | gi_round_op_a)
        have hsz' : w.heap.size ≤ (w3.setCell ⟨w.heap.size, 0, none⟩ (.slice (some ⟨g', 0, none⟩) (Rp.length + 1) cap')).heap.size := Nat.le_trans hge HBW.out.size
        refine ⟨HKO.out.from _, HKS.out, ⟨_, HV2.out, ?_, ?_⟩, ⟨hbl.trans HBW.out, hsz'⟩, HKO.out.same D _ hdd rfl⟩
        · rw [HP.out, List.length_append]
          have hr3 : recs (Rp ++ [flRec (⟨xa, xl, xi⟩, (ds, dm))]) = recs Rp ++ (flRec (⟨xa, xl, xi⟩, (ds, dm))).cells := by simp [recs]
          rw [hr3]
          exact HR2.out
        · rw [HP.out]
          simp
      · rintro D2 xs W hD2 ⟨ks, hkp, rfl⟩ ⟨⟨v, hv, hrow, hnil⟩, ⟨hbl, hge⟩, hdd⟩ hdd2
        have hKE : (ks.map fun x => (x, (getM σ.fl x).getD (0, 0))).map flRec = ks.map fun x => flRec (x, (getM σ.fl x).getD (0, 0)) := by rw [List.map_map]; rfl
        rw [hKE] at hrow hnil
        have HRM := Lib.hid (show recsM σ = recsOf σ ss ks by rw [hkp]; unfold recsM; rw [HSP.out])
        have HRR := Lib.hid (show recsOf σ ss ks = R1 ++ ks.map fun x => flRec (x, (getM σ.fl x).getD (0, 0)) from by rw [← HR4.out]; unfold recsOf; simp)
        have hln : (R1 ++ ks.map fun x => flRec (x, (getM σ.fl x).getD (0, 0))).length ≤ 140737488351232 := by rw [List.length_append, List.length_map]; have := HL1.out; have := keySort_len (σ.fl.map (·.1)); rw [← hkp, List.length_map] at this; omega
        rw [← HRR.out] at hrow hnil hln
        generalize hRR : recsOf σ ss ks = RR at hrow hnil hln
        have HRX := Lib.hid hRR
        have HLN := Lib.hid hln
        clear hRR hln
        have v0 := hv.cell
        have hvlt := hv.lt
        gi_wp2
        have hne : D ≠ D2 := by omega
        have hddx : (W.putObj D2 (.deferred none)).heap[D]? = some (.deferred (some [])) := (World.putObj_heap_other hne).trans hdd
        refine ⟨by simp, .inl ⟨_, _, rfl, run_takeDeferred hdd2, ?_⟩⟩
        refine ⟨by simp, .inl ⟨_, _, rfl, run_takeDeferred hddx, ?_⟩⟩
        have hrx := ownsRow_putObj (ownsRow_putObj hrow (.deferred none) hdd2 rfl) (.deferred none) hddx rfl
        obtain ⟨ad, c, rfl, hrow9, hfr9⟩ := row_of_owns hrx HLN.out
        refine ⟨_, results_tmp rfl _ _ _, ad, c, by rw [HRM.out, HRX.out]; rfl, by rw [HRM.out, HRX.out]; exact hrow9, hfr9, ?_⟩
        exact (hbl.grown (grownBy_putObj' W D2 _) hge (fun k e => by cases e; omega)).grown (grownBy_putObj' _ D _) (by simpa using hge) (fun k e => by cases e; omega)
      · rintro D c pre W _ _ h
        exact h.elim
  · rintro D c pre W _ _ h
    exact h.elim
end Go.Proofs.YtnfaeafplaeehaaGreat
end
