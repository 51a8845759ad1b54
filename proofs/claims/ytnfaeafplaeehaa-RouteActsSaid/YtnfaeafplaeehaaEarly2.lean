import Derived.Test.YtnfaeafplaeehaaEarly
set_option linter.unusedVariables false
set_option linter.unusedSimpArgs false
namespace Go.Proofs.Ytnfaeafplaeehaa
open Go.RowKit
/-! The second walk's function: as far as it goes it meets the same prefixes. -/
def sameP (ps pre : List Pfx) : Bool := decide (ps.take pre.length = pre)
theorem sameP_snoc (ps pre : List Pfx) (x : Pfx) : sameP ps (pre ++ [x]) = (sameP ps pre && (decide (pre.length < ps.length) && decide (ps.getD pre.length ⟨0, 0⟩ = x))) := by
  unfold sameP
  rw [List.length_append, List.length_singleton, ← Bool.decide_and, ← Bool.decide_and]
  refine decide_eq_decide.2 ?_
  by_cases h : pre.length < ps.length
  · rw [List.take_succ_eq_append_getElem h]
    have h1 : ps.getD pre.length ⟨0, 0⟩ = ps[pre.length] := by simp [h]
    rw [h1]
    constructor
    · intro e
      have := List.append_inj e (by simp; omega)
      exact ⟨this.1, h, by simpa using this.2⟩
    · rintro ⟨e1, -, e2⟩
      rw [e1, e2]
  · constructor
    · intro e
      have := congrArg List.length e
      simp at this
      omega
    · rintro ⟨-, h2, -⟩
      exact absurd h2 h
/-- How the second walk's variables lie. -/
structure Walk2 (bs bn ba bk : Nat) (A : Option Addr) (c : Nat) (ps : List Pfx) (K : Int) (W : World) (pre : List Pfx) : Prop where
  s : Blk W bs 4 #[.bool (sameP ps pre)]
  n : Blk W bn 3 #[.int .i64 pre.length]
  a : Blk W ba 63 #[.slice A ps.length c]
  k : Blk W bk 3 #[.int .i64 K]
  r : Row W 2 A ps.length (ps.flatMap Pfx.cells)
theorem Walk2.below {bs bn ba bk : Nat} {A : Option Addr} {c : Nat} {ps : List Pfx} {K : Int} {W W' : World} {pre : List Pfx} (h : Walk2 bs bn ba bk A c ps K W pre) (hb : Below W.heap.size W W') : Walk2 bs bn ba bk A c ps K W' pre :=
  ⟨h.s.below' hb, h.n.below' hb, h.a.below' hb, h.k.below' hb, h.r.below hb⟩
attribute [-go_sem] Go.run_equalIn_agg in
set_option maxHeartbeats 4000000 in
theorem early2 (bs bn ba bk : Nat) (A : Option Addr) (c : Nat) (ps : List Pfx) (K : Int) (pre : List Pfx) (x : Pfx) (W : World) (h : Walk2 bs bn ba bk A c ps K W pre) (hkn : bk ≠ bn) (hA : ∀ b off, A = some ⟨b, off, none⟩ → b ≠ bs ∧ b ≠ bn) (hN : pre.length < 1000000) (hps : ps.length < 1000000) :
    Calls Try.prog 35 (#[x.val] ++ #[.pointer (some ⟨bs, 0, none⟩), .pointer (some ⟨bn, 0, none⟩), .pointer (some ⟨ba, 0, none⟩), .pointer (some ⟨bk, 0, none⟩)]) W fun e W' => e = .returned (.bool (decide ((pre.length : Int) + 1 ≤ K))) ∧ Walk2 bs bn ba bk A c ps K W' (pre ++ [x]) ∧ Kept [bs, bn] W W' := by
  obtain ⟨xa, xl⟩ := x
  simp only [Pfx.val]
  have HS := Lib.hid (sameP_snoc ps pre ⟨xa, xl⟩)
  obtain ⟨ks, kn, ka, kk, hr⟩ := h
  have hbA := (Below.refl W.heap.size W).alloc (Nat.le_refl _) (.cells #[.int .u32 xa, .int .i64 xl] 25)
  have kp := Blk.new W 25 #[.int .u32 xa, .int .i64 xl]
  have hk0 := Kept.of_below (S := [bs, bn]) hbA
  have hpN := Lib.hid (show W.heap.size ∉ [bs, bn] by have := ks.lt; have := kn.lt; simp; omega)
  replace ks := ks.below' hbA
  replace kn := kn.below' hbA
  replace ka := ka.below' hbA
  replace kk := kk.below' hbA
  replace hr := hr.below hbA
  clear hbA
  generalize hsb : sameP ps pre = sb at *
  go_enter Try.func35, Try.ntmps35
  go_wp2_with fail
  generalize W.alloc (.cells #[.int .u32 xa, .int .i64 xl] 25) = V at *
  generalize W.heap.size = q at *
  have s1 := ks.lt
  have n1 := kn.lt
  have a1 := ka.lt
  have k1 := kk.lt
  have p2 := kp.lt
  have s0 := ks.cell 0
  have n0 := kn.cell 0
  have a0 := ka.cell 0
  have k0 := kk.cell 0
  simp only [List.getElem?_toArray, List.getElem?_cons_zero] at s0 n0 a0 k0
  have p0 := kp.cell 0
  have p1 := kp.cell 1
  simp only [List.getElem?_toArray, List.getElem?_cons_zero, List.getElem?_cons_succ] at p0 p1
  have sf0 := ks.frozen 0
  have nf0 := kn.frozen 0
  cases sb with
  | false =>
    refine draw_start [15] Later (by kernel_rfl) ?_
    refine draw_chunk (n := 27) (by kernel_rfl) (fun _ _ _ _ _ h => h) [0, 1, 2, 3, 4, 5, 6, 7, 8, 9, 10, 11, 12, 13, 14] [] _ #[true, true, true, true, true, true, true, true, true, true, true, true, true, true, true, false] (by kernel_rfl) 1 _ ?_ _ rfl ?_ ?_
    rotate_left
    · intro w' hw'
      have hc' : ∀ b o, b < V.heap.size → w'.cell? ⟨b, o, none⟩ = V.cell? ⟨b, o, none⟩ := (bcell hw').1
      refine ci_step (i := 0) (v := ?_) rfl (by kernel_rfl) ?_ ?_
      rotate_left
      · first | (go_simp; done) | (go_simp; with_reducible rfl)
      skip
      try simp only [Act.put, List.setIfInBounds_toArray, List.set_cons_zero, List.set_cons_succ]
      refine ci_step (i := 1) (v := ?_) rfl (by kernel_rfl) ?_ ?_
      rotate_left
      · first | (go_simp; done) | (go_simp; with_reducible rfl)
      skip
      try simp only [Act.put, List.setIfInBounds_toArray, List.set_cons_zero, List.set_cons_succ]
      refine ci_off (i := 2) rfl (by kernel_rfl) ?_
      try simp only [Act.put, List.setIfInBounds_toArray, List.set_cons_zero, List.set_cons_succ]
      refine ci_off (i := 3) rfl (by kernel_rfl) ?_
      try simp only [Act.put, List.setIfInBounds_toArray, List.set_cons_zero, List.set_cons_succ]
      refine ci_off (i := 4) rfl (by kernel_rfl) ?_
      try simp only [Act.put, List.setIfInBounds_toArray, List.set_cons_zero, List.set_cons_succ]
      refine ci_off (i := 5) rfl (by kernel_rfl) ?_
      try simp only [Act.put, List.setIfInBounds_toArray, List.set_cons_zero, List.set_cons_succ]
      refine ci_step (i := 6) (v := ?_) rfl (by kernel_rfl) ?_ ?_
      rotate_left
      · first | (go_simp; done) | (go_simp; with_reducible rfl)
      skip
      try simp only [Act.put, List.setIfInBounds_toArray, List.set_cons_zero, List.set_cons_succ]
      refine ci_step (i := 7) (v := ?_) rfl (by kernel_rfl) ?_ ?_
      rotate_left
      · first | (go_simp; done) | (go_simp; with_reducible rfl)
      skip
      try simp only [Act.put, List.setIfInBounds_toArray, List.set_cons_zero, List.set_cons_succ]
      refine ci_off (i := 8) rfl (by kernel_rfl) ?_
      try simp only [Act.put, List.setIfInBounds_toArray, List.set_cons_zero, List.set_cons_succ]
      refine ci_off (i := 9) rfl (by kernel_rfl) ?_
      try simp only [Act.put, List.setIfInBounds_toArray, List.set_cons_zero, List.set_cons_succ]
      refine ci_off (i := 10) rfl (by kernel_rfl) ?_
      try simp only [Act.put, List.setIfInBounds_toArray, List.set_cons_zero, List.set_cons_succ]
      refine ci_off (i := 11) rfl (by kernel_rfl) ?_
      try simp only [Act.put, List.setIfInBounds_toArray, List.set_cons_zero, List.set_cons_succ]
      refine ci_off (i := 12) rfl (by kernel_rfl) ?_
      try simp only [Act.put, List.setIfInBounds_toArray, List.set_cons_zero, List.set_cons_succ]
      refine ci_off (i := 13) rfl (by kernel_rfl) ?_
      try simp only [Act.put, List.setIfInBounds_toArray, List.set_cons_zero, List.set_cons_succ]
      refine ci_step (i := 14) (v := ?_) rfl (by kernel_rfl) ?_ ?_
      rotate_left
      · first | (go_simp; done) | (go_simp; with_reducible rfl)
      skip
      try simp only [Act.put, List.setIfInBounds_toArray, List.set_cons_zero, List.set_cons_succ]
      refine ci_end ?_
      rfl
    refine draw_eff (i := 15) rfl (by kernel_rfl) (listed' := #[true, true, true, true, true, true, true, true, true, true, true, true, true, true, true, true]) rfl (fun K hK => ?_)
    replace hK := Lib.hid hK
    go_wp2_with fail
    refine hK.out _ _ ⟨fun h => absurd (by decide) h, ?_⟩
    clear hK
    refine draw_done (by kernel_rfl) ?_ _
    have hk1 : Kept [bs, bn] V (V.setCell ⟨bs, 0, none⟩ (.bool false)).drew := kept_drew (kept_set (Kept.refl _ _) _ _ (.inl (by simp)))
    replace hk0 := hk0.trans hk1
    replace hr := hk1.row hr (by first | (intro b' off' e; have := hA b' off' e; simp; exact this) | (intro b' off' e; cases e; simp; exact ⟨hb1, hb2⟩))
    replace kn := (kn.other (a := ⟨bs, 0, none⟩) (kn.nE ks (by decide)) (.bool false)).drew
    replace ka := (ka.other (a := ⟨bs, 0, none⟩) (ka.nE ks (by decide)) (.bool false)).drew
    replace kk := (kk.other (a := ⟨bs, 0, none⟩) (kk.nE ks (by decide)) (.bool false)).drew
    replace ks : Blk (V.setCell ⟨bs, 0, none⟩ (.bool false)).drew bs 4 #[.bool false] := by have := (ks.set 0 (.bool false)).drew; simpa using this
    clear hk1 s0 n0 a0 k0 p0 p1 sf0 nf0 s1 n1 a1 k1 p2 kp
    generalize (V.setCell ⟨bs, 0, none⟩ (.bool false)).drew = U at *
    have s1 := ks.lt
    have n1 := kn.lt
    have k1 := kk.lt
    have n0 := kn.cell 0
    have nf0 := kn.frozen 0
    have k0 := kk.cell 0
    simp only [List.getElem?_toArray, List.getElem?_cons_zero] at n0 k0
    go_wp2
    go_ret
    refine ⟨rfl, ⟨?_, ?_, ka.other (a := ⟨bn, 0, none⟩) (ka.nE kn (by decide)) _, kk.other (a := ⟨bn, 0, none⟩) hkn _, ?_⟩, hk0.trans (kept_set (Kept.refl _ _) _ _ (.inl (by simp)))⟩
    · rw [HS.out]
      have := ks.other (a := ⟨bn, 0, none⟩) (ks.nE kn (by decide)) (.int .i64 ((pre.length : Int) + 1))
      simpa using this
    · have := kn.set 0 (.int .i64 ((pre.length : Int) + 1))
      simpa using this
    · exact (kept_set (S := [bs, bn]) (Kept.refl _ U) ⟨bn, 0, none⟩ (.int .i64 ((pre.length : Int) + 1)) (.inl (by simp))).row hr (by first | (intro b' off' e; have := hA b' off' e; simp; exact this) | (intro b' off' e; cases e; simp; exact ⟨hb1, hb2⟩))
  | true =>
    by_cases hn : pre.length < ps.length
    · obtain ⟨b, off, rfl, hbl, hcell⟩ := hr.2.2 (by omega)
      have e0 := hcell (pre.length * 2 + 0) _ ((flat_get Pfx.cells 2 (fun _ => rfl) ps pre.length 0 hn (by omega)).trans rfl)
      have e1 := hcell (pre.length * 2 + 1) _ ((flat_get Pfx.cells 2 (fun _ => rfl) ps pre.length 1 hn (by omega)).trans rfl)
      rw [show ps.getD pre.length ⟨0, 0⟩ = ps[pre.length] by simp [hn]] at HS
      generalize ps[pre.length] = y at *
      obtain ⟨ya, yl⟩ := y
      simp only [← Nat.add_assoc, Nat.add_zero] at e0 e1
      have hpe : ∀ w, (Op.equalIn 10000 25 (.agg #[.int .u32 ya, .int .i64 yl]) (.agg #[.int .u32 xa, .int .i64 xl])).run Try.prog w = .ok (decide ((⟨ya, yl⟩ : Pfx) = ⟨xa, xl⟩)) w := pfx_eq 9998 ⟨ya, yl⟩ ⟨xa, xl⟩
      generalize decide ((⟨ya, yl⟩ : Pfx) = ⟨xa, xl⟩) = same at *
      rw [decide_eq_true hn] at HS
      have hn1 : ((pre.length : Int) < (ps.length : Int)) := by omega
      have hn2 : (0 : Int) ≤ (pre.length : Int) := by omega
      obtain ⟨hb1, hb2⟩ := hA b off rfl
      clear hcell hA
      refine draw_start [15] Later (by kernel_rfl) ?_
      refine draw_chunk (n := 27) (by kernel_rfl) (fun _ _ _ _ _ h => h) [0, 1, 2, 3, 4, 5, 6, 7, 8, 9, 10, 11, 12, 13, 14] [] _ #[true, true, true, true, true, true, true, true, true, true, true, true, true, true, true, false] (by kernel_rfl) 1 _ ?_ _ rfl ?_ ?_
      rotate_left
      · intro w' hw'
        have hc' : ∀ b o, b < V.heap.size → w'.cell? ⟨b, o, none⟩ = V.cell? ⟨b, o, none⟩ := (bcell hw').1
        have f0 := (hc' b _ hbl).trans e0; have f1 := (hc' b _ hbl).trans e1
        refine ci_step (i := 0) (v := ?_) rfl (by kernel_rfl) ?_ ?_
        rotate_left
        · first | (go_simp; done) | (go_simp; with_reducible rfl)
        skip
        try simp only [Act.put, List.setIfInBounds_toArray, List.set_cons_zero, List.set_cons_succ]
        refine ci_step (i := 1) (v := ?_) rfl (by kernel_rfl) ?_ ?_
        rotate_left
        · first | (go_simp; done) | (go_simp; with_reducible rfl)
        skip
        try simp only [Act.put, List.setIfInBounds_toArray, List.set_cons_zero, List.set_cons_succ]
        refine ci_step (i := 2) (v := ?_) rfl (by kernel_rfl) ?_ ?_
        rotate_left
        · first | (go_simp; done) | (go_simp; with_reducible rfl)
        skip
        try simp only [Act.put, List.setIfInBounds_toArray, List.set_cons_zero, List.set_cons_succ]
        refine ci_step (i := 3) (v := ?_) rfl (by kernel_rfl) ?_ ?_
        rotate_left
        · first | (go_simp; done) | (go_simp; with_reducible rfl)
        skip
        try simp only [Act.put, List.setIfInBounds_toArray, List.set_cons_zero, List.set_cons_succ]
        refine ci_step (i := 4) (v := ?_) rfl (by kernel_rfl) ?_ ?_
        rotate_left
        · first | (go_simp; done) | (go_simp; with_reducible rfl)
        skip
        try simp only [Act.put, List.setIfInBounds_toArray, List.set_cons_zero, List.set_cons_succ]
        refine ci_step (i := 5) (v := ?_) rfl (by kernel_rfl) ?_ ?_
        rotate_left
        · first | (go_simp; done) | (go_simp; with_reducible rfl)
        skip
        try simp only [Act.put, List.setIfInBounds_toArray, List.set_cons_zero, List.set_cons_succ]
        refine ci_step (i := 6) (v := ?_) rfl (by kernel_rfl) ?_ ?_
        rotate_left
        · first | (go_simp; done) | (go_simp; with_reducible rfl)
        skip
        try simp only [Act.put, List.setIfInBounds_toArray, List.set_cons_zero, List.set_cons_succ]
        refine ci_step (i := 7) (v := ?_) rfl (by kernel_rfl) ?_ ?_
        rotate_left
        · first | (go_simp; done) | (go_simp; with_reducible rfl)
        skip
        try simp only [Act.put, List.setIfInBounds_toArray, List.set_cons_zero, List.set_cons_succ]
        refine ci_step (i := 8) (v := ?_) rfl (by kernel_rfl) ?_ ?_
        rotate_left
        · first | (go_simp; done) | (go_simp; with_reducible rfl)
        skip
        try simp only [Act.put, List.setIfInBounds_toArray, List.set_cons_zero, List.set_cons_succ]
        refine ci_step (i := 9) (v := ?_) rfl (by kernel_rfl) ?_ ?_
        rotate_left
        · first | (go_simp; done) | (go_simp; with_reducible rfl)
        skip
        try simp only [Act.put, List.setIfInBounds_toArray, List.set_cons_zero, List.set_cons_succ]
        refine ci_step (i := 10) (v := ?_) rfl (by kernel_rfl) ?_ ?_
        rotate_left
        · first | (go_simp; done) | (go_simp; with_reducible rfl)
        skip
        try simp only [Act.put, List.setIfInBounds_toArray, List.set_cons_zero, List.set_cons_succ]
        refine ci_step (i := 11) (v := ?_) rfl (by kernel_rfl) ?_ ?_
        rotate_left
        · first | (go_simp; done) | (go_simp; with_reducible rfl)
        skip
        try simp only [Act.put, List.setIfInBounds_toArray, List.set_cons_zero, List.set_cons_succ]
        refine ci_step (i := 12) (v := ?_) rfl (by kernel_rfl) ?_ ?_
        rotate_left
        · first | (go_simp; done) | (go_simp; with_reducible rfl)
        skip
        try simp only [Act.put, List.setIfInBounds_toArray, List.set_cons_zero, List.set_cons_succ]
        refine ci_step (i := 13) (v := ?_) rfl (by kernel_rfl) ?_ ?_
        rotate_left
        · first | (go_simp; done) | (go_simp; with_reducible rfl)
        skip
        try simp only [Act.put, List.setIfInBounds_toArray, List.set_cons_zero, List.set_cons_succ]
        refine ci_step (i := 14) (v := ?_) rfl (by kernel_rfl) ?_ ?_
        rotate_left
        · first | (go_simp; done) | (go_simp; with_reducible rfl)
        skip
        try simp only [Act.put, List.setIfInBounds_toArray, List.set_cons_zero, List.set_cons_succ]
        refine ci_end ?_
        rfl
      refine draw_eff (i := 15) rfl (by kernel_rfl) (listed' := #[true, true, true, true, true, true, true, true, true, true, true, true, true, true, true, true]) rfl (fun K hK => ?_)
      replace hK := Lib.hid hK
      clear e0 e1 hbl
      go_wp2_with fail
      refine hK.out _ _ ⟨fun h => absurd (by decide) h, ?_⟩
      clear hK
      refine draw_done (by kernel_rfl) ?_ _
      have hk1 : Kept [bs, bn] V (V.setCell ⟨bs, 0, none⟩ (.bool same)).drew := kept_drew (kept_set (Kept.refl _ _) _ _ (.inl (by simp)))
      replace hk0 := hk0.trans hk1
      replace hr := hk1.row hr (by first | (intro b' off' e; have := hA b' off' e; simp; exact this) | (intro b' off' e; cases e; simp; exact ⟨hb1, hb2⟩))
      replace kn := (kn.other (a := ⟨bs, 0, none⟩) (kn.nE ks (by decide)) (.bool same)).drew
      replace ka := (ka.other (a := ⟨bs, 0, none⟩) (ka.nE ks (by decide)) (.bool same)).drew
      replace kk := (kk.other (a := ⟨bs, 0, none⟩) (kk.nE ks (by decide)) (.bool same)).drew
      replace ks : Blk (V.setCell ⟨bs, 0, none⟩ (.bool same)).drew bs 4 #[.bool same] := by have := (ks.set 0 (.bool same)).drew; simpa using this
      clear hk1 s0 n0 a0 k0 p0 p1 sf0 nf0 s1 n1 a1 k1 p2 kp
      generalize (V.setCell ⟨bs, 0, none⟩ (.bool same)).drew = U at *
      have s1 := ks.lt
      have n1 := kn.lt
      have k1 := kk.lt
      have n0 := kn.cell 0
      have nf0 := kn.frozen 0
      have k0 := kk.cell 0
      simp only [List.getElem?_toArray, List.getElem?_cons_zero] at n0 k0
      go_wp2
      go_ret
      refine ⟨rfl, ⟨?_, ?_, ka.other (a := ⟨bn, 0, none⟩) (ka.nE kn (by decide)) _, kk.other (a := ⟨bn, 0, none⟩) hkn _, ?_⟩, hk0.trans (kept_set (Kept.refl _ _) _ _ (.inl (by simp)))⟩
      · rw [HS.out]
        have := ks.other (a := ⟨bn, 0, none⟩) (ks.nE kn (by decide)) (.int .i64 ((pre.length : Int) + 1))
        simpa using this
      · have := kn.set 0 (.int .i64 ((pre.length : Int) + 1))
        simpa using this
      · exact (kept_set (S := [bs, bn]) (Kept.refl _ U) ⟨bn, 0, none⟩ (.int .i64 ((pre.length : Int) + 1)) (.inl (by simp))).row hr (by first | (intro b' off' e; have := hA b' off' e; simp; exact this) | (intro b' off' e; cases e; simp; exact ⟨hb1, hb2⟩))
    · rw [decide_eq_false hn] at HS
      have hn1 : ¬ ((pre.length : Int) < (ps.length : Int)) := by omega
      refine draw_start [15] Later (by kernel_rfl) ?_
      refine draw_chunk (n := 27) (by kernel_rfl) (fun _ _ _ _ _ h => h) [0, 1, 2, 3, 4, 5, 6, 7, 8, 9, 10, 11, 12, 13, 14] [] _ #[true, true, true, true, true, true, true, true, true, true, true, true, true, true, true, false] (by kernel_rfl) 1 _ ?_ _ rfl ?_ ?_
      rotate_left
      · intro w' hw'
        have hc' : ∀ b o, b < V.heap.size → w'.cell? ⟨b, o, none⟩ = V.cell? ⟨b, o, none⟩ := (bcell hw').1
        refine ci_step (i := 0) (v := ?_) rfl (by kernel_rfl) ?_ ?_
        rotate_left
        · first | (go_simp; done) | (go_simp; with_reducible rfl)
        skip
        try simp only [Act.put, List.setIfInBounds_toArray, List.set_cons_zero, List.set_cons_succ]
        refine ci_step (i := 1) (v := ?_) rfl (by kernel_rfl) ?_ ?_
        rotate_left
        · first | (go_simp; done) | (go_simp; with_reducible rfl)
        skip
        try simp only [Act.put, List.setIfInBounds_toArray, List.set_cons_zero, List.set_cons_succ]
        refine ci_step (i := 2) (v := ?_) rfl (by kernel_rfl) ?_ ?_
        rotate_left
        · first | (go_simp; done) | (go_simp; with_reducible rfl)
        skip
        try simp only [Act.put, List.setIfInBounds_toArray, List.set_cons_zero, List.set_cons_succ]
        refine ci_step (i := 3) (v := ?_) rfl (by kernel_rfl) ?_ ?_
        rotate_left
        · first | (go_simp; done) | (go_simp; with_reducible rfl)
        skip
        try simp only [Act.put, List.setIfInBounds_toArray, List.set_cons_zero, List.set_cons_succ]
        refine ci_step (i := 4) (v := ?_) rfl (by kernel_rfl) ?_ ?_
        rotate_left
        · first | (go_simp; done) | (go_simp; with_reducible rfl)
        skip
        try simp only [Act.put, List.setIfInBounds_toArray, List.set_cons_zero, List.set_cons_succ]
        refine ci_step (i := 5) (v := ?_) rfl (by kernel_rfl) ?_ ?_
        rotate_left
        · first | (go_simp; done) | (go_simp; with_reducible rfl)
        skip
        try simp only [Act.put, List.setIfInBounds_toArray, List.set_cons_zero, List.set_cons_succ]
        refine ci_step (i := 6) (v := ?_) rfl (by kernel_rfl) ?_ ?_
        rotate_left
        · first | (go_simp; done) | (go_simp; with_reducible rfl)
        skip
        try simp only [Act.put, List.setIfInBounds_toArray, List.set_cons_zero, List.set_cons_succ]
        refine ci_step (i := 7) (v := ?_) rfl (by kernel_rfl) ?_ ?_
        rotate_left
        · first | (go_simp; done) | (go_simp; with_reducible rfl)
        skip
        try simp only [Act.put, List.setIfInBounds_toArray, List.set_cons_zero, List.set_cons_succ]
        refine ci_off (i := 8) rfl (by kernel_rfl) ?_
        try simp only [Act.put, List.setIfInBounds_toArray, List.set_cons_zero, List.set_cons_succ]
        refine ci_off (i := 9) rfl (by kernel_rfl) ?_
        try simp only [Act.put, List.setIfInBounds_toArray, List.set_cons_zero, List.set_cons_succ]
        refine ci_off (i := 10) rfl (by kernel_rfl) ?_
        try simp only [Act.put, List.setIfInBounds_toArray, List.set_cons_zero, List.set_cons_succ]
        refine ci_off (i := 11) rfl (by kernel_rfl) ?_
        try simp only [Act.put, List.setIfInBounds_toArray, List.set_cons_zero, List.set_cons_succ]
        refine ci_off (i := 12) rfl (by kernel_rfl) ?_
        try simp only [Act.put, List.setIfInBounds_toArray, List.set_cons_zero, List.set_cons_succ]
        refine ci_off (i := 13) rfl (by kernel_rfl) ?_
        try simp only [Act.put, List.setIfInBounds_toArray, List.set_cons_zero, List.set_cons_succ]
        refine ci_step (i := 14) (v := ?_) rfl (by kernel_rfl) ?_ ?_
        rotate_left
        · first | (go_simp; done) | (go_simp; with_reducible rfl)
        skip
        try simp only [Act.put, List.setIfInBounds_toArray, List.set_cons_zero, List.set_cons_succ]
        refine ci_end ?_
        rfl
      refine draw_eff (i := 15) rfl (by kernel_rfl) (listed' := #[true, true, true, true, true, true, true, true, true, true, true, true, true, true, true, true]) rfl (fun K hK => ?_)
      replace hK := Lib.hid hK
      go_wp2_with fail
      refine hK.out _ _ ⟨fun h => absurd (by decide) h, ?_⟩
      clear hK
      refine draw_done (by kernel_rfl) ?_ _
      have hk1 : Kept [bs, bn] V (V.setCell ⟨bs, 0, none⟩ (.bool false)).drew := kept_drew (kept_set (Kept.refl _ _) _ _ (.inl (by simp)))
      replace hk0 := hk0.trans hk1
      replace hr := hk1.row hr (by first | (intro b' off' e; have := hA b' off' e; simp; exact this) | (intro b' off' e; cases e; simp; exact ⟨hb1, hb2⟩))
      replace kn := (kn.other (a := ⟨bs, 0, none⟩) (kn.nE ks (by decide)) (.bool false)).drew
      replace ka := (ka.other (a := ⟨bs, 0, none⟩) (ka.nE ks (by decide)) (.bool false)).drew
      replace kk := (kk.other (a := ⟨bs, 0, none⟩) (kk.nE ks (by decide)) (.bool false)).drew
      replace ks : Blk (V.setCell ⟨bs, 0, none⟩ (.bool false)).drew bs 4 #[.bool false] := by have := (ks.set 0 (.bool false)).drew; simpa using this
      clear hk1 s0 n0 a0 k0 p0 p1 sf0 nf0 s1 n1 a1 k1 p2 kp
      generalize (V.setCell ⟨bs, 0, none⟩ (.bool false)).drew = U at *
      have s1 := ks.lt
      have n1 := kn.lt
      have k1 := kk.lt
      have n0 := kn.cell 0
      have nf0 := kn.frozen 0
      have k0 := kk.cell 0
      simp only [List.getElem?_toArray, List.getElem?_cons_zero] at n0 k0
      go_wp2
      go_ret
      refine ⟨rfl, ⟨?_, ?_, ka.other (a := ⟨bn, 0, none⟩) (ka.nE kn (by decide)) _, kk.other (a := ⟨bn, 0, none⟩) hkn _, ?_⟩, hk0.trans (kept_set (Kept.refl _ _) _ _ (.inl (by simp)))⟩
      · rw [HS.out]
        have := ks.other (a := ⟨bn, 0, none⟩) (ks.nE kn (by decide)) (.int .i64 ((pre.length : Int) + 1))
        simpa using this
      · have := kn.set 0 (.int .i64 ((pre.length : Int) + 1))
        simpa using this
      · exact (kept_set (S := [bs, bn]) (Kept.refl _ U) ⟨bn, 0, none⟩ (.int .i64 ((pre.length : Int) + 1)) (.inl (by simp))).row hr (by first | (intro b' off' e; have := hA b' off' e; simp; exact this) | (intro b' off' e; cases e; simp; exact ⟨hb1, hb2⟩))
end Go.Proofs.Ytnfaeafplaeehaa
