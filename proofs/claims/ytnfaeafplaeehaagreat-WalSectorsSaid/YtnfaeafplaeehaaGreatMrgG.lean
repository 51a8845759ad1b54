/- own texts of this claim, one behind the other: see the remarks within -/
import Derived.Test.YtnfaeafplaeehaaGreatKeys
import Derived.Test.YtnfaeafplaeehaaGreatDist
import Derived.Test.YtnfaeafplaeehaaGreatMrgF
import Derived.Test.YtnfaeafplaeehaaGreatMrgA
import Derived.Test.YtnfaeafplaeehaaGreatMrgB
section
set_option linter.unusedVariables false
set_option linter.unusedSimpArgs false
namespace Go.Proofs.YtnfaeafplaeehaaGreat
open Go.RowKit

abbrev Dst := Int × Int
def dstV (d : Dst) : Value := .agg #[.int .u32 d.1, .int .u16 d.2]
/-- What is noted: the router's number, the lease, its own prefixes, and the floors. -/
structure St where
  id : Int
  lease : Int
  own : List (Pfx × Bool)
  fl : List (Key × Dst)
def gtB (d f : Dst) : Bool := decide (distCmp d.1 d.2 f.1 f.2 > 0)
def noteFl (fl : List (Key × Dst)) (k : Key) (d : Dst) : List (Key × Dst) :=
  match getM fl k with
  | none => updM fl k d
  | some f => if gtB d f = true then updM fl k d else fl
def St.apply (σ : St) (r : Rec) : St :=
  if r.kind = 2 then { σ with own := updM σ.own ⟨r.a, r.l⟩ r.on } else if r.kind = 3 then { σ with lease := if r.s > σ.lease then r.s else σ.lease } else if r.kind = 4 then { σ with fl := noteFl σ.fl ⟨r.a, r.l, r.id⟩ (r.s, r.m) } else σ

/-- A state in memory. -/
def StAt (T : TypeId) (w : World) (s g1 g2 : Nat) (σ : St) : Prop :=
  Blk w s T #[.int .u32 σ.id, .int .u32 σ.lease, .map (some g1), .map (some g2)] ∧ MapAt w g1 Pfx.val Value.bool σ.own ∧ MapAt w g2 Key.val dstV σ.fl ∧ s ≠ g1 ∧ s ≠ g2 ∧ g1 ≠ g2
theorem StAt.below {T : TypeId} {w w' : World} {s g1 g2 : Nat} {σ : St} (h : StAt T w s g1 g2 σ) (hb : Below w.heap.size w w') : StAt T w' s g1 g2 σ :=
  ⟨h.1.below' hb, h.2.1.below hb, h.2.2.1.below hb, h.2.2.2⟩
theorem StAt.kept {T : TypeId} {S : List Nat} {w w' : World} {s g1 g2 : Nat} {σ : St} (h : StAt T w s g1 g2 σ) (hk : Kept S w w') (h0 : s ∉ S) (h1 : g1 ∉ S) (h2 : g2 ∉ S) : StAt T w' s g1 g2 σ :=
  ⟨hk.blk h.1 h0, h.2.1.kept hk h1, h.2.2.1.kept hk h2, h.2.2.2⟩
theorem kept_alloc {S : List Nat} {w w' : World} (h : Kept S w w') (o : Obj) : Kept S w (w'.alloc o) := h.trans (Kept.of_below ((Below.refl _ _).alloc (Nat.le_refl _) o))
theorem kept_drew {S : List Nat} {w w' : World} (h : Kept S w w') : Kept S w w'.drew := ⟨h.os, h.tape, h.output, h.size, h.block⟩
theorem kept_set {S : List Nat} {w w' : World} (h : Kept S w w') (a : Addr) (u : Value) (ha : a.block ∈ S ∨ w.heap.size ≤ a.block) : Kept S w (w'.setCell a u) :=
  ⟨h.os, h.tape, h.output, by simpa [World.setCell] using h.size, fun k hk hs => by
    rw [← h.block k hk hs]
    refine Below.heap_setCell w' a u k fun e => ?_
    subst e
    rcases ha with ha | ha
    · exact hs ha
    · omega⟩

theorem state_New (id : Int) (w : World) :
    Calls Tryz.prog 21 #[.int .u32 id] w fun e w' => Below w.heap.size w w' ∧ ∃ s g1 g2, e = .returned (.pointer (some ⟨s, 0, none⟩)) ∧ StAt 75 w' s g1 g2 ⟨id, 0, [], []⟩ ∧ w.heap.size ≤ s ∧ w.heap.size ≤ g1 ∧ w.heap.size ≤ g2 := by
  go_enter Tryz.func21, Tryz.ntmps21
  go_wp2
  go_ret
  refine ⟨(((Below.refl _ _).alloc (Nat.le_refl _) _).alloc (by simp) _).alloc (by simp; omega) _, w.heap.size + 1 + 1, w.heap.size, w.heap.size + 1, rfl, ⟨?_, ((MapAt.new _ _ _).alloc _).alloc _, ?_, ?_, ?_, ?_⟩, ?_, ?_, ?_⟩
  · simpa using Blk.new ((w.alloc (.map #[] 0)).alloc (.map #[] 0)) 75 #[.int .u32 id, .int .u32 0, .map (some w.heap.size), .map (some (w.heap.size + 1))]
  · refine MapAt.alloc ?_ _
    simpa using MapAt.new (w.alloc (.map #[] 0)) Key.val dstV
  all_goals omega
theorem dist_zero (w : World) : (zeroValue 39).run Tryz.prog w = .ok (.agg #[.int .u32 0, .int .u16 0]) w := by kernel_rfl
set_option maxHeartbeats 4000000 in
theorem state_Apply (σ : St) (r : Rec) (s g1 g2 : Nat) (w : World) (h : StAt 75 w s g1 g2 σ) :
    Calls Tryz.prog 32 #[.pointer (some ⟨s, 0, none⟩), r.val] w fun e w' => e = .returned (.tuple #[]) ∧ StAt 75 w' s g1 g2 (σ.apply r) ∧ Kept [s, g1, g2] w w' := by
  obtain ⟨hB, hm1, hm2, hs1, hs2, h12⟩ := h
  obtain ⟨id, lease, own, fl⟩ := σ
  obtain ⟨kind, gen, lsn, rid, a, l, on, rs, rm⟩ := r
  dsimp only at hB hm1 hm2
  have kB := hB.alloc (.cells (Rec.arr ⟨kind, gen, lsn, rid, a, l, on, rs, rm⟩) 41)
  have kM1 := hm1.alloc (.cells (Rec.arr ⟨kind, gen, lsn, rid, a, l, on, rs, rm⟩) 41)
  have kM2 := hm2.alloc (.cells (Rec.arr ⟨kind, gen, lsn, rid, a, l, on, rs, rm⟩) 41)
  have kR := Blk.new w 41 (Rec.arr ⟨kind, gen, lsn, rid, a, l, on, rs, rm⟩)
  have kK : Kept [s, g1, g2] w (w.alloc (.cells (Rec.arr ⟨kind, gen, lsn, rid, a, l, on, rs, rm⟩) 41)) := kept_alloc (Kept.refl _ _) _
  simp only [Rec.arr, Rec.val] at kB kM1 kM2 kR kK ⊢
  have hlt := hB.lt
  have hlt1 := hm1.lt
  have hlt2 := hm2.lt
  by_cases k2 : kind = 2
  · subst k2
    obtain ⟨w1, hrun, hM, hK1⟩ := run_mapUpdate pfx_keys Tryz.underlying66 kM1.drew ⟨a, l⟩ on
    simp only [Pfx.val] at hrun
    have b0 := hB.cell 0
    have b1 := hB.cell 1
    have b2 := hB.cell 2
    have b3 := hB.cell 3
    have bf0 := hB.frozen 0
    have bf1 := hB.frozen 1
    have bf2 := hB.frozen 2
    have bf3 := hB.frozen 3
    simp only [List.getElem?_toArray, List.getElem?_cons_zero, List.getElem?_cons_succ] at b0 b1 b2 b3
    go_enter Tryz.func32, Tryz.ntmps32
    go_wp2_with fail
    refine draw_start [8] Later (by kernel_rfl) ?_
    refine draw_chunk (n := 64) (by kernel_rfl) (fun _ _ _ _ _ h => h) [0, 1, 2, 3, 4, 5, 6, 7] [] _ #[true, true, true, true, true, true, true, true, false] (by kernel_rfl) 1 _ ?_ _ rfl ?_ ?_
    rotate_left
    · intro w' hw'
      have hc' : ∀ b o, b < (w.alloc (.cells #[.int .i64 2, .int .u32 gen, .int .u32 lsn, .int .u32 rid, .int .u32 a, .int .i64 l, .bool on, .int .u32 rs, .int .u16 rm] 41)).heap.size → w'.cell? ⟨b, o, none⟩ = (w.alloc (.cells #[.int .i64 2, .int .u32 gen, .int .u32 lsn, .int .u32 rid, .int .u32 a, .int .i64 l, .bool on, .int .u32 rs, .int .u16 rm] 41)).cell? ⟨b, o, none⟩ := (bcell hw').1
      iterate 8
        refine ci_step (v := ?_) rfl (by kernel_rfl) ?_ ?_
        rotate_left
        · first | (go_simp; done) | (go_simp; with_reducible rfl)
        try simp only [Act.put, List.setIfInBounds_toArray, List.set_cons_zero, List.set_cons_succ]
      refine ci_end ?_
      rfl
    refine draw_eff (i := 8) rfl (by kernel_rfl) (listed' := #[true, true, true, true, true, true, true, true, true]) rfl (fun K hK => ?_)
    replace hK := Lib.hid hK
    go_wp2_with fail
    refine hK.out _ _ ⟨fun h => absurd (by decide) h, ?_⟩
    clear hK
    refine draw_done (by kernel_rfl) ?_ _
    go_wp2
    refine bodyPost_end (results_none rfl _ _ _) rfl ⟨rfl, ⟨?_, ?_, ?_, hs1, hs2, h12⟩, ?_⟩
    · simpa [St.apply] using hK1.blk kB.drew (by simpa using hs1)
    · simpa [St.apply] using hM
    · simpa [St.apply] using kM2.drew.kept hK1 (by simpa using h12.symm)
    · exact (kept_drew kK).trans (hK1.more (by simp))
  by_cases k3 : kind = 3
  · subst k3
    have b0 := hB.cell 0
    have b1 := hB.cell 1
    have b2 := hB.cell 2
    have b3 := hB.cell 3
    have bf0 := hB.frozen 0
    have bf1 := hB.frozen 1
    have bf2 := hB.frozen 2
    have bf3 := hB.frozen 3
    simp only [List.getElem?_toArray, List.getElem?_cons_zero, List.getElem?_cons_succ] at b0 b1 b2 b3
    have r0 := kR.cell 0
    have r3 := kR.cell 3
    have r4 := kR.cell 4
    have r5 := kR.cell 5
    have r6 := kR.cell 6
    have r7 := kR.cell 7
    have r8 := kR.cell 8
    simp only [List.getElem?_toArray, List.getElem?_cons_zero, List.getElem?_cons_succ] at r0 r3 r4 r5 r6 r7 r8
    by_cases h : lease < rs
    · have HA := Lib.hid (show St.apply ⟨id, lease, own, fl⟩ ⟨3, gen, lsn, rid, a, l, on, rs, rm⟩ = ⟨id, rs, own, fl⟩ by simp only [St.apply]; rw [if_neg (by decide), if_pos trivial, if_pos h])
      go_enter Tryz.func32, Tryz.ntmps32
      go_wp2_with fail
      refine draw_start [11] Later (by kernel_rfl) ?_
      refine draw_chunk (n := 64) (by kernel_rfl) (fun _ _ _ _ _ h => h) [0, 1, 2, 3, 4, 5, 6, 7, 8, 9, 10] [] _ #[true, true, true, true, true, true, true, true, true, true, true, false] (by kernel_rfl) 1 _ ?_ _ rfl ?_ ?_
      rotate_left
      · intro w' hw'
        have hc' : ∀ b o, b < (w.alloc (.cells #[.int .i64 3, .int .u32 gen, .int .u32 lsn, .int .u32 rid, .int .u32 a, .int .i64 l, .bool on, .int .u32 rs, .int .u16 rm] 41)).heap.size → w'.cell? ⟨b, o, none⟩ = (w.alloc (.cells #[.int .i64 3, .int .u32 gen, .int .u32 lsn, .int .u32 rid, .int .u32 a, .int .i64 l, .bool on, .int .u32 rs, .int .u16 rm] 41)).cell? ⟨b, o, none⟩ := (bcell hw').1
        iterate 11
          refine ci_step (v := ?_) rfl (by kernel_rfl) ?_ ?_
          rotate_left
          · first | (go_simp; done) | (go_simp; with_reducible rfl)
          try simp only [Act.put, List.setIfInBounds_toArray, List.set_cons_zero, List.set_cons_succ]
        refine ci_end ?_
        rfl
      refine draw_eff (i := 11) rfl (by kernel_rfl) (listed' := #[true, true, true, true, true, true, true, true, true, true, true, true]) rfl (fun K hK => ?_)
      replace hK := Lib.hid hK
      go_wp2_with fail
      refine hK.out _ _ ⟨fun h => absurd (by decide) h, ?_⟩
      clear hK
      refine draw_done (by kernel_rfl) ?_ _
      go_wp2
      have kF := hB.set 1 (.int .u32 rs)
      simp only [List.setIfInBounds_toArray, List.set_cons_zero, List.set_cons_succ] at kF
      refine bodyPost_end (results_none rfl _ _ _) rfl ⟨rfl, ⟨?_, ?_, ?_, hs1, hs2, h12⟩, ?_⟩
      · rw [HA.out]; exact kF.alloc _
      · rw [HA.out]; exact (hm1.setCell _ _).alloc _
      · rw [HA.out]; exact (hm2.setCell _ _).alloc _
      · exact kept_drew (kept_alloc (kept_set (Kept.refl _ _) _ _ (.inl (by simp))) _)
    · have HA := Lib.hid (show St.apply ⟨id, lease, own, fl⟩ ⟨3, gen, lsn, rid, a, l, on, rs, rm⟩ = ⟨id, lease, own, fl⟩ by simp only [St.apply]; rw [if_neg (by decide), if_pos trivial, if_neg h])
      go_enter Tryz.func32, Tryz.ntmps32
      go_wp2_with fail
      refine draw_start [11] Later (by kernel_rfl) ?_
      refine draw_chunk (n := 64) (by kernel_rfl) (fun _ _ _ _ _ h => h) [0, 1, 2, 3, 4, 5, 6, 7, 8, 9, 10] [] _ #[true, true, true, true, true, true, true, true, true, true, true, false] (by kernel_rfl) 1 _ ?_ _ rfl ?_ ?_
      rotate_left
      · intro w' hw'
        have hc' : ∀ b o, b < (w.alloc (.cells #[.int .i64 3, .int .u32 gen, .int .u32 lsn, .int .u32 rid, .int .u32 a, .int .i64 l, .bool on, .int .u32 rs, .int .u16 rm] 41)).heap.size → w'.cell? ⟨b, o, none⟩ = (w.alloc (.cells #[.int .i64 3, .int .u32 gen, .int .u32 lsn, .int .u32 rid, .int .u32 a, .int .i64 l, .bool on, .int .u32 rs, .int .u16 rm] 41)).cell? ⟨b, o, none⟩ := (bcell hw').1
        iterate 11
          refine ci_step (v := ?_) rfl (by kernel_rfl) ?_ ?_
          rotate_left
          · first | (go_simp; done) | (go_simp; with_reducible rfl)
          try simp only [Act.put, List.setIfInBounds_toArray, List.set_cons_zero, List.set_cons_succ]
        refine ci_end ?_
        rfl
      refine draw_eff (i := 11) rfl (by kernel_rfl) (listed' := #[true, true, true, true, true, true, true, true, true, true, true, true]) rfl (fun K hK => ?_)
      replace hK := Lib.hid hK
      go_wp2_with fail
      refine hK.out _ _ ⟨fun h => absurd (by decide) h, ?_⟩
      clear hK
      refine draw_done (by kernel_rfl) ?_ _
      go_wp2
      have kF := hB.set 1 (.int .u32 lease)
      simp only [List.setIfInBounds_toArray, List.set_cons_zero, List.set_cons_succ] at kF
      refine bodyPost_end (results_none rfl _ _ _) rfl ⟨rfl, ⟨?_, ?_, ?_, hs1, hs2, h12⟩, ?_⟩
      · rw [HA.out]; exact kF.alloc _
      · rw [HA.out]; exact (hm1.setCell _ _).alloc _
      · rw [HA.out]; exact (hm2.setCell _ _).alloc _
      · exact kept_drew (kept_alloc (kept_set (Kept.refl _ _) _ _ (.inl (by simp))) _)
  by_cases k4 : kind = 4
  · subst k4
    have b0 := hB.cell 0
    have b1 := hB.cell 1
    have b2 := hB.cell 2
    have b3 := hB.cell 3
    have bf0 := hB.frozen 0
    have bf1 := hB.frozen 1
    have bf2 := hB.frozen 2
    have bf3 := hB.frozen 3
    simp only [List.getElem?_toArray, List.getElem?_cons_zero, List.getElem?_cons_succ] at b0 b1 b2 b3
    have r0 := kR.cell 0
    have r3 := kR.cell 3
    have r4 := kR.cell 4
    have r5 := kR.cell 5
    have r6 := kR.cell 6
    have r7 := kR.cell 7
    have r8 := kR.cell 8
    simp only [List.getElem?_toArray, List.getElem?_cons_zero, List.getElem?_cons_succ] at r0 r3 r4 r5 r6 r7 r8
    cases hg : getM fl (⟨a, l, rid⟩ : Key) with
    | none =>
      have HA := Lib.hid (show St.apply ⟨id, lease, own, fl⟩ ⟨4, gen, lsn, rid, a, l, on, rs, rm⟩ = ⟨id, lease, own, updM fl ⟨a, l, rid⟩ (rs, rm)⟩ by simp [St.apply, noteFl, hg])
      go_enter Tryz.func32, Tryz.ntmps32
      go_wp2_with fail
      have kB2 := kB.alloc (.cells #[.int .u32 a, .int .i64 l, .int .u32 rid] 80)
      have kM12 := kM1.alloc (.cells #[.int .u32 a, .int .i64 l, .int .u32 rid] 80)
      have hm := kM2.alloc (.cells #[.int .u32 a, .int .i64 l, .int .u32 rid] 80)
      have kR2 := kR.alloc (.cells #[.int .u32 a, .int .i64 l, .int .u32 rid] 80)
      have kK2 := kept_alloc kK (.cells #[.int .u32 a, .int .i64 l, .int .u32 rid] 80)
      have kY := Blk.new (w.alloc (.cells #[.int .i64 4, .int .u32 gen, .int .u32 lsn, .int .u32 rid, .int .u32 a, .int .i64 l, .bool on, .int .u32 rs, .int .u16 rm] 41)) 80 #[.int .u32 a, .int .i64 l, .int .u32 rid]
      simp only [World.size_alloc] at kY
      generalize hW : (w.alloc (.cells #[.int .i64 4, .int .u32 gen, .int .u32 lsn, .int .u32 rid, .int .u32 a, .int .i64 l, .bool on, .int .u32 rs, .int .u16 rm] 41)).alloc (.cells #[.int .u32 a, .int .i64 l, .int .u32 rid] 80) = W at kB2 kM12 hm kR2 kK2 kY ⊢
      have hsz : W.heap.size = w.heap.size + 1 + 1 := by rw [← hW]; simp
      have hl1 := kB2.lt
      have hl2 := kY.lt
      rw [hsz] at hl1 hl2
      have b0 := kB2.cell 0
      have b1 := kB2.cell 1
      have b2 := kB2.cell 2
      have b3 := kB2.cell 3
      have bf0 := kB2.frozen 0
      have bf1 := kB2.frozen 1
      have bf2 := kB2.frozen 2
      have bf3 := kB2.frozen 3
      simp only [List.getElem?_toArray, List.getElem?_cons_zero, List.getElem?_cons_succ] at b0 b1 b2 b3
      have y0 := kY.cell 0
      have y1 := kY.cell 1
      have y2 := kY.cell 2
      simp only [List.getElem?_toArray, List.getElem?_cons_zero, List.getElem?_cons_succ] at y0 y1 y2
      refine draw_start [] (Below W.heap.size) (by kernel_rfl) ?_
      refine draw_chunk (n := 64) (by kernel_rfl) (fun _ _ _ _ _ h => h) [0, 1, 2, 3, 4, 5, 6, 7, 8] [] _ #[true, true, true, true, true, true, true, true, true, false, false, false] (by kernel_rfl) 3 _ ?_ _ rfl ?_ ?_
      rotate_left
      · intro w' hw'
        have hc' : ∀ b o, b < W.heap.size → w'.cell? ⟨b, o, none⟩ = W.cell? ⟨b, o, none⟩ := fun b o h => hw'.cell (p := ⟨b, o, none⟩) h
        have hl := run_lookup_none key_keys Tryz.underlying67 (hm.same (hw'.block _ hm.lt)) ⟨a, l, rid⟩ hg true _ dist_zero; simp only [Key.val, dstV] at hl
        iterate 9
          refine ci_step (v := ?_) rfl (by kernel_rfl) ?_ ?_
          rotate_left
          · first | (go_simp; done) | (go_simp; with_reducible rfl)
          try simp only [Act.put, List.setIfInBounds_toArray, List.set_cons_zero, List.set_cons_succ]
        refine ci_end ?_
        rfl
      refine draw_eff (i := 9) rfl (by kernel_rfl) (listed' := #[true, true, true, true, true, true, true, true, true, true, false, false]) rfl (fun K hK => ?_)
      replace hK := Lib.hid hK
      go_wp2_with fail
      refine hK.out _ _ ⟨fun _ => below_dd ((Below.refl _ W).alloc (Nat.le_refl _) _), ?_⟩
      clear hK
      refine draw_eff (i := 10) rfl (by kernel_rfl) (listed' := #[true, true, true, true, true, true, true, true, true, true, true, false]) rfl (fun K hK => ?_)
      replace hK := Lib.hid hK
      go_wp2_with fail
      refine hK.out _ _ ⟨fun _ => below_dd (below_two ((Below.refl _ W).alloc (Nat.le_refl _) _) ((Below.refl _ W).alloc (Nat.le_refl _) _) (by simp)), ?_⟩
      clear hK
      refine draw_chunk (n := 64) (by kernel_rfl) (fun _ _ _ _ _ h => h) [11] [] _ #[true, true, true, true, true, true, true, true, true, true, true, true] (by kernel_rfl) 0 _ ?_ _ rfl ?_ ?_
      rotate_left
      · intro w' hw'
        have hc' : ∀ b o, b < W.heap.size → w'.cell? ⟨b, o, none⟩ = ((W.alloc (.cells #[.int .u32 (0 : Int), .int .u16 (0 : Int)] 39)).drew).cell? ⟨b, o, none⟩ := fun b o h => hw'.cell (p := ⟨b, o, none⟩) h
        refine ci_step (i := 11) (v := ?_) rfl (by kernel_rfl) ?_ ?_
        rotate_left
        · first | (go_simp; done) | (go_simp; with_reducible rfl)
        skip
        try simp only [Act.put, List.setIfInBounds_toArray, List.set_cons_zero, List.set_cons_succ]
        refine ci_end ?_
        rfl
      refine draw_done (by kernel_rfl) ?_ _
      have q0 := kR2.cell 0
      have q3 := kR2.cell 3
      have q4 := kR2.cell 4
      have q5 := kR2.cell 5
      have q6 := kR2.cell 6
      have q7 := kR2.cell 7
      have q8 := kR2.cell 8
      simp only [List.getElem?_toArray, List.getElem?_cons_zero, List.getElem?_cons_succ] at q0 q3 q4 q5 q6 q7 q8
      go_wp2_with fail
      obtain ⟨w1, hrun, hM, hK1⟩ := run_mapUpdate key_keys Tryz.underlying67 (hm.alloc (.cells #[.int .u32 0, .int .u16 0] 39)).drew.drew ⟨a, l, rid⟩ (rs, rm)
      simp only [Key.val, dstV] at hrun
      refine draw_start [7] Later (by kernel_rfl) ?_
      refine draw_chunk (n := 64) (by kernel_rfl) (fun _ _ _ _ _ h => h) [0, 1, 2, 3, 4, 5, 6] [] _ #[true, true, true, true, true, true, true, false] (by kernel_rfl) 1 _ ?_ _ rfl ?_ ?_
      rotate_left
      · intro w' hw'
        have hc' : ∀ b o, b < ((W.alloc (.cells #[.int .u32 0, .int .u16 0] 39)).drew).heap.size → w'.cell? ⟨b, o, none⟩ = ((W.alloc (.cells #[.int .u32 0, .int .u16 0] 39)).drew).cell? ⟨b, o, none⟩ := (bcell hw').1
        iterate 7
          refine ci_step (v := ?_) rfl (by kernel_rfl) ?_ ?_
          rotate_left
          · first | (go_simp; done) | (go_simp; with_reducible rfl)
          try simp only [Act.put, List.setIfInBounds_toArray, List.set_cons_zero, List.set_cons_succ]
        refine ci_end ?_
        rfl
      refine draw_eff (i := 7) rfl (by kernel_rfl) (listed' := #[true, true, true, true, true, true, true, true]) rfl (fun K hK => ?_)
      replace hK := Lib.hid hK
      go_wp2_with fail
      refine hK.out _ _ ⟨fun h => absurd (by decide) h, ?_⟩
      clear hK
      refine draw_done (by kernel_rfl) ?_ _
      go_wp2
      refine bodyPost_end (results_none rfl _ _ _) rfl ⟨rfl, ⟨?_, ?_, ?_, hs1, hs2, h12⟩, ?_⟩
      · rw [HA.out]; exact hK1.blk (kB2.alloc (.cells #[.int .u32 0, .int .u16 0] 39)).drew.drew (by simpa using hs2)
      · rw [HA.out]; exact ((kM12.alloc (.cells #[.int .u32 0, .int .u16 0] 39)).drew.drew).kept hK1 (by simpa using h12)
      · rw [HA.out]; exact hM
      · exact (kept_drew (kept_drew (kept_alloc kK2 _))).trans (hK1.more (by simp))
    | some f =>
      obtain ⟨fs, fm⟩ := f
      cases hgt : gtB (rs, rm) (fs, fm) with
      | true =>
        have HA := Lib.hid (show St.apply ⟨id, lease, own, fl⟩ ⟨4, gen, lsn, rid, a, l, on, rs, rm⟩ = ⟨id, lease, own, updM fl ⟨a, l, rid⟩ (rs, rm)⟩ by simp [St.apply, noteFl, hg, hgt])
        have hgt' : 0 < distCmp rs rm fs fm := by simpa [gtB] using hgt
        clear hgt
        go_enter Tryz.func32, Tryz.ntmps32
        go_wp2_with fail
        have kB2 := kB.alloc (.cells #[.int .u32 a, .int .i64 l, .int .u32 rid] 80)
        have kM12 := kM1.alloc (.cells #[.int .u32 a, .int .i64 l, .int .u32 rid] 80)
        have hm := kM2.alloc (.cells #[.int .u32 a, .int .i64 l, .int .u32 rid] 80)
        have kR2 := kR.alloc (.cells #[.int .u32 a, .int .i64 l, .int .u32 rid] 80)
        have kK2 := kept_alloc kK (.cells #[.int .u32 a, .int .i64 l, .int .u32 rid] 80)
        have kY := Blk.new (w.alloc (.cells #[.int .i64 4, .int .u32 gen, .int .u32 lsn, .int .u32 rid, .int .u32 a, .int .i64 l, .bool on, .int .u32 rs, .int .u16 rm] 41)) 80 #[.int .u32 a, .int .i64 l, .int .u32 rid]
        simp only [World.size_alloc] at kY
        generalize hW : (w.alloc (.cells #[.int .i64 4, .int .u32 gen, .int .u32 lsn, .int .u32 rid, .int .u32 a, .int .i64 l, .bool on, .int .u32 rs, .int .u16 rm] 41)).alloc (.cells #[.int .u32 a, .int .i64 l, .int .u32 rid] 80) = W at kB2 kM12 hm kR2 kK2 kY ⊢
        have hsz : W.heap.size = w.heap.size + 1 + 1 := by rw [← hW]; simp
        have hl1 := kB2.lt
        have hl2 := kY.lt
        rw [hsz] at hl1 hl2
        have b0 := kB2.cell 0
        have b1 := kB2.cell 1
        have b2 := kB2.cell 2
        have b3 := kB2.cell 3
        have bf0 := kB2.frozen 0
        have bf1 := kB2.frozen 1
        have bf2 := kB2.frozen 2
        have bf3 := kB2.frozen 3
        simp only [List.getElem?_toArray, List.getElem?_cons_zero, List.getElem?_cons_succ] at b0 b1 b2 b3
        have y0 := kY.cell 0
        have y1 := kY.cell 1
        have y2 := kY.cell 2
        simp only [List.getElem?_toArray, List.getElem?_cons_zero, List.getElem?_cons_succ] at y0 y1 y2
        refine draw_start [] (Below W.heap.size) (by kernel_rfl) ?_
        refine draw_chunk (n := 64) (by kernel_rfl) (fun _ _ _ _ _ h => h) [0, 1, 2, 3, 4, 5, 6, 7, 8] [] _ #[true, true, true, true, true, true, true, true, true, false, false, false] (by kernel_rfl) 3 _ ?_ _ rfl ?_ ?_
        rotate_left
        · intro w' hw'
          have hc' : ∀ b o, b < W.heap.size → w'.cell? ⟨b, o, none⟩ = W.cell? ⟨b, o, none⟩ := fun b o h => hw'.cell (p := ⟨b, o, none⟩) h
          have hl := run_lookup_some key_keys Tryz.underlying67 (hm.same (hw'.block _ hm.lt)) ⟨a, l, rid⟩ (fs, fm) hg true; simp only [Key.val, dstV] at hl
          iterate 9
            refine ci_step (v := ?_) rfl (by kernel_rfl) ?_ ?_
            rotate_left
            · first | (go_simp; done) | (go_simp; with_reducible rfl)
            try simp only [Act.put, List.setIfInBounds_toArray, List.set_cons_zero, List.set_cons_succ]
          refine ci_end ?_
          rfl
        refine draw_eff (i := 9) rfl (by kernel_rfl) (listed' := #[true, true, true, true, true, true, true, true, true, true, false, false]) rfl (fun K hK => ?_)
        replace hK := Lib.hid hK
        go_wp2_with fail
        refine hK.out _ _ ⟨fun _ => below_dd ((Below.refl _ W).alloc (Nat.le_refl _) _), ?_⟩
        clear hK
        refine draw_eff (i := 10) rfl (by kernel_rfl) (listed' := #[true, true, true, true, true, true, true, true, true, true, true, false]) rfl (fun K hK => ?_)
        replace hK := Lib.hid hK
        go_wp2_with fail
        refine hK.out _ _ ⟨fun _ => below_dd (below_two ((Below.refl _ W).alloc (Nat.le_refl _) _) ((Below.refl _ W).alloc (Nat.le_refl _) _) (by simp)), ?_⟩
        clear hK
        refine draw_chunk (n := 64) (by kernel_rfl) (fun _ _ _ _ _ h => h) [11] [] _ #[true, true, true, true, true, true, true, true, true, true, true, true] (by kernel_rfl) 0 _ ?_ _ rfl ?_ ?_
        rotate_left
        · intro w' hw'
          have hc' : ∀ b o, b < W.heap.size → w'.cell? ⟨b, o, none⟩ = ((W.alloc (.cells #[.int .u32 fs, .int .u16 fm] 39)).drew).cell? ⟨b, o, none⟩ := fun b o h => hw'.cell (p := ⟨b, o, none⟩) h
          refine ci_step (i := 11) (v := ?_) rfl (by kernel_rfl) ?_ ?_
          rotate_left
          · first | (go_simp; done) | (go_simp; with_reducible rfl)
          skip
          try simp only [Act.put, List.setIfInBounds_toArray, List.set_cons_zero, List.set_cons_succ]
          refine ci_end ?_
          rfl
        refine draw_done (by kernel_rfl) ?_ _
        have q0 := kR2.cell 0
        have q3 := kR2.cell 3
        have q4 := kR2.cell 4
        have q5 := kR2.cell 5
        have q6 := kR2.cell 6
        have q7 := kR2.cell 7
        have q8 := kR2.cell 8
        simp only [List.getElem?_toArray, List.getElem?_cons_zero, List.getElem?_cons_succ] at q0 q3 q4 q5 q6 q7 q8
        go_wp2_with fail
        refine (dist_Compare _ _ _ _ _).mono ?_
        rintro e w1 ⟨rfl, hb1⟩
        have kB3 := (kB2.alloc (.cells #[.int .u32 fs, .int .u16 fm] 39)).drew.below' hb1
        have kM13 := (kM12.alloc (.cells #[.int .u32 fs, .int .u16 fm] 39)).drew.below hb1
        have hm3 := (hm.alloc (.cells #[.int .u32 fs, .int .u16 fm] 39)).drew.below hb1
        have kR3 := (kR2.alloc (.cells #[.int .u32 fs, .int .u16 fm] 39)).drew.below' hb1
        have kY3 := (kY.alloc (.cells #[.int .u32 fs, .int .u16 fm] 39)).drew.below' hb1
        have kK3 := (kept_drew (kept_alloc kK2 (.cells #[.int .u32 fs, .int .u16 fm] 39))).trans (Kept.of_below hb1)
        clear hb1
        have hl3 := kB3.lt
        have hl4 := kR3.lt
        have hl5 := kY3.lt
        obtain ⟨w2, hrun, hM, hK1⟩ := run_mapUpdate key_keys Tryz.underlying67 hm3.drew ⟨a, l, rid⟩ (rs, rm)
        simp only [Key.val, dstV] at hrun
        have c0 := kB3.cell 0
        have c1 := kB3.cell 1
        have c2 := kB3.cell 2
        have c3 := kB3.cell 3
        have cf0 := kB3.frozen 0
        have cf1 := kB3.frozen 1
        have cf2 := kB3.frozen 2
        have cf3 := kB3.frozen 3
        simp only [List.getElem?_toArray, List.getElem?_cons_zero, List.getElem?_cons_succ] at c0 c1 c2 c3
        have y0 := kY3.cell 0
        have y1 := kY3.cell 1
        have y2 := kY3.cell 2
        simp only [List.getElem?_toArray, List.getElem?_cons_zero, List.getElem?_cons_succ] at y0 y1 y2
        have p0 := kR3.cell 0
        have p3 := kR3.cell 3
        have p4 := kR3.cell 4
        have p5 := kR3.cell 5
        have p6 := kR3.cell 6
        have p7 := kR3.cell 7
        have p8 := kR3.cell 8
        simp only [List.getElem?_toArray, List.getElem?_cons_zero, List.getElem?_cons_succ] at p0 p3 p4 p5 p6 p7 p8
        go_wp2_with fail
        refine draw_start [7] Later (by kernel_rfl) ?_
        refine draw_chunk (n := 64) (by kernel_rfl) (fun _ _ _ _ _ h => h) [0, 1, 2, 3, 4, 5, 6] [] _ #[true, true, true, true, true, true, true, false] (by kernel_rfl) 1 _ ?_ _ rfl ?_ ?_
        rotate_left
        · intro w' hw'
          have hc' : ∀ b o, b < w1.heap.size → w'.cell? ⟨b, o, none⟩ = w1.cell? ⟨b, o, none⟩ := (bcell hw').1
          iterate 7
            refine ci_step (v := ?_) rfl (by kernel_rfl) ?_ ?_
            rotate_left
            · first | (go_simp; done) | (go_simp; with_reducible rfl)
            try simp only [Act.put, List.setIfInBounds_toArray, List.set_cons_zero, List.set_cons_succ]
          refine ci_end ?_
          rfl
        refine draw_eff (i := 7) rfl (by kernel_rfl) (listed' := #[true, true, true, true, true, true, true, true]) rfl (fun K hK => ?_)
        replace hK := Lib.hid hK
        go_wp2_with fail
        refine hK.out _ _ ⟨fun h => absurd (by decide) h, ?_⟩
        clear hK
        refine draw_done (by kernel_rfl) ?_ _
        go_wp2
        refine bodyPost_end (results_none rfl _ _ _) rfl ⟨rfl, ⟨?_, ?_, ?_, hs1, hs2, h12⟩, ?_⟩
        · rw [HA.out]; exact hK1.blk kB3.drew (by simpa using hs2)
        · rw [HA.out]; exact kM13.drew.kept hK1 (by simpa using h12)
        · rw [HA.out]; exact hM
        · exact (kept_drew kK3).trans (hK1.more (by simp))
      | false =>
        have HA := Lib.hid (show St.apply ⟨id, lease, own, fl⟩ ⟨4, gen, lsn, rid, a, l, on, rs, rm⟩ = ⟨id, lease, own, fl⟩ by simp [St.apply, noteFl, hg, hgt])
        have hgt' : distCmp rs rm fs fm ≤ 0 := by simpa [gtB] using hgt
        clear hgt
        go_enter Tryz.func32, Tryz.ntmps32
        go_wp2_with fail
        have kB2 := kB.alloc (.cells #[.int .u32 a, .int .i64 l, .int .u32 rid] 80)
        have kM12 := kM1.alloc (.cells #[.int .u32 a, .int .i64 l, .int .u32 rid] 80)
        have hm := kM2.alloc (.cells #[.int .u32 a, .int .i64 l, .int .u32 rid] 80)
        have kR2 := kR.alloc (.cells #[.int .u32 a, .int .i64 l, .int .u32 rid] 80)
        have kK2 := kept_alloc kK (.cells #[.int .u32 a, .int .i64 l, .int .u32 rid] 80)
        have kY := Blk.new (w.alloc (.cells #[.int .i64 4, .int .u32 gen, .int .u32 lsn, .int .u32 rid, .int .u32 a, .int .i64 l, .bool on, .int .u32 rs, .int .u16 rm] 41)) 80 #[.int .u32 a, .int .i64 l, .int .u32 rid]
        simp only [World.size_alloc] at kY
        generalize hW : (w.alloc (.cells #[.int .i64 4, .int .u32 gen, .int .u32 lsn, .int .u32 rid, .int .u32 a, .int .i64 l, .bool on, .int .u32 rs, .int .u16 rm] 41)).alloc (.cells #[.int .u32 a, .int .i64 l, .int .u32 rid] 80) = W at kB2 kM12 hm kR2 kK2 kY ⊢
        have hsz : W.heap.size = w.heap.size + 1 + 1 := by rw [← hW]; simp
        have hl1 := kB2.lt
        have hl2 := kY.lt
        rw [hsz] at hl1 hl2
        have b0 := kB2.cell 0
        have b1 := kB2.cell 1
        have b2 := kB2.cell 2
        have b3 := kB2.cell 3
        have bf0 := kB2.frozen 0
        have bf1 := kB2.frozen 1
        have bf2 := kB2.frozen 2
        have bf3 := kB2.frozen 3
        simp only [List.getElem?_toArray, List.getElem?_cons_zero, List.getElem?_cons_succ] at b0 b1 b2 b3
        have y0 := kY.cell 0
        have y1 := kY.cell 1
        have y2 := kY.cell 2
        simp only [List.getElem?_toArray, List.getElem?_cons_zero, List.getElem?_cons_succ] at y0 y1 y2
        refine draw_start [] (Below W.heap.size) (by kernel_rfl) ?_
        refine draw_chunk (n := 64) (by kernel_rfl) (fun _ _ _ _ _ h => h) [0, 1, 2, 3, 4, 5, 6, 7, 8] [] _ #[true, true, true, true, true, true, true, true, true, false, false, false] (by kernel_rfl) 3 _ ?_ _ rfl ?_ ?_
        rotate_left
        · intro w' hw'
          have hc' : ∀ b o, b < W.heap.size → w'.cell? ⟨b, o, none⟩ = W.cell? ⟨b, o, none⟩ := fun b o h => hw'.cell (p := ⟨b, o, none⟩) h
          have hl := run_lookup_some key_keys Tryz.underlying67 (hm.same (hw'.block _ hm.lt)) ⟨a, l, rid⟩ (fs, fm) hg true; simp only [Key.val, dstV] at hl
          iterate 9
            refine ci_step (v := ?_) rfl (by kernel_rfl) ?_ ?_
            rotate_left
            · first | (go_simp; done) | (go_simp; with_reducible rfl)
            try simp only [Act.put, List.setIfInBounds_toArray, List.set_cons_zero, List.set_cons_succ]
          refine ci_end ?_
          rfl
        refine draw_eff (i := 9) rfl (by kernel_rfl) (listed' := #[true, true, true, true, true, true, true, true, true, true, false, false]) rfl (fun K hK => ?_)
        replace hK := Lib.hid hK
        go_wp2_with fail
        refine hK.out _ _ ⟨fun _ => below_dd ((Below.refl _ W).alloc (Nat.le_refl _) _), ?_⟩
        clear hK
        refine draw_eff (i := 10) rfl (by kernel_rfl) (listed' := #[true, true, true, true, true, true, true, true, true, true, true, false]) rfl (fun K hK => ?_)
        replace hK := Lib.hid hK
        go_wp2_with fail
        refine hK.out _ _ ⟨fun _ => below_dd (below_two ((Below.refl _ W).alloc (Nat.le_refl _) _) ((Below.refl _ W).alloc (Nat.le_refl _) _) (by simp)), ?_⟩
        clear hK
        refine draw_chunk (n := 64) (by kernel_rfl) (fun _ _ _ _ _ h => h) [11] [] _ #[true, true, true, true, true, true, true, true, true, true, true, true] (by kernel_rfl) 0 _ ?_ _ rfl ?_ ?_
        rotate_left
        · intro w' hw'
          have hc' : ∀ b o, b < W.heap.size → w'.cell? ⟨b, o, none⟩ = ((W.alloc (.cells #[.int .u32 fs, .int .u16 fm] 39)).drew).cell? ⟨b, o, none⟩ := fun b o h => hw'.cell (p := ⟨b, o, none⟩) h
          refine ci_step (i := 11) (v := ?_) rfl (by kernel_rfl) ?_ ?_
          rotate_left
          · first | (go_simp; done) | (go_simp; with_reducible rfl)
          skip
          try simp only [Act.put, List.setIfInBounds_toArray, List.set_cons_zero, List.set_cons_succ]
          refine ci_end ?_
          rfl
        refine draw_done (by kernel_rfl) ?_ _
        have q0 := kR2.cell 0
        have q3 := kR2.cell 3
        have q4 := kR2.cell 4
        have q5 := kR2.cell 5
        have q6 := kR2.cell 6
        have q7 := kR2.cell 7
        have q8 := kR2.cell 8
        simp only [List.getElem?_toArray, List.getElem?_cons_zero, List.getElem?_cons_succ] at q0 q3 q4 q5 q6 q7 q8
        go_wp2_with fail
        refine (dist_Compare _ _ _ _ _).mono ?_
        rintro e w1 ⟨rfl, hb1⟩
        have kB3 := (kB2.alloc (.cells #[.int .u32 fs, .int .u16 fm] 39)).drew.below' hb1
        have kM13 := (kM12.alloc (.cells #[.int .u32 fs, .int .u16 fm] 39)).drew.below hb1
        have hm3 := (hm.alloc (.cells #[.int .u32 fs, .int .u16 fm] 39)).drew.below hb1
        have kR3 := (kR2.alloc (.cells #[.int .u32 fs, .int .u16 fm] 39)).drew.below' hb1
        have kY3 := (kY.alloc (.cells #[.int .u32 fs, .int .u16 fm] 39)).drew.below' hb1
        have kK3 := (kept_drew (kept_alloc kK2 (.cells #[.int .u32 fs, .int .u16 fm] 39))).trans (Kept.of_below hb1)
        clear hb1
        have hl3 := kB3.lt
        have hl4 := kR3.lt
        have hl5 := kY3.lt
        go_wp2
        refine bodyPost_end (results_none rfl _ _ _) rfl ⟨rfl, ⟨?_, ?_, ?_, hs1, hs2, h12⟩, kK3⟩
        · rw [HA.out]; exact kB3
        · rw [HA.out]; exact kM13
        · rw [HA.out]; exact hm3
  · have k2' : (kind == 2) = false := by simpa using k2
    have k3' : (kind == 3) = false := by simpa using k3
    have k4' : (kind == 4) = false := by simpa using k4
    have HA := Lib.hid (show St.apply ⟨id, lease, own, fl⟩ ⟨kind, gen, lsn, rid, a, l, on, rs, rm⟩ = ⟨id, lease, own, fl⟩ by simp [St.apply, k2, k3, k4])
    clear k2 k3 k4
    go_enter Tryz.func32, Tryz.ntmps32
    go_wp2
    refine bodyPost_end (results_none rfl _ _ _) rfl ⟨rfl, ?_, kK⟩
    rw [HA.out]
    exact ⟨kB, kM1, kM2, hs1, hs2, h12⟩
end Go.Proofs.YtnfaeafplaeehaaGreat
end
section
set_option linter.unusedVariables false
set_option linter.unusedSimpArgs false
namespace Go.Proofs.YtnfaeafplaeehaaGreat
open Go.RowKit
/-! What a state made of few right records is. -/
theorem updM_keysA {α β : Type} [DecidableEq α] (m : List (α × β)) (k : α) (v : β) : (updM m k v).map (·.1) = if k ∈ m.map (·.1) then m.map (·.1) else m.map (·.1) ++ [k] := by
  induction m with
  | nil => simp [updM]
  | cons e m ih =>
    unfold updM
    by_cases h : k = e.1
    · rw [if_pos h]
      simp [h]
    · rw [if_neg h, List.map_cons, ih]
      by_cases h2 : k ∈ m.map (·.1)
      · rw [if_pos h2, if_pos (by simp only [List.map_cons, List.mem_cons]; exact .inr h2)]
        rfl
      · rw [if_neg h2, if_neg (by simp only [List.map_cons, List.mem_cons, not_or]; exact ⟨h, h2⟩)]
        rfl
theorem updM_keep {α β : Type} [DecidableEq α] (m : List (α × β)) (k : α) (v : β) (S : α → Prop) (n : Nat) (h1 : (m.map (·.1)).Nodup) (h2 : m.length ≤ n) (h3 : ∀ x ∈ m.map (·.1), S x) (hk : S k) :
    ((updM m k v).map (·.1)).Nodup ∧ (updM m k v).length ≤ n + 1 ∧ ∀ x ∈ (updM m k v).map (·.1), S x := by
  have hl : (updM m k v).length = ((updM m k v).map (·.1)).length := by simp
  rw [hl, updM_keysA]
  split
  · exact ⟨h1, by simp; omega, h3⟩
  · rename_i hn
    refine ⟨?_, by simp; omega, ?_⟩
    · rw [List.nodup_append]
      exact ⟨h1, by simp, fun x hx y hy => by
        simp only [List.mem_singleton] at hy
        subst hy
        exact fun e => hn (e ▸ hx)⟩
    · intro x hx
      rcases List.mem_append.1 hx with hx | hx
      · exact h3 x hx
      · simp only [List.mem_singleton] at hx
        exact hx ▸ hk
/-- What a state made of few right records is. -/
structure Good (σ : St) (n : Nat) : Prop where
  n1 : (σ.own.map (·.1)).Nodup
  n2 : (σ.fl.map (·.1)).Nodup
  l1 : σ.own.length ≤ n
  l2 : σ.fl.length ≤ n
  o1 : ∀ p ∈ σ.own.map (·.1), p.l ≤ 32
  o2 : ∀ k ∈ σ.fl.map (·.1), 0 < k.id
theorem good_apply (σ : St) (r : Rec) (n : Nat) (h : Good σ n) (hr : recRightB r = true) : Good (σ.apply r) (n + 1) := by
  obtain ⟨h1, h2, h3, h4, h5, h6⟩ := h
  unfold recRightB at hr
  simp only [Bool.and_eq_true] at hr
  obtain ⟨⟨⟨hp, -⟩, -⟩, hk⟩ := hr
  unfold St.apply
  split
  · have hl : (⟨r.a, r.l⟩ : Pfx).l ≤ 32 := by
      unfold rightB at hp
      simp at hp
      simp
      omega
    obtain ⟨a, b, c⟩ := updM_keep σ.own ⟨r.a, r.l⟩ r.on (fun p => p.l ≤ 32) n h1 h3 h5 hl
    exact ⟨a, h2, b, by simp; omega, c, h6⟩
  · split
    · exact ⟨h1, h2, by simp; omega, by simp; omega, h5, h6⟩
    · split
      · rename_i k2 k3 k4
        rw [if_neg (by omega), if_neg k2, if_neg k3, if_pos k4] at hk
        simp only [Bool.and_eq_true, decide_eq_true_eq] at hk
        obtain ⟨a, b, c⟩ := updM_keep σ.fl ⟨r.a, r.l, r.id⟩ (r.s, r.m) (fun p => 0 < p.id) n h2 h4 h6 hk.1
        unfold noteFl
        split
        · exact ⟨h1, a, by simp; omega, b, h5, c⟩
        · split
          · exact ⟨h1, a, by simp; omega, b, h5, c⟩
          · exact ⟨h1, h2, by simp; omega, by simp; omega, h5, h6⟩
      · exact ⟨h1, h2, by omega, by omega, h5, h6⟩
end Go.Proofs.YtnfaeafplaeehaaGreat
end
section
set_option linter.unusedVariables false
set_option linter.unusedSimpArgs false
namespace Go.Proofs.YtnfaeafplaeehaaGreat
open Go.RowKit

theorem gtB_better (d f : Dst) : gtB d f = betterB d.1 d.2 f.1 f.2 := by
  unfold gtB
  cases h : betterB d.1 d.2 f.1 f.2 with
  | true => simp [(distCmp_better _ _ _ _ h).1]
  | false =>
    have h1 := distCmp_nonneg f.1 f.2 d.1 d.2
    simp only [betterB, decide_eq_false_iff_not] at h
    have h2 : ¬ distCmp d.1 d.2 f.1 f.2 > 0 := by
      intro hp
      by_cases e : d.1 = f.1 ∧ d.2 = f.2
      · rw [e.1, e.2, (distCmp_same _ _).1] at hp; omega
      · have h3 : betterB f.1 f.2 d.1 d.2 = true := by simp only [betterB, decide_eq_true_eq]; omega
        have := (distCmp_better _ _ _ _ h3).2.1
        omega
    simpa using h2
theorem law06_New (id : Int) (w : World) :
    Calls Tryz.prog 7 #[.int .u32 id] w fun e w' => Below w.heap.size w w' ∧ ∃ s g1 g2, e = .returned (.pointer (some ⟨s, 0, none⟩)) ∧ StAt 69 w' s g1 g2 ⟨id, 0, [], []⟩ ∧ w.heap.size ≤ s ∧ w.heap.size ≤ g1 ∧ w.heap.size ≤ g2 := by
  go_enter Tryz.func7, Tryz.ntmps7
  go_wp2
  go_ret
  refine ⟨(((Below.refl _ _).alloc (Nat.le_refl _) _).alloc (by simp) _).alloc (by simp; omega) _, w.heap.size + 1 + 1, w.heap.size, w.heap.size + 1, rfl, ⟨?_, ((MapAt.new _ _ _).alloc _).alloc _, ?_, ?_, ?_, ?_⟩, ?_, ?_, ?_⟩
  · simpa using Blk.new ((w.alloc (.map #[] 0)).alloc (.map #[] 0)) 69 #[.int .u32 id, .int .u32 0, .map (some w.heap.size), .map (some (w.heap.size + 1))]
  · refine MapAt.alloc ?_ _
    simpa using MapAt.new (w.alloc (.map #[] 0)) Key.val dstV
  all_goals omega
set_option maxHeartbeats 4000000 in
theorem model_Apply (σ : St) (r : Rec) (s g1 g2 : Nat) (w : World) (h : StAt 69 w s g1 g2 σ) :
    Calls Tryz.prog 13 #[.pointer (some ⟨s, 0, none⟩), r.val] w fun e w' => e = .returned (.tuple #[]) ∧ StAt 69 w' s g1 g2 (σ.apply r) ∧ Kept [s, g1, g2] w w' := by
  obtain ⟨hB, hm1, hm2, hs1, hs2, h12⟩ := h
  obtain ⟨id, lease, own, fl⟩ := σ
  obtain ⟨kind, gen, lsn, rid, a, l, on, rs, rm⟩ := r
  dsimp only at hB hm1 hm2
  have kB := hB.alloc (.cells (Rec.arr ⟨kind, gen, lsn, rid, a, l, on, rs, rm⟩) 41)
  have kM1 := hm1.alloc (.cells (Rec.arr ⟨kind, gen, lsn, rid, a, l, on, rs, rm⟩) 41)
  have kM2 := hm2.alloc (.cells (Rec.arr ⟨kind, gen, lsn, rid, a, l, on, rs, rm⟩) 41)
  have kR := Blk.new w 41 (Rec.arr ⟨kind, gen, lsn, rid, a, l, on, rs, rm⟩)
  have kK : Kept [s, g1, g2] w (w.alloc (.cells (Rec.arr ⟨kind, gen, lsn, rid, a, l, on, rs, rm⟩) 41)) := kept_alloc (Kept.refl _ _) _
  simp only [Rec.arr, Rec.val] at kB kM1 kM2 kR kK ⊢
  have hlt := hB.lt
  have hlt1 := hm1.lt
  have hlt2 := hm2.lt
  by_cases k2 : kind = 2
  · subst k2
    obtain ⟨w1, hrun, hM, hK1⟩ := run_mapUpdate pfx_keys Tryz.underlying66 kM1.drew ⟨a, l⟩ on
    simp only [Pfx.val] at hrun
    have kR1 := hK1.blk kR.drew (by simp; omega)
    have hl1 := kR1.lt
    have b0 := hB.cell 0
    have b1 := hB.cell 1
    have b2 := hB.cell 2
    have b3 := hB.cell 3
    have bf0 := hB.frozen 0
    have bf1 := hB.frozen 1
    have bf2 := hB.frozen 2
    have bf3 := hB.frozen 3
    simp only [List.getElem?_toArray, List.getElem?_cons_zero, List.getElem?_cons_succ] at b0 b1 b2 b3
    have r0 := kR1.cell 0
    have r3 := kR1.cell 3
    have r4 := kR1.cell 4
    have r5 := kR1.cell 5
    have r6 := kR1.cell 6
    have r7 := kR1.cell 7
    have r8 := kR1.cell 8
    simp only [List.getElem?_toArray, List.getElem?_cons_zero, List.getElem?_cons_succ] at r0 r3 r4 r5 r6 r7 r8
    go_enter Tryz.func13, Tryz.ntmps13
    go_wp2_with fail
    refine draw_start [8] Later (by kernel_rfl) ?_
    refine draw_chunk (n := 69) (by kernel_rfl) (fun _ _ _ _ _ h => h) [0, 1, 2, 3, 4, 5, 6, 7] [] _ #[true, true, true, true, true, true, true, true, false] (by kernel_rfl) 1 _ ?_ _ rfl ?_ ?_
    rotate_left
    · intro w' hw'
      have hc' : ∀ b o, b < (w.alloc (.cells #[.int .i64 2, .int .u32 gen, .int .u32 lsn, .int .u32 rid, .int .u32 a, .int .i64 l, .bool on, .int .u32 rs, .int .u16 rm] 41)).heap.size → w'.cell? ⟨b, o, none⟩ = (w.alloc (.cells #[.int .i64 2, .int .u32 gen, .int .u32 lsn, .int .u32 rid, .int .u32 a, .int .i64 l, .bool on, .int .u32 rs, .int .u16 rm] 41)).cell? ⟨b, o, none⟩ := (bcell hw').1
      iterate 8
        refine ci_step (v := ?_) rfl (by kernel_rfl) ?_ ?_
        rotate_left
        · first | (go_simp; done) | (go_simp; with_reducible rfl)
        try simp only [Act.put, List.setIfInBounds_toArray, List.set_cons_zero, List.set_cons_succ]
      refine ci_end ?_
      rfl
    refine draw_eff (i := 8) rfl (by kernel_rfl) (listed' := #[true, true, true, true, true, true, true, true, true]) rfl (fun K hK => ?_)
    replace hK := Lib.hid hK
    go_wp2_with fail
    refine hK.out _ _ ⟨fun h => absurd (by decide) h, ?_⟩
    clear hK
    refine draw_done (by kernel_rfl) ?_ _
    go_wp2_with fail
    refine draw_start [] Later (by kernel_rfl) ?_
    refine draw_chunk (n := 69) (by kernel_rfl) (fun _ _ _ _ _ h => h) [0, 1, 2, 3, 4, 5, 6, 7, 8, 9, 10, 11, 12] [] _ #[true, true, true, true, true, true, true, true, true, true, true, true, true] (by kernel_rfl) 0 _ ?_ _ rfl ?_ ?_
    rotate_left
    · intro w' hw'
      have hc' : ∀ b o, b < w1.heap.size → w'.cell? ⟨b, o, none⟩ = w1.cell? ⟨b, o, none⟩ := (bcell hw').1
      iterate 4
        refine ci_step (v := ?_) rfl (by kernel_rfl) ?_ ?_
        rotate_left
        · first | (go_simp; done) | (go_simp; with_reducible rfl)
        try simp only [Act.put, List.setIfInBounds_toArray, List.set_cons_zero, List.set_cons_succ]
      refine ci_off (i := 4) rfl (by kernel_rfl) ?_
      try simp only [Act.put, List.setIfInBounds_toArray, List.set_cons_zero, List.set_cons_succ]
      refine ci_off (i := 5) rfl (by kernel_rfl) ?_
      try simp only [Act.put, List.setIfInBounds_toArray, List.set_cons_zero, List.set_cons_succ]
      refine ci_off (i := 6) rfl (by kernel_rfl) ?_
      try simp only [Act.put, List.setIfInBounds_toArray, List.set_cons_zero, List.set_cons_succ]
      refine ci_off (i := 7) rfl (by kernel_rfl) ?_
      try simp only [Act.put, List.setIfInBounds_toArray, List.set_cons_zero, List.set_cons_succ]
      refine ci_off (i := 8) rfl (by kernel_rfl) ?_
      try simp only [Act.put, List.setIfInBounds_toArray, List.set_cons_zero, List.set_cons_succ]
      refine ci_off (i := 9) rfl (by kernel_rfl) ?_
      try simp only [Act.put, List.setIfInBounds_toArray, List.set_cons_zero, List.set_cons_succ]
      refine ci_off (i := 10) rfl (by kernel_rfl) ?_
      try simp only [Act.put, List.setIfInBounds_toArray, List.set_cons_zero, List.set_cons_succ]
      refine ci_off (i := 11) rfl (by kernel_rfl) ?_
      try simp only [Act.put, List.setIfInBounds_toArray, List.set_cons_zero, List.set_cons_succ]
      refine ci_step (i := 12) (v := ?_) rfl (by kernel_rfl) ?_ ?_
      rotate_left
      · first | (go_simp; done) | (go_simp; with_reducible rfl)
      skip
      try simp only [Act.put, List.setIfInBounds_toArray, List.set_cons_zero, List.set_cons_succ]
      refine ci_end ?_
      rfl
    refine draw_done (by kernel_rfl) ?_ _
    go_wp2
    refine bodyPost_end (results_none rfl _ _ _) rfl ⟨rfl, ⟨?_, ?_, ?_, hs1, hs2, h12⟩, ?_⟩
    · simpa [St.apply] using (hK1.blk kB.drew (by simpa using hs1)).drew
    · simpa [St.apply] using hM.drew
    · simpa [St.apply] using (kM2.drew.kept hK1 (by simpa using h12.symm)).drew
    · exact kept_drew ((kept_drew kK).trans (hK1.more (by simp)))
  by_cases k3 : kind = 3
  · subst k3
    have b0 := kB.cell 0
    have b1 := kB.cell 1
    have b2 := kB.cell 2
    have b3 := kB.cell 3
    have bf0 := kB.frozen 0
    have bf1 := kB.frozen 1
    have bf2 := kB.frozen 2
    have bf3 := kB.frozen 3
    simp only [List.getElem?_toArray, List.getElem?_cons_zero, List.getElem?_cons_succ] at b0 b1 b2 b3
    have r0 := kR.cell 0
    have r3 := kR.cell 3
    have r4 := kR.cell 4
    have r5 := kR.cell 5
    have r6 := kR.cell 6
    have r7 := kR.cell 7
    have r8 := kR.cell 8
    simp only [List.getElem?_toArray, List.getElem?_cons_zero, List.getElem?_cons_succ] at r0 r3 r4 r5 r6 r7 r8
    by_cases h : lease < rs
    · have HA := Lib.hid (show St.apply ⟨id, lease, own, fl⟩ ⟨3, gen, lsn, rid, a, l, on, rs, rm⟩ = ⟨id, rs, own, fl⟩ by simp only [St.apply]; rw [if_neg (by decide), if_pos trivial, if_pos h])
      go_enter Tryz.func13, Tryz.ntmps13
      go_wp2_with fail
      refine draw_start [] Later (by kernel_rfl) ?_
      refine draw_chunk (n := 69) (by kernel_rfl) (fun _ _ _ _ _ h => h) [0, 1, 2, 3, 4, 5, 6, 7, 8, 9, 10, 11, 12] [] _ #[true, true, true, true, true, true, true, true, true, true, true, true, true] (by kernel_rfl) 0 _ ?_ _ rfl ?_ ?_
      rotate_left
      · intro w' hw'
        have hc' : ∀ b o, b < (w.alloc (.cells #[.int .i64 3, .int .u32 gen, .int .u32 lsn, .int .u32 rid, .int .u32 a, .int .i64 l, .bool on, .int .u32 rs, .int .u16 rm] 41)).heap.size → w'.cell? ⟨b, o, none⟩ = (w.alloc (.cells #[.int .i64 3, .int .u32 gen, .int .u32 lsn, .int .u32 rid, .int .u32 a, .int .i64 l, .bool on, .int .u32 rs, .int .u16 rm] 41)).cell? ⟨b, o, none⟩ := (bcell hw').1
        iterate 13
          refine ci_step (v := ?_) rfl (by kernel_rfl) ?_ ?_
          rotate_left
          · first | (go_simp; done) | (go_simp; with_reducible rfl)
          try simp only [Act.put, List.setIfInBounds_toArray, List.set_cons_zero, List.set_cons_succ]
        refine ci_end ?_
        rfl
      refine draw_done (by kernel_rfl) ?_ _
      go_wp2
      have kF := hB.set 1 (.int .u32 rs)
      simp only [List.setIfInBounds_toArray, List.set_cons_zero, List.set_cons_succ] at kF
      refine bodyPost_end (results_none rfl _ _ _) rfl ⟨rfl, ⟨?_, ?_, ?_, hs1, hs2, h12⟩, ?_⟩
      · rw [HA.out]; exact kF.alloc _
      · rw [HA.out]; exact (hm1.setCell _ _).alloc _
      · rw [HA.out]; exact (hm2.setCell _ _).alloc _
      · exact kept_drew (kept_alloc (kept_set (Kept.refl _ _) _ _ (.inl (by simp))) _)
    · have HA := Lib.hid (show St.apply ⟨id, lease, own, fl⟩ ⟨3, gen, lsn, rid, a, l, on, rs, rm⟩ = ⟨id, lease, own, fl⟩ by simp only [St.apply]; rw [if_neg (by decide), if_pos trivial, if_neg h])
      have h' : decide (rs > lease) = false := by simpa using h
      go_enter Tryz.func13, Tryz.ntmps13
      go_wp2_with fail
      refine draw_start [] Later (by kernel_rfl) ?_
      refine draw_chunk (n := 69) (by kernel_rfl) (fun _ _ _ _ _ h => h) [0, 1, 2, 3, 4, 5, 6, 7, 8, 9, 10, 11, 12] [] _ #[true, true, true, true, true, true, true, true, true, true, true, true, true] (by kernel_rfl) 0 _ ?_ _ rfl ?_ ?_
      rotate_left
      · intro w' hw'
        have hc' : ∀ b o, b < (w.alloc (.cells #[.int .i64 3, .int .u32 gen, .int .u32 lsn, .int .u32 rid, .int .u32 a, .int .i64 l, .bool on, .int .u32 rs, .int .u16 rm] 41)).heap.size → w'.cell? ⟨b, o, none⟩ = (w.alloc (.cells #[.int .i64 3, .int .u32 gen, .int .u32 lsn, .int .u32 rid, .int .u32 a, .int .i64 l, .bool on, .int .u32 rs, .int .u16 rm] 41)).cell? ⟨b, o, none⟩ := (bcell hw').1
        iterate 13
          refine ci_step (v := ?_) rfl (by kernel_rfl) ?_ ?_
          rotate_left
          · first | (go_simp; done) | (go_simp; with_reducible rfl)
          try simp only [Act.put, List.setIfInBounds_toArray, List.set_cons_zero, List.set_cons_succ]
        refine ci_end ?_
        rfl
      refine draw_done (by kernel_rfl) ?_ _
      go_wp2
      refine bodyPost_end (results_none rfl _ _ _) rfl ⟨rfl, ?_, kept_drew kK⟩
      rw [HA.out]
      exact ⟨kB.drew, kM1.drew, kM2.drew, hs1, hs2, h12⟩
  by_cases k4 : kind = 4
  · subst k4
    have b0 := hB.cell 0
    have b1 := hB.cell 1
    have b2 := hB.cell 2
    have b3 := hB.cell 3
    have bf0 := hB.frozen 0
    have bf1 := hB.frozen 1
    have bf2 := hB.frozen 2
    have bf3 := hB.frozen 3
    simp only [List.getElem?_toArray, List.getElem?_cons_zero, List.getElem?_cons_succ] at b0 b1 b2 b3
    have r0 := kR.cell 0
    have r3 := kR.cell 3
    have r4 := kR.cell 4
    have r5 := kR.cell 5
    have r6 := kR.cell 6
    have r7 := kR.cell 7
    have r8 := kR.cell 8
    simp only [List.getElem?_toArray, List.getElem?_cons_zero, List.getElem?_cons_succ] at r0 r3 r4 r5 r6 r7 r8
    cases hg : getM fl (⟨a, l, rid⟩ : Key) with
    | none =>
      have HA := Lib.hid (show St.apply ⟨id, lease, own, fl⟩ ⟨4, gen, lsn, rid, a, l, on, rs, rm⟩ = ⟨id, lease, own, updM fl ⟨a, l, rid⟩ (rs, rm)⟩ by simp [St.apply, noteFl, hg])
      go_enter Tryz.func13, Tryz.ntmps13
      go_wp2_with fail
      refine draw_start [] Later (by kernel_rfl) ?_
      refine draw_chunk (n := 69) (by kernel_rfl) (fun _ _ _ _ _ h => h) [0, 1, 2, 3, 4, 5, 6, 7, 8, 9, 10, 11, 12] [] _ #[true, true, true, true, true, true, true, true, true, true, true, true, true] (by kernel_rfl) 0 _ ?_ _ rfl ?_ ?_
      rotate_left
      · intro w' hw'
        have hc' : ∀ b o, b < (w.alloc (.cells #[.int .i64 4, .int .u32 gen, .int .u32 lsn, .int .u32 rid, .int .u32 a, .int .i64 l, .bool on, .int .u32 rs, .int .u16 rm] 41)).heap.size → w'.cell? ⟨b, o, none⟩ = (w.alloc (.cells #[.int .i64 4, .int .u32 gen, .int .u32 lsn, .int .u32 rid, .int .u32 a, .int .i64 l, .bool on, .int .u32 rs, .int .u16 rm] 41)).cell? ⟨b, o, none⟩ := (bcell hw').1
        iterate 4
          refine ci_step (v := ?_) rfl (by kernel_rfl) ?_ ?_
          rotate_left
          · first | (go_simp; done) | (go_simp; with_reducible rfl)
          try simp only [Act.put, List.setIfInBounds_toArray, List.set_cons_zero, List.set_cons_succ]
        refine ci_off (i := 4) rfl (by kernel_rfl) ?_
        try simp only [Act.put, List.setIfInBounds_toArray, List.set_cons_zero, List.set_cons_succ]
        refine ci_off (i := 5) rfl (by kernel_rfl) ?_
        try simp only [Act.put, List.setIfInBounds_toArray, List.set_cons_zero, List.set_cons_succ]
        refine ci_off (i := 6) rfl (by kernel_rfl) ?_
        try simp only [Act.put, List.setIfInBounds_toArray, List.set_cons_zero, List.set_cons_succ]
        refine ci_off (i := 7) rfl (by kernel_rfl) ?_
        try simp only [Act.put, List.setIfInBounds_toArray, List.set_cons_zero, List.set_cons_succ]
        refine ci_off (i := 8) rfl (by kernel_rfl) ?_
        try simp only [Act.put, List.setIfInBounds_toArray, List.set_cons_zero, List.set_cons_succ]
        refine ci_off (i := 9) rfl (by kernel_rfl) ?_
        try simp only [Act.put, List.setIfInBounds_toArray, List.set_cons_zero, List.set_cons_succ]
        refine ci_off (i := 10) rfl (by kernel_rfl) ?_
        try simp only [Act.put, List.setIfInBounds_toArray, List.set_cons_zero, List.set_cons_succ]
        refine ci_off (i := 11) rfl (by kernel_rfl) ?_
        try simp only [Act.put, List.setIfInBounds_toArray, List.set_cons_zero, List.set_cons_succ]
        refine ci_step (i := 12) (v := ?_) rfl (by kernel_rfl) ?_ ?_
        rotate_left
        · first | (go_simp; done) | (go_simp; with_reducible rfl)
        skip
        try simp only [Act.put, List.setIfInBounds_toArray, List.set_cons_zero, List.set_cons_succ]
        refine ci_end ?_
        rfl
      refine draw_done (by kernel_rfl) ?_ _
      go_wp2_with fail
      have kB2 := (kB.alloc (.cells #[.int .u32 a, .int .i64 l, .int .u32 rid] 80)).drew
      have kM12 := (kM1.alloc (.cells #[.int .u32 a, .int .i64 l, .int .u32 rid] 80)).drew
      have hm := (kM2.alloc (.cells #[.int .u32 a, .int .i64 l, .int .u32 rid] 80)).drew
      have kR2 := (kR.alloc (.cells #[.int .u32 a, .int .i64 l, .int .u32 rid] 80)).drew
      have kK2 := kept_drew (kept_alloc kK (.cells #[.int .u32 a, .int .i64 l, .int .u32 rid] 80))
      have kY := (Blk.new (w.alloc (.cells #[.int .i64 4, .int .u32 gen, .int .u32 lsn, .int .u32 rid, .int .u32 a, .int .i64 l, .bool on, .int .u32 rs, .int .u16 rm] 41)) 80 #[.int .u32 a, .int .i64 l, .int .u32 rid]).drew
      simp only [World.size_alloc] at kY
      generalize hW : ((w.alloc (.cells #[.int .i64 4, .int .u32 gen, .int .u32 lsn, .int .u32 rid, .int .u32 a, .int .i64 l, .bool on, .int .u32 rs, .int .u16 rm] 41)).alloc (.cells #[.int .u32 a, .int .i64 l, .int .u32 rid] 80)).drew = W at kB2 kM12 hm kR2 kK2 kY ⊢
      have hsz : W.heap.size = w.heap.size + 1 + 1 := by rw [← hW]; simp
      have hl1 := kB2.lt
      have hl2 := kY.lt
      rw [hsz] at hl1 hl2
      have b0 := kB2.cell 0
      have b1 := kB2.cell 1
      have b2 := kB2.cell 2
      have b3 := kB2.cell 3
      have bf0 := kB2.frozen 0
      have bf1 := kB2.frozen 1
      have bf2 := kB2.frozen 2
      have bf3 := kB2.frozen 3
      simp only [List.getElem?_toArray, List.getElem?_cons_zero, List.getElem?_cons_succ] at b0 b1 b2 b3
      have y0 := kY.cell 0
      have y1 := kY.cell 1
      have y2 := kY.cell 2
      simp only [List.getElem?_toArray, List.getElem?_cons_zero, List.getElem?_cons_succ] at y0 y1 y2
      refine draw_start [] (Below W.heap.size) (by kernel_rfl) ?_
      refine draw_chunk (n := 69) (by kernel_rfl) (fun _ _ _ _ _ h => h) [0, 1, 2, 3, 4, 5, 6, 7, 8] [] _ #[true, true, true, true, true, true, true, true, true, false, false, false] (by kernel_rfl) 3 _ ?_ _ rfl ?_ ?_
      rotate_left
      · intro w' hw'
        have hc' : ∀ b o, b < W.heap.size → w'.cell? ⟨b, o, none⟩ = W.cell? ⟨b, o, none⟩ := fun b o h => hw'.cell (p := ⟨b, o, none⟩) h
        have hl := run_lookup_none key_keys Tryz.underlying67 (hm.same (hw'.block _ hm.lt)) ⟨a, l, rid⟩ hg true _ dist_zero; simp only [Key.val, dstV] at hl
        iterate 9
          refine ci_step (v := ?_) rfl (by kernel_rfl) ?_ ?_
          rotate_left
          · first | (go_simp; done) | (go_simp; with_reducible rfl)
          try simp only [Act.put, List.setIfInBounds_toArray, List.set_cons_zero, List.set_cons_succ]
        refine ci_end ?_
        rfl
      refine draw_eff (i := 9) rfl (by kernel_rfl) (listed' := #[true, true, true, true, true, true, true, true, true, true, false, false]) rfl (fun K hK => ?_)
      replace hK := Lib.hid hK
      go_wp2_with fail
      refine hK.out _ _ ⟨fun _ => below_dd ((Below.refl _ W).alloc (Nat.le_refl _) _), ?_⟩
      clear hK
      refine draw_eff (i := 10) rfl (by kernel_rfl) (listed' := #[true, true, true, true, true, true, true, true, true, true, true, false]) rfl (fun K hK => ?_)
      replace hK := Lib.hid hK
      go_wp2_with fail
      refine hK.out _ _ ⟨fun _ => below_dd (below_two ((Below.refl _ W).alloc (Nat.le_refl _) _) ((Below.refl _ W).alloc (Nat.le_refl _) _) (by simp)), ?_⟩
      clear hK
      refine draw_chunk (n := 69) (by kernel_rfl) (fun _ _ _ _ _ h => h) [11] [] _ #[true, true, true, true, true, true, true, true, true, true, true, true] (by kernel_rfl) 0 _ ?_ _ rfl ?_ ?_
      rotate_left
      · intro w' hw'
        have hc' : ∀ b o, b < W.heap.size → w'.cell? ⟨b, o, none⟩ = ((W.alloc (.cells #[.int .u32 (0 : Int), .int .u16 (0 : Int)] 39)).drew).cell? ⟨b, o, none⟩ := fun b o h => hw'.cell (p := ⟨b, o, none⟩) h
        refine ci_step (i := 11) (v := ?_) rfl (by kernel_rfl) ?_ ?_
        rotate_left
        · first | (go_simp; done) | (go_simp; with_reducible rfl)
        skip
        try simp only [Act.put, List.setIfInBounds_toArray, List.set_cons_zero, List.set_cons_succ]
        refine ci_end ?_
        rfl
      refine draw_done (by kernel_rfl) ?_ _
      have q0 := kR2.cell 0
      have q3 := kR2.cell 3
      have q4 := kR2.cell 4
      have q5 := kR2.cell 5
      have q6 := kR2.cell 6
      have q7 := kR2.cell 7
      have q8 := kR2.cell 8
      simp only [List.getElem?_toArray, List.getElem?_cons_zero, List.getElem?_cons_succ] at q0 q3 q4 q5 q6 q7 q8
      go_wp2_with fail
      obtain ⟨w1, hrun, hM, hK1⟩ := run_mapUpdate key_keys Tryz.underlying67 (hm.alloc (.cells #[.int .u32 0, .int .u16 0] 39)).drew.drew ⟨a, l, rid⟩ (rs, rm)
      simp only [Key.val, dstV] at hrun
      refine draw_start [7] Later (by kernel_rfl) ?_
      refine draw_chunk (n := 69) (by kernel_rfl) (fun _ _ _ _ _ h => h) [0, 1, 2, 3, 4, 5, 6] [] _ #[true, true, true, true, true, true, true, false] (by kernel_rfl) 1 _ ?_ _ rfl ?_ ?_
      rotate_left
      · intro w' hw'
        have hc' : ∀ b o, b < ((W.alloc (.cells #[.int .u32 0, .int .u16 0] 39)).drew).heap.size → w'.cell? ⟨b, o, none⟩ = ((W.alloc (.cells #[.int .u32 0, .int .u16 0] 39)).drew).cell? ⟨b, o, none⟩ := (bcell hw').1
        iterate 7
          refine ci_step (v := ?_) rfl (by kernel_rfl) ?_ ?_
          rotate_left
          · first | (go_simp; done) | (go_simp; with_reducible rfl)
          try simp only [Act.put, List.setIfInBounds_toArray, List.set_cons_zero, List.set_cons_succ]
        refine ci_end ?_
        rfl
      refine draw_eff (i := 7) rfl (by kernel_rfl) (listed' := #[true, true, true, true, true, true, true, true]) rfl (fun K hK => ?_)
      replace hK := Lib.hid hK
      go_wp2_with fail
      refine hK.out _ _ ⟨fun h => absurd (by decide) h, ?_⟩
      clear hK
      refine draw_done (by kernel_rfl) ?_ _
      go_wp2
      refine bodyPost_end (results_none rfl _ _ _) rfl ⟨rfl, ⟨?_, ?_, ?_, hs1, hs2, h12⟩, ?_⟩
      · rw [HA.out]; exact hK1.blk (kB2.alloc (.cells #[.int .u32 0, .int .u16 0] 39)).drew.drew (by simpa using hs2)
      · rw [HA.out]; exact ((kM12.alloc (.cells #[.int .u32 0, .int .u16 0] 39)).drew.drew).kept hK1 (by simpa using h12)
      · rw [HA.out]; exact hM
      · exact (kept_drew (kept_drew (kept_alloc kK2 _))).trans (hK1.more (by simp))
    | some f =>
      obtain ⟨fs, fm⟩ := f
      cases hgt : gtB (rs, rm) (fs, fm) with
      | true =>
        have HA := Lib.hid (show St.apply ⟨id, lease, own, fl⟩ ⟨4, gen, lsn, rid, a, l, on, rs, rm⟩ = ⟨id, lease, own, updM fl ⟨a, l, rid⟩ (rs, rm)⟩ by simp [St.apply, noteFl, hg, hgt])
        have hgt' : betterB rs rm fs fm = true := by rw [← hgt, gtB_better]
        clear hgt
        go_enter Tryz.func13, Tryz.ntmps13
        go_wp2_with fail
        refine draw_start [] Later (by kernel_rfl) ?_
        refine draw_chunk (n := 69) (by kernel_rfl) (fun _ _ _ _ _ h => h) [0, 1, 2, 3, 4, 5, 6, 7, 8, 9, 10, 11, 12] [] _ #[true, true, true, true, true, true, true, true, true, true, true, true, true] (by kernel_rfl) 0 _ ?_ _ rfl ?_ ?_
        rotate_left
        · intro w' hw'
          have hc' : ∀ b o, b < (w.alloc (.cells #[.int .i64 4, .int .u32 gen, .int .u32 lsn, .int .u32 rid, .int .u32 a, .int .i64 l, .bool on, .int .u32 rs, .int .u16 rm] 41)).heap.size → w'.cell? ⟨b, o, none⟩ = (w.alloc (.cells #[.int .i64 4, .int .u32 gen, .int .u32 lsn, .int .u32 rid, .int .u32 a, .int .i64 l, .bool on, .int .u32 rs, .int .u16 rm] 41)).cell? ⟨b, o, none⟩ := (bcell hw').1
          iterate 4
            refine ci_step (v := ?_) rfl (by kernel_rfl) ?_ ?_
            rotate_left
            · first | (go_simp; done) | (go_simp; with_reducible rfl)
            try simp only [Act.put, List.setIfInBounds_toArray, List.set_cons_zero, List.set_cons_succ]
          refine ci_off (i := 4) rfl (by kernel_rfl) ?_
          try simp only [Act.put, List.setIfInBounds_toArray, List.set_cons_zero, List.set_cons_succ]
          refine ci_off (i := 5) rfl (by kernel_rfl) ?_
          try simp only [Act.put, List.setIfInBounds_toArray, List.set_cons_zero, List.set_cons_succ]
          refine ci_off (i := 6) rfl (by kernel_rfl) ?_
          try simp only [Act.put, List.setIfInBounds_toArray, List.set_cons_zero, List.set_cons_succ]
          refine ci_off (i := 7) rfl (by kernel_rfl) ?_
          try simp only [Act.put, List.setIfInBounds_toArray, List.set_cons_zero, List.set_cons_succ]
          refine ci_off (i := 8) rfl (by kernel_rfl) ?_
          try simp only [Act.put, List.setIfInBounds_toArray, List.set_cons_zero, List.set_cons_succ]
          refine ci_off (i := 9) rfl (by kernel_rfl) ?_
          try simp only [Act.put, List.setIfInBounds_toArray, List.set_cons_zero, List.set_cons_succ]
          refine ci_off (i := 10) rfl (by kernel_rfl) ?_
          try simp only [Act.put, List.setIfInBounds_toArray, List.set_cons_zero, List.set_cons_succ]
          refine ci_off (i := 11) rfl (by kernel_rfl) ?_
          try simp only [Act.put, List.setIfInBounds_toArray, List.set_cons_zero, List.set_cons_succ]
          refine ci_step (i := 12) (v := ?_) rfl (by kernel_rfl) ?_ ?_
          rotate_left
          · first | (go_simp; done) | (go_simp; with_reducible rfl)
          skip
          try simp only [Act.put, List.setIfInBounds_toArray, List.set_cons_zero, List.set_cons_succ]
          refine ci_end ?_
          rfl
        refine draw_done (by kernel_rfl) ?_ _
        go_wp2_with fail
        have kB2 := (kB.alloc (.cells #[.int .u32 a, .int .i64 l, .int .u32 rid] 80)).drew
        have kM12 := (kM1.alloc (.cells #[.int .u32 a, .int .i64 l, .int .u32 rid] 80)).drew
        have hm := (kM2.alloc (.cells #[.int .u32 a, .int .i64 l, .int .u32 rid] 80)).drew
        have kR2 := (kR.alloc (.cells #[.int .u32 a, .int .i64 l, .int .u32 rid] 80)).drew
        have kK2 := kept_drew (kept_alloc kK (.cells #[.int .u32 a, .int .i64 l, .int .u32 rid] 80))
        have kY := (Blk.new (w.alloc (.cells #[.int .i64 4, .int .u32 gen, .int .u32 lsn, .int .u32 rid, .int .u32 a, .int .i64 l, .bool on, .int .u32 rs, .int .u16 rm] 41)) 80 #[.int .u32 a, .int .i64 l, .int .u32 rid]).drew
        simp only [World.size_alloc] at kY
        generalize hW : ((w.alloc (.cells #[.int .i64 4, .int .u32 gen, .int .u32 lsn, .int .u32 rid, .int .u32 a, .int .i64 l, .bool on, .int .u32 rs, .int .u16 rm] 41)).alloc (.cells #[.int .u32 a, .int .i64 l, .int .u32 rid] 80)).drew = W at kB2 kM12 hm kR2 kK2 kY ⊢
        have hsz : W.heap.size = w.heap.size + 1 + 1 := by rw [← hW]; simp
        have hl1 := kB2.lt
        have hl2 := kY.lt
        rw [hsz] at hl1 hl2
        have b0 := kB2.cell 0
        have b1 := kB2.cell 1
        have b2 := kB2.cell 2
        have b3 := kB2.cell 3
        have bf0 := kB2.frozen 0
        have bf1 := kB2.frozen 1
        have bf2 := kB2.frozen 2
        have bf3 := kB2.frozen 3
        simp only [List.getElem?_toArray, List.getElem?_cons_zero, List.getElem?_cons_succ] at b0 b1 b2 b3
        have y0 := kY.cell 0
        have y1 := kY.cell 1
        have y2 := kY.cell 2
        simp only [List.getElem?_toArray, List.getElem?_cons_zero, List.getElem?_cons_succ] at y0 y1 y2
        refine draw_start [] (Below W.heap.size) (by kernel_rfl) ?_
        refine draw_chunk (n := 69) (by kernel_rfl) (fun _ _ _ _ _ h => h) [0, 1, 2, 3, 4, 5, 6, 7, 8] [] _ #[true, true, true, true, true, true, true, true, true, false, false, false] (by kernel_rfl) 3 _ ?_ _ rfl ?_ ?_
        rotate_left
        · intro w' hw'
          have hc' : ∀ b o, b < W.heap.size → w'.cell? ⟨b, o, none⟩ = W.cell? ⟨b, o, none⟩ := fun b o h => hw'.cell (p := ⟨b, o, none⟩) h
          have hl := run_lookup_some key_keys Tryz.underlying67 (hm.same (hw'.block _ hm.lt)) ⟨a, l, rid⟩ (fs, fm) hg true; simp only [Key.val, dstV] at hl
          iterate 9
            refine ci_step (v := ?_) rfl (by kernel_rfl) ?_ ?_
            rotate_left
            · first | (go_simp; done) | (go_simp; with_reducible rfl)
            try simp only [Act.put, List.setIfInBounds_toArray, List.set_cons_zero, List.set_cons_succ]
          refine ci_end ?_
          rfl
        refine draw_eff (i := 9) rfl (by kernel_rfl) (listed' := #[true, true, true, true, true, true, true, true, true, true, false, false]) rfl (fun K hK => ?_)
        replace hK := Lib.hid hK
        go_wp2_with fail
        refine hK.out _ _ ⟨fun _ => below_dd ((Below.refl _ W).alloc (Nat.le_refl _) _), ?_⟩
        clear hK
        refine draw_eff (i := 10) rfl (by kernel_rfl) (listed' := #[true, true, true, true, true, true, true, true, true, true, true, false]) rfl (fun K hK => ?_)
        replace hK := Lib.hid hK
        go_wp2_with fail
        refine hK.out _ _ ⟨fun _ => below_dd (below_two ((Below.refl _ W).alloc (Nat.le_refl _) _) ((Below.refl _ W).alloc (Nat.le_refl _) _) (by simp)), ?_⟩
        clear hK
        refine draw_chunk (n := 69) (by kernel_rfl) (fun _ _ _ _ _ h => h) [11] [] _ #[true, true, true, true, true, true, true, true, true, true, true, true] (by kernel_rfl) 0 _ ?_ _ rfl ?_ ?_
        rotate_left
        · intro w' hw'
          have hc' : ∀ b o, b < W.heap.size → w'.cell? ⟨b, o, none⟩ = ((W.alloc (.cells #[.int .u32 fs, .int .u16 fm] 39)).drew).cell? ⟨b, o, none⟩ := fun b o h => hw'.cell (p := ⟨b, o, none⟩) h
          refine ci_step (i := 11) (v := ?_) rfl (by kernel_rfl) ?_ ?_
          rotate_left
          · first | (go_simp; done) | (go_simp; with_reducible rfl)
          skip
          try simp only [Act.put, List.setIfInBounds_toArray, List.set_cons_zero, List.set_cons_succ]
          refine ci_end ?_
          rfl
        refine draw_done (by kernel_rfl) ?_ _
        have q0 := kR2.cell 0
        have q3 := kR2.cell 3
        have q4 := kR2.cell 4
        have q5 := kR2.cell 5
        have q6 := kR2.cell 6
        have q7 := kR2.cell 7
        have q8 := kR2.cell 8
        simp only [List.getElem?_toArray, List.getElem?_cons_zero, List.getElem?_cons_succ] at q0 q3 q4 q5 q6 q7 q8
        go_wp2_with fail
        refine (law03_Better _ _ _ _ _).mono ?_
        rintro e w1 ⟨rfl, hb1⟩
        rw [hgt']
        have kB3 := (kB2.alloc (.cells #[.int .u32 fs, .int .u16 fm] 39)).drew.below' hb1
        have kM13 := (kM12.alloc (.cells #[.int .u32 fs, .int .u16 fm] 39)).drew.below hb1
        have hm3 := (hm.alloc (.cells #[.int .u32 fs, .int .u16 fm] 39)).drew.below hb1
        have kR3 := (kR2.alloc (.cells #[.int .u32 fs, .int .u16 fm] 39)).drew.below' hb1
        have kY3 := (kY.alloc (.cells #[.int .u32 fs, .int .u16 fm] 39)).drew.below' hb1
        have kK3 := (kept_drew (kept_alloc kK2 (.cells #[.int .u32 fs, .int .u16 fm] 39))).trans (Kept.of_below hb1)
        clear hb1
        have hl3 := kB3.lt
        have hl4 := kR3.lt
        have hl5 := kY3.lt
        obtain ⟨w2, hrun, hM, hK1⟩ := run_mapUpdate key_keys Tryz.underlying67 hm3.drew ⟨a, l, rid⟩ (rs, rm)
        simp only [Key.val, dstV] at hrun
        have c0 := kB3.cell 0
        have c1 := kB3.cell 1
        have c2 := kB3.cell 2
        have c3 := kB3.cell 3
        have cf0 := kB3.frozen 0
        have cf1 := kB3.frozen 1
        have cf2 := kB3.frozen 2
        have cf3 := kB3.frozen 3
        simp only [List.getElem?_toArray, List.getElem?_cons_zero, List.getElem?_cons_succ] at c0 c1 c2 c3
        have y0 := kY3.cell 0
        have y1 := kY3.cell 1
        have y2 := kY3.cell 2
        simp only [List.getElem?_toArray, List.getElem?_cons_zero, List.getElem?_cons_succ] at y0 y1 y2
        have p0 := kR3.cell 0
        have p3 := kR3.cell 3
        have p4 := kR3.cell 4
        have p5 := kR3.cell 5
        have p6 := kR3.cell 6
        have p7 := kR3.cell 7
        have p8 := kR3.cell 8
        simp only [List.getElem?_toArray, List.getElem?_cons_zero, List.getElem?_cons_succ] at p0 p3 p4 p5 p6 p7 p8
        go_wp2_with fail
        refine draw_start [7] Later (by kernel_rfl) ?_
        refine draw_chunk (n := 69) (by kernel_rfl) (fun _ _ _ _ _ h => h) [0, 1, 2, 3, 4, 5, 6] [] _ #[true, true, true, true, true, true, true, false] (by kernel_rfl) 1 _ ?_ _ rfl ?_ ?_
        rotate_left
        · intro w' hw'
          have hc' : ∀ b o, b < w1.heap.size → w'.cell? ⟨b, o, none⟩ = w1.cell? ⟨b, o, none⟩ := (bcell hw').1
          iterate 7
            refine ci_step (v := ?_) rfl (by kernel_rfl) ?_ ?_
            rotate_left
            · first | (go_simp; done) | (go_simp; with_reducible rfl)
            try simp only [Act.put, List.setIfInBounds_toArray, List.set_cons_zero, List.set_cons_succ]
          refine ci_end ?_
          rfl
        refine draw_eff (i := 7) rfl (by kernel_rfl) (listed' := #[true, true, true, true, true, true, true, true]) rfl (fun K hK => ?_)
        replace hK := Lib.hid hK
        go_wp2_with fail
        refine hK.out _ _ ⟨fun h => absurd (by decide) h, ?_⟩
        clear hK
        refine draw_done (by kernel_rfl) ?_ _
        go_wp2
        refine bodyPost_end (results_none rfl _ _ _) rfl ⟨rfl, ⟨?_, ?_, ?_, hs1, hs2, h12⟩, ?_⟩
        · rw [HA.out]; exact hK1.blk kB3.drew (by simpa using hs2)
        · rw [HA.out]; exact kM13.drew.kept hK1 (by simpa using h12)
        · rw [HA.out]; exact hM
        · exact (kept_drew kK3).trans (hK1.more (by simp))
      | false =>
        have HA := Lib.hid (show St.apply ⟨id, lease, own, fl⟩ ⟨4, gen, lsn, rid, a, l, on, rs, rm⟩ = ⟨id, lease, own, fl⟩ by simp [St.apply, noteFl, hg, hgt])
        have hgt' : betterB rs rm fs fm = false := by rw [← hgt, gtB_better]
        clear hgt
        go_enter Tryz.func13, Tryz.ntmps13
        go_wp2_with fail
        refine draw_start [] Later (by kernel_rfl) ?_
        refine draw_chunk (n := 69) (by kernel_rfl) (fun _ _ _ _ _ h => h) [0, 1, 2, 3, 4, 5, 6, 7, 8, 9, 10, 11, 12] [] _ #[true, true, true, true, true, true, true, true, true, true, true, true, true] (by kernel_rfl) 0 _ ?_ _ rfl ?_ ?_
        rotate_left
        · intro w' hw'
          have hc' : ∀ b o, b < (w.alloc (.cells #[.int .i64 4, .int .u32 gen, .int .u32 lsn, .int .u32 rid, .int .u32 a, .int .i64 l, .bool on, .int .u32 rs, .int .u16 rm] 41)).heap.size → w'.cell? ⟨b, o, none⟩ = (w.alloc (.cells #[.int .i64 4, .int .u32 gen, .int .u32 lsn, .int .u32 rid, .int .u32 a, .int .i64 l, .bool on, .int .u32 rs, .int .u16 rm] 41)).cell? ⟨b, o, none⟩ := (bcell hw').1
          iterate 4
            refine ci_step (v := ?_) rfl (by kernel_rfl) ?_ ?_
            rotate_left
            · first | (go_simp; done) | (go_simp; with_reducible rfl)
            try simp only [Act.put, List.setIfInBounds_toArray, List.set_cons_zero, List.set_cons_succ]
          refine ci_off (i := 4) rfl (by kernel_rfl) ?_
          try simp only [Act.put, List.setIfInBounds_toArray, List.set_cons_zero, List.set_cons_succ]
          refine ci_off (i := 5) rfl (by kernel_rfl) ?_
          try simp only [Act.put, List.setIfInBounds_toArray, List.set_cons_zero, List.set_cons_succ]
          refine ci_off (i := 6) rfl (by kernel_rfl) ?_
          try simp only [Act.put, List.setIfInBounds_toArray, List.set_cons_zero, List.set_cons_succ]
          refine ci_off (i := 7) rfl (by kernel_rfl) ?_
          try simp only [Act.put, List.setIfInBounds_toArray, List.set_cons_zero, List.set_cons_succ]
          refine ci_off (i := 8) rfl (by kernel_rfl) ?_
          try simp only [Act.put, List.setIfInBounds_toArray, List.set_cons_zero, List.set_cons_succ]
          refine ci_off (i := 9) rfl (by kernel_rfl) ?_
          try simp only [Act.put, List.setIfInBounds_toArray, List.set_cons_zero, List.set_cons_succ]
          refine ci_off (i := 10) rfl (by kernel_rfl) ?_
          try simp only [Act.put, List.setIfInBounds_toArray, List.set_cons_zero, List.set_cons_succ]
          refine ci_off (i := 11) rfl (by kernel_rfl) ?_
          try simp only [Act.put, List.setIfInBounds_toArray, List.set_cons_zero, List.set_cons_succ]
          refine ci_step (i := 12) (v := ?_) rfl (by kernel_rfl) ?_ ?_
          rotate_left
          · first | (go_simp; done) | (go_simp; with_reducible rfl)
          skip
          try simp only [Act.put, List.setIfInBounds_toArray, List.set_cons_zero, List.set_cons_succ]
          refine ci_end ?_
          rfl
        refine draw_done (by kernel_rfl) ?_ _
        go_wp2_with fail
        have kB2 := (kB.alloc (.cells #[.int .u32 a, .int .i64 l, .int .u32 rid] 80)).drew
        have kM12 := (kM1.alloc (.cells #[.int .u32 a, .int .i64 l, .int .u32 rid] 80)).drew
        have hm := (kM2.alloc (.cells #[.int .u32 a, .int .i64 l, .int .u32 rid] 80)).drew
        have kR2 := (kR.alloc (.cells #[.int .u32 a, .int .i64 l, .int .u32 rid] 80)).drew
        have kK2 := kept_drew (kept_alloc kK (.cells #[.int .u32 a, .int .i64 l, .int .u32 rid] 80))
        have kY := (Blk.new (w.alloc (.cells #[.int .i64 4, .int .u32 gen, .int .u32 lsn, .int .u32 rid, .int .u32 a, .int .i64 l, .bool on, .int .u32 rs, .int .u16 rm] 41)) 80 #[.int .u32 a, .int .i64 l, .int .u32 rid]).drew
        simp only [World.size_alloc] at kY
        generalize hW : ((w.alloc (.cells #[.int .i64 4, .int .u32 gen, .int .u32 lsn, .int .u32 rid, .int .u32 a, .int .i64 l, .bool on, .int .u32 rs, .int .u16 rm] 41)).alloc (.cells #[.int .u32 a, .int .i64 l, .int .u32 rid] 80)).drew = W at kB2 kM12 hm kR2 kK2 kY ⊢
        have hsz : W.heap.size = w.heap.size + 1 + 1 := by rw [← hW]; simp
        have hl1 := kB2.lt
        have hl2 := kY.lt
        rw [hsz] at hl1 hl2
        have b0 := kB2.cell 0
        have b1 := kB2.cell 1
        have b2 := kB2.cell 2
        have b3 := kB2.cell 3
        have bf0 := kB2.frozen 0
        have bf1 := kB2.frozen 1
        have bf2 := kB2.frozen 2
        have bf3 := kB2.frozen 3
        simp only [List.getElem?_toArray, List.getElem?_cons_zero, List.getElem?_cons_succ] at b0 b1 b2 b3
        have y0 := kY.cell 0
        have y1 := kY.cell 1
        have y2 := kY.cell 2
        simp only [List.getElem?_toArray, List.getElem?_cons_zero, List.getElem?_cons_succ] at y0 y1 y2
        refine draw_start [] (Below W.heap.size) (by kernel_rfl) ?_
        refine draw_chunk (n := 69) (by kernel_rfl) (fun _ _ _ _ _ h => h) [0, 1, 2, 3, 4, 5, 6, 7, 8] [] _ #[true, true, true, true, true, true, true, true, true, false, false, false] (by kernel_rfl) 3 _ ?_ _ rfl ?_ ?_
        rotate_left
        · intro w' hw'
          have hc' : ∀ b o, b < W.heap.size → w'.cell? ⟨b, o, none⟩ = W.cell? ⟨b, o, none⟩ := fun b o h => hw'.cell (p := ⟨b, o, none⟩) h
          have hl := run_lookup_some key_keys Tryz.underlying67 (hm.same (hw'.block _ hm.lt)) ⟨a, l, rid⟩ (fs, fm) hg true; simp only [Key.val, dstV] at hl
          iterate 9
            refine ci_step (v := ?_) rfl (by kernel_rfl) ?_ ?_
            rotate_left
            · first | (go_simp; done) | (go_simp; with_reducible rfl)
            try simp only [Act.put, List.setIfInBounds_toArray, List.set_cons_zero, List.set_cons_succ]
          refine ci_end ?_
          rfl
        refine draw_eff (i := 9) rfl (by kernel_rfl) (listed' := #[true, true, true, true, true, true, true, true, true, true, false, false]) rfl (fun K hK => ?_)
        replace hK := Lib.hid hK
        go_wp2_with fail
        refine hK.out _ _ ⟨fun _ => below_dd ((Below.refl _ W).alloc (Nat.le_refl _) _), ?_⟩
        clear hK
        refine draw_eff (i := 10) rfl (by kernel_rfl) (listed' := #[true, true, true, true, true, true, true, true, true, true, true, false]) rfl (fun K hK => ?_)
        replace hK := Lib.hid hK
        go_wp2_with fail
        refine hK.out _ _ ⟨fun _ => below_dd (below_two ((Below.refl _ W).alloc (Nat.le_refl _) _) ((Below.refl _ W).alloc (Nat.le_refl _) _) (by simp)), ?_⟩
        clear hK
        refine draw_chunk (n := 69) (by kernel_rfl) (fun _ _ _ _ _ h => h) [11] [] _ #[true, true, true, true, true, true, true, true, true, true, true, true] (by kernel_rfl) 0 _ ?_ _ rfl ?_ ?_
        rotate_left
        · intro w' hw'
          have hc' : ∀ b o, b < W.heap.size → w'.cell? ⟨b, o, none⟩ = ((W.alloc (.cells #[.int .u32 fs, .int .u16 fm] 39)).drew).cell? ⟨b, o, none⟩ := fun b o h => hw'.cell (p := ⟨b, o, none⟩) h
          refine ci_step (i := 11) (v := ?_) rfl (by kernel_rfl) ?_ ?_
          rotate_left
          · first | (go_simp; done) | (go_simp; with_reducible rfl)
          skip
          try simp only [Act.put, List.setIfInBounds_toArray, List.set_cons_zero, List.set_cons_succ]
          refine ci_end ?_
          rfl
        refine draw_done (by kernel_rfl) ?_ _
        have q0 := kR2.cell 0
        have q3 := kR2.cell 3
        have q4 := kR2.cell 4
        have q5 := kR2.cell 5
        have q6 := kR2.cell 6
        have q7 := kR2.cell 7
        have q8 := kR2.cell 8
        simp only [List.getElem?_toArray, List.getElem?_cons_zero, List.getElem?_cons_succ] at q0 q3 q4 q5 q6 q7 q8
        go_wp2_with fail
        refine (law03_Better _ _ _ _ _).mono ?_
        rintro e w1 ⟨rfl, hb1⟩
        rw [hgt']
        have kB3 := (kB2.alloc (.cells #[.int .u32 fs, .int .u16 fm] 39)).drew.below' hb1
        have kM13 := (kM12.alloc (.cells #[.int .u32 fs, .int .u16 fm] 39)).drew.below hb1
        have hm3 := (hm.alloc (.cells #[.int .u32 fs, .int .u16 fm] 39)).drew.below hb1
        have kR3 := (kR2.alloc (.cells #[.int .u32 fs, .int .u16 fm] 39)).drew.below' hb1
        have kY3 := (kY.alloc (.cells #[.int .u32 fs, .int .u16 fm] 39)).drew.below' hb1
        have kK3 := (kept_drew (kept_alloc kK2 (.cells #[.int .u32 fs, .int .u16 fm] 39))).trans (Kept.of_below hb1)
        clear hb1
        have hl3 := kB3.lt
        have hl4 := kR3.lt
        have hl5 := kY3.lt
        go_wp2
        refine bodyPost_end (results_none rfl _ _ _) rfl ⟨rfl, ⟨?_, ?_, ?_, hs1, hs2, h12⟩, kK3⟩
        · rw [HA.out]; exact kB3
        · rw [HA.out]; exact kM13
        · rw [HA.out]; exact hm3
  · have k2' : (kind == 2) = false := by simpa using k2
    have k3' : (kind == 3) = false := by simpa using k3
    have k4' : (kind == 4) = false := by simpa using k4
    have HA := Lib.hid (show St.apply ⟨id, lease, own, fl⟩ ⟨kind, gen, lsn, rid, a, l, on, rs, rm⟩ = ⟨id, lease, own, fl⟩ by simp [St.apply, k2, k3, k4])
    clear k2 k3 k4
    have r0 := kR.cell 0
    have r3 := kR.cell 3
    have r4 := kR.cell 4
    have r5 := kR.cell 5
    have r6 := kR.cell 6
    have r7 := kR.cell 7
    have r8 := kR.cell 8
    simp only [List.getElem?_toArray, List.getElem?_cons_zero, List.getElem?_cons_succ] at r0 r3 r4 r5 r6 r7 r8
    go_enter Tryz.func13, Tryz.ntmps13
    go_wp2_with fail
    refine draw_start [] Later (by kernel_rfl) ?_
    refine draw_chunk (n := 69) (by kernel_rfl) (fun _ _ _ _ _ h => h) [0, 1, 2, 3, 4, 5, 6, 7, 8, 9, 10, 11, 12] [] _ #[true, true, true, true, true, true, true, true, true, true, true, true, true] (by kernel_rfl) 0 _ ?_ _ rfl ?_ ?_
    rotate_left
    · intro w' hw'
      have hc' : ∀ b o, b < (w.alloc (.cells #[.int .i64 kind, .int .u32 gen, .int .u32 lsn, .int .u32 rid, .int .u32 a, .int .i64 l, .bool on, .int .u32 rs, .int .u16 rm] 41)).heap.size → w'.cell? ⟨b, o, none⟩ = (w.alloc (.cells #[.int .i64 kind, .int .u32 gen, .int .u32 lsn, .int .u32 rid, .int .u32 a, .int .i64 l, .bool on, .int .u32 rs, .int .u16 rm] 41)).cell? ⟨b, o, none⟩ := (bcell hw').1
      iterate 4
        refine ci_step (v := ?_) rfl (by kernel_rfl) ?_ ?_
        rotate_left
        · first | (go_simp; done) | (go_simp; with_reducible rfl)
        try simp only [Act.put, List.setIfInBounds_toArray, List.set_cons_zero, List.set_cons_succ]
      refine ci_off (i := 4) rfl (by kernel_rfl) ?_
      try simp only [Act.put, List.setIfInBounds_toArray, List.set_cons_zero, List.set_cons_succ]
      refine ci_off (i := 5) rfl (by kernel_rfl) ?_
      try simp only [Act.put, List.setIfInBounds_toArray, List.set_cons_zero, List.set_cons_succ]
      refine ci_off (i := 6) rfl (by kernel_rfl) ?_
      try simp only [Act.put, List.setIfInBounds_toArray, List.set_cons_zero, List.set_cons_succ]
      refine ci_off (i := 7) rfl (by kernel_rfl) ?_
      try simp only [Act.put, List.setIfInBounds_toArray, List.set_cons_zero, List.set_cons_succ]
      refine ci_off (i := 8) rfl (by kernel_rfl) ?_
      try simp only [Act.put, List.setIfInBounds_toArray, List.set_cons_zero, List.set_cons_succ]
      refine ci_off (i := 9) rfl (by kernel_rfl) ?_
      try simp only [Act.put, List.setIfInBounds_toArray, List.set_cons_zero, List.set_cons_succ]
      refine ci_off (i := 10) rfl (by kernel_rfl) ?_
      try simp only [Act.put, List.setIfInBounds_toArray, List.set_cons_zero, List.set_cons_succ]
      refine ci_off (i := 11) rfl (by kernel_rfl) ?_
      try simp only [Act.put, List.setIfInBounds_toArray, List.set_cons_zero, List.set_cons_succ]
      refine ci_step (i := 12) (v := ?_) rfl (by kernel_rfl) ?_ ?_
      rotate_left
      · first | (go_simp; done) | (go_simp; with_reducible rfl)
      skip
      try simp only [Act.put, List.setIfInBounds_toArray, List.set_cons_zero, List.set_cons_succ]
      refine ci_end ?_
      rfl
    refine draw_done (by kernel_rfl) ?_ _
    go_wp2
    refine bodyPost_end (results_none rfl _ _ _) rfl ⟨rfl, ?_, kept_drew kK⟩
    rw [HA.out]
    exact ⟨kB.drew, kM1.drew, kM2.drew, hs1, hs2, h12⟩
end Go.Proofs.YtnfaeafplaeehaaGreat
end
section
set_option linter.unusedVariables false
set_option linter.unusedSimpArgs false
namespace Go.Proofs.YtnfaeafplaeehaaGreat
open Go.RowKit
/-! The lease, and a floor. -/
theorem state_Lease (σ : St) (s g1 g2 : Nat) (w : World) (h : StAt 75 w s g1 g2 σ) :
    Calls Tryz.prog 19 #[.pointer (some ⟨s, 0, none⟩)] w fun e w' => e = .returned (.int .u32 σ.lease) ∧ w' = w := by
  obtain ⟨hB, hm1, hm2, hs1, hs2, h12⟩ := h
  have b0 := hB.cell 0
  have b1 := hB.cell 1
  have b2 := hB.cell 2
  have b3 := hB.cell 3
  have bf0 := hB.frozen 0
  have bf1 := hB.frozen 1
  have bf2 := hB.frozen 2
  have bf3 := hB.frozen 3
  simp only [List.getElem?_toArray, List.getElem?_cons_zero, List.getElem?_cons_succ] at b0 b1 b2 b3
  go_enter Tryz.func19, Tryz.ntmps19
  go_wp2
  go_ret
  exact ⟨rfl, rfl⟩
def getD0 (fl : List (Key × Dst)) (k : Key) : Dst := (getM fl k).getD (0, 0)
theorem state_Floor (σ : St) (k : Key) (s g1 g2 : Nat) (w : World) (h : StAt 75 w s g1 g2 σ) :
    Calls Tryz.prog 38 #[.pointer (some ⟨s, 0, none⟩), k.val] w fun e w' => e = .returned (.tuple #[.agg #[.int .u32 (getD0 σ.fl k).1, .int .u16 (getD0 σ.fl k).2], .bool (getM σ.fl k).isSome]) ∧ Below w.heap.size w w' := by
  obtain ⟨hB, hm1, hm2, hs1, hs2, h12⟩ := h
  obtain ⟨id, lease, own, fl⟩ := σ
  obtain ⟨a, l, rid⟩ := k
  dsimp only at hB hm1 hm2 ⊢
  simp only [Key.val]
  have hlt := hB.lt
  cases hg : getM fl (⟨a, l, rid⟩ : Key) with
  | none =>
    have HF := Lib.hid (show getD0 fl ⟨a, l, rid⟩ = (0, 0) by simp [getD0, hg])
    have HG := Lib.hid (show (none : Option Dst).isSome = false from rfl)
    go_enter Tryz.func38, Tryz.ntmps38
    go_wp2_with fail
    have hbW : Below w.heap.size w ((w.alloc (.cells #[.int .u32 a, .int .i64 l, .int .u32 rid] 80)).alloc (.cells #[.int .u32 0, .int .u16 0] 39)) := ((Below.refl _ _).alloc (Nat.le_refl _) _).alloc (by simp) _
    have kB2 := (hB.alloc (.cells #[.int .u32 a, .int .i64 l, .int .u32 rid] 80)).alloc (.cells #[.int .u32 0, .int .u16 0] 39)
    have hm := (hm2.alloc (.cells #[.int .u32 a, .int .i64 l, .int .u32 rid] 80)).alloc (.cells #[.int .u32 0, .int .u16 0] 39)
    have kY := (Blk.new w 80 #[.int .u32 a, .int .i64 l, .int .u32 rid]).alloc (.cells #[.int .u32 0, .int .u16 0] 39)
    have kD := Blk.new (w.alloc (.cells #[.int .u32 a, .int .i64 l, .int .u32 rid] 80)) 39 #[.int .u32 0, .int .u16 0]
    simp only [World.size_alloc] at kD
    generalize hW : (w.alloc (.cells #[.int .u32 a, .int .i64 l, .int .u32 rid] 80)).alloc (.cells #[.int .u32 0, .int .u16 0] 39) = W at hbW kB2 hm kY kD ⊢
    have hsz : W.heap.size = w.heap.size + 1 + 1 := by rw [← hW]; simp
    have hl1 := kB2.lt
    have hl2 := kY.lt
    have hl3 := kD.lt
    rw [hsz] at hl1 hl2 hl3
    have b0 := kB2.cell 0
    have b1 := kB2.cell 1
    have b2 := kB2.cell 2
    have b3 := kB2.cell 3
    have bf0 := kB2.frozen 0
    have bf1 := kB2.frozen 1
    have bf2 := kB2.frozen 2
    have bf3 := kB2.frozen 3
    simp only [List.getElem?_toArray, List.getElem?_cons_zero, List.getElem?_cons_succ] at b0 b1 b2 b3
    have y0 := kY.cell 0
    have y1 := kY.cell 1
    have y2 := kY.cell 2
    simp only [List.getElem?_toArray, List.getElem?_cons_zero, List.getElem?_cons_succ] at y0 y1 y2
    refine draw_start [] (Below W.heap.size) (by kernel_rfl) ?_
    refine draw_chunk (n := 19) (by kernel_rfl) (fun _ _ _ _ _ h => h) [0, 1, 2, 3, 4, 5, 6, 7, 8] [] _ #[true, true, true, true, true, true, true, true, true, false, false, false] (by kernel_rfl) 3 _ ?_ _ rfl ?_ ?_
    rotate_left
    · intro w' hw'
      have hc' : ∀ b o, b < W.heap.size → w'.cell? ⟨b, o, none⟩ = W.cell? ⟨b, o, none⟩ := fun b o h => hw'.cell (p := ⟨b, o, none⟩) h
      have hl := run_lookup_none key_keys Tryz.underlying67 (hm.same (hw'.block _ hm.lt)) ⟨a, l, rid⟩ hg true _ dist_zero; simp only [Key.val, dstV] at hl
      iterate 9
        refine ci_step (v := ?_) rfl (by kernel_rfl) ?_ ?_
        rotate_left
        · first | (go_simp; done) | (go_simp; with_reducible rfl)
        try simp only [Act.put, List.setIfInBounds_toArray, List.set_cons_zero, List.set_cons_succ]
      refine ci_end ?_
      rfl
    refine draw_eff (i := 9) rfl (by kernel_rfl) (listed' := #[true, true, true, true, true, true, true, true, true, true, false, false]) rfl (fun K hK => ?_)
    replace hK := Lib.hid hK
    go_wp2_with fail
    refine hK.out _ _ ⟨fun _ => below_dd ((Below.refl _ W).alloc (Nat.le_refl _) _), ?_⟩
    clear hK
    refine draw_eff (i := 10) rfl (by kernel_rfl) (listed' := #[true, true, true, true, true, true, true, true, true, true, true, false]) rfl (fun K hK => ?_)
    replace hK := Lib.hid hK
    go_wp2_with fail
    refine hK.out _ _ ⟨fun _ => below_dd (below_two ((Below.refl _ W).alloc (Nat.le_refl _) _) ((Below.refl _ W).alloc (Nat.le_refl _) _) (by simp)), ?_⟩
    clear hK
    refine draw_chunk (n := 19) (by kernel_rfl) (fun _ _ _ _ _ h => h) [11] [] _ #[true, true, true, true, true, true, true, true, true, true, true, true] (by kernel_rfl) 0 _ ?_ _ rfl ?_ ?_
    rotate_left
    · intro w' hw'
      have hc' : ∀ b o, b < W.heap.size → w'.cell? ⟨b, o, none⟩ = ((W.alloc (.cells #[.int .u32 (0 : Int), .int .u16 (0 : Int)] 39)).drew).cell? ⟨b, o, none⟩ := fun b o h => hw'.cell (p := ⟨b, o, none⟩) h
      refine ci_step (i := 11) (v := ?_) rfl (by kernel_rfl) ?_ ?_
      rotate_left
      · first | (go_simp; done) | (go_simp; with_reducible rfl)
      skip
      try simp only [Act.put, List.setIfInBounds_toArray, List.set_cons_zero, List.set_cons_succ]
      refine ci_end ?_
      rfl
    refine draw_done (by kernel_rfl) ?_ _
    have d0 := kD.cell 0
    have d1 := kD.cell 1
    simp only [List.getElem?_toArray, List.getElem?_cons_zero, List.getElem?_cons_succ] at d0 d1
    have dz0 := kD.frozen 0
    have dz1 := kD.frozen 1
    have hbV : Below w.heap.size w (((W.setCell ⟨w.heap.size + 1, 0, none⟩ (.int .u32 (0 : Int))).setCell ⟨w.heap.size + 1, 1, none⟩ (.int .u16 (0 : Int))).alloc (.cells #[.int .u32 (0 : Int), .int .u16 (0 : Int)] 39)).drew := Below.drew (((hbW.setCell (by simp) _).setCell (by simp) _).alloc (by simpa [World.setCell] using hbW.size) _)
    have kD1 := (kD.set 0 (.int .u32 (0 : Int))).set 1 (.int .u16 (0 : Int))
    simp only [List.setIfInBounds_toArray, List.set_cons_zero, List.set_cons_succ] at kD1
    replace kD1 := kD1.alloc (.cells #[.int .u32 (0 : Int), .int .u16 (0 : Int)] 39)
    have x0 := kD1.cell 0
    have x1 := kD1.cell 1
    simp only [List.getElem?_toArray, List.getElem?_cons_zero, List.getElem?_cons_succ] at x0 x1
    go_wp2
    refine bodyPost_ret (v := .tuple #[.agg #[.int .u32 (0 : Int), .int .u16 (0 : Int)], .bool false]) (by simp [results, Tryz.results38, go_sem, x0, x1]) rfl ⟨by rw [HF.out, HG.out], hbV⟩
  | some f =>
    obtain ⟨fs, fm⟩ := f
    have HF := Lib.hid (show getD0 fl ⟨a, l, rid⟩ = (fs, fm) by simp [getD0, hg])
    have HG := Lib.hid (show (some (fs, fm) : Option Dst).isSome = true from rfl)
    go_enter Tryz.func38, Tryz.ntmps38
    go_wp2_with fail
    have hbW : Below w.heap.size w ((w.alloc (.cells #[.int .u32 a, .int .i64 l, .int .u32 rid] 80)).alloc (.cells #[.int .u32 0, .int .u16 0] 39)) := ((Below.refl _ _).alloc (Nat.le_refl _) _).alloc (by simp) _
    have kB2 := (hB.alloc (.cells #[.int .u32 a, .int .i64 l, .int .u32 rid] 80)).alloc (.cells #[.int .u32 0, .int .u16 0] 39)
    have hm := (hm2.alloc (.cells #[.int .u32 a, .int .i64 l, .int .u32 rid] 80)).alloc (.cells #[.int .u32 0, .int .u16 0] 39)
    have kY := (Blk.new w 80 #[.int .u32 a, .int .i64 l, .int .u32 rid]).alloc (.cells #[.int .u32 0, .int .u16 0] 39)
    have kD := Blk.new (w.alloc (.cells #[.int .u32 a, .int .i64 l, .int .u32 rid] 80)) 39 #[.int .u32 0, .int .u16 0]
    simp only [World.size_alloc] at kD
    generalize hW : (w.alloc (.cells #[.int .u32 a, .int .i64 l, .int .u32 rid] 80)).alloc (.cells #[.int .u32 0, .int .u16 0] 39) = W at hbW kB2 hm kY kD ⊢
    have hsz : W.heap.size = w.heap.size + 1 + 1 := by rw [← hW]; simp
    have hl1 := kB2.lt
    have hl2 := kY.lt
    have hl3 := kD.lt
    rw [hsz] at hl1 hl2 hl3
    have b0 := kB2.cell 0
    have b1 := kB2.cell 1
    have b2 := kB2.cell 2
    have b3 := kB2.cell 3
    have bf0 := kB2.frozen 0
    have bf1 := kB2.frozen 1
    have bf2 := kB2.frozen 2
    have bf3 := kB2.frozen 3
    simp only [List.getElem?_toArray, List.getElem?_cons_zero, List.getElem?_cons_succ] at b0 b1 b2 b3
    have y0 := kY.cell 0
    have y1 := kY.cell 1
    have y2 := kY.cell 2
    simp only [List.getElem?_toArray, List.getElem?_cons_zero, List.getElem?_cons_succ] at y0 y1 y2
    refine draw_start [] (Below W.heap.size) (by kernel_rfl) ?_
    refine draw_chunk (n := 19) (by kernel_rfl) (fun _ _ _ _ _ h => h) [0, 1, 2, 3, 4, 5, 6, 7, 8] [] _ #[true, true, true, true, true, true, true, true, true, false, false, false] (by kernel_rfl) 3 _ ?_ _ rfl ?_ ?_
    rotate_left
    · intro w' hw'
      have hc' : ∀ b o, b < W.heap.size → w'.cell? ⟨b, o, none⟩ = W.cell? ⟨b, o, none⟩ := fun b o h => hw'.cell (p := ⟨b, o, none⟩) h
      have hl := run_lookup_some key_keys Tryz.underlying67 (hm.same (hw'.block _ hm.lt)) ⟨a, l, rid⟩ (fs, fm) hg true; simp only [Key.val, dstV] at hl
      iterate 9
        refine ci_step (v := ?_) rfl (by kernel_rfl) ?_ ?_
        rotate_left
        · first | (go_simp; done) | (go_simp; with_reducible rfl)
        try simp only [Act.put, List.setIfInBounds_toArray, List.set_cons_zero, List.set_cons_succ]
      refine ci_end ?_
      rfl
    refine draw_eff (i := 9) rfl (by kernel_rfl) (listed' := #[true, true, true, true, true, true, true, true, true, true, false, false]) rfl (fun K hK => ?_)
    replace hK := Lib.hid hK
    go_wp2_with fail
    refine hK.out _ _ ⟨fun _ => below_dd ((Below.refl _ W).alloc (Nat.le_refl _) _), ?_⟩
    clear hK
    refine draw_eff (i := 10) rfl (by kernel_rfl) (listed' := #[true, true, true, true, true, true, true, true, true, true, true, false]) rfl (fun K hK => ?_)
    replace hK := Lib.hid hK
    go_wp2_with fail
    refine hK.out _ _ ⟨fun _ => below_dd (below_two ((Below.refl _ W).alloc (Nat.le_refl _) _) ((Below.refl _ W).alloc (Nat.le_refl _) _) (by simp)), ?_⟩
    clear hK
    refine draw_chunk (n := 19) (by kernel_rfl) (fun _ _ _ _ _ h => h) [11] [] _ #[true, true, true, true, true, true, true, true, true, true, true, true] (by kernel_rfl) 0 _ ?_ _ rfl ?_ ?_
    rotate_left
    · intro w' hw'
      have hc' : ∀ b o, b < W.heap.size → w'.cell? ⟨b, o, none⟩ = ((W.alloc (.cells #[.int .u32 fs, .int .u16 fm] 39)).drew).cell? ⟨b, o, none⟩ := fun b o h => hw'.cell (p := ⟨b, o, none⟩) h
      refine ci_step (i := 11) (v := ?_) rfl (by kernel_rfl) ?_ ?_
      rotate_left
      · first | (go_simp; done) | (go_simp; with_reducible rfl)
      skip
      try simp only [Act.put, List.setIfInBounds_toArray, List.set_cons_zero, List.set_cons_succ]
      refine ci_end ?_
      rfl
    refine draw_done (by kernel_rfl) ?_ _
    have d0 := kD.cell 0
    have d1 := kD.cell 1
    simp only [List.getElem?_toArray, List.getElem?_cons_zero, List.getElem?_cons_succ] at d0 d1
    have dz0 := kD.frozen 0
    have dz1 := kD.frozen 1
    have hbV : Below w.heap.size w (((W.setCell ⟨w.heap.size + 1, 0, none⟩ (.int .u32 fs)).setCell ⟨w.heap.size + 1, 1, none⟩ (.int .u16 fm)).alloc (.cells #[.int .u32 fs, .int .u16 fm] 39)).drew := Below.drew (((hbW.setCell (by simp) _).setCell (by simp) _).alloc (by simpa [World.setCell] using hbW.size) _)
    have kD1 := (kD.set 0 (.int .u32 fs)).set 1 (.int .u16 fm)
    simp only [List.setIfInBounds_toArray, List.set_cons_zero, List.set_cons_succ] at kD1
    replace kD1 := kD1.alloc (.cells #[.int .u32 fs, .int .u16 fm] 39)
    have x0 := kD1.cell 0
    have x1 := kD1.cell 1
    simp only [List.getElem?_toArray, List.getElem?_cons_zero, List.getElem?_cons_succ] at x0 x1
    go_wp2
    refine bodyPost_ret (v := .tuple #[.agg #[.int .u32 fs, .int .u16 fm], .bool true]) (by simp [results, Tryz.results38, go_sem, x0, x1]) rfl ⟨by rw [HF.out, HG.out], hbV⟩
end Go.Proofs.YtnfaeafplaeehaaGreat
end
