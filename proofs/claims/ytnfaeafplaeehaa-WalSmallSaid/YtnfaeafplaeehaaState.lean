import Derived.Test.YtnfaeafplaeehaaKeys
import Derived.Test.YtnfaeafplaeehaaDist
import Derived.Test.YtnfaeafplaeehaaOwnE
import Derived.Test.YtnfaeafplaeehaaOwnA
set_option linter.unusedVariables false
set_option linter.unusedSimpArgs false
namespace Go.Proofs.Ytnfaeafplaeehaa
open Go.RowKit

abbrev Dst := Int × Int
def dstV (d : Dst) : Value := .agg #[.int .u32 d.1, .int .u16 d.2]
/-- What is noted: the router's number, the lease, its own prefixes, and the floors. -/
structure St where
  id : Int
  lease : Int
  own : List (Pfx × Bool)
  fl : List (Key × Dst)
def gtB (d f : Dst) : Bool := decide (distCmp d.1 d.2 f.1 f.2 > 0)
def noteFl (fl : List (Key × Dst)) (k : Key) (d : Dst) : List (Key × Dst) :=
  match getM fl k with
  | none => updM fl k d
  | some f => if gtB d f = true then updM fl k d else fl
def St.apply (σ : St) (r : Rec) : St :=
  if r.kind = 2 then { σ with own := updM σ.own ⟨r.a, r.l⟩ r.on } else if r.kind = 3 then { σ with lease := if r.s > σ.lease then r.s else σ.lease } else if r.kind = 4 then { σ with fl := noteFl σ.fl ⟨r.a, r.l, r.id⟩ (r.s, r.m) } else σ

/-- A state in memory. -/
def StAt (T : TypeId) (w : World) (s g1 g2 : Nat) (σ : St) : Prop :=
  Blk w s T #[.int .u32 σ.id, .int .u32 σ.lease, .map (some g1), .map (some g2)] ∧ MapAt w g1 Pfx.val Value.bool σ.own ∧ MapAt w g2 Key.val dstV σ.fl ∧ s ≠ g1 ∧ s ≠ g2 ∧ g1 ≠ g2
theorem StAt.below {T : TypeId} {w w' : World} {s g1 g2 : Nat} {σ : St} (h : StAt T w s g1 g2 σ) (hb : Below w.heap.size w w') : StAt T w' s g1 g2 σ :=
  ⟨h.1.below' hb, h.2.1.below hb, h.2.2.1.below hb, h.2.2.2⟩
theorem StAt.kept {T : TypeId} {S : List Nat} {w w' : World} {s g1 g2 : Nat} {σ : St} (h : StAt T w s g1 g2 σ) (hk : Kept S w w') (h0 : s ∉ S) (h1 : g1 ∉ S) (h2 : g2 ∉ S) : StAt T w' s g1 g2 σ :=
  ⟨hk.blk h.1 h0, h.2.1.kept hk h1, h.2.2.1.kept hk h2, h.2.2.2⟩
theorem kept_alloc {S : List Nat} {w w' : World} (h : Kept S w w') (o : Obj) : Kept S w (w'.alloc o) := h.trans (Kept.of_below ((Below.refl _ _).alloc (Nat.le_refl _) o))
theorem kept_drew {S : List Nat} {w w' : World} (h : Kept S w w') : Kept S w w'.drew := ⟨h.os, h.tape, h.output, h.size, h.block⟩
theorem kept_set {S : List Nat} {w w' : World} (h : Kept S w w') (a : Addr) (u : Value) (ha : a.block ∈ S ∨ w.heap.size ≤ a.block) : Kept S w (w'.setCell a u) :=
  ⟨h.os, h.tape, h.output, by simpa [World.setCell] using h.size, fun k hk hs => by
    rw [← h.block k hk hs]
    refine Below.heap_setCell w' a u k fun e => ?_
    subst e
    rcases ha with ha | ha
    · exact hs ha
    · omega⟩

theorem state_New (id : Int) (w : World) :
    Calls Try.prog 14 #[.int .u32 id] w fun e w' => Below w.heap.size w w' ∧ ∃ s g1 g2, e = .returned (.pointer (some ⟨s, 0, none⟩)) ∧ StAt 121 w' s g1 g2 ⟨id, 0, [], []⟩ ∧ w.heap.size ≤ s ∧ w.heap.size ≤ g1 ∧ w.heap.size ≤ g2 := by
  go_enter Try.func14, Try.ntmps14
  go_wp2
  go_ret
  refine ⟨(((Below.refl _ _).alloc (Nat.le_refl _) _).alloc (by simp) _).alloc (by simp; omega) _, w.heap.size + 1 + 1, w.heap.size, w.heap.size + 1, rfl, ⟨?_, ((MapAt.new _ _ _).alloc _).alloc _, ?_, ?_, ?_, ?_⟩, ?_, ?_, ?_⟩
  · simpa using Blk.new ((w.alloc (.map #[] 0)).alloc (.map #[] 0)) 121 #[.int .u32 id, .int .u32 0, .map (some w.heap.size), .map (some (w.heap.size + 1))]
  · refine MapAt.alloc ?_ _
    simpa using MapAt.new (w.alloc (.map #[] 0)) Key.val dstV
  all_goals omega
theorem dist_zero (w : World) : (zeroValue 30).run Try.prog w = .ok (.agg #[.int .u32 0, .int .u16 0]) w := by kernel_rfl
set_option maxHeartbeats 4000000 in
theorem state_Apply (σ : St) (r : Rec) (s g1 g2 : Nat) (w : World) (h : StAt 121 w s g1 g2 σ) :
    Calls Try.prog 16 #[.pointer (some ⟨s, 0, none⟩), r.val] w fun e w' => e = .returned (.tuple #[]) ∧ StAt 121 w' s g1 g2 (σ.apply r) ∧ Kept [s, g1, g2] w w' := by
  obtain ⟨hB, hm1, hm2, hs1, hs2, h12⟩ := h
  obtain ⟨id, lease, own, fl⟩ := σ
  obtain ⟨kind, gen, lsn, rid, a, l, on, rs, rm⟩ := r
  dsimp only at hB hm1 hm2
  have kB := hB.alloc (.cells (Rec.arr ⟨kind, gen, lsn, rid, a, l, on, rs, rm⟩) 39)
  have kM1 := hm1.alloc (.cells (Rec.arr ⟨kind, gen, lsn, rid, a, l, on, rs, rm⟩) 39)
  have kM2 := hm2.alloc (.cells (Rec.arr ⟨kind, gen, lsn, rid, a, l, on, rs, rm⟩) 39)
  have kR := Blk.new w 39 (Rec.arr ⟨kind, gen, lsn, rid, a, l, on, rs, rm⟩)
  have kK : Kept [s, g1, g2] w (w.alloc (.cells (Rec.arr ⟨kind, gen, lsn, rid, a, l, on, rs, rm⟩) 39)) := kept_alloc (Kept.refl _ _) _
  simp only [Rec.arr, Rec.val] at kB kM1 kM2 kR kK ⊢
  have hlt := hB.lt
  have hlt1 := hm1.lt
  have hlt2 := hm2.lt
  by_cases k2 : kind = 2
  · subst k2
    obtain ⟨w1, hrun, hM, hK1⟩ := run_mapUpdate pfx_keys Try.underlying42 kM1.drew ⟨a, l⟩ on
    simp only [Pfx.val] at hrun
    have b0 := hB.cell 0
    have b1 := hB.cell 1
    have b2 := hB.cell 2
    have b3 := hB.cell 3
    have bf0 := hB.frozen 0
    have bf1 := hB.frozen 1
    have bf2 := hB.frozen 2
    have bf3 := hB.frozen 3
    simp only [List.getElem?_toArray, List.getElem?_cons_zero, List.getElem?_cons_succ] at b0 b1 b2 b3
    go_enter Try.func16, Try.ntmps16
    go_wp2_with fail
    refine draw_start [8] Later (by kernel_rfl) ?_
    refine draw_chunk (n := 64) (by kernel_rfl) (fun _ _ _ _ _ h => h) [0, 1, 2, 3, 4, 5, 6, 7] [] _ #[true, true, true, true, true, true, true, true, false] (by kernel_rfl) 1 _ ?_ _ rfl ?_ ?_
    rotate_left
    · intro w' hw'
      have hc' : ∀ b o, b < (w.alloc (.cells #[.int .i64 2, .int .u32 gen, .int .u32 lsn, .int .u32 rid, .int .u32 a, .int .i64 l, .bool on, .int .u32 rs, .int .u16 rm] 39)).heap.size → w'.cell? ⟨b, o, none⟩ = (w.alloc (.cells #[.int .i64 2, .int .u32 gen, .int .u32 lsn, .int .u32 rid, .int .u32 a, .int .i64 l, .bool on, .int .u32 rs, .int .u16 rm] 39)).cell? ⟨b, o, none⟩ := (bcell hw').1
      refine ci_step (i := 0) (v := ?_) rfl (by kernel_rfl) ?_ ?_
      rotate_left
      · first | (go_simp; done) | (go_simp; with_reducible rfl)
      skip
      try simp only [Act.put, List.setIfInBounds_toArray, List.set_cons_zero, List.set_cons_succ]
      refine ci_step (i := 1) (v := ?_) rfl (by kernel_rfl) ?_ ?_
      rotate_left
      · first | (go_simp; done) | (go_simp; with_reducible rfl)
      skip
      try simp only [Act.put, List.setIfInBounds_toArray, List.set_cons_zero, List.set_cons_succ]
      refine ci_step (i := 2) (v := ?_) rfl (by kernel_rfl) ?_ ?_
      rotate_left
      · first | (go_simp; done) | (go_simp; with_reducible rfl)
      skip
      try simp only [Act.put, List.setIfInBounds_toArray, List.set_cons_zero, List.set_cons_succ]
      refine ci_step (i := 3) (v := ?_) rfl (by kernel_rfl) ?_ ?_
      rotate_left
      · first | (go_simp; done) | (go_simp; with_reducible rfl)
      skip
      try simp only [Act.put, List.setIfInBounds_toArray, List.set_cons_zero, List.set_cons_succ]
      refine ci_step (i := 4) (v := ?_) rfl (by kernel_rfl) ?_ ?_
      rotate_left
      · first | (go_simp; done) | (go_simp; with_reducible rfl)
      skip
      try simp only [Act.put, List.setIfInBounds_toArray, List.set_cons_zero, List.set_cons_succ]
      refine ci_step (i := 5) (v := ?_) rfl (by kernel_rfl) ?_ ?_
      rotate_left
      · first | (go_simp; done) | (go_simp; with_reducible rfl)
      skip
      try simp only [Act.put, List.setIfInBounds_toArray, List.set_cons_zero, List.set_cons_succ]
      refine ci_step (i := 6) (v := ?_) rfl (by kernel_rfl) ?_ ?_
      rotate_left
      · first | (go_simp; done) | (go_simp; with_reducible rfl)
      skip
      try simp only [Act.put, List.setIfInBounds_toArray, List.set_cons_zero, List.set_cons_succ]
      refine ci_step (i := 7) (v := ?_) rfl (by kernel_rfl) ?_ ?_
      rotate_left
      · first | (go_simp; done) | (go_simp; with_reducible rfl)
      skip
      try simp only [Act.put, List.setIfInBounds_toArray, List.set_cons_zero, List.set_cons_succ]
      refine ci_end ?_
      rfl
    refine draw_eff (i := 8) rfl (by kernel_rfl) (listed' := #[true, true, true, true, true, true, true, true, true]) rfl (fun K hK => ?_)
    replace hK := Lib.hid hK
    go_wp2_with fail
    refine hK.out _ _ ⟨fun h => absurd (by decide) h, ?_⟩
    clear hK
    refine draw_done (by kernel_rfl) ?_ _
    go_wp2
    refine bodyPost_end (results_none rfl _ _ _) rfl ⟨rfl, ⟨?_, ?_, ?_, hs1, hs2, h12⟩, ?_⟩
    · simpa [St.apply] using hK1.blk kB.drew (by simpa using hs1)
    · simpa [St.apply] using hM
    · simpa [St.apply] using kM2.drew.kept hK1 (by simpa using h12.symm)
    · exact (kept_drew kK).trans (hK1.more (by simp))
  by_cases k3 : kind = 3
  · subst k3
    have b0 := hB.cell 0
    have b1 := hB.cell 1
    have b2 := hB.cell 2
    have b3 := hB.cell 3
    have bf0 := hB.frozen 0
    have bf1 := hB.frozen 1
    have bf2 := hB.frozen 2
    have bf3 := hB.frozen 3
    simp only [List.getElem?_toArray, List.getElem?_cons_zero, List.getElem?_cons_succ] at b0 b1 b2 b3
    have r0 := kR.cell 0
    have r3 := kR.cell 3
    have r4 := kR.cell 4
    have r5 := kR.cell 5
    have r6 := kR.cell 6
    have r7 := kR.cell 7
    have r8 := kR.cell 8
    simp only [List.getElem?_toArray, List.getElem?_cons_zero, List.getElem?_cons_succ] at r0 r3 r4 r5 r6 r7 r8
    by_cases h : lease < rs
    · have HA := Lib.hid (show St.apply ⟨id, lease, own, fl⟩ ⟨3, gen, lsn, rid, a, l, on, rs, rm⟩ = ⟨id, rs, own, fl⟩ by simp only [St.apply]; rw [if_neg (by decide), if_pos trivial, if_pos h])
      go_enter Try.func16, Try.ntmps16
      go_wp2_with fail
      refine draw_start [11] Later (by kernel_rfl) ?_
      refine draw_chunk (n := 64) (by kernel_rfl) (fun _ _ _ _ _ h => h) [0, 1, 2, 3, 4, 5, 6, 7, 8, 9, 10] [] _ #[true, true, true, true, true, true, true, true, true, true, true, false] (by kernel_rfl) 1 _ ?_ _ rfl ?_ ?_
      rotate_left
      · intro w' hw'
        have hc' : ∀ b o, b < (w.alloc (.cells #[.int .i64 3, .int .u32 gen, .int .u32 lsn, .int .u32 rid, .int .u32 a, .int .i64 l, .bool on, .int .u32 rs, .int .u16 rm] 39)).heap.size → w'.cell? ⟨b, o, none⟩ = (w.alloc (.cells #[.int .i64 3, .int .u32 gen, .int .u32 lsn, .int .u32 rid, .int .u32 a, .int .i64 l, .bool on, .int .u32 rs, .int .u16 rm] 39)).cell? ⟨b, o, none⟩ := (bcell hw').1
        refine ci_step (i := 0) (v := ?_) rfl (by kernel_rfl) ?_ ?_
        rotate_left
        · first | (go_simp; done) | (go_simp; with_reducible rfl)
        skip
        try simp only [Act.put, List.setIfInBounds_toArray, List.set_cons_zero, List.set_cons_succ]
        refine ci_step (i := 1) (v := ?_) rfl (by kernel_rfl) ?_ ?_
        rotate_left
        · first | (go_simp; done) | (go_simp; with_reducible rfl)
        skip
        try simp only [Act.put, List.setIfInBounds_toArray, List.set_cons_zero, List.set_cons_succ]
        refine ci_step (i := 2) (v := ?_) rfl (by kernel_rfl) ?_ ?_
        rotate_left
        · first | (go_simp; done) | (go_simp; with_reducible rfl)
        skip
        try simp only [Act.put, List.setIfInBounds_toArray, List.set_cons_zero, List.set_cons_succ]
        refine ci_step (i := 3) (v := ?_) rfl (by kernel_rfl) ?_ ?_
        rotate_left
        · first | (go_simp; done) | (go_simp; with_reducible rfl)
        skip
        try simp only [Act.put, List.setIfInBounds_toArray, List.set_cons_zero, List.set_cons_succ]
        refine ci_step (i := 4) (v := ?_) rfl (by kernel_rfl) ?_ ?_
        rotate_left
        · first | (go_simp; done) | (go_simp; with_reducible rfl)
        skip
        try simp only [Act.put, List.setIfInBounds_toArray, List.set_cons_zero, List.set_cons_succ]
        refine ci_step (i := 5) (v := ?_) rfl (by kernel_rfl) ?_ ?_
        rotate_left
        · first | (go_simp; done) | (go_simp; with_reducible rfl)
        skip
        try simp only [Act.put, List.setIfInBounds_toArray, List.set_cons_zero, List.set_cons_succ]
        refine ci_step (i := 6) (v := ?_) rfl (by kernel_rfl) ?_ ?_
        rotate_left
        · first | (go_simp; done) | (go_simp; with_reducible rfl)
        skip
        try simp only [Act.put, List.setIfInBounds_toArray, List.set_cons_zero, List.set_cons_succ]
        refine ci_step (i := 7) (v := ?_) rfl (by kernel_rfl) ?_ ?_
        rotate_left
        · first | (go_simp; done) | (go_simp; with_reducible rfl)
        skip
        try simp only [Act.put, List.setIfInBounds_toArray, List.set_cons_zero, List.set_cons_succ]
        refine ci_step (i := 8) (v := ?_) rfl (by kernel_rfl) ?_ ?_
        rotate_left
        · first | (go_simp; done) | (go_simp; with_reducible rfl)
        skip
        try simp only [Act.put, List.setIfInBounds_toArray, List.set_cons_zero, List.set_cons_succ]
        refine ci_step (i := 9) (v := ?_) rfl (by kernel_rfl) ?_ ?_
        rotate_left
        · first | (go_simp; done) | (go_simp; with_reducible rfl)
        skip
        try simp only [Act.put, List.setIfInBounds_toArray, List.set_cons_zero, List.set_cons_succ]
        refine ci_step (i := 10) (v := ?_) rfl (by kernel_rfl) ?_ ?_
        rotate_left
        · first | (go_simp; done) | (go_simp; with_reducible rfl)
        skip
        try simp only [Act.put, List.setIfInBounds_toArray, List.set_cons_zero, List.set_cons_succ]
        refine ci_end ?_
        rfl
      refine draw_eff (i := 11) rfl (by kernel_rfl) (listed' := #[true, true, true, true, true, true, true, true, true, true, true, true]) rfl (fun K hK => ?_)
      replace hK := Lib.hid hK
      go_wp2_with fail
      refine hK.out _ _ ⟨fun h => absurd (by decide) h, ?_⟩
      clear hK
      refine draw_done (by kernel_rfl) ?_ _
      go_wp2
      have kF := hB.set 1 (.int .u32 rs)
      simp only [List.setIfInBounds_toArray, List.set_cons_zero, List.set_cons_succ] at kF
      refine bodyPost_end (results_none rfl _ _ _) rfl ⟨rfl, ⟨?_, ?_, ?_, hs1, hs2, h12⟩, ?_⟩
      · rw [HA.out]; exact kF.alloc _
      · rw [HA.out]; exact (hm1.setCell _ _).alloc _
      · rw [HA.out]; exact (hm2.setCell _ _).alloc _
      · exact kept_drew (kept_alloc (kept_set (Kept.refl _ _) _ _ (.inl (by simp))) _)
    · have HA := Lib.hid (show St.apply ⟨id, lease, own, fl⟩ ⟨3, gen, lsn, rid, a, l, on, rs, rm⟩ = ⟨id, lease, own, fl⟩ by simp only [St.apply]; rw [if_neg (by decide), if_pos trivial, if_neg h])
      go_enter Try.func16, Try.ntmps16
      go_wp2_with fail
      refine draw_start [11] Later (by kernel_rfl) ?_
      refine draw_chunk (n := 64) (by kernel_rfl) (fun _ _ _ _ _ h => h) [0, 1, 2, 3, 4, 5, 6, 7, 8, 9, 10] [] _ #[true, true, true, true, true, true, true, true, true, true, true, false] (by kernel_rfl) 1 _ ?_ _ rfl ?_ ?_
      rotate_left
      · intro w' hw'
        have hc' : ∀ b o, b < (w.alloc (.cells #[.int .i64 3, .int .u32 gen, .int .u32 lsn, .int .u32 rid, .int .u32 a, .int .i64 l, .bool on, .int .u32 rs, .int .u16 rm] 39)).heap.size → w'.cell? ⟨b, o, none⟩ = (w.alloc (.cells #[.int .i64 3, .int .u32 gen, .int .u32 lsn, .int .u32 rid, .int .u32 a, .int .i64 l, .bool on, .int .u32 rs, .int .u16 rm] 39)).cell? ⟨b, o, none⟩ := (bcell hw').1
        refine ci_step (i := 0) (v := ?_) rfl (by kernel_rfl) ?_ ?_
        rotate_left
        · first | (go_simp; done) | (go_simp; with_reducible rfl)
        skip
        try simp only [Act.put, List.setIfInBounds_toArray, List.set_cons_zero, List.set_cons_succ]
        refine ci_step (i := 1) (v := ?_) rfl (by kernel_rfl) ?_ ?_
        rotate_left
        · first | (go_simp; done) | (go_simp; with_reducible rfl)
        skip
        try simp only [Act.put, List.setIfInBounds_toArray, List.set_cons_zero, List.set_cons_succ]
        refine ci_step (i := 2) (v := ?_) rfl (by kernel_rfl) ?_ ?_
        rotate_left
        · first | (go_simp; done) | (go_simp; with_reducible rfl)
        skip
        try simp only [Act.put, List.setIfInBounds_toArray, List.set_cons_zero, List.set_cons_succ]
        refine ci_step (i := 3) (v := ?_) rfl (by kernel_rfl) ?_ ?_
        rotate_left
        · first | (go_simp; done) | (go_simp; with_reducible rfl)
        skip
        try simp only [Act.put, List.setIfInBounds_toArray, List.set_cons_zero, List.set_cons_succ]
        refine ci_step (i := 4) (v := ?_) rfl (by kernel_rfl) ?_ ?_
        rotate_left
        · first | (go_simp; done) | (go_simp; with_reducible rfl)
        skip
        try simp only [Act.put, List.setIfInBounds_toArray, List.set_cons_zero, List.set_cons_succ]
        refine ci_step (i := 5) (v := ?_) rfl (by kernel_rfl) ?_ ?_
        rotate_left
        · first | (go_simp; done) | (go_simp; with_reducible rfl)
        skip
        try simp only [Act.put, List.setIfInBounds_toArray, List.set_cons_zero, List.set_cons_succ]
        refine ci_step (i := 6) (v := ?_) rfl (by kernel_rfl) ?_ ?_
        rotate_left
        · first | (go_simp; done) | (go_simp; with_reducible rfl)
        skip
        try simp only [Act.put, List.setIfInBounds_toArray, List.set_cons_zero, List.set_cons_succ]
        refine ci_step (i := 7) (v := ?_) rfl (by kernel_rfl) ?_ ?_
        rotate_left
        · first | (go_simp; done) | (go_simp; with_reducible rfl)
        skip
        try simp only [Act.put, List.setIfInBounds_toArray, List.set_cons_zero, List.set_cons_succ]
        refine ci_step (i := 8) (v := ?_) rfl (by kernel_rfl) ?_ ?_
        rotate_left
        · first | (go_simp; done) | (go_simp; with_reducible rfl)
        skip
        try simp only [Act.put, List.setIfInBounds_toArray, List.set_cons_zero, List.set_cons_succ]
        refine ci_step (i := 9) (v := ?_) rfl (by kernel_rfl) ?_ ?_
        rotate_left
        · first | (go_simp; done) | (go_simp; with_reducible rfl)
        skip
        try simp only [Act.put, List.setIfInBounds_toArray, List.set_cons_zero, List.set_cons_succ]
        refine ci_step (i := 10) (v := ?_) rfl (by kernel_rfl) ?_ ?_
        rotate_left
        · first | (go_simp; done) | (go_simp; with_reducible rfl)
        skip
        try simp only [Act.put, List.setIfInBounds_toArray, List.set_cons_zero, List.set_cons_succ]
        refine ci_end ?_
        rfl
      refine draw_eff (i := 11) rfl (by kernel_rfl) (listed' := #[true, true, true, true, true, true, true, true, true, true, true, true]) rfl (fun K hK => ?_)
      replace hK := Lib.hid hK
      go_wp2_with fail
      refine hK.out _ _ ⟨fun h => absurd (by decide) h, ?_⟩
      clear hK
      refine draw_done (by kernel_rfl) ?_ _
      go_wp2
      have kF := hB.set 1 (.int .u32 lease)
      simp only [List.setIfInBounds_toArray, List.set_cons_zero, List.set_cons_succ] at kF
      refine bodyPost_end (results_none rfl _ _ _) rfl ⟨rfl, ⟨?_, ?_, ?_, hs1, hs2, h12⟩, ?_⟩
      · rw [HA.out]; exact kF.alloc _
      · rw [HA.out]; exact (hm1.setCell _ _).alloc _
      · rw [HA.out]; exact (hm2.setCell _ _).alloc _
      · exact kept_drew (kept_alloc (kept_set (Kept.refl _ _) _ _ (.inl (by simp))) _)
  by_cases k4 : kind = 4
  · subst k4
    have b0 := hB.cell 0
    have b1 := hB.cell 1
    have b2 := hB.cell 2
    have b3 := hB.cell 3
    have bf0 := hB.frozen 0
    have bf1 := hB.frozen 1
    have bf2 := hB.frozen 2
    have bf3 := hB.frozen 3
    simp only [List.getElem?_toArray, List.getElem?_cons_zero, List.getElem?_cons_succ] at b0 b1 b2 b3
    have r0 := kR.cell 0
    have r3 := kR.cell 3
    have r4 := kR.cell 4
    have r5 := kR.cell 5
    have r6 := kR.cell 6
    have r7 := kR.cell 7
    have r8 := kR.cell 8
    simp only [List.getElem?_toArray, List.getElem?_cons_zero, List.getElem?_cons_succ] at r0 r3 r4 r5 r6 r7 r8
    cases hg : getM fl (⟨a, l, rid⟩ : Key) with
    | none =>
      have HA := Lib.hid (show St.apply ⟨id, lease, own, fl⟩ ⟨4, gen, lsn, rid, a, l, on, rs, rm⟩ = ⟨id, lease, own, updM fl ⟨a, l, rid⟩ (rs, rm)⟩ by simp [St.apply, noteFl, hg])
      go_enter Try.func16, Try.ntmps16
      go_wp2_with fail
      have kB2 := kB.alloc (.cells #[.int .u32 a, .int .i64 l, .int .u32 rid] 27)
      have kM12 := kM1.alloc (.cells #[.int .u32 a, .int .i64 l, .int .u32 rid] 27)
      have hm := kM2.alloc (.cells #[.int .u32 a, .int .i64 l, .int .u32 rid] 27)
      have kR2 := kR.alloc (.cells #[.int .u32 a, .int .i64 l, .int .u32 rid] 27)
      have kK2 := kept_alloc kK (.cells #[.int .u32 a, .int .i64 l, .int .u32 rid] 27)
      have kY := Blk.new (w.alloc (.cells #[.int .i64 4, .int .u32 gen, .int .u32 lsn, .int .u32 rid, .int .u32 a, .int .i64 l, .bool on, .int .u32 rs, .int .u16 rm] 39)) 27 #[.int .u32 a, .int .i64 l, .int .u32 rid]
      simp only [World.size_alloc] at kY
      generalize hW : (w.alloc (.cells #[.int .i64 4, .int .u32 gen, .int .u32 lsn, .int .u32 rid, .int .u32 a, .int .i64 l, .bool on, .int .u32 rs, .int .u16 rm] 39)).alloc (.cells #[.int .u32 a, .int .i64 l, .int .u32 rid] 27) = W at kB2 kM12 hm kR2 kK2 kY ⊢
      have hsz : W.heap.size = w.heap.size + 1 + 1 := by rw [← hW]; simp
      have hl1 := kB2.lt
      have hl2 := kY.lt
      rw [hsz] at hl1 hl2
      have b0 := kB2.cell 0
      have b1 := kB2.cell 1
      have b2 := kB2.cell 2
      have b3 := kB2.cell 3
      have bf0 := kB2.frozen 0
      have bf1 := kB2.frozen 1
      have bf2 := kB2.frozen 2
      have bf3 := kB2.frozen 3
      simp only [List.getElem?_toArray, List.getElem?_cons_zero, List.getElem?_cons_succ] at b0 b1 b2 b3
      have y0 := kY.cell 0
      have y1 := kY.cell 1
      have y2 := kY.cell 2
      simp only [List.getElem?_toArray, List.getElem?_cons_zero, List.getElem?_cons_succ] at y0 y1 y2
      refine draw_start [] (Below W.heap.size) (by kernel_rfl) ?_
      refine draw_chunk (n := 64) (by kernel_rfl) (fun _ _ _ _ _ h => h) [0, 1, 2, 3, 4, 5, 6, 7, 8] [] _ #[true, true, true, true, true, true, true, true, true, false, false, false] (by kernel_rfl) 3 _ ?_ _ rfl ?_ ?_
      rotate_left
      · intro w' hw'
        have hc' : ∀ b o, b < W.heap.size → w'.cell? ⟨b, o, none⟩ = W.cell? ⟨b, o, none⟩ := fun b o h => hw'.cell (p := ⟨b, o, none⟩) h
        have hl := run_lookup_none key_keys Try.underlying43 (hm.same (hw'.block _ hm.lt)) ⟨a, l, rid⟩ hg true _ dist_zero; simp only [Key.val, dstV] at hl
        refine ci_step (i := 0) (v := ?_) rfl (by kernel_rfl) ?_ ?_
        rotate_left
        · first | (go_simp; done) | (go_simp; with_reducible rfl)
        skip
        try simp only [Act.put, List.setIfInBounds_toArray, List.set_cons_zero, List.set_cons_succ]
        refine ci_step (i := 1) (v := ?_) rfl (by kernel_rfl) ?_ ?_
        rotate_left
        · first | (go_simp; done) | (go_simp; with_reducible rfl)
        skip
        try simp only [Act.put, List.setIfInBounds_toArray, List.set_cons_zero, List.set_cons_succ]
        refine ci_step (i := 2) (v := ?_) rfl (by kernel_rfl) ?_ ?_
        rotate_left
        · first | (go_simp; done) | (go_simp; with_reducible rfl)
        skip
        try simp only [Act.put, List.setIfInBounds_toArray, List.set_cons_zero, List.set_cons_succ]
        refine ci_step (i := 3) (v := ?_) rfl (by kernel_rfl) ?_ ?_
        rotate_left
        · first | (go_simp; done) | (go_simp; with_reducible rfl)
        skip
        try simp only [Act.put, List.setIfInBounds_toArray, List.set_cons_zero, List.set_cons_succ]
        refine ci_step (i := 4) (v := ?_) rfl (by kernel_rfl) ?_ ?_
        rotate_left
        · first | (go_simp; done) | (go_simp; with_reducible rfl)
        skip
        try simp only [Act.put, List.setIfInBounds_toArray, List.set_cons_zero, List.set_cons_succ]
        refine ci_step (i := 5) (v := ?_) rfl (by kernel_rfl) ?_ ?_
        rotate_left
        · first | (go_simp; done) | (go_simp; with_reducible rfl)
        skip
        try simp only [Act.put, List.setIfInBounds_toArray, List.set_cons_zero, List.set_cons_succ]
        refine ci_step (i := 6) (v := ?_) rfl (by kernel_rfl) ?_ ?_
        rotate_left
        · first | (go_simp; done) | (go_simp; with_reducible rfl)
        skip
        try simp only [Act.put, List.setIfInBounds_toArray, List.set_cons_zero, List.set_cons_succ]
        refine ci_step (i := 7) (v := ?_) rfl (by kernel_rfl) ?_ ?_
        rotate_left
        · first | (go_simp; done) | (go_simp; with_reducible rfl)
        skip
        try simp only [Act.put, List.setIfInBounds_toArray, List.set_cons_zero, List.set_cons_succ]
        refine ci_step (i := 8) (v := ?_) rfl (by kernel_rfl) ?_ ?_
        rotate_left
        · first | (go_simp; done) | (go_simp; with_reducible rfl)
        skip
        try simp only [Act.put, List.setIfInBounds_toArray, List.set_cons_zero, List.set_cons_succ]
        refine ci_end ?_
        rfl
      refine draw_eff (i := 9) rfl (by kernel_rfl) (listed' := #[true, true, true, true, true, true, true, true, true, true, false, false]) rfl (fun K hK => ?_)
      replace hK := Lib.hid hK
      go_wp2_with fail
      refine hK.out _ _ ⟨fun _ => below_dd ((Below.refl _ W).alloc (Nat.le_refl _) _), ?_⟩
      clear hK
      refine draw_eff (i := 10) rfl (by kernel_rfl) (listed' := #[true, true, true, true, true, true, true, true, true, true, true, false]) rfl (fun K hK => ?_)
      replace hK := Lib.hid hK
      go_wp2_with fail
      refine hK.out _ _ ⟨fun _ => below_dd (below_two ((Below.refl _ W).alloc (Nat.le_refl _) _) ((Below.refl _ W).alloc (Nat.le_refl _) _) (by simp)), ?_⟩
      clear hK
      refine draw_chunk (n := 64) (by kernel_rfl) (fun _ _ _ _ _ h => h) [11] [] _ #[true, true, true, true, true, true, true, true, true, true, true, true] (by kernel_rfl) 0 _ ?_ _ rfl ?_ ?_
      rotate_left
      · intro w' hw'
        have hc' : ∀ b o, b < W.heap.size → w'.cell? ⟨b, o, none⟩ = ((W.alloc (.cells #[.int .u32 (0 : Int), .int .u16 (0 : Int)] 30)).drew).cell? ⟨b, o, none⟩ := fun b o h => hw'.cell (p := ⟨b, o, none⟩) h
        refine ci_step (i := 11) (v := ?_) rfl (by kernel_rfl) ?_ ?_
        rotate_left
        · first | (go_simp; done) | (go_simp; with_reducible rfl)
        skip
        try simp only [Act.put, List.setIfInBounds_toArray, List.set_cons_zero, List.set_cons_succ]
        refine ci_end ?_
        rfl
      refine draw_done (by kernel_rfl) ?_ _
      have q0 := kR2.cell 0
      have q3 := kR2.cell 3
      have q4 := kR2.cell 4
      have q5 := kR2.cell 5
      have q6 := kR2.cell 6
      have q7 := kR2.cell 7
      have q8 := kR2.cell 8
      simp only [List.getElem?_toArray, List.getElem?_cons_zero, List.getElem?_cons_succ] at q0 q3 q4 q5 q6 q7 q8
      go_wp2_with fail
      obtain ⟨w1, hrun, hM, hK1⟩ := run_mapUpdate key_keys Try.underlying43 (hm.alloc (.cells #[.int .u32 0, .int .u16 0] 30)).drew.drew ⟨a, l, rid⟩ (rs, rm)
      simp only [Key.val, dstV] at hrun
      refine draw_start [7] Later (by kernel_rfl) ?_
      refine draw_chunk (n := 64) (by kernel_rfl) (fun _ _ _ _ _ h => h) [0, 1, 2, 3, 4, 5, 6] [] _ #[true, true, true, true, true, true, true, false] (by kernel_rfl) 1 _ ?_ _ rfl ?_ ?_
      rotate_left
      · intro w' hw'
        have hc' : ∀ b o, b < ((W.alloc (.cells #[.int .u32 0, .int .u16 0] 30)).drew).heap.size → w'.cell? ⟨b, o, none⟩ = ((W.alloc (.cells #[.int .u32 0, .int .u16 0] 30)).drew).cell? ⟨b, o, none⟩ := (bcell hw').1
        refine ci_step (i := 0) (v := ?_) rfl (by kernel_rfl) ?_ ?_
        rotate_left
        · first | (go_simp; done) | (go_simp; with_reducible rfl)
        skip
        try simp only [Act.put, List.setIfInBounds_toArray, List.set_cons_zero, List.set_cons_succ]
        refine ci_step (i := 1) (v := ?_) rfl (by kernel_rfl) ?_ ?_
        rotate_left
        · first | (go_simp; done) | (go_simp; with_reducible rfl)
        skip
        try simp only [Act.put, List.setIfInBounds_toArray, List.set_cons_zero, List.set_cons_succ]
        refine ci_step (i := 2) (v := ?_) rfl (by kernel_rfl) ?_ ?_
        rotate_left
        · first | (go_simp; done) | (go_simp; with_reducible rfl)
        skip
        try simp only [Act.put, List.setIfInBounds_toArray, List.set_cons_zero, List.set_cons_succ]
        refine ci_step (i := 3) (v := ?_) rfl (by kernel_rfl) ?_ ?_
        rotate_left
        · first | (go_simp; done) | (go_simp; with_reducible rfl)
        skip
        try simp only [Act.put, List.setIfInBounds_toArray, List.set_cons_zero, List.set_cons_succ]
        refine ci_step (i := 4) (v := ?_) rfl (by kernel_rfl) ?_ ?_
        rotate_left
        · first | (go_simp; done) | (go_simp; with_reducible rfl)
        skip
        try simp only [Act.put, List.setIfInBounds_toArray, List.set_cons_zero, List.set_cons_succ]
        refine ci_step (i := 5) (v := ?_) rfl (by kernel_rfl) ?_ ?_
        rotate_left
        · first | (go_simp; done) | (go_simp; with_reducible rfl)
        skip
        try simp only [Act.put, List.setIfInBounds_toArray, List.set_cons_zero, List.set_cons_succ]
        refine ci_step (i := 6) (v := ?_) rfl (by kernel_rfl) ?_ ?_
        rotate_left
        · first | (go_simp; done) | (go_simp; with_reducible rfl)
        skip
        try simp only [Act.put, List.setIfInBounds_toArray, List.set_cons_zero, List.set_cons_succ]
        refine ci_end ?_
        rfl
      refine draw_eff (i := 7) rfl (by kernel_rfl) (listed' := #[true, true, true, true, true, true, true, true]) rfl (fun K hK => ?_)
      replace hK := Lib.hid hK
      go_wp2_with fail
      refine hK.out _ _ ⟨fun h => absurd (by decide) h, ?_⟩
      clear hK
      refine draw_done (by kernel_rfl) ?_ _
      go_wp2
      refine bodyPost_end (results_none rfl _ _ _) rfl ⟨rfl, ⟨?_, ?_, ?_, hs1, hs2, h12⟩, ?_⟩
      · rw [HA.out]; exact hK1.blk (kB2.alloc (.cells #[.int .u32 0, .int .u16 0] 30)).drew.drew (by simpa using hs2)
      · rw [HA.out]; exact ((kM12.alloc (.cells #[.int .u32 0, .int .u16 0] 30)).drew.drew).kept hK1 (by simpa using h12)
      · rw [HA.out]; exact hM
      · exact (kept_drew (kept_drew (kept_alloc kK2 _))).trans (hK1.more (by simp))
    | some f =>
      obtain ⟨fs, fm⟩ := f
      cases hgt : gtB (rs, rm) (fs, fm) with
      | true =>
        have HA := Lib.hid (show St.apply ⟨id, lease, own, fl⟩ ⟨4, gen, lsn, rid, a, l, on, rs, rm⟩ = ⟨id, lease, own, updM fl ⟨a, l, rid⟩ (rs, rm)⟩ by simp [St.apply, noteFl, hg, hgt])
        have hgt' : 0 < distCmp rs rm fs fm := by simpa [gtB] using hgt
        clear hgt
        go_enter Try.func16, Try.ntmps16
        go_wp2_with fail
        have kB2 := kB.alloc (.cells #[.int .u32 a, .int .i64 l, .int .u32 rid] 27)
        have kM12 := kM1.alloc (.cells #[.int .u32 a, .int .i64 l, .int .u32 rid] 27)
        have hm := kM2.alloc (.cells #[.int .u32 a, .int .i64 l, .int .u32 rid] 27)
        have kR2 := kR.alloc (.cells #[.int .u32 a, .int .i64 l, .int .u32 rid] 27)
        have kK2 := kept_alloc kK (.cells #[.int .u32 a, .int .i64 l, .int .u32 rid] 27)
        have kY := Blk.new (w.alloc (.cells #[.int .i64 4, .int .u32 gen, .int .u32 lsn, .int .u32 rid, .int .u32 a, .int .i64 l, .bool on, .int .u32 rs, .int .u16 rm] 39)) 27 #[.int .u32 a, .int .i64 l, .int .u32 rid]
        simp only [World.size_alloc] at kY
        generalize hW : (w.alloc (.cells #[.int .i64 4, .int .u32 gen, .int .u32 lsn, .int .u32 rid, .int .u32 a, .int .i64 l, .bool on, .int .u32 rs, .int .u16 rm] 39)).alloc (.cells #[.int .u32 a, .int .i64 l, .int .u32 rid] 27) = W at kB2 kM12 hm kR2 kK2 kY ⊢
        have hsz : W.heap.size = w.heap.size + 1 + 1 := by rw [← hW]; simp
        have hl1 := kB2.lt
        have hl2 := kY.lt
        rw [hsz] at hl1 hl2
        have b0 := kB2.cell 0
        have b1 := kB2.cell 1
        have b2 := kB2.cell 2
        have b3 := kB2.cell 3
        have bf0 := kB2.frozen 0
        have bf1 := kB2.frozen 1
        have bf2 := kB2.frozen 2
        have bf3 := kB2.frozen 3
        simp only [List.getElem?_toArray, List.getElem?_cons_zero, List.getElem?_cons_succ] at b0 b1 b2 b3
        have y0 := kY.cell 0
        have y1 := kY.cell 1
        have y2 := kY.cell 2
        simp only [List.getElem?_toArray, List.getElem?_cons_zero, List.getElem?_cons_succ] at y0 y1 y2
        refine draw_start [] (Below W.heap.size) (by kernel_rfl) ?_
        refine draw_chunk (n := 64) (by kernel_rfl) (fun _ _ _ _ _ h => h) [0, 1, 2, 3, 4, 5, 6, 7, 8] [] _ #[true, true, true, true, true, true, true, true, true, false, false, false] (by kernel_rfl) 3 _ ?_ _ rfl ?_ ?_
        rotate_left
        · intro w' hw'
          have hc' : ∀ b o, b < W.heap.size → w'.cell? ⟨b, o, none⟩ = W.cell? ⟨b, o, none⟩ := fun b o h => hw'.cell (p := ⟨b, o, none⟩) h
          have hl := run_lookup_some key_keys Try.underlying43 (hm.same (hw'.block _ hm.lt)) ⟨a, l, rid⟩ (fs, fm) hg true; simp only [Key.val, dstV] at hl
          refine ci_step (i := 0) (v := ?_) rfl (by kernel_rfl) ?_ ?_
          rotate_left
          · first | (go_simp; done) | (go_simp; with_reducible rfl)
          skip
          try simp only [Act.put, List.setIfInBounds_toArray, List.set_cons_zero, List.set_cons_succ]
          refine ci_step (i := 1) (v := ?_) rfl (by kernel_rfl) ?_ ?_
          rotate_left
          · first | (go_simp; done) | (go_simp; with_reducible rfl)
          skip
          try simp only [Act.put, List.setIfInBounds_toArray, List.set_cons_zero, List.set_cons_succ]
          refine ci_step (i := 2) (v := ?_) rfl (by kernel_rfl) ?_ ?_
          rotate_left
          · first | (go_simp; done) | (go_simp; with_reducible rfl)
          skip
          try simp only [Act.put, List.setIfInBounds_toArray, List.set_cons_zero, List.set_cons_succ]
          refine ci_step (i := 3) (v := ?_) rfl (by kernel_rfl) ?_ ?_
          rotate_left
          · first | (go_simp; done) | (go_simp; with_reducible rfl)
          skip
          try simp only [Act.put, List.setIfInBounds_toArray, List.set_cons_zero, List.set_cons_succ]
          refine ci_step (i := 4) (v := ?_) rfl (by kernel_rfl) ?_ ?_
          rotate_left
          · first | (go_simp; done) | (go_simp; with_reducible rfl)
          skip
          try simp only [Act.put, List.setIfInBounds_toArray, List.set_cons_zero, List.set_cons_succ]
          refine ci_step (i := 5) (v := ?_) rfl (by kernel_rfl) ?_ ?_
          rotate_left
          · first | (go_simp; done) | (go_simp; with_reducible rfl)
          skip
          try simp only [Act.put, List.setIfInBounds_toArray, List.set_cons_zero, List.set_cons_succ]
          refine ci_step (i := 6) (v := ?_) rfl (by kernel_rfl) ?_ ?_
          rotate_left
          · first | (go_simp; done) | (go_simp; with_reducible rfl)
          skip
          try simp only [Act.put, List.setIfInBounds_toArray, List.set_cons_zero, List.set_cons_succ]
          refine ci_step (i := 7) (v := ?_) rfl (by kernel_rfl) ?_ ?_
          rotate_left
          · first | (go_simp; done) | (go_simp; with_reducible rfl)
          skip
          try simp only [Act.put, List.setIfInBounds_toArray, List.set_cons_zero, List.set_cons_succ]
          refine ci_step (i := 8) (v := ?_) rfl (by kernel_rfl) ?_ ?_
          rotate_left
          · first | (go_simp; done) | (go_simp; with_reducible rfl)
          skip
          try simp only [Act.put, List.setIfInBounds_toArray, List.set_cons_zero, List.set_cons_succ]
          refine ci_end ?_
          rfl
        refine draw_eff (i := 9) rfl (by kernel_rfl) (listed' := #[true, true, true, true, true, true, true, true, true, true, false, false]) rfl (fun K hK => ?_)
        replace hK := Lib.hid hK
        go_wp2_with fail
        refine hK.out _ _ ⟨fun _ => below_dd ((Below.refl _ W).alloc (Nat.le_refl _) _), ?_⟩
        clear hK
        refine draw_eff (i := 10) rfl (by kernel_rfl) (listed' := #[true, true, true, true, true, true, true, true, true, true, true, false]) rfl (fun K hK => ?_)
        replace hK := Lib.hid hK
        go_wp2_with fail
        refine hK.out _ _ ⟨fun _ => below_dd (below_two ((Below.refl _ W).alloc (Nat.le_refl _) _) ((Below.refl _ W).alloc (Nat.le_refl _) _) (by simp)), ?_⟩
        clear hK
        refine draw_chunk (n := 64) (by kernel_rfl) (fun _ _ _ _ _ h => h) [11] [] _ #[true, true, true, true, true, true, true, true, true, true, true, true] (by kernel_rfl) 0 _ ?_ _ rfl ?_ ?_
        rotate_left
        · intro w' hw'
          have hc' : ∀ b o, b < W.heap.size → w'.cell? ⟨b, o, none⟩ = ((W.alloc (.cells #[.int .u32 fs, .int .u16 fm] 30)).drew).cell? ⟨b, o, none⟩ := fun b o h => hw'.cell (p := ⟨b, o, none⟩) h
          refine ci_step (i := 11) (v := ?_) rfl (by kernel_rfl) ?_ ?_
          rotate_left
          · first | (go_simp; done) | (go_simp; with_reducible rfl)
          skip
          try simp only [Act.put, List.setIfInBounds_toArray, List.set_cons_zero, List.set_cons_succ]
          refine ci_end ?_
          rfl
        refine draw_done (by kernel_rfl) ?_ _
        have q0 := kR2.cell 0
        have q3 := kR2.cell 3
        have q4 := kR2.cell 4
        have q5 := kR2.cell 5
        have q6 := kR2.cell 6
        have q7 := kR2.cell 7
        have q8 := kR2.cell 8
        simp only [List.getElem?_toArray, List.getElem?_cons_zero, List.getElem?_cons_succ] at q0 q3 q4 q5 q6 q7 q8
        go_wp2_with fail
        refine (dist_Compare _ _ _ _ _).mono ?_
        rintro e w1 ⟨rfl, hb1⟩
        have kB3 := (kB2.alloc (.cells #[.int .u32 fs, .int .u16 fm] 30)).drew.below' hb1
        have kM13 := (kM12.alloc (.cells #[.int .u32 fs, .int .u16 fm] 30)).drew.below hb1
        have hm3 := (hm.alloc (.cells #[.int .u32 fs, .int .u16 fm] 30)).drew.below hb1
        have kR3 := (kR2.alloc (.cells #[.int .u32 fs, .int .u16 fm] 30)).drew.below' hb1
        have kY3 := (kY.alloc (.cells #[.int .u32 fs, .int .u16 fm] 30)).drew.below' hb1
        have kK3 := (kept_drew (kept_alloc kK2 (.cells #[.int .u32 fs, .int .u16 fm] 30))).trans (Kept.of_below hb1)
        clear hb1
        have hl3 := kB3.lt
        have hl4 := kR3.lt
        have hl5 := kY3.lt
        obtain ⟨w2, hrun, hM, hK1⟩ := run_mapUpdate key_keys Try.underlying43 hm3.drew ⟨a, l, rid⟩ (rs, rm)
        simp only [Key.val, dstV] at hrun
        have c0 := kB3.cell 0
        have c1 := kB3.cell 1
        have c2 := kB3.cell 2
        have c3 := kB3.cell 3
        have cf0 := kB3.frozen 0
        have cf1 := kB3.frozen 1
        have cf2 := kB3.frozen 2
        have cf3 := kB3.frozen 3
        simp only [List.getElem?_toArray, List.getElem?_cons_zero, List.getElem?_cons_succ] at c0 c1 c2 c3
        have y0 := kY3.cell 0
        have y1 := kY3.cell 1
        have y2 := kY3.cell 2
        simp only [List.getElem?_toArray, List.getElem?_cons_zero, List.getElem?_cons_succ] at y0 y1 y2
        have p0 := kR3.cell 0
        have p3 := kR3.cell 3
        have p4 := kR3.cell 4
        have p5 := kR3.cell 5
        have p6 := kR3.cell 6
        have p7 := kR3.cell 7
        have p8 := kR3.cell 8
        simp only [List.getElem?_toArray, List.getElem?_cons_zero, List.getElem?_cons_succ] at p0 p3 p4 p5 p6 p7 p8
        go_wp2_with fail
        refine draw_start [7] Later (by kernel_rfl) ?_
        refine draw_chunk (n := 64) (by kernel_rfl) (fun _ _ _ _ _ h => h) [0, 1, 2, 3, 4, 5, 6] [] _ #[true, true, true, true, true, true, true, false] (by kernel_rfl) 1 _ ?_ _ rfl ?_ ?_
        rotate_left
        · intro w' hw'
          have hc' : ∀ b o, b < w1.heap.size → w'.cell? ⟨b, o, none⟩ = w1.cell? ⟨b, o, none⟩ := (bcell hw').1
          refine ci_step (i := 0) (v := ?_) rfl (by kernel_rfl) ?_ ?_
          rotate_left
          · first | (go_simp; done) | (go_simp; with_reducible rfl)
          skip
          try simp only [Act.put, List.setIfInBounds_toArray, List.set_cons_zero, List.set_cons_succ]
          refine ci_step (i := 1) (v := ?_) rfl (by kernel_rfl) ?_ ?_
          rotate_left
          · first | (go_simp; done) | (go_simp; with_reducible rfl)
          skip
          try simp only [Act.put, List.setIfInBounds_toArray, List.set_cons_zero, List.set_cons_succ]
          refine ci_step (i := 2) (v := ?_) rfl (by kernel_rfl) ?_ ?_
          rotate_left
          · first | (go_simp; done) | (go_simp; with_reducible rfl)
          skip
          try simp only [Act.put, List.setIfInBounds_toArray, List.set_cons_zero, List.set_cons_succ]
          refine ci_step (i := 3) (v := ?_) rfl (by kernel_rfl) ?_ ?_
          rotate_left
          · first | (go_simp; done) | (go_simp; with_reducible rfl)
          skip
          try simp only [Act.put, List.setIfInBounds_toArray, List.set_cons_zero, List.set_cons_succ]
          refine ci_step (i := 4) (v := ?_) rfl (by kernel_rfl) ?_ ?_
          rotate_left
          · first | (go_simp; done) | (go_simp; with_reducible rfl)
          skip
          try simp only [Act.put, List.setIfInBounds_toArray, List.set_cons_zero, List.set_cons_succ]
          refine ci_step (i := 5) (v := ?_) rfl (by kernel_rfl) ?_ ?_
          rotate_left
          · first | (go_simp; done) | (go_simp; with_reducible rfl)
          skip
          try simp only [Act.put, List.setIfInBounds_toArray, List.set_cons_zero, List.set_cons_succ]
          refine ci_step (i := 6) (v := ?_) rfl (by kernel_rfl) ?_ ?_
          rotate_left
          · first | (go_simp; done) | (go_simp; with_reducible rfl)
          skip
          try simp only [Act.put, List.setIfInBounds_toArray, List.set_cons_zero, List.set_cons_succ]
          refine ci_end ?_
          rfl
        refine draw_eff (i := 7) rfl (by kernel_rfl) (listed' := #[true, true, true, true, true, true, true, true]) rfl (fun K hK => ?_)
        replace hK := Lib.hid hK
        go_wp2_with fail
        refine hK.out _ _ ⟨fun h => absurd (by decide) h, ?_⟩
        clear hK
        refine draw_done (by kernel_rfl) ?_ _
        go_wp2
        refine bodyPost_end (results_none rfl _ _ _) rfl ⟨rfl, ⟨?_, ?_, ?_, hs1, hs2, h12⟩, ?_⟩
        · rw [HA.out]; exact hK1.blk kB3.drew (by simpa using hs2)
        · rw [HA.out]; exact kM13.drew.kept hK1 (by simpa using h12)
        · rw [HA.out]; exact hM
        · exact (kept_drew kK3).trans (hK1.more (by simp))
      | false =>
        have HA := Lib.hid (show St.apply ⟨id, lease, own, fl⟩ ⟨4, gen, lsn, rid, a, l, on, rs, rm⟩ = ⟨id, lease, own, fl⟩ by simp [St.apply, noteFl, hg, hgt])
        have hgt' : distCmp rs rm fs fm ≤ 0 := by simpa [gtB] using hgt
        clear hgt
        go_enter Try.func16, Try.ntmps16
        go_wp2_with fail
        have kB2 := kB.alloc (.cells #[.int .u32 a, .int .i64 l, .int .u32 rid] 27)
        have kM12 := kM1.alloc (.cells #[.int .u32 a, .int .i64 l, .int .u32 rid] 27)
        have hm := kM2.alloc (.cells #[.int .u32 a, .int .i64 l, .int .u32 rid] 27)
        have kR2 := kR.alloc (.cells #[.int .u32 a, .int .i64 l, .int .u32 rid] 27)
        have kK2 := kept_alloc kK (.cells #[.int .u32 a, .int .i64 l, .int .u32 rid] 27)
        have kY := Blk.new (w.alloc (.cells #[.int .i64 4, .int .u32 gen, .int .u32 lsn, .int .u32 rid, .int .u32 a, .int .i64 l, .bool on, .int .u32 rs, .int .u16 rm] 39)) 27 #[.int .u32 a, .int .i64 l, .int .u32 rid]
        simp only [World.size_alloc] at kY
        generalize hW : (w.alloc (.cells #[.int .i64 4, .int .u32 gen, .int .u32 lsn, .int .u32 rid, .int .u32 a, .int .i64 l, .bool on, .int .u32 rs, .int .u16 rm] 39)).alloc (.cells #[.int .u32 a, .int .i64 l, .int .u32 rid] 27) = W at kB2 kM12 hm kR2 kK2 kY ⊢
        have hsz : W.heap.size = w.heap.size + 1 + 1 := by rw [← hW]; simp
        have hl1 := kB2.lt
        have hl2 := kY.lt
        rw [hsz] at hl1 hl2
        have b0 := kB2.cell 0
        have b1 := kB2.cell 1
        have b2 := kB2.cell 2
        have b3 := kB2.cell 3
        have bf0 := kB2.frozen 0
        have bf1 := kB2.frozen 1
        have bf2 := kB2.frozen 2
        have bf3 := kB2.frozen 3
        simp only [List.getElem?_toArray, List.getElem?_cons_zero, List.getElem?_cons_succ] at b0 b1 b2 b3
        have y0 := kY.cell 0
        have y1 := kY.cell 1
        have y2 := kY.cell 2
        simp only [List.getElem?_toArray, List.getElem?_cons_zero, List.getElem?_cons_succ] at y0 y1 y2
        refine draw_start [] (Below W.heap.size) (by kernel_rfl) ?_
        refine draw_chunk (n := 64) (by kernel_rfl) (fun _ _ _ _ _ h => h) [0, 1, 2, 3, 4, 5, 6, 7, 8] [] _ #[true, true, true, true, true, true, true, true, true, false, false, false] (by kernel_rfl) 3 _ ?_ _ rfl ?_ ?_
        rotate_left
        · intro w' hw'
          have hc' : ∀ b o, b < W.heap.size → w'.cell? ⟨b, o, none⟩ = W.cell? ⟨b, o, none⟩ := fun b o h => hw'.cell (p := ⟨b, o, none⟩) h
          have hl := run_lookup_some key_keys Try.underlying43 (hm.same (hw'.block _ hm.lt)) ⟨a, l, rid⟩ (fs, fm) hg true; simp only [Key.val, dstV] at hl
          refine ci_step (i := 0) (v := ?_) rfl (by kernel_rfl) ?_ ?_
          rotate_left
          · first | (go_simp; done) | (go_simp; with_reducible rfl)
          skip
          try simp only [Act.put, List.setIfInBounds_toArray, List.set_cons_zero, List.set_cons_succ]
          refine ci_step (i := 1) (v := ?_) rfl (by kernel_rfl) ?_ ?_
          rotate_left
          · first | (go_simp; done) | (go_simp; with_reducible rfl)
          skip
          try simp only [Act.put, List.setIfInBounds_toArray, List.set_cons_zero, List.set_cons_succ]
          refine ci_step (i := 2) (v := ?_) rfl (by kernel_rfl) ?_ ?_
          rotate_left
          · first | (go_simp; done) | (go_simp; with_reducible rfl)
          skip
          try simp only [Act.put, List.setIfInBounds_toArray, List.set_cons_zero, List.set_cons_succ]
          refine ci_step (i := 3) (v := ?_) rfl (by kernel_rfl) ?_ ?_
          rotate_left
          · first | (go_simp; done) | (go_simp; with_reducible rfl)
          skip
          try simp only [Act.put, List.setIfInBounds_toArray, List.set_cons_zero, List.set_cons_succ]
          refine ci_step (i := 4) (v := ?_) rfl (by kernel_rfl) ?_ ?_
          rotate_left
          · first | (go_simp; done) | (go_simp; with_reducible rfl)
          skip
          try simp only [Act.put, List.setIfInBounds_toArray, List.set_cons_zero, List.set_cons_succ]
          refine ci_step (i := 5) (v := ?_) rfl (by kernel_rfl) ?_ ?_
          rotate_left
          · first | (go_simp; done) | (go_simp; with_reducible rfl)
          skip
          try simp only [Act.put, List.setIfInBounds_toArray, List.set_cons_zero, List.set_cons_succ]
          refine ci_step (i := 6) (v := ?_) rfl (by kernel_rfl) ?_ ?_
          rotate_left
          · first | (go_simp; done) | (go_simp; with_reducible rfl)
          skip
          try simp only [Act.put, List.setIfInBounds_toArray, List.set_cons_zero, List.set_cons_succ]
          refine ci_step (i := 7) (v := ?_) rfl (by kernel_rfl) ?_ ?_
          rotate_left
          · first | (go_simp; done) | (go_simp; with_reducible rfl)
          skip
          try simp only [Act.put, List.setIfInBounds_toArray, List.set_cons_zero, List.set_cons_succ]
          refine ci_step (i := 8) (v := ?_) rfl (by kernel_rfl) ?_ ?_
          rotate_left
          · first | (go_simp; done) | (go_simp; with_reducible rfl)
          skip
          try simp only [Act.put, List.setIfInBounds_toArray, List.set_cons_zero, List.set_cons_succ]
          refine ci_end ?_
          rfl
        refine draw_eff (i := 9) rfl (by kernel_rfl) (listed' := #[true, true, true, true, true, true, true, true, true, true, false, false]) rfl (fun K hK => ?_)
        replace hK := Lib.hid hK
        go_wp2_with fail
        refine hK.out _ _ ⟨fun _ => below_dd ((Below.refl _ W).alloc (Nat.le_refl _) _), ?_⟩
        clear hK
        refine draw_eff (i := 10) rfl (by kernel_rfl) (listed' := #[true, true, true, true, true, true, true, true, true, true, true, false]) rfl (fun K hK => ?_)
        replace hK := Lib.hid hK
        go_wp2_with fail
        refine hK.out _ _ ⟨fun _ => below_dd (below_two ((Below.refl _ W).alloc (Nat.le_refl _) _) ((Below.refl _ W).alloc (Nat.le_refl _) _) (by simp)), ?_⟩
        clear hK
        refine draw_chunk (n := 64) (by kernel_rfl) (fun _ _ _ _ _ h => h) [11] [] _ #[true, true, true, true, true, true, true, true, true, true, true, true] (by kernel_rfl) 0 _ ?_ _ rfl ?_ ?_
        rotate_left
        · intro w' hw'
          have hc' : ∀ b o, b < W.heap.size → w'.cell? ⟨b, o, none⟩ = ((W.alloc (.cells #[.int .u32 fs, .int .u16 fm] 30)).drew).cell? ⟨b, o, none⟩ := fun b o h => hw'.cell (p := ⟨b, o, none⟩) h
          refine ci_step (i := 11) (v := ?_) rfl (by kernel_rfl) ?_ ?_
          rotate_left
          · first | (go_simp; done) | (go_simp; with_reducible rfl)
          skip
          try simp only [Act.put, List.setIfInBounds_toArray, List.set_cons_zero, List.set_cons_succ]
          refine ci_end ?_
          rfl
        refine draw_done (by kernel_rfl) ?_ _
        have q0 := kR2.cell 0
        have q3 := kR2.cell 3
        have q4 := kR2.cell 4
        have q5 := kR2.cell 5
        have q6 := kR2.cell 6
        have q7 := kR2.cell 7
        have q8 := kR2.cell 8
        simp only [List.getElem?_toArray, List.getElem?_cons_zero, List.getElem?_cons_succ] at q0 q3 q4 q5 q6 q7 q8
        go_wp2_with fail
        refine (dist_Compare _ _ _ _ _).mono ?_
        rintro e w1 ⟨rfl, hb1⟩
        have kB3 := (kB2.alloc (.cells #[.int .u32 fs, .int .u16 fm] 30)).drew.below' hb1
        have kM13 := (kM12.alloc (.cells #[.int .u32 fs, .int .u16 fm] 30)).drew.below hb1
        have hm3 := (hm.alloc (.cells #[.int .u32 fs, .int .u16 fm] 30)).drew.below hb1
        have kR3 := (kR2.alloc (.cells #[.int .u32 fs, .int .u16 fm] 30)).drew.below' hb1
        have kY3 := (kY.alloc (.cells #[.int .u32 fs, .int .u16 fm] 30)).drew.below' hb1
        have kK3 := (kept_drew (kept_alloc kK2 (.cells #[.int .u32 fs, .int .u16 fm] 30))).trans (Kept.of_below hb1)
        clear hb1
        have hl3 := kB3.lt
        have hl4 := kR3.lt
        have hl5 := kY3.lt
        go_wp2
        refine bodyPost_end (results_none rfl _ _ _) rfl ⟨rfl, ⟨?_, ?_, ?_, hs1, hs2, h12⟩, kK3⟩
        · rw [HA.out]; exact kB3
        · rw [HA.out]; exact kM13
        · rw [HA.out]; exact hm3
  · have k2' : (kind == 2) = false := by simpa using k2
    have k3' : (kind == 3) = false := by simpa using k3
    have k4' : (kind == 4) = false := by simpa using k4
    have HA := Lib.hid (show St.apply ⟨id, lease, own, fl⟩ ⟨kind, gen, lsn, rid, a, l, on, rs, rm⟩ = ⟨id, lease, own, fl⟩ by simp [St.apply, k2, k3, k4])
    clear k2 k3 k4
    go_enter Try.func16, Try.ntmps16
    go_wp2
    refine bodyPost_end (results_none rfl _ _ _) rfl ⟨rfl, ?_, kK⟩
    rw [HA.out]
    exact ⟨kB, kM1, kM2, hs1, hs2, h12⟩
end Go.Proofs.Ytnfaeafplaeehaa
