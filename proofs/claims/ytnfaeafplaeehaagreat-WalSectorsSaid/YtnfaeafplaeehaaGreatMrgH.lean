/- own texts of this claim, one behind the other: see the remarks within -/
import Derived.Test.YtnfaeafplaeehaaGreatMrgC
import Derived.Test.YtnfaeafplaeehaaGreatMrgG
import Derived.Deep.MidRow
section
set_option linter.unusedVariables false
set_option linter.unusedSimpArgs false
namespace Go.Proofs.YtnfaeafplaeehaaGreat
open Go.RowKit
/-! A disk: what is safe, what is written and not safe yet, and how many calls go well. -/
theorem Blk.nT {w : World} {g k : Nat} {t u : TypeId} {cs ds : Array Value} (h : Blk w g t cs) (h2 : Blk w k u ds) (ht : t ≠ u) : g ≠ k := fun e => by
  subst e
  unfold Blk at h h2
  rw [h] at h2
  injection h2 with h2
  injection h2 with h3 h4
  exact ht h4
theorem blk_mapD {α β : Type} {W : World} {b g : Nat} {t : TypeId} {cs : Array Value} {ek : α → Value} {ev : β → Value} {m : List (α × β)} (h : Blk W b t cs) (hm : MapAt W g ek ev m) : b ≠ g := by
  rintro rfl
  obtain ⟨es, c, h1, _⟩ := hm
  unfold Blk at h
  rw [h] at h1
  cases h1
abbrev Sec := List Int
def secV (s : Sec) : Value := .agg (u8s s).toArray
def ikey (i : Int) : Value := .int .i64 i
structure DiskAt (W : World) (d g bs : Nat) (sec : List Sec) (lat : List (Int × Sec)) (fl : Int) : Prop where
  d : Blk W d 60 #[.slice (some ⟨bs, 0, none⟩) sec.length sec.length, .map (some g), .int .i64 fl]
  s : Blk W bs 90 (sec.flatMap u8s).toArray
  m : MapAt W g ikey secV lat
  l : ∀ x ∈ sec, x.length = 48
  k : ∀ e ∈ lat, 0 ≤ e.1 ∧ e.1 < sec.length ∧ e.2.length = 48
  n : (lat.map (·.1)).Nodup
  sz : sec.length ≤ 1000
theorem DiskAt.below {W W' : World} {d g bs : Nat} {sec : List Sec} {lat : List (Int × Sec)} {fl : Int} (h : DiskAt W d g bs sec lat fl) (hb : Below W.heap.size W W') : DiskAt W' d g bs sec lat fl := ⟨h.d.below' hb, h.s.below' hb, h.m.below hb, h.l, h.k, h.n, h.sz⟩
def failsF (fl : Int) : Bool × Int := if fl < 0 then (false, fl) else (decide (fl - 1 < 0), fl - 1)
theorem disk_Size (d g bs : Nat) (sec : List Sec) (lat : List (Int × Sec)) (fl : Int) (w : World) (h : DiskAt w d g bs sec lat fl) : Calls Tryz.prog 20 #[.pointer (some ⟨d, 0, none⟩)] w fun e w' => e = .returned (.int .i64 sec.length) ∧ w' = w := by
  have hB := h.d
  have b0 := hB.cell 0
  have b1 := hB.cell 1
  have b2 := hB.cell 2
  simp only [List.getElem?_toArray, List.getElem?_cons_zero, List.getElem?_cons_succ] at b0 b1 b2
  go_enter Tryz.func20, Tryz.ntmps20
  go_wp2
  go_ret
  exact ⟨rfl, rfl⟩
theorem DiskAt.setFail {W : World} {d g bs : Nat} {sec : List Sec} {lat : List (Int × Sec)} {fl : Int} (h : DiskAt W d g bs sec lat fl) (x : Int) : DiskAt (W.setCell ⟨d, 2, none⟩ (.int .i64 x)) d g bs sec lat x :=
  ⟨by have := h.d.set 2 (.int .i64 x); simpa using this, h.s.other (a := ⟨d, 2, none⟩) (h.s.nT h.d (by decide)) _, h.m.setCell _ _, h.l, h.k, h.n, h.sz⟩
theorem disk_fails (d g bs : Nat) (sec : List Sec) (lat : List (Int × Sec)) (fl : Int) (w : World) (h : DiskAt w d g bs sec lat fl) (hf : fl ≤ 9223372036854775807) : Calls Tryz.prog 46 #[.pointer (some ⟨d, 0, none⟩)] w fun e w' => e = .returned (.bool (failsF fl).1) ∧ DiskAt w' d g bs sec lat (failsF fl).2 ∧ Kept [d] w w' := by
  have hB := h.d
  have b0 := hB.cell 0
  have b1 := hB.cell 1
  have b2 := hB.cell 2
  simp only [List.getElem?_toArray, List.getElem?_cons_zero, List.getElem?_cons_succ] at b0 b1 b2
  have b9 := hB.lt
  have bf2 := hB.frozen 2
  unfold failsF
  by_cases h0 : fl < 0
  · rw [if_pos h0]
    have h0' : decide (fl < 0) = true := decide_eq_true h0
    clear h0
    go_enter Tryz.func46, Tryz.ntmps46
    go_wp2
    go_ret
    exact ⟨rfl, h, Kept.refl _ _⟩
  · rw [if_neg h0]
    have h0' : decide (fl < 0) = false := decide_eq_false h0
    have hw : wrap64 (fl - 1) = fl - 1 := by unfold wrap64; omega
    clear h0 hf
    go_enter Tryz.func46, Tryz.ntmps46
    go_wp2
    go_ret
    exact ⟨rfl, h.setFail _, kept_set (Kept.refl _ _) _ _ (.inl (by simp))⟩
end Go.Proofs.YtnfaeafplaeehaaGreat
end
section
set_option linter.unusedVariables false
set_option linter.unusedSimpArgs false
namespace Go.Proofs.YtnfaeafplaeehaaGreat
open Go.RowKit
/-! A disk's sector written. -/
theorem ikey_keys : Keys Tryz.prog 3 ikey := Keys.of_int (fun i => i) (fun _ _ h => h) Tryz.underlying3
theorem run_arrayAt (b off c : Nat) (w : World) : (Instr.arrayAt 90 (.slice (some ⟨b, off, none⟩) 48 c)).run Tryz.prog w = .ok (.pointer (some ⟨b, off, none⟩)) w := by
  simp [Instr.arrayAt, run_underlying Tryz.underlying90]
theorem execLoad {P : Program} {a : Act} {o : Oper} {ty : TypeId} {x : Operand} {p : Addr} {v : Value} {w : World} (ho : o.op = .load ty x) (hx : a.eval x = .pointer (some p)) (h : (loadVar ty p).run P w = .ok v w) : (execOp a.eval o).run P w = .ok (.value v) w := by
  unfold execOp
  simp only [ho, hx, Instr.loadAt, Instr.sureAddr, Sem.run_bind, Sem.run_pure, Result.andThen_ok, h]
theorem row_range {W : World} {b off n : Nat} {cs : List Value} (h : Row W 1 (some ⟨b, off, none⟩) n cs) (h0 : 0 < n) : W.rangeAt b off cs ∧ b < W.heap.size := by
  obtain ⟨b', off', e, hb, hc⟩ := h.2.2 h0
  cases e
  exact ⟨hc, hb⟩
theorem range_below {W W' : World} {b off : Nat} {cs : List Value} (h : W.rangeAt b off cs) (hb : b < W.heap.size) (hB : Below W.heap.size W W') : W'.rangeAt b off cs := fun j v hj => (hB.cell (p := ⟨b, off + j, none⟩) hb).trans (h j v hj)
theorem disk_Write_bad (i : Int) (l : Nat) (A : Option Addr) (c : Nat) (d g bs : Nat) (sec : List Sec) (lat : List (Int × Sec)) (fl : Int) (w : World) (h : DiskAt w d g bs sec lat fl) (hl : l ≤ 1000000) (hbad : i < 0 ∨ (sec.length : Int) ≤ i ∨ l ≠ 48) :
    Calls Tryz.prog 44 #[.pointer (some ⟨d, 0, none⟩), .int .i64 i, .slice A l c] w fun e w' => e = .returned (.int .i64 1) ∧ w' = w := by
  have hB := h.d
  have b0 := hB.cell 0
  have b1 := hB.cell 1
  have b2 := hB.cell 2
  simp only [List.getElem?_toArray, List.getElem?_cons_zero, List.getElem?_cons_succ] at b0 b1 b2
  by_cases h0 : i < 0
  · have h0' : decide (i < 0) = true := decide_eq_true h0
    clear h0 hbad
    go_enter Tryz.func44, Tryz.ntmps44
    go_wp2
    go_ret
    exact ⟨rfl, rfl⟩
  · have h0' : decide (i < 0) = false := decide_eq_false h0
    by_cases h1 : (sec.length : Int) ≤ i
    · have h1' : decide ((sec.length : Int) ≤ i) = true := decide_eq_true h1
      clear h0 h1 hbad
      go_enter Tryz.func44, Tryz.ntmps44
      go_wp2
      go_ret
      exact ⟨rfl, rfl⟩
    · have h1' : decide ((sec.length : Int) ≤ i) = false := decide_eq_false h1
      have h2 : ((l : Int) != 48) = true := bne_iff_ne.2 (by omega)
      clear h0 h1 hbad
      go_enter Tryz.func44, Tryz.ntmps44
      go_wp2
      go_ret
      exact ⟨rfl, rfl⟩
set_option maxRecDepth 100000 in
set_option maxHeartbeats 2000000 in
theorem disk_Write_ok (i : Int) (l : Sec) (A : Option Addr) (c : Nat) (d g bs : Nat) (sec : List Sec) (lat : List (Int × Sec)) (fl : Int) (w : World) (h : DiskAt w d g bs sec lat fl) (hf : fl ≤ 9223372036854775807) (hr : Row w 1 A l.length (u8s l)) (hl : l.length = 48) (hc : 48 ≤ c) (hi : 0 ≤ i ∧ i < sec.length) (hA : ∀ b off, A = some ⟨b, off, none⟩ → b ≠ d ∧ b ≠ g) :
    Calls Tryz.prog 44 #[.pointer (some ⟨d, 0, none⟩), .int .i64 i, .slice A l.length c] w fun e w' => e = .returned (.int .i64 (if (failsF fl).1 = true then 4 else 0)) ∧ DiskAt w' d g bs sec (if (failsF fl).1 = true then lat else updM lat i l) (failsF fl).2 ∧ Kept [d, g] w w' := by
  have hB := h.d
  have b0 := hB.cell 0
  have b1 := hB.cell 1
  have b2 := hB.cell 2
  simp only [List.getElem?_toArray, List.getElem?_cons_zero, List.getElem?_cons_succ] at b0 b1 b2
  have h0' : decide (i < 0) = false := decide_eq_false (by omega)
  have h1' : decide ((sec.length : Int) ≤ i) = false := decide_eq_false (by omega)
  have h2 : ((l.length : Int) != 48) = false := bne_eq_false_iff_eq.2 (by omega)
  obtain ⟨b, off, rfl, -, -⟩ := hr.2.2 (by omega)
  obtain ⟨hrg, hbl⟩ := row_range hr (by omega)
  have hF := disk_fails d g bs sec lat fl w h hf
  generalize failsF fl = q at *
  obtain ⟨qb, qf⟩ := q
  simp only at hF ⊢
  have HL := Lib.hid hl
  have HI := Lib.hid hi
  have HU := Lib.hid (show (u8s l).length = 48 by unfold u8s; rw [List.length_map]; exact hl)
  obtain ⟨hbd, hbg⟩ := hA b off rfl
  have HBD := Lib.hid hbd
  clear hr hi hA hbd hbg
  go_enter Tryz.func44, Tryz.ntmps44
  go_wp2_with fail
  refine hF.mono ?_
  rintro e w1 ⟨rfl, hD, hk⟩
  cases qb with
  | true =>
    go_wp2
    go_ret
    exact ⟨rfl, hD, hk.more (by simp)⟩
  | false =>
    go_wp2_with fail
    have hrg1 : w1.rangeAt b off (u8s l) := fun j v hj => (World.cell?_of_block (w := w) (hk.block b hbl (by simpa using HBD.out))).trans (hrg j v hj)
    have hbl1 := Nat.lt_of_lt_of_le hbl hk.size
    obtain ⟨w2, hup, hM2, hk2⟩ := run_mapUpdate ikey_keys Tryz.underlying58 hD.m.drew i l
    simp only [ikey, secV] at hup
    have hD1 := hD.d
    have d9 := hD1.lt
    have d0 := hD1.cell 0
    have d1 := hD1.cell 1
    simp only [List.getElem?_toArray, List.getElem?_cons_zero, List.getElem?_cons_succ] at d0 d1
    clear b0 b1 b2 hB hF hrg hbl
    refine draw_start [8] Later (by kernel_rfl) ?_
    refine draw_chunk (n := 35) (by kernel_rfl) (fun _ _ _ _ _ h => h) [0, 1, 2, 3, 4, 5, 6, 7] [] _ #[true, true, true, true, true, true, true, true, false] (by kernel_rfl) 1 _ ?_ _ rfl ?_ ?_
    rotate_left
    · intro w' hw'
      have hc' : ∀ b o, b < w1.heap.size → w'.cell? ⟨b, o, none⟩ = w1.cell? ⟨b, o, none⟩ := (bcell hw').1
      have har := run_arrayAt b off c; have hld := run_loadVar_mid (P := Tryz.prog) w' b off 90 (u8s l) _ (fun j v hj => (hc' b (off + j) hbl1).trans (hrg1 j v hj)) Tryz.underlying90 rfl (by rw [HU.out]; kernel_rfl)
      iterate 7
        refine ci_step (v := ?_) rfl (by kernel_rfl) ?_ ?_
        rotate_left
        · first | (go_simp; done) | (go_simp; with_reducible rfl)
        try simp only [Act.put, List.setIfInBounds_toArray, List.set_cons_zero, List.set_cons_succ]
      refine ci_step (i := 7) (v := ?_) rfl (by kernel_rfl) ?_ ?_
      rotate_left
      · refine (execLoad rfl rfl hld).trans ?_; with_reducible rfl
      skip
      try simp only [Act.put, List.setIfInBounds_toArray, List.set_cons_zero, List.set_cons_succ]
      refine ci_end ?_
      rfl
    refine draw_eff (i := 8) rfl (by kernel_rfl) (listed' := #[true, true, true, true, true, true, true, true, true]) rfl (fun K hK => ?_)
    replace hK := Lib.hid hK
    go_wp2_with fail
    refine hK.out _ _ ⟨fun h => absurd (by decide) h, ?_⟩
    clear hK
    refine draw_done (by kernel_rfl) ?_ _
    go_wp2
    go_ret
    refine ⟨rfl, ⟨hk2.blk hD.d.drew (by simpa using blk_mapD hD.d hD.m), hk2.blk hD.s.drew (by simpa using blk_mapD hD.s hD.m), hM2, hD.l, fun e he => ?_, nodup_updM _ _ _ hD.n, hD.sz⟩, ((kept_drew hk).more (by simp)).trans (hk2.more (by simp))⟩
    rcases updM_keys _ _ _ e he with rfl | he
    · exact ⟨HI.out.1, HI.out.2, HL.out⟩
    · exact hD.k e he
end Go.Proofs.YtnfaeafplaeehaaGreat
end
