/- own texts of this claim, one behind the other: see the remarks within -/
import Derived.Test.YtnfaeafplaeehaaGreatMrgM
import Derived.Test.YtnfaeafplaeehaaGreatMrgO
import Derived.Test.YtnfaeafplaeehaaGreatMrgG
section
set_option linter.unusedVariables false
set_option linter.unusedSimpArgs false
namespace Go.Proofs.YtnfaeafplaeehaaGreat
open Go.RowKit
/-! All that must not be forgotten, in the other region. -/
def compactM (c : LogC) (σ : St) (D : DiskM) : Int × LogC × DiskM :=
  if c.half < ((recsM σ).length : Int) + 2 then (5, c, D)
  else match layM c (recsM σ) D with
    | (e, b, D1) =>
      if e ≠ 0 then (e, { c with laid := b }, D1)
      else match putD D1 c.half (1 - c.reg) 0 (begRec (IntKind.u32.wrap (c.gen + 1)) σ.id) with
        | (e, D2) =>
          if e ≠ 0 then (e, { c with laid := b }, D2)
          else match syncD D2 with
            | (e, D3) => if e ≠ 0 then (e, { c with laid := b }, D3) else (0, ⟨c.half, 1 - c.reg, IntKind.u32.wrap (c.gen + 1), ((recsM σ).length : Int) + 1, false⟩, D3)
theorem compact_full {c : LogC} {σ : St} {D : DiskM} (h : c.half < ((recsM σ).length : Int) + 2) : compactM c σ D = (5, c, D) := by
  unfold compactM; rw [if_pos h]
theorem compact_e1 {c : LogC} {σ : St} {D D1 : DiskM} {e : Int} {b : Bool} (h : ¬c.half < ((recsM σ).length : Int) + 2) (hl : layM c (recsM σ) D = (e, b, D1)) (he : e ≠ 0) : compactM c σ D = (e, { c with laid := b }, D1) := by
  unfold compactM; rw [if_neg h, hl]; simp only; rw [if_pos he]
theorem compact_e2 {c : LogC} {σ : St} {D D1 D2 : DiskM} {e : Int} {b : Bool} (h : ¬c.half < ((recsM σ).length : Int) + 2) (hl : layM c (recsM σ) D = (0, b, D1)) (hp : putD D1 c.half (1 - c.reg) 0 (begRec (IntKind.u32.wrap (c.gen + 1)) σ.id) = (e, D2)) (he : e ≠ 0) : compactM c σ D = (e, { c with laid := b }, D2) := by
  unfold compactM; rw [if_neg h, hl]; simp only [hp, ne_eq, not_true_eq_false, if_false]; rw [if_pos he]
theorem compact_e3 {c : LogC} {σ : St} {D D1 D2 D3 : DiskM} {e : Int} {b : Bool} (h : ¬c.half < ((recsM σ).length : Int) + 2) (hl : layM c (recsM σ) D = (0, b, D1)) (hp : putD D1 c.half (1 - c.reg) 0 (begRec (IntKind.u32.wrap (c.gen + 1)) σ.id) = (0, D2)) (hs : syncD D2 = (e, D3)) (he : e ≠ 0) : compactM c σ D = (e, { c with laid := b }, D3) := by
  unfold compactM; rw [if_neg h, hl]; simp only [hp, hs, ne_eq, not_true_eq_false, if_false]; rw [if_pos he]
theorem compact_ok {c : LogC} {σ : St} {D D1 D2 D3 : DiskM} {b : Bool} (h : ¬c.half < ((recsM σ).length : Int) + 2) (hl : layM c (recsM σ) D = (0, b, D1)) (hp : putD D1 c.half (1 - c.reg) 0 (begRec (IntKind.u32.wrap (c.gen + 1)) σ.id) = (0, D2)) (hs : syncD D2 = (0, D3)) : compactM c σ D = (0, ⟨c.half, 1 - c.reg, IntKind.u32.wrap (c.gen + 1), ((recsM σ).length : Int) + 1, false⟩, D3) := by
  unfold compactM; rw [if_neg h, hl]; simp only [hp, hs, ne_eq, not_true_eq_false, if_false]
theorem layM_fl (c : LogC) (l : List Rec) (D : DiskM) (h : D.fl ≤ 9223372036854775807) : (layM c l D).2.2.fl ≤ 9223372036854775807 := by
  have h2 := layN_fl c.half (1 - c.reg) (IntKind.u32.wrap (c.gen + 1)) l 0 D h
  unfold layM
  split
  · exact h
  · split
    · exact h2
    · unfold syncD
      split <;> exact failsF_le _ h2
theorem sep_d {L d g bs s g1 g2 : Nat} (h : WSep L d g bs s g1 g2) : L ∉ [d, g, bs] ∧ s ∉ [L, d, g, bs] ∧ g1 ∉ [L, d, g, bs] ∧ g2 ∉ [L, d, g, bs] := by
  have h1 := h.l
  have h2 := h.d
  have h3 := h.g
  have h4 := h.b
  simp only [List.mem_cons, List.not_mem_nil, or_false, not_or] at *
  omega
set_option maxRecDepth 100000 in
set_option maxHeartbeats 4000000 in
theorem wal_compact (L d s g bs g1 g2 : Nat) (c : LogC) (σ : St) (D : DiskM) (w : World) (hW : WalAt w L d g bs s g1 g2 c σ D) (hf : D.fl ≤ 9223372036854775807) (hh : 0 ≤ c.half ∧ c.half ≤ 1000) (hr : c.reg = 0 ∨ c.reg = 1) (hid : 0 ≤ σ.id ∧ σ.id ≤ 4294967295)
    (hN1 : σ.own.length ≤ 1000) (hN2 : σ.fl.length ≤ 1000) (hro : RecsOk (recsM σ)) :
    Calls Tryz.prog 31 #[.pointer (some ⟨L, 0, none⟩)] w fun e w' => e = .returned (.int .i64 (compactM c σ D).1) ∧ WalAt w' L d g bs s g1 g2 (compactM c σ D).2.1 σ (compactM c σ D).2.2 ∧ Kept [L, d, g, bs] w w' := by
  obtain ⟨hL, hD, hS, hsep⟩ := hW
  have hRc := callsIn_wide (n := 9) |>.1 (state_Records σ s g1 g2 w hS hN1 hN2)
  have HH := Lib.hid hh
  have HR := Lib.hid hr
  have HSEP := Lib.hid hsep
  have HSD := Lib.hid (sep_d hsep)
  have HID := Lib.hid hid
  have HRO := Lib.hid hro
  have hD9 : d < w.heap.size ∧ g < w.heap.size ∧ bs < w.heap.size := ⟨hD.d.lt, hD.m.lt, hD.s.lt⟩
  have HD9 := Lib.hid hD9
  clear hh hr hsep hid hro hN1 hN2 hD9
  obtain ⟨half, reg, gen, next, laid⟩ := c
  simp only at HH HR ⊢
  have hLb : Blk w L _ _ := hL
  have l0 := hLb.cell 0
  have l1 := hLb.cell 1
  have l2 := hLb.cell 2
  have l3 := hLb.cell 3
  have l4 := hLb.cell 4
  have l5 := hLb.cell 5
  have l6 := hLb.cell 6
  simp only [List.getElem?_toArray, List.getElem?_cons_zero, List.getElem?_cons_succ] at l0 l1 l2 l3 l4 l5 l6
  have l9 := hLb.lt
  go_enter Tryz.func31, Tryz.ntmps31
  go_wp2_with fail
  refine hRc.mono ?_
  rintro e w1 ⟨A, cap, rfl, hrow, hfr, hb1⟩
  replace hL := hL.below hb1
  replace hD : DiskD w1 d g bs D := hD.below hb1
  replace hS := hS.below hb1
  have hk1 : Kept [L, d, g, bs] w w1 := Kept.of_below hb1
  have hA : ∀ b off, A = some ⟨b, off, none⟩ → b ∉ [d, g, bs] := fun b off h => by
    have h1 := hfr b off h
    have h2 := HD9.out
    simp only [List.mem_cons, List.not_mem_nil, or_false, not_or]
    omega
  clear hb1 hfr hRc l0 l1 l2 l3 l4 l5 l6 l9 hLb
  have hC0 := compact_full (c := ⟨half, reg, gen, next, laid⟩) (σ := σ) (D := D)
  have hC1 := fun D1 e b => compact_e1 (c := ⟨half, reg, gen, next, laid⟩) (σ := σ) (D := D) (D1 := D1) (e := e) (b := b)
  have hC2 := fun D1 D2 e b => compact_e2 (c := ⟨half, reg, gen, next, laid⟩) (σ := σ) (D := D) (D1 := D1) (D2 := D2) (e := e) (b := b)
  have hC3 := fun D1 D2 D3 e b => compact_e3 (c := ⟨half, reg, gen, next, laid⟩) (σ := σ) (D := D) (D1 := D1) (D2 := D2) (D3 := D3) (e := e) (b := b)
  have hC4 := fun D1 D2 D3 b => compact_ok (c := ⟨half, reg, gen, next, laid⟩) (σ := σ) (D := D) (D1 := D1) (D2 := D2) (D3 := D3) (b := b)
  simp only at hC0 hC1 hC2 hC3 hC4
  generalize hRS : recsM σ = RS at *
  clear hRS
  have hlen := hrow.2.1
  have hw1 : IntKind.i64.wrap ((RS.length : Int) + 2) = (RS.length : Int) + 2 := by rw [IntKind.wrap_i64]; omega
  have hw2 : wrap64 ((RS.length : Int) + 2) = (RS.length : Int) + 2 := by unfold wrap64; omega
  have hw3 : IntKind.i64.wrap ((RS.length : Int) + 1) = (RS.length : Int) + 1 := by rw [IntKind.wrap_i64]; omega
  have hw4 : wrap64 ((RS.length : Int) + 1) = (RS.length : Int) + 1 := by unfold wrap64; omega
  have HW3 := Lib.hid hw3
  have HW4 := Lib.hid hw4
  clear hw3 hw4
  have hLb : Blk w1 L _ _ := hL
  have l0 := hLb.cell 0
  have l1 := hLb.cell 1
  have l2 := hLb.cell 2
  have l3 := hLb.cell 3
  have l4 := hLb.cell 4
  have l5 := hLb.cell 5
  have l6 := hLb.cell 6
  simp only [List.getElem?_toArray, List.getElem?_cons_zero, List.getElem?_cons_succ] at l0 l1 l2 l3 l4 l5 l6
  have l9 := hLb.lt
  by_cases hfull : half < (RS.length : Int) + 2
  · have dfl : decide (half < (RS.length : Int) + 2) = true := decide_eq_true hfull
    have HQ := Lib.hid (hC0 hfull)
    clear hC0 hC1 hC2 hC3 hC4 hfull
    go_wp2
    go_ret
    rw [HQ.out]
    exact ⟨rfl, ⟨hL, hD, hS, HSEP.out⟩, hk1⟩
  · have dfl : decide (half < (RS.length : Int) + 2) = false := decide_eq_false hfull
    have hlen2 : RS.length ≤ 1000 := by have := HH.out; omega
    have hLy := fun W h1 h2 h3 => wal_lay L d s g bs ⟨half, reg, gen, next, laid⟩ D RS A cap W h1 h2 HSD.out.1 hf HH.out HR.out h3 HRO.out hlen2 (fun _ => hA)
    have hfl2 := layM_fl ⟨half, reg, gen, next, laid⟩ RS D hf
    obtain ⟨o, ho⟩ : ∃ o, 1 - reg = o := ⟨_, rfl⟩
    have hoo : o = 0 ∨ o = 1 := by have := HR.out; omega
    have hw5 : IntKind.i64.wrap (1 - reg) = o := by rw [IntKind.wrap_i64]; omega
    have hw6 : wrap64 (1 - reg) = o := by unfold wrap64; omega
    have hgr : 0 ≤ IntKind.u32.wrap (gen + 1) ∧ IntKind.u32.wrap (gen + 1) ≤ 4294967295 := by rw [IntKind.wrap_u32]; omega
    have HFULL := Lib.hid hfull
    have HO := Lib.hid hoo
    rw [ho] at hC2 hC3 hC4
    clear hfull hC0 hoo ho hlen2
    generalize hgg : IntKind.u32.wrap (gen + 1) = gg at *
    have HGR := Lib.hid hgr
    clear hgr
    go_wp2_with fail
    go_quiet (fail)
    rename_i nq
    have hL2 : LogB (w1.drewN nq) L d s _ := hL.drewN nq
    have hS2 := hS.drewN nq
    have hD2 : DiskD (w1.drewN nq) d g bs D := hD.below (below_drewN (Below.refl _ _) nq)
    have hk2 : Kept [L, d, g, bs] w (w1.drewN nq) := hk1.drewN nq
    have hrow2 : Row (w1.drewN nq) 9 A RS.length (recs RS) := hrow.below (below_drewN (Below.refl _ _) nq)
    clear hL hS hD hk1 hrow hLb l0 l1 l2 l3 l4 l5 l6 l9 hw1 hw2 hw5 hw6 hgg dfl
    generalize w1.drewN nq = W2 at *
    go_wp2_with fail
    refine (hLy W2 hL2 hD2 hrow2).mono ?_
    rintro e w3 ⟨rfl, hL3, hD3, hk3⟩
    replace hS2 := hS2.kept hk3 HSD.out.2.1 HSD.out.2.2.1 HSD.out.2.2.2
    replace hk2 := hk2.trans hk3
    cases hl : layM ⟨half, reg, gen, next, laid⟩ RS D with
    | mk e1 q =>
    obtain ⟨b, D1⟩ := q
    rw [hl] at hL3 hD3 hfl2
    simp only at hL3 hD3 hfl2 ⊢
    clear hLy hk3 hL2 hD2 hrow2 hA
    by_cases he : e1 = 0
    · subst he
      have hLb : Blk w3 L _ _ := hL3
      have l0 := hLb.cell 0
      have l1 := hLb.cell 1
      have l2 := hLb.cell 2
      have l3 := hLb.cell 3
      have l4 := hLb.cell 4
      have l5 := hLb.cell 5
      have l6 := hLb.cell 6
      simp only [List.getElem?_toArray, List.getElem?_cons_zero, List.getElem?_cons_succ] at l0 l1 l2 l3 l4 l5 l6
      have l9 := hLb.lt
      go_wp2_with fail
      refine (wstate_ID σ s g1 g2 _ hS2).mono ?_
      rintro e w4 ⟨rfl, rfl⟩
      have hP := wal_putD o 0 (begRec gg σ.id) L d s g bs _ D1 w4 hL3 hD3 hfl2 (by have := HID.out; have := HGR.out; unfold Rec.ok begRec; simp only; omega) HH.out HO.out ⟨by omega, by omega⟩
      have hfp := putD_fl D1 half o 0 (begRec gg σ.id) hfl2
      simp only at hP
      cases hp : putD D1 half o 0 (begRec gg σ.id) with
      | mk e2 D2 =>
      rw [hp] at hP hfp
      simp only [begRec, Rec.val, Rec.arr] at hP
      go_wp2_with fail
      refine hP.mono ?_
      rintro e w6 ⟨rfl, hD6, hk7⟩
      replace hL3 := hL3.kept hk7 HSD.out.1
      replace hS2 := hS2.kept (hk7.more (T := [L, d, g, bs]) (by simp)) HSD.out.2.1 HSD.out.2.2.1 HSD.out.2.2.2
      replace hk2 := hk2.trans (hk7.more (T := [L, d, g, bs]) (by simp))
      clear hP hk7 l0 l1 l2 l3 l4 l5 l6 l9 hLb hD3
      by_cases he2 : e2 = 0
      · subst he2
        have hLb : Blk w6 L _ _ := hL3
        have l0 := hLb.cell 0
        have l1 := hLb.cell 1
        have l2 := hLb.cell 2
        have l3 := hLb.cell 3
        have l4 := hLb.cell 4
        have l5 := hLb.cell 5
        have l6 := hLb.cell 6
        simp only [List.getElem?_toArray, List.getElem?_cons_zero, List.getElem?_cons_succ] at l0 l1 l2 l3 l4 l5 l6
        have l9 := hLb.lt
        go_wp2_with fail
        refine (disk_SyncD d g bs D2 w6 hD6 hfp).mono ?_
        rintro e w7 ⟨rfl, hD7, hk9⟩
        replace hL3 := hL3.kept hk9 HSD.out.1
        replace hS2 := hS2.kept (hk9.more (T := [L, d, g, bs]) (by simp)) HSD.out.2.1 HSD.out.2.2.1 HSD.out.2.2.2
        replace hk2 := hk2.trans (hk9.more (T := [L, d, g, bs]) (by simp))
        cases hs : syncD D2 with
        | mk e3 D3 =>
        rw [hs] at hD7
        simp only at hD7 ⊢
        clear hk9 hD6 l0 l1 l2 l3 l4 l5 l6 l9 hLb
        by_cases he3 : e3 = 0
        · subst he3
          have HQ := Lib.hid (hC4 D1 D2 D3 b HFULL.out hl hp hs)
          clear hl hp hs hC1 hC2 hC3 hC4
          have hw3 := HW3.out
          have hw4 := HW4.out
          have hLb : Blk w7 L _ _ := hL3
          have l0 := hLb.cell 0
          have l1 := hLb.cell 1
          have l2 := hLb.cell 2
          have l3 := hLb.cell 3
          have l4 := hLb.cell 4
          have l5 := hLb.cell 5
          have l6 := hLb.cell 6
          simp only [List.getElem?_toArray, List.getElem?_cons_zero, List.getElem?_cons_succ] at l0 l1 l2 l3 l4 l5 l6
          have l9 := hLb.lt
          have f2 := hLb.frozen 2
          have f3 := hLb.frozen 3
          have f4 := hLb.frozen 4
          have f5 := hLb.frozen 5
          have kL := (((hLb.set 2 (.int .i64 o)).set 3 (.int .u32 gg)).set 4 (.int .i64 ((RS.length : Int) + 1))).set 5 (.bool false)
          simp only [List.setIfInBounds_toArray, List.set_cons_zero, List.set_cons_succ] at kL
          have hks := kept_set (kept_set (kept_set (kept_set (Kept.refl [L] w7) ⟨L, 2, none⟩ (.int .i64 o) (.inl (List.mem_singleton_self L))) ⟨L, 3, none⟩ (.int .u32 gg) (.inl (List.mem_singleton_self L))) ⟨L, 4, none⟩ (.int .i64 ((RS.length : Int) + 1)) (.inl (List.mem_singleton_self L))) ⟨L, 5, none⟩ (.bool false) (.inl (List.mem_singleton_self L))
          go_wp2
          go_ret
          rw [HQ.out]
          exact ⟨rfl, ⟨kL, DiskAt.kept hD7 hks (by have := HSD.out.1; simp at this ⊢; omega) (by have := HSD.out.1; simp at this ⊢; omega) (by have := HSD.out.1; simp at this ⊢; omega), hS2.kept hks (by have := HSD.out.2.1; simp at this ⊢; omega) (by have := HSD.out.2.2.1; simp at this ⊢; omega) (by have := HSD.out.2.2.2; simp at this ⊢; omega), HSEP.out⟩, hk2.trans (hks.more (by simp))⟩
        · have HQ := Lib.hid (hC3 D1 D2 D3 e3 b HFULL.out hl hp hs he3)
          have d9 : (e3 != 0) = true := by simpa using he3
          clear hl hp hs hC1 hC2 hC3 hC4 he3
          go_wp2
          go_ret
          rw [HQ.out]
          exact ⟨rfl, ⟨hL3, hD7, hS2, HSEP.out⟩, hk2⟩
      · have HQ := Lib.hid (hC2 D1 D2 e2 b HFULL.out hl hp he2)
        have d9 : (e2 != 0) = true := by simpa using he2
        clear hl hp hC1 hC2 hC3 hC4 he2
        go_wp2
        go_ret
        rw [HQ.out]
        exact ⟨rfl, ⟨hL3, hD6, hS2, HSEP.out⟩, hk2⟩
    · have HQ := Lib.hid (hC1 D1 e1 b HFULL.out hl he)
      have d9 : (e1 != 0) = true := by simpa using he
      clear hl hC1 hC2 hC3 hC4 he
      go_wp2
      go_ret
      rw [HQ.out]
      exact ⟨rfl, ⟨hL3, hD3, hS2, HSEP.out⟩, hk2⟩
end Go.Proofs.YtnfaeafplaeehaaGreat
end
section
set_option linter.unusedVariables false
set_option linter.unusedSimpArgs false
namespace Go.Proofs.YtnfaeafplaeehaaGreat
open Go.RowKit
/-! A record written into a journal. -/
def appendN (c : LogC) (σ : St) (D : DiskM) (r : Rec) : Int × LogC × St × DiskM :=
  match putD D c.half c.reg c.next { r with gen := c.gen } with
  | (e, D1) =>
    if e ≠ 0 then (e, c, σ, D1)
    else match syncD D1 with
      | (e, D2) => if e ≠ 0 then (e, c, σ, D2) else (0, { c with next := c.next + 1 }, σ.apply { r with gen := c.gen }, D2)
def appendM (c : LogC) (σ : St) (D : DiskM) (r : Rec) : Int × LogC × St × DiskM :=
  if recRightB { r with gen := c.gen, lsn := 0 } = false ∨ r.kind = 1 then (1, c, σ, D)
  else if c.next = c.half then
    match compactM c σ D with
    | (e, c1, D1) => if e ≠ 0 then (e, c1, σ, D1) else appendN c1 σ D1 { r with gen := c.gen, lsn := 0 }
  else appendN c σ D { r with gen := c.gen, lsn := 0 }
theorem appendN_e1 {c : LogC} {σ : St} {D D1 : DiskM} {r : Rec} {e : Int} (hp : putD D c.half c.reg c.next { r with gen := c.gen } = (e, D1)) (he : e ≠ 0) : appendN c σ D r = (e, c, σ, D1) := by
  unfold appendN; rw [hp]; simp only; rw [if_pos he]
theorem appendN_e2 {c : LogC} {σ : St} {D D1 D2 : DiskM} {r : Rec} {e : Int} (hp : putD D c.half c.reg c.next { r with gen := c.gen } = (0, D1)) (hs : syncD D1 = (e, D2)) (he : e ≠ 0) : appendN c σ D r = (e, c, σ, D2) := by
  unfold appendN; rw [hp]; simp only [hs, ne_eq, not_true_eq_false, if_false]; rw [if_pos he]
theorem appendN_ok {c : LogC} {σ : St} {D D1 D2 : DiskM} {r : Rec} (hp : putD D c.half c.reg c.next { r with gen := c.gen } = (0, D1)) (hs : syncD D1 = (0, D2)) : appendN c σ D r = (0, { c with next := c.next + 1 }, σ.apply { r with gen := c.gen }, D2) := by
  unfold appendN; rw [hp]; simp only [hs, ne_eq, not_true_eq_false, if_false]
theorem append_arg {c : LogC} {σ : St} {D : DiskM} {r : Rec} (h : recRightB { r with gen := c.gen, lsn := 0 } = false ∨ r.kind = 1) : appendM c σ D r = (1, c, σ, D) := by
  unfold appendM; rw [if_pos h]
theorem append_e {c c1 : LogC} {σ : St} {D D1 : DiskM} {r : Rec} {e : Int} (h : ¬(recRightB { r with gen := c.gen, lsn := 0 } = false ∨ r.kind = 1)) (hn : c.next = c.half) (hc : compactM c σ D = (e, c1, D1)) (he : e ≠ 0) : appendM c σ D r = (e, c1, σ, D1) := by
  unfold appendM; rw [if_neg h, if_pos hn, hc]; simp only; rw [if_pos he]
theorem append_c {c c1 : LogC} {σ : St} {D D1 : DiskM} {r : Rec} (h : ¬(recRightB { r with gen := c.gen, lsn := 0 } = false ∨ r.kind = 1)) (hn : c.next = c.half) (hc : compactM c σ D = (0, c1, D1)) : appendM c σ D r = appendN c1 σ D1 { r with gen := c.gen, lsn := 0 } := by
  unfold appendM; rw [if_neg h, if_pos hn, hc]; simp only [ne_eq, not_true_eq_false, if_false]
theorem append_n {c : LogC} {σ : St} {D : DiskM} {r : Rec} (h : ¬(recRightB { r with gen := c.gen, lsn := 0 } = false ∨ r.kind = 1)) (hn : c.next ≠ c.half) : appendM c σ D r = appendN c σ D { r with gen := c.gen, lsn := 0 } := by
  unfold appendM; rw [if_neg h, if_neg hn]
theorem syncD_fl (D : DiskM) (h : D.fl ≤ 9223372036854775807) : (syncD D).2.fl ≤ 9223372036854775807 := by
  unfold syncD
  split <;> exact failsF_le _ h
/-- A journal that stands right. -/
structure LogC.good (c : LogC) : Prop where
  half : 2 ≤ c.half ∧ c.half ≤ 1000
  reg : c.reg = 0 ∨ c.reg = 1
  gen : 0 ≤ c.gen ∧ c.gen ≤ 4294967295
  next : 1 ≤ c.next ∧ c.next ≤ c.half
theorem compactM_good {c : LogC} (σ : St) (D : DiskM) (h : c.good) : (compactM c σ D).2.1.good ∧ (compactM c σ D).2.1.half = c.half := by
  have hw : ∀ x : Int, 0 ≤ IntKind.u32.wrap x ∧ IntKind.u32.wrap x ≤ 4294967295 := fun x => by rw [IntKind.wrap_u32]; omega
  have hc : ∀ b : Bool, ({ c with laid := b } : LogC).good := fun b => ⟨h.half, h.reg, h.gen, h.next⟩
  unfold compactM
  split
  · exact ⟨h, rfl⟩
  · rename_i hf
    split
    split
    · exact ⟨hc _, rfl⟩
    · split
      split
      · exact ⟨hc _, rfl⟩
      · split
        split
        · exact ⟨hc _, rfl⟩
        · have := h.reg
          have := h.half
          exact ⟨⟨h.half, by simp only; omega, hw _, by simp only; omega⟩, rfl⟩
theorem compactM_next {c c1 : LogC} {σ : St} {D D1 : DiskM} (h : compactM c σ D = (0, c1, D1)) : c1.next < c1.half := by
  unfold compactM at h
  split at h
  · cases h
  · rename_i hf
    split at h
    split at h
    · rename_i e he
      exact absurd (congrArg Prod.fst h) he
    · split at h
      split at h
      · rename_i e he
        exact absurd (congrArg Prod.fst h) he
      · split at h
        split at h
        · rename_i e he
          exact absurd (congrArg Prod.fst h) he
        · simp only [Prod.mk.injEq] at h
          obtain ⟨-, rfl, -⟩ := h
          simp only
          omega
theorem compactM_fl (c : LogC) (σ : St) (D : DiskM) (h : D.fl ≤ 9223372036854775807) : (compactM c σ D).2.2.fl ≤ 9223372036854775807 := by
  unfold compactM
  have h1 := layM_fl c (recsM σ) D h
  split
  · exact h
  · generalize layM c (recsM σ) D = q at *
    obtain ⟨e, b, D1⟩ := q
    simp only at h1 ⊢
    split
    · exact h1
    · have h2 := putD_fl D1 c.half (1 - c.reg) 0 (begRec (IntKind.u32.wrap (c.gen + 1)) σ.id) h1
      generalize putD D1 c.half (1 - c.reg) 0 (begRec (IntKind.u32.wrap (c.gen + 1)) σ.id) = q at *
      obtain ⟨e, D2⟩ := q
      simp only at h2 ⊢
      split
      · exact h2
      · have h3 := syncD_fl D2 h2
        generalize syncD D2 = q at *
        obtain ⟨e, D3⟩ := q
        simp only at h3 ⊢
        split <;> exact h3
end Go.Proofs.YtnfaeafplaeehaaGreat
end
section
set_option linter.unusedVariables false
set_option linter.unusedSimpArgs false
namespace Go.Proofs.YtnfaeafplaeehaaGreat
open Go.RowKit
/-! Append, walked. -/
theorem blk_off {w : World} {q L d g bs s g1 g2 : Nat} {c : LogC} {σ : St} {D : DiskM} {cs : Array Value} (hQ : Blk w q 41 cs) (h : WalAt w L d g bs s g1 g2 c σ D) : q ≠ L ∧ q ≠ d ∧ q ≠ g ∧ q ≠ bs ∧ q ≠ s ∧ q ≠ g1 ∧ q ≠ g2 :=
  ⟨hQ.nT h.log (by decide), hQ.nT h.disk.d (by decide), blk_mapD hQ h.disk.m, hQ.nT h.disk.s (by decide), hQ.nT h.st.1 (by decide), blk_mapD hQ h.st.2.1, blk_mapD hQ h.st.2.2.1⟩
theorem WalAt.below {w W : World} {L d g bs s g1 g2 : Nat} {c : LogC} {σ : St} {D : DiskM} (h : WalAt w L d g bs s g1 g2 c σ D) (hb : Below w.heap.size w W) : WalAt W L d g bs s g1 g2 c σ D := ⟨h.log.below hb, h.disk.below hb, h.st.below hb, h.sep⟩
theorem WalAt.drewN {w : World} {L d g bs s g1 g2 : Nat} {c : LogC} {σ : St} {D : DiskM} (h : WalAt w L d g bs s g1 g2 c σ D) (n : Nat) : WalAt (w.drewN n) L d g bs s g1 g2 c σ D := h.below (below_drewN (Below.refl _ _) n)
theorem WalAt.kept {w W : World} {S : List Nat} {L d g bs s g1 g2 : Nat} {c : LogC} {σ : St} {D : DiskM} (h : WalAt w L d g bs s g1 g2 c σ D) (hk : Kept S w W) (hS : ∀ x ∈ S, x ∉ [L, d, g, bs, s, g1, g2]) : WalAt W L d g bs s g1 g2 c σ D := by
  have hm : ∀ x, x ∈ [L, d, g, bs, s, g1, g2] → x ∉ S := fun x hx hs => hS x hs hx
  exact ⟨h.log.kept hk (hm _ (by simp)), DiskAt.kept h.disk hk (hm _ (by simp)) (hm _ (by simp)) (hm _ (by simp)), h.st.kept hk (hm _ (by simp)) (hm _ (by simp)) (hm _ (by simp)), h.sep⟩
/-- Where a walk that writes into a journal's blocks may turn the world. -/
abbrev wset (L d g bs s g1 g2 : Nat) : List Nat := [L, d, g, bs, s, g1, g2]
set_option maxRecDepth 100000 in
set_option maxHeartbeats 8000000 in
theorem wal_Append (r : Rec) (L d s g bs g1 g2 : Nat) (c : LogC) (σ : St) (D : DiskM) (w : World) (hW : WalAt w L d g bs s g1 g2 c σ D) (hf : D.fl ≤ 9223372036854775807) (hc : c.good) (hrk : r.ok) (hid : 0 ≤ σ.id ∧ σ.id ≤ 4294967295)
    (hN1 : σ.own.length ≤ 1000) (hN2 : σ.fl.length ≤ 1000) (hro : RecsOk (recsM σ)) :
    Calls Tryz.prog 11 #[.pointer (some ⟨L, 0, none⟩), r.val] w fun e w' => e = .returned (.int .i64 (appendM c σ D r).1) ∧ WalAt w' L d g bs s g1 g2 (appendM c σ D r).2.1 (appendM c σ D r).2.2.1 (appendM c σ D r).2.2.2 ∧ Kept [L, d, g, bs, s, g1, g2] w w' := by
  have hA0 := append_arg (c := c) (σ := σ) (D := D) (r := r)
  have hA1 := fun c1 D1 e => append_e (c := c) (c1 := c1) (σ := σ) (D := D) (D1 := D1) (r := r) (e := e)
  have hA2 := fun c1 D1 => append_c (c := c) (c1 := c1) (σ := σ) (D := D) (D1 := D1) (r := r)
  have hA3 := append_n (c := c) (σ := σ) (D := D) (r := r)
  have hcg := compactM_good σ D hc
  have hcf := compactM_fl c σ D hf
  have hCp := fun W h => wal_compact L d s g bs g1 g2 c σ D W h hf ⟨by have := hc.half; omega, hc.half.2⟩ hc.reg hid hN1 hN2 hro
  have HC := Lib.hid hc
  have hr0 : ({ r with gen := c.gen, lsn := 0 } : Rec).ok := ⟨hrk.1, hc.gen, by simp only; omega, hrk.2.2.2⟩
  have HRK := Lib.hid hr0
  have hRt := fun W => rec_Right { r with gen := c.gen, lsn := 0 } W hr0
  clear hr0 hrk hc hid hN1 hN2 hro
  obtain ⟨rk, rg, rl, ri, ra, rp, ro, rs, rm⟩ := r
  simp only [Rec.val, Rec.arr] at hA0 hA1 hA2 hA3 hRt ⊢
  have hL : LogB w L d s c := hW.log
  obtain ⟨half, reg, gen, next, laid⟩ := c
  simp only at hA0 hA1 hA2 hA3 hRt hcg ⊢
  have hLb : Blk w L _ _ := hL
  have l0 := hLb.cell 0
  have l1 := hLb.cell 1
  have l2 := hLb.cell 2
  have l3 := hLb.cell 3
  have l4 := hLb.cell 4
  have l5 := hLb.cell 5
  have l6 := hLb.cell 6
  simp only [List.getElem?_toArray, List.getElem?_cons_zero, List.getElem?_cons_succ] at l0 l1 l2 l3 l4 l5 l6
  have l9 := hLb.lt
  go_enter Tryz.func11, Tryz.ntmps11
  go_wp2_with fail
  have kQ := Blk.new w 41 #[.int .i64 rk, .int .u32 gen, .int .u32 0, .int .u32 ri, .int .u32 ra, .int .i64 rp, .bool ro, .int .u32 rs, .int .u16 rm]
  have hbA := (Below.refl w.heap.size w).alloc (Nat.le_refl _) (.cells #[.int .i64 rk, .int .u32 gen, .int .u32 0, .int .u32 ri, .int .u32 ra, .int .i64 rp, .bool ro, .int .u32 rs, .int .u16 rm] 41)
  replace hW := hW.below hbA
  have hk : Kept [L, d, g, bs, s, g1, g2] w _ := Kept.of_below hbA
  clear hbA hL hLb l0 l1 l2 l3 l4 l5 l6 l9
  generalize w.alloc (.cells #[.int .i64 rk, .int .u32 gen, .int .u32 0, .int .u32 ri, .int .u32 ra, .int .i64 rp, .bool ro, .int .u32 rs, .int .u16 rm] 41) = W at *
  obtain ⟨q, hq⟩ : ∃ q, w.heap.size = q := ⟨_, rfl⟩
  have HQ9 := Lib.hid (Nat.le_of_eq hq)
  rw [hq] at kQ ⊢
  clear hq
  have HQO := Lib.hid (blk_off kQ hW)
  have HSEP := Lib.hid hW.sep
  have HSD := Lib.hid (sep_d hW.sep)
  refine (hRt W).mono ?_
  rintro e w1 ⟨rfl, hb1⟩
  replace kQ := kQ.below' hb1
  replace hW := hW.below hb1
  replace hk := hk.trans (Kept.of_below hb1)
  clear hb1 hRt
  have q9 := kQ.lt
  have r0 := kQ.cell 0
  have r1 := kQ.cell 1
  have r2 := kQ.cell 2
  have r3 := kQ.cell 3
  have r4 := kQ.cell 4
  have r5 := kQ.cell 5
  have r6 := kQ.cell 6
  have r7 := kQ.cell 7
  have r8 := kQ.cell 8
  simp only [List.getElem?_toArray, List.getElem?_cons_zero, List.getElem?_cons_succ] at r0 r1 r2 r3 r4 r5 r6 r7 r8
  cases hRB : recRightB ⟨rk, gen, 0, ri, ra, rp, ro, rs, rm⟩ with
  | false =>
    have HQ := Lib.hid (hA0 (.inl hRB))
    clear hA0 hA1 hA2 hA3 hRB
    go_wp2
    go_ret
    rw [HQ.out]
    exact ⟨rfl, hW, hk⟩
  | true =>
    by_cases hk1 : rk = 1
    · have HQ := Lib.hid (hA0 (.inr hk1))
      have d1 : (rk == 1) = true := beq_iff_eq.2 hk1
      clear hA0 hA1 hA2 hA3 hRB hk1
      go_wp2
      go_ret
      rw [HQ.out]
      exact ⟨rfl, hW, hk⟩
    · have HNA := Lib.hid (show ¬(recRightB ⟨rk, gen, 0, ri, ra, rp, ro, rs, rm⟩ = false ∨ rk = 1) by rw [hRB]; simp [hk1])
      have d1 : (rk == 1) = false := beq_eq_false_iff_ne.2 hk1
      clear hA0 hRB hk1
      have hL : LogB w1 L d s ⟨half, reg, gen, next, laid⟩ := hW.log
      have hLb : Blk w1 L _ _ := hL
      have l0 := hLb.cell 0
      have l1 := hLb.cell 1
      have l2 := hLb.cell 2
      have l3 := hLb.cell 3
      have l4 := hLb.cell 4
      have l5 := hLb.cell 5
      have l6 := hLb.cell 6
      simp only [List.getElem?_toArray, List.getElem?_cons_zero, List.getElem?_cons_succ] at l0 l1 l2 l3 l4 l5 l6
      have l9 := hLb.lt
      go_wp2_with fail
      by_cases hn : next = half
      · have d2 : (next == half) = true := beq_iff_eq.2 hn
        have hA1 := fun c1 D1 e => hA1 c1 D1 e HNA.out hn
        have hA2 := fun c1 D1 => hA2 c1 D1 HNA.out hn
        have hnx := fun c1 D1 h => compactM_next (c := ⟨half, reg, gen, next, laid⟩) (c1 := c1) (σ := σ) (D := D) (D1 := D1) h
        clear hA3 hn
        go_quiet (fail)
        rename_i nq
        replace kQ := kQ.drewN nq
        replace hW := hW.drewN nq
        replace hk := hk.drewN nq
        clear hL hLb l0 l1 l2 l3 l4 l5 l6 l9 q9 r0 r1 r2 r3 r4 r5 r6 r7 r8
        generalize w1.drewN nq = W2 at *
        go_wp2_with fail
        refine (hCp W2 hW).mono ?_
        rintro e w3 ⟨rfl, hW3, hk3⟩
        cases hcm : compactM ⟨half, reg, gen, next, laid⟩ σ D with
        | mk e1 qq =>
        obtain ⟨c1, D1⟩ := qq
        rw [hcm] at hW3 hcg hcf
        simp only at hW3 hcg hcf ⊢
        replace kQ := hk3.blk kQ (by have := HQO.out; simp only [List.mem_cons, List.not_mem_nil, or_false, not_or]; omega)
        replace hk := hk.trans (hk3.more (T := [L, d, g, bs, s, g1, g2]) (by simp))
        clear hk3 hCp hW d2
        by_cases he : e1 = 0
        · subst he
          have hnx2 := hnx c1 D1 hcm
          have HAP := Lib.hid (hA2 c1 D1 hcm)
          obtain ⟨half1, xreg, xgen, xnext, xlaid⟩ := c1
          obtain ⟨hcg1, hcg2⟩ := hcg
          simp only at hcg2 hnx2
          replace hcg2 := hcg2.symm
          subst hcg2
          have hW := hW3
          have HFL := Lib.hid hcf
          have u1 := hcg1.half
          have u2 := hcg1.reg
          have u3 := hcg1.next
          have u4 := hcg1.gen
          simp only at u1 u2 u3 u4
          have HC1 := Lib.hid (show (0 ≤ half ∧ half ≤ 1000) ∧ (xreg = 0 ∨ xreg = 1) ∧ (0 ≤ xnext ∧ xnext ≤ 2000) by omega)
          have HRK2 := Lib.hid (show (⟨rk, xgen, 0, ri, ra, rp, ro, rs, rm⟩ : Rec).ok from ⟨HRK.out.1, u4, HRK.out.2.2⟩)
          have HNW := Lib.hid (show IntKind.i64.wrap (xnext + 1) = xnext + 1 ∧ wrap64 (xnext + 1) = xnext + 1 from ⟨by rw [IntKind.wrap_i64]; omega, by unfold wrap64; omega⟩)
          clear hnx hnx2 hA1 hA2 hcm hcf hcg1 hW3 u1 u2 u3 u4
          have hL : LogB w3 L d s ⟨half, xreg, xgen, xnext, xlaid⟩ := hW.log
          have hLb : Blk w3 L _ _ := hL
          have l0 := hLb.cell 0
          have l1 := hLb.cell 1
          have l2 := hLb.cell 2
          have l3 := hLb.cell 3
          have l4 := hLb.cell 4
          have l5 := hLb.cell 5
          have l6 := hLb.cell 6
          simp only [List.getElem?_toArray, List.getElem?_cons_zero, List.getElem?_cons_succ] at l0 l1 l2 l3 l4 l5 l6
          have l9 := hLb.lt
          have q9 := kQ.lt
          have qf := kQ.frozen 1
          have q1 := kQ.cell 1
          simp only [List.getElem?_toArray, List.getElem?_cons_zero, List.getElem?_cons_succ] at q1
          have hP := fun W' h1 h2 => wal_putD xreg xnext ⟨rk, xgen, 0, ri, ra, rp, ro, rs, rm⟩ L d s g bs ⟨half, xreg, xgen, xnext, xlaid⟩ D1 W' h1 h2 HFL.out HRK2.out HC1.out.1 HC1.out.2.1 HC1.out.2.2
          have hfp := putD_fl D1 half xreg xnext ⟨rk, xgen, 0, ri, ra, rp, ro, rs, rm⟩ HFL.out
          have hE1 := fun D2 e => appendN_e1 (c := ⟨half, xreg, xgen, xnext, xlaid⟩) (σ := σ) (D := D1) (D1 := D2) (r := ⟨rk, gen, 0, ri, ra, rp, ro, rs, rm⟩) (e := e)
          have hE2 := fun D2 D3 e => appendN_e2 (c := ⟨half, xreg, xgen, xnext, xlaid⟩) (σ := σ) (D := D1) (D1 := D2) (D2 := D3) (r := ⟨rk, gen, 0, ri, ra, rp, ro, rs, rm⟩) (e := e)
          have hE3 := fun D2 D3 => appendN_ok (c := ⟨half, xreg, xgen, xnext, xlaid⟩) (σ := σ) (D := D1) (D1 := D2) (D2 := D3) (r := ⟨rk, gen, 0, ri, ra, rp, ro, rs, rm⟩)
          simp only [Rec.val, Rec.arr] at hP hE1 hE2 hE3
          go_wp2_with fail
          have kQ2 := kQ.set 1 (.int .u32 xgen)
          simp only [List.setIfInBounds_toArray, List.set_cons_zero, List.set_cons_succ] at kQ2
          have hks := kept_set (Kept.refl [q] w3) ⟨q, 1, none⟩ (.int .u32 xgen) (.inl (List.mem_singleton_self q))
          have hW2 := hW.kept hks (fun x hx => by simp only [List.mem_singleton] at hx; subst hx; simp only [List.mem_cons, List.not_mem_nil, or_false, not_or]; exact HQO.out)
          have hk2 : Kept [L, d, g, bs, s, g1, g2] w _ := hk.trans' hks HQ9.out
          clear hL hLb l0 l1 l2 l3 l4 l5 l6 l9 q9 q1 qf kQ hks hk hW
          generalize w3.setCell ⟨q, 1, none⟩ (.int .u32 xgen) = V at *
          have hL : LogB V L d s ⟨half, xreg, xgen, xnext, xlaid⟩ := hW2.log
          have hLb : Blk V L _ _ := hL
          have l0 := hLb.cell 0
          have l1 := hLb.cell 1
          have l2 := hLb.cell 2
          have l3 := hLb.cell 3
          have l4 := hLb.cell 4
          have l5 := hLb.cell 5
          have l6 := hLb.cell 6
          simp only [List.getElem?_toArray, List.getElem?_cons_zero, List.getElem?_cons_succ] at l0 l1 l2 l3 l4 l5 l6
          have l9 := hLb.lt
          have q9 := kQ2.lt
          refine draw_start [10] Later (by kernel_rfl) ?_
          refine draw_chunk (n := 76) (by kernel_rfl) (fun _ _ _ _ _ h => h) [0, 1, 2, 3, 4, 5, 6, 7, 8, 9] [] _ #[true, true, true, true, true, true, true, true, true, true, false, false] (by kernel_rfl) 2 _ ?_ _ rfl ?_ ?_
          rotate_left
          · intro w' hw'
            have hc' : ∀ b o, b < V.heap.size → w'.cell? ⟨b, o, none⟩ = V.cell? ⟨b, o, none⟩ := (bcell hw').1
            have hld := run_load_rec (r := ⟨rk, xgen, 0, ri, ra, rp, ro, rs, rm⟩) (kQ2.below' (undrew hw')); simp only [Rec.val, Rec.arr] at hld
            iterate 9
              refine ci_step (v := ?_) rfl (by kernel_rfl) ?_ ?_
              rotate_left
              · first | (go_simp; done) | (go_simp; with_reducible rfl)
              try simp only [Act.put, List.setIfInBounds_toArray, List.set_cons_zero, List.set_cons_succ]
            refine ci_step (i := 9) (v := ?_) rfl (by kernel_rfl) ?_ ?_
            rotate_left
            · refine (execLoad rfl rfl hld).trans ?_; with_reducible rfl
            skip
            try simp only [Act.put, List.setIfInBounds_toArray, List.set_cons_zero, List.set_cons_succ]
            refine ci_end ?_
            rfl
          refine draw_eff (i := 10) rfl (by kernel_rfl) (listed' := #[true, true, true, true, true, true, true, true, true, true, true, false]) rfl (fun K hK => ?_)
          replace hK := Lib.hid hK
          go_wp2_with fail
          refine (hP V.drew hL.drew (hW2.disk.below (Below.drew (Below.refl _ _)))).mono ?_
          rintro e w6 ⟨rfl, hD6, hk7⟩
          go_wp2_with fail
          refine hK.out _ _ ⟨fun h => absurd (by decide) h, ?_⟩
          clear hK hP
          refine draw_chunk (n := 76) (by kernel_rfl) (fun _ _ _ _ _ h => h) [11] [] _ #[true, true, true, true, true, true, true, true, true, true, true, true] (by kernel_rfl) 0 _ ?_ _ rfl ?_ ?_
          rotate_left
          · intro w' hw'
            have hc' : ∀ b o, b < w6.heap.size → w'.cell? ⟨b, o, none⟩ = w6.cell? ⟨b, o, none⟩ := (bcell hw').1
            refine ci_step (i := 11) (v := ?_) rfl (by kernel_rfl) ?_ ?_
            rotate_left
            · first | (go_simp; done) | (go_simp; with_reducible rfl)
            skip
            try simp only [Act.put, List.setIfInBounds_toArray, List.set_cons_zero, List.set_cons_succ]
            refine ci_end ?_
            rfl
          refine draw_done (by kernel_rfl) ?_ _
          have kQ3 := hk7.blk kQ2.drew (by have := HQO.out; simp only [List.mem_cons, List.not_mem_nil, or_false, not_or]; omega)
          have hL6 := hL.drew.kept hk7 HSD.out.1
          have hS6 := hW2.st.drew.kept (hk7.more (T := [L, d, g, bs]) (by simp)) HSD.out.2.1 HSD.out.2.2.1 HSD.out.2.2.2
          have hk8 := (kept_drew hk2).trans (hk7.more (T := [L, d, g, bs, s, g1, g2]) (by simp))
          clear hL hLb l0 l1 l2 l3 l4 l5 l6 l9 q9 kQ2 hk2 hk7 hW2
          cases hp : putD D1 half xreg xnext ⟨rk, xgen, 0, ri, ra, rp, ro, rs, rm⟩ with
          | mk e2 D2 =>
          rw [hp] at hD6 hfp
          simp only at hD6 hfp ⊢
          by_cases he2 : e2 = 0
          · subst he2
            have hLb : Blk w6 L _ _ := hL6
            have l0 := hLb.cell 0
            have l1 := hLb.cell 1
            have l2 := hLb.cell 2
            have l3 := hLb.cell 3
            have l4 := hLb.cell 4
            have l5 := hLb.cell 5
            have l6 := hLb.cell 6
            simp only [List.getElem?_toArray, List.getElem?_cons_zero, List.getElem?_cons_succ] at l0 l1 l2 l3 l4 l5 l6
            have l9 := hLb.lt
            go_wp2_with fail
            refine (disk_SyncD d g bs D2 w6 hD6 hfp).mono ?_
            rintro e w7 ⟨rfl, hD7, hk9⟩
            have hL7 := hL6.kept hk9 HSD.out.1
            have hS7 := hS6.kept (hk9.more (T := [L, d, g, bs]) (by simp)) HSD.out.2.1 HSD.out.2.2.1 HSD.out.2.2.2
            have kQ7 := hk9.blk kQ3 (by have := HQO.out; simp only [List.mem_cons, List.not_mem_nil, or_false, not_or]; omega)
            have hk10 := hk8.trans (hk9.more (T := [L, d, g, bs, s, g1, g2]) (by simp))
            cases hs : syncD D2 with
            | mk e3 D3 =>
            rw [hs] at hD7
            simp only at hD7 ⊢
            clear hk9 hk8 hD6 l0 l1 l2 l3 l4 l5 l6 l9 hLb hL6 hS6 kQ3
            by_cases he3 : e3 = 0
            · subst he3
              have HQ := Lib.hid (HAP.out.trans (hE3 D2 D3 hp hs))
              clear hp hs hE1 hE2 hE3
              have hw3 := HNW.out.1
              have hw4 := HNW.out.2
              have hLb : Blk w7 L _ _ := hL7
              have l0 := hLb.cell 0
              have l1 := hLb.cell 1
              have l2 := hLb.cell 2
              have l3 := hLb.cell 3
              have l4 := hLb.cell 4
              have l5 := hLb.cell 5
              have l6 := hLb.cell 6
              simp only [List.getElem?_toArray, List.getElem?_cons_zero, List.getElem?_cons_succ] at l0 l1 l2 l3 l4 l5 l6
              have l9 := hLb.lt
              have f4 := hLb.frozen 4
              have kL := hLb.set 4 (.int .i64 (xnext + 1))
              simp only [List.setIfInBounds_toArray, List.set_cons_zero, List.set_cons_succ] at kL
              have hks := kept_set (Kept.refl [L] w7) ⟨L, 4, none⟩ (.int .i64 (xnext + 1)) (.inl (List.mem_singleton_self L))
              have hD8 : DiskD _ d g bs D3 := DiskAt.kept hD7 hks (by have := HSD.out.1; simp at this ⊢; omega) (by have := HSD.out.1; simp at this ⊢; omega) (by have := HSD.out.1; simp at this ⊢; omega)
              have hS8 := hS7.kept hks (by have := HSD.out.2.1; simp at this ⊢; omega) (by have := HSD.out.2.2.1; simp at this ⊢; omega) (by have := HSD.out.2.2.2; simp at this ⊢; omega)
              have kQ8 := hks.blk kQ7 (by simp only [List.mem_singleton]; exact HQO.out.1)
              have hk11 : Kept [L, d, g, bs, s, g1, g2] w _ := hk10.trans (hks.more (by simp))
              go_wp2_with fail
              clear hL7 hLb l0 l1 l2 l3 l4 l5 l6 l9 f4 hks hD7 hS7 kQ7 hk10
              generalize w7.setCell ⟨L, 4, none⟩ (.int .i64 (xnext + 1)) = V8 at *
              have hL8 : LogB V8 L d s ⟨half, xreg, xgen, xnext + 1, xlaid⟩ := kL
              have hLb : Blk V8 L _ _ := hL8
              have l0 := hLb.cell 0
              have l1 := hLb.cell 1
              have l2 := hLb.cell 2
              have l3 := hLb.cell 3
              have l4 := hLb.cell 4
              have l5 := hLb.cell 5
              have l6 := hLb.cell 6
              simp only [List.getElem?_toArray, List.getElem?_cons_zero, List.getElem?_cons_succ] at l0 l1 l2 l3 l4 l5 l6
              have l9 := hLb.lt
              have q9 := kQ8.lt
              have hAp := state_Apply σ ⟨rk, xgen, 0, ri, ra, rp, ro, rs, rm⟩ s g1 g2 V8.drew hS8.drew
              simp only [Rec.val, Rec.arr] at hAp
              refine draw_start [5] Later (by kernel_rfl) ?_
              refine draw_chunk (n := 76) (by kernel_rfl) (fun _ _ _ _ _ h => h) [0, 1, 2, 3, 4] [] _ #[true, true, true, true, true, false] (by kernel_rfl) 1 _ ?_ _ rfl ?_ ?_
              rotate_left
              · intro w' hw'
                have hc' : ∀ b o, b < V8.heap.size → w'.cell? ⟨b, o, none⟩ = V8.cell? ⟨b, o, none⟩ := (bcell hw').1
                have hld := run_load_rec (r := ⟨rk, xgen, 0, ri, ra, rp, ro, rs, rm⟩) (kQ8.below' (undrew hw')); simp only [Rec.val, Rec.arr] at hld
                iterate 4
                  refine ci_step (v := ?_) rfl (by kernel_rfl) ?_ ?_
                  rotate_left
                  · first | (go_simp; done) | (go_simp; with_reducible rfl)
                  try simp only [Act.put, List.setIfInBounds_toArray, List.set_cons_zero, List.set_cons_succ]
                refine ci_step (i := 4) (v := ?_) rfl (by kernel_rfl) ?_ ?_
                rotate_left
                · refine (execLoad rfl rfl hld).trans ?_; with_reducible rfl
                skip
                try simp only [Act.put, List.setIfInBounds_toArray, List.set_cons_zero, List.set_cons_succ]
                refine ci_end ?_
                rfl
              refine draw_eff (i := 5) rfl (by kernel_rfl) (listed' := #[true, true, true, true, true, true]) rfl (fun K hK => ?_)
              replace hK := Lib.hid hK
              go_wp2_with fail
              refine hAp.mono ?_
              rintro e w9 ⟨rfl, hS9, hk12⟩
              go_wp2_with fail
              refine hK.out _ _ ⟨fun h => absurd (by decide) h, ?_⟩
              clear hK
              refine draw_done (by kernel_rfl) ?_ _
              have hL9 := hL8.drew.kept hk12 (sep_l HSEP.out)
              have hD9 : DiskD w9 d g bs D3 := DiskAt.kept (hD8.below (Below.drew (Below.refl _ _))) hk12 (by have := HSEP.out.d; simp at this ⊢; omega) (by have := HSEP.out.g; simp at this ⊢; omega) (by have := HSEP.out.b; simp at this ⊢; omega)
              have hk13 := (kept_drew hk11).trans (hk12.more (T := [L, d, g, bs, s, g1, g2]) (by simp))
              clear l0 l1 l2 l3 l4 l5 l6 l9 q9 hLb
              go_wp2
              go_ret
              rw [HQ.out]
              exact ⟨rfl, ⟨hL9, hD9, hS9, HSEP.out⟩, hk13⟩
            · have HQ := Lib.hid (HAP.out.trans (hE2 D2 D3 e3 hp hs he3))
              have d9 : (e3 != 0) = true := by simpa using he3
              clear hp hs hE1 hE2 hE3 he3
              go_wp2
              go_ret
              rw [HQ.out]
              exact ⟨rfl, ⟨hL7, hD7, hS7, HSEP.out⟩, hk10⟩
          · have HQ := Lib.hid (HAP.out.trans (hE1 D2 e2 hp he2))
            have d9 : (e2 != 0) = true := by simpa using he2
            clear hp hE1 hE2 hE3 he2
            go_wp2
            go_ret
            rw [HQ.out]
            exact ⟨rfl, ⟨hL6, hD6, hS6, HSEP.out⟩, hk8⟩
        · have HQ := Lib.hid (hA1 c1 D1 e1 hcm he)
          have d9 : (e1 != 0) = true := by simpa using he
          clear hcm hA1 hA2 hnx he
          go_wp2
          go_ret
          rw [HQ.out]
          exact ⟨rfl, hW3, hk⟩
      · have d2 : (next == half) = false := beq_eq_false_iff_ne.2 hn
        have HAP := Lib.hid (hA3 HNA.out hn)
        clear hA1 hA2 hA3 hCp hcg hcf
        go_quiet (fail)
        rename_i nq
        replace kQ := kQ.drewN nq
        replace hW := hW.drewN nq
        replace hk := hk.drewN nq
        clear hL hLb l0 l1 l2 l3 l4 l5 l6 l9 q9 r0 r1 r2 r3 r4 r5 r6 r7 r8 d2
        generalize w1.drewN nq = W2 at *
        have HFL := Lib.hid hf
        have u1 := HC.out.half
        have u2 := HC.out.reg
        have u3 := HC.out.next
        have u4 := HC.out.gen
        simp only at u1 u2 u3 u4
        have HC1 := Lib.hid (show (0 ≤ half ∧ half ≤ 1000) ∧ (reg = 0 ∨ reg = 1) ∧ (0 ≤ next ∧ next ≤ 2000) by omega)
        have HRK2 := Lib.hid (show (⟨rk, gen, 0, ri, ra, rp, ro, rs, rm⟩ : Rec).ok from ⟨HRK.out.1, u4, HRK.out.2.2⟩)
        have HNW := Lib.hid (show IntKind.i64.wrap (next + 1) = next + 1 ∧ wrap64 (next + 1) = next + 1 from ⟨by rw [IntKind.wrap_i64]; omega, by unfold wrap64; omega⟩)
        clear hn u1 u2 u3 u4
        have hL : LogB W2 L d s ⟨half, reg, gen, next, laid⟩ := hW.log
        have hLb : Blk W2 L _ _ := hL
        have l0 := hLb.cell 0
        have l1 := hLb.cell 1
        have l2 := hLb.cell 2
        have l3 := hLb.cell 3
        have l4 := hLb.cell 4
        have l5 := hLb.cell 5
        have l6 := hLb.cell 6
        simp only [List.getElem?_toArray, List.getElem?_cons_zero, List.getElem?_cons_succ] at l0 l1 l2 l3 l4 l5 l6
        have l9 := hLb.lt
        have q9 := kQ.lt
        have qf := kQ.frozen 1
        have q1 := kQ.cell 1
        simp only [List.getElem?_toArray, List.getElem?_cons_zero, List.getElem?_cons_succ] at q1
        have hP := fun W' h1 h2 => wal_putD reg next ⟨rk, gen, 0, ri, ra, rp, ro, rs, rm⟩ L d s g bs ⟨half, reg, gen, next, laid⟩ D W' h1 h2 HFL.out HRK2.out HC1.out.1 HC1.out.2.1 HC1.out.2.2
        have hfp := putD_fl D half reg next ⟨rk, gen, 0, ri, ra, rp, ro, rs, rm⟩ HFL.out
        have hE1 := fun D2 e => appendN_e1 (c := ⟨half, reg, gen, next, laid⟩) (σ := σ) (D := D) (D1 := D2) (r := ⟨rk, gen, 0, ri, ra, rp, ro, rs, rm⟩) (e := e)
        have hE2 := fun D2 D3 e => appendN_e2 (c := ⟨half, reg, gen, next, laid⟩) (σ := σ) (D := D) (D1 := D2) (D2 := D3) (r := ⟨rk, gen, 0, ri, ra, rp, ro, rs, rm⟩) (e := e)
        have hE3 := fun D2 D3 => appendN_ok (c := ⟨half, reg, gen, next, laid⟩) (σ := σ) (D := D) (D1 := D2) (D2 := D3) (r := ⟨rk, gen, 0, ri, ra, rp, ro, rs, rm⟩)
        simp only [Rec.val, Rec.arr] at hP hE1 hE2 hE3
        go_wp2_with fail
        have kQ2 := kQ.set 1 (.int .u32 gen)
        simp only [List.setIfInBounds_toArray, List.set_cons_zero, List.set_cons_succ] at kQ2
        have hks := kept_set (Kept.refl [q] W2) ⟨q, 1, none⟩ (.int .u32 gen) (.inl (List.mem_singleton_self q))
        have hW2 := hW.kept hks (fun x hx => by simp only [List.mem_singleton] at hx; subst hx; simp only [List.mem_cons, List.not_mem_nil, or_false, not_or]; exact HQO.out)
        have hk2 : Kept [L, d, g, bs, s, g1, g2] w _ := hk.trans' hks HQ9.out
        clear hL hLb l0 l1 l2 l3 l4 l5 l6 l9 q9 q1 qf kQ hks hk hW
        generalize W2.setCell ⟨q, 1, none⟩ (.int .u32 gen) = V at *
        have hL : LogB V L d s ⟨half, reg, gen, next, laid⟩ := hW2.log
        have hLb : Blk V L _ _ := hL
        have l0 := hLb.cell 0
        have l1 := hLb.cell 1
        have l2 := hLb.cell 2
        have l3 := hLb.cell 3
        have l4 := hLb.cell 4
        have l5 := hLb.cell 5
        have l6 := hLb.cell 6
        simp only [List.getElem?_toArray, List.getElem?_cons_zero, List.getElem?_cons_succ] at l0 l1 l2 l3 l4 l5 l6
        have l9 := hLb.lt
        have q9 := kQ2.lt
        refine draw_start [10] Later (by kernel_rfl) ?_
        refine draw_chunk (n := 76) (by kernel_rfl) (fun _ _ _ _ _ h => h) [0, 1, 2, 3, 4, 5, 6, 7, 8, 9] [] _ #[true, true, true, true, true, true, true, true, true, true, false, false] (by kernel_rfl) 2 _ ?_ _ rfl ?_ ?_
        rotate_left
        · intro w' hw'
          have hc' : ∀ b o, b < V.heap.size → w'.cell? ⟨b, o, none⟩ = V.cell? ⟨b, o, none⟩ := (bcell hw').1
          have hld := run_load_rec (r := ⟨rk, gen, 0, ri, ra, rp, ro, rs, rm⟩) (kQ2.below' (undrew hw')); simp only [Rec.val, Rec.arr] at hld
          iterate 9
            refine ci_step (v := ?_) rfl (by kernel_rfl) ?_ ?_
            rotate_left
            · first | (go_simp; done) | (go_simp; with_reducible rfl)
            try simp only [Act.put, List.setIfInBounds_toArray, List.set_cons_zero, List.set_cons_succ]
          refine ci_step (i := 9) (v := ?_) rfl (by kernel_rfl) ?_ ?_
          rotate_left
          · refine (execLoad rfl rfl hld).trans ?_; with_reducible rfl
          skip
          try simp only [Act.put, List.setIfInBounds_toArray, List.set_cons_zero, List.set_cons_succ]
          refine ci_end ?_
          rfl
        refine draw_eff (i := 10) rfl (by kernel_rfl) (listed' := #[true, true, true, true, true, true, true, true, true, true, true, false]) rfl (fun K hK => ?_)
        replace hK := Lib.hid hK
        go_wp2_with fail
        refine (hP V.drew hL.drew (hW2.disk.below (Below.drew (Below.refl _ _)))).mono ?_
        rintro e w6 ⟨rfl, hD6, hk7⟩
        go_wp2_with fail
        refine hK.out _ _ ⟨fun h => absurd (by decide) h, ?_⟩
        clear hK hP
        refine draw_chunk (n := 76) (by kernel_rfl) (fun _ _ _ _ _ h => h) [11] [] _ #[true, true, true, true, true, true, true, true, true, true, true, true] (by kernel_rfl) 0 _ ?_ _ rfl ?_ ?_
        rotate_left
        · intro w' hw'
          have hc' : ∀ b o, b < w6.heap.size → w'.cell? ⟨b, o, none⟩ = w6.cell? ⟨b, o, none⟩ := (bcell hw').1
          refine ci_step (i := 11) (v := ?_) rfl (by kernel_rfl) ?_ ?_
          rotate_left
          · first | (go_simp; done) | (go_simp; with_reducible rfl)
          skip
          try simp only [Act.put, List.setIfInBounds_toArray, List.set_cons_zero, List.set_cons_succ]
          refine ci_end ?_
          rfl
        refine draw_done (by kernel_rfl) ?_ _
        have kQ3 := hk7.blk kQ2.drew (by have := HQO.out; simp only [List.mem_cons, List.not_mem_nil, or_false, not_or]; omega)
        have hL6 := hL.drew.kept hk7 HSD.out.1
        have hS6 := hW2.st.drew.kept (hk7.more (T := [L, d, g, bs]) (by simp)) HSD.out.2.1 HSD.out.2.2.1 HSD.out.2.2.2
        have hk8 := (kept_drew hk2).trans (hk7.more (T := [L, d, g, bs, s, g1, g2]) (by simp))
        clear hL hLb l0 l1 l2 l3 l4 l5 l6 l9 q9 kQ2 hk2 hk7 hW2
        cases hp : putD D half reg next ⟨rk, gen, 0, ri, ra, rp, ro, rs, rm⟩ with
        | mk e2 D2 =>
        rw [hp] at hD6 hfp
        simp only at hD6 hfp ⊢
        by_cases he2 : e2 = 0
        · subst he2
          have hLb : Blk w6 L _ _ := hL6
          have l0 := hLb.cell 0
          have l1 := hLb.cell 1
          have l2 := hLb.cell 2
          have l3 := hLb.cell 3
          have l4 := hLb.cell 4
          have l5 := hLb.cell 5
          have l6 := hLb.cell 6
          simp only [List.getElem?_toArray, List.getElem?_cons_zero, List.getElem?_cons_succ] at l0 l1 l2 l3 l4 l5 l6
          have l9 := hLb.lt
          go_wp2_with fail
          refine (disk_SyncD d g bs D2 w6 hD6 hfp).mono ?_
          rintro e w7 ⟨rfl, hD7, hk9⟩
          have hL7 := hL6.kept hk9 HSD.out.1
          have hS7 := hS6.kept (hk9.more (T := [L, d, g, bs]) (by simp)) HSD.out.2.1 HSD.out.2.2.1 HSD.out.2.2.2
          have kQ7 := hk9.blk kQ3 (by have := HQO.out; simp only [List.mem_cons, List.not_mem_nil, or_false, not_or]; omega)
          have hk10 := hk8.trans (hk9.more (T := [L, d, g, bs, s, g1, g2]) (by simp))
          cases hs : syncD D2 with
          | mk e3 D3 =>
          rw [hs] at hD7
          simp only at hD7 ⊢
          clear hk9 hk8 hD6 l0 l1 l2 l3 l4 l5 l6 l9 hLb hL6 hS6 kQ3
          by_cases he3 : e3 = 0
          · subst he3
            have HQ := Lib.hid (HAP.out.trans (hE3 D2 D3 hp hs))
            clear hp hs hE1 hE2 hE3
            have hw3 := HNW.out.1
            have hw4 := HNW.out.2
            have hLb : Blk w7 L _ _ := hL7
            have l0 := hLb.cell 0
            have l1 := hLb.cell 1
            have l2 := hLb.cell 2
            have l3 := hLb.cell 3
            have l4 := hLb.cell 4
            have l5 := hLb.cell 5
            have l6 := hLb.cell 6
            simp only [List.getElem?_toArray, List.getElem?_cons_zero, List.getElem?_cons_succ] at l0 l1 l2 l3 l4 l5 l6
            have l9 := hLb.lt
            have f4 := hLb.frozen 4
            have kL := hLb.set 4 (.int .i64 (next + 1))
            simp only [List.setIfInBounds_toArray, List.set_cons_zero, List.set_cons_succ] at kL
            have hks := kept_set (Kept.refl [L] w7) ⟨L, 4, none⟩ (.int .i64 (next + 1)) (.inl (List.mem_singleton_self L))
            have hD8 : DiskD _ d g bs D3 := DiskAt.kept hD7 hks (by have := HSD.out.1; simp at this ⊢; omega) (by have := HSD.out.1; simp at this ⊢; omega) (by have := HSD.out.1; simp at this ⊢; omega)
            have hS8 := hS7.kept hks (by have := HSD.out.2.1; simp at this ⊢; omega) (by have := HSD.out.2.2.1; simp at this ⊢; omega) (by have := HSD.out.2.2.2; simp at this ⊢; omega)
            have kQ8 := hks.blk kQ7 (by simp only [List.mem_singleton]; exact HQO.out.1)
            have hk11 : Kept [L, d, g, bs, s, g1, g2] w _ := hk10.trans (hks.more (by simp))
            go_wp2_with fail
            clear hL7 hLb l0 l1 l2 l3 l4 l5 l6 l9 f4 hks hD7 hS7 kQ7 hk10
            generalize w7.setCell ⟨L, 4, none⟩ (.int .i64 (next + 1)) = V8 at *
            have hL8 : LogB V8 L d s ⟨half, reg, gen, next + 1, laid⟩ := kL
            have hLb : Blk V8 L _ _ := hL8
            have l0 := hLb.cell 0
            have l1 := hLb.cell 1
            have l2 := hLb.cell 2
            have l3 := hLb.cell 3
            have l4 := hLb.cell 4
            have l5 := hLb.cell 5
            have l6 := hLb.cell 6
            simp only [List.getElem?_toArray, List.getElem?_cons_zero, List.getElem?_cons_succ] at l0 l1 l2 l3 l4 l5 l6
            have l9 := hLb.lt
            have q9 := kQ8.lt
            have hAp := state_Apply σ ⟨rk, gen, 0, ri, ra, rp, ro, rs, rm⟩ s g1 g2 V8.drew hS8.drew
            simp only [Rec.val, Rec.arr] at hAp
            refine draw_start [5] Later (by kernel_rfl) ?_
            refine draw_chunk (n := 76) (by kernel_rfl) (fun _ _ _ _ _ h => h) [0, 1, 2, 3, 4] [] _ #[true, true, true, true, true, false] (by kernel_rfl) 1 _ ?_ _ rfl ?_ ?_
            rotate_left
            · intro w' hw'
              have hc' : ∀ b o, b < V8.heap.size → w'.cell? ⟨b, o, none⟩ = V8.cell? ⟨b, o, none⟩ := (bcell hw').1
              have hld := run_load_rec (r := ⟨rk, gen, 0, ri, ra, rp, ro, rs, rm⟩) (kQ8.below' (undrew hw')); simp only [Rec.val, Rec.arr] at hld
              iterate 4
                refine ci_step (v := ?_) rfl (by kernel_rfl) ?_ ?_
                rotate_left
                · first | (go_simp; done) | (go_simp; with_reducible rfl)
                try simp only [Act.put, List.setIfInBounds_toArray, List.set_cons_zero, List.set_cons_succ]
              refine ci_step (i := 4) (v := ?_) rfl (by kernel_rfl) ?_ ?_
              rotate_left
              · refine (execLoad rfl rfl hld).trans ?_; with_reducible rfl
              skip
              try simp only [Act.put, List.setIfInBounds_toArray, List.set_cons_zero, List.set_cons_succ]
              refine ci_end ?_
              rfl
            refine draw_eff (i := 5) rfl (by kernel_rfl) (listed' := #[true, true, true, true, true, true]) rfl (fun K hK => ?_)
            replace hK := Lib.hid hK
            go_wp2_with fail
            refine hAp.mono ?_
            rintro e w9 ⟨rfl, hS9, hk12⟩
            go_wp2_with fail
            refine hK.out _ _ ⟨fun h => absurd (by decide) h, ?_⟩
            clear hK
            refine draw_done (by kernel_rfl) ?_ _
            have hL9 := hL8.drew.kept hk12 (sep_l HSEP.out)
            have hD9 : DiskD w9 d g bs D3 := DiskAt.kept (hD8.below (Below.drew (Below.refl _ _))) hk12 (by have := HSEP.out.d; simp at this ⊢; omega) (by have := HSEP.out.g; simp at this ⊢; omega) (by have := HSEP.out.b; simp at this ⊢; omega)
            have hk13 := (kept_drew hk11).trans (hk12.more (T := [L, d, g, bs, s, g1, g2]) (by simp))
            clear l0 l1 l2 l3 l4 l5 l6 l9 q9 hLb
            go_wp2
            go_ret
            rw [HQ.out]
            exact ⟨rfl, ⟨hL9, hD9, hS9, HSEP.out⟩, hk13⟩
          · have HQ := Lib.hid (HAP.out.trans (hE2 D2 D3 e3 hp hs he3))
            have d9 : (e3 != 0) = true := by simpa using he3
            clear hp hs hE1 hE2 hE3 he3
            go_wp2
            go_ret
            rw [HQ.out]
            exact ⟨rfl, ⟨hL7, hD7, hS7, HSEP.out⟩, hk10⟩
        · have HQ := Lib.hid (HAP.out.trans (hE1 D2 e2 hp he2))
          have d9 : (e2 != 0) = true := by simpa using he2
          clear hp hE1 hE2 hE3 he2
          go_wp2
          go_ret
          rw [HQ.out]
          exact ⟨rfl, ⟨hL6, hD6, hS6, HSEP.out⟩, hk8⟩
end Go.Proofs.YtnfaeafplaeehaaGreat
end
section
set_option linter.unusedVariables false
set_option linter.unusedSimpArgs false
namespace Go.Proofs.YtnfaeafplaeehaaGreat
open Go.RowKit
/-! A journal on a disk that doesn't fail. -/
/-- A disk of so many sectors that doesn't fail. -/
structure Calm (n : Nat) (D : DiskM) : Prop where
  fl : D.fl < 0
  len : D.sec.length = n
theorem failsF_calm {fl : Int} (h : fl < 0) : failsF fl = (false, fl) := by unfold failsF; rw [if_pos h]
theorem syncD_calm {n : Nat} {D : DiskM} (h : Calm n D) : ∃ D', syncD D = (0, D') ∧ Calm n D' ∧ D' = ⟨syncS D.sec D.lat, [], D.fl⟩ := by
  refine ⟨⟨syncS D.sec D.lat, [], D.fl⟩, ?_, ⟨h.fl, ?_⟩, rfl⟩
  · unfold syncD; rw [failsF_calm h.fl]; rfl
  · simp only; rw [syncS_len]; exact h.len
theorem putD_calm {n : Nat} {D : DiskM} (h : Calm n D) (half reg i : Int) (r : Rec) (hr : recRightB r = true) (hi : 0 ≤ reg * half + i ∧ reg * half + i < n) :
    putD D half reg i r = (0, ⟨D.sec, updM D.lat (reg * half + i) (sector { r with lsn := i }), D.fl⟩) := by
  have h1 : putOk D.sec.length half reg i r = true := by
    unfold putOk
    rw [h.len, show recRightB { r with lsn := i } = recRightB r from rfl, hr]
    simpa using hi
  have h2 : putE D.sec.length D.fl half reg i r = 0 := by
    unfold putE; rw [if_pos h1, failsF_calm h.fl]; rfl
  unfold putD putL' putF
  rw [h2, if_pos h1, failsF_calm h.fl]
  rfl
theorem putD_calm' {n : Nat} {D : DiskM} (h : Calm n D) (half reg i : Int) (r : Rec) (hr : recRightB r = true) (hi : 0 ≤ reg * half + i ∧ reg * half + i < n) :
    ∃ D', putD D half reg i r = (0, D') ∧ Calm n D' := ⟨_, putD_calm h half reg i r hr hi, ⟨h.fl, h.len⟩⟩
/-- A disk on which nothing is written. -/
def freshD (n : Nat) (fl : Int) : DiskM := ⟨List.replicate n zsec, [], fl⟩
theorem ofR_zero : ofR zsec = none := by
  unfold ofR
  rw [if_neg]
  intro h
  have h2 := h.2.1
  revert h2
  decide +kernel
theorem atM_fresh (n : Nat) (half reg i : Int) : atM (List.replicate n zsec) [] half reg i = none := by
  unfold atM
  split
  · rename_i h
    have : atD (List.replicate n zsec) [] (reg * half + i).toNat = zsec := by
      unfold atD
      rw [show getM ([] : List (Int × Sec)) _ = none from rfl, Option.getD_none, List.getD_eq_getElem?_getD]
      rw [List.getElem?_replicate]
      have h2 := h.2
      rw [List.length_replicate] at h2
      rw [if_pos (by omega)]
      rfl
    rw [this]
    exact ofR_zero
  · rfl
theorem begins_fresh (n : Nat) (half id : Int) : beginsM (List.replicate n zsec) [] half id 0 0 2 = (0, 0, false) := by
  rw [show (2 : Nat) = 1 + 1 from rfl, beginsM_no (atM_fresh n half _ 0), show (1 : Nat) = 0 + 1 from rfl, beginsM_no (atM_fresh n half _ 0)]
  rfl
theorem newest_fresh (n : Nat) (half : Int) : ∀ k : Nat, newestM (List.replicate n zsec) [] half k = 0
  | 0 => rfl
  | k + 1 => by rw [newestM_succ, atM_fresh, newest_fresh n half k]
theorem openG_fresh (n : Nat) (half fl : Int) : openG (freshD n fl) half = 1 := by
  unfold openG freshD
  simp only [List.length_replicate]
  rw [newest_fresh]
  rfl
theorem begRec_right (g id : Int) (h : 0 < id) : recRightB (begRec g id) = true := by
  unfold recRightB begRec
  have : rightB 0 0 = true := by decide
  simp [this, h]
/-- A journal on a new disk that doesn't fail. -/
theorem open_fresh (n : Nat) (id fl : Int) (hfl : fl < 0) (hn : 4 ≤ n) (hid : 0 < id) :
    ∃ D', openM (freshD n fl) id = (0, some (⟨(n : Int) / 2, 0, 1, 1, false⟩, ⟨id, 0, [], []⟩), D') ∧ Calm n D' ∧ D' = ⟨syncS (List.replicate n zsec) [(0, sector (begRec 1 id))], [], fl⟩ := by
  have hc : Calm n (freshD n fl) := ⟨hfl, List.length_replicate⟩
  have hh : ((freshD n fl).sec.length : Int) / 2 = (n : Int) / 2 := by rw [hc.len]
  have hp := putD_calm hc ((n : Int) / 2) 0 0 (begRec 1 id) (begRec_right 1 id hid) (by omega)
  rw [show (0 : Int) * ((n : Int) / 2) + 0 = 0 by omega] at hp
  have hc2 : Calm n ⟨(freshD n fl).sec, updM (freshD n fl).lat 0 (sector { begRec 1 id with lsn := 0 }), (freshD n fl).fl⟩ := ⟨hc.fl, hc.len⟩
  obtain ⟨D', hs, hc3, he⟩ := syncD_calm hc2
  refine ⟨D', ?_, hc3, he⟩
  rw [open_ok hh (by omega) (begins_fresh n _ id) (by rw [openG_fresh]; exact hp) hs, openG_fresh]
theorem apply_bare (σ : St) (r : Rec) (g l : Int) : σ.apply { r with gen := g, lsn := l } = σ.apply r := rfl
/-- What lies on a disk behind records that were laid. -/
def laidL (half o gen : Int) : List Rec → Nat → List (Int × Sec) → List (Int × Sec)
  | [], _, lat => lat
  | r :: l, i, lat => laidL half o gen l (i + 1) (updM lat (o * half + ((i : Int) + 1)) (sector { r with gen := gen, lsn := (i : Int) + 1 }))
theorem layN_calm (n : Nat) (half o gen : Int) (ho : o = 0 ∨ o = 1) (hh : 0 ≤ half) (hn : 2 * half ≤ n) : ∀ (l : List Rec) (i : Nat) (D : DiskM), Calm n D → (∀ r ∈ l, recRightB r = true) → (i : Int) + l.length + 1 ≤ half →
    layN half o gen l i D = (0, ⟨D.sec, laidL half o gen l i D.lat, D.fl⟩)
  | [], _, D, _, _, _ => rfl
  | r :: l, i, D, hc, hr, hl => by
    rw [List.length_cons] at hl
    have hp := putD_calm hc half o ((i : Int) + 1) { r with gen := gen } (hr r (List.mem_cons_self ..)) (by rcases ho with rfl | rfl <;> (push_cast at hl ⊢; omega))
    rw [layN_go hp]
    exact layN_calm n half o gen ho hh hn l (i + 1) ⟨D.sec, updM D.lat (o * half + ((i : Int) + 1)) (sector { r with gen := gen, lsn := (i : Int) + 1 }), D.fl⟩ ⟨hc.fl, hc.len⟩ (fun x hx => hr x (List.mem_cons_of_mem _ hx)) (by push_cast at hl ⊢; omega)
/-- The disk behind all that must not be forgotten was written anew. -/
def compactD (c : LogC) (σ : St) (D : DiskM) : DiskM :=
  ⟨syncS (syncS D.sec (laidL c.half (1 - c.reg) (IntKind.u32.wrap (c.gen + 1)) (recsM σ) 0 D.lat)) [((1 - c.reg) * c.half, sector (begRec (IntKind.u32.wrap (c.gen + 1)) σ.id))], [], D.fl⟩
theorem compact_calm {n : Nat} {D : DiskM} (h : Calm n D) {c : LogC} (hg : c.good) (h2 : 2 * c.half ≤ n) (σ : St) (hid : 0 < σ.id) (hlaid : c.laid = false) (hr : ∀ r ∈ recsM σ, recRightB r = true) (hf : ((recsM σ).length : Int) + 2 ≤ c.half) :
    compactM c σ D = (0, ⟨c.half, 1 - c.reg, IntKind.u32.wrap (c.gen + 1), ((recsM σ).length : Int) + 1, false⟩, compactD c σ D) ∧ Calm n (compactD c σ D) := by
  have ho : 1 - c.reg = 0 ∨ 1 - c.reg = 1 := by have := hg.reg; omega
  have hh := hg.half
  have h1 := layN_calm n c.half (1 - c.reg) (IntKind.u32.wrap (c.gen + 1)) ho (by omega) h2 (recsM σ) 0 D h hr (by push_cast; omega)
  have hc1 : Calm n ⟨D.sec, laidL c.half (1 - c.reg) (IntKind.u32.wrap (c.gen + 1)) (recsM σ) 0 D.lat, D.fl⟩ := ⟨h.fl, h.len⟩
  obtain ⟨D1, hs1, hc2, he1⟩ := syncD_calm hc1
  have hl : layM c (recsM σ) D = (0, true, D1) := by
    unfold layM
    rw [hlaid, h1]
    simp only [hs1]
    rfl
  have hp := putD_calm hc2 c.half (1 - c.reg) 0 (begRec (IntKind.u32.wrap (c.gen + 1)) σ.id) (begRec_right _ _ hid) (by rcases ho with e | e <;> rw [e] <;> omega)
  have hc3 : Calm n ⟨D1.sec, updM D1.lat ((1 - c.reg) * c.half + 0) (sector { begRec (IntKind.u32.wrap (c.gen + 1)) σ.id with lsn := 0 }), D1.fl⟩ := ⟨hc2.fl, hc2.len⟩
  obtain ⟨D2, hs2, hc4, he2⟩ := syncD_calm hc3
  have hD : D2 = compactD c σ D := by
    rw [he2, he1, Int.add_zero]
    rfl
  rw [← hD]
  exact ⟨compact_ok (by omega) hl hp hs2, hc4⟩
def appendD (c : LogC) (D : DiskM) (r : Rec) : DiskM := ⟨syncS D.sec (updM D.lat (c.reg * c.half + c.next) (sector { r with gen := c.gen, lsn := c.next })), [], D.fl⟩
theorem appendN_calm {n : Nat} {D : DiskM} (h : Calm n D) {c : LogC} (hg : c.good) (h2 : 2 * c.half ≤ n) (σ : St) (r : Rec) (hr : recRightB r = true) (hn : c.next < c.half) :
    appendN c σ D r = (0, { c with next := c.next + 1 }, σ.apply r, appendD c D r) ∧ Calm n (appendD c D r) := by
  have hp := putD_calm h c.half c.reg c.next { r with gen := c.gen } hr (by have := hg.next; have := hg.half; rcases hg.reg with e | e <;> rw [e] <;> omega)
  have hc1 : Calm n ⟨D.sec, updM D.lat (c.reg * c.half + c.next) (sector { r with gen := c.gen, lsn := c.next }), D.fl⟩ := ⟨h.fl, h.len⟩
  obtain ⟨D1, hs1, hc2, he1⟩ := syncD_calm hc1
  have hD : D1 = appendD c D r := he1
  rw [← hD]
  exact ⟨appendN_ok hp hs1, hc2⟩
/-- A record appended without failures, where there is room. -/
theorem append_room {n : Nat} {D : DiskM} (h : Calm n D) {c : LogC} (hg : c.good) (h2 : 2 * c.half ≤ n) (σ : St) (r : Rec) (hr : recRightB r = true) (hk : r.kind ≠ 1) (hn : c.next < c.half) :
    appendM c σ D r = (0, { c with next := c.next + 1 }, σ.apply r, appendD c D r) ∧ Calm n (appendD c D r) := by
  rw [append_n (by rw [show recRightB { r with gen := c.gen, lsn := 0 } = recRightB r from rfl, hr]; simp [hk]) (by omega)]
  exact appendN_calm h hg h2 σ _ hr hn
/-- A record appended without failures, where the region is full. -/
theorem append_full {n : Nat} {D : DiskM} (h : Calm n D) {c : LogC} (hg : c.good) (h2 : 2 * c.half ≤ n) (σ : St) (hid : 0 < σ.id) (hlaid : c.laid = false) (r : Rec) (hr : recRightB r = true) (hk : r.kind ≠ 1) (hn : c.next = c.half) (hrs : ∀ r ∈ recsM σ, recRightB r = true) (hf : ((recsM σ).length : Int) + 2 ≤ c.half) :
    appendM c σ D r = (0, ⟨c.half, 1 - c.reg, IntKind.u32.wrap (c.gen + 1), ((recsM σ).length : Int) + 2, false⟩, σ.apply r, appendD ⟨c.half, 1 - c.reg, IntKind.u32.wrap (c.gen + 1), ((recsM σ).length : Int) + 1, false⟩ (compactD c σ D) r) ∧
      Calm n (appendD ⟨c.half, 1 - c.reg, IntKind.u32.wrap (c.gen + 1), ((recsM σ).length : Int) + 1, false⟩ (compactD c σ D) r) := by
  obtain ⟨hcp, hcc⟩ := compact_calm h hg h2 σ hid hlaid hrs hf
  have hw : ∀ x : Int, 0 ≤ IntKind.u32.wrap x ∧ IntKind.u32.wrap x ≤ 4294967295 := fun x => by rw [IntKind.wrap_u32]; omega
  have hg2 : LogC.good ⟨c.half, 1 - c.reg, IntKind.u32.wrap (c.gen + 1), ((recsM σ).length : Int) + 1, false⟩ := ⟨hg.half, by have := hg.reg; simp only; omega, hw _, by simp only; omega⟩
  rw [append_c (by rw [show recRightB { r with gen := c.gen, lsn := 0 } = recRightB r from rfl, hr]; simp [hk]) hn hcp]
  have := appendN_calm hcc hg2 h2 σ { r with gen := c.gen, lsn := 0 } hr (by simp only; omega)
  rw [show σ.apply { r with gen := c.gen, lsn := 0 } = σ.apply r from rfl] at this
  refine ⟨this.1.trans ?_, this.2⟩
  simp only [Int.add_assoc]
  rfl
end Go.Proofs.YtnfaeafplaeehaaGreat
end
section
set_option linter.unusedVariables false
set_option linter.unusedSimpArgs false
namespace Go.Proofs.YtnfaeafplaeehaaGreat
open Go.RowKit
/-! WalSectors' plain law: which sectors a journal has. -/
theorem getM_set {α β : Type} [DecidableEq α] (m : List (α × β)) (k k' : α) (v : β) : getM (updM m k v) k' = if k' = k then some v else getM m k' := by
  induction m with
  | nil =>
    by_cases h : k' = k
    · subst h; simp [updM, getM]
    · rw [if_neg h]
      unfold updM getM
      rw [List.find?_cons_of_neg (by simpa using h)]
  | cons e m ih =>
    unfold updM
    by_cases h : k = e.1
    · rw [if_pos h]
      by_cases h2 : k' = k
      · subst h2
        rw [if_pos rfl]
        unfold getM
        rw [List.find?_cons_of_pos (by simp)]
        rfl
      · rw [if_neg h2]
        unfold getM
        rw [List.find?_cons_of_neg (by simpa using h2), List.find?_cons_of_neg (by simpa [← h] using h2)]
    · rw [if_neg h]
      by_cases h3 : k' = e.1
      · rw [if_neg (by rw [h3]; exact fun h4 => h h4.symm)]
        unfold getM
        rw [List.find?_cons_of_pos (by simpa using h3), List.find?_cons_of_pos (by simpa using h3)]
      · have : ∀ l : List (α × β), getM (e :: l) k' = getM l k' := fun l => by
          unfold getM; rw [List.find?_cons_of_neg (by simpa using h3)]
        rw [this, this, ih]
/-- A disk's sector, once all is synced. -/
theorem sync_get (sec : List Sec) (lat : List (Int × Sec)) (j : Nat) (h : j < sec.length) : (syncS sec lat)[j]? = some ((getM lat (j : Int)).getD (sec.getD j [])) := by
  unfold syncS
  rw [List.getElem?_map, List.getElem?_range h]
  rfl
theorem getD_of {sec : List Sec} {j : Nat} {s : Sec} (h : sec[j]? = some s) : sec.getD j [] = s := by
  rw [List.getD_eq_getElem?_getD, h]; rfl
theorem laidL_get (half o g : Int) : ∀ (l : List Rec) (i : Nat) (lat : List (Int × Sec)) (j : Int),
    getM (laidL half o g l i lat) j = if o * half + (i : Int) < j ∧ j ≤ o * half + (i : Int) + l.length then some (sector { l.getD (j - (o * half + (i : Int)) - 1).toNat (leaseRec 0) with gen := g, lsn := j - o * half }) else getM lat j
  | [], i, lat, j => by
    rw [if_neg (by simp only [List.length_nil]; omega)]
    rfl
  | r :: l, i, lat, j => by
    rw [laidL, laidL_get half o g l (i + 1), getM_set]
    push_cast
    rw [List.length_cons]
    push_cast
    by_cases h1 : j = o * half + ((i : Int) + 1)
    · rw [if_neg (by omega), if_pos h1, if_pos (by omega)]
      rw [show (j - (o * half + (i : Int)) - 1).toNat = 0 by omega, show j - o * half = (i : Int) + 1 by omega]
      rfl
    · rw [if_neg h1]
      by_cases h2 : o * half + ((i : Int) + 1) < j ∧ j ≤ o * half + ((i : Int) + 1) + l.length
      · rw [if_pos h2, if_pos (by omega)]
        obtain ⟨q, hq⟩ : ∃ q, (j - (o * half + (i : Int)) - 1).toNat = q + 1 := ⟨(j - (o * half + (i : Int)) - 1).toNat - 1, by omega⟩
        rw [hq, show (j - (o * half + ((i : Int) + 1)) - 1).toNat = q by omega]
        rfl
      · rw [if_neg h2, if_neg (by omega)]
theorem getM_in {α β : Type} [DecidableEq α] : ∀ (m : List (α × β)) (k : α) (v : β), getM m k = some v → (k, v) ∈ m
  | [], k, v, h => by simp [getM] at h
  | e :: m, k, v, h => by
    unfold getM at h
    by_cases he : k = e.1
    · rw [List.find?_cons_of_pos (by simpa using he)] at h
      simp only [Option.map_some, Option.some.injEq] at h
      subst h
      subst he
      exact List.mem_cons_self ..
    · rw [List.find?_cons_of_neg (by simpa using he)] at h
      exact List.mem_cons_of_mem _ (getM_in m k v h)
theorem getM_key {α β : Type} [DecidableEq α] : ∀ (m : List (α × β)) (k : α), k ∈ m.map (·.1) → ∃ v, getM m k = some v
  | [], k, h => by simp at h
  | e :: m, k, h => by
    by_cases he : k = e.1
    · exact ⟨e.2, by unfold getM; rw [List.find?_cons_of_pos (by simpa using he)]; rfl⟩
    · have : k ∈ m.map (·.1) := by
        rcases List.mem_cons.1 h with h | h
        · exact absurd h he
        · exact h
      obtain ⟨v, hv⟩ := getM_key m k this
      exact ⟨v, by unfold getM at *; rw [List.find?_cons_of_neg (by simpa using he)]; exact hv⟩
theorem updM_in {α β : Type} [DecidableEq α] : ∀ (m : List (α × β)) (k : α) (v : β) (e : α × β), e ∈ updM m k v → e = (k, v) ∨ e ∈ m
  | [], k, v, e, h => by simpa [updM] using h
  | x :: m, k, v, e, h => by
    unfold updM at h
    split at h
    · rcases List.mem_cons.1 h with h | h
      · exact .inl h
      · exact .inr (List.mem_cons_of_mem _ h)
    · rcases List.mem_cons.1 h with h | h
      · exact .inr (h ▸ List.mem_cons_self ..)
      · rcases updM_in m k v e h with h | h
        · exact .inl h
        · exact .inr (List.mem_cons_of_mem _ h)
def RecG (r : Rec) : Prop := r.ok ∧ recRightB r = true
/-- What a state notes can be written. -/
structure StG (σ : St) : Prop where
  id : 0 < σ.id ∧ σ.id ≤ 4294967295
  le : 0 ≤ σ.lease ∧ σ.lease ≤ 1073741824
  own : ∀ e ∈ σ.own, RecG (ownRec e)
  fl : ∀ e ∈ σ.fl, RecG (flRec e)
theorem leaseRec_g (x : Int) (h : 0 ≤ x ∧ x ≤ 1073741824) : RecG (leaseRec x) :=
  ⟨by unfold Rec.ok leaseRec; simp only; omega, by
    unfold recRightB leaseRec
    have : rightB 0 0 = true := by decide
    simp [this, h.2]⟩
theorem StG.recs {σ : St} (h : StG σ) : ∀ r ∈ recsM σ, RecG r := by
  intro r hr
  unfold recsM recsOf at hr
  rcases List.mem_append.1 hr with hr | hr
  · rcases List.mem_append.1 hr with hr | hr
    · obtain ⟨x, hx, rfl⟩ := List.mem_map.1 hr
      have hx2 : x ∈ σ.own.map (·.1) := (List.mergeSort_perm _ _).mem_iff.1 hx
      obtain ⟨v, hv⟩ := getM_key _ _ hx2
      rw [hv]
      exact h.own _ (getM_in _ _ _ hv)
    · split at hr
      · simp only [List.mem_singleton] at hr
        subst hr
        exact leaseRec_g _ h.le
      · simp at hr
  · obtain ⟨x, hx, rfl⟩ := List.mem_map.1 hr
    have hx2 : x ∈ σ.fl.map (·.1) := (List.mergeSort_perm _ _).mem_iff.1 hx
    obtain ⟨v, hv⟩ := getM_key _ _ hx2
    rw [hv]
    exact h.fl _ (getM_in _ _ _ hv)
theorem StG.apply {σ : St} (h : StG σ) {r : Rec} (hr : RecG r) : StG (σ.apply r) := by
  obtain ⟨ho, hr⟩ := hr
  unfold recRightB at hr
  simp only [Bool.and_eq_true] at hr
  obtain ⟨⟨⟨hp, hs⟩, hm⟩, hk⟩ := hr
  obtain ⟨o1, o2, o3, o4, o5, o6, o7, o8⟩ := ho
  unfold St.apply
  split
  · refine ⟨h.id, h.le, fun e he => ?_, h.fl⟩
    rcases updM_in _ _ _ _ he with rfl | he
    · refine ⟨by unfold Rec.ok ownRec; simp only; omega, ?_⟩
      unfold recRightB ownRec
      simp [hp]
    · exact h.own e he
  · split
    · refine ⟨h.id, ?_, h.own, h.fl⟩
      have := h.le
      simp only [Bool.not_eq_true', decide_eq_false_iff_not] at hs
      simp only
      split <;> omega
    · split
      · rename_i k2 k3 k4
        rw [if_neg (by omega), if_neg k2, if_neg k3, if_pos k4] at hk
        simp only [Bool.and_eq_true, decide_eq_true_eq, Bool.not_eq_true'] at hk
        have hg : RecG (flRec (⟨r.a, r.l, r.id⟩, (r.s, r.m))) := by
          refine ⟨by unfold Rec.ok flRec; simp only; omega, ?_⟩
          unfold recRightB flRec
          simp only [hp, hs, hm]
          simp [hk.1]
        refine ⟨h.id, h.le, h.own, fun e he => ?_⟩
        simp only at he
        unfold noteFl at he
        split at he
        · rcases updM_in _ _ _ _ he with rfl | he
          · exact hg
          · exact h.fl e he
        · split at he
          · rcases updM_in _ _ _ _ he with rfl | he
            · exact hg
            · exact h.fl e he
          · exact h.fl e he
      · exact h
theorem recsM_len (σ : St) : (recsM σ).length ≤ σ.own.length + σ.fl.length + 1 := by
  unfold recsM recsOf
  have h1 := pfxSort_len (σ.own.map (·.1))
  have h2 := keySort_len (σ.fl.map (·.1))
  rw [List.length_map] at h1 h2
  rw [List.length_append, List.length_append, List.length_map, List.length_map, h1, h2]
  split <;> simp <;> omega
end Go.Proofs.YtnfaeafplaeehaaGreat
end
section
set_option linter.unusedVariables false
set_option linter.unusedSimpArgs false
namespace Go.Proofs.YtnfaeafplaeehaaGreat
open Go.RowKit
/-! Which sectors a journal has: one step. -/
structure SecI (half : Int) (n : Nat) (reg gen : Int) (want : List Rec) (σ : St) (D : DiskM) (k G : Nat) : Prop where
  calm : Calm n D
  lat : D.lat = []
  two : 2 * half ≤ n ∧ 2 ≤ half ∧ half ≤ 13
  rg : reg = 0 ∨ reg = 1
  gn : 1 ≤ gen ∧ gen ≤ (G : Int)
  len : 1 ≤ want.length ∧ (want.length : Int) ≤ half
  hd : ∃ w0 t, want = w0 :: t ∧ w0.gen = gen
  wok : ∀ r ∈ want, RecG r
  sec : ∀ (i : Nat) (h : i < want.length), D.sec[(reg * half + (i : Int)).toNat]? = some (sector want[i])
  good : Good σ k
  st : StG σ
theorem SecI.logGood {half : Int} {n : Nat} {reg gen : Int} {want : List Rec} {σ : St} {D : DiskM} {k G : Nat} (h : SecI half n reg gen want σ D k G) (hG : G ≤ 1000) : LogC.good ⟨half, reg, gen, want.length, false⟩ := by
  have h1 := h.two
  have h2 := h.gn
  have h3 := h.len
  exact ⟨by simp only; omega, h.rg, by simp only; omega, by simp only; omega⟩
theorem bare_g {r : Rec} (h : RecG r) (g l : Int) (hg : 0 ≤ g ∧ g ≤ 4294967295) (hl : 0 ≤ l ∧ l ≤ 4294967295) : RecG { r with gen := g, lsn := l } :=
  ⟨⟨h.1.1, hg, hl, h.1.2.2.2⟩, h.2⟩
theorem begRec_g (g id : Int) (hg : 0 ≤ g ∧ g ≤ 4294967295) (h : 0 < id ∧ id ≤ 4294967295) : RecG (begRec g id) :=
  ⟨by unfold Rec.ok begRec; simp only; omega, begRec_right g id h.1⟩
theorem append_sec {n : Nat} {D : DiskM} (hc : Calm n D) (hl : D.lat = []) (c : LogC) (r : Rec) (i j : Nat) (hi : c.reg * c.half + c.next = (i : Int)) (hn : i < n) (hj : j < n) :
    (appendD c D r).sec[j]? = if j = i then some (sector { r with gen := c.gen, lsn := c.next }) else D.sec[j]? := by
  unfold appendD
  simp only
  rw [hl, hi, sync_get _ _ j (by rw [hc.len]; exact hj), getM_set]
  by_cases h : j = i
  · subst h
    rw [if_pos rfl, if_pos rfl]
    rfl
  · rw [if_neg (by omega), if_neg h]
    rw [show getM ([] : List (Int × Sec)) (j : Int) = none from rfl, Option.getD_none, List.getD_eq_getElem?_getD]
    have hj2 : j < D.sec.length := by rw [hc.len]; exact hj
    rw [List.getElem?_eq_getElem hj2]
    rfl
theorem place_bd {half reg i : Int} {n : Nat} (hr : reg = 0 ∨ reg = 1) (h2 : 2 * half ≤ n) (hi : 0 ≤ i ∧ i < half) : 0 ≤ reg * half + i ∧ reg * half + i < n := by
  rcases hr with rfl | rfl
  · rw [Int.zero_mul]; omega
  · rw [Int.one_mul]; omega
/-- A record behind the others of a region. -/
theorem sec_add {half : Int} {n : Nat} {reg gen : Int} {want : List Rec} {σ : St} {D : DiskM} {k G : Nat} (h : SecI half n reg gen want σ D k G) (hG : G ≤ 1000) (r : Rec) (hr : RecG r) (hl : (want.length : Int) < half) :
    SecI half n reg gen (want ++ [{ r with gen := gen, lsn := want.length }]) (σ.apply r) (appendD ⟨half, reg, gen, want.length, false⟩ D r) (k + 1) G := by
  have h1 := h.two
  have h2 := h.gn
  have h3 := h.len
  have hcalm : Calm n (appendD ⟨half, reg, gen, want.length, false⟩ D r) := (appendN_calm h.calm (h.logGood hG) h1.1 σ r hr.2 hl).2
  obtain ⟨i, hi⟩ : ∃ i : Nat, reg * half + (want.length : Int) = i := Int.eq_ofNat_of_zero_le (place_bd h.rg h1.1 ⟨by omega, hl⟩).1
  have hin : i < n := by have := (place_bd h.rg h1.1 (i := (want.length : Int)) ⟨by omega, hl⟩).2; omega
  refine ⟨hcalm, rfl, h1, h.rg, h2, by simp only [List.length_append, List.length_singleton]; omega, ?_, ?_, ?_, good_apply _ _ _ h.good hr.2, h.st.apply hr⟩
  · obtain ⟨w0, t, hw, hg⟩ := h.hd
    exact ⟨w0, t ++ [{ r with gen := gen, lsn := want.length }], by rw [hw]; rfl, hg⟩
  · intro x hx
    rcases List.mem_append.1 hx with hx | hx
    · exact h.wok x hx
    · simp only [List.mem_singleton] at hx
      subst hx
      exact bare_g hr _ _ (by omega) (by omega)
  · intro j hj
    rw [List.length_append, List.length_singleton] at hj
    have hjb := place_bd h.rg h1.1 (i := (j : Int)) ⟨by omega, by omega⟩
    have hjn : (reg * half + (j : Int)).toNat < n := by omega
    rw [append_sec h.calm h.lat ⟨half, reg, gen, want.length, false⟩ r i _ hi hin hjn]
    by_cases hjl : j < want.length
    · rw [if_neg (by omega), h.sec j hjl, List.getElem_append_left hjl]
    · obtain rfl : j = want.length := by omega
      rw [if_pos (by omega), List.getElem_append_right (Nat.le_refl _)]
      simp
/-- What is written anew. -/
def wantC (gen : Int) (σ : St) : List Rec := begRec gen 5 :: (recsM σ).mapIdx fun i x => { x with gen := gen, lsn := (i : Int) + 1 }
theorem wantC_len (gen : Int) (σ : St) : (wantC gen σ).length = (recsM σ).length + 1 := by simp [wantC]
theorem sec_compact {half : Int} {n : Nat} {reg gen : Int} {want : List Rec} {σ : St} {D : DiskM} {k G : Nat} (h : SecI half n reg gen want σ D k G) (hG : G ≤ 1000) (hid : σ.id = 5) (hf : ((recsM σ).length : Int) + 2 ≤ half) :
    SecI half n (1 - reg) (gen + 1) (wantC (gen + 1) σ) σ (compactD ⟨half, reg, gen, want.length, false⟩ σ D) k (G + 1) := by
  have h1 := h.two
  have h2 := h.gn
  have hcc := (compact_calm h.calm (h.logGood hG) h1.1 σ h.st.id.1 rfl (fun r hr => (h.st.recs r hr).2) hf).2
  have hw : IntKind.u32.wrap (gen + 1) = gen + 1 := by rw [IntKind.wrap_u32]; omega
  have ho : 1 - reg = 0 ∨ 1 - reg = 1 := by have := h.rg; omega
  refine ⟨hcc, rfl, h1, ho, by omega, by have := wantC_len (gen + 1) σ; omega, ⟨_, _, rfl, rfl⟩, ?_, ?_, h.good, h.st⟩
  · intro x hx
    unfold wantC at hx
    rcases List.mem_cons.1 hx with rfl | hx
    · exact begRec_g _ _ (by omega) (by decide)
    · obtain ⟨i, hi, rfl⟩ := List.mem_mapIdx.1 hx
      exact bare_g (h.st.recs _ (List.getElem_mem hi)) _ _ (by omega) (by omega)
  · intro j hj
    rw [wantC_len] at hj
    obtain ⟨o, ho2⟩ : ∃ o, 1 - reg = o := ⟨_, rfl⟩
    have hjb := place_bd ho h1.1 (i := (j : Int)) ⟨by omega, by omega⟩
    rw [ho2] at hjb
    have hjn : (o * half + (j : Int)).toNat < n := by omega
    have hj0 : 0 ≤ o * half + (j : Int) := by omega
    unfold compactD
    simp only [hw, ho2]
    rw [sync_get _ _ _ (by rw [syncS_len, h.calm.len]; exact hjn), hid]
    rw [show (((o * half + (j : Int)).toNat : Nat) : Int) = o * half + j by omega]
    cases j with
    | zero =>
      rw [show getM [(o * half, sector (begRec (gen + 1) 5))] (o * half + ((0 : Nat) : Int)) = some (sector (begRec (gen + 1) 5)) by
        unfold getM
        rw [List.find?_cons_of_pos (by simp)]
        rfl]
      rfl
    | succ j =>
      rw [show getM [(o * half, sector (begRec (gen + 1) 5))] (o * half + ((j + 1 : Nat) : Int)) = none by
        unfold getM
        rw [List.find?_cons_of_neg (by simp only [decide_eq_true_eq]; push_cast; omega)]
        rfl, Option.getD_none]
      have hgs := sync_get D.sec (laidL half o (gen + 1) (recsM σ) 0 D.lat) (o * half + ((j + 1 : Nat) : Int)).toNat (by rw [h.calm.len]; exact hjn)
      rw [getD_of hgs, show (((o * half + ((j + 1 : Nat) : Int)).toNat : Nat) : Int) = o * half + ((j + 1 : Nat) : Int) by omega, laidL_get, if_pos (by push_cast; omega), Option.getD_some]
      have hjl : j < (recsM σ).length := by omega
      have hw2 : (wantC (gen + 1) σ)[j + 1] = { (recsM σ)[j] with gen := gen + 1, lsn := (j : Int) + 1 } := by simp [wantC]
      rw [hw2, show (o * half + ((j + 1 : Nat) : Int) - (o * half + ((0 : Nat) : Int)) - 1).toNat = j by push_cast; omega, List.getD_eq_getElem?_getD, List.getElem?_eq_getElem hjl, Option.getD_some, show o * half + ((j + 1 : Nat) : Int) - o * half = (j : Int) + 1 by push_cast; omega]
/-- A journal that begins. -/
theorem sec_start (half : Int) (n : Nat) (hn : (n : Int) / 2 = half) (hh : 2 ≤ half ∧ half ≤ 13) (D : DiskM) (hD : D = ⟨syncS (List.replicate n zsec) [(0, sector (begRec 1 5))], [], -1⟩) : SecI half n 0 1 [begRec 1 5] ⟨5, 0, [], []⟩ D 0 1 := by
  subst hD
  refine ⟨⟨by simp only; omega, by simp only; rw [syncS_len, List.length_replicate]⟩, rfl, by omega, .inl rfl, by omega, by simp only [List.length_singleton]; omega, ⟨_, _, rfl, rfl⟩, ?_, ?_, ?_, ?_⟩
  · intro r hr
    simp only [List.mem_singleton] at hr
    subst hr
    exact begRec_g _ _ (by decide) (by decide)
  · intro i hi
    obtain rfl : i = 0 := by simp at hi; exact hi
    rw [show ((0 : Int) * half + ((0 : Nat) : Int)).toNat = 0 by omega, sync_get _ _ 0 (by rw [List.length_replicate]; omega)]
    rfl
  · exact ⟨by simp, by simp, by simp, by simp, by simp, by simp⟩
  · exact ⟨by decide, by decide, by simp, by simp⟩
end Go.Proofs.YtnfaeafplaeehaaGreat
end
section
set_option linter.unusedVariables false
set_option linter.unusedSimpArgs false
namespace Go.Proofs.YtnfaeafplaeehaaGreat
open Go.RowKit
/-! The document's example of a journal. -/
theorem recsM_bare (id x : Int) : recsM ⟨id, x, [], []⟩ = if 0 < x then [leaseRec x] else [] := by
  unfold recsM recsOf pfxSort keySort
  simp [List.mergeSort]
theorem leaseRec_ok (x : Int) (h : 0 ≤ x ∧ x ≤ 4294967295) : (leaseRec x).ok := by unfold Rec.ok leaseRec; simp only; omega
theorem leaseRec_right (x : Int) (h : x ≤ 1073741824) : recRightB (leaseRec x) = true := by
  unfold recRightB leaseRec
  have : rightB 0 0 = true := by decide
  simp [this, h]
theorem recsM_bare_ok (id x : Int) (h : 0 ≤ x ∧ x ≤ 4294967295) : RecsOk (recsM ⟨id, x, [], []⟩) := by
  rw [recsM_bare]
  intro r hr
  split at hr
  · simp at hr; subst hr; exact leaseRec_ok x h
  · simp at hr
theorem wstate_Lease (σ : St) (s g1 g2 : Nat) (w : World) (h : StAt 75 w s g1 g2 σ) :
    Calls Tryz.prog 19 #[.pointer (some ⟨s, 0, none⟩)] w fun e w' => e = .returned (.int .u32 σ.lease) ∧ w' = w := by
  obtain ⟨hB, hm1, hm2, hs1, hs2, h12⟩ := h
  have b0 := hB.cell 0
  have b1 := hB.cell 1
  have b2 := hB.cell 2
  have b3 := hB.cell 3
  have bf0 := hB.frozen 0
  have bf1 := hB.frozen 1
  have bf2 := hB.frozen 2
  have bf3 := hB.frozen 3
  simp only [List.getElem?_toArray, List.getElem?_cons_zero, List.getElem?_cons_succ] at b0 b1 b2 b3
  go_enter Tryz.func19, Tryz.ntmps19
  go_wp2
  go_ret
  exact ⟨rfl, rfl⟩
theorem law07_lease (n : Int) (w : World) : Calls Tryz.prog 18 #[.int .u32 n] w fun e w' => e = .returned (leaseRec n).val ∧ Below w.heap.size w w' := by
  simp only [leaseRec, Rec.val, Rec.arr]
  go_enter Tryz.func18, Tryz.ntmps18
  go_wp2
  have hld := run_load_rec (r := leaseRec n) (show Blk (w.alloc (.cells (leaseRec n).arr 41)) w.heap.size _ _ from Blk.new w _ _)
  refine bodyPost_ret (v := (leaseRec n).val) ?_ rfl ⟨rfl, (Below.refl _ _).alloc (Nat.le_refl _) _⟩
  simp only [leaseRec, Rec.arr] at hld
  simp [results, Tryz.results18, asAddr, hld, leaseRec]
theorem apply_lease (id x n : Int) (o : List (Pfx × Bool)) (f : List (Key × Dst)) : St.apply ⟨id, x, o, f⟩ (leaseRec n) = ⟨id, if n > x then n else x, o, f⟩ := by
  simp [St.apply, leaseRec]
/-- A lease appended to a journal of leases, where there is room. -/
theorem lease_room {n : Nat} {D : DiskM} (h : Calm n D) {c : LogC} (hg : c.good) (h2 : 2 * c.half ≤ n) (id x y : Int) (hx : 0 ≤ x ∧ x < y ∧ y ≤ 1073741824) (hid : 0 < id ∧ id ≤ 4294967295) (hn : c.next < c.half) {L d g bs s g1 g2 : Nat} {w : World} (hW : WalAt w L d g bs s g1 g2 c ⟨id, x, [], []⟩ D) :
    ∃ D', Calm n D' ∧ Calls Tryz.prog 11 #[.pointer (some ⟨L, 0, none⟩), (leaseRec y).val] w fun e w' => e = .returned (.int .i64 0) ∧ WalAt w' L d g bs s g1 g2 { c with next := c.next + 1 } ⟨id, y, [], []⟩ D' ∧ Kept [L, d, g, bs, s, g1, g2] w w' := by
  obtain ⟨ha, hc⟩ := append_room h hg h2 ⟨id, x, [], []⟩ (leaseRec y) (leaseRec_right y hx.2.2) (by simp [leaseRec]) hn
  refine ⟨_, hc, ?_⟩
  rw [apply_lease, if_pos hx.2.1] at ha
  refine (wal_Append (leaseRec y) L d s g bs g1 g2 c ⟨id, x, [], []⟩ D w hW (by have := h.fl; omega) hg (leaseRec_ok y (by omega)) ⟨by simp only; omega, hid.2⟩ (by simp) (by simp) (recsM_bare_ok id x (by omega))).mono ?_
  intro e w' hh
  rw [ha] at hh
  exact hh
/-- A lease appended where the region is full. -/
theorem lease_full {n : Nat} {D : DiskM} (h : Calm n D) {c : LogC} (hg : c.good) (h2 : 2 * c.half ≤ n) (id x y : Int) (hx : 0 < x ∧ x < y ∧ y ≤ 1073741824) (hid : 0 < id ∧ id ≤ 4294967295) (hn : c.next = c.half) (hl : c.laid = false) (h3 : 3 ≤ c.half) {L d g bs s g1 g2 : Nat} {w : World} (hW : WalAt w L d g bs s g1 g2 c ⟨id, x, [], []⟩ D) :
    ∃ D', Calm n D' ∧ Calls Tryz.prog 11 #[.pointer (some ⟨L, 0, none⟩), (leaseRec y).val] w fun e w' => e = .returned (.int .i64 0) ∧ WalAt w' L d g bs s g1 g2 ⟨c.half, 1 - c.reg, IntKind.u32.wrap (c.gen + 1), 3, false⟩ ⟨id, y, [], []⟩ D' ∧ Kept [L, d, g, bs, s, g1, g2] w w' := by
  have hrs : recsM ⟨id, x, [], []⟩ = [leaseRec x] := by rw [recsM_bare, if_pos hx.1]
  obtain ⟨ha, hc⟩ := append_full h hg h2 ⟨id, x, [], []⟩ hid.1 hl (leaseRec y) (leaseRec_right y hx.2.2) (by simp [leaseRec]) hn (by rw [hrs]; intro r hr; simp at hr; subst hr; exact leaseRec_right x (by omega)) (by rw [hrs]; simp only [List.length_singleton]; omega)
  refine ⟨_, hc, ?_⟩
  rw [apply_lease, if_pos hx.2.1] at ha
  refine (wal_Append (leaseRec y) L d s g bs g1 g2 c ⟨id, x, [], []⟩ D w hW (by have := h.fl; omega) hg (leaseRec_ok y (by omega)) ⟨by simp only; omega, hid.2⟩ (by simp) (by simp) (recsM_bare_ok id x (by omega))).mono ?_
  intro e w' hh
  rw [ha] at hh
  simp only [hrs, List.length_singleton] at hh
  simp only [hrs, List.length_singleton]
  exact hh
theorem open_got {w w' : World} {d g bs : Nat} {D D' : DiskM} {id x : Int} {e : Ending} {c : LogC} {σ : St} (h : OpenPost w d g bs D id e w') (ho : openM D id = (x, some (c, σ), D')) :
    ∃ L s g1 g2, e = .returned (.tuple #[.pointer (some ⟨L, 0, none⟩), .int .i64 x]) ∧ WalAt w' L d g bs s g1 g2 c σ D' ∧ (w.heap.size ≤ L ∧ w.heap.size ≤ s ∧ w.heap.size ≤ g1 ∧ w.heap.size ≤ g2) ∧ Kept [d, g, bs] w w' := by
  unfold OpenPost at h
  rw [ho] at h
  obtain ⟨hk, -, h⟩ := h
  rcases h with ⟨L, s, g1, g2, c', σ', hcs, rfl, hW, a⟩ | ⟨hn, -⟩
  · cases hcs
    exact ⟨L, s, g1, g2, rfl, hW, a, hk⟩
  · cases hn
theorem open_none {w w' : World} {d g bs : Nat} {D D' : DiskM} {id x : Int} {e : Ending} (h : OpenPost w d g bs D id e w') (ho : openM D id = (x, none, D')) :
    e = .returned (.tuple #[.pointer none, .int .i64 x]) ∧ DiskD w' d g bs D' ∧ Kept [d, g, bs] w w' := by
  unfold OpenPost at h
  rw [ho] at h
  obtain ⟨hk, hD, h⟩ := h
  rcases h with ⟨L, s, g1, g2, c', σ', hcs, rfl, hW, a⟩ | ⟨hn, he⟩
  · cases hcs
  · exact ⟨he, hD, hk⟩
theorem disk_freshD {w : World} {d g bs : Nat} {n : Int} {k : Nat} (hk : (max 1 (min n 512)).toNat = k) (h : DiskAt w d g bs (List.replicate (max 1 (min n 512)).toNat zsec) [] (-1)) : DiskD w d g bs (freshD k (-1)) := by
  subst hk
  exact h
theorem secB_fresh (n : Nat) : SecB (List.replicate n zsec) [] :=
  ⟨fun s hs => by
    rw [List.eq_of_mem_replicate hs]
    intro x hx
    rw [zsec_eq] at hx
    rw [List.eq_of_mem_replicate hx]
    omega, fun e he => by simp at he⟩
theorem and_low (x : Int) (m : Nat) (hm : m < 1000000) : 0 ≤ bits .and .i64 x (m : Int) ∧ bits .and .i64 x (m : Int) ≤ m := by
  have h2 : (BitVec.ofInt 64 (m : Int)).toNat = m := by
    rw [BitVec.ofInt_natCast, BitVec.toNat_ofNat]; exact Nat.mod_eq_of_lt (by omega)
  have h3 : (BitVec.ofInt 64 x &&& BitVec.ofInt 64 (m : Int)).toNat ≤ m := by rw [BitVec.toNat_and, h2]; exact Nat.and_le_right
  show 0 ≤ IntKind.i64.wrap ((BitVec.ofInt 64 x &&& BitVec.ofInt 64 (m : Int)).toNat : Int) ∧ IntKind.i64.wrap ((BitVec.ofInt 64 x &&& BitVec.ofInt 64 (m : Int)).toNat : Int) ≤ m
  generalize (BitVec.ofInt 64 x &&& BitVec.ofInt 64 (m : Int)).toNat = y at *
  rw [IntKind.wrap_i64]
  omega
theorem WalAt.lts {W : World} {L d g bs s g1 g2 : Nat} {c : LogC} {σ : St} {D : DiskM} (h : WalAt W L d g bs s g1 g2 c σ D) : ∀ x ∈ [L, d, g, bs, s, g1, g2], x < W.heap.size := by
  intro x hx
  simp only [List.mem_cons, List.not_mem_nil, or_false] at hx
  rcases hx with rfl | rfl | rfl | rfl | rfl | rfl | rfl
  · exact Blk.lt h.log
  · exact h.disk.d.lt
  · exact h.disk.m.lt
  · exact h.disk.s.lt
  · exact h.st.1.lt
  · exact h.st.2.1.lt
  · exact h.st.2.2.1.lt
set_option maxRecDepth 100000 in
set_option maxHeartbeats 4000000 in
theorem law07_head (w : World) : Calls Tryz.prog 4 #[] w fun e w' => e = .returned (.bool true) ∧ Below w.heap.size w w' := by
  go_enter Tryz.func4, Tryz.ntmps4
  go_wp2_with fail
  refine (disk_New 8 w).mono ?_
  rintro e w1 ⟨d, g, bs, rfl, hD0, ⟨n1, n2, n3⟩, hb1⟩
  have hD := disk_freshD (k := 8) (by decide) hD0
  clear hD0
  obtain ⟨D1, hO, hC, -⟩ := open_fresh 8 7 (-1) (by decide) (by decide) (by decide)
  go_wp2_with fail
  refine (wal_Open d g bs (freshD 8 (-1)) 7 w1 hD (secB_fresh 8) (by decide) (by decide)).mono ?_
  rintro e w2 hP
  obtain ⟨L, s, g1, g2, rfl, hW, ha, hk⟩ := open_got hP hO
  have hb2 : Below w.heap.size w w2 := by
    refine hk.below hb1 hb1.size (fun x hx => ?_)
    simp only [List.mem_cons, List.not_mem_nil, or_false] at hx
    omega
  have HS := Lib.hid (show ∀ x ∈ [L, d, g, bs, s, g1, g2], w.heap.size ≤ x from by
    have := hb1.size
    intro x hx
    simp only [List.mem_cons, List.not_mem_nil, or_false] at hx
    omega)
  clear hk hb1 hD n1 n2 n3 ha hO hP
  rw [show ((8 : Nat) : Int) / 2 = 4 from rfl] at hW
  go_wp2_with fail
  go_loopw [4] (fun i wr => ∃ (k : Nat) (D : DiskM), 1 ≤ k ∧ k ≤ 4 ∧ i = .int .u32 k ∧ WalAt wr L d g bs s g1 g2 ⟨4, 0, 1, k, false⟩ ⟨7, (k : Int) - 1, [], []⟩ D ∧ Calm 8 D ∧ Below w.heap.size w wr) (fun i _ => 4 - (intOf i).toNat)
  case atStart => exact ⟨1, D1, by omega, by omega, rfl, hW, hC, hb2⟩
  case round =>
    clear hW hC hb2
    obtain ⟨k, D, hk1, hk4, rfl, hW, hC, hb⟩ := hrel
    by_cases hlt : k < 4
    · go_wp2_with fail
      refine (law07_lease k wr).mono ?_
      rintro e w3 ⟨rfl, hb3⟩
      replace hW := hW.below hb3
      replace hb := hb.trans (hb3.mono hb.size)
      have hg : LogC.good ⟨4, 0, 1, (k : Int), false⟩ := ⟨by simp only; omega, .inl rfl, by simp only; omega, by simp only; omega⟩
      obtain ⟨D', hC', hAp⟩ := lease_room hC hg (by simp only; omega) 7 ((k : Int) - 1) k (by omega) (by decide) (by simp only; omega) hW
      go_wp2_with fail
      refine hAp.mono ?_
      rintro e w4 ⟨rfl, hW4, hk4'⟩
      replace hb := hk4'.below hb hb.size HS.out
      clear hAp hW hb3 hC hg
      go_wp2_with fail
      refine (wal_Gen L d s _ w4 hW4.log).mono ?_
      rintro e w5 ⟨rfl, rfl⟩
      go_wp2
      case roundEnd => exact ⟨⟨k + 1, D', by omega, by omega, by go_num, by push_cast; rw [Int.add_sub_cancel]; exact hW4, hC', hb⟩, by simp [intOf]; omega⟩
    · obtain rfl : k = 4 := by omega
      have hg : LogC.good ⟨4, 0, 1, ((4 : Nat) : Int), false⟩ := ⟨by decide, by decide, by decide, by decide⟩
      go_wp2_with fail
      refine (wal_Len L d s _ wr hW.log (by decide)).mono ?_
      rintro e w3 ⟨rfl, rfl⟩
      go_wp2_with fail
      refine (law07_lease 4 w3).mono ?_
      rintro e w4 ⟨rfl, hb4⟩
      replace hW := hW.below hb4
      replace hb := hb.trans (hb4.mono hb.size)
      obtain ⟨D', hC', hAp⟩ := lease_full hC hg (by decide) 7 3 4 (by decide) (by decide) rfl rfl (by decide) hW
      clear hb4
      go_wp2_with fail
      refine hAp.mono ?_
      rintro e w5 ⟨rfl, hW5, hk5⟩
      replace hb := hk5.below hb hb.size HS.out
      clear hAp hW hk5
      go_wp2_with fail
      refine (wal_Gen L d s _ w5 hW5.log).mono ?_
      rintro e w6 ⟨rfl, rfl⟩
      go_wp2_with fail
      refine (wal_Len L d s _ w6 hW5.log (by decide)).mono ?_
      rintro e w7 ⟨rfl, rfl⟩
      go_wp2_with fail
      refine (wal_State L d s _ w7 hW5.log).mono ?_
      rintro e w8 ⟨rfl, rfl⟩
      go_wp2_with fail
      refine (wstate_Lease _ s g1 g2 w8 hW5.st).mono ?_
      rintro e w9 ⟨rfl, rfl⟩
      go_wp2
      go_ret
      exact ⟨rfl, hb⟩
end Go.Proofs.YtnfaeafplaeehaaGreat
end
