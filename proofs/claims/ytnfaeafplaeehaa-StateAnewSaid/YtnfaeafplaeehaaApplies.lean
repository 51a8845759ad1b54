import Derived.Test.YtnfaeafplaeehaaAllows
import Derived.Test.YtnfaeafplaeehaaShowsAll
import Derived.Test.YtnfaeafplaeehaaOpenRecs
import Derived.Test.YtnfaeafplaeehaaOpenInt
set_option linter.unusedVariables false
set_option linter.unusedSimpArgs false
namespace Go.Proofs.Ytnfaeafplaeehaa
open Go.RowKit
theorem updM_keys {α β : Type} [DecidableEq α] (m : List (α × β)) (k : α) (v : β) : (updM m k v).map (·.1) = if k ∈ m.map (·.1) then m.map (·.1) else m.map (·.1) ++ [k] := by
  induction m with
  | nil => simp [updM]
  | cons e m ih =>
    unfold updM
    by_cases h : k = e.1
    · rw [if_pos h]
      simp [h]
    · rw [if_neg h, List.map_cons, ih]
      by_cases h2 : k ∈ m.map (·.1)
      · rw [if_pos h2, if_pos (by simp only [List.map_cons, List.mem_cons]; exact .inr h2)]
        rfl
      · rw [if_neg h2, if_neg (by simp only [List.map_cons, List.mem_cons, not_or]; exact ⟨h, h2⟩)]
        rfl
theorem updM_keep {α β : Type} [DecidableEq α] (m : List (α × β)) (k : α) (v : β) (S : α → Prop) (n : Nat) (h1 : (m.map (·.1)).Nodup) (h2 : m.length ≤ n) (h3 : ∀ x ∈ m.map (·.1), S x) (hk : S k) :
    ((updM m k v).map (·.1)).Nodup ∧ (updM m k v).length ≤ n + 1 ∧ ∀ x ∈ (updM m k v).map (·.1), S x := by
  have hl : (updM m k v).length = ((updM m k v).map (·.1)).length := by simp
  rw [hl, updM_keys]
  split
  · exact ⟨h1, by simp; omega, h3⟩
  · rename_i hn
    refine ⟨?_, by simp; omega, ?_⟩
    · rw [List.nodup_append]
      exact ⟨h1, by simp, fun x hx y hy => by
        simp only [List.mem_singleton] at hy
        subst hy
        exact fun e => hn (e ▸ hx)⟩
    · intro x hx
      rcases List.mem_append.1 hx with hx | hx
      · exact h3 x hx
      · simp only [List.mem_singleton] at hx
        exact hx ▸ hk
/-- What a state made of few right records is. -/
structure Good (σ : St) (n : Nat) : Prop where
  n1 : (σ.own.map (·.1)).Nodup
  n2 : (σ.fl.map (·.1)).Nodup
  l1 : σ.own.length ≤ n
  l2 : σ.fl.length ≤ n
  o1 : ∀ p ∈ σ.own.map (·.1), p.l ≤ 32
  o2 : ∀ k ∈ σ.fl.map (·.1), 0 < k.id
theorem good_apply (σ : St) (r : Rec) (n : Nat) (h : Good σ n) (hr : recRightB r = true) : Good (σ.apply r) (n + 1) := by
  obtain ⟨h1, h2, h3, h4, h5, h6⟩ := h
  unfold recRightB at hr
  simp only [Bool.and_eq_true] at hr
  obtain ⟨⟨⟨hp, -⟩, -⟩, hk⟩ := hr
  unfold St.apply
  split
  · have hl : (⟨r.a, r.l⟩ : Pfx).l ≤ 32 := by
      unfold rightB at hp
      simp at hp
      simp
      omega
    obtain ⟨a, b, c⟩ := updM_keep σ.own ⟨r.a, r.l⟩ r.on (fun p => p.l ≤ 32) n h1 h3 h5 hl
    exact ⟨a, h2, b, by simp; omega, c, h6⟩
  · split
    · exact ⟨h1, h2, by simp; omega, by simp; omega, h5, h6⟩
    · split
      · rename_i k2 k3 k4
        rw [if_neg (by omega), if_neg k2, if_neg k3, if_pos k4] at hk
        simp only [Bool.and_eq_true, decide_eq_true_eq] at hk
        obtain ⟨a, b, c⟩ := updM_keep σ.fl ⟨r.a, r.l, r.id⟩ (r.s, r.m) (fun p => 0 < p.id) n h2 h4 h6 hk.1
        unfold noteFl
        split
        · exact ⟨h1, a, by simp; omega, b, h5, c⟩
        · split
          · exact ⟨h1, a, by simp; omega, b, h5, c⟩
          · exact ⟨h1, h2, by simp; omega, by simp; omega, h5, h6⟩
      · exact ⟨h1, h2, by omega, by omega, h5, h6⟩
theorem good_run (id : Int) (l : List Rec) (h : fewB l = true) (k : Nat) (hk : k ≤ l.length) : Good (St.run ⟨id, 0, [], []⟩ (l.take k)) k := by
  unfold fewB at h
  simp only [Bool.and_eq_true, List.all_eq_true, decide_eq_true_eq] at h
  induction k with
  | zero => exact ⟨by simp [St.run], by simp [St.run], by simp [St.run], by simp [St.run], by simp [St.run], by simp [St.run]⟩
  | succ k ih =>
    rw [run_take _ _ _ hk]
    exact good_apply _ _ _ (ih (by omega)) (h.1 _ (List.getElem_mem _))
theorem few_len (l : List Rec) (h : fewB l = true) : l.length ≤ 60 := by
  unfold fewB at h
  simp only [Bool.and_eq_true, decide_eq_true_eq] at h
  exact h.2
theorem getM_none {α β : Type} [DecidableEq α] (m : List (α × β)) (k : α) (h : k ∉ m.map (·.1)) : getM m k = none := by
  unfold getM
  rw [List.find?_eq_none.2 (fun x hx => by
    simp only [decide_eq_true_eq]
    exact fun e => h (e ▸ List.mem_map.2 ⟨x, hx, rfl⟩))]
  rfl
set_option maxHeartbeats 8000000 in
theorem StateApplies_all (id : Int) (l : List Rec) (A : Option Addr) (c : Nat) (w : World) (hr : Row w 9 A l.length (recs l)) (ho : RecsOk l) :
    Calls Try.prog 8 #[.int .u32 id, .slice A l.length c] w fun e w' => e = .returned (.bool true) ∧ Below w.heap.size w w' := by
  have hn := hr.2.1
  cases hfew : fewB l with
  | false =>
    go_enter Try.func8, Try.ntmps8
    go_wp2_with fail
    refine (law06_head _).mono ?_
    rintro e w1 ⟨rfl, hb1⟩
    go_wp2_with fail
    refine (law06_few l A c w1 (hr.below hb1) ho).mono ?_
    rintro e w2 ⟨rfl, hb3⟩
    rw [hfew]
    have hb2 := below_step hb1 hb1.size hb3
    clear hb1 hb3
    go_wp2
    go_ret
    exact ⟨rfl, hb2⟩
  | true =>
    have hgood := good_run id l hfew
    have hl60 := few_len l hfew
    go_enter Try.func8, Try.ntmps8
    go_wp2_with fail
    refine (law06_head _).mono ?_
    rintro e w1 ⟨rfl, hb1⟩
    go_wp2_with fail
    refine (law06_few l A c w1 (hr.below hb1) ho).mono ?_
    rintro e w2 ⟨rfl, hb3⟩
    rw [hfew]
    have hb2 := below_step hb1 hb1.size hb3
    clear hb1 hb3
    go_wp2_with fail
    refine (state_New _ _).mono ?_
    rintro e w3 ⟨hb3, s, g1, g2, rfl, hS, ks, kg1, kg2⟩
    go_wp2_with fail
    refine (law06_New _ _).mono ?_
    rintro e w4 ⟨hb4, m, h1, h2, rfl, hM, km, kh1, kh2⟩
    have z1 := hS.1.lt
    have z2 := (hS.2.1).lt
    have z3 := (hS.2.2.1).lt
    have hsep : s < m ∧ s < h1 ∧ s < h2 ∧ g1 < m ∧ g1 < h1 ∧ g1 < h2 ∧ g2 < m ∧ g2 < h1 ∧ g2 < h2 := by omega
    replace hS := hS.below hb4
    have hw0 : Below w2.heap.size w2 w4 := below_step hb3 hb3.size hb4
    have hge : w2.heap.size ≤ m ∧ w2.heap.size ≤ h1 ∧ w2.heap.size ≤ h2 := by have := hb3.size; omega
    clear hb3 hb4 z1 z2 z3 km kh1 kh2
    go_wp2
    go_loopw [24] (fun i wr => ∃ k : Nat, k ≤ l.length ∧ i = .int .i64 k ∧ StAt 121 wr s g1 g2 (St.run ⟨id, 0, [], []⟩ (l.take k)) ∧ StAt 45 wr m h1 h2 (St.run ⟨id, 0, [], []⟩ (l.take k)) ∧ Below w2.heap.size w2 wr) (fun i _ => l.length - (intOf i).toNat)
    case atStart => exact ⟨0, Nat.zero_le _, rfl, hS, hM, hw0⟩
    case round =>
      clear hS hM hw0
      obtain ⟨k, hk, rfl, hS, hM, hw⟩ := hrel
      by_cases hlt : k < l.length
      · obtain ⟨b, off, rfl, hbl, hcell⟩ := (hr.below (below_step hb2 hb2.size hw)).2.2 (by omega)
        have e0 := hcell (k * 9 + 0) _ (recs_get l k 0 hlt (by omega))
        have e1 := hcell (k * 9 + 1) _ (recs_get l k 1 hlt (by omega))
        have e2 := hcell (k * 9 + 2) _ (recs_get l k 2 hlt (by omega))
        have e3 := hcell (k * 9 + 3) _ (recs_get l k 3 hlt (by omega))
        have e4 := hcell (k * 9 + 4) _ (recs_get l k 4 hlt (by omega))
        have e5 := hcell (k * 9 + 5) _ (recs_get l k 5 hlt (by omega))
        have e6 := hcell (k * 9 + 6) _ (recs_get l k 6 hlt (by omega))
        have e7 := hcell (k * 9 + 7) _ (recs_get l k 7 hlt (by omega))
        have e8 := hcell (k * 9 + 8) _ (recs_get l k 8 hlt (by omega))
        have HT := Lib.hid (run_take ⟨id, 0, [], []⟩ l k hlt)
        have HG := Lib.hid (hgood (k + 1) hlt)
        clear hgood
        generalize l[k] = r at *
        obtain ⟨kind, gen, lsn, xid, xa, xl, on, rs, rm⟩ := r
        simp only [Rec.cells, List.getElem?_cons_zero, List.getElem?_cons_succ, ← Nat.add_assoc, Nat.add_zero] at e0 e1 e2 e3 e4 e5 e6 e7 e8
        clear hcell
        go_wp2_with fail
        have z1 := hS.1.lt
        have z2 := (hS.2.1).lt
        have z3 := (hS.2.2.1).lt
        have z4 := hM.1.lt
        have z5 := (hM.2.1).lt
        have z6 := (hM.2.2.1).lt
        have kR := Blk.new wr 39 #[.int .i64 kind, .int .u32 gen, .int .u32 lsn, .int .u32 xid, .int .u32 xa, .int .i64 xl, .bool on, .int .u32 rs, .int .u16 rm]
        replace hS := hS.below ((Below.refl _ wr).alloc (Nat.le_refl _) (.cells #[.int .i64 kind, .int .u32 gen, .int .u32 lsn, .int .u32 xid, .int .u32 xa, .int .i64 xl, .bool on, .int .u32 rs, .int .u16 rm] 39))
        replace hM := hM.below ((Below.refl _ wr).alloc (Nat.le_refl _) (.cells #[.int .i64 kind, .int .u32 gen, .int .u32 lsn, .int .u32 xid, .int .u32 xa, .int .i64 xl, .bool on, .int .u32 rs, .int .u16 rm] 39))
        refine (state_Apply _ ⟨kind, gen, lsn, xid, xa, xl, on, rs, rm⟩ s g1 g2 _ hS).mono ?_
        rintro e w5 ⟨rfl, hS, hk1⟩
        replace hM := hM.kept hk1 (by simp; omega) (by simp; omega) (by simp; omega)
        replace kR := hk1.blk kR (by simp; omega)
        have hw5 : Below w2.heap.size w2 w5 := hk1.below (hw.alloc hw.size _) (by have := hw.size; simp; omega) (by simp; omega)
        clear hk1 e0 e1 e2 e3 e4 e5 e6 e7 e8
        have kRl := kR.lt
        have r0 := kR.cell 0
        have r1 := kR.cell 1
        have r2 := kR.cell 2
        have r3 := kR.cell 3
        have r4 := kR.cell 4
        have r5 := kR.cell 5
        have r6 := kR.cell 6
        have r7 := kR.cell 7
        have r8 := kR.cell 8
        simp only [List.getElem?_toArray, List.getElem?_cons_zero, List.getElem?_cons_succ] at r0 r1 r2 r3 r4 r5 r6 r7 r8
        go_wp2_with fail
        refine (model_Apply _ ⟨kind, gen, lsn, xid, xa, xl, on, rs, rm⟩ m h1 h2 _ hM).mono ?_
        rintro e w6 ⟨rfl, hM, hk1⟩
        replace hS := hS.kept hk1 (by simp; omega) (by simp; omega) (by simp; omega)
        replace hw5 : Below w2.heap.size w2 w6 := hk1.below hw5 hw5.size (by simp; omega)
        rw [← HT.out] at hM hS
        clear HT hk1 kR hbl kRl r0 r1 r2 r3 r4 r5 r6 r7 r8
        go_wp2_with fail
        refine (model_Shows _ m h1 h2 s g1 g2 _ hM hS HG.out.n1 (by have := HG.out.l1; omega) HG.out.n2 (by have := HG.out.l2; omega)).mono ?_
        rintro e w7 ⟨rfl, hb7⟩
        replace hS := hS.below hb7
        replace hM := hM.below hb7
        replace hw5 := below_step hw5 hw5.size hb7
        clear hb7
        go_wp2
        go_roundw
        case rel => exact ⟨k + 1, by omega, by go_num, hS, hM, hw5⟩
        case measure => simp [intOf]; omega
      · obtain rfl : k = l.length := by omega
        have hG := hgood l.length (Nat.le_refl _)
        rw [List.take_length] at hS hM hG
        clear hgood hM
        generalize St.run ⟨id, 0, [], []⟩ l = σ at hS hG
        have hbr : Below w.heap.size w wr := below_step hb2 hb2.size hw
        have HO := Lib.hid (getM_none σ.own (⟨1, 40⟩ : Pfx) (fun h => absurd (hG.o1 _ h) (by decide)))
        have HF := Lib.hid (getM_none σ.fl (⟨0, 0, 0⟩ : Key) (fun h => absurd (hG.o2 _ h) (by decide)))
        clear hw hsep hge ks kg1 kg2 hb2 hG
        go_wp2_with fail
        refine (state_Own σ ⟨1, 40⟩ s g1 g2 _ hS).mono ?_
        rintro e w5 ⟨rfl, hb5⟩
        rw [HO.out]
        replace hS := hS.below hb5
        replace hbr := below_step hbr hbr.size hb5
        clear hb5
        go_wp2_with fail
        refine (state_Floor σ ⟨0, 0, 0⟩ s g1 g2 _ hS).mono ?_
        rintro e w6 ⟨rfl, hb5⟩
        rw [HF.out]
        replace hbr := below_step hbr hbr.size hb5
        clear hb5
        go_wp2
        go_ret
        exact ⟨rfl, hbr.alloc hbr.size _⟩
end Go.Proofs.Ytnfaeafplaeehaa
