/- own texts of this claim, one behind the other: see the remarks within -/
import Derived.Test.YtnfaeafplaeehaaGreatMrgI
import Derived.Test.YtnfaeafplaeehaaGreatMrgJ
section
set_option linter.unusedVariables false
set_option linter.unusedSimpArgs false
namespace Go.Proofs.YtnfaeafplaeehaaGreat
open Go.RowKit Go.ChangeMaps
/-! All that was written becomes safe. -/
def syncS (sec : List Sec) (lat : List (Int × Sec)) : List Sec := (List.range sec.length).map (atD sec lat)
theorem syncS_len (sec : List Sec) (lat : List (Int × Sec)) : (syncS sec lat).length = sec.length := by simp [syncS]
theorem run_clear {P : Program} {T K E ty : TypeId} (hT : P.underlying T = some (.map K E)) (w : World) (b : Nat) (es : Array MapEntry) (c : Nat) (h : w.heap[b]? = some (.map es c)) :
    (Builtin.clear_ #[T] ty #[.map (some b)]).run P w = .ok (.tuple #[]) { w with heap := w.heap.setIfInBounds b (.map #[] c) } := by
  simp [Builtin.clear_, run_underlying hT, getObj, setObj, Sem.run, h]
theorem DiskAt.cleared {W : World} {d g bs : Nat} {sec : List Sec} {lat : List (Int × Sec)} {fl : Int} (h : DiskAt W d g bs sec lat fl) :
    ∃ W', (∀ ty, (Builtin.clear_ #[58] ty #[.map (some g)]).run Tryz.prog W = .ok (.tuple #[]) W') ∧ DiskAt W' d g bs sec [] fl ∧ Kept [g] W W' := by
  obtain ⟨es, c, h1, h2, h3, h4⟩ := h.m
  have hlt := h.m.lt
  have hk : Kept [g] W { W with heap := W.heap.setIfInBounds g (.map #[] c) } := ⟨rfl, rfl, rfl, by simp, fun i hi hs => by
    simp only [List.mem_singleton] at hs
    simp [Array.getElem?_setIfInBounds, Ne.symm hs]⟩
  refine ⟨_, fun ty => run_clear Tryz.underlying58 W g es c h1, ⟨hk.blk h.d (by simpa using blk_mapD h.d h.m), hk.blk h.s (by simpa using blk_mapD h.s h.m), ⟨#[], c, by simp [hlt], by simp, by simp, by simp⟩, h.l, by simp, by simp, h.sz⟩, hk⟩
theorem DiskAt.kept {S : List Nat} {W W' : World} {d g bs : Nat} {sec : List Sec} {lat : List (Int × Sec)} {fl : Int} (h : DiskAt W d g bs sec lat fl) (hk : Kept S W W') (h0 : d ∉ S) (h1 : g ∉ S) (h2 : bs ∉ S) : DiskAt W' d g bs sec lat fl := ⟨hk.blk h.d h0, hk.blk h.s h2, h.m.kept hk h1, h.l, h.k, h.n, h.sz⟩
theorem DiskAt.alloc {W : World} {d g bs : Nat} {sec : List Sec} {lat : List (Int × Sec)} {fl : Int} (h : DiskAt W d g bs sec lat fl) (o : Obj) : DiskAt (W.alloc o) d g bs sec lat fl := h.below ((Below.refl _ _).alloc (Nat.le_refl _) o)
/-- Then only a new block was turned. -/
theorem Kept.fresh {S : List Nat} {n : Nat} {a b c : World} (h : Kept S a b) (k : Kept [n] b c) (hab : a.heap.size ≤ n) : Kept S a c :=
  ⟨k.os.trans h.os, k.tape.trans h.tape, k.output.trans h.output, Nat.le_trans h.size k.size, fun i hi hs => (k.block i (Nat.lt_of_lt_of_le hi h.size) (by simp; omega)).trans (h.block i hi hs)⟩
structure SyAt (sec : List Sec) (lat : List (Int × Sec)) (d g bs : Nat) (fl : Int) (r since : Nat) (W : World) (seen : Array Nat) (es : Array MapEntry) (sec' : List Sec) : Prop where
  it : ∃ c0, since ≤ c0 ∧ W.heap[r]? = some (.mapIter (some g) since seen c0)
  mp : W.heap[g]? = some (.map es since)
  rd : es.toList.map (fun e => (e.key, e.val)) = lat.map (fun x => (ikey x.1, secV x.2))
  born : ∀ e ∈ es.toList, e.born < since
  nd : (es.toList.map (·.born)).Nodup
  dk : DiskAt W d g bs sec' lat fl
  sl : sec'.length = sec.length
  done : ∀ e ∈ es.toList, e.born ∈ seen → ∀ x : Int × Sec, e.key = ikey x.1 → e.val = secV x.2 → sec'[x.1.toNat]? = some x.2
  rest : ∀ i : Nat, (∀ e ∈ es.toList, e.born ∈ seen → e.key ≠ ikey i) → sec'[i]? = sec[i]?
theorem getM_some_iff {m : List (Int × Sec)} (hn : (m.map (·.1)).Nodup) {x : Int × Sec} (hx : x ∈ m) : getM m x.1 = some x.2 := by
  unfold getM
  cases hf : m.find? fun y => decide (x.1 = y.1) with
  | none =>
    have := List.find?_eq_none.1 hf x hx
    simp at this
  | some y =>
    have h1 := List.find?_some hf
    simp only [decide_eq_true_eq] at h1
    have := keys_eq hn hx (List.mem_of_find?_eq_some hf) h1
    rw [this]
    rfl
theorem getM_none_iff {m : List (Int × Sec)} {k : Int} (h : getM m k = none) : ∀ x ∈ m, x.1 ≠ k := by
  unfold getM at h
  simp only [Option.map_eq_none_iff, List.find?_eq_none, decide_eq_true_eq] at h
  exact fun x hx e => h x hx e.symm
theorem getM_mem {m : List (Int × Sec)} {k : Int} {v : Sec} (h : getM m k = some v) : (k, v) ∈ m := by
  unfold getM at h
  obtain ⟨e, he, rfl⟩ := Option.map_eq_some_iff.1 h
  have h1 := List.find?_some he
  simp only [decide_eq_true_eq] at h1
  rw [h1]
  exact List.mem_of_find?_eq_some he
theorem ikey_inj {a b : Int} (h : ikey a = ikey b) : a = b := by simpa [ikey] using h
theorem secV_inj {a b : Sec} (h : secV a = secV b) : a = b := by
  simp only [secV, Value.agg.injEq, u8s] at h
  have h2 := congrArg Array.toList h
  exact (List.map_inj_right (fun x y h => by injection h)).1 h2
theorem SyAt.fin {sec : List Sec} {lat : List (Int × Sec)} {d g bs : Nat} {fl : Int} {r since : Nat} {W : World} {seen : Array Nat} {es : Array MapEntry} {sec' : List Sec} (h : SyAt sec lat d g bs fl r since W seen es sec') (hz : (leftOf es seen).size = 0) : sec' = syncS sec lat := by
  have hs : ∀ e ∈ es.toList, e.born ∈ seen := fun e he => by
    have h0 : leftOf es seen = #[] := Array.eq_empty_of_size_eq_zero hz
    unfold leftOf at h0
    rw [Array.filter_eq_empty_iff] at h0
    simpa [Array.contains_iff_mem] using h0 e (by simpa using he)
  refine List.ext_getElem? fun i => ?_
  by_cases hi : i < sec.length
  · have e2 : (syncS sec lat)[i]? = some (atD sec lat i) := by simp [syncS, hi]
    rw [e2]
    unfold atD
    cases hg : getM lat (i : Int) with
    | some v =>
      obtain ⟨e, he, e3, e4⟩ := entry_to h.rd (getM_mem hg)
      have := h.done e he (hs e he) _ e3 e4
      simpa using this
    | none =>
      rw [h.rest i fun e he _ ek => ?_]
      · simp [hi]
      · obtain ⟨x, hx, e3, -⟩ := entry_of h.rd he
        rw [ek] at e3
        exact getM_none_iff hg x hx (ikey_inj e3).symm
  · rw [List.getElem?_eq_none (by have := h.sl; omega), List.getElem?_eq_none (by rw [syncS_len]; omega)]
theorem SyAt.step {sec : List Sec} {lat : List (Int × Sec)} {d g bs : Nat} {fl : Int} {r since : Nat} {W W' : World} {seen : Array Nat} {es : Array MapEntry} {sec' : List Sec} (h : SyAt sec lat d g bs fl r since W seen es sec') (e : MapEntry) (he : e ∈ es.toList) (x : Int × Sec) (hx : x ∈ lat) (ek : e.key = ikey x.1) (ev : e.val = secV x.2)
    (hr : W'.heap[r]? = some (.mapIter (some g) since (seen.push e.born) since)) (hb : W'.heap[g]? = some (.map es since)) (hd : DiskAt W' d g bs (sec'.set x.1.toNat x.2) lat fl) : SyAt sec lat d g bs fl r since W' (seen.push e.born) es (sec'.set x.1.toNat x.2) := by
  have hk := h.dk.k x hx
  refine ⟨⟨since, Nat.le_refl _, hr⟩, hb, h.rd, h.born, h.nd, hd, by rw [List.length_set, h.sl], fun e' he' hs y e1 e2 => ?_, fun i hi => ?_⟩
  · by_cases hyx : y.1 = x.1
    · obtain ⟨z, hz, e3, e4⟩ := entry_of h.rd he'
      rw [e1] at e3
      rw [e2] at e4
      have h1 : z = y := Prod.ext (ikey_inj e3).symm (secV_inj e4).symm
      rw [h1] at hz
      rw [keys_eq h.dk.n hz hx hyx, List.getElem?_set_self (by omega)]
    · have h1 : x.1.toNat ≠ y.1.toNat := by
        obtain ⟨z, hz, e3, -⟩ := entry_of h.rd he'
        rw [e1] at e3
        have := h.dk.k z hz
        rw [← ikey_inj e3] at this
        omega
      rw [List.getElem?_set_ne h1]
      rcases Array.mem_push.1 hs with hs | hs
      · exact h.done e' he' hs y e1 e2
      · obtain rfl := born_eq h.nd he' he hs
        rw [ek] at e1
        exact absurd (ikey_inj e1).symm hyx
  · have h1 : x.1.toNat ≠ i := by
      intro e1
      exact hi e he (by simp) (by rw [ek, ← e1]; congr 1; omega)
    rw [List.getElem?_set_ne h1]
    exact h.rest i fun e' he' hs => hi e' he' (Array.mem_push.2 (.inl hs))
end Go.Proofs.YtnfaeafplaeehaaGreat
end
section
set_option linter.unusedVariables false
set_option linter.unusedSimpArgs false
namespace Go.Proofs.YtnfaeafplaeehaaGreat
open Go.RowKit Go.ChangeMaps
/-! Sync, walked. -/
set_option maxRecDepth 100000 in
set_option maxHeartbeats 2000000 in
theorem disk_Sync (d g bs : Nat) (sec : List Sec) (lat : List (Int × Sec)) (fl : Int) (w : World) (h : DiskAt w d g bs sec lat fl) (hf : fl ≤ 9223372036854775807) :
    Calls Tryz.prog 26 #[.pointer (some ⟨d, 0, none⟩)] w fun e w' => e = .returned (.int .i64 (if (failsF fl).1 = true then 4 else 0)) ∧ DiskAt w' d g bs (if (failsF fl).1 = true then sec else syncS sec lat) (if (failsF fl).1 = true then lat else []) (failsF fl).2 ∧ Kept [d, g, bs] w w' := by
  have hF := disk_fails d g bs sec lat fl w h hf
  generalize failsF fl = q at *
  obtain ⟨qb, qf⟩ := q
  simp only at hF ⊢
  go_enter Tryz.func26, Tryz.ntmps26
  go_wp2_with fail
  refine hF.mono ?_
  rintro e w1 ⟨rfl, hD, hk⟩
  cases qb with
  | true =>
    go_wp2
    go_ret
    exact ⟨rfl, hD, hk.more (by simp)⟩
  | false =>
    clear hF h
    have hB := hD.d
    have b0 := hB.cell 0
    have b1 := hB.cell 1
    have b2 := hB.cell 2
    simp only [List.getElem?_toArray, List.getElem?_cons_zero, List.getElem?_cons_succ] at b0 b1 b2
    have b9 := hB.lt
    obtain ⟨es, clock, hb, hes, hborn, hbn⟩ := hD.m
    have hbl := lt_of_heap hb
    have hrg := run_range_map (P := Tryz.prog) w1 58 3 90 g es clock Tryz.underlying58 hb
    have hD0 : SyAt sec lat d g bs qf w1.heap.size clock (w1.alloc (.mapIter (some g) clock #[] clock)) #[] es sec := ⟨⟨clock, Nat.le_refl _, heap_new _ _⟩, (Below.heap_alloc _ _ g hbl).trans hb, hes, hborn, hbn, hD.below ((Below.refl _ _).alloc (Nat.le_refl _) _), rfl, fun e _ he => absurd he (by simp), fun i _ => rfl⟩
    have hk0 : Kept [d, g, bs] w (w1.alloc (.mapIter (some g) clock #[] clock)) := kept_alloc (hk.more (by simp)) _
    have hlw := Lib.hid hk.size
    clear hb hes hborn hbn hk hbl
    go_wp2
    go_loopw [12, 13] (fun _ _ wr => ∃ (seen : Array Nat) (sec' : List Sec), SyAt sec lat d g bs qf w1.heap.size clock wr seen es sec' ∧ Kept [d, g, bs] w wr) (fun _ _ wr => iterLeft wr g w1.heap.size)
    case atStart => exact ⟨#[], sec, hD0, hk0⟩
    case round =>
      clear hD0 hk0 hrg hB b0 b1 b2
      obtain ⟨seen, sec', hS, hk⟩ := hrel
      obtain ⟨c0, hsc, hr⟩ := hS.it
      have hbm := hS.mp
      have hlr := lt_of_heap hr
      have hbl := lt_of_heap hbm
      rcases run_next_at (P := Tryz.prog) wr 0 w1.heap.size g clock c0 seen es clock hr hbm hS.born hsc with ⟨hz, hnx⟩ | ⟨e, he, w2, hw2, hnx⟩
      · have hD1 := hS.dk
        rw [hS.fin hz] at hD1
        have hB := hD1.d
        have b0 := hB.cell 0
        have b1 := hB.cell 1
        have b2 := hB.cell 2
        simp only [List.getElem?_toArray, List.getElem?_cons_zero, List.getElem?_cons_succ] at b0 b1 b2
        have b9 := hB.lt
        obtain ⟨w3, hcl, hD3, hk3⟩ := hD1.cleared
        have hcl := hcl 0
        go_wp2
        go_ret
        exact ⟨rfl, hD3, hk.trans (hk3.more (by simp))⟩
      · have hee := left_mem es seen e he
        obtain ⟨x, hx, ek, er⟩ := entry_of hS.rd hee
        have hme := Lib.hid (iterLeft_eq hbm hr)
        have hlt2 := Lib.hid (left_step es seen e he hS.nd).length_eq
        obtain ⟨w3, hw3⟩ : ∃ w3, setBlock w2 w1.heap.size (.mapIter (some g) clock (seen.push e.born) clock) = w3 := ⟨_, rfl⟩
        rw [hw3] at hnx
        have hh1 : w2.heap = wr.heap := by rcases hw2 with rfl | rfl <;> rfl
        have hr2 : w3.heap[w1.heap.size]? = some (.mapIter (some g) clock (seen.push e.born) clock) := by rw [← hw3]; exact heap_setBlock_same (by rw [hh1]; exact hlr)
        have hgl1 : g < w1.heap.size := hD.m.lt
        have hbs : bs < w1.heap.size := hD.s.lt
        have hk3 : Kept [w1.heap.size] wr w3 := by
          rw [← hw3]
          rcases hw2 with rfl | rfl
          · exact ⟨rfl, rfl, rfl, by simp [setBlock], fun i hi hs => heap_setBlock_other (by simpa using hs)⟩
          · exact ⟨rfl, rfl, rfl, by simp [setBlock], fun i hi hs => heap_setBlock_other (by simpa using hs)⟩
        have hr3 := Lib.hid hr2
        have hen := run_entry_at (P := Tryz.prog) w3 w1.heap.size g clock seen es clock e hr2 (hk3.block g hbl (by simp; omega) |>.trans hbm) hee hS.nd
        rw [ek, er] at hen hnx
        have hD3 := hS.dk.kept hk3 (by simp; omega) (by simp; omega) (by simp; exact Nat.ne_of_lt hbs)
        have hkx := hS.dk.k x hx
        have hM4 := Lib.hid ((hk3.block g hbl (by simp; omega)).trans hbm)
        have HX := Lib.hid hx
        have HEK := Lib.hid ek
        have HER := Lib.hid er
        have HEE := Lib.hid hee
        have HS := Lib.hid hS
        have HK := Lib.hid (hk.fresh hk3 hlw.out)
        clear hw3 hh1 hw2 hx ek er hee hS hsc he hr hbm hk hk3 hr2
        obtain ⟨k, v⟩ := x
        simp only at hkx hen hnx
        obtain ⟨hk0', hk1, hv⟩ := hkx
        obtain ⟨i, rfl⟩ := Int.eq_ofNat_of_zero_le hk0'
        have hi : i < sec'.length := by omega
        have HV := Lib.hid hv
        have HI := Lib.hid hi
        have HU := Lib.hid (show (u8s v).length = 48 by simpa [u8s] using hv)
        have h1' : decide ((sec'.length : Int) ≤ (i : Int)) = false := decide_eq_false (by omega)
        have h1n : decide (i < sec'.length) = true := decide_eq_true (by omega)
        clear hk0' hk1 hv hi
        simp only [ikey] at hen hnx
        go_wp2_with (first | (refine wpList_alloc_sec rfl rfl ?_) | (refine wpList_storeN_sec rfl _ _ rfl zsec v rfl rfl zsec_len HV.out ?_))
        have hD4 := hD3.alloc (.cells (u8s v).toArray 90)
        have hr4 := (Below.heap_alloc w3 (.cells (u8s v).toArray 90) _ (lt_of_heap hr3.out)).trans hr3.out
        have hM5 := (Below.heap_alloc w3 (.cells (u8s v).toArray 90) _ (lt_of_heap hM4.out)).trans hM4.out
        have kN := Blk.new w3 90 (u8s v).toArray
        have hk4 := kept_alloc HK.out (.cells (u8s v).toArray 90)
        have hN := lt_of_heap hr3.out
        generalize w3.alloc (.cells (u8s v).toArray 90) = W4 at hD4 hr4 hM5 kN hk4 ⊢
        generalize w3.heap.size = n4 at kN hN ⊢
        have hB := hD4.d
        have b0 := hB.cell 0
        have b1 := hB.cell 1
        have b2 := hB.cell 2
        simp only [List.getElem?_toArray, List.getElem?_cons_zero, List.getElem?_cons_succ] at b0 b1 b2
        have b9 := hB.lt
        have n9 := kN.lt
        refine draw_start [7] Later (by kernel_rfl) ?_
        refine draw_chunk (n := 28) (by kernel_rfl) (fun _ _ _ _ _ h => h) [0, 1, 2, 3, 4, 5, 6] [] _ #[true, true, true, true, true, true, true, false] (by kernel_rfl) 1 _ ?_ _ rfl ?_ ?_
        rotate_left
        · intro w' hw'
          have hc' : ∀ b o, b < W4.heap.size → w'.cell? ⟨b, o, none⟩ = W4.cell? ⟨b, o, none⟩ := (bcell hw').1
          have hi9 := HI.out; have hld := run_loadVar_mid (P := Tryz.prog) w' n4 0 90 (u8s v) _ (fun j u hj => (hc' n4 (0 + j) n9).trans (by rw [kN.cell]; simpa using hj)) Tryz.underlying90 rfl (by rw [HU.out]; kernel_rfl)
          iterate 5
            refine ci_step (v := ?_) rfl (by kernel_rfl) ?_ ?_
            rotate_left
            · first | (go_simp; done) | (go_simp; with_reducible rfl)
            try simp only [Act.put, List.setIfInBounds_toArray, List.set_cons_zero, List.set_cons_succ]
          refine ci_step (i := 5) (v := ?_) rfl (by kernel_rfl) ?_ ?_
          rotate_left
          · refine (execLoad rfl rfl hld).trans ?_; with_reducible rfl
          skip
          try simp only [Act.put, List.setIfInBounds_toArray, List.set_cons_zero, List.set_cons_succ]
          refine ci_step (i := 6) (v := ?_) rfl (by kernel_rfl) ?_ ?_
          rotate_left
          · first | (go_simp; done) | (go_simp; with_reducible rfl)
          skip
          try simp only [Act.put, List.setIfInBounds_toArray, List.set_cons_zero, List.set_cons_succ]
          refine ci_end ?_
          rfl
        refine draw_eff (i := 7) rfl (by kernel_rfl) (listed' := #[true, true, true, true, true, true, true, true]) rfl (fun K hK => ?_)
        replace hK := Lib.hid hK
        refine wpList_store_sec rfl _ _ rfl bs (i * 48) v rfl rfl HV.out (by simpa using hD4.there i HI.out) ?_
        go_wp2_with fail
        refine hK.out _ _ ⟨fun h => absurd (by decide) h, ?_⟩
        clear hK
        refine draw_done (by kernel_rfl) ?_ _
        simp only [Act.put]
        have hD5 : DiskAt (W4.drew.setCells bs (i * 48) (u8s v)) d g bs (sec'.set i v) lat qf := DiskAt.setSec (W := W4.drew) (hD4.below (Below.drew (Below.refl _ _))) i HI.out v HV.out
        have hk5 : Kept [bs] W4 (W4.drew.setCells bs (i * 48) (u8s v)) := kept_setCells bs _ _ _ _ (kept_drew (Kept.refl _ _))
        generalize W4.drew.setCells bs (i * 48) (u8s v) = W5 at hD5 hk5 ⊢
        have hr5 := (hk5.block _ (lt_of_heap hr4) (by simp; exact Nat.ne_of_gt hbs)).trans hr4
        have hM6 := (hk5.block _ (lt_of_heap hM5) (by simp; exact fun e => blk_mapD hD4.s hD4.m e.symm)).trans hM5
        go_wp2
        go_roundw
        case rel => exact ⟨seen.push e.born, sec'.set i v, HS.out.step e HEE.out _ HX.out HEK.out HER.out hr5 hM6 hD5, hk4.trans (hk5.more (by simp))⟩
        case measure =>
          rw [iterLeft_eq hM6 hr5, hme.out]
          have := hlt2.out
          simp only [List.length_cons] at this
          omega
end Go.Proofs.YtnfaeafplaeehaaGreat
end
section
set_option linter.unusedVariables false
set_option linter.unusedSimpArgs false
namespace Go.Proofs.YtnfaeafplaeehaaGreat
open Go.RowKit Go.ChangeMaps Go.Lib
theorem DiskAt.drewBelow {W W' : World} {d g bs : Nat} {sec : List Sec} {lat : List (Int × Sec)} {fl : Int} (h : DiskAt W d g bs sec lat fl) (hb : Below W.drew.heap.size W.drew W') : DiskAt W' d g bs sec lat fl := DiskAt.below (W := W.drew) (h.below (Below.drew (Below.refl _ _))) hb
theorem Kept.row0 {S : List Nat} {w w' : World} {size n : Nat} {A : Option Addr} {cs : List Value} (h : Kept S w w') (hr : Row w size A n cs) (hs : 0 < n → ∀ b off, A = some ⟨b, off, none⟩ → b ∉ S) : Row w' size A n cs := by
  by_cases h0 : 0 < n
  · exact h.row hr (hs h0)
  · exact ⟨hr.1, hr.2.1, fun h => absurd h h0⟩
theorem own_row {w : World} {base sz n : Nat} {T : TypeId} {v : Value} {cs : List Value} (h : w.ownsRow base T sz v n cs) (hn : n ≤ 140737488351232) (hcs : cs.length = n * sz) : ∃ A c, v = .slice A n c ∧ Row w sz A n cs ∧ ∀ b off, A = some ⟨b, off, none⟩ → base ≤ b := by
  obtain ⟨h1, h2⟩ := h
  rcases h2 with ⟨rfl, h0⟩ | ⟨g, cap, cur, rfl, hb, hg, hc, hm, hs, ht⟩
  · exact ⟨none, 0, by rw [h0], ⟨hcs, hn, fun hp => by omega⟩, fun b off e => by cases e⟩
  · refine ⟨_, _, rfl, ⟨hcs, hn, fun _ => ⟨g, 0, rfl, lt_of_heap hg, fun j u hj => ?_⟩⟩, fun b off e => by cases e; exact hb⟩
    simp only [World.cell?, hg, Nat.zero_add]
    rw [← ht, List.getElem?_take] at hj
    split at hj
    · simpa using hj
    · cases hj
end Go.Proofs.YtnfaeafplaeehaaGreat
end
