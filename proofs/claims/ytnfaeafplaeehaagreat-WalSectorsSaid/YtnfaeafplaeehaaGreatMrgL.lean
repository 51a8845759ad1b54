/- own texts of this claim, one behind the other: see the remarks within -/
import Derived.Test.YtnfaeafplaeehaaGreatRecOf
import Derived.Test.YtnfaeafplaeehaaGreatMrgK
import Derived.Test.YtnfaeafplaeehaaGreatMrgG
section
set_option linter.unusedVariables false
set_option linter.unusedSimpArgs false
namespace Go.Proofs.YtnfaeafplaeehaaGreat
open Go.RowKit
/-! A journal: the record of a place, and how one is put there. -/
def SecB (sec : List Sec) (lat : List (Int × Sec)) : Prop := (∀ s ∈ sec, Byte s) ∧ ∀ e ∈ lat, Byte e.2
theorem secB_at {sec : List Sec} {lat : List (Int × Sec)} (h : SecB sec lat) (i : Nat) : Byte (atD sec lat i) := by
  unfold atD
  cases hg : getM lat (i : Int) with
  | some v => exact h.2 _ (getM_mem hg)
  | none =>
    rw [Option.getD_none, List.getD_eq_getElem?_getD]
    cases hs : sec[i]? with
    | none => intro x hx; simp at hx
    | some s => exact h.1 s (List.mem_of_getElem? hs)
/-- What a journal has beside its disk and its state. -/
structure LogC where
  half : Int
  reg : Int
  gen : Int
  next : Int
  laid : Bool
def LogB (W : World) (L d s : Nat) (c : LogC) : Prop := Blk W L 63 #[.pointer (some ⟨d, 0, none⟩), .int .i64 c.half, .int .i64 c.reg, .int .u32 c.gen, .int .i64 c.next, .bool c.laid, .pointer (some ⟨s, 0, none⟩)]
def LogC.ok (c : LogC) : Prop := (0 ≤ c.half ∧ c.half ≤ 1000) ∧ (c.reg = 0 ∨ c.reg = 1) ∧ (0 ≤ c.gen ∧ c.gen ≤ 4294967295) ∧ (0 ≤ c.next ∧ c.next ≤ 1000)
theorem Own8.row' {w : World} {base : Nat} {v : Value} {l : List Int} (h : Own8 w base v l) (hl : l.length ≤ 140737488351232) : ∃ A c, v = .slice A l.length c ∧ l.length ≤ c ∧ Row w 1 A l.length (u8s l) := by
  obtain ⟨h1, h2⟩ := h
  rcases h2 with ⟨rfl, h0⟩ | ⟨g, cap, cur, rfl, hb, hg, hc, hm, hs, ht⟩
  · exact ⟨none, 0, by rw [h0], by omega, by simp [u8s], hl, fun hp => by omega⟩
  · refine ⟨_, _, rfl, hc, by simp [u8s], hl, fun _ => ⟨g, 0, rfl, lt_of_heap hg, fun j u hj => ?_⟩⟩
    simp only [World.cell?, hg, Nat.zero_add]
    rw [← ht, List.getElem?_take] at hj
    split at hj
    · simpa using hj
    · cases hj
def atM (sec : List Sec) (lat : List (Int × Sec)) (half reg i : Int) : Option Rec := if 0 ≤ reg * half + i ∧ reg * half + i < sec.length then ofR (atD sec lat (reg * half + i).toNat) else none
theorem wrap_place (half reg i : Int) (hh : 0 ≤ half ∧ half ≤ 1000) (hr : reg = 0 ∨ reg = 1) (hi : 0 ≤ i ∧ i ≤ 2000) : wrap64 (reg * half) = reg * half ∧ wrap64 (reg * half + i) = reg * half + i ∧ 0 ≤ reg * half + i ∧ reg * half + i ≤ 3000 := by
  rcases hr with rfl | rfl
  · simp only [Int.zero_mul, wrap64]; omega
  · simp only [Int.one_mul, wrap64]; omega
set_option maxRecDepth 100000 in
set_option maxHeartbeats 4000000 in
theorem wal_at (reg i : Int) (L d s g bs : Nat) (c : LogC) (sec : List Sec) (lat : List (Int × Sec)) (fl : Int) (w : World) (hL : LogB w L d s c) (hD : DiskAt w d g bs sec lat fl) (hB : SecB sec lat) (hh : 0 ≤ c.half ∧ c.half ≤ 1000) (hr : reg = 0 ∨ reg = 1) (hi : 0 ≤ i ∧ i ≤ 2000) :
    Calls Tryz.prog 43 #[.pointer (some ⟨L, 0, none⟩), .int .i64 reg, .int .i64 i] w fun e w' => e = .returned (.tuple #[((atM sec lat c.half reg i).getD noR).val, .bool (atM sec lat c.half reg i).isSome]) ∧ Below w.heap.size w w' := by
  obtain ⟨hw1, hw2, hp0, hp1⟩ := wrap_place c.half reg i hh hr hi
  have hb0 := (Below.refl w.heap.size w).alloc (Nat.le_refl _) (.cells #[.int .i64 0, .int .u32 0, .int .u32 0, .int .u32 0, .int .u32 0, .int .i64 0, .bool false, .int .u32 0, .int .u16 0] 41)
  have kO := Blk.new w 41 #[.int .i64 0, .int .u32 0, .int .u32 0, .int .u32 0, .int .u32 0, .int .i64 0, .bool false, .int .u32 0, .int .u16 0]
  have kL := Blk.below' hL hb0
  have hD1 := hD.below hb0
  go_enter Tryz.func43, Tryz.ntmps43
  go_wp2_with fail
  generalize w.alloc (.cells #[.int .i64 0, .int .u32 0, .int .u32 0, .int .u32 0, .int .u32 0, .int .i64 0, .bool false, .int .u32 0, .int .u16 0] 41) = W at *
  have l0 := kL.cell 0
  have l1 := kL.cell 1
  have l2 := kL.cell 2
  have l3 := kL.cell 3
  have l4 := kL.cell 4
  have l5 := kL.cell 5
  have l6 := kL.cell 6
  simp only [List.getElem?_toArray, List.getElem?_cons_zero, List.getElem?_cons_succ] at l0 l1 l2 l3 l4 l5 l6
  have l9 := kL.lt
  have HW1 := Lib.hid hw1
  have HW2 := Lib.hid hw2
  clear hw1 hw2
  refine draw_start [] Later (by kernel_rfl) ?_
  refine draw_chunk (n := 33) (by kernel_rfl) (fun _ _ _ _ _ h => h) [0, 1, 2, 3, 4, 5, 6, 7, 8, 9, 10, 11] [] _ #[true, true, true, true, true, true, true, true, true, true, true, true, false, false, false, false, false, false] (by kernel_rfl) 6 _ ?_ _ rfl ?_ ?_
  rotate_left
  · intro w' hw'
    have hc' : ∀ b o, b < W.heap.size → w'.cell? ⟨b, o, none⟩ = W.cell? ⟨b, o, none⟩ := (bcell hw').1
    have hw1 := HW1.out; have hw2 := HW2.out
    iterate 12
      refine ci_step (v := ?_) rfl (by kernel_rfl) ?_ ?_
      rotate_left
      · first | (go_simp; done) | (go_simp; with_reducible rfl)
      try simp only [Act.put, List.setIfInBounds_toArray, List.set_cons_zero, List.set_cons_succ]
    refine ci_end ?_
    rfl
  refine draw_eff (i := 12) rfl (by kernel_rfl) (listed' := #[true, true, true, true, true, true, true, true, true, true, true, true, true, false, false, false, false, false]) rfl (fun K hK => ?_)
  replace hK := Lib.hid hK
  by_cases hin : reg * c.half + i < sec.length
  · obtain ⟨k, hk⟩ := Int.eq_ofNat_of_zero_le hp0
    have hkl : k < sec.length := by omega
    have HM := Lib.hid (show atM sec lat c.half reg i = ofR (atD sec lat k) by unfold atM; rw [if_pos ⟨hp0, hin⟩, hk]; rfl)
    have hRd := disk_Read_ok k d g bs sec lat fl W.drew (hD1.below (Below.drew (Below.refl _ _))) hkl
    rw [← hk] at hRd
    have hBy := secB_at hB k
    clear hk hin hkl
    go_wp2_with fail
    refine hRd.mono ?_
    rintro e w5 ⟨va, rfl, hO, hOl, hb5⟩
    go_wp2_with fail
    refine hK.out _ _ ⟨fun _ => hb5, ?_⟩
    clear hK
    replace kO := kO.drew.below' hb5
    replace hb0 := (Below.drew hb0).trans (hb5.mono hb0.size)
    obtain ⟨Aa, ca, rfl, hca, hRa⟩ := hO.row' (by rw [hOl]; omega)
    generalize atD sec lat k = sl at *
    rw [hOl] at hRa hca ⊢
    refine draw_chunk (n := 33) (by kernel_rfl) (fun _ _ _ _ _ h => h) [13, 14, 15, 16, 17] [] _ #[true, true, true, true, true, true, true, true, true, true, true, true, true, true, true, true, true, true] (by kernel_rfl) 0 _ ?_ _ rfl ?_ ?_
    rotate_left
    · intro w' hw'
      have hc' : ∀ b o, b < w5.heap.size → w'.cell? ⟨b, o, none⟩ = w5.cell? ⟨b, o, none⟩ := (bcell hw').1
      iterate 5
        refine ci_step (v := ?_) rfl (by kernel_rfl) ?_ ?_
        rotate_left
        · first | (go_simp; done) | (go_simp; with_reducible rfl)
        try simp only [Act.put, List.setIfInBounds_toArray, List.set_cons_zero, List.set_cons_succ]
      refine ci_end ?_
      rfl
    refine draw_done (by kernel_rfl) ?_ _
    have hOf := rec_Of sl Aa ca w5 (by rw [hOl]; exact hRa) hBy (by rw [hOl]; exact hca)
    rw [hOl] at hOf
    go_wp2_with fail
    refine hOf.mono ?_
    rintro e w6 ⟨rfl, hb6⟩
    replace kO := kO.below' hb6
    replace hb0 := hb0.trans (hb6.mono hb0.size)
    go_wp2_with (refine wpList_store_rec rfl (.tmp 6) (.tmp 31) rfl w.heap.size ((ofR sl).getD noR) _ rfl rfl kO rfl ?_)
    obtain ⟨kE, hkE⟩ := rec_stored ((ofR sl).getD noR) kO rfl
    have hbE := hkE.below hb0 hb0.size (by simp)
    refine bodyPost_ret (v := .tuple #[((ofR sl).getD noR).val, .bool (ofR sl).isSome]) ?_ rfl ⟨by rw [HM.out], hbE⟩
    have hld := run_load_rec kE
    simp [results, Tryz.results43, asAddr, hld]
  · have HM := Lib.hid (show atM sec lat c.half reg i = none by unfold atM; rw [if_neg fun h => hin h.2])
    have hRd := disk_Read_bad (reg * c.half + i) d g bs sec lat fl W.drew (hD1.below (Below.drew (Below.refl _ _))) (.inr (by omega))
    go_wp2_with fail
    refine hRd.mono ?_
    rintro e w5 ⟨rfl, rfl⟩
    go_wp2_with fail
    refine hK.out _ _ ⟨fun _ => Below.refl _ _, ?_⟩
    clear hK
    replace kO := kO.drew
    replace hb0 := Below.drew hb0
    refine draw_chunk (n := 33) (by kernel_rfl) (fun _ _ _ _ _ h => h) [13, 14, 15, 16, 17] [] _ #[true, true, true, true, true, true, true, true, true, true, true, true, true, true, true, true, true, true] (by kernel_rfl) 0 _ ?_ _ rfl ?_ ?_
    rotate_left
    · intro w' hw'
      have hc' : ∀ b o, b < W.drew.heap.size → w'.cell? ⟨b, o, none⟩ = W.drew.cell? ⟨b, o, none⟩ := (bcell hw').1
      iterate 5
        refine ci_step (v := ?_) rfl (by kernel_rfl) ?_ ?_
        rotate_left
        · first | (go_simp; done) | (go_simp; with_reducible rfl)
        try simp only [Act.put, List.setIfInBounds_toArray, List.set_cons_zero, List.set_cons_succ]
      refine ci_end ?_
      rfl
    refine draw_done (by kernel_rfl) ?_ _
    go_wp2_with (refine wpList_store_rec rfl (.tmp 6) (.tmp 28) rfl w.heap.size noR _ rfl rfl kO rfl ?_)
    obtain ⟨kE, hkE⟩ := rec_stored noR kO rfl
    have hbE := hkE.below hb0 hb0.size (by simp)
    refine bodyPost_ret (v := .tuple #[noR.val, .bool false]) ?_ rfl ⟨by rw [HM.out]; rfl, hbE⟩
    have hld := run_load_rec kE
    simp [results, Tryz.results43, asAddr, hld]
end Go.Proofs.YtnfaeafplaeehaaGreat
end
section
set_option linter.unusedVariables false
set_option linter.unusedSimpArgs false
namespace Go.Proofs.YtnfaeafplaeehaaGreat
open Go.RowKit
/-! A record put into its place. -/
/-- What putting a record comes to: the error, and what is written then. -/
def putOk (n : Nat) (half reg i : Int) (r : Rec) : Bool := recRightB { r with lsn := i } && decide (0 ≤ reg * half + i ∧ reg * half + i < n)
def putE (n : Nat) (fl : Int) (half reg i : Int) (r : Rec) : Int := if putOk n half reg i r = true then (if (failsF fl).1 = true then 4 else 0) else 1
def putL' (n : Nat) (lat : List (Int × Sec)) (fl : Int) (half reg i : Int) (r : Rec) : List (Int × Sec) := if putE n fl half reg i r = 0 then updM lat (reg * half + i) (sector { r with lsn := i }) else lat
def putF (n : Nat) (fl : Int) (half reg i : Int) (r : Rec) : Int := if putOk n half reg i r = true then (failsF fl).2 else fl
theorem put_no {n : Nat} {half reg i fl : Int} {r : Rec} {w W : World} {d g bs : Nat} {sec : List Sec} {lat : List (Int × Sec)} (h : putOk n half reg i r = false) (hD : DiskAt W d g bs sec lat fl) (hk : Kept [d, g] w W) :
    Ending.returned (.int .i64 1) = .returned (.int .i64 (putE n fl half reg i r)) ∧ DiskAt W d g bs sec (putL' n lat fl half reg i r) (putF n fl half reg i r) ∧ Kept [d, g] w W := by
  have h1 : putE n fl half reg i r = 1 := by unfold putE; rw [h]; rfl
  have h2 : putL' n lat fl half reg i r = lat := by unfold putL'; rw [h1]; rfl
  have h3 : putF n fl half reg i r = fl := by unfold putF; rw [h]; rfl
  rw [h1, h2, h3]
  exact ⟨rfl, hD, hk⟩
theorem put_err {n : Nat} {half reg i fl : Int} {r : Rec} {w W : World} {d g bs : Nat} {sec : List Sec} {lat : List (Int × Sec)} (h : putOk n half reg i r = true) (hq : (failsF fl).1 = true) (hD : DiskAt W d g bs sec lat (failsF fl).2) (hk : Kept [d, g] w W) :
    Ending.returned (.int .i64 4) = .returned (.int .i64 (putE n fl half reg i r)) ∧ DiskAt W d g bs sec (putL' n lat fl half reg i r) (putF n fl half reg i r) ∧ Kept [d, g] w W := by
  have h1 : putE n fl half reg i r = 4 := by unfold putE; rw [h, hq]; rfl
  have h2 : putL' n lat fl half reg i r = lat := by unfold putL'; rw [h1]; rfl
  have h3 : putF n fl half reg i r = (failsF fl).2 := by unfold putF; rw [h]; rfl
  rw [h1, h2, h3]
  exact ⟨rfl, hD, hk⟩
theorem put_yes {n : Nat} {half reg i fl : Int} {r : Rec} {w W : World} {d g bs : Nat} {sec : List Sec} {lat : List (Int × Sec)} (h : putOk n half reg i r = true) (hq : (failsF fl).1 = false) (hD : DiskAt W d g bs sec (updM lat (reg * half + i) (sector { r with lsn := i })) (failsF fl).2) (hk : Kept [d, g] w W) :
    Ending.returned (.int .i64 0) = .returned (.int .i64 (putE n fl half reg i r)) ∧ DiskAt W d g bs sec (putL' n lat fl half reg i r) (putF n fl half reg i r) ∧ Kept [d, g] w W := by
  have h1 : putE n fl half reg i r = 0 := by unfold putE; rw [h, hq]; rfl
  have h2 : putL' n lat fl half reg i r = updM lat (reg * half + i) (sector { r with lsn := i }) := by unfold putL'; rw [h1]; rfl
  have h3 : putF n fl half reg i r = (failsF fl).2 := by unfold putF; rw [h]; rfl
  rw [h1, h2, h3]
  exact ⟨rfl, hD, hk⟩
set_option maxRecDepth 100000 in
set_option maxHeartbeats 4000000 in
theorem wal_put (reg i : Int) (r : Rec) (L d s g bs : Nat) (c : LogC) (sec : List Sec) (lat : List (Int × Sec)) (fl : Int) (w : World) (hL : LogB w L d s c) (hD : DiskAt w d g bs sec lat fl) (hf : fl ≤ 9223372036854775807) (hro : r.ok) (hh : 0 ≤ c.half ∧ c.half ≤ 1000) (hr : reg = 0 ∨ reg = 1) (hi : 0 ≤ i ∧ i ≤ 2000) :
    Calls Tryz.prog 25 #[.pointer (some ⟨L, 0, none⟩), .int .i64 reg, .int .i64 i, r.val] w fun e w' => e = .returned (.int .i64 (putE sec.length fl c.half reg i r)) ∧ DiskAt w' d g bs sec (putL' sec.length lat fl c.half reg i r) (putF sec.length fl c.half reg i r) ∧ Kept [d, g] w w' := by
  obtain ⟨hw1, hw2, hp0, hp1⟩ := wrap_place c.half reg i hh hr hi
  have hwi : IntKind.u32.wrap i = i := by rw [IntKind.wrap_u32]; omega
  have hro2 : ({ r with lsn := i } : Rec).ok := ⟨hro.1, hro.2.1, ⟨hi.1, by show i ≤ 4294967295; omega⟩, hro.2.2.2⟩
  have hd9 := hD.d.lt
  have hg9 := hD.m.lt
  obtain ⟨rk, rg, rl, ri, ra, rp, ro, rs, rm⟩ := r
  simp only [Rec.val, Rec.arr] at ⊢
  have hb0 := (Below.refl w.heap.size w).alloc (Nat.le_refl _) (.cells #[.int .i64 rk, .int .u32 rg, .int .u32 i, .int .u32 ri, .int .u32 ra, .int .i64 rp, .bool ro, .int .u32 rs, .int .u16 rm] 41)
  have kR : Blk (w.alloc (.cells #[.int .i64 rk, .int .u32 rg, .int .u32 i, .int .u32 ri, .int .u32 ra, .int .i64 rp, .bool ro, .int .u32 rs, .int .u16 rm] 41)) w.heap.size 41 (Rec.arr ⟨rk, rg, i, ri, ra, rp, ro, rs, rm⟩) := Blk.new w _ _
  have kL := Blk.below' hL hb0
  have hD1 := hD.below hb0
  have hkA : Kept [d, g] w (w.alloc (.cells #[.int .i64 rk, .int .u32 rg, .int .u32 i, .int .u32 ri, .int .u32 ra, .int .i64 rp, .bool ro, .int .u32 rs, .int .u16 rm] 41)) := Kept.of_below hb0
  have hsW := hb0.size
  simp only at hro2
  go_enter Tryz.func25, Tryz.ntmps25
  go_wp2_with fail
  generalize w.alloc (.cells #[.int .i64 rk, .int .u32 rg, .int .u32 i, .int .u32 ri, .int .u32 ra, .int .i64 rp, .bool ro, .int .u32 rs, .int .u16 rm] 41) = W at *
  have l0 := kL.cell 0
  have l1 := kL.cell 1
  have l2 := kL.cell 2
  have l3 := kL.cell 3
  have l4 := kL.cell 4
  have l5 := kL.cell 5
  have l6 := kL.cell 6
  simp only [List.getElem?_toArray, List.getElem?_cons_zero, List.getElem?_cons_succ] at l0 l1 l2 l3 l4 l5 l6
  have l9 := kL.lt
  have r9 := kR.lt
  have HW1 := Lib.hid hw1
  have HW2 := Lib.hid hw2
  have hv1 : IntKind.i64.wrap (reg * c.half) = reg * c.half := by rw [IntKind.wrap_i64]; unfold wrap64 at hw1; omega
  have hv2 : IntKind.i64.wrap (reg * c.half + i) = reg * c.half + i := by rw [IntKind.wrap_i64]; unfold wrap64 at hw2; omega
  clear hw1 hw2 hwi hr hi hh
  refine draw_start [14] Later (by kernel_rfl) ?_
  refine draw_chunk (n := 27) (by kernel_rfl) (fun _ _ _ _ _ h => h) [0, 1, 2, 3, 4, 5, 6, 7, 8, 9, 10, 11, 12] [] _ #[true, true, true, true, true, true, true, true, true, true, true, true, true, false, false, false] (by kernel_rfl) 3 _ ?_ _ rfl ?_ ?_
  rotate_left
  · intro w' hw'
    have hc' : ∀ b o, b < W.heap.size → w'.cell? ⟨b, o, none⟩ = W.cell? ⟨b, o, none⟩ := (bcell hw').1
    have hld := run_load_rec (kR.below' (undrew hw'))
    iterate 12
      refine ci_step (v := ?_) rfl (by kernel_rfl) ?_ ?_
      rotate_left
      · first | (go_simp; done) | (go_simp; with_reducible rfl)
      try simp only [Act.put, List.setIfInBounds_toArray, List.set_cons_zero, List.set_cons_succ]
    refine ci_step (i := 12) (v := ?_) rfl (by kernel_rfl) ?_ ?_
    rotate_left
    · refine (execLoad rfl rfl hld).trans ?_; with_reducible rfl
    skip
    try simp only [Act.put, List.setIfInBounds_toArray, List.set_cons_zero, List.set_cons_succ]
    refine ci_end ?_
    rfl
  clear HW1 HW2 hv1 hv2
  generalize hkk : reg * c.half + i = kk at *
  have HKK := Lib.hid hkk
  clear hkk
  refine draw_eff (i := 13) rfl (by kernel_rfl) (listed' := #[true, true, true, true, true, true, true, true, true, true, true, true, true, true, false, false]) rfl (fun K hK => ?_)
  replace hK := Lib.hid hK
  cases hR : recRightB ⟨rk, rg, i, ri, ra, rp, ro, rs, rm⟩ with
  | false =>
    have HO := Lib.hid (show putOk sec.length c.half reg i ⟨rk, rg, rl, ri, ra, rp, ro, rs, rm⟩ = false by unfold putOk; rw [hR]; rfl)
    have hSn := fun W => rec_Sector_no ⟨rk, rg, i, ri, ra, rp, ro, rs, rm⟩ W hro2 hR
    go_wp2_with fail
    refine (hSn _).mono ?_
    rintro e W3 ⟨rfl, hb3⟩
    go_wp2_with fail
    refine hK.out _ _ ⟨fun _ => hb3, ?_⟩
    clear hK
    have hD3 := hD1.drewBelow hb3
    have hk3 := (kept_drew hkA).trans (Kept.of_below hb3)
    refine draw_eff (i := 14) rfl (by kernel_rfl) (listed' := #[true, true, true, true, true, true, true, true, true, true, true, true, true, true, true, false]) rfl (fun K hK => ?_)
    replace hK := Lib.hid hK
    have hWr := disk_Write_bad kk 0 none 0 d g bs sec lat fl W3 hD3 (by omega) (.inr (.inr (by omega)))
    go_wp2_with fail
    refine hWr.mono ?_
    rintro e W4 ⟨rfl, rfl⟩
    go_wp2_with fail
    refine hK.out _ _ ⟨fun h => absurd (by decide) h, ?_⟩
    clear hK
    refine draw_chunk (n := 27) (by kernel_rfl) (fun _ _ _ _ _ h => h) [15] [] _ #[true, true, true, true, true, true, true, true, true, true, true, true, true, true, true, true] (by kernel_rfl) 0 _ ?_ _ rfl ?_ ?_
    rotate_left
    · intro w' hw'
      have hc' : ∀ b o, b < W4.heap.size → w'.cell? ⟨b, o, none⟩ = W4.cell? ⟨b, o, none⟩ := (bcell hw').1
      refine ci_step (i := 15) (v := ?_) rfl (by kernel_rfl) ?_ ?_
      rotate_left
      · first | (go_simp; done) | (go_simp; with_reducible rfl)
      skip
      try simp only [Act.put, List.setIfInBounds_toArray, List.set_cons_zero, List.set_cons_succ]
      refine ci_end ?_
      rfl
    refine draw_done (by kernel_rfl) ?_ _
    go_wp2
    go_ret
    exact put_no HO.out hD3 hk3
  | true =>
    have hSy := fun W => rec_Sector_yes ⟨rk, rg, i, ri, ra, rp, ro, rs, rm⟩ W hro2 hR
    go_wp2_with fail
    refine (hSy _).mono ?_
    rintro e W3 ⟨hb3, gs, hgs, rfl, hBs⟩
    go_wp2_with fail
    refine hK.out _ _ ⟨fun _ => hb3, ?_⟩
    clear hK
    have hD3 := hD1.drewBelow hb3
    have hk3 := (kept_drew hkA).trans (Kept.of_below hb3)
    have hsz : w.heap.size ≤ gs := Nat.le_trans hsW hgs
    refine draw_eff (i := 14) rfl (by kernel_rfl) (listed' := #[true, true, true, true, true, true, true, true, true, true, true, true, true, true, true, false]) rfl (fun K hK => ?_)
    replace hK := Lib.hid hK
    by_cases hin : kk < sec.length
    · have hWr := disk_Write_ok kk (sector ⟨rk, rg, i, ri, ra, rp, ro, rs, rm⟩) (some ⟨gs, 0, none⟩) 48 d g bs sec lat fl W3 hD3 hf (sector_row hBs) rfl (by omega) ⟨hp0, hin⟩ (fun b off e => by cases e; omega)
      have dk : decide (0 ≤ kk ∧ kk < (sec.length : Int)) = true := decide_eq_true ⟨hp0, hin⟩
      have HO := Lib.hid (show putOk sec.length c.half reg i ⟨rk, rg, rl, ri, ra, rp, ro, rs, rm⟩ = true by unfold putOk; rw [hR, HKK.out, dk]; rfl)
      rw [show (sector ⟨rk, rg, i, ri, ra, rp, ro, rs, rm⟩).length = 48 from rfl] at hWr
      cases hq : (failsF fl).1 with
      | true =>
        rw [hq] at hWr
        simp only [if_true, ↓reduceIte] at hWr
        go_wp2_with fail
        refine hWr.mono ?_
        rintro e W4 ⟨rfl, hD4, hk4⟩
        go_wp2_with fail
        refine hK.out _ _ ⟨fun h => absurd (by decide) h, ?_⟩
        clear hK
        refine draw_chunk (n := 27) (by kernel_rfl) (fun _ _ _ _ _ h => h) [15] [] _ #[true, true, true, true, true, true, true, true, true, true, true, true, true, true, true, true] (by kernel_rfl) 0 _ ?_ _ rfl ?_ ?_
        rotate_left
        · intro w' hw'
          have hc' : ∀ b o, b < W4.heap.size → w'.cell? ⟨b, o, none⟩ = W4.cell? ⟨b, o, none⟩ := (bcell hw').1
          refine ci_step (i := 15) (v := ?_) rfl (by kernel_rfl) ?_ ?_
          rotate_left
          · first | (go_simp; done) | (go_simp; with_reducible rfl)
          skip
          try simp only [Act.put, List.setIfInBounds_toArray, List.set_cons_zero, List.set_cons_succ]
          refine ci_end ?_
          rfl
        refine draw_done (by kernel_rfl) ?_ _
        go_wp2
        go_ret
        exact put_err HO.out hq hD4 (hk3.trans hk4)
      | false =>
        rw [hq] at hWr
        simp only [Bool.false_eq_true, if_false, ↓reduceIte] at hWr
        go_wp2_with fail
        refine hWr.mono ?_
        rintro e W4 ⟨rfl, hD4, hk4⟩
        go_wp2_with fail
        refine hK.out _ _ ⟨fun h => absurd (by decide) h, ?_⟩
        clear hK
        refine draw_chunk (n := 27) (by kernel_rfl) (fun _ _ _ _ _ h => h) [15] [] _ #[true, true, true, true, true, true, true, true, true, true, true, true, true, true, true, true] (by kernel_rfl) 0 _ ?_ _ rfl ?_ ?_
        rotate_left
        · intro w' hw'
          have hc' : ∀ b o, b < W4.heap.size → w'.cell? ⟨b, o, none⟩ = W4.cell? ⟨b, o, none⟩ := (bcell hw').1
          refine ci_step (i := 15) (v := ?_) rfl (by kernel_rfl) ?_ ?_
          rotate_left
          · first | (go_simp; done) | (go_simp; with_reducible rfl)
          skip
          try simp only [Act.put, List.setIfInBounds_toArray, List.set_cons_zero, List.set_cons_succ]
          refine ci_end ?_
          rfl
        refine draw_done (by kernel_rfl) ?_ _
        go_wp2
        go_ret
        rw [← HKK.out] at hD4
        exact put_yes HO.out hq hD4 (hk3.trans hk4)
    · have hWr := disk_Write_bad kk 48 (some ⟨gs, 0, none⟩) 48 d g bs sec lat fl W3 hD3 (by omega) (.inr (.inl (by omega)))
      have dk : decide (0 ≤ kk ∧ kk < (sec.length : Int)) = false := decide_eq_false fun h => hin h.2
      have HO := Lib.hid (show putOk sec.length c.half reg i ⟨rk, rg, rl, ri, ra, rp, ro, rs, rm⟩ = false by unfold putOk; rw [hR, HKK.out, dk]; rfl)
      go_wp2_with fail
      refine hWr.mono ?_
      rintro e W4 ⟨rfl, rfl⟩
      go_wp2_with fail
      refine hK.out _ _ ⟨fun h => absurd (by decide) h, ?_⟩
      clear hK
      refine draw_chunk (n := 27) (by kernel_rfl) (fun _ _ _ _ _ h => h) [15] [] _ #[true, true, true, true, true, true, true, true, true, true, true, true, true, true, true, true] (by kernel_rfl) 0 _ ?_ _ rfl ?_ ?_
      rotate_left
      · intro w' hw'
        have hc' : ∀ b o, b < W4.heap.size → w'.cell? ⟨b, o, none⟩ = W4.cell? ⟨b, o, none⟩ := (bcell hw').1
        refine ci_step (i := 15) (v := ?_) rfl (by kernel_rfl) ?_ ?_
        rotate_left
        · first | (go_simp; done) | (go_simp; with_reducible rfl)
        skip
        try simp only [Act.put, List.setIfInBounds_toArray, List.set_cons_zero, List.set_cons_succ]
        refine ci_end ?_
        rfl
      refine draw_done (by kernel_rfl) ?_ _
      go_wp2
      go_ret
      exact put_no HO.out hD3 hk3
end Go.Proofs.YtnfaeafplaeehaaGreat
end
section
set_option linter.unusedVariables false
set_option linter.unusedSimpArgs false
namespace Go.Proofs.YtnfaeafplaeehaaGreat
open Go.RowKit
/-! What a journal tells of itself; the greatest generation on its disk. -/
theorem wal_Gen (L d s : Nat) (c : LogC) (w : World) (hL : LogB w L d s c) : Calls Tryz.prog 14 #[.pointer (some ⟨L, 0, none⟩)] w fun e w' => e = .returned (.int .u32 c.gen) ∧ w' = w := by
  have hL' : Blk w L _ _ := hL
  have l0 := hL'.cell 0
  have l1 := hL'.cell 1
  have l2 := hL'.cell 2
  have l3 := hL'.cell 3
  have l4 := hL'.cell 4
  have l5 := hL'.cell 5
  have l6 := hL'.cell 6
  simp only [List.getElem?_toArray, List.getElem?_cons_zero, List.getElem?_cons_succ] at l0 l1 l2 l3 l4 l5 l6
  go_enter Tryz.func14, Tryz.ntmps14
  go_wp2
  go_ret
  exact ⟨rfl, rfl⟩
theorem wal_State (L d s : Nat) (c : LogC) (w : World) (hL : LogB w L d s c) : Calls Tryz.prog 9 #[.pointer (some ⟨L, 0, none⟩)] w fun e w' => e = .returned (.pointer (some ⟨s, 0, none⟩)) ∧ w' = w := by
  have hL' : Blk w L _ _ := hL
  have l0 := hL'.cell 0
  have l1 := hL'.cell 1
  have l2 := hL'.cell 2
  have l3 := hL'.cell 3
  have l4 := hL'.cell 4
  have l5 := hL'.cell 5
  have l6 := hL'.cell 6
  simp only [List.getElem?_toArray, List.getElem?_cons_zero, List.getElem?_cons_succ] at l0 l1 l2 l3 l4 l5 l6
  go_enter Tryz.func9, Tryz.ntmps9
  go_wp2
  go_ret
  exact ⟨rfl, rfl⟩
theorem wal_Len (L d s : Nat) (c : LogC) (w : World) (hL : LogB w L d s c) (hn : 0 ≤ c.next ∧ c.next ≤ 1000) : Calls Tryz.prog 15 #[.pointer (some ⟨L, 0, none⟩)] w fun e w' => e = .returned (.int .i64 (c.next - 1)) ∧ w' = w := by
  have hL' : Blk w L _ _ := hL
  have l0 := hL'.cell 0
  have l1 := hL'.cell 1
  have l2 := hL'.cell 2
  have l3 := hL'.cell 3
  have l4 := hL'.cell 4
  have l5 := hL'.cell 5
  have l6 := hL'.cell 6
  simp only [List.getElem?_toArray, List.getElem?_cons_zero, List.getElem?_cons_succ] at l0 l1 l2 l3 l4 l5 l6
  go_enter Tryz.func15, Tryz.ntmps15
  go_wp2
  go_ret
  exact ⟨rfl, rfl⟩
def newestM (sec : List Sec) (lat : List (Int × Sec)) (half : Int) (k : Nat) : Int := (List.range k).foldl (fun (m : Int) (i : Nat) => match atM sec lat half 0 (i : Int) with | some r => max m r.gen | none => m) 0
theorem newestM_succ (sec : List Sec) (lat : List (Int × Sec)) (half : Int) (k : Nat) : newestM sec lat half (k + 1) = match atM sec lat half 0 k with | some r => max (newestM sec lat half k) r.gen | none => newestM sec lat half k := by
  unfold newestM
  rw [List.range_succ, List.foldl_append]
  rfl
set_option maxRecDepth 100000 in
set_option maxHeartbeats 4000000 in
theorem wal_newest (L d s g bs : Nat) (c : LogC) (sec : List Sec) (lat : List (Int × Sec)) (fl : Int) (w : World) (hL : LogB w L d s c) (hD : DiskAt w d g bs sec lat fl) (hB : SecB sec lat) (hh : 0 ≤ c.half ∧ c.half ≤ 1000) :
    Calls Tryz.prog 24 #[.pointer (some ⟨L, 0, none⟩)] w fun e w' => e = .returned (.int .u32 (newestM sec lat c.half sec.length)) ∧ Below w.heap.size w w' := by
  have hL' : Blk w L _ _ := hL
  have l0 := hL'.cell 0
  have l1 := hL'.cell 1
  have l2 := hL'.cell 2
  have l3 := hL'.cell 3
  have l4 := hL'.cell 4
  have l5 := hL'.cell 5
  have l6 := hL'.cell 6
  simp only [List.getElem?_toArray, List.getElem?_cons_zero, List.getElem?_cons_succ] at l0 l1 l2 l3 l4 l5 l6
  have hsz := hD.sz
  have HH := Lib.hid hh
  clear hh
  go_enter Tryz.func24, Tryz.ntmps24
  go_wp2_with fail
  refine (disk_Size d g bs sec lat fl w hD).mono ?_
  rintro e w1 ⟨rfl, rfl⟩
  clear l0 l1 l2 l3 l4 l5 l6
  go_wp2_with fail
  go_loopw [12, 3] (fun i v wr => ∃ k : Nat, k ≤ sec.length ∧ i = .int .i64 k ∧ v = .int .u32 (newestM sec lat c.half k) ∧ Below w1.heap.size w1 wr) (fun i _ _ => sec.length - (intOf i).toNat)
  case atStart => exact ⟨0, by omega, rfl, rfl, Below.refl _ _⟩
  case round =>
    obtain ⟨k, hk, rfl, rfl, hb⟩ := hrel
    by_cases hkn : k < sec.length
    · have HN := Lib.hid (newestM_succ sec lat c.half k)
      have hAt := wal_at 0 k L d s g bs c sec lat fl wr (Blk.below' hL hb) (hD.below hb) hB HH.out (.inl rfl) ⟨by omega, by omega⟩
      go_wp2_with fail
      refine hAt.mono ?_
      rintro e w2 ⟨rfl, hb2⟩
      have hb22 := hb.trans (hb2.mono hb.size)
      clear hAt hb hb2
      cases hq : atM sec lat c.half 0 (k : Int) with
      | none =>
        rw [hq] at HN
        have HbA := Lib.hid (hb22.alloc hb22.size (.cells #[.int .i64 0, .int .u32 0, .int .u32 0, .int .u32 0, .int .u32 0, .int .i64 0, .bool false, .int .u32 0, .int .u16 0] 41))
        simp only [Option.getD_none, Option.isSome_none, noR, Rec.val, Rec.arr]
        clear hb22
        go_wp2
        case roundEnd => exact ⟨⟨k + 1, by omega, rfl, by rw [HN.out], HbA.out⟩, by simp [intOf]; omega⟩
      | some r =>
        rw [hq] at HN
        obtain ⟨rk, rg, rl, ri, ra, rp, ro, rs, rm⟩ := r
        have HbA := Lib.hid (hb22.alloc hb22.size (.cells #[.int .i64 rk, .int .u32 rg, .int .u32 rl, .int .u32 ri, .int .u32 ra, .int .i64 rp, .bool ro, .int .u32 rs, .int .u16 rm] 41))
        simp only [Option.getD_some, Option.isSome_some, Rec.val, Rec.arr] at HN ⊢
        clear hb22 hq
        go_wp2
        all_goals (case roundEnd => exact ⟨⟨k + 1, by omega, rfl, by first | (rw [HN.out]; congr 1; omega) | (rw [HN.out]), HbA.out⟩, by simp [intOf]; omega⟩)
    · obtain rfl : k = sec.length := by omega
      go_wp2
      go_ret
      exact ⟨rfl, hb⟩
end Go.Proofs.YtnfaeafplaeehaaGreat
end
