import Derived.Test.YtnfaeafplaeehaaGreatRecSectorW
import Derived.Test.YtnfaeafplaeehaaGreatMrgB
import Derived.Test.YtnfaeafplaeehaaGreatMrgD
import Derived.Test.YtnfaeafplaeehaaGreatStrs
import Derived.Test.YtnfaeafplaeehaaGreatMrgI
set_option linter.unusedVariables false
set_option linter.unusedSimpArgs false
namespace Go.Proofs.YtnfaeafplaeehaaGreat
open Go.RowKit
/-! The record of a sector. -/
def bt (l : List Int) (i : Nat) : Int := l.getD i 0
def q4 (l : List Int) (i : Nat) : Int := cat4 (bt l i) (bt l (i + 1)) (bt l (i + 2)) (bt l (i + 3))
def fldM (l : List Int) : Rec := ⟨bt l 0, q4 l 4, q4 l 8, q4 l 12, q4 l 16, bt l 20, bt l 1 == 1, q4 l 24, bt l 2 * 256 + bt l 3⟩
def noR : Rec := ⟨0, 0, 0, 0, 0, 0, false, 0, 0⟩
def ofR (l : List Int) : Option Rec := if l.length = 48 ∧ q4 l 44 = crc (l.take 44) ∧ recRightB (fldM l) = true ∧ sector (fldM l) = l then some (fldM l) else none
theorem bt_bd {l : List Int} (h : Byte l) (i : Nat) : 0 ≤ bt l i ∧ bt l i ≤ 255 := by
  unfold bt
  rw [List.getD_eq_getElem?_getD]
  cases hs : l[i]? with
  | none => exact ⟨by decide, by decide⟩
  | some x => exact h x (List.mem_of_getElem? hs)
theorem q4_bd {l : List Int} (h : Byte l) (i : Nat) : 0 ≤ q4 l i ∧ q4 l i ≤ 4294967295 := cat4_bd _ _ _ _ (bt_bd h _) (bt_bd h _) (bt_bd h _) (bt_bd h _)
theorem fldM_ok {l : List Int} (h : Byte l) : (fldM l).ok := by
  have h0 := bt_bd h 0
  have h2 := bt_bd h 2
  have h3 := bt_bd h 3
  have h20 := bt_bd h 20
  refine ⟨?_, q4_bd h 4, q4_bd h 8, q4_bd h 12, q4_bd h 16, ?_, q4_bd h 24, ?_⟩ <;> simp only [fldM] <;> omega
theorem bt_cell {w : World} {b off n : Nat} {l : List Int} (hc : ∀ (j : Nat) u, (u8s l)[j]? = some u → w.cell? ⟨b, off + j, none⟩ = some u) (i : Nat) (hi : i < l.length) : w.cell? ⟨b, off + i, none⟩ = some (.int .u8 (bt l i)) := by
  rw [hc i _ (u8s_get l i hi)]
  simp [bt, List.getD_eq_getElem?_getD, List.getElem?_eq_getElem hi]
theorem take_row {w : World} {A : Option Addr} {n : Nat} {l : List Int} (h : Row w 1 A n (u8s l)) (m : Nat) (hm : m ≤ n) : Row w 1 A m (u8s (l.take m)) := by
  have hl : l.length = n := by have := h.1; simp [u8s] at this; exact this
  refine ⟨by simp [u8s]; omega, Nat.le_trans hm h.2.1, fun h0 => ?_⟩
  obtain ⟨b, off, e, hb, hc⟩ := h.2.2 (by omega)
  refine ⟨b, off, e, hb, fun j u hj => hc j u ?_⟩
  have hjm : j < (u8s (l.take m)).length := (List.getElem?_eq_some_iff.1 hj).1
  rw [← hj]
  simp only [u8s, List.length_map, List.length_take] at hjm
  simp only [u8s, List.getElem?_map]
  rw [List.getElem?_take_of_lt (by omega)]
/-- 'get' of a row's bytes from a place on. -/
theorem get_at {w : World} {b off : Nat} {l : List Int} (hB : Byte l) (hl : l.length = 48) (C : ∀ i, i < 48 → w.cell? ⟨b, off + i, none⟩ = some (.int .u8 (bt l i))) (i n cap : Nat) (hi : i + 4 ≤ 48) (hn : 4 ≤ n) (hnc : n ≤ cap) (hm : n ≤ 48) :
    Calls Tryz.prog 71 #[.slice (some ⟨b, off + i, none⟩) n cap] w fun e w' => e = .returned (.int .u32 (q4 l i)) ∧ w' = w :=
  rec_get b (off + i) n cap _ _ _ _ w hn hnc (by omega) (bt_bd hB _) (bt_bd hB _) (bt_bd hB _) (bt_bd hB _) (C i (by omega)) (C (i + 1) (by omega)) (C (i + 2) (by omega)) (C (i + 3) (by omega))
theorem conv_row48 {w : World} {A : Option Addr} {c n : Nat} {l : List Int} (h : Row w 1 A n (u8s l)) (h0 : 0 < n) : (convert 51 9 (.slice A n c)).run Tryz.prog w = .ok (.string (strOfNums l)) w := by
  obtain ⟨b, off, rfl, hb, hc⟩ := h.2.2 h0
  have hl : l.length = n := by have := h.1; simp [u8s] at this; exact this
  exact run_convert_bytes_arg w 51 5 Tryz.underlying51 Tryz.underlying5 b off n c l hl (fun i hi => by
    have := hc i (.int .u8 (l.getD i 0)) (by simp [u8s, List.getElem?_eq_getElem (show i < l.length by omega), List.getD_eq_getElem?_getD])
    simpa [Go.Addr.add_mid] using this) 9 Tryz.underlying9
theorem sector_row {w : World} {g : Nat} {r : Rec} (h : Bts w g 5 (sector r)) : Row w 1 (some ⟨g, 0, none⟩) 48 (u8s (sector r)) := by
  have hl : (sector r).length = 48 := rfl
  have := h.row (by rw [hl]; omega)
  rw [hl] at this
  exact this
theorem sec_byte {r : Rec} (ho : r.ok) (h : recRightB r = true) : Byte (sector r) := fun x hx => by
  rcases List.mem_append.1 hx with hx | hx
  · exact head44_byte r ho h x hx
  · exact four_byte _ x hx
theorem byte_take {l : List Int} (h : Byte l) (n : Nat) : Byte (l.take n) := fun x hx => h x (List.mem_of_mem_take hx)
set_option maxRecDepth 100000 in
set_option maxHeartbeats 4000000 in
theorem rec_Of (l : List Int) (A : Option Addr) (c : Nat) (w : World) (hr : Row w 1 A l.length (u8s l)) (hB : Byte l) (hcap : l.length ≤ c) :
    Calls Tryz.prog 59 #[.slice A l.length c] w fun e w' => e = .returned (.tuple #[((ofR l).getD noR).val, .bool (ofR l).isSome]) ∧ Below w.heap.size w w' := by
  by_cases hl : l.length = 48
  · obtain ⟨b, off, rfl, hbl, hc⟩ := hr.2.2 (by omega)
    have C := fun i (hi : i < 48) => bt_cell (n := 0) hc i (by omega)
    have HL := Lib.hid hl
    rw [hl] at hr hcap ⊢
    clear hl hc
    have kO := Blk.new w 41 #[.int .i64 0, .int .u32 0, .int .u32 0, .int .u32 0, .int .u32 0, .int .i64 0, .bool false, .int .u32 0, .int .u16 0]
    have hb0 := (Below.refl w.heap.size w).alloc (Nat.le_refl _) (.cells #[.int .i64 0, .int .u32 0, .int .u32 0, .int .u32 0, .int .u32 0, .int .i64 0, .bool false, .int .u32 0, .int .u16 0] 41)
    have C1 := Lib.hid (fun i (hi : i < 48) => (Below.cell (p := ⟨b, off + i, none⟩) hb0 hbl).trans (C i hi))
    have hr1 := hr.below hb0
    have hbl1 := Nat.lt_of_lt_of_le hbl hb0.size
    have hk1 : (44 : Int) ≤ (c : Int) := by omega
    have hk2 : ¬ c = 44 := by omega
    have E44 := Lib.hid (show (l.take 44).length = 44 by rw [List.length_take, HL.out]; rfl)
    go_enter Tryz.func59, Tryz.ntmps59
    go_wp2_with fail
    generalize w.alloc (.cells #[.int .i64 0, .int .u32 0, .int .u32 0, .int .u32 0, .int .u32 0, .int .i64 0, .bool false, .int .u32 0, .int .u16 0] 41) = W at *
    clear C hr hbl
    refine draw_start [] Later (by kernel_rfl) ?_
    refine draw_chunk (n := 72) (by kernel_rfl) (fun _ _ _ _ _ h => h) [0, 1, 2, 3, 4, 5, 6, 7, 8, 9, 10, 11] [] _ #[true, true, true, true, true, true, true, true, true, true, true, true] (by kernel_rfl) 0 _ ?_ _ rfl ?_ ?_
    rotate_left
    · intro w' hw'
      have hc' : ∀ b o, b < W.heap.size → w'.cell? ⟨b, o, none⟩ = W.cell? ⟨b, o, none⟩ := (bcell hw').1
      have k6 := get_at (w := w') hB HL.out (fun i hi => (hc' b (off + i) hbl1).trans (C1.out i hi)) 44 4 (c - 44) (by omega) (by omega) (by omega) (by omega); have k9 := sum_Of (l.take 44) (some ⟨b, off, none⟩) c w' (by rw [E44.out]; exact take_row (hr1.below (undrew hw')) 44 (by omega)) (byte_take hB 44); rw [E44.out] at k9
      iterate 6
        refine ci_step (v := ?_) rfl (by kernel_rfl) ?_ ?_
        rotate_left
        · first | (go_simp; done) | (go_simp; with_reducible rfl)
        try simp only [Act.put, List.setIfInBounds_toArray, List.set_cons_zero, List.set_cons_succ]
      refine ci_call (i := 6) rfl (by kernel_rfl) ?_ k6 ?_
      · first | (go_simp; done) | (go_simp; with_reducible rfl)
      try simp only [Act.put, List.setIfInBounds_toArray, List.set_cons_zero, List.set_cons_succ]
      iterate 2
        refine ci_step (v := ?_) rfl (by kernel_rfl) ?_ ?_
        rotate_left
        · first | (go_simp; done) | (go_simp; with_reducible rfl)
        try simp only [Act.put, List.setIfInBounds_toArray, List.set_cons_zero, List.set_cons_succ]
      refine ci_call (i := 9) rfl (by kernel_rfl) ?_ k9 ?_
      · first | (go_simp; done) | (go_simp; with_reducible rfl)
      try simp only [Act.put, List.setIfInBounds_toArray, List.set_cons_zero, List.set_cons_succ]
      iterate 2
        refine ci_step (v := ?_) rfl (by kernel_rfl) ?_ ?_
        rotate_left
        · first | (go_simp; done) | (go_simp; with_reducible rfl)
        try simp only [Act.put, List.setIfInBounds_toArray, List.set_cons_zero, List.set_cons_succ]
      refine ci_end ?_
      rfl
    refine draw_done (by kernel_rfl) ?_ _
    replace kO := kO.drew
    replace hb0 := Below.drew hb0
    replace hr1 := hr1.drew
    change b < W.drew.heap.size at hbl1
    have C2 := Lib.hid (show ∀ i, i < 48 → W.drew.cell? ⟨b, off + i, none⟩ = some (.int .u8 (bt l i)) from C1.out)
    clear C1
    generalize W.drew = V at *
    by_cases hcrc : q4 l 44 = crc (l.take 44)
    · have dcrc : (q4 l 44 != crc (l.take 44)) = false := bne_eq_false_iff_eq.2 hcrc
      have HCR := Lib.hid hcrc
      clear hcrc
      go_wp2_with fail
      have h4 : ¬ c = 4 := by omega
      have h8 : ¬ c = 8 := by omega
      have h12 : ¬ c = 12 := by omega
      have h16 : ¬ c = 16 := by omega
      have h24 : ¬ c = 24 := by omega
      have i4 : (4 : Int) ≤ (c : Int) := by omega
      have i8 : (8 : Int) ≤ (c : Int) := by omega
      have i12 : (12 : Int) ≤ (c : Int) := by omega
      have i16 : (16 : Int) ≤ (c : Int) := by omega
      have i24 : (24 : Int) ≤ (c : Int) := by omega
      have b0 := bt_bd hB 0
      have b2 := bt_bd hB 2
      have b3 := bt_bd hB 3
      have b20 := bt_bd hB 20
      obtain ⟨b0a, b0b⟩ := b0
      obtain ⟨b2a, b2b⟩ := b2
      obtain ⟨b3a, b3b⟩ := b3
      obtain ⟨b20a, b20b⟩ := b20
      refine draw_start [27] Later (by kernel_rfl) ?_
      refine draw_chunk (n := 72) (by kernel_rfl) (fun _ _ _ _ _ h => h) [0, 1, 2, 3, 4, 5, 6, 7, 8, 9, 10, 11, 12, 13, 14, 15, 16, 17, 18, 19, 20, 21, 22, 23, 24, 25] [] _ #[true, true, true, true, true, true, true, true, true, true, true, true, true, true, true, true, true, true, true, true, true, true, true, true, true, true, false, false] (by kernel_rfl) 2 _ ?_ _ rfl ?_ ?_
      rotate_left
      · intro w' hw'
        have hc' : ∀ b o, b < V.heap.size → w'.cell? ⟨b, o, none⟩ = V.cell? ⟨b, o, none⟩ := (bcell hw').1
        have D := (fun i (hi : i < 48) => (hc' b (off + i) hbl1).trans (C2.out i hi)); have k6 := get_at (w := w') hB HL.out D 4 44 (c - 4) (by omega) (by omega) (by omega) (by omega); have k9 := get_at (w := w') hB HL.out D 8 40 (c - 8) (by omega) (by omega) (by omega) (by omega); have k12 := get_at (w := w') hB HL.out D 12 36 (c - 12) (by omega) (by omega) (by omega) (by omega); have k15 := get_at (w := w') hB HL.out D 16 32 (c - 16) (by omega) (by omega) (by omega) (by omega); clear D; have x0 := C2.out 0 (by omega); rw [Nat.add_zero] at x0; have x1 := C2.out 1 (by omega); have x20 := C2.out 20 (by omega)
        iterate 6
          refine ci_step (v := ?_) rfl (by kernel_rfl) ?_ ?_
          rotate_left
          · first | (go_simp; done) | (go_simp; with_reducible rfl)
          try simp only [Act.put, List.setIfInBounds_toArray, List.set_cons_zero, List.set_cons_succ]
        refine ci_call (i := 6) rfl (by kernel_rfl) ?_ k6 ?_
        · first | (go_simp; done) | (go_simp; with_reducible rfl)
        try simp only [Act.put, List.setIfInBounds_toArray, List.set_cons_zero, List.set_cons_succ]
        iterate 2
          refine ci_step (v := ?_) rfl (by kernel_rfl) ?_ ?_
          rotate_left
          · first | (go_simp; done) | (go_simp; with_reducible rfl)
          try simp only [Act.put, List.setIfInBounds_toArray, List.set_cons_zero, List.set_cons_succ]
        refine ci_call (i := 9) rfl (by kernel_rfl) ?_ k9 ?_
        · first | (go_simp; done) | (go_simp; with_reducible rfl)
        try simp only [Act.put, List.setIfInBounds_toArray, List.set_cons_zero, List.set_cons_succ]
        iterate 2
          refine ci_step (v := ?_) rfl (by kernel_rfl) ?_ ?_
          rotate_left
          · first | (go_simp; done) | (go_simp; with_reducible rfl)
          try simp only [Act.put, List.setIfInBounds_toArray, List.set_cons_zero, List.set_cons_succ]
        refine ci_call (i := 12) rfl (by kernel_rfl) ?_ k12 ?_
        · first | (go_simp; done) | (go_simp; with_reducible rfl)
        try simp only [Act.put, List.setIfInBounds_toArray, List.set_cons_zero, List.set_cons_succ]
        iterate 2
          refine ci_step (v := ?_) rfl (by kernel_rfl) ?_ ?_
          rotate_left
          · first | (go_simp; done) | (go_simp; with_reducible rfl)
          try simp only [Act.put, List.setIfInBounds_toArray, List.set_cons_zero, List.set_cons_succ]
        refine ci_call (i := 15) rfl (by kernel_rfl) ?_ k15 ?_
        · first | (go_simp; done) | (go_simp; with_reducible rfl)
        try simp only [Act.put, List.setIfInBounds_toArray, List.set_cons_zero, List.set_cons_succ]
        iterate 10
          refine ci_step (v := ?_) rfl (by kernel_rfl) ?_ ?_
          rotate_left
          · first | (go_simp; done) | (go_simp; with_reducible rfl)
          try simp only [Act.put, List.setIfInBounds_toArray, List.set_cons_zero, List.set_cons_succ]
        refine ci_end ?_
        rfl
      refine draw_eff (i := 26) rfl (by kernel_rfl) (listed' := #[true, true, true, true, true, true, true, true, true, true, true, true, true, true, true, true, true, true, true, true, true, true, true, true, true, true, true, false]) rfl (fun K hK => ?_)
      replace hK := Lib.hid hK
      go_wp2_with fail
      refine hK.out _ _ ⟨fun _ => (Below.refl _ _).alloc (Nat.le_refl _) _, ?_⟩
      clear hK
      have kN := (Blk.new V 41 #[.int .i64 0, .int .u32 0, .int .u32 0, .int .u32 0, .int .u32 0, .int .i64 0, .bool false, .int .u32 0, .int .u16 0]).drew
      have hbA := Below.drew ((Below.refl V.heap.size V).alloc (Nat.le_refl _) (.cells #[.int .i64 0, .int .u32 0, .int .u32 0, .int .u32 0, .int .u32 0, .int .i64 0, .bool false, .int .u32 0, .int .u16 0] 41))
      have v0 : IntKind.i64.wrap (bt l 0) = bt l 0 := by rw [IntKind.wrap_i64]; omega
      have v20 : IntKind.i64.wrap (bt l 20) = bt l 20 := by rw [IntKind.wrap_i64]; omega
      rw [v0, v20]
      clear v0 v20
      refine draw_eff (i := 27) rfl (by kernel_rfl) (listed' := #[true, true, true, true, true, true, true, true, true, true, true, true, true, true, true, true, true, true, true, true, true, true, true, true, true, true, true, true]) rfl (fun K hK => ?_)
      replace hK := Lib.hid hK
      refine wpList_store_rec rfl _ _ rfl V.heap.size ⟨bt l 0, q4 l 4, q4 l 8, q4 l 12, q4 l 16, bt l 20, bt l 1 == 1, 0, 0⟩ _ rfl rfl kN rfl ?_
      go_wp2_with fail
      refine hK.out _ _ ⟨fun h => absurd (by decide) h, ?_⟩
      clear hK
      refine draw_done (by kernel_rfl) ?_ _
      simp only [Act.put]
      obtain ⟨k4, hk4⟩ := rec_stored ⟨bt l 0, q4 l 4, q4 l 8, q4 l 12, q4 l 16, bt l 20, bt l 1 == 1, 0, 0⟩ kN rfl
      have hb4 : Below V.heap.size V _ := hk4.below hbA hbA.size (by simp)
      clear hk4 hbA kN
      generalize (V.alloc (.cells #[.int .i64 0, .int .u32 0, .int .u32 0, .int .u32 0, .int .u32 0, .int .i64 0, .bool false, .int .u32 0, .int .u16 0] 41)).drew.setCells V.heap.size 0 (Rec.cells ⟨bt l 0, q4 l 4, q4 l 8, q4 l 12, q4 l 16, bt l 20, bt l 1 == 1, 0, 0⟩) = V4 at k4 hb4 ⊢
      have kO4 := kO.below' hb4
      have hr4 := hr1.below hb4
      have hb04 := hb0.trans (hb4.mono hb0.size)
      have C4 := Lib.hid (fun i (hi : i < 48) => (hb4.cell (p := ⟨b, off + i, none⟩) hbl1).trans (C2.out i hi))
      have hbl4 := Nat.lt_of_lt_of_le hbl1 hb4.size
      have hgO : w.heap.size < V.heap.size := kO.lt
      have hbg : b ≠ V.heap.size := Nat.ne_of_lt hbl1
      generalize V.heap.size = g at k4 hgO hbg ⊢
      clear kO hr1 hb0 C2 hbl1 hb4
      have k46 := k4.cell 6
      have k47 := k4.cell 7
      have k48 := k4.cell 8
      have f46 := k4.frozen 6
      have f47 := k4.frozen 7
      have f48 := k4.frozen 8
      simp only [Rec.arr, List.getElem?_toArray, List.getElem?_cons_zero, List.getElem?_cons_succ] at k46 k47 k48
      have o16 := or_byte16 (bt l 2) (bt l 3) b2a (by omega) ⟨b3a, b3b⟩
      have w2 : IntKind.u16.wrap (bt l 2) = bt l 2 := by rw [IntKind.wrap_u16]; omega
      have w3 : IntKind.u16.wrap (bt l 3) = bt l 3 := by rw [IntKind.wrap_u16]; omega
      have w22 : IntKind.u16.wrap (bt l 2 * 256) = bt l 2 * 256 := by rw [IntKind.wrap_u16]; omega
      go_wp2_with fail
      have hg4 := k4.lt
      refine draw_start [15] Later (by kernel_rfl) ?_
      refine draw_chunk (n := 72) (by kernel_rfl) (fun _ _ _ _ _ h => h) [0, 1, 2, 3, 4, 5, 6, 7, 8, 9, 10, 11, 12, 13, 14] [] _ #[true, true, true, true, true, true, true, true, true, true, true, true, true, true, true, false] (by kernel_rfl) 1 _ ?_ _ rfl ?_ ?_
      rotate_left
      · intro w' hw'
        have hc' : ∀ b o, b < V4.heap.size → w'.cell? ⟨b, o, none⟩ = V4.cell? ⟨b, o, none⟩ := (bcell hw').1
        have k2 := get_at (w := w') hB HL.out (fun i (hi : i < 48) => (hc' b (off + i) hbl4).trans (C4.out i hi)) 24 24 (c - 24) (by omega) (by omega) (by omega) (by omega); have x2 := C4.out 2 (by omega); have x3 := C4.out 3 (by omega)
        iterate 2
          refine ci_step (v := ?_) rfl (by kernel_rfl) ?_ ?_
          rotate_left
          · first | (go_simp; done) | (go_simp; with_reducible rfl)
          try simp only [Act.put, List.setIfInBounds_toArray, List.set_cons_zero, List.set_cons_succ]
        refine ci_call (i := 2) rfl (by kernel_rfl) ?_ k2 ?_
        · first | (go_simp; done) | (go_simp; with_reducible rfl)
        try simp only [Act.put, List.setIfInBounds_toArray, List.set_cons_zero, List.set_cons_succ]
        iterate 12
          refine ci_step (v := ?_) rfl (by kernel_rfl) ?_ ?_
          rotate_left
          · first | (go_simp; done) | (go_simp; with_reducible rfl)
          try simp only [Act.put, List.setIfInBounds_toArray, List.set_cons_zero, List.set_cons_succ]
        refine ci_end ?_
        rfl
      refine draw_eff (i := 15) rfl (by kernel_rfl) (listed' := #[true, true, true, true, true, true, true, true, true, true, true, true, true, true, true, true]) rfl (fun K hK => ?_)
      replace hK := Lib.hid hK
      go_wp2_with fail
      refine hK.out _ _ ⟨fun h => absurd (by decide) h, ?_⟩
      clear hK
      refine draw_done (by kernel_rfl) ?_ _
      try simp only [Act.put]
      have k5 := (k4.drew.set 7 (.int .u32 (q4 l 24))).set 8 (.int .u16 (bt l 2 * 256 + bt l 3))
      have hk5 : Kept [g] V4 ((V4.drew.setCell ⟨g, 7, none⟩ (.int .u32 (q4 l 24))).setCell ⟨g, 8, none⟩ (.int .u16 (bt l 2 * 256 + bt l 3))) := kept_set (kept_set (kept_drew (Kept.refl _ _)) _ _ (.inl (by simp))) _ _ (.inl (by simp))
      have kR : Blk ((V4.drew.setCell ⟨g, 7, none⟩ (.int .u32 (q4 l 24))).setCell ⟨g, 8, none⟩ (.int .u16 (bt l 2 * 256 + bt l 3))) g 41 (fldM l).arr := k5
      clear k5 k46 k47 k48 f46 f47 f48 o16 w2 w3 w22
      obtain ⟨V5, hV5⟩ : ∃ V5, ((V4.setCell ⟨g, 7, none⟩ (.int .u32 (q4 l 24))).setCell ⟨g, 8, none⟩ (.int .u16 (bt l 2 * 256 + bt l 3))).drew = V5 := ⟨_, rfl⟩
      rw [hV5]
      change Kept [g] V4 ((V4.setCell ⟨g, 7, none⟩ (.int .u32 (q4 l 24))).setCell ⟨g, 8, none⟩ (.int .u16 (bt l 2 * 256 + bt l 3))).drew at hk5
      change Blk ((V4.setCell ⟨g, 7, none⟩ (.int .u32 (q4 l 24))).setCell ⟨g, 8, none⟩ (.int .u16 (bt l 2 * 256 + bt l 3))).drew g _ _ at kR
      rw [hV5] at hk5 kR
      clear hV5
      have kO5 := hk5.blk kO4 (by simp; omega)
      have hb05 := hk5.below hb04 hb04.size (by simp; omega)
      have hr5 := hk5.row hr4 (by intro b' off' e; cases e; simpa using hbg)
      have hok := fldM_ok hB
      clear k4 kO4 hr4 hb04 C4 hk5 hbl4 hg4
      have hg5 := kR.lt
      go_wp2_with fail
      cases hR : recRightB (fldM l) with
      | false =>
        have hn : ofR l = none := by unfold ofR; rw [if_neg fun h => by rw [hR] at h; exact absurd h.2.2.1 (by decide)]
        have hRi := fun W => rec_Right (fldM l) W hok
        rw [hR] at hRi
        refine draw_start [] Later (by kernel_rfl) ?_
        refine draw_chunk (n := 72) (by kernel_rfl) (fun _ _ _ _ _ h => h) [0] [] _ #[true, false, false, false, false, false, false, false, false, false, false] (by kernel_rfl) 10 _ ?_ _ rfl ?_ ?_
        rotate_left
        · intro w' hw'
          have hc' : ∀ b o, b < V5.heap.size → w'.cell? ⟨b, o, none⟩ = V5.cell? ⟨b, o, none⟩ := (bcell hw').1
          have hld := run_load_rec (kR.below' (undrew hw'))
          refine ci_step (i := 0) (v := ?_) rfl (by kernel_rfl) ?_ ?_
          rotate_left
          · refine (execLoad rfl rfl hld).trans ?_; with_reducible rfl
          skip
          try simp only [Act.put, List.setIfInBounds_toArray, List.set_cons_zero, List.set_cons_succ]
          refine ci_end ?_
          rfl
        refine draw_eff (i := 1) rfl (by kernel_rfl) (listed' := #[true, true, false, false, false, false, false, false, false, false, false]) rfl (fun K hK => ?_)
        replace hK := Lib.hid hK
        go_wp2_with fail
        refine (hRi _).mono ?_
        rintro e V6 ⟨rfl, hb6⟩
        go_wp2_with fail
        refine hK.out _ _ ⟨fun _ => hb6, ?_⟩
        clear hK
        replace kO5 := kO5.drew.below' hb6
        replace hb05 := (Below.drew hb05).trans (hb6.mono hb05.size)
        refine draw_chunk (n := 72) (by kernel_rfl) (fun _ _ _ _ _ h => h) [2, 3, 4, 5, 6, 7, 8, 9, 10] [] _ #[true, true, true, true, true, true, true, true, true, true, true] (by kernel_rfl) 0 _ ?_ _ rfl ?_ ?_
        rotate_left
        · intro w' hw'
          have hc' : ∀ b o, b < V6.heap.size → w'.cell? ⟨b, o, none⟩ = V6.cell? ⟨b, o, none⟩ := (bcell hw').1
          iterate 2
            refine ci_step (v := ?_) rfl (by kernel_rfl) ?_ ?_
            rotate_left
            · first | (go_simp; done) | (go_simp; with_reducible rfl)
            try simp only [Act.put, List.setIfInBounds_toArray, List.set_cons_zero, List.set_cons_succ]
          refine ci_off (i := 4) rfl (by kernel_rfl) ?_
          try simp only [Act.put, List.setIfInBounds_toArray, List.set_cons_zero, List.set_cons_succ]
          refine ci_off (i := 5) rfl (by kernel_rfl) ?_
          try simp only [Act.put, List.setIfInBounds_toArray, List.set_cons_zero, List.set_cons_succ]
          refine ci_off (i := 6) rfl (by kernel_rfl) ?_
          try simp only [Act.put, List.setIfInBounds_toArray, List.set_cons_zero, List.set_cons_succ]
          refine ci_off (i := 7) rfl (by kernel_rfl) ?_
          try simp only [Act.put, List.setIfInBounds_toArray, List.set_cons_zero, List.set_cons_succ]
          refine ci_off (i := 8) rfl (by kernel_rfl) ?_
          try simp only [Act.put, List.setIfInBounds_toArray, List.set_cons_zero, List.set_cons_succ]
          refine ci_off (i := 9) rfl (by kernel_rfl) ?_
          try simp only [Act.put, List.setIfInBounds_toArray, List.set_cons_zero, List.set_cons_succ]
          refine ci_step (i := 10) (v := ?_) rfl (by kernel_rfl) ?_ ?_
          rotate_left
          · first | (go_simp; done) | (go_simp; with_reducible rfl)
          skip
          try simp only [Act.put, List.setIfInBounds_toArray, List.set_cons_zero, List.set_cons_succ]
          refine ci_end ?_
          rfl
        refine draw_done (by kernel_rfl) ?_ _
        go_wp2_with (refine wpList_store_rec rfl _ _ rfl w.heap.size noR _ rfl rfl kO5 rfl ?_)
        obtain ⟨kE, hkE⟩ := rec_stored noR kO5 rfl
        have hbE := hkE.below hb05 hb05.size (by simp)
        refine bodyPost_ret (v := .tuple #[noR.val, .bool false]) ?_ rfl ⟨by rw [hn]; rfl, hbE⟩
        have hld := run_load_rec kE
        simp [results, Tryz.results59, asAddr, hld]
      | true =>
        have hRi := fun W => rec_Right (fldM l) W hok
        have hSi := fun W => rec_Sector_yes (fldM l) W hok hR
        rw [hR] at hRi
        refine draw_start [] Later (by kernel_rfl) ?_
        refine draw_chunk (n := 72) (by kernel_rfl) (fun _ _ _ _ _ h => h) [0] [] _ #[true, false, false, false, false, false, false, false, false, false, false] (by kernel_rfl) 10 _ ?_ _ rfl ?_ ?_
        rotate_left
        · intro w' hw'
          have hc' : ∀ b o, b < V5.heap.size → w'.cell? ⟨b, o, none⟩ = V5.cell? ⟨b, o, none⟩ := (bcell hw').1
          have hld := run_load_rec (kR.below' (undrew hw'))
          refine ci_step (i := 0) (v := ?_) rfl (by kernel_rfl) ?_ ?_
          rotate_left
          · refine (execLoad rfl rfl hld).trans ?_; with_reducible rfl
          skip
          try simp only [Act.put, List.setIfInBounds_toArray, List.set_cons_zero, List.set_cons_succ]
          refine ci_end ?_
          rfl
        refine draw_eff (i := 1) rfl (by kernel_rfl) (listed' := #[true, true, false, false, false, false, false, false, false, false, false]) rfl (fun K hK => ?_)
        replace hK := Lib.hid hK
        go_wp2_with fail
        refine (hRi _).mono ?_
        rintro e V6 ⟨rfl, hb6⟩
        go_wp2_with fail
        refine hK.out _ _ ⟨fun _ => hb6, ?_⟩
        clear hK
        replace kR := kR.drew.below' hb6
        replace hr5 := hr5.drew.below hb6
        replace kO5 := kO5.drew.below' hb6
        replace hb05 := (Below.drew hb05).trans (hb6.mono hb05.size)
        refine draw_chunk (n := 72) (by kernel_rfl) (fun _ _ _ _ _ h => h) [2, 3, 4, 7, 8] [] _ #[true, true, true, true, true, false, false, true, true, false, false] (by kernel_rfl) 4 _ ?_ _ rfl ?_ ?_
        rotate_left
        · intro w' hw'
          have hc' : ∀ b o, b < V6.heap.size → w'.cell? ⟨b, o, none⟩ = V6.cell? ⟨b, o, none⟩ := (bcell hw').1
          have hld := run_load_rec (kR.below' hw'); have hcv := conv_row48 (c := c) (hr5.below hw') (by omega)
          iterate 2
            refine ci_step (v := ?_) rfl (by kernel_rfl) ?_ ?_
            rotate_left
            · first | (go_simp; done) | (go_simp; with_reducible rfl)
            try simp only [Act.put, List.setIfInBounds_toArray, List.set_cons_zero, List.set_cons_succ]
          refine ci_step (i := 4) (v := ?_) rfl (by kernel_rfl) ?_ ?_
          rotate_left
          · refine (execLoad rfl rfl hld).trans ?_; with_reducible rfl
          skip
          try simp only [Act.put, List.setIfInBounds_toArray, List.set_cons_zero, List.set_cons_succ]
          iterate 2
            refine ci_step (v := ?_) rfl (by kernel_rfl) ?_ ?_
            rotate_left
            · first | (go_simp; done) | (go_simp; with_reducible rfl)
            try simp only [Act.put, List.setIfInBounds_toArray, List.set_cons_zero, List.set_cons_succ]
          refine ci_end ?_
          rfl
        refine draw_eff (i := 5) rfl (by kernel_rfl) (listed' := #[true, true, true, true, true, true, false, true, true, false, false]) rfl (fun K hK => ?_)
        replace hK := Lib.hid hK
        go_wp2_with fail
        refine (hSi _).mono ?_
        rintro e V7 ⟨hb7, gs, hgs, rfl, hBs⟩
        go_wp2_with fail
        refine hK.out _ _ ⟨fun _ => hb7, ?_⟩
        clear hK
        replace kR := kR.below' hb7
        replace kO5 := kO5.below' hb7
        replace hb05 := hb05.trans (hb7.mono hb05.size)
        refine draw_chunk (n := 72) (by kernel_rfl) (fun _ _ _ _ _ h => h) [6, 9, 10] [] _ #[true, true, true, true, true, true, true, true, true, true, true] (by kernel_rfl) 0 _ ?_ _ rfl ?_ ?_
        rotate_left
        · intro w' hw'
          have hc' : ∀ b o, b < V7.heap.size → w'.cell? ⟨b, o, none⟩ = V7.cell? ⟨b, o, none⟩ := (bcell hw').1
          have hcv := conv_row48 (c := 48) ((sector_row hBs).below hw') (by omega)
          iterate 3
            refine ci_step (v := ?_) rfl (by kernel_rfl) ?_ ?_
            rotate_left
            · first | (go_simp; done) | (go_simp; with_reducible rfl)
            try simp only [Act.put, List.setIfInBounds_toArray, List.set_cons_zero, List.set_cons_succ]
          refine ci_end ?_
          rfl
        refine draw_done (by kernel_rfl) ?_ _
        by_cases hs : sector (fldM l) = l
        · have hn : ofR l = some (fldM l) := by unfold ofR; rw [if_pos ⟨HL.out, HCR.out, hR, hs⟩]
          rw [hs]
          have dS : (!((strOfNums l).toList == (strOfNums l).toList)) = false := by rw [beq_self_eq_true]; rfl
          have kR9 : Blk V7 g 41 #[.int .i64 (bt l 0), .int .u32 (q4 l 4), .int .u32 (q4 l 8), .int .u32 (q4 l 12), .int .u32 (q4 l 16), .int .i64 (bt l 20), .bool (bt l 1 == 1), .int .u32 (q4 l 24), .int .u16 (bt l 2 * 256 + bt l 3)] := kR
          have r0 := kR9.cell 0
          have r1 := kR9.cell 1
          have r2 := kR9.cell 2
          have r3 := kR9.cell 3
          have r4 := kR9.cell 4
          have r5 := kR9.cell 5
          have r6 := kR9.cell 6
          have r7 := kR9.cell 7
          have r8 := kR9.cell 8
          simp only [List.getElem?_toArray, List.getElem?_cons_zero, List.getElem?_cons_succ] at r0 r1 r2 r3 r4 r5 r6 r7 r8
          rw [dS]
          go_wp2_with (refine wpList_store_rec rfl (.tmp 2) (.tmp 71) rfl w.heap.size (fldM l) _ rfl rfl kO5 rfl ?_)
          obtain ⟨kE, hkE⟩ := rec_stored (fldM l) kO5 rfl
          have hbE := hkE.below hb05 hb05.size (by simp)
          refine bodyPost_ret (v := .tuple #[(fldM l).val, .bool true]) ?_ rfl ⟨by rw [hn]; rfl, hbE⟩
          have hld := run_load_rec kE
          simp [results, Tryz.results59, asAddr, hld]
        · have hn : ofR l = none := by unfold ofR; rw [if_neg fun h => hs h.2.2.2]
          have dS : ((strOfNums (sector (fldM l))).toList == (strOfNums l).toList) = false := beq_eq_false_iff_ne.2 fun e => hs ((str_inj _ _ (sec_byte hok hR) hB).1 e)
          have dS2 : (!((strOfNums (sector (fldM l))).toList == (strOfNums l).toList)) = true := by rw [dS]; rfl
          rw [dS2]
          clear dS dS2
          go_wp2_with (refine wpList_store_rec rfl _ _ rfl w.heap.size noR _ rfl rfl kO5 rfl ?_)
          obtain ⟨kE, hkE⟩ := rec_stored noR kO5 rfl
          have hbE := hkE.below hb05 hb05.size (by simp)
          refine bodyPost_ret (v := .tuple #[noR.val, .bool false]) ?_ rfl ⟨by rw [hn]; rfl, hbE⟩
          have hld := run_load_rec kE
          simp [results, Tryz.results59, asAddr, hld]
    · have hn : ofR l = none := by unfold ofR; rw [if_neg fun h => hcrc h.2.1]
      have dcrc : (q4 l 44 != crc (l.take 44)) = true := bne_iff_ne.2 hcrc
      go_wp2_with (refine wpList_store_rec rfl _ _ rfl w.heap.size noR _ rfl rfl kO rfl ?_)
      obtain ⟨kE, hkE⟩ := rec_stored noR kO rfl
      have hbE := hkE.below hb0 hb0.size (by simp)
      refine bodyPost_ret (v := .tuple #[noR.val, .bool false]) ?_ rfl ⟨by rw [hn]; rfl, hbE⟩
      have hld := run_load_rec kE
      simp [results, Tryz.results59, asAddr, hld]
  · have hn : ofR l = none := by unfold ofR; rw [if_neg fun h => hl h.1]
    rw [hn]
    simp only [Option.getD_none, Option.isSome_none]
    have hb0 := (Below.refl w.heap.size w).alloc (Nat.le_refl _) (.cells #[.int .i64 0, .int .u32 0, .int .u32 0, .int .u32 0, .int .u32 0, .int .i64 0, .bool false, .int .u32 0, .int .u16 0] 41)
    have kO := Blk.new w 41 #[.int .i64 0, .int .u32 0, .int .u32 0, .int .u32 0, .int .u32 0, .int .i64 0, .bool false, .int .u32 0, .int .u16 0]
    have d1 : ((l.length : Int) != 48) = true := bne_iff_ne.2 (by omega)
    go_enter Tryz.func59, Tryz.ntmps59
    go_wp2_with fail
    generalize w.alloc (.cells #[.int .i64 0, .int .u32 0, .int .u32 0, .int .u32 0, .int .u32 0, .int .i64 0, .bool false, .int .u32 0, .int .u16 0] 41) = W at *
    refine draw_start [] Later (by kernel_rfl) ?_
    refine draw_chunk (n := 72) (by kernel_rfl) (fun _ _ _ _ _ h => h) [0, 1, 2, 3, 4, 5, 6, 7, 8, 9, 10, 11] [] _ #[true, true, true, true, true, true, true, true, true, true, true, true] (by kernel_rfl) 0 _ ?_ _ rfl ?_ ?_
    rotate_left
    · intro w' hw'
      have hc' : ∀ b o, b < W.heap.size → w'.cell? ⟨b, o, none⟩ = W.cell? ⟨b, o, none⟩ := (bcell hw').1
      iterate 4
        refine ci_step (v := ?_) rfl (by kernel_rfl) ?_ ?_
        rotate_left
        · first | (go_simp; done) | (go_simp; with_reducible rfl)
        try simp only [Act.put, List.setIfInBounds_toArray, List.set_cons_zero, List.set_cons_succ]
      refine ci_off (i := 4) rfl (by kernel_rfl) ?_
      try simp only [Act.put, List.setIfInBounds_toArray, List.set_cons_zero, List.set_cons_succ]
      refine ci_off (i := 5) rfl (by kernel_rfl) ?_
      try simp only [Act.put, List.setIfInBounds_toArray, List.set_cons_zero, List.set_cons_succ]
      refine ci_off (i := 6) rfl (by kernel_rfl) ?_
      try simp only [Act.put, List.setIfInBounds_toArray, List.set_cons_zero, List.set_cons_succ]
      refine ci_off (i := 7) rfl (by kernel_rfl) ?_
      try simp only [Act.put, List.setIfInBounds_toArray, List.set_cons_zero, List.set_cons_succ]
      refine ci_off (i := 8) rfl (by kernel_rfl) ?_
      try simp only [Act.put, List.setIfInBounds_toArray, List.set_cons_zero, List.set_cons_succ]
      refine ci_off (i := 9) rfl (by kernel_rfl) ?_
      try simp only [Act.put, List.setIfInBounds_toArray, List.set_cons_zero, List.set_cons_succ]
      refine ci_off (i := 10) rfl (by kernel_rfl) ?_
      try simp only [Act.put, List.setIfInBounds_toArray, List.set_cons_zero, List.set_cons_succ]
      refine ci_step (i := 11) (v := ?_) rfl (by kernel_rfl) ?_ ?_
      rotate_left
      · first | (go_simp; done) | (go_simp; with_reducible rfl)
      skip
      try simp only [Act.put, List.setIfInBounds_toArray, List.set_cons_zero, List.set_cons_succ]
      refine ci_end ?_
      rfl
    refine draw_done (by kernel_rfl) ?_ _
    have kO := kO.drew
    have hb0 := Below.drew hb0
    go_wp2_with (refine wpList_store_rec rfl _ _ rfl w.heap.size noR _ rfl rfl kO rfl ?_)
    obtain ⟨kE, hkE⟩ := rec_stored noR kO rfl
    have hbE := hkE.below hb0 hb0.size (by simp)
    refine bodyPost_ret (v := .tuple #[noR.val, .bool false]) ?_ rfl ⟨rfl, hbE⟩
    have hld := run_load_rec kE
    simp [results, Tryz.results59, asAddr, hld]
end Go.Proofs.YtnfaeafplaeehaaGreat
