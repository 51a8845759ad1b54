-- written by this session's turned copy of the kit's print.py; Lean checks it
import Derived.Test.YtgmdjhokcipajaaPTlx0
import Derived.Test.YtgmdjhokcipajaaPTlx2
namespace Go.Proofs.YtgmdjhokcipajaaQ.PTlx
open Go.RowKit Go.Proofs.YtgmdjhokcipajaaW.PrintWords Go.Proofs.YtgmdjhokcipajaaW.PrintLast Go.Proofs.YtgmdjhokcipajaaW.PrintMore
attribute [local go_sem] max2_int min2_int max_two min_two max_three min_three max_four min_four   -- for this text's walks alone
set_option linter.unusedVariables false
set_option linter.unusedSimpArgs false

/-! ### tlv_one: function 56 -/
-- EXT wayfarer/tlv.one | making=1 | rounds=0
theorem tlv_Update_Right.nice (a l id s m : Int) (ha : 0 ≤ a ∧ a ≤ 4294967295) : tlv_Update_Right.f a l id s m = some (Ytgmdjhokcipajaa.updB a l id s m) := by
  unfold tlv_Update_Right.f addr_Prefix_Right.f dist_Dist_Lost.f Ytgmdjhokcipajaa.updB
  rw [if_pos ha]
  simp only [Option.bind_some]
  cases h1 : Ytgmdjhokcipajaa.rightB a l with
  | false => simp
  | true =>
    by_cases h2 : s ≤ 1073741824
    · by_cases h3 : m = 65535
      · by_cases h4 : id = 0 <;> by_cases h5 : s = 0 <;> simp [h2, h3, h4, h5]
      · by_cases h4 : id = 0 <;> simp [h2, h3, h4, bne, beq_eq_false_iff_ne.2 h3]
    · simp [h2]
def tlv_one.f (l0 : List Int) (a1 : Int) : Option (Int × Int × Int × Int × Int × Bool) :=
  if Ytgmdjhokcipajaa.byteB l0 = true ∧ 0 ≤ a1 ∧ a1 ≤ 4294967295 ∧ l0.length ≤ 140737488351232 then some (Ytgmdjhokcipajaa.oneM l0 a1) else none
open Go.Proofs.Ytgmdjhokcipajaa (draw_start draw_chunk draw_eff draw_done ci_step ci_call ci_off ci_end Later bcell below_dd below_two undrew)
theorem tlv_one.short (A0 : Option Addr) (c0 : Nat) (l0 : List Int) (a1 : Int) (w : World) (hl : l0.length < 7) :
    Calls Try.prog 56 #[.slice A0 l0.length c0, .int .u32 a1] w fun e w' => e = .returned (.tuple #[.agg #[.int .u32 0, .int .i64 0, .int .u32 0, .int .u32 0, .int .u16 0], .bool false]) ∧ Below w.heap.size w w' := by
  have h7 : decide (l0.length < 7) = true := decide_eq_true hl
  have h7i : decide ((l0.length : Int) < 7) = true := decide_eq_true (by omega)
  clear hl
  have hb := (Below.refl w.heap.size w).alloc (Nat.le_refl _) (.cells #[.int .u32 0, .int .i64 0, .int .u32 0, .int .u32 0, .int .u16 0] 62)
  go_enter Try.func56, Try.ntmps56
  go_wp2
  exact bodyPost_ret (v := .tuple #[.agg #[.int .u32 0, .int .i64 0, .int .u32 0, .int .u32 0, .int .u16 0], .bool false]) (by simp [results, Try.results56, go_sem]) rfl ⟨rfl, hb⟩
set_option maxHeartbeats 2000000 in
theorem tlv_one.big (A0 : Option Addr) (c0 : Nat) (l0 : List Int) (a1 : Int) (w : World) (hr0 : Kd.C (Kd.int .u8) w A0 l0.length l0) (hc0 : l0.length ≤ c0) (hl : 7 ≤ l0.length) (hb8 : Ytgmdjhokcipajaa.Byte l0) (ha0 : 0 ≤ a1) (ha1 : a1 ≤ 4294967295) (hp : 32 < rd l0 0) :
    Calls Try.prog 56 #[.slice A0 l0.length c0, .int .u32 a1] w fun e w' => e = .returned (.tuple #[.agg #[.int .u32 0, .int .i64 0, .int .u32 0, .int .u32 0, .int .u16 0], .bool false]) ∧ Below w.heap.size w w' := by
  have h7 : decide (l0.length < 7) = false := decide_eq_false (by omega)
  have h7i : decide ((l0.length : Int) < 7) = false := decide_eq_false (by omega)
  obtain ⟨ad, e, x0⟩ := Kd.at_int hr0 0 (by omega) (by omega)
  subst e
  have K4 : ∀ W, Kd.C (Kd.int .u8) W (some ad) l0.length l0 → Hid (Calls Try.prog 55 #[.slice (some { block := ad.block, off := ad.off + 1 }) 4 (c0 - 1)] W fun e w' => e = .returned (.int .u32 (Ytgmdjhokcipajaa.valB ((l0.drop 1).take 4))) ∧ w' = W) := fun W h => Lib.hid (Ytgmdjhokcipajaa.get_mid c0 ad l0 1 4 (by omega) hc0 (by omega) (by omega) hb8 W h)
  have K2 : ∀ W, Kd.C (Kd.int .u8) W (some ad) l0.length l0 → Hid (Calls Try.prog 55 #[.slice (some { block := ad.block, off := ad.off + 5 }) 2 (c0 - 5)] W fun e w' => e = .returned (.int .u32 (Ytgmdjhokcipajaa.valB ((l0.drop 5).take 2))) ∧ w' = W) := fun W h => Lib.hid (Ytgmdjhokcipajaa.get_mid c0 ad l0 5 2 (by omega) hc0 (by omega) (by omega) hb8 W h)
  have hlm := hr0.2.1
  obtain ⟨p0, p1⟩ := hb8 l0[0] (List.getElem_mem (by omega))
  rw [← Ytgmdjhokcipajaa.rd_get l0 0 (by omega)] at p0 p1
  obtain ⟨s0, s1⟩ := Ytgmdjhokcipajaa.valB_bd4 ((l0.drop 1).take 4) ((hb8.drop 1).take 4) (by simp; omega)
  obtain ⟨m0, m1⟩ := Ytgmdjhokcipajaa.valB_bd2 ((l0.drop 5).take 2) ((hb8.drop 5).take 2) (by simp; omega)
  replace x0 : w.cell? ad = some (.int .u8 (rd l0 0)) := x0
  have q0 : 0 < l0.length := by omega
  have q5 : (5 : Int) ≤ c0 := by omega
  have q7 : (7 : Int) ≤ c0 := by omega
  have q1n : ¬ c0 = 1 := by omega
  have q5n : ¬ c0 = 5 := by omega
  replace p0 : 0 ≤ rd l0 0 := p0
  replace p1 : rd l0 0 ≤ 255 := p1
  generalize Ytgmdjhokcipajaa.valB ((l0.drop 1).take 4) = s at *
  generalize Ytgmdjhokcipajaa.valB ((l0.drop 5).take 2) = m at *
  generalize rd l0 0 = p at *
  have hpd : decide (32 < p) = true := decide_eq_true hp
  have HC := Lib.hid hr0
  have HB8 := Lib.hid hb8
  clear hr0 hb8
  have hb := (Below.refl w.heap.size w).alloc (Nat.le_refl _) (.cells #[.int .u32 0, .int .i64 0, .int .u32 0, .int .u32 0, .int .u16 0] 62)
  have kR := Ytgmdjhokcipajaa.Blk.new w 62 #[.int .u32 0, .int .i64 0, .int .u32 0, .int .u32 0, .int .u16 0]
  have kR0 := kR
  go_enter Try.func56, Try.ntmps56
  go_wp2_with fail
  have HCW := Lib.hid (Kd.C_below HC.out hb)
  have x0W := pw_cell_below hb x0
  clear HC x0
  have hge := hb.size
  generalize w.alloc (.cells #[.int .u32 0, .int .i64 0, .int .u32 0, .int .u32 0, .int .u16 0] 62) = W at *
  refine draw_start [16] Later (by kernel_rfl) ?_
  refine draw_chunk (n := 57) (by kernel_rfl) (fun _ _ _ _ _ h => h) [0, 1, 2, 3, 4, 5, 6, 7, 8, 9, 10, 11, 12, 13, 14] [] _ #[true, true, true, true, true, true, true, true, true, true, true, true, true, true, true, false, false] (by kernel_rfl) 2 _ ?_ _ rfl ?_ ?_
  rotate_left
  · intro w' hw'
    have hc' : ∀ b o, b < W.heap.size → w'.cell? ⟨b, o, none⟩ = W.cell? ⟨b, o, none⟩ := (bcell hw').1
    have hb' := undrew hw'; have x0' := pw_cell_below hb' x0W; have k8 := (K4 w' (Kd.C_below HCW.out hb')).out; have k11 := (K2 w' (Kd.C_below HCW.out hb')).out
    refine ci_step (i := 0) (v := ?_) rfl (by kernel_rfl) ?_ ?_
    rotate_left
    · first | (go_simp; done) | (go_simp; with_reducible rfl)
    skip
    try simp only [Act.put, List.setIfInBounds_toArray, List.set_cons_zero, List.set_cons_succ]
    refine ci_step (i := 1) (v := ?_) rfl (by kernel_rfl) ?_ ?_
    rotate_left
    · first | (go_simp; done) | (go_simp; with_reducible rfl)
    skip
    try simp only [Act.put, List.setIfInBounds_toArray, List.set_cons_zero, List.set_cons_succ]
    refine ci_step (i := 2) (v := ?_) rfl (by kernel_rfl) ?_ ?_
    rotate_left
    · first | (go_simp; done) | (go_simp; with_reducible rfl)
    skip
    try simp only [Act.put, List.setIfInBounds_toArray, List.set_cons_zero, List.set_cons_succ]
    refine ci_step (i := 3) (v := ?_) rfl (by kernel_rfl) ?_ ?_
    rotate_left
    · first | (go_simp; done) | (go_simp; with_reducible rfl)
    skip
    try simp only [Act.put, List.setIfInBounds_toArray, List.set_cons_zero, List.set_cons_succ]
    refine ci_step (i := 4) (v := ?_) rfl (by kernel_rfl) ?_ ?_
    rotate_left
    · first | (go_simp; done) | (go_simp; with_reducible rfl)
    skip
    try simp only [Act.put, List.setIfInBounds_toArray, List.set_cons_zero, List.set_cons_succ]
    refine ci_step (i := 5) (v := ?_) rfl (by kernel_rfl) ?_ ?_
    rotate_left
    · first | (go_simp; done) | (go_simp; with_reducible rfl)
    skip
    try simp only [Act.put, List.setIfInBounds_toArray, List.set_cons_zero, List.set_cons_succ]
    refine ci_step (i := 6) (v := ?_) rfl (by kernel_rfl) ?_ ?_
    rotate_left
    · first | (go_simp; done) | (go_simp; with_reducible rfl)
    skip
    try simp only [Act.put, List.setIfInBounds_toArray, List.set_cons_zero, List.set_cons_succ]
    refine ci_step (i := 7) (v := ?_) rfl (by kernel_rfl) ?_ ?_
    rotate_left
    · first | (go_simp; done) | (go_simp; with_reducible rfl)
    skip
    try simp only [Act.put, List.setIfInBounds_toArray, List.set_cons_zero, List.set_cons_succ]
    refine ci_call (i := 8) rfl (by kernel_rfl) ?_ k8 ?_
    · first | (go_simp; done) | (go_simp; with_reducible rfl)
    try simp only [Act.put, List.setIfInBounds_toArray, List.set_cons_zero, List.set_cons_succ]
    refine ci_step (i := 9) (v := ?_) rfl (by kernel_rfl) ?_ ?_
    rotate_left
    · first | (go_simp; done) | (go_simp; with_reducible rfl)
    skip
    try simp only [Act.put, List.setIfInBounds_toArray, List.set_cons_zero, List.set_cons_succ]
    refine ci_step (i := 10) (v := ?_) rfl (by kernel_rfl) ?_ ?_
    rotate_left
    · first | (go_simp; done) | (go_simp; with_reducible rfl)
    skip
    try simp only [Act.put, List.setIfInBounds_toArray, List.set_cons_zero, List.set_cons_succ]
    refine ci_call (i := 11) rfl (by kernel_rfl) ?_ k11 ?_
    · first | (go_simp; done) | (go_simp; with_reducible rfl)
    try simp only [Act.put, List.setIfInBounds_toArray, List.set_cons_zero, List.set_cons_succ]
    refine ci_step (i := 12) (v := ?_) rfl (by kernel_rfl) ?_ ?_
    rotate_left
    · first | (go_simp; done) | (go_simp; with_reducible rfl)
    skip
    try simp only [Act.put, List.setIfInBounds_toArray, List.set_cons_zero, List.set_cons_succ]
    refine ci_step (i := 13) (v := ?_) rfl (by kernel_rfl) ?_ ?_
    rotate_left
    · first | (go_simp; done) | (go_simp; with_reducible rfl)
    skip
    try simp only [Act.put, List.setIfInBounds_toArray, List.set_cons_zero, List.set_cons_succ]
    refine ci_step (i := 14) (v := ?_) rfl (by kernel_rfl) ?_ ?_
    rotate_left
    · first | (go_simp; done) | (go_simp; with_reducible rfl)
    skip
    try simp only [Act.put, List.setIfInBounds_toArray, List.set_cons_zero, List.set_cons_succ]
    refine ci_end ?_
    rfl
  refine draw_eff (i := 15) rfl (by kernel_rfl) (listed' := #[true, true, true, true, true, true, true, true, true, true, true, true, true, true, true, true, false]) rfl (fun K hK => ?_)
  replace hK := Lib.hid hK
  go_wp2_with fail
  refine hK.out _ _ ⟨fun _ => below_dd ((Below.refl _ W).alloc (Nat.le_refl _) _), ?_⟩
  clear hK
  refine draw_eff (i := 16) rfl (by kernel_rfl) (listed' := #[true, true, true, true, true, true, true, true, true, true, true, true, true, true, true, true, true]) rfl (fun K hK => ?_)
  replace hK := Lib.hid hK
  go_wp2_with fail
  refine hK.out _ _ ⟨fun h => absurd (by decide) h, ?_⟩
  clear hK
  refine draw_done (by kernel_rfl) ?_ _
  have kU := (Ytgmdjhokcipajaa.Blk.new W 62 #[.int .u32 0, .int .i64 p, .int .u32 a1, .int .u32 s, .int .u16 m]).drew
  replace kR := (kR.alloc (.cells #[.int .u32 0, .int .i64 p, .int .u32 a1, .int .u32 s, .int .u16 m] 62)).drew
  have hb2 := Below.drew ((Below.refl W.heap.size W).alloc (Nat.le_refl _) (.cells #[.int .u32 0, .int .i64 p, .int .u32 a1, .int .u32 s, .int .u16 m] 62))
  replace hb := below_step hb hb2
  replace HCW := Lib.hid (Kd.C_below HCW.out hb2)
  have hne : w.heap.size ≠ W.heap.size := Nat.ne_of_lt (Ytgmdjhokcipajaa.Blk.lt (by first | exact kR0))
  clear hb2 K4 K2 x0W q1n q5n q5
  generalize (W.alloc (.cells #[.int .u32 0, .int .i64 p, .int .u32 a1, .int .u32 s, .int .u16 m] 62)).drew = V at *
  generalize W.heap.size = g at *
  have hlV := kU.lt
  have hlR := kR.lt
  have u0 := kU.cell 0
  have u1 := kU.cell 1
  have u2 := kU.cell 2
  have u3 := kU.cell 3
  have u4 := kU.cell 4
  have uf0 := kU.frozen 0
  have uf1 := kU.frozen 1
  have uf2 := kU.frozen 2
  have uf3 := kU.frozen 3
  have uf4 := kU.frozen 4
  simp only [List.getElem?_toArray, List.getElem?_cons_zero, List.getElem?_cons_succ] at u0 u1 u2 u3 u4
  have r0 := kR.cell 0
  have r1 := kR.cell 1
  have r2 := kR.cell 2
  have r3 := kR.cell 3
  have r4 := kR.cell 4
  have rf0 := kR.frozen 0
  have rf1 := kR.frozen 1
  have rf2 := kR.frozen 2
  have rf3 := kR.frozen 3
  have rf4 := kR.frozen 4
  simp only [List.getElem?_toArray, List.getElem?_cons_zero, List.getElem?_cons_succ] at r0 r1 r2 r3 r4
  go_wp2
  have kZ := ((((kR.set 0 (.int .u32 0)).set 1 (.int .i64 0)).set 2 (.int .u32 0)).set 3 (.int .u32 0)).set 4 (.int .u16 0)
  have hZ := ((((hb.setCell (p := ⟨w.heap.size, 0, none⟩) (Nat.le_refl _) (.int .u32 0)).setCell (p := ⟨w.heap.size, 1, none⟩) (Nat.le_refl _) (.int .i64 0)).setCell (p := ⟨w.heap.size, 2, none⟩) (Nat.le_refl _) (.int .u32 0)).setCell (p := ⟨w.heap.size, 3, none⟩) (Nat.le_refl _) (.int .u32 0)).setCell (p := ⟨w.heap.size, 4, none⟩) (Nat.le_refl _) (.int .u16 0)
  simp only [List.setIfInBounds_toArray, List.set_cons_zero, List.set_cons_succ] at kZ
  generalize ((((V.setCell ⟨w.heap.size, 0, none⟩ (.int .u32 0)).setCell ⟨w.heap.size, 1, none⟩ (.int .i64 0)).setCell ⟨w.heap.size, 2, none⟩ (.int .u32 0)).setCell ⟨w.heap.size, 3, none⟩ (.int .u32 0)).setCell ⟨w.heap.size, 4, none⟩ (.int .u16 0) = Z at *
  have z0 := kZ.cell 0
  have z1 := kZ.cell 1
  have z2 := kZ.cell 2
  have z3 := kZ.cell 3
  have z4 := kZ.cell 4
  have zf0 := kZ.frozen 0
  have zf1 := kZ.frozen 1
  have zf2 := kZ.frozen 2
  have zf3 := kZ.frozen 3
  have zf4 := kZ.frozen 4
  simp only [List.getElem?_toArray, List.getElem?_cons_zero, List.getElem?_cons_succ] at z0 z1 z2 z3 z4
  exact bodyPost_ret (v := .tuple #[.agg #[.int .u32 0, .int .i64 0, .int .u32 0, .int .u32 0, .int .u16 0], .bool false]) (by simp [results, Try.results56, go_sem, z0, z1, z2, z3, z4]) rfl ⟨rfl, hZ⟩

set_option maxHeartbeats 2000000 in
theorem tlv_one.off (A0 : Option Addr) (c0 : Nat) (l0 : List Int) (a1 : Int) (w : World) (hr0 : Kd.C (Kd.int .u8) w A0 l0.length l0) (hc0 : l0.length ≤ c0) (hl : 7 ≤ l0.length) (hb8 : Ytgmdjhokcipajaa.Byte l0) (ha0 : 0 ≤ a1) (ha1 : a1 ≤ 4294967295) (hp : rd l0 0 ≤ 32) (hz : (l0.length : Int) ≠ 7 + Ytgmdjhokcipajaa.szB (rd l0 0)) :
    Calls Try.prog 56 #[.slice A0 l0.length c0, .int .u32 a1] w fun e w' => e = .returned (.tuple #[.agg #[.int .u32 0, .int .i64 0, .int .u32 0, .int .u32 0, .int .u16 0], .bool false]) ∧ Below w.heap.size w w' := by
  have h7 : decide (l0.length < 7) = false := decide_eq_false (by omega)
  have h7i : decide ((l0.length : Int) < 7) = false := decide_eq_false (by omega)
  obtain ⟨ad, e, x0⟩ := Kd.at_int hr0 0 (by omega) (by omega)
  subst e
  have K4 : ∀ W, Kd.C (Kd.int .u8) W (some ad) l0.length l0 → Hid (Calls Try.prog 55 #[.slice (some { block := ad.block, off := ad.off + 1 }) 4 (c0 - 1)] W fun e w' => e = .returned (.int .u32 (Ytgmdjhokcipajaa.valB ((l0.drop 1).take 4))) ∧ w' = W) := fun W h => Lib.hid (Ytgmdjhokcipajaa.get_mid c0 ad l0 1 4 (by omega) hc0 (by omega) (by omega) hb8 W h)
  have K2 : ∀ W, Kd.C (Kd.int .u8) W (some ad) l0.length l0 → Hid (Calls Try.prog 55 #[.slice (some { block := ad.block, off := ad.off + 5 }) 2 (c0 - 5)] W fun e w' => e = .returned (.int .u32 (Ytgmdjhokcipajaa.valB ((l0.drop 5).take 2))) ∧ w' = W) := fun W h => Lib.hid (Ytgmdjhokcipajaa.get_mid c0 ad l0 5 2 (by omega) hc0 (by omega) (by omega) hb8 W h)
  have hlm := hr0.2.1
  obtain ⟨p0, p1⟩ := hb8 l0[0] (List.getElem_mem (by omega))
  rw [← Ytgmdjhokcipajaa.rd_get l0 0 (by omega)] at p0 p1
  obtain ⟨s0, s1⟩ := Ytgmdjhokcipajaa.valB_bd4 ((l0.drop 1).take 4) ((hb8.drop 1).take 4) (by simp; omega)
  obtain ⟨m0, m1⟩ := Ytgmdjhokcipajaa.valB_bd2 ((l0.drop 5).take 2) ((hb8.drop 5).take 2) (by simp; omega)
  replace x0 : w.cell? ad = some (.int .u8 (rd l0 0)) := x0
  have q0 : 0 < l0.length := by omega
  have q5 : (5 : Int) ≤ c0 := by omega
  have q7 : (7 : Int) ≤ c0 := by omega
  have q1n : ¬ c0 = 1 := by omega
  have q5n : ¬ c0 = 5 := by omega
  replace p0 : 0 ≤ rd l0 0 := p0
  replace p1 : rd l0 0 ≤ 255 := p1
  have KS := fun W => Ytgmdjhokcipajaa.tlv_size_x (rd l0 0) W p0 p1
  obtain ⟨z0, z1⟩ := Ytgmdjhokcipajaa.szB_bd (rd l0 0) p0 hp
  generalize Ytgmdjhokcipajaa.szB (rd l0 0) = z at *
  have hzd : ((l0.length : Int) == 7 + z) = false := beq_eq_false_iff_ne.2 hz
  have hzn : ((l0.length : Int) != 7 + z) = true := bne_iff_ne.2 hz
  clear hz
  have hpd : decide (32 < rd l0 0) = false := decide_eq_false (by omega)
  generalize Ytgmdjhokcipajaa.valB ((l0.drop 1).take 4) = s at *
  generalize Ytgmdjhokcipajaa.valB ((l0.drop 5).take 2) = m at *
  generalize rd l0 0 = p at *
  have HC := Lib.hid hr0
  have HB8 := Lib.hid hb8
  clear hr0 hb8
  have hb := (Below.refl w.heap.size w).alloc (Nat.le_refl _) (.cells #[.int .u32 0, .int .i64 0, .int .u32 0, .int .u32 0, .int .u16 0] 62)
  have kR := Ytgmdjhokcipajaa.Blk.new w 62 #[.int .u32 0, .int .i64 0, .int .u32 0, .int .u32 0, .int .u16 0]
  have kR0 := kR
  go_enter Try.func56, Try.ntmps56
  go_wp2_with fail
  have HCW := Lib.hid (Kd.C_below HC.out hb)
  have x0W := pw_cell_below hb x0
  clear HC x0
  have hge := hb.size
  generalize w.alloc (.cells #[.int .u32 0, .int .i64 0, .int .u32 0, .int .u32 0, .int .u16 0] 62) = W at *
  refine draw_start [16] Later (by kernel_rfl) ?_
  refine draw_chunk (n := 57) (by kernel_rfl) (fun _ _ _ _ _ h => h) [0, 1, 2, 3, 4, 5, 6, 7, 8, 9, 10, 11, 12, 13, 14] [] _ #[true, true, true, true, true, true, true, true, true, true, true, true, true, true, true, false, false] (by kernel_rfl) 2 _ ?_ _ rfl ?_ ?_
  rotate_left
  · intro w' hw'
    have hc' : ∀ b o, b < W.heap.size → w'.cell? ⟨b, o, none⟩ = W.cell? ⟨b, o, none⟩ := (bcell hw').1
    have hb' := undrew hw'; have x0' := pw_cell_below hb' x0W; have k8 := (K4 w' (Kd.C_below HCW.out hb')).out; have k11 := (K2 w' (Kd.C_below HCW.out hb')).out
    refine ci_step (i := 0) (v := ?_) rfl (by kernel_rfl) ?_ ?_
    rotate_left
    · first | (go_simp; done) | (go_simp; with_reducible rfl)
    skip
    try simp only [Act.put, List.setIfInBounds_toArray, List.set_cons_zero, List.set_cons_succ]
    refine ci_step (i := 1) (v := ?_) rfl (by kernel_rfl) ?_ ?_
    rotate_left
    · first | (go_simp; done) | (go_simp; with_reducible rfl)
    skip
    try simp only [Act.put, List.setIfInBounds_toArray, List.set_cons_zero, List.set_cons_succ]
    refine ci_step (i := 2) (v := ?_) rfl (by kernel_rfl) ?_ ?_
    rotate_left
    · first | (go_simp; done) | (go_simp; with_reducible rfl)
    skip
    try simp only [Act.put, List.setIfInBounds_toArray, List.set_cons_zero, List.set_cons_succ]
    refine ci_step (i := 3) (v := ?_) rfl (by kernel_rfl) ?_ ?_
    rotate_left
    · first | (go_simp; done) | (go_simp; with_reducible rfl)
    skip
    try simp only [Act.put, List.setIfInBounds_toArray, List.set_cons_zero, List.set_cons_succ]
    refine ci_step (i := 4) (v := ?_) rfl (by kernel_rfl) ?_ ?_
    rotate_left
    · first | (go_simp; done) | (go_simp; with_reducible rfl)
    skip
    try simp only [Act.put, List.setIfInBounds_toArray, List.set_cons_zero, List.set_cons_succ]
    refine ci_step (i := 5) (v := ?_) rfl (by kernel_rfl) ?_ ?_
    rotate_left
    · first | (go_simp; done) | (go_simp; with_reducible rfl)
    skip
    try simp only [Act.put, List.setIfInBounds_toArray, List.set_cons_zero, List.set_cons_succ]
    refine ci_step (i := 6) (v := ?_) rfl (by kernel_rfl) ?_ ?_
    rotate_left
    · first | (go_simp; done) | (go_simp; with_reducible rfl)
    skip
    try simp only [Act.put, List.setIfInBounds_toArray, List.set_cons_zero, List.set_cons_succ]
    refine ci_step (i := 7) (v := ?_) rfl (by kernel_rfl) ?_ ?_
    rotate_left
    · first | (go_simp; done) | (go_simp; with_reducible rfl)
    skip
    try simp only [Act.put, List.setIfInBounds_toArray, List.set_cons_zero, List.set_cons_succ]
    refine ci_call (i := 8) rfl (by kernel_rfl) ?_ k8 ?_
    · first | (go_simp; done) | (go_simp; with_reducible rfl)
    try simp only [Act.put, List.setIfInBounds_toArray, List.set_cons_zero, List.set_cons_succ]
    refine ci_step (i := 9) (v := ?_) rfl (by kernel_rfl) ?_ ?_
    rotate_left
    · first | (go_simp; done) | (go_simp; with_reducible rfl)
    skip
    try simp only [Act.put, List.setIfInBounds_toArray, List.set_cons_zero, List.set_cons_succ]
    refine ci_step (i := 10) (v := ?_) rfl (by kernel_rfl) ?_ ?_
    rotate_left
    · first | (go_simp; done) | (go_simp; with_reducible rfl)
    skip
    try simp only [Act.put, List.setIfInBounds_toArray, List.set_cons_zero, List.set_cons_succ]
    refine ci_call (i := 11) rfl (by kernel_rfl) ?_ k11 ?_
    · first | (go_simp; done) | (go_simp; with_reducible rfl)
    try simp only [Act.put, List.setIfInBounds_toArray, List.set_cons_zero, List.set_cons_succ]
    refine ci_step (i := 12) (v := ?_) rfl (by kernel_rfl) ?_ ?_
    rotate_left
    · first | (go_simp; done) | (go_simp; with_reducible rfl)
    skip
    try simp only [Act.put, List.setIfInBounds_toArray, List.set_cons_zero, List.set_cons_succ]
    refine ci_step (i := 13) (v := ?_) rfl (by kernel_rfl) ?_ ?_
    rotate_left
    · first | (go_simp; done) | (go_simp; with_reducible rfl)
    skip
    try simp only [Act.put, List.setIfInBounds_toArray, List.set_cons_zero, List.set_cons_succ]
    refine ci_step (i := 14) (v := ?_) rfl (by kernel_rfl) ?_ ?_
    rotate_left
    · first | (go_simp; done) | (go_simp; with_reducible rfl)
    skip
    try simp only [Act.put, List.setIfInBounds_toArray, List.set_cons_zero, List.set_cons_succ]
    refine ci_end ?_
    rfl
  refine draw_eff (i := 15) rfl (by kernel_rfl) (listed' := #[true, true, true, true, true, true, true, true, true, true, true, true, true, true, true, true, false]) rfl (fun K hK => ?_)
  replace hK := Lib.hid hK
  go_wp2_with fail
  refine hK.out _ _ ⟨fun _ => below_dd ((Below.refl _ W).alloc (Nat.le_refl _) _), ?_⟩
  clear hK
  refine draw_eff (i := 16) rfl (by kernel_rfl) (listed' := #[true, true, true, true, true, true, true, true, true, true, true, true, true, true, true, true, true]) rfl (fun K hK => ?_)
  replace hK := Lib.hid hK
  go_wp2_with fail
  refine hK.out _ _ ⟨fun h => absurd (by decide) h, ?_⟩
  clear hK
  refine draw_done (by kernel_rfl) ?_ _
  have kU := (Ytgmdjhokcipajaa.Blk.new W 62 #[.int .u32 0, .int .i64 p, .int .u32 a1, .int .u32 s, .int .u16 m]).drew
  replace kR := (kR.alloc (.cells #[.int .u32 0, .int .i64 p, .int .u32 a1, .int .u32 s, .int .u16 m] 62)).drew
  have hb2 := Below.drew ((Below.refl W.heap.size W).alloc (Nat.le_refl _) (.cells #[.int .u32 0, .int .i64 p, .int .u32 a1, .int .u32 s, .int .u16 m] 62))
  replace hb := below_step hb hb2
  replace HCW := Lib.hid (Kd.C_below HCW.out hb2)
  have hne : w.heap.size ≠ W.heap.size := Nat.ne_of_lt (Ytgmdjhokcipajaa.Blk.lt (by first | exact kR0))
  clear hb2 K4 K2 x0W q1n q5n q5
  generalize (W.alloc (.cells #[.int .u32 0, .int .i64 p, .int .u32 a1, .int .u32 s, .int .u16 m] 62)).drew = V at *
  generalize W.heap.size = g at *
  have hlV := kU.lt
  have hlR := kR.lt
  have u0 := kU.cell 0
  have u1 := kU.cell 1
  have u2 := kU.cell 2
  have u3 := kU.cell 3
  have u4 := kU.cell 4
  have uf0 := kU.frozen 0
  have uf1 := kU.frozen 1
  have uf2 := kU.frozen 2
  have uf3 := kU.frozen 3
  have uf4 := kU.frozen 4
  simp only [List.getElem?_toArray, List.getElem?_cons_zero, List.getElem?_cons_succ] at u0 u1 u2 u3 u4
  have r0 := kR.cell 0
  have r1 := kR.cell 1
  have r2 := kR.cell 2
  have r3 := kR.cell 3
  have r4 := kR.cell 4
  have rf0 := kR.frozen 0
  have rf1 := kR.frozen 1
  have rf2 := kR.frozen 2
  have rf3 := kR.frozen 3
  have rf4 := kR.frozen 4
  simp only [List.getElem?_toArray, List.getElem?_cons_zero, List.getElem?_cons_succ] at r0 r1 r2 r3 r4
  go_wp2_with fail
  refine (KS _).mono ?_
  rintro e w1 ⟨rfl, rfl⟩
  go_wp2
  have kZ := ((((kR.set 0 (.int .u32 0)).set 1 (.int .i64 0)).set 2 (.int .u32 0)).set 3 (.int .u32 0)).set 4 (.int .u16 0)
  have hZ := ((((hb.setCell (p := ⟨w.heap.size, 0, none⟩) (Nat.le_refl _) (.int .u32 0)).setCell (p := ⟨w.heap.size, 1, none⟩) (Nat.le_refl _) (.int .i64 0)).setCell (p := ⟨w.heap.size, 2, none⟩) (Nat.le_refl _) (.int .u32 0)).setCell (p := ⟨w.heap.size, 3, none⟩) (Nat.le_refl _) (.int .u32 0)).setCell (p := ⟨w.heap.size, 4, none⟩) (Nat.le_refl _) (.int .u16 0)
  simp only [List.setIfInBounds_toArray, List.set_cons_zero, List.set_cons_succ] at kZ
  generalize ((((V.setCell ⟨w.heap.size, 0, none⟩ (.int .u32 0)).setCell ⟨w.heap.size, 1, none⟩ (.int .i64 0)).setCell ⟨w.heap.size, 2, none⟩ (.int .u32 0)).setCell ⟨w.heap.size, 3, none⟩ (.int .u32 0)).setCell ⟨w.heap.size, 4, none⟩ (.int .u16 0) = Z at *
  have z0 := kZ.cell 0
  have z1 := kZ.cell 1
  have z2 := kZ.cell 2
  have z3 := kZ.cell 3
  have z4 := kZ.cell 4
  have zf0 := kZ.frozen 0
  have zf1 := kZ.frozen 1
  have zf2 := kZ.frozen 2
  have zf3 := kZ.frozen 3
  have zf4 := kZ.frozen 4
  simp only [List.getElem?_toArray, List.getElem?_cons_zero, List.getElem?_cons_succ] at z0 z1 z2 z3 z4
  exact bodyPost_ret (v := .tuple #[.agg #[.int .u32 0, .int .i64 0, .int .u32 0, .int .u32 0, .int .u16 0], .bool false]) (by simp [results, Try.results56, go_sem, z0, z1, z2, z3, z4]) rfl ⟨rfl, hZ⟩
set_option maxHeartbeats 2000000 in
theorem tlv_one.good (A0 : Option Addr) (c0 : Nat) (l0 : List Int) (a1 : Int) (w : World) (hr0 : Kd.C (Kd.int .u8) w A0 l0.length l0) (hc0 : l0.length ≤ c0) (hl : 7 ≤ l0.length) (hb8 : Ytgmdjhokcipajaa.Byte l0) (ha0 : 0 ≤ a1) (ha1 : a1 ≤ 4294967295) (hp : rd l0 0 ≤ 32) (hz : (l0.length : Int) = 7 + Ytgmdjhokcipajaa.szB (rd l0 0)) (idv : Int) (hidv : idv = if Ytgmdjhokcipajaa.valB ((l0.drop 5).take 2) = 65535 then 0 else a1) :
    Calls Try.prog 56 #[.slice A0 l0.length c0, .int .u32 a1] w fun e w' => e = .returned (.tuple #[.agg #[.int .u32 (Ytgmdjhokcipajaa.valB (Ytgmdjhokcipajaa.padB (l0.drop 7))), .int .i64 (rd l0 0), .int .u32 idv, .int .u32 (Ytgmdjhokcipajaa.valB ((l0.drop 1).take 4)), .int .u16 (Ytgmdjhokcipajaa.valB ((l0.drop 5).take 2))],
      .bool (Ytgmdjhokcipajaa.updB (Ytgmdjhokcipajaa.valB (Ytgmdjhokcipajaa.padB (l0.drop 7))) (rd l0 0) idv (Ytgmdjhokcipajaa.valB ((l0.drop 1).take 4)) (Ytgmdjhokcipajaa.valB ((l0.drop 5).take 2)))]) ∧ Below w.heap.size w w' := by
  have h7 : decide (l0.length < 7) = false := decide_eq_false (by omega)
  have h7i : decide ((l0.length : Int) < 7) = false := decide_eq_false (by omega)
  obtain ⟨ad, e, x0⟩ := Kd.at_int hr0 0 (by omega) (by omega)
  subst e
  have K4 : ∀ W, Kd.C (Kd.int .u8) W (some ad) l0.length l0 → Hid (Calls Try.prog 55 #[.slice (some { block := ad.block, off := ad.off + 1 }) 4 (c0 - 1)] W fun e w' => e = .returned (.int .u32 (Ytgmdjhokcipajaa.valB ((l0.drop 1).take 4))) ∧ w' = W) := fun W h => Lib.hid (Ytgmdjhokcipajaa.get_mid c0 ad l0 1 4 (by omega) hc0 (by omega) (by omega) hb8 W h)
  have K2 : ∀ W, Kd.C (Kd.int .u8) W (some ad) l0.length l0 → Hid (Calls Try.prog 55 #[.slice (some { block := ad.block, off := ad.off + 5 }) 2 (c0 - 5)] W fun e w' => e = .returned (.int .u32 (Ytgmdjhokcipajaa.valB ((l0.drop 5).take 2))) ∧ w' = W) := fun W h => Lib.hid (Ytgmdjhokcipajaa.get_mid c0 ad l0 5 2 (by omega) hc0 (by omega) (by omega) hb8 W h)
  have hlm := hr0.2.1
  obtain ⟨p0, p1⟩ := hb8 l0[0] (List.getElem_mem (by omega))
  rw [← Ytgmdjhokcipajaa.rd_get l0 0 (by omega)] at p0 p1
  obtain ⟨s0, s1⟩ := Ytgmdjhokcipajaa.valB_bd4 ((l0.drop 1).take 4) ((hb8.drop 1).take 4) (by simp; omega)
  obtain ⟨m0, m1⟩ := Ytgmdjhokcipajaa.valB_bd2 ((l0.drop 5).take 2) ((hb8.drop 5).take 2) (by simp; omega)
  replace x0 : w.cell? ad = some (.int .u8 (rd l0 0)) := x0
  have q0 : 0 < l0.length := by omega
  have q5 : (5 : Int) ≤ c0 := by omega
  have q7 : (7 : Int) ≤ c0 := by omega
  have q1n : ¬ c0 = 1 := by omega
  have q5n : ¬ c0 = 5 := by omega
  replace p0 : 0 ≤ rd l0 0 := p0
  replace p1 : rd l0 0 ≤ 255 := p1
  have KS := fun W => Ytgmdjhokcipajaa.tlv_size_x (rd l0 0) W p0 p1
  obtain ⟨z0, z1⟩ := Ytgmdjhokcipajaa.szB_bd (rd l0 0) p0 hp
  have hr4 : (l0.drop 7).length ≤ 4 := by rw [List.length_drop]; omega
  have KG := fun Y ga hY => Ytgmdjhokcipajaa.get_pad ga 89 (l0.drop 7) Y hY (hb8.drop 7)
  obtain ⟨av0, av1⟩ := Ytgmdjhokcipajaa.valB_bd4 (Ytgmdjhokcipajaa.padB (l0.drop 7)) (hb8.drop 7).pad (by rw [Ytgmdjhokcipajaa.padB_len]; omega)
  generalize Ytgmdjhokcipajaa.valB (Ytgmdjhokcipajaa.padB (l0.drop 7)) = av at *
  generalize Ytgmdjhokcipajaa.szB (rd l0 0) = z at *
  have hzd : ((l0.length : Int) == 7 + z) = true := beq_iff_eq.2 hz
  have hzn : ((l0.length : Int) != 7 + z) = false := bne_eq_false_iff_eq.2 hz
  have HZ := Lib.hid hz
  clear hz
  have hpd : decide (32 < rd l0 0) = false := decide_eq_false (by omega)
  generalize Ytgmdjhokcipajaa.valB ((l0.drop 1).take 4) = s at *
  generalize Ytgmdjhokcipajaa.valB ((l0.drop 5).take 2) = m at *
  generalize rd l0 0 = p at *
  have HC := Lib.hid hr0
  have HB8 := Lib.hid hb8
  clear hr0 hb8
  have hb := (Below.refl w.heap.size w).alloc (Nat.le_refl _) (.cells #[.int .u32 0, .int .i64 0, .int .u32 0, .int .u32 0, .int .u16 0] 62)
  have kR := Ytgmdjhokcipajaa.Blk.new w 62 #[.int .u32 0, .int .i64 0, .int .u32 0, .int .u32 0, .int .u16 0]
  have kR0 := kR
  go_enter Try.func56, Try.ntmps56
  go_wp2_with fail
  have HCW := Lib.hid (Kd.C_below HC.out hb)
  have x0W := pw_cell_below hb x0
  clear HC x0
  have hge := hb.size
  generalize w.alloc (.cells #[.int .u32 0, .int .i64 0, .int .u32 0, .int .u32 0, .int .u16 0] 62) = W at *
  refine draw_start [16] Later (by kernel_rfl) ?_
  refine draw_chunk (n := 57) (by kernel_rfl) (fun _ _ _ _ _ h => h) [0, 1, 2, 3, 4, 5, 6, 7, 8, 9, 10, 11, 12, 13, 14] [] _ #[true, true, true, true, true, true, true, true, true, true, true, true, true, true, true, false, false] (by kernel_rfl) 2 _ ?_ _ rfl ?_ ?_
  rotate_left
  · intro w' hw'
    have hc' : ∀ b o, b < W.heap.size → w'.cell? ⟨b, o, none⟩ = W.cell? ⟨b, o, none⟩ := (bcell hw').1
    have hb' := undrew hw'; have x0' := pw_cell_below hb' x0W; have k8 := (K4 w' (Kd.C_below HCW.out hb')).out; have k11 := (K2 w' (Kd.C_below HCW.out hb')).out
    refine ci_step (i := 0) (v := ?_) rfl (by kernel_rfl) ?_ ?_
    rotate_left
    · first | (go_simp; done) | (go_simp; with_reducible rfl)
    skip
    try simp only [Act.put, List.setIfInBounds_toArray, List.set_cons_zero, List.set_cons_succ]
    refine ci_step (i := 1) (v := ?_) rfl (by kernel_rfl) ?_ ?_
    rotate_left
    · first | (go_simp; done) | (go_simp; with_reducible rfl)
    skip
    try simp only [Act.put, List.setIfInBounds_toArray, List.set_cons_zero, List.set_cons_succ]
    refine ci_step (i := 2) (v := ?_) rfl (by kernel_rfl) ?_ ?_
    rotate_left
    · first | (go_simp; done) | (go_simp; with_reducible rfl)
    skip
    try simp only [Act.put, List.setIfInBounds_toArray, List.set_cons_zero, List.set_cons_succ]
    refine ci_step (i := 3) (v := ?_) rfl (by kernel_rfl) ?_ ?_
    rotate_left
    · first | (go_simp; done) | (go_simp; with_reducible rfl)
    skip
    try simp only [Act.put, List.setIfInBounds_toArray, List.set_cons_zero, List.set_cons_succ]
    refine ci_step (i := 4) (v := ?_) rfl (by kernel_rfl) ?_ ?_
    rotate_left
    · first | (go_simp; done) | (go_simp; with_reducible rfl)
    skip
    try simp only [Act.put, List.setIfInBounds_toArray, List.set_cons_zero, List.set_cons_succ]
    refine ci_step (i := 5) (v := ?_) rfl (by kernel_rfl) ?_ ?_
    rotate_left
    · first | (go_simp; done) | (go_simp; with_reducible rfl)
    skip
    try simp only [Act.put, List.setIfInBounds_toArray, List.set_cons_zero, List.set_cons_succ]
    refine ci_step (i := 6) (v := ?_) rfl (by kernel_rfl) ?_ ?_
    rotate_left
    · first | (go_simp; done) | (go_simp; with_reducible rfl)
    skip
    try simp only [Act.put, List.setIfInBounds_toArray, List.set_cons_zero, List.set_cons_succ]
    refine ci_step (i := 7) (v := ?_) rfl (by kernel_rfl) ?_ ?_
    rotate_left
    · first | (go_simp; done) | (go_simp; with_reducible rfl)
    skip
    try simp only [Act.put, List.setIfInBounds_toArray, List.set_cons_zero, List.set_cons_succ]
    refine ci_call (i := 8) rfl (by kernel_rfl) ?_ k8 ?_
    · first | (go_simp; done) | (go_simp; with_reducible rfl)
    try simp only [Act.put, List.setIfInBounds_toArray, List.set_cons_zero, List.set_cons_succ]
    refine ci_step (i := 9) (v := ?_) rfl (by kernel_rfl) ?_ ?_
    rotate_left
    · first | (go_simp; done) | (go_simp; with_reducible rfl)
    skip
    try simp only [Act.put, List.setIfInBounds_toArray, List.set_cons_zero, List.set_cons_succ]
    refine ci_step (i := 10) (v := ?_) rfl (by kernel_rfl) ?_ ?_
    rotate_left
    · first | (go_simp; done) | (go_simp; with_reducible rfl)
    skip
    try simp only [Act.put, List.setIfInBounds_toArray, List.set_cons_zero, List.set_cons_succ]
    refine ci_call (i := 11) rfl (by kernel_rfl) ?_ k11 ?_
    · first | (go_simp; done) | (go_simp; with_reducible rfl)
    try simp only [Act.put, List.setIfInBounds_toArray, List.set_cons_zero, List.set_cons_succ]
    refine ci_step (i := 12) (v := ?_) rfl (by kernel_rfl) ?_ ?_
    rotate_left
    · first | (go_simp; done) | (go_simp; with_reducible rfl)
    skip
    try simp only [Act.put, List.setIfInBounds_toArray, List.set_cons_zero, List.set_cons_succ]
    refine ci_step (i := 13) (v := ?_) rfl (by kernel_rfl) ?_ ?_
    rotate_left
    · first | (go_simp; done) | (go_simp; with_reducible rfl)
    skip
    try simp only [Act.put, List.setIfInBounds_toArray, List.set_cons_zero, List.set_cons_succ]
    refine ci_step (i := 14) (v := ?_) rfl (by kernel_rfl) ?_ ?_
    rotate_left
    · first | (go_simp; done) | (go_simp; with_reducible rfl)
    skip
    try simp only [Act.put, List.setIfInBounds_toArray, List.set_cons_zero, List.set_cons_succ]
    refine ci_end ?_
    rfl
  refine draw_eff (i := 15) rfl (by kernel_rfl) (listed' := #[true, true, true, true, true, true, true, true, true, true, true, true, true, true, true, true, false]) rfl (fun K hK => ?_)
  replace hK := Lib.hid hK
  go_wp2_with fail
  refine hK.out _ _ ⟨fun _ => below_dd ((Below.refl _ W).alloc (Nat.le_refl _) _), ?_⟩
  clear hK
  refine draw_eff (i := 16) rfl (by kernel_rfl) (listed' := #[true, true, true, true, true, true, true, true, true, true, true, true, true, true, true, true, true]) rfl (fun K hK => ?_)
  replace hK := Lib.hid hK
  go_wp2_with fail
  refine hK.out _ _ ⟨fun h => absurd (by decide) h, ?_⟩
  clear hK
  refine draw_done (by kernel_rfl) ?_ _
  have kU := (Ytgmdjhokcipajaa.Blk.new W 62 #[.int .u32 0, .int .i64 p, .int .u32 a1, .int .u32 s, .int .u16 m]).drew
  replace kR := (kR.alloc (.cells #[.int .u32 0, .int .i64 p, .int .u32 a1, .int .u32 s, .int .u16 m] 62)).drew
  have hb2 := Below.drew ((Below.refl W.heap.size W).alloc (Nat.le_refl _) (.cells #[.int .u32 0, .int .i64 p, .int .u32 a1, .int .u32 s, .int .u16 m] 62))
  replace hb := below_step hb hb2
  replace HCW := Lib.hid (Kd.C_below HCW.out hb2)
  have hne : w.heap.size ≠ W.heap.size := Nat.ne_of_lt (Ytgmdjhokcipajaa.Blk.lt (by first | exact kR0))
  clear hb2 K4 K2 x0W q1n q5n q5
  generalize (W.alloc (.cells #[.int .u32 0, .int .i64 p, .int .u32 a1, .int .u32 s, .int .u16 m] 62)).drew = V at *
  generalize W.heap.size = g at *
  have hlV := kU.lt
  have hlR := kR.lt
  have u0 := kU.cell 0
  have u1 := kU.cell 1
  have u2 := kU.cell 2
  have u3 := kU.cell 3
  have u4 := kU.cell 4
  have uf0 := kU.frozen 0
  have uf1 := kU.frozen 1
  have uf2 := kU.frozen 2
  have uf3 := kU.frozen 3
  have uf4 := kU.frozen 4
  simp only [List.getElem?_toArray, List.getElem?_cons_zero, List.getElem?_cons_succ] at u0 u1 u2 u3 u4
  have r0 := kR.cell 0
  have r1 := kR.cell 1
  have r2 := kR.cell 2
  have r3 := kR.cell 3
  have r4 := kR.cell 4
  have rf0 := kR.frozen 0
  have rf1 := kR.frozen 1
  have rf2 := kR.frozen 2
  have rf3 := kR.frozen 3
  have rf4 := kR.frozen 4
  simp only [List.getElem?_toArray, List.getElem?_cons_zero, List.getElem?_cons_succ] at r0 r1 r2 r3 r4
  go_wp2_with fail
  refine (KS _).mono ?_
  rintro e w1 ⟨rfl, rfl⟩
  go_wp2_with fail
  have kA := Ytgmdjhokcipajaa.Blk.new V 89 #[.int .u8 0, .int .u8 0, .int .u8 0, .int .u8 0]
  replace kR := kR.alloc (.cells #[.int .u8 0, .int .u8 0, .int .u8 0, .int .u8 0] 89)
  replace kU := kU.alloc (.cells #[.int .u8 0, .int .u8 0, .int .u8 0, .int .u8 0] 89)
  have hb2 := (Below.refl V.heap.size V).alloc (Nat.le_refl _) (.cells #[.int .u8 0, .int .u8 0, .int .u8 0, .int .u8 0] 89)
  replace hb := below_step hb hb2
  replace HCW := Lib.hid (Kd.C_below HCW.out hb2)
  clear hb2 r0 r1 r2 r3 r4 rf0 rf1 rf2 rf3 rf4 u0 u1 u2 u3 u4 uf0 uf1 uf2 uf3 uf4
  generalize V.alloc (.cells #[.int .u8 0, .int .u8 0, .int .u8 0, .int .u8 0] 89) = X at *
  generalize V.heap.size = ga at *
  have q7l : (7 : Int) ≤ l0.length := by omega
  refine draw_start [3] Later (by kernel_rfl) ?_
  refine draw_chunk (n := 57) (by kernel_rfl) (fun _ _ _ _ _ h => h) [0, 1, 2] [] _ #[true, true, true, false] (by kernel_rfl) 1 _ ?_ _ rfl ?_ ?_
  rotate_left
  · intro w' hw'
    have hc' : ∀ b o, b < X.heap.size → w'.cell? ⟨b, o, none⟩ = X.cell? ⟨b, o, none⟩ := (bcell hw').1
    refine ci_step (i := 0) (v := ?_) rfl (by kernel_rfl) ?_ ?_
    rotate_left
    · first | (go_simp; done) | (go_simp; with_reducible rfl)
    skip
    try simp only [Act.put, List.setIfInBounds_toArray, List.set_cons_zero, List.set_cons_succ]
    refine ci_step (i := 1) (v := ?_) rfl (by kernel_rfl) ?_ ?_
    rotate_left
    · first | (go_simp; done) | (go_simp; with_reducible rfl)
    skip
    try simp only [Act.put, List.setIfInBounds_toArray, List.set_cons_zero, List.set_cons_succ]
    refine ci_step (i := 2) (v := ?_) rfl (by kernel_rfl) ?_ ?_
    rotate_left
    · first | (go_simp; done) | (go_simp; with_reducible rfl)
    skip
    try simp only [Act.put, List.setIfInBounds_toArray, List.set_cons_zero, List.set_cons_succ]
    refine ci_end ?_
    rfl
  refine draw_eff (i := 3) rfl (by kernel_rfl) (listed' := #[true, true, true, true]) rfl (fun K hK => ?_)
  replace hK := Lib.hid hK
  refine wpList_copy_splice rfl _ _ _ _ rfl 5 Try.underlying22 (by kernel_rfl) (some ⟨ga, 0, none⟩) (if c0 = 7 then some ad else some { block := ad.block, off := ad.off + 7 }) 4 4 (l0.length - 7) (c0 - 7) rfl rfl ga 0 [.int .u8 0, .int .u8 0, .int .u8 0, .int .u8 0] 89 kA.drew (Ytgmdjhokcipajaa.u8s (l0.drop 7)) ?hn ?hpos ?hfit ?h1 ga X.drew (Below.refl _ _) (Nat.le_refl _) ?_
  case hn => rw [Ytgmdjhokcipajaa.u8s_len, List.length_drop]; rw [List.length_drop] at hr4; exact (Nat.min_eq_left hr4).symm
  case hfit => rw [Ytgmdjhokcipajaa.u8s_len]; simpa using hr4
  case h1 => intro v hv; simp only [Ytgmdjhokcipajaa.u8s, List.mem_map] at hv; obtain ⟨x, -, rfl⟩ := hv; rfl
  case hpos =>
    intro hpos
    rw [Ytgmdjhokcipajaa.u8s_len, List.length_drop] at hpos
    refine ⟨rfl, { block := ad.block, off := ad.off + 7 }, by rw [if_neg (by omega)], fun j v hv => ?_⟩
    exact Ytgmdjhokcipajaa.C_cells HCW.out 7 (by omega) (by decide) j v hv
  intro Y hY hbY
  replace hY := hY.out
  rw [Ytgmdjhokcipajaa.pad_splice _ hr4] at hY
  generalize (if c0 = 7 then some ad else some { block := ad.block, off := ad.off + 7 }) = A7
  unfold wpList
  refine hK.out _ _ ⟨fun h => absurd (by decide) h, ?_⟩
  clear hK
  refine draw_done (by kernel_rfl) ?_ _
  have hga : w.heap.size ≤ ga := by omega
  replace hb := (below_drew hb).trans (hbY.mono hga)
  replace kR := kR.drew.below hbY (by omega)
  replace kU := kU.drew.below hbY (by omega)
  have kG := KG Y ga hY
  have hlY := Ytgmdjhokcipajaa.lt_of_heap hY
  have hlgR : w.heap.size < g := by omega
  clear hbY hY kA HCW
  go_wp2_with fail
  refine kG.mono ?_
  rintro e w1 ⟨rfl, rfl⟩
  clear kG
  have u0 := kU.cell 0
  have u1 := kU.cell 1
  have u2 := kU.cell 2
  have u3 := kU.cell 3
  have u4 := kU.cell 4
  have uf0 := kU.frozen 0
  have uf1 := kU.frozen 1
  have uf2 := kU.frozen 2
  have uf3 := kU.frozen 3
  have uf4 := kU.frozen 4
  simp only [List.getElem?_toArray, List.getElem?_cons_zero, List.getElem?_cons_succ] at u0 u1 u2 u3 u4
  go_wp2_with fail
  replace kU := kU.set 0 (.int .u32 av)
  replace kR := kR.other (a := ⟨g, 0, none⟩) (by show w.heap.size ≠ g; omega) (.int .u32 av)
  replace hb := hb.setCell (p := ⟨g, 0, none⟩) (Nat.le_of_lt hlgR) (.int .u32 av)
  simp only [List.setIfInBounds_toArray, List.set_cons_zero] at kU
  clear u0 u1 u2 u3 u4 uf0 uf1 uf2 uf3 uf4
  generalize Y.setCell ⟨g, 0, none⟩ (.int .u32 av) = Y1 at *
  refine (dist_Dist_Lost.calls s m _ _ rfl).mono ?_
  rintro e Z ⟨rfl, hb9⟩
  replace hb := below_step hb hb9
  replace kR := kR.below' hb9
  replace kU := kU.below' hb9
  clear hb9 Y1
  have hlU := kU.lt
  by_cases hm : m = 65535
  · have hmd : (m == 65535) = true := beq_iff_eq.2 hm
    rw [if_pos hm] at hidv
    subst hidv
    clear hm
    have u0 := kU.cell 0
    have u1 := kU.cell 1
    have u2 := kU.cell 2
    have u3 := kU.cell 3
    have u4 := kU.cell 4
    have uf0 := kU.frozen 0
    have uf1 := kU.frozen 1
    have uf2 := kU.frozen 2
    have uf3 := kU.frozen 3
    have uf4 := kU.frozen 4
    simp only [List.getElem?_toArray, List.getElem?_cons_zero, List.getElem?_cons_succ] at u0 u1 u2 u3 u4
    go_wp2_with fail
    replace kU := kU.set 2 (.int .u32 0)
    replace kR := kR.other (a := ⟨g, 2, none⟩) (by show w.heap.size ≠ g; omega) (.int .u32 0)
    replace hb := hb.setCell (p := ⟨g, 2, none⟩) (Nat.le_of_lt hlgR) (.int .u32 0)
    simp only [List.setIfInBounds_toArray, List.set_cons_zero, List.set_cons_succ] at kU
    clear u0 u1 u2 u3 u4 uf0 uf1 uf2 uf3 uf4 hlU
    generalize Z.setCell ⟨g, 2, none⟩ (.int .u32 0) = Z at *
    have hlU := kU.lt
    have u0 := kU.cell 0
    have u1 := kU.cell 1
    have u2 := kU.cell 2
    have u3 := kU.cell 3
    have u4 := kU.cell 4
    have uf0 := kU.frozen 0
    have uf1 := kU.frozen 1
    have uf2 := kU.frozen 2
    have uf3 := kU.frozen 3
    have uf4 := kU.frozen 4
    simp only [List.getElem?_toArray, List.getElem?_cons_zero, List.getElem?_cons_succ] at u0 u1 u2 u3 u4
    go_wp2_with fail
    refine draw_start [3] Later (by kernel_rfl) ?_
    refine draw_chunk (n := 57) (by kernel_rfl) (fun _ _ _ _ _ h => h) [0, 1] [] _ #[true, true, false, false, false] (by kernel_rfl) 3 _ ?_ _ rfl ?_ ?_
    rotate_left
    · intro w' hw'
      have hc' : ∀ b o, b < Z.heap.size → w'.cell? ⟨b, o, none⟩ = Z.cell? ⟨b, o, none⟩ := (bcell hw').1
      have e0 := (hc' _ 0 hlU).trans u0; have e1 := (hc' _ 1 hlU).trans u1; have e2 := (hc' _ 2 hlU).trans u2; have e3 := (hc' _ 3 hlU).trans u3; have e4 := (hc' _ 4 hlU).trans u4
      refine ci_step (i := 0) (v := ?_) rfl (by kernel_rfl) ?_ ?_
      rotate_left
      · first | (go_simp; done) | (go_simp; with_reducible rfl)
      skip
      try simp only [Act.put, List.setIfInBounds_toArray, List.set_cons_zero, List.set_cons_succ]
      refine ci_step (i := 1) (v := ?_) rfl (by kernel_rfl) ?_ ?_
      rotate_left
      · first | (go_simp; done) | (go_simp; with_reducible rfl)
      skip
      try simp only [Act.put, List.setIfInBounds_toArray, List.set_cons_zero, List.set_cons_succ]
      refine ci_end ?_
      rfl
    refine draw_eff (i := 2) rfl (by kernel_rfl) (listed' := #[true, true, true, false, false]) rfl (fun K hK => ?_)
    replace hK := Lib.hid hK
    go_wp2_with fail
    refine (tlv_Update_Right.calls av p 0 s m _ _ (tlv_Update_Right.nice av p 0 s m ⟨av0, av1⟩)).mono ?_
    rintro e Z1 ⟨rfl, hb4⟩
    replace hb := below_step (below_drew hb) hb4
    replace kR := kR.drew.below' hb4
    clear u0 u1 u2 u3 u4 uf0 uf1 uf2 uf3 uf4
    go_wp2_with fail
    refine hK.out _ _ ⟨fun _ => below_two (Below.refl _ _) hb4 hb4.size, ?_⟩
    clear hK
    have r0 := kR.cell 0
    have r1 := kR.cell 1
    have r2 := kR.cell 2
    have r3 := kR.cell 3
    have r4 := kR.cell 4
    have rf0 := kR.frozen 0
    have rf1 := kR.frozen 1
    have rf2 := kR.frozen 2
    have rf3 := kR.frozen 3
    have rf4 := kR.frozen 4
    simp only [List.getElem?_toArray, List.getElem?_cons_zero, List.getElem?_cons_succ] at r0 r1 r2 r3 r4
    refine draw_eff (i := 3) rfl (by kernel_rfl) (listed' := #[true, true, true, true, false]) rfl (fun K hK => ?_)
    replace hK := Lib.hid hK
    go_wp2_with fail
    refine hK.out _ _ ⟨fun h => absurd (by decide) h, ?_⟩
    clear hK
    refine draw_chunk (n := 57) (by kernel_rfl) (fun _ _ _ _ _ h => h) [4] [] _ #[true, true, true, true, true] (by kernel_rfl) 0 _ ?_ _ rfl ?_ ?_
    rotate_left
    · intro w' hw'
      have hc' : ∀ b o, b < (_ : World).heap.size → w'.cell? ⟨b, o, none⟩ = (_ : World).cell? ⟨b, o, none⟩ := (bcell hw').1
      refine ci_step (i := 4) (v := ?_) rfl (by kernel_rfl) ?_ ?_
      rotate_left
      · first | (go_simp; done) | (go_simp; with_reducible rfl)
      skip
      try simp only [Act.put, List.setIfInBounds_toArray, List.set_cons_zero, List.set_cons_succ]
      refine ci_end ?_
      rfl
    refine draw_done (by kernel_rfl) ?_ _
    have kZ := ((((kR.set 0 (.int .u32 av)).set 1 (.int .i64 p)).set 2 (.int .u32 0)).set 3 (.int .u32 s)).set 4 (.int .u16 m)
    have hZ := ((((hb.setCell (p := ⟨w.heap.size, 0, none⟩) (Nat.le_refl _) (.int .u32 av)).setCell (p := ⟨w.heap.size, 1, none⟩) (Nat.le_refl _) (.int .i64 p)).setCell (p := ⟨w.heap.size, 2, none⟩) (Nat.le_refl _) (.int .u32 0)).setCell (p := ⟨w.heap.size, 3, none⟩) (Nat.le_refl _) (.int .u32 s)).setCell (p := ⟨w.heap.size, 4, none⟩) (Nat.le_refl _) (.int .u16 m)
    simp only [List.setIfInBounds_toArray, List.set_cons_zero, List.set_cons_succ] at kZ
    clear r0 r1 r2 r3 r4 rf0 rf1 rf2 rf3 rf4
    generalize ((((Z1.setCell ⟨w.heap.size, 0, none⟩ (.int .u32 av)).setCell ⟨w.heap.size, 1, none⟩ (.int .i64 p)).setCell ⟨w.heap.size, 2, none⟩ (.int .u32 0)).setCell ⟨w.heap.size, 3, none⟩ (.int .u32 s)).setCell ⟨w.heap.size, 4, none⟩ (.int .u16 m) = Z2 at *
    have z0 := kZ.cell 0
    have z1 := kZ.cell 1
    have z2 := kZ.cell 2
    have z3 := kZ.cell 3
    have z4 := kZ.cell 4
    have zf0 := kZ.frozen 0
    have zf1 := kZ.frozen 1
    have zf2 := kZ.frozen 2
    have zf3 := kZ.frozen 3
    have zf4 := kZ.frozen 4
    simp only [List.getElem?_toArray, List.getElem?_cons_zero, List.getElem?_cons_succ] at z0 z1 z2 z3 z4
    go_wp2
    exact bodyPost_ret (v := .tuple #[.agg #[.int .u32 av, .int .i64 p, .int .u32 0, .int .u32 s, .int .u16 m], .bool (Ytgmdjhokcipajaa.updB av p 0 s m)]) (by simp [results, Try.results56, go_sem, z0, z1, z2, z3, z4]) rfl ⟨rfl, hZ⟩
  · have hmd : (m == 65535) = false := beq_eq_false_iff_ne.2 hm
    rw [if_neg hm] at hidv
    subst hidv
    clear hm
    have u0 := kU.cell 0
    have u1 := kU.cell 1
    have u2 := kU.cell 2
    have u3 := kU.cell 3
    have u4 := kU.cell 4
    have uf0 := kU.frozen 0
    have uf1 := kU.frozen 1
    have uf2 := kU.frozen 2
    have uf3 := kU.frozen 3
    have uf4 := kU.frozen 4
    simp only [List.getElem?_toArray, List.getElem?_cons_zero, List.getElem?_cons_succ] at u0 u1 u2 u3 u4
    go_wp2_with fail
    refine draw_start [3] Later (by kernel_rfl) ?_
    refine draw_chunk (n := 57) (by kernel_rfl) (fun _ _ _ _ _ h => h) [0, 1] [] _ #[true, true, false, false, false] (by kernel_rfl) 3 _ ?_ _ rfl ?_ ?_
    rotate_left
    · intro w' hw'
      have hc' : ∀ b o, b < Z.heap.size → w'.cell? ⟨b, o, none⟩ = Z.cell? ⟨b, o, none⟩ := (bcell hw').1
      have e0 := (hc' _ 0 hlU).trans u0; have e1 := (hc' _ 1 hlU).trans u1; have e2 := (hc' _ 2 hlU).trans u2; have e3 := (hc' _ 3 hlU).trans u3; have e4 := (hc' _ 4 hlU).trans u4
      refine ci_step (i := 0) (v := ?_) rfl (by kernel_rfl) ?_ ?_
      rotate_left
      · first | (go_simp; done) | (go_simp; with_reducible rfl)
      skip
      try simp only [Act.put, List.setIfInBounds_toArray, List.set_cons_zero, List.set_cons_succ]
      refine ci_step (i := 1) (v := ?_) rfl (by kernel_rfl) ?_ ?_
      rotate_left
      · first | (go_simp; done) | (go_simp; with_reducible rfl)
      skip
      try simp only [Act.put, List.setIfInBounds_toArray, List.set_cons_zero, List.set_cons_succ]
      refine ci_end ?_
      rfl
    refine draw_eff (i := 2) rfl (by kernel_rfl) (listed' := #[true, true, true, false, false]) rfl (fun K hK => ?_)
    replace hK := Lib.hid hK
    go_wp2_with fail
    refine (tlv_Update_Right.calls av p idv s m _ _ (tlv_Update_Right.nice av p idv s m ⟨av0, av1⟩)).mono ?_
    rintro e Z1 ⟨rfl, hb4⟩
    replace hb := below_step (below_drew hb) hb4
    replace kR := kR.drew.below' hb4
    clear u0 u1 u2 u3 u4 uf0 uf1 uf2 uf3 uf4
    go_wp2_with fail
    refine hK.out _ _ ⟨fun _ => below_two (Below.refl _ _) hb4 hb4.size, ?_⟩
    clear hK
    have r0 := kR.cell 0
    have r1 := kR.cell 1
    have r2 := kR.cell 2
    have r3 := kR.cell 3
    have r4 := kR.cell 4
    have rf0 := kR.frozen 0
    have rf1 := kR.frozen 1
    have rf2 := kR.frozen 2
    have rf3 := kR.frozen 3
    have rf4 := kR.frozen 4
    simp only [List.getElem?_toArray, List.getElem?_cons_zero, List.getElem?_cons_succ] at r0 r1 r2 r3 r4
    refine draw_eff (i := 3) rfl (by kernel_rfl) (listed' := #[true, true, true, true, false]) rfl (fun K hK => ?_)
    replace hK := Lib.hid hK
    go_wp2_with fail
    refine hK.out _ _ ⟨fun h => absurd (by decide) h, ?_⟩
    clear hK
    refine draw_chunk (n := 57) (by kernel_rfl) (fun _ _ _ _ _ h => h) [4] [] _ #[true, true, true, true, true] (by kernel_rfl) 0 _ ?_ _ rfl ?_ ?_
    rotate_left
    · intro w' hw'
      have hc' : ∀ b o, b < (_ : World).heap.size → w'.cell? ⟨b, o, none⟩ = (_ : World).cell? ⟨b, o, none⟩ := (bcell hw').1
      refine ci_step (i := 4) (v := ?_) rfl (by kernel_rfl) ?_ ?_
      rotate_left
      · first | (go_simp; done) | (go_simp; with_reducible rfl)
      skip
      try simp only [Act.put, List.setIfInBounds_toArray, List.set_cons_zero, List.set_cons_succ]
      refine ci_end ?_
      rfl
    refine draw_done (by kernel_rfl) ?_ _
    have kZ := ((((kR.set 0 (.int .u32 av)).set 1 (.int .i64 p)).set 2 (.int .u32 idv)).set 3 (.int .u32 s)).set 4 (.int .u16 m)
    have hZ := ((((hb.setCell (p := ⟨w.heap.size, 0, none⟩) (Nat.le_refl _) (.int .u32 av)).setCell (p := ⟨w.heap.size, 1, none⟩) (Nat.le_refl _) (.int .i64 p)).setCell (p := ⟨w.heap.size, 2, none⟩) (Nat.le_refl _) (.int .u32 idv)).setCell (p := ⟨w.heap.size, 3, none⟩) (Nat.le_refl _) (.int .u32 s)).setCell (p := ⟨w.heap.size, 4, none⟩) (Nat.le_refl _) (.int .u16 m)
    simp only [List.setIfInBounds_toArray, List.set_cons_zero, List.set_cons_succ] at kZ
    clear r0 r1 r2 r3 r4 rf0 rf1 rf2 rf3 rf4
    generalize ((((Z1.setCell ⟨w.heap.size, 0, none⟩ (.int .u32 av)).setCell ⟨w.heap.size, 1, none⟩ (.int .i64 p)).setCell ⟨w.heap.size, 2, none⟩ (.int .u32 idv)).setCell ⟨w.heap.size, 3, none⟩ (.int .u32 s)).setCell ⟨w.heap.size, 4, none⟩ (.int .u16 m) = Z2 at *
    have z0 := kZ.cell 0
    have z1 := kZ.cell 1
    have z2 := kZ.cell 2
    have z3 := kZ.cell 3
    have z4 := kZ.cell 4
    have zf0 := kZ.frozen 0
    have zf1 := kZ.frozen 1
    have zf2 := kZ.frozen 2
    have zf3 := kZ.frozen 3
    have zf4 := kZ.frozen 4
    simp only [List.getElem?_toArray, List.getElem?_cons_zero, List.getElem?_cons_succ] at z0 z1 z2 z3 z4
    go_wp2
    exact bodyPost_ret (v := .tuple #[.agg #[.int .u32 av, .int .i64 p, .int .u32 idv, .int .u32 s, .int .u16 m], .bool (Ytgmdjhokcipajaa.updB av p idv s m)]) (by simp [results, Try.results56, go_sem, z0, z1, z2, z3, z4]) rfl ⟨rfl, hZ⟩
theorem tlv_one.calls (A0 : Option Addr) (c0 : Nat) (l0 : List Int) (a1 : Int) (r1 r2 r3 r4 r5 : Int) (r6 : Bool) (w : World) (hr0 : Kd.C (Kd.int .u8) w A0 l0.length l0) (hc0 : l0.length ≤ c0) (h : tlv_one.f l0 a1 = some (r1, r2, r3, r4, r5, r6)) :
    Calls Try.prog 56 #[.slice A0 l0.length c0, .int .u32 a1] w fun e w' => e = .returned (.tuple #[.agg #[.int .u32 r1, .int .i64 r2, .int .u32 r3, .int .u32 r4, .int .u16 r5], .bool r6]) ∧ Below w.heap.size w w' := by
  unfold tlv_one.f at h
  split at h
  case isFalse => cases h
  rename_i hc
  obtain ⟨hb, ha0, ha1, hm⟩ := hc
  rw [Ytgmdjhokcipajaa.byteB_iff] at hb
  have h := Option.some.inj h
  unfold Ytgmdjhokcipajaa.oneM at h
  split at h
  · rename_i h7
    cases h
    exact tlv_one.short _ _ _ _ _ h7
  rename_i h7
  have e0 : l0.getD 0 0 = rd l0 0 := rfl
  rw [e0] at h
  split at h
  · rename_i hp
    cases h
    exact tlv_one.big _ _ _ _ _ hr0 hc0 (by omega) hb ha0 ha1 hp
  split at h
  · rename_i hz
    cases h
    exact tlv_one.off _ _ _ _ _ hr0 hc0 (by omega) hb ha0 ha1 (by omega) hz
  rename_i hp hz
  injection h with h1 h
  injection h with h2 h
  injection h with h3 h
  injection h with h4 h
  injection h with h5 h6
  subst h1 h2 h3 h4 h5 h6
  exact tlv_one.good _ _ _ _ _ hr0 hc0 (by omega) hb ha0 ha1 (by omega) (by omega) _ rfl

end Go.Proofs.YtgmdjhokcipajaaQ.PTlx
