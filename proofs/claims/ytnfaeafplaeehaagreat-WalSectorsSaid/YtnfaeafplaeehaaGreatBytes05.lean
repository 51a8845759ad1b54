import Derived.Test.YtnfaeafplaeehaaGreatZeros
import Derived.Test.YtnfaeafplaeehaaGreatMrgB
import Derived.Test.YtnfaeafplaeehaaGreatRecSector
import Derived.Test.YtnfaeafplaeehaaGreatMrgA
set_option linter.unusedVariables false
set_option linter.unusedSimpArgs false
namespace Go.Proofs.YtnfaeafplaeehaaGreat
open Go.RowKit

/-- The bytes behind k numbers. -/
def bytN (r : Rec) : Nat → List Int
  | 0 => [r.kind, onI r.on, r.m / 256, r.m % 256]
  | k + 1 => bytN r k ++ four ([r.gen, r.lsn, r.id, r.a].getD k 0)
theorem bytN_len (r : Rec) (k : Nat) : (bytN r k).length = 4 + 4 * k := by
  induction k with
  | zero => rfl
  | succ k ih => simp [bytN, ih, four_len]; omega
theorem bytN_end (r : Rec) : (((bytN r 4 ++ [r.l, 0, 0, 0]) ++ four r.s) ++ List.replicate 16 0) = head44 r := by
  simp [bytN, four, head44, List.replicate]
set_option maxRecDepth 100000 in
set_option maxHeartbeats 4000000 in
theorem law05_Bytes (r : Rec) (w : World) (ho : r.ok) (h : recRightB r = true) : Calls Tryz.prog 17 #[r.val] w
    fun e w' => Below w.heap.size w w' ∧ ∃ v, e = .returned v ∧ Own8 w' w.heap.size v (sector r) := by
  have hbd := right_bd r h
  have hby := head44_byte r ho h
  obtain ⟨kind, gen, lsn, rid, a, l, on, rs, rm⟩ := r
  obtain ⟨-, ⟨hg0, hg1⟩, ⟨hl0, hl1⟩, ⟨hi0, hi1⟩, ⟨ha0, ha1⟩, -, ⟨hs0, hs1⟩, hm0, hm1⟩ := ho
  obtain ⟨⟨hk0, hk1⟩, hp0, hp1⟩ := hbd
  simp only at hg0 hg1 hl0 hl1 hi0 hi1 ha0 ha1 hs0 hs1 hm0 hm1 hk0 hk1 hp0 hp1
  have hq : IntKind.u16.wrap (rm.tdiv 256) % 256 = rm / 256 := by
    rw [Int.tdiv_eq_ediv_of_nonneg hm0, IntKind.wrap_u16]
    omega
  simp only [Rec.val, Rec.arr]
  cases on with
  | false =>
    go_enter Tryz.func17, Tryz.ntmps17
    go_wp2_with fail
    have kR := ((Blk.new w 41 (Rec.arr ⟨kind, gen, lsn, rid, a, l, false, rs, rm⟩)).alloc (.cells (u8s (bytN ⟨kind, gen, lsn, rid, a, l, false, rs, rm⟩ 0)).toArray 5)).alloc (.cells #[.int .u32 gen, .int .u32 lsn, .int .u32 rid, .int .u32 a] 31)
    have hO := ((Own8.new (w.alloc (.cells (Rec.arr ⟨kind, gen, lsn, rid, a, l, false, rs, rm⟩) 41)) w.heap.size (bytN ⟨kind, gen, lsn, rid, a, l, false, rs, rm⟩ 0) (by simp) (by simp [bytN])).below ((Below.refl _ _).alloc (Nat.le_refl _) (.cells #[.int .u32 gen, .int .u32 lsn, .int .u32 rid, .int .u32 a] 31)))
    have kU := Blk.new ((w.alloc (.cells (Rec.arr ⟨kind, gen, lsn, rid, a, l, false, rs, rm⟩) 41)).alloc (.cells (u8s (bytN ⟨kind, gen, lsn, rid, a, l, false, rs, rm⟩ 0)).toArray 5)) 31 #[.int .u32 gen, .int .u32 lsn, .int .u32 rid, .int .u32 a]
    have hb : Below w.heap.size w (((w.alloc (.cells (Rec.arr ⟨kind, gen, lsn, rid, a, l, false, rs, rm⟩) 41)).alloc (.cells (u8s (bytN ⟨kind, gen, lsn, rid, a, l, false, rs, rm⟩ 0)).toArray 5)).alloc (.cells #[.int .u32 gen, .int .u32 lsn, .int .u32 rid, .int .u32 a] 31)) := (((Below.refl _ _).alloc (Nat.le_refl _) _).alloc (by simp) _).alloc (by simp; omega) _
    simp only [bytN, onI, u8s, List.map_cons, List.map_nil, Rec.arr, World.size_alloc, if_false, if_true, Bool.false_eq_true, List.length_cons, List.length_nil, Nat.zero_add, Nat.reduceAdd] at kR hO kU hb
    rw [hq]
    generalize ((w.alloc (.cells #[.int .i64 kind, .int .u32 gen, .int .u32 lsn, .int .u32 rid, .int .u32 a, .int .i64 l, .bool false, .int .u32 rs, .int .u16 rm] 41)).alloc (.cells #[.int .u8 kind, .int .u8 0, .int .u8 (rm / 256), .int .u8 (rm % 256)] 5)).alloc (.cells #[.int .u32 gen, .int .u32 lsn, .int .u32 rid, .int .u32 a] 31) = W at kR hO kU hb ⊢
    go_loopw [35, 4] (fun i v wr => ∃ k : Nat, k ≤ 4 ∧ i = .int .i64 k ∧ Own8 wr w.heap.size v (bytN ⟨kind, gen, lsn, rid, a, l, false, rs, rm⟩ k) ∧ Blk wr (w.heap.size + 1 + 1) 31 #[.int .u32 gen, .int .u32 lsn, .int .u32 rid, .int .u32 a] ∧ Blk wr w.heap.size 41 (Rec.arr ⟨kind, gen, lsn, rid, a, l, false, rs, rm⟩) ∧ Below w.heap.size w wr) (fun i _ _ => 4 - (intOf i).toNat)
    case atStart => exact ⟨0, by omega, rfl, hO, kU, kR, hb⟩
    case round =>
      clear hO kU kR hb h
      obtain ⟨k, hk, rfl, hO, kU, kR, hb⟩ := hrel
      have hlu := kU.lt
      have u0 := kU.cell 0
      have u1 := kU.cell 1
      have u2 := kU.cell 2
      have u3 := kU.cell 3
      simp only [List.getElem?_toArray, List.getElem?_cons_zero, List.getElem?_cons_succ] at u0 u1 u2 u3
      rcases (show k = 0 ∨ k = 1 ∨ k = 2 ∨ k = 3 ∨ k = 4 by omega) with rfl | rfl | rfl | rfl | rfl
      · go_wp2_with fail
        refine (law05_four gen _ ⟨hg0, hg1⟩).mono ?_
        rintro e w2 ⟨rfl, rfl⟩
        obtain ⟨v2, w3, hrun, hO2, hb2, hk2⟩ := app8 w.heap.size _ _ (four gen) _ (hO.below ((Below.refl wr.heap.size wr).alloc (Nat.le_refl _) (.cells (u8s (four gen)).toArray 5))) ⟨wr.heap.size, 0, none⟩ 4 4 rfl
          (fun j u hj => by
            have := (Blk.new wr 5 (u8s (four gen)).toArray).cell j
            rw [add_plain, this]
            simpa using hj) (by rw [bytN_len]; omega) (by have := hb.size; simp; omega)
        go_wp2_with (at_builtin; refine wpList_app rfl _ _ _ _ rfl rfl rfl hrun ?_)
        go_roundw
        case rel => exact ⟨1, by omega, by go_num, hO2, hk2 _ _ _ (by decide) (kU.alloc _), hk2 _ _ _ (by decide) (kR.alloc _), Below.trans (hb.alloc hb.size _) hb2⟩
        case measure => simp [intOf]
      · go_wp2_with fail
        refine (law05_four lsn _ ⟨hl0, hl1⟩).mono ?_
        rintro e w2 ⟨rfl, rfl⟩
        obtain ⟨v2, w3, hrun, hO2, hb2, hk2⟩ := app8 w.heap.size _ _ (four lsn) _ (hO.below ((Below.refl wr.heap.size wr).alloc (Nat.le_refl _) (.cells (u8s (four lsn)).toArray 5))) ⟨wr.heap.size, 0, none⟩ 4 4 rfl
          (fun j u hj => by
            have := (Blk.new wr 5 (u8s (four lsn)).toArray).cell j
            rw [add_plain, this]
            simpa using hj) (by rw [bytN_len]; omega) (by have := hb.size; simp; omega)
        go_wp2_with (at_builtin; refine wpList_app rfl _ _ _ _ rfl rfl rfl hrun ?_)
        go_roundw
        case rel => exact ⟨2, by omega, by go_num, hO2, hk2 _ _ _ (by decide) (kU.alloc _), hk2 _ _ _ (by decide) (kR.alloc _), Below.trans (hb.alloc hb.size _) hb2⟩
        case measure => simp [intOf]
      · go_wp2_with fail
        refine (law05_four rid _ ⟨hi0, hi1⟩).mono ?_
        rintro e w2 ⟨rfl, rfl⟩
        obtain ⟨v2, w3, hrun, hO2, hb2, hk2⟩ := app8 w.heap.size _ _ (four rid) _ (hO.below ((Below.refl wr.heap.size wr).alloc (Nat.le_refl _) (.cells (u8s (four rid)).toArray 5))) ⟨wr.heap.size, 0, none⟩ 4 4 rfl
          (fun j u hj => by
            have := (Blk.new wr 5 (u8s (four rid)).toArray).cell j
            rw [add_plain, this]
            simpa using hj) (by rw [bytN_len]; omega) (by have := hb.size; simp; omega)
        go_wp2_with (at_builtin; refine wpList_app rfl _ _ _ _ rfl rfl rfl hrun ?_)
        go_roundw
        case rel => exact ⟨3, by omega, by go_num, hO2, hk2 _ _ _ (by decide) (kU.alloc _), hk2 _ _ _ (by decide) (kR.alloc _), Below.trans (hb.alloc hb.size _) hb2⟩
        case measure => simp [intOf]
      · go_wp2_with fail
        refine (law05_four a _ ⟨ha0, ha1⟩).mono ?_
        rintro e w2 ⟨rfl, rfl⟩
        obtain ⟨v2, w3, hrun, hO2, hb2, hk2⟩ := app8 w.heap.size _ _ (four a) _ (hO.below ((Below.refl wr.heap.size wr).alloc (Nat.le_refl _) (.cells (u8s (four a)).toArray 5))) ⟨wr.heap.size, 0, none⟩ 4 4 rfl
          (fun j u hj => by
            have := (Blk.new wr 5 (u8s (four a)).toArray).cell j
            rw [add_plain, this]
            simpa using hj) (by rw [bytN_len]; omega) (by have := hb.size; simp; omega)
        go_wp2_with (at_builtin; refine wpList_app rfl _ _ _ _ rfl rfl rfl hrun ?_)
        go_roundw
        case rel => exact ⟨4, by omega, by go_num, hO2, hk2 _ _ _ (by decide) (kU.alloc _), hk2 _ _ _ (by decide) (kR.alloc _), Below.trans (hb.alloc hb.size _) hb2⟩
        case measure => simp [intOf]
      · clear u0 u1 u2 u3 hlu kU
        have hlr := kR.lt
        have r5 := kR.cell 5
        have r7 := kR.cell 7
        simp only [Rec.arr, List.getElem?_toArray, List.getElem?_cons_zero, List.getElem?_cons_succ] at r5 r7
        have hl256 : l % 256 = l := by omega
        obtain ⟨v2, w3, hrun, hO2, hb2, hk2⟩ := app8 w.heap.size _ _ [l, 0, 0, 0] _ (hO.below ((Below.refl wr.heap.size wr).alloc (Nat.le_refl _) (.cells (u8s [l, 0, 0, 0]).toArray 5))) ⟨wr.heap.size, 0, none⟩ 4 4 rfl
          (fun j u hj => by
            have := (Blk.new wr 5 (u8s [l, 0, 0, 0]).toArray).cell j
            rw [add_plain, this]
            simpa using hj) (by rw [bytN_len]; simp) (by have := hb.size; simp; omega)
        have kR3 := hk2 _ _ _ (by decide) (kR.alloc (.cells (u8s [l, 0, 0, 0]).toArray 5))
        have hbb := Below.trans (hb.alloc hb.size _) hb2
        simp only [u8s, List.map_cons, List.map_nil] at hrun
        clear hk2 hb2 hO
        have hlr3 := kR3.lt
        have r73 := kR3.cell 7
        simp only [Rec.arr, List.getElem?_toArray, List.getElem?_cons_zero, List.getElem?_cons_succ] at r73
        go_wp2_with (at_builtin; refine wpList_app rfl _ _ _ _ rfl rfl rfl hrun ?_)
        clear hrun kR r5 r7 hlr hb
        refine (law05_four rs w3 ⟨hs0, hs1⟩).mono ?_
        rintro e w4 ⟨rfl, rfl⟩
        obtain ⟨v5, w5, hrun5, hO5, hb5, -⟩ := app8 w.heap.size _ _ (four rs) _ (hO2.below ((Below.refl w3.heap.size w3).alloc (Nat.le_refl _) (.cells (u8s (four rs)).toArray 5))) ⟨w3.heap.size, 0, none⟩ 4 4 rfl
          (fun j u hj => by
            have := (Blk.new w3 5 (u8s (four rs)).toArray).cell j
            rw [add_plain, this]
            simpa using hj) (by rw [List.length_append, bytN_len]; simp) (by have := hbb.size; simp; omega)
        have hbc := Below.trans (hbb.alloc hbb.size _) hb5
        obtain ⟨v6, w6, hrun6, hO6, hb6, -⟩ := app8z w.heap.size v5 _ w5 hO5 16 (by rw [List.length_append, List.length_append, bytN_len, four_len]; simp) hbc.size
        have hbd := hbc.trans hb6
        rw [bytN_end] at hO6
        clear hO2 hO5 hbb hbc hb5 hb6 hlr3 r73 kR3
        obtain ⟨A6, c6, rfl, hr6⟩ := hO6.row (by rw [show (head44 ⟨kind, gen, lsn, rid, a, l, false, rs, rm⟩).length = 44 from rfl]; decide)
        have hlen : (head44 ⟨kind, gen, lsn, rid, a, l, false, rs, rm⟩).length = 44 := rfl
        go_wp2_with (first | (at_builtin; refine wpList_app rfl (.tmp 51) (.tmp 55) _ _ rfl rfl rfl hrun5 ?_) | (at_builtin; refine wpList_app rfl (.tmp 57) _ _ _ rfl rfl rfl hrun6 ?_))
        have hOf := law01_Of _ A6 c6 w6 hr6 hby
        rw [← crc_eq _ hby, show (head44 ⟨kind, gen, lsn, rid, a, l, false, rs, rm⟩).length = 44 from rfl] at hOf
        refine hOf.mono ?_
        rintro e w7 ⟨rfl, rfl⟩
        have hcl := crc_lt (head44 ⟨kind, gen, lsn, rid, a, l, false, rs, rm⟩) hby
        clear hOf hr6
        go_wp2_with fail
        refine (law05_four _ w7 (by omega)).mono ?_
        rintro e w8 ⟨rfl, rfl⟩
        obtain ⟨v9, w9, hrun9, hO9, hb9, -⟩ := app8 w.heap.size _ _ (four (crc (head44 ⟨kind, gen, lsn, rid, a, l, false, rs, rm⟩))) _ (hO6.below ((Below.refl w7.heap.size w7).alloc (Nat.le_refl _) (.cells (u8s (four (crc (head44 ⟨kind, gen, lsn, rid, a, l, false, rs, rm⟩)))).toArray 5))) ⟨w7.heap.size, 0, none⟩ 4 4 rfl
          (fun j u hj => by
            have := (Blk.new w7 5 (u8s (four (crc (head44 ⟨kind, gen, lsn, rid, a, l, false, rs, rm⟩)))).toArray).cell j
            rw [add_plain, this]
            simpa using hj) (by rw [show (head44 ⟨kind, gen, lsn, rid, a, l, false, rs, rm⟩).length = 44 from rfl]; decide) (by have := hbd.size; simp; omega)
        have hbe := Below.trans (hbd.alloc hbd.size _) hb9
        rw [show (head44 ⟨kind, gen, lsn, rid, a, l, false, rs, rm⟩).length = 44 from rfl] at hrun9
        clear hO6 hbd hb9 hcl
        go_wp2_with (at_builtin; refine wpList_app rfl (.tmp 59) (.tmp 62) _ _ rfl rfl rfl hrun9 ?_)
        refine bodyPost_ret (results_tmp rfl _ _ _) rfl ⟨hbe, v9, rfl, hO9⟩
  | true =>
    go_enter Tryz.func17, Tryz.ntmps17
    go_wp2_with fail
    have kR := ((Blk.new w 41 (Rec.arr ⟨kind, gen, lsn, rid, a, l, true, rs, rm⟩)).alloc (.cells (u8s (bytN ⟨kind, gen, lsn, rid, a, l, true, rs, rm⟩ 0)).toArray 5)).alloc (.cells #[.int .u32 gen, .int .u32 lsn, .int .u32 rid, .int .u32 a] 31)
    have hO := ((Own8.new (w.alloc (.cells (Rec.arr ⟨kind, gen, lsn, rid, a, l, true, rs, rm⟩) 41)) w.heap.size (bytN ⟨kind, gen, lsn, rid, a, l, true, rs, rm⟩ 0) (by simp) (by simp [bytN])).below ((Below.refl _ _).alloc (Nat.le_refl _) (.cells #[.int .u32 gen, .int .u32 lsn, .int .u32 rid, .int .u32 a] 31)))
    have kU := Blk.new ((w.alloc (.cells (Rec.arr ⟨kind, gen, lsn, rid, a, l, true, rs, rm⟩) 41)).alloc (.cells (u8s (bytN ⟨kind, gen, lsn, rid, a, l, true, rs, rm⟩ 0)).toArray 5)) 31 #[.int .u32 gen, .int .u32 lsn, .int .u32 rid, .int .u32 a]
    have hb : Below w.heap.size w (((w.alloc (.cells (Rec.arr ⟨kind, gen, lsn, rid, a, l, true, rs, rm⟩) 41)).alloc (.cells (u8s (bytN ⟨kind, gen, lsn, rid, a, l, true, rs, rm⟩ 0)).toArray 5)).alloc (.cells #[.int .u32 gen, .int .u32 lsn, .int .u32 rid, .int .u32 a] 31)) := (((Below.refl _ _).alloc (Nat.le_refl _) _).alloc (by simp) _).alloc (by simp; omega) _
    simp only [bytN, onI, u8s, List.map_cons, List.map_nil, Rec.arr, World.size_alloc, if_false, if_true, Bool.false_eq_true, List.length_cons, List.length_nil, Nat.zero_add, Nat.reduceAdd] at kR hO kU hb
    rw [hq]
    generalize ((w.alloc (.cells #[.int .i64 kind, .int .u32 gen, .int .u32 lsn, .int .u32 rid, .int .u32 a, .int .i64 l, .bool true, .int .u32 rs, .int .u16 rm] 41)).alloc (.cells #[.int .u8 kind, .int .u8 1, .int .u8 (rm / 256), .int .u8 (rm % 256)] 5)).alloc (.cells #[.int .u32 gen, .int .u32 lsn, .int .u32 rid, .int .u32 a] 31) = W at kR hO kU hb ⊢
    go_loopw [35, 4] (fun i v wr => ∃ k : Nat, k ≤ 4 ∧ i = .int .i64 k ∧ Own8 wr w.heap.size v (bytN ⟨kind, gen, lsn, rid, a, l, true, rs, rm⟩ k) ∧ Blk wr (w.heap.size + 1 + 1) 31 #[.int .u32 gen, .int .u32 lsn, .int .u32 rid, .int .u32 a] ∧ Blk wr w.heap.size 41 (Rec.arr ⟨kind, gen, lsn, rid, a, l, true, rs, rm⟩) ∧ Below w.heap.size w wr) (fun i _ _ => 4 - (intOf i).toNat)
    case atStart => exact ⟨0, by omega, rfl, hO, kU, kR, hb⟩
    case round =>
      clear hO kU kR hb h
      obtain ⟨k, hk, rfl, hO, kU, kR, hb⟩ := hrel
      have hlu := kU.lt
      have u0 := kU.cell 0
      have u1 := kU.cell 1
      have u2 := kU.cell 2
      have u3 := kU.cell 3
      simp only [List.getElem?_toArray, List.getElem?_cons_zero, List.getElem?_cons_succ] at u0 u1 u2 u3
      rcases (show k = 0 ∨ k = 1 ∨ k = 2 ∨ k = 3 ∨ k = 4 by omega) with rfl | rfl | rfl | rfl | rfl
      · go_wp2_with fail
        refine (law05_four gen _ ⟨hg0, hg1⟩).mono ?_
        rintro e w2 ⟨rfl, rfl⟩
        obtain ⟨v2, w3, hrun, hO2, hb2, hk2⟩ := app8 w.heap.size _ _ (four gen) _ (hO.below ((Below.refl wr.heap.size wr).alloc (Nat.le_refl _) (.cells (u8s (four gen)).toArray 5))) ⟨wr.heap.size, 0, none⟩ 4 4 rfl
          (fun j u hj => by
            have := (Blk.new wr 5 (u8s (four gen)).toArray).cell j
            rw [add_plain, this]
            simpa using hj) (by rw [bytN_len]; omega) (by have := hb.size; simp; omega)
        go_wp2_with (at_builtin; refine wpList_app rfl _ _ _ _ rfl rfl rfl hrun ?_)
        go_roundw
        case rel => exact ⟨1, by omega, by go_num, hO2, hk2 _ _ _ (by decide) (kU.alloc _), hk2 _ _ _ (by decide) (kR.alloc _), Below.trans (hb.alloc hb.size _) hb2⟩
        case measure => simp [intOf]
      · go_wp2_with fail
        refine (law05_four lsn _ ⟨hl0, hl1⟩).mono ?_
        rintro e w2 ⟨rfl, rfl⟩
        obtain ⟨v2, w3, hrun, hO2, hb2, hk2⟩ := app8 w.heap.size _ _ (four lsn) _ (hO.below ((Below.refl wr.heap.size wr).alloc (Nat.le_refl _) (.cells (u8s (four lsn)).toArray 5))) ⟨wr.heap.size, 0, none⟩ 4 4 rfl
          (fun j u hj => by
            have := (Blk.new wr 5 (u8s (four lsn)).toArray).cell j
            rw [add_plain, this]
            simpa using hj) (by rw [bytN_len]; omega) (by have := hb.size; simp; omega)
        go_wp2_with (at_builtin; refine wpList_app rfl _ _ _ _ rfl rfl rfl hrun ?_)
        go_roundw
        case rel => exact ⟨2, by omega, by go_num, hO2, hk2 _ _ _ (by decide) (kU.alloc _), hk2 _ _ _ (by decide) (kR.alloc _), Below.trans (hb.alloc hb.size _) hb2⟩
        case measure => simp [intOf]
      · go_wp2_with fail
        refine (law05_four rid _ ⟨hi0, hi1⟩).mono ?_
        rintro e w2 ⟨rfl, rfl⟩
        obtain ⟨v2, w3, hrun, hO2, hb2, hk2⟩ := app8 w.heap.size _ _ (four rid) _ (hO.below ((Below.refl wr.heap.size wr).alloc (Nat.le_refl _) (.cells (u8s (four rid)).toArray 5))) ⟨wr.heap.size, 0, none⟩ 4 4 rfl
          (fun j u hj => by
            have := (Blk.new wr 5 (u8s (four rid)).toArray).cell j
            rw [add_plain, this]
            simpa using hj) (by rw [bytN_len]; omega) (by have := hb.size; simp; omega)
        go_wp2_with (at_builtin; refine wpList_app rfl _ _ _ _ rfl rfl rfl hrun ?_)
        go_roundw
        case rel => exact ⟨3, by omega, by go_num, hO2, hk2 _ _ _ (by decide) (kU.alloc _), hk2 _ _ _ (by decide) (kR.alloc _), Below.trans (hb.alloc hb.size _) hb2⟩
        case measure => simp [intOf]
      · go_wp2_with fail
        refine (law05_four a _ ⟨ha0, ha1⟩).mono ?_
        rintro e w2 ⟨rfl, rfl⟩
        obtain ⟨v2, w3, hrun, hO2, hb2, hk2⟩ := app8 w.heap.size _ _ (four a) _ (hO.below ((Below.refl wr.heap.size wr).alloc (Nat.le_refl _) (.cells (u8s (four a)).toArray 5))) ⟨wr.heap.size, 0, none⟩ 4 4 rfl
          (fun j u hj => by
            have := (Blk.new wr 5 (u8s (four a)).toArray).cell j
            rw [add_plain, this]
            simpa using hj) (by rw [bytN_len]; omega) (by have := hb.size; simp; omega)
        go_wp2_with (at_builtin; refine wpList_app rfl _ _ _ _ rfl rfl rfl hrun ?_)
        go_roundw
        case rel => exact ⟨4, by omega, by go_num, hO2, hk2 _ _ _ (by decide) (kU.alloc _), hk2 _ _ _ (by decide) (kR.alloc _), Below.trans (hb.alloc hb.size _) hb2⟩
        case measure => simp [intOf]
      · clear u0 u1 u2 u3 hlu kU
        have hlr := kR.lt
        have r5 := kR.cell 5
        have r7 := kR.cell 7
        simp only [Rec.arr, List.getElem?_toArray, List.getElem?_cons_zero, List.getElem?_cons_succ] at r5 r7
        have hl256 : l % 256 = l := by omega
        obtain ⟨v2, w3, hrun, hO2, hb2, hk2⟩ := app8 w.heap.size _ _ [l, 0, 0, 0] _ (hO.below ((Below.refl wr.heap.size wr).alloc (Nat.le_refl _) (.cells (u8s [l, 0, 0, 0]).toArray 5))) ⟨wr.heap.size, 0, none⟩ 4 4 rfl
          (fun j u hj => by
            have := (Blk.new wr 5 (u8s [l, 0, 0, 0]).toArray).cell j
            rw [add_plain, this]
            simpa using hj) (by rw [bytN_len]; simp) (by have := hb.size; simp; omega)
        have kR3 := hk2 _ _ _ (by decide) (kR.alloc (.cells (u8s [l, 0, 0, 0]).toArray 5))
        have hbb := Below.trans (hb.alloc hb.size _) hb2
        simp only [u8s, List.map_cons, List.map_nil] at hrun
        clear hk2 hb2 hO
        have hlr3 := kR3.lt
        have r73 := kR3.cell 7
        simp only [Rec.arr, List.getElem?_toArray, List.getElem?_cons_zero, List.getElem?_cons_succ] at r73
        go_wp2_with (at_builtin; refine wpList_app rfl _ _ _ _ rfl rfl rfl hrun ?_)
        clear hrun kR r5 r7 hlr hb
        refine (law05_four rs w3 ⟨hs0, hs1⟩).mono ?_
        rintro e w4 ⟨rfl, rfl⟩
        obtain ⟨v5, w5, hrun5, hO5, hb5, -⟩ := app8 w.heap.size _ _ (four rs) _ (hO2.below ((Below.refl w3.heap.size w3).alloc (Nat.le_refl _) (.cells (u8s (four rs)).toArray 5))) ⟨w3.heap.size, 0, none⟩ 4 4 rfl
          (fun j u hj => by
            have := (Blk.new w3 5 (u8s (four rs)).toArray).cell j
            rw [add_plain, this]
            simpa using hj) (by rw [List.length_append, bytN_len]; simp) (by have := hbb.size; simp; omega)
        have hbc := Below.trans (hbb.alloc hbb.size _) hb5
        obtain ⟨v6, w6, hrun6, hO6, hb6, -⟩ := app8z w.heap.size v5 _ w5 hO5 16 (by rw [List.length_append, List.length_append, bytN_len, four_len]; simp) hbc.size
        have hbd := hbc.trans hb6
        rw [bytN_end] at hO6
        clear hO2 hO5 hbb hbc hb5 hb6 hlr3 r73 kR3
        obtain ⟨A6, c6, rfl, hr6⟩ := hO6.row (by rw [show (head44 ⟨kind, gen, lsn, rid, a, l, true, rs, rm⟩).length = 44 from rfl]; decide)
        have hlen : (head44 ⟨kind, gen, lsn, rid, a, l, true, rs, rm⟩).length = 44 := rfl
        go_wp2_with (first | (at_builtin; refine wpList_app rfl (.tmp 51) (.tmp 55) _ _ rfl rfl rfl hrun5 ?_) | (at_builtin; refine wpList_app rfl (.tmp 57) _ _ _ rfl rfl rfl hrun6 ?_))
        have hOf := law01_Of _ A6 c6 w6 hr6 hby
        rw [← crc_eq _ hby, show (head44 ⟨kind, gen, lsn, rid, a, l, true, rs, rm⟩).length = 44 from rfl] at hOf
        refine hOf.mono ?_
        rintro e w7 ⟨rfl, rfl⟩
        have hcl := crc_lt (head44 ⟨kind, gen, lsn, rid, a, l, true, rs, rm⟩) hby
        clear hOf hr6
        go_wp2_with fail
        refine (law05_four _ w7 (by omega)).mono ?_
        rintro e w8 ⟨rfl, rfl⟩
        obtain ⟨v9, w9, hrun9, hO9, hb9, -⟩ := app8 w.heap.size _ _ (four (crc (head44 ⟨kind, gen, lsn, rid, a, l, true, rs, rm⟩))) _ (hO6.below ((Below.refl w7.heap.size w7).alloc (Nat.le_refl _) (.cells (u8s (four (crc (head44 ⟨kind, gen, lsn, rid, a, l, true, rs, rm⟩)))).toArray 5))) ⟨w7.heap.size, 0, none⟩ 4 4 rfl
          (fun j u hj => by
            have := (Blk.new w7 5 (u8s (four (crc (head44 ⟨kind, gen, lsn, rid, a, l, true, rs, rm⟩)))).toArray).cell j
            rw [add_plain, this]
            simpa using hj) (by rw [show (head44 ⟨kind, gen, lsn, rid, a, l, true, rs, rm⟩).length = 44 from rfl]; decide) (by have := hbd.size; simp; omega)
        have hbe := Below.trans (hbd.alloc hbd.size _) hb9
        rw [show (head44 ⟨kind, gen, lsn, rid, a, l, true, rs, rm⟩).length = 44 from rfl] at hrun9
        clear hO6 hbd hb9 hcl
        go_wp2_with (at_builtin; refine wpList_app rfl (.tmp 59) (.tmp 62) _ _ rfl rfl rfl hrun9 ?_)
        refine bodyPost_ret (results_tmp rfl _ _ _) rfl ⟨hbe, v9, rfl, hO9⟩
end Go.Proofs.YtnfaeafplaeehaaGreat
