-- written by this session's turned copy of the kit's print.py; Lean checks it
import Derived.Test.YtgmdjhokcipajaaPRec0
namespace Go.Proofs.YtgmdjhokcipajaaQ.PRec
open Go.RowKit Go.Proofs.YtgmdjhokcipajaaW.PrintWords Go.Proofs.YtgmdjhokcipajaaW.PrintLast Go.Proofs.YtgmdjhokcipajaaW.PrintMore
attribute [local go_sem] max2_int min2_int max_two min_two max_three min_three max_four min_four   -- for this text's walks alone
set_option linter.unusedVariables false
set_option linter.unusedSimpArgs false

/-! ### sum_Of: function 15 -/
mutual
def sum_Of.l0 : Nat → Int → List Int → Int → Int → Option (Int)
  | 0, _, _, _, _ => none
  | k + 1, x3, x6, x7, x8 => if x8 < x7 then (if 0 ≤ x8 then (if x8 < (x6.length : Int) then (sum_Of.l1 k (Go.bits .xor .u32 x3 ((((rd x6 x8) % 4294967296) * 16777216) % 4294967296)) x6 x7 x8 0) else (none)) else (none)) else (some x3)
def sum_Of.l1 : Nat → Int → List Int → Int → Int → Int → Option (Int)
  | 0, _, _, _, _, _ => none
  | k + 1, x3, x6, x7, x8, x17 => if x17 < 8 then (if (x3 / 2147483648) = 1 then (sum_Of.l1 k (Go.bits .xor .u32 ((x3 * 2) % 4294967296) 79764919) x6 x7 x8 (wrap64 (x17 + 1))) else (sum_Of.l1 k ((x3 * 2) % 4294967296) x6 x7 x8 (wrap64 (x17 + 1)))) else (sum_Of.l0 k x3 x6 x7 (wrap64 (x8 + 1)))
end
def sum_Of.f (k : Nat) (l0 : List Int) : Option (Int) := sum_Of.l0 k 4294967295 l0 (l0.length : Int) 0
theorem sum_Of.mono_l : ∀ k, (∀ y0 y1 y2 y3, LeO (sum_Of.l0 k y0 y1 y2 y3) (sum_Of.l0 (k + 1) y0 y1 y2 y3)) ∧ (∀ y0 y1 y2 y3 y4, LeO (sum_Of.l1 k y0 y1 y2 y3 y4) (sum_Of.l1 (k + 1) y0 y1 y2 y3 y4))
  | 0 => ⟨fun _ _ _ _ r h => by simp [sum_Of.l0] at h, fun _ _ _ _ _ r h => by simp [sum_Of.l1] at h⟩
  | k + 1 => by
    obtain ⟨ih0, ih1⟩ := sum_Of.mono_l k
    refine ⟨?_, ?_⟩
    · intro y0 y1 y2 y3
      unfold sum_Of.l0
      repeat' first
      | (with_reducible exact ih0 _ _ _ _)
      | (with_reducible exact ih1 _ _ _ _ _)
      | (with_reducible exact LeO.refl _)
      | (with_reducible exact LeO.none _)
      | (with_reducible refine LeO.ite ?_ ?_)
      | (with_reducible refine LeO.bind ?_ (fun _ => ?_))
      | exact ih0 _ _ _ _
      | exact ih1 _ _ _ _ _
      | exact LeO.none _
      | refine LeO.ite ?_ ?_
      | refine LeO.bind ?_ (fun _ => ?_)
    · intro y0 y1 y2 y3 y4
      unfold sum_Of.l1
      repeat' first
      | (with_reducible exact ih0 _ _ _ _)
      | (with_reducible exact ih1 _ _ _ _ _)
      | (with_reducible exact LeO.refl _)
      | (with_reducible exact LeO.none _)
      | (with_reducible refine LeO.ite ?_ ?_)
      | (with_reducible refine LeO.bind ?_ (fun _ => ?_))
      | exact ih0 _ _ _ _
      | exact ih1 _ _ _ _ _
      | exact LeO.none _
      | refine LeO.ite ?_ ?_
      | refine LeO.bind ?_ (fun _ => ?_)
theorem sum_Of.mono : ∀ a0 k, LeO (sum_Of.f k a0) (sum_Of.f (k + 1) a0) := by
  intro a0 k
  obtain ⟨ih0, ih1⟩ := sum_Of.mono_l k
  unfold sum_Of.f
  repeat' first
      | (with_reducible exact ih0 _ _ _ _)
      | (with_reducible exact ih1 _ _ _ _ _)
      | (with_reducible exact LeO.refl _)
      | (with_reducible exact LeO.none _)
      | (with_reducible refine LeO.ite ?_ ?_)
      | (with_reducible refine LeO.bind ?_ (fun _ => ?_))
      | exact ih0 _ _ _ _
      | exact ih1 _ _ _ _ _
      | exact LeO.none _
      | refine LeO.ite ?_ ?_
      | refine LeO.bind ?_ (fun _ => ?_)
set_option maxHeartbeats 8000000 in
set_option maxRecDepth 100000 in
theorem sum_Of.calls (k : Nat) (A0 : Option Addr) (c0 : Nat) (l0 : List Int) (r : Int) (w : World) (hr0 : Kd.C (Kd.int .u8) w A0 l0.length l0) (hc0 : l0.length ≤ c0) (h : sum_Of.f k l0 = some r) :
    Calls Try.prog 15 #[.slice A0 l0.length c0] w fun e w' => e = .returned (.int .u32 r) ∧ Drawn0 w w' := by
  have HR0 := Aside0.mk hr0
  have HC0 := Aside0.mk hc0
  clear hr0 hc0
  have H : (sum_Of.l0 k 4294967295 l0 (l0.length : Int) 0) = some r := h
  clear h
  have H' := Aside0.mk H
  clear H
  go_enter Try.func15, Try.ntmps15
  go_wp2
  go_loopg [3, 8] k (fun kq v3 v8 w' => ∃ (x3_1 : Int) (x8_1 : Int), v3 = .int .u32 x3_1 ∧ v8 = .int .i64 x8_1 ∧ Aside0 (sum_Of.l0 kq x3_1 l0 (l0.length : Int) x8_1 = some r) ∧ Aside0 (kq ≤ k) ∧ Drawn0 w w')
  case atStart => exact ⟨(4294967295), (0), (by first | rfl | (simp; done) | (simp [*]; done)), (by first | rfl | (simp; done) | (simp [*]; done)), H', ⟨Nat.le_refl _⟩, by repeat (first | exact Drawn0.refl _ | apply Drawn0.step)⟩
  case round =>
    clear H'
    try clear c1
    obtain ⟨x3_1, x8_1, rfl, rfl, HA, HK1, ⟨m1, rfl⟩⟩ := hrel
    cases gk with
    | zero => exact absurd HA.out (by simp [sum_Of.l0])
    | succ k1 =>
      have H := HA.out
      clear HA
      simp only [sum_Of.l0] at H
      by_cases c2 : x8_1 < (l0.length : Int)
      case neg =>
        rw [if_neg c2] at H; have c2b0 : decide (x8_1 < (l0.length : Int)) = false := decide_eq_false c2
        clear c2
        obtain rfl := Option.some.inj H
        go_wp2
        go_ret
        exact ⟨by first | rfl | (simp; done) | (simp [*]; done), by repeat (first | exact Drawn0.refl _ | apply Drawn0.step)⟩

      rw [if_pos c2] at H; have c2b0 : decide (x8_1 < (l0.length : Int)) = true := decide_eq_true c2
      clear c2
      by_cases c3 : 0 ≤ x8_1
      case neg =>
        rw [if_neg c3] at H; exact absurd H (by simp)
      rw [if_pos c3] at H; have c3b0 : decide (0 ≤ x8_1) = true := decide_eq_true c3
      clear c3
      by_cases c4 : x8_1 < (l0.length : Int)
      case neg =>
        rw [if_neg c4] at H; exact absurd H (by simp)
      rw [if_pos c4] at H; have c4b0 : decide (x8_1 < (l0.length : Int)) = true := decide_eq_true c4
      clear c4
      have H' := Aside0.mk H
      clear H
      have p101 : 0 ≤ (x8_1 : Int) := of_decide_eq_true (by first | (with_reducible assumption) | assumption)
      have q101 : x8_1 < (l0.length : Int) := of_decide_eq_true (by first | (with_reducible assumption) | assumption)
      obtain ⟨ad101, e101, hx101_0⟩ := Kd.at_int HR0.out x8_1 p101 q101
      cases e101
      replace p101 := eq_true p101
      replace q101 := eq_true q101
      go_wp2
      go_loopg [3, 17] k1 (fun kq v3 v17 w' => ∃ (x3_2 : Int) (x17_2 : Int), v3 = .int .u32 x3_2 ∧ v17 = .int .i64 x17_2 ∧ Aside0 (sum_Of.l1 kq x3_2 l0 (l0.length : Int) x8_1 x17_2 = some r) ∧ Aside0 (kq ≤ k1) ∧ Drawn0 w w')
      case atStart => exact ⟨(Go.bits .xor .u32 x3_1 ((((rd l0 x8_1) % 4294967296) * 16777216) % 4294967296)), (0), (by first | rfl | (simp; done) | (simp [*]; done)), (by first | rfl | (simp; done) | (simp [*]; done)), H', ⟨Nat.le_refl _⟩, by repeat (first | exact Drawn0.refl _ | apply Drawn0.step)⟩
      case round =>
        clear H'
        try clear c1; try clear p1; try clear q1; try clear hx1; try clear c2; try clear c2b0; try clear p2; try clear c3; try clear c3b0; try clear c4; try clear c4b0; try clear hx101_0; try clear p101; try clear q101
        obtain ⟨x3_2, x17_2, rfl, rfl, HA, HK2, ⟨m2, rfl⟩⟩ := hrel
        cases gk with
        | zero => exact absurd HA.out (by simp [sum_Of.l1])
        | succ k2 =>
          have H := HA.out
          clear HA
          simp only [sum_Of.l1] at H
          by_cases c5 : x17_2 < 8
          case neg =>
            rw [if_neg c5] at H; have c5b0 : decide (x17_2 < 8) = false := decide_eq_false c5
            clear c5
            have H' := Aside0.mk H
            clear H
            go_wp2
            go_roundg k2
            case measure => have := HK1.out; have := HK2.out; omega
            case rel => exact ⟨(x3_2), (wrap64 (x8_1 + 1)), (by first | rfl | (simp; done) | (simp [*]; done)), (by first | rfl | (simp; done) | (simp [*]; done)), H', ⟨by have := HK1.out; have := HK2.out; omega⟩, by repeat (first | exact Drawn0.refl _ | apply Drawn0.step)⟩
          rw [if_pos c5] at H; have c5b0 : decide (x17_2 < 8) = true := decide_eq_true c5
          clear c5
          by_cases c6 : (x3_2 / 2147483648) = 1
          case neg =>
            rw [if_neg c6] at H; have c6b0 : ((x3_2 / 2147483648) == 1) = false := beq_eq_false_iff_ne.mpr c6
            have c6b1 : ((x3_2 / 2147483648) != 1) = true := bne_iff_ne.mpr c6
            have H' := Aside0.mk H
            clear H
            go_wp2
            go_roundg k2
            case measure => have := HK1.out; have := HK2.out; omega
            case rel => exact ⟨((x3_2 * 2) % 4294967296), (wrap64 (x17_2 + 1)), (by first | rfl | (simp; done) | (simp [*]; done)), (by first | rfl | (simp; done) | (simp [*]; done)), H', ⟨by have := HK1.out; have := HK2.out; omega⟩, by repeat (first | exact Drawn0.refl _ | apply Drawn0.step)⟩
          rw [if_pos c6] at H; have c6b0 : ((x3_2 / 2147483648) == 1) = true := beq_iff_eq.mpr c6
          have c6b1 : ((x3_2 / 2147483648) != 1) = false := bne_eq_false_iff_eq.mpr c6
          clear c6
          have H' := Aside0.mk H
          clear H
          go_wp2
          go_roundg k2
          case measure => have := HK1.out; have := HK2.out; omega
          case rel => exact ⟨(Go.bits .xor .u32 ((x3_2 * 2) % 4294967296) 79764919), (wrap64 (x17_2 + 1)), (by first | rfl | (simp; done) | (simp [*]; done)), (by first | rfl | (simp; done) | (simp [*]; done)), H', ⟨by have := HK1.out; have := HK2.out; omega⟩, by repeat (first | exact Drawn0.refl _ | apply Drawn0.step)⟩
/-! ### dist_Dist_Lost: function 25 -/
-- EXT (wayfarer/dist.Dist).Lost | making=1 | rounds=0

/-! ### rec_Rec_bare: function 49 -/
-- EXT (wayfarer/rec.Rec).bare | making=1 | rounds=0

/-! ### addr_mask: function 58 -/
-- EXT wayfarer/addr.mask | making=1 | rounds=0

/-! ### addr_Prefix_Right: function 50 -/
-- EXT (wayfarer/addr.Prefix).Right | making=1 | rounds=0

/-! ### rec_Rec_Right: function 28 -/
-- EXT (wayfarer/rec.Rec).Right | making=1 | rounds=0
def recOkB (r : Ytgmdjhokcipajaa.Rec) : Bool := decide (-9223372036854775808 ≤ r.kind) && decide (r.kind ≤ 9223372036854775807) && decide (0 ≤ r.gen) && decide (r.gen ≤ 4294967295) && decide (0 ≤ r.lsn) && decide (r.lsn ≤ 4294967295) && decide (0 ≤ r.id) && decide (r.id ≤ 4294967295) && decide (0 ≤ r.a) && decide (r.a ≤ 4294967295) && decide (-9223372036854775808 ≤ r.l) && decide (r.l ≤ 9223372036854775807) && decide (0 ≤ r.s) && decide (r.s ≤ 4294967295) && decide (0 ≤ r.m) && decide (r.m ≤ 65535)
theorem recOkB_iff (r : Ytgmdjhokcipajaa.Rec) : recOkB r = true ↔ r.ok := by
  simp only [recOkB, Ytgmdjhokcipajaa.Rec.ok, Bool.and_eq_true, decide_eq_true_eq, and_assoc]
def rec_Rec_Right.f (a0_0 : Int) (a0_1 : Int) (a0_2 : Int) (a0_3 : Int) (a0_4 : Int) (a0_5 : Int) (a0_6 : Bool) (a0_7 : Int) (a0_8 : Int) : Option (Bool) :=
  if recOkB ⟨a0_0, a0_1, a0_2, a0_3, a0_4, a0_5, a0_6, a0_7, a0_8⟩ = true then some (Ytgmdjhokcipajaa.recRightB ⟨a0_0, a0_1, a0_2, a0_3, a0_4, a0_5, a0_6, a0_7, a0_8⟩) else none
theorem rec_Rec_Right.calls (a0_0 : Int) (a0_1 : Int) (a0_2 : Int) (a0_3 : Int) (a0_4 : Int) (a0_5 : Int) (a0_6 : Bool) (a0_7 : Int) (a0_8 : Int) (r : Bool) (w : World) (h : rec_Rec_Right.f a0_0 a0_1 a0_2 a0_3 a0_4 a0_5 a0_6 a0_7 a0_8 = some r) :
    Calls Try.prog 28 #[.agg #[.int .i64 a0_0, .int .u32 a0_1, .int .u32 a0_2, .int .u32 a0_3, .int .u32 a0_4, .int .i64 a0_5, .bool a0_6, .int .u32 a0_7, .int .u16 a0_8]] w fun e w' => e = .returned (.bool r) ∧ Below w.heap.size w w' := by
  unfold rec_Rec_Right.f at h
  split at h
  · rename_i hc; cases h; exact Ytgmdjhokcipajaa.rec_Right ⟨a0_0, a0_1, a0_2, a0_3, a0_4, a0_5, a0_6, a0_7, a0_8⟩ w ((recOkB_iff _).1 hc)
  · cases h

/-! ### rec_put: function 48 -/
-- EXT wayfarer/rec.put | making=1 | rounds=0

/-! ### rec_Rec_Sector: function 27 -/
-- EXT (wayfarer/rec.Rec).Sector | making=1 | rounds=0
def rec_Rec_Sector.f (a0_0 : Int) (a0_1 : Int) (a0_2 : Int) (a0_3 : Int) (a0_4 : Int) (a0_5 : Int) (a0_6 : Bool) (a0_7 : Int) (a0_8 : Int) : Option (List Int) :=
  if recOkB ⟨a0_0, a0_1, a0_2, a0_3, a0_4, a0_5, a0_6, a0_7, a0_8⟩ = true then
    some (if Ytgmdjhokcipajaa.recRightB ⟨a0_0, a0_1, a0_2, a0_3, a0_4, a0_5, a0_6, a0_7, a0_8⟩ = true then Ytgmdjhokcipajaa.sector ⟨a0_0, a0_1, a0_2, a0_3, a0_4, a0_5, a0_6, a0_7, a0_8⟩ else []) else none
theorem rec_Rec_Sector.calls (a0_0 : Int) (a0_1 : Int) (a0_2 : Int) (a0_3 : Int) (a0_4 : Int) (a0_5 : Int) (a0_6 : Bool) (a0_7 : Int) (a0_8 : Int) (r : List Int) (w : World) (h : rec_Rec_Sector.f a0_0 a0_1 a0_2 a0_3 a0_4 a0_5 a0_6 a0_7 a0_8 = some r) :
    Calls Try.prog 27 #[.agg #[.int .i64 a0_0, .int .u32 a0_1, .int .u32 a0_2, .int .u32 a0_3, .int .u32 a0_4, .int .i64 a0_5, .bool a0_6, .int .u32 a0_7, .int .u16 a0_8]] w fun e w' => ∃ v0_ : Value, e = .returned (v0_) ∧ Kd.R (Kd.int .u8) 5 w' w.heap.size (fun _ => True) v0_ r ∧ Below w.heap.size w w' := by
  unfold rec_Rec_Sector.f at h
  split at h
  case isFalse => cases h
  rename_i hc
  replace hc := (recOkB_iff _).1 hc
  cases hr : Ytgmdjhokcipajaa.recRightB ⟨a0_0, a0_1, a0_2, a0_3, a0_4, a0_5, a0_6, a0_7, a0_8⟩ with
  | false =>
    rw [hr, if_neg (by decide)] at h
    cases h
    refine (Ytgmdjhokcipajaa.rec_Sector_no ⟨a0_0, a0_1, a0_2, a0_3, a0_4, a0_5, a0_6, a0_7, a0_8⟩ w hc hr).mono ?_
    rintro e w' ⟨rfl, hb⟩
    exact ⟨_, rfl, Kd.R_nil _ _ _ _ _, hb⟩
  | true =>
    rw [hr, if_pos rfl] at h
    cases h
    refine (Ytgmdjhokcipajaa.rec_Sector_yes ⟨a0_0, a0_1, a0_2, a0_3, a0_4, a0_5, a0_6, a0_7, a0_8⟩ w hc hr).mono ?_
    rintro e w' ⟨hb, g, hg, rfl, hB⟩
    refine ⟨_, rfl, Ytgmdjhokcipajaa.own8_R (Ytgmdjhokcipajaa.own8_of_bts hB hg (show 48 ≤ 140737488351232 by omega)) (fun _ _ => trivial), hb⟩

/-! ### rec_get: function 52 -/
-- EXT wayfarer/rec.get | making=0 | rounds=0
def rec_get.f (l0 : List Int) : Option (Int) := if 4 ≤ l0.length ∧ Ytgmdjhokcipajaa.byteB (l0.take 4) = true then some (Ytgmdjhokcipajaa.valB (l0.take 4)) else none
set_option maxHeartbeats 1000000 in
theorem rec_get.calls0 (A0 : Option Addr) (c0 : Nat) (l0 : List Int) (r : Int) (w : World) (hr0 : Kd.C (Kd.int .u8) w A0 l0.length l0) (hc0 : l0.length ≤ c0) (h : rec_get.f l0 = some r) :
    Calls Try.prog 52 #[.slice A0 l0.length c0] w fun e w' => e = .returned (.int .u32 r) ∧ w = w' := by
  unfold rec_get.f at h
  split at h
  case isFalse => cases h
  rename_i hc
  obtain ⟨h4, hb⟩ := hc
  cases h
  rw [Ytgmdjhokcipajaa.byteB_iff] at hb
  have HB := Lib.hid hb
  have HC := Lib.hid hr0
  clear hr0 hb
  have hc4 : 4 ≤ c0 := by omega
  have hc4i : (4 : Int) ≤ (c0 : Int) := by omega
  go_enter Try.func52, Try.ntmps52
  go_wp2
  go_loop [3, 9] (fun v i => ∃ j : Nat, j ≤ 4 ∧ i = .int .i64 j ∧ v = .int .u32 (Ytgmdjhokcipajaa.valB (l0.take j))) (fun _ i => 4 - (intOf i).toNat)
  case atStart => exact ⟨0, by omega, rfl, rfl⟩
  case round =>
    obtain ⟨j, hj, rfl, rfl⟩ := hrel
    by_cases hlt : j < 4
    · have hlt' : j < l0.length := by omega
      have E := Lib.hid (Ytgmdjhokcipajaa.take_val l0 j hlt')
      obtain ⟨x0, x1⟩ := HB.out l0[j] (by rw [List.mem_iff_getElem]; exact ⟨j, by simp; omega, by simp⟩)
      rw [← Ytgmdjhokcipajaa.rd_get l0 j hlt'] at x0 x1
      obtain ⟨ad, e, hx⟩ := Kd.at_int HC.out (j : Int) (by omega) (by omega)
      rw [Int.toNat_natCast] at hx
      subst e
      obtain ⟨y0, y1⟩ := Ytgmdjhokcipajaa.valB_bd3 (l0.take j) (by have := HB.out.take j; rwa [List.take_take, Nat.min_eq_left (by omega)] at this) (by simp; omega)
      have O := Lib.hid (Ytgmdjhokcipajaa.or_byte32 (Ytgmdjhokcipajaa.valB (l0.take j)) (rd l0 (j : Int)) y0 (by omega) ⟨x0, x1⟩)
      clear hlt'
      generalize rd l0 (j : Int) = x at *
      generalize Ytgmdjhokcipajaa.valB (l0.take j) = y at *
      go_wp2
      go_round
      case rel => exact ⟨j + 1, by omega, by go_num, by rw [E.out, O.out]⟩
      case measure => simp [intOf]; omega
    · obtain rfl : j = 4 := by omega
      go_wp2
      go_ret
      exact ⟨rfl, rfl⟩
theorem rec_get.calls (A0 : Option Addr) (c0 : Nat) (l0 : List Int) (r : Int) (w : World) (hr0 : Kd.C (Kd.int .u8) w A0 l0.length l0) (hc0 : l0.length ≤ c0) (h : rec_get.f l0 = some r) :
    Calls Try.prog 52 #[.slice A0 l0.length c0] w fun e w' => e = .returned (.int .u32 r) ∧ Drawn0 w w' :=
  (rec_get.calls0 A0 c0 l0 r w hr0 hc0 h).mono fun e w' h => ⟨h.1, by rw [← h.2]; exact Drawn0.refl _⟩

/-! ### rec_Of: function 30 -/
def rec_Of.j0 : Nat → List Int → Bool → Option (Int × Int × Int × Int × Int × Int × Bool × Int × Int × Bool)
  | 0, _, _ => none
  | k + 1, x0, x16 => if x16 = true then (some (0, 0, 0, 0, 0, 0, false, 0, 0, false)) else (if 0 < (x0.length : Int) then (if 4 ≤ (x0.length : Int) then ((rec_get.f (x0.drop 4)).bind fun t109 => (if 8 ≤ (x0.length : Int) then ((rec_get.f (x0.drop 8)).bind fun t111 => (if 12 ≤ (x0.length : Int) then ((rec_get.f (x0.drop 12)).bind fun t113 => (if 16 ≤ (x0.length : Int) then ((rec_get.f (x0.drop 16)).bind fun t115 => (if 20 < (x0.length : Int) then (if 1 < (x0.length : Int) then (if 24 ≤ (x0.length : Int) then ((rec_get.f (x0.drop 24)).bind fun t120 => (if 2 < (x0.length : Int) then (if 3 < (x0.length : Int) then ((rec_Rec_Right.f (wrap64 (rd x0 0)) t109 t111 t113 t115 (wrap64 (rd x0 20)) ((rd x0 1) == 1) t120 (Go.bits .or .u16 (IntKind.u16.wrap ((IntKind.u16.wrap (rd x0 2)) * 256)) (IntKind.u16.wrap (rd x0 3)))).bind fun t123 => (if t123 = true then ((rec_Rec_Sector.f (wrap64 (rd x0 0)) t109 t111 t113 t115 (wrap64 (rd x0 20)) ((rd x0 1) == 1) t120 (Go.bits .or .u16 (IntKind.u16.wrap ((IntKind.u16.wrap (rd x0 2)) * 256)) (IntKind.u16.wrap (rd x0 3)))).bind fun t124 => (if (strOfNums t124).toList = (strOfNums x0).toList then (some (wrap64 (rd x0 0), t109, t111, t113, t115, wrap64 (rd x0 20), ((rd x0 1) == 1), t120, Go.bits .or .u16 (IntKind.u16.wrap ((IntKind.u16.wrap (rd x0 2)) * 256)) (IntKind.u16.wrap (rd x0 3)), true)) else (some (0, 0, 0, 0, 0, 0, false, 0, 0, false)))) else (some (0, 0, 0, 0, 0, 0, false, 0, 0, false)))) else (none)) else (none))) else (none)) else (none)) else (none))) else (none))) else (none))) else (none))) else (none)) else (none))
def rec_Of.f (k : Nat) (l0 : List Int) : Option (Int × Int × Int × Int × Int × Int × Bool × Int × Int × Bool) := if (l0.length : Int) = 48 then (if 44 ≤ (l0.length : Int) then ((rec_get.f (l0.drop 44)).bind fun t104 => ((sum_Of.f k (l0.take 44)).bind fun t106 => (rec_Of.j0 k l0 (t104 != t106)))) else (none)) else (rec_Of.j0 k l0 true)
theorem rec_Of.mono_l : ∀ k, (∀ y0 y1, LeO (rec_Of.j0 k y0 y1) (rec_Of.j0 (k + 1) y0 y1))
  | 0 => fun _ _ r h => by simp [rec_Of.j0] at h
  | k + 1 => by
    have ih0 := rec_Of.mono_l k
    · intro y0 y1
      unfold rec_Of.j0
      repeat' first
      | (with_reducible exact ih0 _ _)
      | (with_reducible exact sum_Of.mono _ _)
      | (with_reducible exact LeO.refl _)
      | (with_reducible exact LeO.none _)
      | (with_reducible refine LeO.ite ?_ ?_)
      | (with_reducible refine LeO.bind ?_ (fun _ => ?_))
      | exact ih0 _ _
      | exact sum_Of.mono _ _
      | exact LeO.none _
      | refine LeO.ite ?_ ?_
      | refine LeO.bind ?_ (fun _ => ?_)
theorem rec_Of.mono : ∀ a0 k, LeO (rec_Of.f k a0) (rec_Of.f (k + 1) a0) := by
  intro a0 k
  have ih0 := rec_Of.mono_l k
  unfold rec_Of.f
  repeat' first
      | (with_reducible exact ih0 _ _)
      | (with_reducible exact sum_Of.mono _ _)
      | (with_reducible exact LeO.refl _)
      | (with_reducible exact LeO.none _)
      | (with_reducible refine LeO.ite ?_ ?_)
      | (with_reducible refine LeO.bind ?_ (fun _ => ?_))
      | exact ih0 _ _
      | exact sum_Of.mono _ _
      | exact LeO.none _
      | refine LeO.ite ?_ ?_
      | refine LeO.bind ?_ (fun _ => ?_)
def rec_Of.T1 : Bool × List (List Nat × List Nat) := (true, [([], []), ([0], [0]), ([1], [1]), ([2], [2]), ([3], [3]), ([4, 3], [3, 4]), ([5, 3, 3], [3, 5]), ([3], [3]), ([7, 3], [3, 7]), ([8, 6, 3], [3, 8]), ([6, 9, 3], [3, 6, 9]), ([3, 10], [3, 10])])
def rec_Of.B1 : List Nat := [0, 1, 3, 7, 15, 31, 63, 15, 143, 511, 1023, 2047]
theorem rec_Of.tab1 : rtab .any (opsOf Try.f30 1) = rec_Of.T1 := by kernel_rfl
theorem rec_Of.bits1 : waitsOk rec_Of.T1.2 rec_Of.B1 = true := by kernel_rfl
def rec_Of.T3 : Bool × List (List Nat × List Nat) := (true, [([], []), ([0], [0]), ([1], [1]), ([2], [2]), ([], []), ([4], [4]), ([5], [5]), ([], []), ([7], [7]), ([8, 6], [8]), ([], []), ([10], [10]), ([11, 9], [11]), ([], []), ([13], [13]), ([14, 12], [14]), ([], []), ([16], [16]), ([17], [17]), ([18], [18]), ([15, 19], [15, 19]), ([], []), ([21], [21]), ([22], [22]), ([23], [23]), ([3, 6, 9, 12, 20, 24], [3, 6, 9, 12, 20, 24]), ([], []), ([26, 25, 15, 0, 1, 2, 3, 4, 5, 6, 7, 8, 9, 10, 11, 12, 13, 14, 15, 16, 17, 18, 19, 20, 21, 22, 23, 24, 25, 26], [25, 26])])
def rec_Of.B3 : List Nat := [0, 1, 3, 7, 0, 16, 48, 0, 128, 496, 0, 1024, 4080, 0, 8192, 32752, 0, 65536, 196608, 458752, 1048560, 0, 2097152, 6291456, 14680064, 33554431, 0, 134217727]
theorem rec_Of.tab3 : rtab .any (opsOf Try.f30 3) = rec_Of.T3 := by kernel_rfl
theorem rec_Of.bits3 : waitsOk rec_Of.T3.2 rec_Of.B3 = true := by kernel_rfl
def rec_Of.T4 : Bool × List (List Nat × List Nat) := (true, [([], []), ([0], [0]), ([1], [1]), ([], []), ([3], [3]), ([4], [4]), ([5], [5]), ([6], [6]), ([], []), ([8], [8]), ([9], [9]), ([10], [10]), ([7, 11], [7, 11]), ([2, 12], [2, 12]), ([0, 1, 2, 3, 4, 5, 6, 7, 8, 9, 10, 11, 12, 13], []), ([14, 13, 2, 0, 1, 2, 3, 4, 5, 6, 7, 8, 9, 10, 11, 12, 13], [13, 14])])
def rec_Of.B4 : List Nat := [0, 1, 3, 0, 8, 24, 56, 120, 0, 256, 768, 1792, 4088, 8191, 16383, 32767]
theorem rec_Of.tab4 : rtab .any (opsOf Try.f30 4) = rec_Of.T4 := by kernel_rfl
theorem rec_Of.bits4 : waitsOk rec_Of.T4.2 rec_Of.B4 = true := by kernel_rfl
def rec_Of.T5 : Bool × List (List Nat × List Nat) := (true, [([], []), ([0], [0]), ([1], [1]), ([2, 1], [2]), ([3], [3]), ([4, 3, 3], [3, 4]), ([5, 3], [3, 5]), ([3], [3]), ([7, 3], [3, 7]), ([6, 8, 3], [3, 6, 8]), ([3, 9], [3, 9])])
def rec_Of.B5 : List Nat := [0, 1, 3, 7, 15, 31, 63, 15, 143, 511, 1023]
theorem rec_Of.tab5 : rtab .any (opsOf Try.f30 5) = rec_Of.T5 := by kernel_rfl
theorem rec_Of.bits5 : waitsOk rec_Of.T5.2 rec_Of.B5 = true := by kernel_rfl

end Go.Proofs.YtgmdjhokcipajaaQ.PRec
