import Derived.Test.YtgmdjhokcipajaaTlvM
import Derived.Test.YtgmdjhokcipajaaRegion
import Derived.Test.YtgmdjhokcipajaaWMore
import Derived.Laws.CopyOwn
import Derived.Lib.LazyBuf
set_option linter.unusedVariables false
set_option linter.unusedSimpArgs false
namespace Go.Proofs.Ytgmdjhokcipajaa
open Go.RowKit
open Go.Proofs.YtgmdjhokcipajaaW.PrintWords (Kd rd)
/-! 'get' of at most four bytes leaves the world just as it is. -/
theorem rd_get (l : List Int) (j : Nat) (h : j < l.length) : rd l (j : Int) = l[j] := by
  simp [rd, h]
theorem take_val (l : List Int) (j : Nat) (h : j < l.length) : valB (l.take (j + 1)) = valB (l.take j) * 256 + rd l (j : Int) := by
  rw [List.take_succ_eq_append_getElem h, valB_snoc, rd_get l j h]
theorem valB_bd3 (l : List Int) (h : Byte l) (hl : l.length ≤ 3) : 0 ≤ valB l ∧ valB l ≤ 16777215 := by
  have h1 := valB_bd l h
  have h2 : (256 : Int) ^ l.length ≤ 256 ^ 3 := by
    rcases (show l.length = 0 ∨ l.length = 1 ∨ l.length = 2 ∨ l.length = 3 by omega) with e | e | e | e <;> rw [e] <;> decide
  omega
theorem tlv_get_x (A : Option Addr) (c : Nat) (l : List Int) (w : World) (hr : Kd.C (Kd.int .u8) w A l.length l) (hc : l.length ≤ c) (hb : Byte l) (h4 : l.length ≤ 4) :
    Calls Try.prog 55 #[.slice A l.length c] w fun e w' => e = .returned (.int .u32 (valB l)) ∧ w' = w := by
  have HB := Lib.hid hb
  have HC := Lib.hid hr
  clear hr hb
  go_enter Try.func55, Try.ntmps55
  go_wp2
  go_loop [3, 8] (fun v i => ∃ j : Nat, j ≤ l.length ∧ i = .int .i64 j ∧ v = .int .u32 (valB (l.take j))) (fun _ i => l.length - (intOf i).toNat)
  case atStart => exact ⟨0, by omega, rfl, rfl⟩
  case round =>
    obtain ⟨j, hj, rfl, rfl⟩ := hrel
    by_cases hlt : j < l.length
    · have E := Lib.hid (take_val l j hlt)
      obtain ⟨x0, x1⟩ := HB.out l[j] (List.getElem_mem hlt)
      rw [← rd_get l j hlt] at x0 x1
      obtain ⟨ad, e, hx⟩ := Kd.at_int HC.out (j : Int) (by omega) (by omega)
      rw [Int.toNat_natCast] at hx
      subst e
      obtain ⟨y0, y1⟩ := valB_bd3 (l.take j) (HB.out.take j) (by simp; omega)
      have O := Lib.hid (or_byte32 (valB (l.take j)) (rd l (j : Int)) y0 (by omega) ⟨x0, x1⟩)
      generalize rd l (j : Int) = x at *
      generalize valB (l.take j) = y at *
      go_wp2
      go_round
      case rel => exact ⟨j + 1, by omega, by go_num, by rw [E.out, O.out]⟩
      case measure => simp [intOf]; omega
    · obtain rfl : j = l.length := by omega
      go_wp2
      go_ret
      exact ⟨rfl, rfl⟩
theorem tlv_size_x (n : Int) (w : World) (h0 : 0 ≤ n) (h1 : n ≤ 255) : Calls Try.prog 62 #[.int .i64 n] w fun e w' => e = .returned (.int .i64 (szB n)) ∧ w = w' := by
  go_enter Try.func62, Try.ntmps62
  go_wp2
  go_ret
  exact ⟨rfl, rfl⟩
theorem szB_bd (n : Int) (h0 : 0 ≤ n) (h1 : n ≤ 32) : 0 ≤ szB n ∧ szB n ≤ 4 := by unfold szB; omega
theorem C_of_blk {w : World} {g : Nat} {t : TypeId} (l : List Int) (h : Blk w g t (u8s l).toArray) (hl : l.length ≤ 9223372036854775807) : Kd.C (Kd.int .u8) w (some ⟨g, 0, none⟩) l.length l := by
  refine ⟨rfl, hl, fun _ => ⟨_, rfl, fun j p hj => ⟨[.int .u8 p], rfl, rfl, fun i u hu => ?_⟩⟩⟩
  have hi : i = 0 := by
    cases i with
    | zero => rfl
    | succ i => simp at hu
  subst hi
  have e : (⟨g, 0, none⟩ : Addr).add (j * (Kd.int .u8).sz + 0) = ⟨g, j, none⟩ := by
    simp [Kd.int, Kd.scalar, Addr.add]
    intro h; omega
  rw [e, h.cell j]
  have hu' : Value.int .u8 p = u := by simpa using hu
  subst hu'
  simp [u8s, hj]
theorem C_cells {w : World} {ad : Addr} {l : List Int} (h : Kd.C (Kd.int .u8) w (some ad) l.length l) (i : Nat) (hi : i < l.length) (h0 : i ≠ 0) (j : Nat) (v : Value) (hv : (u8s (l.drop i))[j]? = some v) :
    w.cell? (({ block := ad.block, off := ad.off + i } : Addr).add j) = some v := by
  obtain ⟨ad', e, hc⟩ := h.2.2 (by omega)
  cases e
  simp only [u8s, List.getElem?_map, List.getElem?_drop, Option.map_eq_some_iff] at hv
  obtain ⟨x, hx, rfl⟩ := hv
  obtain ⟨c, -, hR, hcell⟩ := hc _ _ hx
  have hR' : c = [Value.int .u8 x] := hR
  have := hcell 0 (.int .u8 x) (by rw [hR']; rfl)
  have e2 : (({ block := ad.block, off := ad.off + i } : Addr).add j) = ad.add ((i + j) * (Kd.int .u8).sz + 0) := by
    show _ = ad.add ((i + j) * 1 + 0)
    simp only [Addr.add, Nat.mul_one, Nat.add_zero]
    rw [if_neg (show ¬ i + j = 0 by omega)]
    split
    · rename_i h0j; subst h0j; simp
    · simp [Nat.add_assoc]
  rw [e2]
  exact this
theorem get_pad (g : Nat) (t : TypeId) (l : List Int) (w : World) (h : Blk w g t (u8s (padB l)).toArray) (hb : Byte l) :
    Calls Try.prog 55 #[.slice (some ⟨g, 0, none⟩) 4 4] w fun e w' => e = .returned (.int .u32 (valB (padB l))) ∧ w = w' := by
  have hC := C_of_blk (padB l) h (by rw [padB_len]; omega)
  have := tlv_get_x (some ⟨g, 0, none⟩) 4 (padB l) w hC (by rw [padB_len]; omega) hb.pad (by rw [padB_len]; omega)
  rw [padB_len] at this
  exact this.mono fun e w' ⟨h1, h2⟩ => ⟨h1, h2.symm⟩
theorem pad_splice (l : List Int) (h : l.length ≤ 4) : splice [Value.int .u8 0, .int .u8 0, .int .u8 0, .int .u8 0] 0 (u8s l) = u8s (padB l) := by
  match l, h with
  | [], _ => rfl
  | [_], _ => rfl
  | [_, _], _ => rfl
  | [_, _, _], _ => rfl
  | [_, _, _, _], _ => rfl
theorem C_mid {k : IntKind} {w : World} {ad : Addr} {l : List Int} (c : Nat) (h : Kd.C (Kd.int k) w (some ad) l.length l) (i n : Nat) (h1 : i + n ≤ l.length) (hc : l.length ≤ c) (hi : i < c) : Kd.C (Kd.int k) w (some (ad.add i)) n ((l.drop i).take n) := by
  have h2 := Kd.C_drop (m := i) h (by omega) hc
  rw [if_neg (by omega)] at h2
  have h3 := Kd.C_take (m := n) h2 (by rw [List.length_drop]; omega)
  rw [List.length_take, List.length_drop, Nat.min_eq_left (by omega)] at h3
  simpa [Kd.int, Kd.scalar] using h3
theorem get_mid (c : Nat) (ad : Addr) (l : List Int) (i n : Nat) (h1 : i + n ≤ l.length) (hc : l.length ≤ c) (hi : i < c) (hn : n ≤ 4) (hb : Byte l) (W : World) (h : Kd.C (Kd.int .u8) W (some ad) l.length l) :
    Calls Try.prog 55 #[.slice (some (ad.add i)) n (c - i)] W fun e w' => e = .returned (.int .u32 (valB ((l.drop i).take n))) ∧ w' = W := by
  have hl : ((l.drop i).take n).length = n := by rw [List.length_take, List.length_drop, Nat.min_eq_left (by omega)]
  have := tlv_get_x (some (ad.add i)) (c - i) ((l.drop i).take n) W (by rw [hl]; exact C_mid c h i n h1 hc hi) (by rw [hl]; omega) ((hb.drop i).take n) (by rw [hl]; exact hn)
  rw [hl] at this
  exact this
end Go.Proofs.Ytgmdjhokcipajaa
