import Derived.Test.YtgmdjhokcipajaaSum
set_option linter.unusedVariables false
set_option linter.unusedSimpArgs false
namespace Go.Proofs.Ytgmdjhokcipajaa
open Go.RowKit

def lawBit (c s : Int) (i : Nat) : Int :=
  if ((Go.bits .and .u8 (c / 2 ^ i) 1 == 1) != decide (2147483648 ≤ s)) then Go.bits .xor .u32 ((s * 2) % 4294967296) 79764919 else (s * 2) % 4294967296
/-- The bits 7, .., 8 - n. -/
def lawBits (c s : Int) : Nat → Int
  | 0 => s
  | n + 1 => lawBit c (lawBits c s n) (7 - n)
def lawCrc (l : List Int) : Int := l.foldl (fun s c => lawBits c s 8) 4294967295
theorem lawCrc_take (l : List Int) (k : Nat) (h : k < l.length) : lawCrc (l.take (k + 1)) = lawBits l[k] (lawCrc (l.take k)) 8 := by
  unfold lawCrc
  rw [List.take_succ_eq_append_getElem h, List.foldl_append]
  rfl

theorem law01_Of (l : List Int) (A : Option Addr) (c : Nat) (w : World) (hr : Row w 1 A l.length (u8s l)) (hb : Byte l) :
    Calls Try.prog 16 #[.slice A l.length c] w fun e w' => e = .returned (.int .u32 (lawCrc l)) ∧ w' = w := by
  obtain ⟨-, hn, hc⟩ := hr
  go_enter Try.func16, Try.ntmps16
  go_wp2
  go_loop [3, 11] (fun s i => ∃ k : Nat, k ≤ l.length ∧ i = .int .i64 k ∧ s = .int .u32 (lawCrc (l.take k))) (fun _ i => l.length - (intOf i).toNat)
  case atStart => exact ⟨0, Nat.zero_le _, rfl, rfl⟩
  case round =>
    obtain ⟨k, hk, rfl, rfl⟩ := hrel
    by_cases hlt : k < l.length
    · obtain ⟨b, off, rfl, hbl, hcell⟩ := hc (by omega)
      have hx := hcell k _ (u8s_get l k hlt)
      have hbd := hb.get k hlt
      clear hcell hc
      go_wp2
      go_loop [3, 6] (fun s i => ∃ m : Nat, m ≤ 8 ∧ i = .int .i64 (7 - (m : Int)) ∧ s = .int .u32 (lawBits l[k] (lawCrc (l.take k)) m)) (fun _ i => (1 + intOf i).toNat)
      case atStart => exact ⟨0, Nat.zero_le _, rfl, rfl⟩
      case round =>
        obtain ⟨m, hm, rfl, rfl⟩ := hrel
        by_cases hm8 : m < 8
        · have HS := Lib.hid (show lawBits l[k] (lawCrc (l.take k)) (m + 1) = lawBit l[k] (lawBits l[k] (lawCrc (l.take k)) m) (7 - m) from rfl)
          by_cases hq : (!(Go.bits .and .u8 (l[k] / 2 ^ (7 - m)) 1 == 1) == decide (2147483648 ≤ lawBits l[k] (lawCrc (l.take k)) m)) = true
          · go_wp2
            go_round
            case rel => exact ⟨m + 1, by omega, by congr 1; omega, by rw [HS.out, lawBit, bne, if_pos hq]⟩
            case measure => simp [intOf]; omega
          · have hq' : (!(Go.bits .and .u8 (l[k] / 2 ^ (7 - m)) 1 == 1) == decide (2147483648 ≤ lawBits l[k] (lawCrc (l.take k)) m)) = false := by simpa using hq
            clear hq
            go_wp2
            go_round
            case rel => exact ⟨m + 1, by omega, by congr 1; omega, by rw [HS.out, lawBit, bne, if_neg (by simp [hq'])]⟩
            case measure => simp [intOf]; omega
        · obtain rfl : m = 8 := by omega
          have HS := Lib.hid (lawCrc_take l k hlt)
          go_wp2
          go_round
          case rel => exact ⟨k + 1, by omega, by go_num, by rw [HS.out]⟩
          case measure => simp [intOf]; omega
    · obtain rfl : k = l.length := by omega
      go_wp2
      go_ret
      exact ⟨rfl, rfl⟩
end Go.Proofs.Ytgmdjhokcipajaa
