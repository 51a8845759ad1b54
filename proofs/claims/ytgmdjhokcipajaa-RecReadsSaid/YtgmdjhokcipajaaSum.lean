import Derived.Test.YtgmdjhokcipajaaBase
set_option linter.unusedVariables false
set_option linter.unusedSimpArgs false
namespace Go.Proofs.Ytgmdjhokcipajaa
open Go.RowKit

/-- One bit of the sum. -/
def crcStep (s : Int) : Int := if s / 2147483648 = 1 then Go.bits .xor .u32 ((s * 2) % 4294967296) 79764919 else (s * 2) % 4294967296
def crcBits : Nat → Int → Int
  | 0, s => s
  | n + 1, s => crcStep (crcBits n s)
def crcByte (s c : Int) : Int := crcBits 8 (Go.bits .xor .u32 s ((c * 16777216) % 4294967296))
def crc (l : List Int) : Int := l.foldl crcByte 4294967295

theorem crc_take (l : List Int) (k : Nat) (h : k < l.length) (hb : Byte l) : crc (l.take (k + 1)) = crcBits 8 (Go.bits .xor .u32 (crc (l.take k)) (l[k] * 16777216)) := by
  have := hb.get k h
  unfold crc
  rw [List.take_succ_eq_append_getElem h, List.foldl_append]
  simp only [List.foldl_cons, List.foldl_nil, crcByte]
  rw [show l[k] * 16777216 % 4294967296 = l[k] * 16777216 from by omega]

theorem sum_Of (l : List Int) (A : Option Addr) (c : Nat) (w : World) (hr : Row w 1 A l.length (u8s l)) (hb : Byte l) :
    Calls Try.prog 15 #[.slice A l.length c] w fun e w' => e = .returned (.int .u32 (crc l)) ∧ w' = w := by
  obtain ⟨-, hn, hc⟩ := hr
  go_enter Try.func15, Try.ntmps15
  go_wp2
  go_loop [3, 8] (fun s i => ∃ k : Nat, k ≤ l.length ∧ i = .int .i64 k ∧ s = .int .u32 (crc (l.take k))) (fun _ i => l.length - (intOf i).toNat)
  case atStart => exact ⟨0, Nat.zero_le _, rfl, rfl⟩
  case round =>
    obtain ⟨k, hk, rfl, rfl⟩ := hrel
    by_cases hlt : k < l.length
    · obtain ⟨b, off, rfl, hbl, hcell⟩ := hc (by omega)
      have hx := hcell k _ (u8s_get l k hlt)
      have hbd := hb.get k hlt
      clear hcell hc
      go_wp2
      go_loop [3, 17] (fun s i => ∃ m : Nat, m ≤ 8 ∧ i = .int .i64 m ∧ s = .int .u32 (crcBits m (Go.bits .xor .u32 (crc (l.take k)) (l[k] * 16777216)))) (fun _ i => 8 - (intOf i).toNat)
      case atStart => exact ⟨0, Nat.zero_le _, rfl, rfl⟩
      case round =>
        obtain ⟨m, hm, rfl, rfl⟩ := hrel
        by_cases hm8 : m < 8
        · have hst : crcBits (m + 1) (Go.bits .xor .u32 (crc (l.take k)) (l[k] * 16777216)) = crcStep (crcBits m (Go.bits .xor .u32 (crc (l.take k)) (l[k] * 16777216))) := rfl
          have HS := Lib.hid hst
          clear hst
          by_cases hs : crcBits m (Go.bits .xor .u32 (crc (l.take k)) (l[k] * 16777216)) / 2147483648 = 1
          all_goals
            go_wp2
            go_round
            case rel => exact ⟨m + 1, by omega, by go_num, by rw [HS.out]; simp [crcStep, hs]⟩
            case measure => simp [intOf]; omega
        · obtain rfl : m = 8 := by omega
          go_wp2
          go_round
          case rel => exact ⟨k + 1, by omega, by go_num, by rw [crc_take l k hlt hb]⟩
          case measure => simp [intOf]; omega
    · obtain rfl : k = l.length := by omega
      go_wp2
      go_ret
      exact ⟨rfl, rfl⟩
end Go.Proofs.Ytgmdjhokcipajaa
