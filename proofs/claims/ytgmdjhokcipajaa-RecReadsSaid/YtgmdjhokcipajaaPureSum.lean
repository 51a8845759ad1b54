import Derived.Test.YtgmdjhokcipajaaLaw01
set_option linter.unusedVariables false
set_option linter.unusedSimpArgs false
namespace Go.Proofs.Ytgmdjhokcipajaa
open Go.RowKit

theorem xor32 (a b : BitVec 32) : Go.bits .xor .u32 (a.toNat : Int) (b.toNat : Int) = ((a ^^^ b).toNat : Int) := by
  rw [u32_xor_nat _ _ a.isLt b.isLt, BitVec.toNat_xor]
def bstep (t : Bool) (s : BitVec 32) : BitVec 32 := if t then (s <<< 1) ^^^ 79764919#32 else s <<< 1
theorem shl1 (s : BitVec 32) : (s.toNat : Int) * (2 : Int) % (4294967296 : Int) = ((s <<< 1).toNat : Int) := by
  rw [BitVec.toNat_shiftLeft, Nat.shiftLeft_eq]; omega
theorem crcStep_bv (s : BitVec 32) : crcStep (s.toNat : Int) = ((bstep s.msb s).toNat : Int) := by
  have hlt := s.isLt
  have hm : s.msb = decide (2147483648 ≤ s.toNat) := by rw [BitVec.msb_eq_decide]
  unfold crcStep bstep
  rw [shl1, hm]
  by_cases h : 2147483648 ≤ s.toNat
  · rw [if_pos (by omega), if_pos (by simpa using h)]
    exact xor32 _ 79764919#32
  · rw [if_neg (by omega), if_neg (by simpa using h)]
theorem lawBit_bv (c : Int) (s : BitVec 32) (i : Nat) (t : Bool) (ht : (Go.bits .and .u8 (c / 2 ^ i) 1 == 1) = t) : lawBit c (s.toNat : Int) i = ((bstep (t != s.msb) s).toNat : Int) := by
  have hlt := s.isLt
  have hm : s.msb = decide (2147483648 ≤ s.toNat) := by rw [BitVec.msb_eq_decide]
  have hd : decide ((2147483648 : Int) ≤ (s.toNat : Int)) = s.msb := by rw [hm]; congr 1; simp; omega
  unfold lawBit bstep
  rw [ht, shl1, hd]
  split
  · exact xor32 _ 79764919#32
  · rfl
theorem bstep_xor (s d : BitVec 32) : bstep (s ^^^ d).msb (s ^^^ d) = bstep (d.msb != s.msb) s ^^^ (d <<< 1) := by
  unfold bstep
  rw [BitVec.msb_xor, BitVec.shiftLeft_xor_distrib]
  cases s.msb <;> cases d.msb <;> simp [BitVec.xor_assoc, BitVec.xor_comm (d <<< 1)]
theorem bit_of (c : Nat) (hc : c < 256) (i : Nat) (hi : i < 8) : (Go.bits .and .u8 ((c : Int) / 2 ^ i) 1 == 1) = ((BitVec.ofNat 32 c) <<< (24 + (7 - i))).msb := by
  have h : ∀ c : Fin 256, ∀ i : Fin 8, (Go.bits .and .u8 ((c.val : Int) / 2 ^ i.val) 1 == 1) = ((BitVec.ofNat 32 c.val) <<< (24 + (7 - i.val))).msb := by decide +kernel
  exact h ⟨c, hc⟩ ⟨i, hi⟩
theorem bits_eq (c : Nat) (hc : c < 256) (s : BitVec 32) : ∀ n, n ≤ 8 → ∃ x : BitVec 32, lawBits c (s.toNat : Int) n = (x.toNat : Int) ∧ crcBits n ((s ^^^ (BitVec.ofNat 32 c <<< 24)).toNat : Int) = ((x ^^^ (BitVec.ofNat 32 c <<< (24 + n))).toNat : Int) := by
  intro n
  induction n with
  | zero => exact fun _ => ⟨s, rfl, rfl⟩
  | succ n ih =>
    intro hn
    obtain ⟨x, h1, h2⟩ := ih (by omega)
    refine ⟨bstep ((BitVec.ofNat 32 c <<< (24 + n)).msb != x.msb) x, ?_, ?_⟩
    · rw [lawBits, h1]
      refine lawBit_bv _ _ _ _ ?_
      rw [bit_of c hc (7 - n) (by omega), show 24 + (7 - (7 - n)) = 24 + n by omega]
    · rw [crcBits, h2, crcStep_bv, bstep_xor, ← BitVec.shiftLeft_add]
      rfl
theorem byte_eq (c : Nat) (hc : c < 256) (s : BitVec 32) : ∃ x : BitVec 32, lawBits c (s.toNat : Int) 8 = (x.toNat : Int) ∧ crcByte (s.toNat : Int) c = (x.toNat : Int) := by
  obtain ⟨x, h1, h2⟩ := bits_eq c hc s 8 (Nat.le_refl _)
  refine ⟨x, h1, ?_⟩
  have hz : BitVec.ofNat 32 c <<< 32 = 0#32 := by rw [BitVec.shiftLeft_eq_zero (Nat.le_refl _)]
  rw [show 24 + 8 = 32 from rfl, hz, BitVec.xor_zero] at h2
  have hx : ((c : Int) * (16777216 : Int) % (4294967296 : Int)) = ((BitVec.ofNat 32 c <<< 24).toNat : Int) := by
    rw [BitVec.toNat_shiftLeft, BitVec.toNat_ofNat, Nat.shiftLeft_eq]; omega
  unfold crcByte
  rw [hx, xor32]
  exact h2
theorem fold_eq (l : List Int) (hb : Byte l) : ∀ s : BitVec 32, ∃ x : BitVec 32, l.foldl (fun s c => lawBits c s 8) (s.toNat : Int) = (x.toNat : Int) ∧ l.foldl crcByte (s.toNat : Int) = (x.toNat : Int) := by
  induction l with
  | nil => exact fun s => ⟨s, rfl, rfl⟩
  | cons c l ih =>
    intro s
    obtain ⟨h0, h1⟩ := hb c (by simp)
    obtain ⟨n, rfl⟩ := Int.eq_ofNat_of_zero_le h0
    obtain ⟨x, e1, e2⟩ := byte_eq n (by omega) s
    obtain ⟨y, f1, f2⟩ := ih (fun z hz => hb z (by simp [hz])) x
    refine ⟨y, ?_, ?_⟩
    · rw [List.foldl_cons, e1]; exact f1
    · rw [List.foldl_cons, e2]; exact f2
theorem crc_lt (l : List Int) (hb : Byte l) : 0 ≤ crc l ∧ crc l ≤ 4294967295 := by
  obtain ⟨x, _, h⟩ := fold_eq l hb 4294967295#32
  have : crc l = (x.toNat : Int) := h
  have := x.isLt
  omega
theorem crc_eq (l : List Int) (hb : Byte l) : crc l = lawCrc l := by
  obtain ⟨x, h1, h2⟩ := fold_eq l hb 4294967295#32
  exact h2.trans h1.symm
theorem crc_head : crc [49, 50, 51, 52, 53, 54, 55, 56, 57] = 58124007 := by decide +kernel
end Go.Proofs.Ytgmdjhokcipajaa
