/- Texts of this proof, one behind the other: lemmas for the row at the claim's end. No condition of their own. -/
import Derived.Test.YtgmdjhokcipajaaPRec4
import Derived.Test.YtgmdjhokcipajaaOwnS
import Derived.Test.YtgmdjhokcipajaaRegion
import Derived.Test.YtgmdjhokcipajaaLaw05
import Derived.Test.YtgmdjhokcipajaaApp
section
set_option linter.unusedVariables false
set_option linter.unusedSimpArgs false
namespace Go.Proofs.YtgmdjhokcipajaaQ.PRec
open Go.RowKit Go.Proofs.YtgmdjhokcipajaaW.PrintWords Go.Proofs.YtgmdjhokcipajaaW.PrintMore
open Go.Proofs.Ytgmdjhokcipajaa (four valB rightB Byte byteB byteB_iff four_len Rec sector head44 recRightB crc crcByte crcBits crcStep lawCrc lawBits lawBit crc_lt crc_eq onI right_bd head44_byte cat4_four)
/-! The sums and what a sector says, in plain lists. -/
theorem w64 (x : Int) (h0 : -9223372036854775808 ≤ x) (h1 : x ≤ 9223372036854775807) : wrap64 x = x := by unfold wrap64; omega
theorem crcBits_front (n : Nat) (s : Int) : crcBits n (crcStep s) = crcBits (n + 1) s := by
  induction n with
  | zero => rfl
  | succ n ih => simp only [crcBits] at ih ⊢; rw [ih]
theorem sum_l1 (K : Nat) (l : List Int) (L i : Int) : ∀ (n : Nat) (s : Int), n ≤ 8 → sum_Of.l1 (K + n + 1) s l L i (8 - (n : Int)) = sum_Of.l0 K (crcBits n s) l L (wrap64 (i + 1))
  | 0, s, _ => by simp [sum_Of.l1, crcBits]
  | n + 1, s, hn => by
    have ih := sum_l1 K l L i n (crcStep s) (by omega)
    rw [crcBits_front] at ih
    rw [← ih, show K + (n + 1) + 1 = (K + n + 1) + 1 by omega]
    rw [sum_Of.l1, if_pos (by omega), show wrap64 (8 - ((n + 1 : Nat) : Int) + 1) = 8 - (n : Int) by rw [w64 _ (by omega) (by omega)]; omega]
    unfold crcStep
    split <;> rfl
theorem sum_l0 (K : Nat) (l : List Int) (hb : Byte l) (hl : l.length ≤ 1000000) : ∀ (n j : Nat) (s : Int), j + n = l.length → sum_Of.l0 (K + 10 * n + 1) s l (l.length : Int) (j : Int) = some ((l.drop j).foldl crcByte s)
  | 0, j, s, h => by
    obtain rfl : j = l.length := by omega
    simp [sum_Of.l0]
  | n + 1, j, s, h => by
    have hj : j < l.length := by omega
    have ih := sum_l0 K l hb hl n (j + 1) (crcByte s l[j]) (by omega)
    obtain ⟨c0, c1⟩ := hb l[j] (List.getElem_mem hj)
    rw [List.drop_eq_getElem_cons hj, List.foldl_cons, ← ih]
    rw [show K + 10 * (n + 1) + 1 = (K + 10 * n + 1 + 8 + 1) + 1 by omega, sum_Of.l0, if_pos (by omega), if_pos (by omega), if_pos (by omega)]
    have := sum_l1 (K + 10 * n + 1) l (l.length : Int) (j : Int) 8 (Go.bits .xor .u32 s ((((rd l (j : Int)) % 4294967296) * 16777216) % 4294967296)) (by omega)
    rw [show (8 : Int) - ((8 : Nat) : Int) = 0 by rfl] at this
    rw [this, w64 _ (by omega) (by omega)]
    have hr : rd l (j : Int) = l[j] := by simp [rd, hj]
    rw [hr, show l[j] % 4294967296 = l[j] by omega]
    rfl
theorem sum_nice (k : Nat) (l : List Int) (hb : Byte l) (hl : l.length ≤ 1000000) (hk : 10 * l.length + 1 ≤ k) : sum_Of.f k l = some (crc l) := by
  obtain ⟨K, rfl⟩ : ∃ K, k = K + 10 * l.length + 1 := ⟨k - (10 * l.length + 1), by omega⟩
  have := sum_l0 K l hb hl l.length 0 4294967295 (by omega)
  rw [List.drop_zero] at this
  exact this
theorem law_step (k : Nat) (s c : Int) (i : Nat) (hi : i ≤ 7) (l : List Int) (L x : Int) : wayfarerlaw01_Of.l1 (k + 1) s c (i : Int) l L x = wayfarerlaw01_Of.l1 k (lawBit c s i) c ((i : Int) - 1) l L x := by
  rw [wayfarerlaw01_Of.l1, if_pos (by omega)]
  have hw : IntKind.u64.wrap (i : Int) = (i : Int) := by rw [IntKind.wrap_u64]; omega
  rw [hw, if_pos (by omega), w64 _ (by omega) (by omega)]
  have hs : shr .u8 c (i : Int) = c / 2 ^ i := by unfold shr; rw [Int.toNat_natCast, Nat.min_eq_left (show i ≤ IntKind.u8.bits from (show i ≤ 8 by omega))]
  rw [hs]
  unfold lawBit
  simp only [ge_iff_le]
  split <;> rfl
theorem law_l1 (K : Nat) (c : Int) (l : List Int) (L x s : Int) : wayfarerlaw01_Of.l1 (K + 9) s c 7 l L x = wayfarerlaw01_Of.l0 K (lawBits c s 8) l L (wrap64 (x + 1)) := by
  have st := fun k s i hi => law_step k s c i hi l L x
  rw [show (7 : Int) = ((7 : Nat) : Int) from rfl, st (K + 8) _ 7 (by omega), show ((7 : Nat) : Int) - 1 = ((6 : Nat) : Int) from rfl, st (K + 7) _ 6 (by omega), show ((6 : Nat) : Int) - 1 = ((5 : Nat) : Int) from rfl, st (K + 6) _ 5 (by omega),
    show ((5 : Nat) : Int) - 1 = ((4 : Nat) : Int) from rfl, st (K + 5) _ 4 (by omega), show ((4 : Nat) : Int) - 1 = ((3 : Nat) : Int) from rfl, st (K + 4) _ 3 (by omega), show ((3 : Nat) : Int) - 1 = ((2 : Nat) : Int) from rfl, st (K + 3) _ 2 (by omega),
    show ((2 : Nat) : Int) - 1 = ((1 : Nat) : Int) from rfl, st (K + 2) _ 1 (by omega), show ((1 : Nat) : Int) - 1 = ((0 : Nat) : Int) from rfl, st (K + 1) _ 0 (by omega)]
  rw [wayfarerlaw01_Of.l1, if_neg (by decide)]
  rfl
theorem law_l0 (K : Nat) (l : List Int) (hl : l.length ≤ 1000000) : ∀ (n j : Nat) (s : Int), j + n = l.length → wayfarerlaw01_Of.l0 (K + 10 * n + 1) s l (l.length : Int) (j : Int) = some ((l.drop j).foldl (fun s c => lawBits c s 8) s)
  | 0, j, s, h => by
    obtain rfl : j = l.length := by omega
    simp [wayfarerlaw01_Of.l0]
  | n + 1, j, s, h => by
    have hj : j < l.length := by omega
    have ih := law_l0 K l hl n (j + 1) (lawBits l[j] s 8) (by omega)
    rw [List.drop_eq_getElem_cons hj, List.foldl_cons, ← ih]
    rw [show K + 10 * (n + 1) + 1 = (K + 10 * n + 1 + 9) + 1 by omega, wayfarerlaw01_Of.l0, if_pos (by omega), if_pos (by omega), if_pos (by omega), law_l1, w64 _ (by omega) (by omega)]
    have hr : rd l (j : Int) = l[j] := by simp [rd, hj]
    rw [hr]
    rfl
theorem law_nice (k : Nat) (l : List Int) (hl : l.length ≤ 1000000) (hk : 10 * l.length + 1 ≤ k) : wayfarerlaw01_Of.f k l = some (lawCrc l) := by
  obtain ⟨K, rfl⟩ : ∃ K, k = K + 10 * l.length + 1 := ⟨k - (10 * l.length + 1), by omega⟩
  have := law_l0 K l hl l.length 0 4294967295 (by omega)
  rw [List.drop_zero] at this
  exact this
end Go.Proofs.YtgmdjhokcipajaaQ.PRec
end
section
set_option linter.unusedVariables false
set_option linter.unusedSimpArgs false
namespace Go.Proofs.YtgmdjhokcipajaaQ.PRec
open Go.RowKit Go.Proofs.YtgmdjhokcipajaaW.PrintWords Go.Proofs.YtgmdjhokcipajaaW.PrintMore
open Go.Proofs.Ytgmdjhokcipajaa (four valB rightB Byte byteB byteB_iff four_len Rec sector head44 recRightB crc crcByte crcBits crcStep lawCrc lawBits lawBit crc_lt crc_eq onI right_bd head44_byte cat4_four valB_bd4 or_byte16 four_byte str_inj)
theorem rd_at (l : List Int) (j : Nat) (h : j < l.length) : rd l (j : Int) = l[j] := by simp [rd, h]
theorem rd_bd (l : List Int) (hb : Byte l) (j : Nat) (h : j < l.length) : 0 ≤ rd l (j : Int) ∧ rd l (j : Int) ≤ 255 := by rw [rd_at l j h]; exact hb _ (List.getElem_mem h)
theorem get_nice (l : List Int) (hb : Byte l) (h : 4 ≤ l.length) : rec_get.f l = some (valB (l.take 4)) := by
  unfold rec_get.f
  rw [if_pos ⟨h, (byteB_iff _).2 (hb.take 4)⟩]
/-- What a sector's bytes say. -/
def fieldsM (l : List Int) : Rec := ⟨rd l 0, valB ((l.drop 4).take 4), valB ((l.drop 8).take 4), valB ((l.drop 12).take 4), valB ((l.drop 16).take 4), rd l 20, rd l 1 == 1, valB ((l.drop 24).take 4), rd l 2 * 256 + rd l 3⟩
theorem val_at (l : List Int) (hb : Byte l) (i : Nat) : 0 ≤ valB ((l.drop i).take 4) ∧ valB ((l.drop i).take 4) ≤ 4294967295 := valB_bd4 _ ((hb.drop i).take 4) (by simp; omega)
theorem fields_ok (l : List Int) (hb : Byte l) (hl : l.length = 48) : (fieldsM l).ok := by
  have h0 := rd_bd l hb 0 (by omega)
  have h20 := rd_bd l hb 20 (by omega)
  have h2 := rd_bd l hb 2 (by omega)
  have h3 := rd_bd l hb 3 (by omega)
  have a := val_at l hb
  refine ⟨?_, a 4, a 8, a 12, a 16, ?_, a 24, ?_⟩
  · show -9223372036854775808 ≤ rd l ((0 : Nat) : Int) ∧ rd l ((0 : Nat) : Int) ≤ 9223372036854775807
    omega
  · show -9223372036854775808 ≤ rd l ((20 : Nat) : Int) ∧ rd l ((20 : Nat) : Int) ≤ 9223372036854775807
    omega
  · show 0 ≤ rd l ((2 : Nat) : Int) * 256 + rd l ((3 : Nat) : Int) ∧ rd l ((2 : Nat) : Int) * 256 + rd l ((3 : Nat) : Int) ≤ 65535
    omega
theorem sector_byte (r : Rec) (ho : r.ok) (h : recRightB r = true) : Byte (sector r) := (head44_byte r ho h).app (four_byte _)
def outM (r : Rec) (b : Bool) : Int × Int × Int × Int × Int × Int × Bool × Int × Int × Bool := (r.kind, r.gen, r.lsn, r.id, r.a, r.l, r.on, r.s, r.m, b)
def noRec : Rec := ⟨0, 0, 0, 0, 0, 0, false, 0, 0⟩
def ofM (l : List Int) : Int × Int × Int × Int × Int × Int × Bool × Int × Int × Bool :=
  if l.length = 48 ∧ valB ((l.drop 44).take 4) = crc (l.take 44) ∧ recRightB (fieldsM l) = true ∧ sector (fieldsM l) = l then outM (fieldsM l) true else outM noRec false
theorem Of_nice (k : Nat) (l : List Int) (hb : Byte l) : rec_Of.f (k + 500) l = some (ofM l) := by
  unfold rec_Of.f ofM
  by_cases hl : l.length = 48
  case neg =>
    rw [if_neg (by omega), if_neg (fun h => hl h.1)]
    simp [rec_Of.j0, outM, noRec]
  rw [if_pos (by omega), if_pos (by omega), get_nice _ (hb.drop 44) (by simp; omega), sum_nice _ _ (hb.take 44) (by simp; omega) (by simp; omega)]
  simp only [Option.bind_some]
  by_cases h1 : valB ((l.drop 44).take 4) = crc (l.take 44)
  case neg =>
    rw [if_neg (fun h => h1 h.2.1), bne_iff_ne.2 h1]
    simp [rec_Of.j0, outM, noRec]
  rw [bne_eq_false_iff_eq.2 h1]
  have h0b := rd_bd l hb 0 (by omega)
  have h20b := rd_bd l hb 20 (by omega)
  have h2b := rd_bd l hb 2 (by omega)
  have h3b := rd_bd l hb 3 (by omega)
  have w2 : IntKind.u16.wrap (rd l 2) = rd l 2 := by rw [IntKind.wrap_u16]; exact Int.emod_eq_of_lt h2b.1 (by have := h2b.2; show rd l ((2 : Nat) : Int) < 65536; omega)
  have w3 : IntKind.u16.wrap (rd l 3) = rd l 3 := by rw [IntKind.wrap_u16]; exact Int.emod_eq_of_lt h3b.1 (by have := h3b.2; show rd l ((3 : Nat) : Int) < 65536; omega)
  have w22 : IntKind.u16.wrap (rd l 2 * 256) = rd l 2 * 256 := by rw [IntKind.wrap_u16]; exact Int.emod_eq_of_lt (by have := h2b.1; show 0 ≤ rd l ((2 : Nat) : Int) * 256; omega) (by have := h2b.2; show rd l ((2 : Nat) : Int) * 256 < 65536; omega)
  have o : Go.bits .or .u16 (rd l 2 * 256) (rd l 3) = rd l 2 * 256 + rd l 3 := or_byte16 _ _ h2b.1 (by have := h2b.2; show rd l ((2 : Nat) : Int) * 256 + 255 ≤ 65535; omega) h3b
  have v0 : wrap64 (rd l 0) = rd l 0 := w64 _ (Int.le_trans (by decide) h0b.1) (Int.le_trans h0b.2 (by decide))
  have v20 : wrap64 (rd l 20) = rd l 20 := w64 _ (Int.le_trans (by decide) h20b.1) (Int.le_trans h20b.2 (by decide))
  have hR : rec_Rec_Right.f (rd l 0) (valB ((l.drop 4).take 4)) (valB ((l.drop 8).take 4)) (valB ((l.drop 12).take 4)) (valB ((l.drop 16).take 4)) (rd l 20) (rd l 1 == 1) (valB ((l.drop 24).take 4)) (rd l 2 * 256 + rd l 3) = some (recRightB (fieldsM l)) := by
    unfold rec_Rec_Right.f
    exact if_pos ((recOkB_iff _).2 (fields_ok l hb hl))
  have hS : rec_Rec_Sector.f (rd l 0) (valB ((l.drop 4).take 4)) (valB ((l.drop 8).take 4)) (valB ((l.drop 12).take 4)) (valB ((l.drop 16).take 4)) (rd l 20) (rd l 1 == 1) (valB ((l.drop 24).take 4)) (rd l 2 * 256 + rd l 3) = some (if recRightB (fieldsM l) = true then sector (fieldsM l) else []) := by
    unfold rec_Rec_Sector.f
    exact if_pos ((recOkB_iff _).2 (fields_ok l hb hl))
  rw [show k + 500 = (k + 499) + 1 from rfl, rec_Of.j0, if_neg (by decide), if_pos (by omega), if_pos (by omega), get_nice _ (hb.drop 4) (by simp; omega)]
  simp only [Option.bind_some]
  rw [if_pos (by omega), get_nice _ (hb.drop 8) (by simp; omega)]
  simp only [Option.bind_some]
  rw [if_pos (by omega), get_nice _ (hb.drop 12) (by simp; omega)]
  simp only [Option.bind_some]
  rw [if_pos (by omega), get_nice _ (hb.drop 16) (by simp; omega)]
  simp only [Option.bind_some]
  rw [if_pos (by omega), if_pos (by omega), if_pos (by omega), get_nice _ (hb.drop 24) (by simp; omega)]
  simp only [Option.bind_some]
  rw [if_pos (by omega), if_pos (by omega), w2, w3, w22, o, v0, v20, hR]
  simp only [Option.bind_some]
  cases hr : recRightB (fieldsM l) with
  | false =>
    rw [if_neg (by decide), if_neg (fun h => by cases h.2.2.1)]
    rfl
  | true =>
    rw [if_pos rfl, hS, hr, if_pos rfl]
    simp only [Option.bind_some]
    by_cases hs : sector (fieldsM l) = l
    · rw [if_pos ((str_inj _ _ (sector_byte _ (fields_ok l hb hl) hr) hb).2 hs), if_pos ⟨hl, h1, by first | rfl | trivial, hs⟩]
      rfl
    · rw [if_neg (fun h => hs ((str_inj _ _ (sector_byte _ (fields_ok l hb hl) hr) hb).1 h)), if_neg (fun h => hs h.2.2.2)]
      rfl
end Go.Proofs.YtgmdjhokcipajaaQ.PRec
end
section
set_option linter.unusedVariables false
set_option linter.unusedSimpArgs false
namespace Go.Proofs.YtgmdjhokcipajaaQ.PRec
open Go.RowKit Go.Proofs.YtgmdjhokcipajaaW.PrintWords Go.Proofs.YtgmdjhokcipajaaW.PrintMore
open Go.Proofs.Ytgmdjhokcipajaa (four valB rightB Byte byteB byteB_iff four_len Rec sector head44 recRightB crc crcByte crcBits crcStep lawCrc lawBits lawBit crc_lt crc_eq onI right_bd head44_byte cat4_four valB_bd4 or_byte16 four_byte str_inj)
/-! A record's sector says the record; the law's bytes are the sector. -/
theorem valB_four (n : Int) (h : 0 ≤ n ∧ n ≤ 4294967295) : valB (four n) = n := by
  show (((0 * 256 + n / 16777216 % 256) * 256 + n / 65536 % 256) * 256 + n / 256 % 256) * 256 + n % 256 = n
  omega
attribute [local irreducible] crc lawCrc
theorem sector_len (r : Rec) : (sector r).length = 48 := rfl
theorem fields_sector (r : Rec) (ho : r.ok) : fieldsM (sector r) = r := by
  obtain ⟨kind, gen, lsn, id, a, l, on, s, m⟩ := r
  obtain ⟨-, hg, hl, hi, ha, -, hs, hm⟩ := ho
  have e4 : ((sector ⟨kind, gen, lsn, id, a, l, on, s, m⟩).drop 4).take 4 = four gen := rfl
  have e8 : ((sector ⟨kind, gen, lsn, id, a, l, on, s, m⟩).drop 8).take 4 = four lsn := rfl
  have e12 : ((sector ⟨kind, gen, lsn, id, a, l, on, s, m⟩).drop 12).take 4 = four id := rfl
  have e16 : ((sector ⟨kind, gen, lsn, id, a, l, on, s, m⟩).drop 16).take 4 = four a := rfl
  have e24 : ((sector ⟨kind, gen, lsn, id, a, l, on, s, m⟩).drop 24).take 4 = four s := rfl
  unfold fieldsM
  rw [e4, e8, e12, e16, e24, valB_four _ hg, valB_four _ hl, valB_four _ hi, valB_four _ ha, valB_four _ hs]
  have eo : (rd (sector ⟨kind, gen, lsn, id, a, l, on, s, m⟩) 1 == 1) = on := by
    show (onI on == 1) = on
    cases on <;> rfl
  have em : rd (sector ⟨kind, gen, lsn, id, a, l, on, s, m⟩) 2 * 256 + rd (sector ⟨kind, gen, lsn, id, a, l, on, s, m⟩) 3 = m := by
    show m / 256 * 256 + m % 256 = m
    omega
  rw [eo, em]
  rfl
theorem of_sector (r : Rec) (ho : r.ok) (h : recRightB r = true) : ofM (sector r) = outM r true := by
  unfold ofM
  rw [fields_sector r ho, if_pos]
  refine ⟨rfl, ?_, h, rfl⟩
  have e1 : ((sector r).drop 44).take 4 = four (crc (head44 r)) := rfl
  have e2 : (sector r).take 44 = head44 r := rfl
  rw [e1, e2, valB_four _ (crc_lt _ (head44_byte r ho h))]
theorem by_step (k : Nat) (x xs : List Int) (j : Nat) (hj : j < xs.length) (hxs : xs.length ≤ 100) (hx : x.length ≤ 1000) (a0 a1 a2 a3 a4 a5 : Int) (a6 : Bool) (a7 a8 : Int) :
    wayfarerlaw05_Bytes.l0 (k + 1) x xs (xs.length : Int) (j : Int) a0 a1 a2 a3 a4 a5 a6 a7 a8 = wayfarerlaw05_Bytes.l0 k (x ++ four xs[j]) xs (xs.length : Int) ((j + 1 : Nat) : Int) a0 a1 a2 a3 a4 a5 a6 a7 a8 := by
  have hr : wayfarerlaw05_four.f (rd xs (j : Int)) = some (four xs[j]) := by rw [rd_at xs j hj]; rfl
  rw [wayfarerlaw05_Bytes.l0, if_pos (by omega), if_pos (by omega), if_pos (by omega), hr]
  simp only [Option.bind_some]
  rw [if_pos (by rw [four_len]; omega), w64 _ (by omega) (by omega)]
  rfl
theorem Bytes_end (K : Nat) (hK : 441 ≤ K) (kind gen lsn id a l : Int) (on : Bool) (s m : Int) (hll : l % 256 = l) (hby : Byte (head44 ⟨kind, gen, lsn, id, a, l, on, s, m⟩)) (y xs : List Int) (hy : y = [kind, onI on, m / 256, m % 256]) (hxs : xs = [gen, lsn, id, a]) (L j : Int) (hL : L = (xs.length : Int)) (hj : j = ((0 : Nat) : Int)) :
    wayfarerlaw05_Bytes.l0 (K + 1 + 1 + 1 + 1 + 1) y xs L j kind gen lsn id a l on s m = some (sector ⟨kind, gen, lsn, id, a, l, on, s, m⟩) := by
  have hxl : xs.length = 4 := by rw [hxs]; rfl
  have hyl : y.length = 4 := by rw [hy]; rfl
  rw [hL, hj, by_step _ y xs 0 (by omega) (by omega) (by omega), by_step _ _ xs 1 (by omega) (by omega) (by simp [four_len, hyl]), by_step _ _ xs 2 (by omega) (by omega) (by simp [four_len, hyl]), by_step _ _ xs 3 (by omega) (by omega) (by simp [four_len, hyl])]
  rw [wayfarerlaw05_Bytes.l0, if_neg (by omega)]
  have f1 : wayfarerlaw05_four.f s = some (four s) := rfl
  have e44 : (((y ++ four xs[0] ++ four xs[1] ++ four xs[2] ++ four xs[3]) ++ [l % 256, 0, 0, 0]) ++ four s) ++ List.replicate 16 0 = head44 ⟨kind, gen, lsn, id, a, l, on, s, m⟩ := by
    subst hxs hy
    rw [hll]
    rfl
  have f2 : wayfarerlaw05_four.f (lawCrc (head44 ⟨kind, gen, lsn, id, a, l, on, s, m⟩)) = some (four (lawCrc (head44 ⟨kind, gen, lsn, id, a, l, on, s, m⟩))) := rfl
  have h44 : (head44 ⟨kind, gen, lsn, id, a, l, on, s, m⟩).length = 44 := rfl
  have f3 := law_nice K (head44 ⟨kind, gen, lsn, id, a, l, on, s, m⟩) (by omega) (by omega)
  rw [Option.bind_some, if_pos (by simp [four_len, hyl]), Option.bind_some, f1, Option.bind_some, if_pos (by simp [four_len, hyl]), Option.bind_some, if_pos (by simp [four_len, hyl]), Option.bind_some, e44, f3, Option.bind_some, f2, Option.bind_some, if_pos (by rw [h44, four_len]; omega), ← crc_eq _ hby]
  rfl
theorem Bytes_nice (k : Nat) (r : Rec) (ho : r.ok) (h : recRightB r = true) : wayfarerlaw05_Bytes.f (k + 500) r.kind r.gen r.lsn r.id r.a r.l r.on r.s r.m = some (sector r) := by
  have hbd := right_bd r h
  have hby := head44_byte r ho h
  obtain ⟨kind, gen, lsn, id, a, l, on, s, m⟩ := r
  obtain ⟨-, hg, hl, hi, ha, -, hs, hm0, hm1⟩ := ho
  obtain ⟨⟨hk0, hk1⟩, hp0, hp1⟩ := hbd
  simp only at hg hl hi ha hs hm0 hm1 hk0 hk1 hp0 hp1 ⊢
  have hq : IntKind.u16.wrap (Int.tdiv m 256) % 256 = m / 256 := by
    rw [Int.tdiv_eq_ediv_of_nonneg hm0, IntKind.wrap_u16]
    omega
  have hq2 : Int.tmod m 256 % 256 = m % 256 := by
    rw [Int.tmod_eq_emod_of_nonneg hm0]
    omega
  have hkk : kind % 256 = kind := by omega
  have hll : l % 256 = l := by omega
  obtain ⟨K, hK, hK4⟩ : ∃ K, k + 500 = K + 1 + 1 + 1 + 1 + 1 + 1 ∧ 441 ≤ K := ⟨k + 494, rfl, by omega⟩
  rw [hK]
  have hj : ∀ on : Bool, wayfarerlaw05_Bytes.f (K + 1 + 1 + 1 + 1 + 1 + 1) kind gen lsn id a l on s m = wayfarerlaw05_Bytes.j0 (K + 1 + 1 + 1 + 1 + 1 + 1) (onI on) kind gen lsn id a l on s m := by
    intro on
    unfold wayfarerlaw05_Bytes.f
    cases on
    · rw [if_neg (by decide)]; rfl
    · rw [if_pos rfl]; rfl
  rw [hj, wayfarerlaw05_Bytes.j0, Option.bind_some, hq, hq2, hkk]
  exact Bytes_end K hK4 kind gen lsn id a l on s m hll hby _ _ rfl rfl _ _ rfl rfl
theorem head_true (k : Nat) : wayfarerlaw05_head.f (k + 500) = some true := by
  have ho : (⟨1, 1, 0, 7, 0, 0, false, 0, 0⟩ : Rec).ok := by unfold Rec.ok; decide
  have hr : recRightB ⟨1, 1, 0, 7, 0, 0, false, 0, 0⟩ = true := by decide
  have hS : rec_Rec_Sector.f 1 1 0 7 0 0 false 0 0 = some (sector ⟨1, 1, 0, 7, 0, 0, false, 0, 0⟩) := by
    refine (if_pos ((recOkB_iff _).2 ho)).trans ?_
    rw [hr, if_pos rfl]
  unfold wayfarerlaw05_head.f
  rw [hS]
  simp only [Option.bind_some]
  have hl : ((sector ⟨1, 1, 0, 7, 0, 0, false, 0, 0⟩).length : Int) = 48 := rfl
  rw [hl, if_pos rfl, if_pos (by decide), if_pos (by rfl), if_pos (by decide), if_pos (by rfl), if_pos (by decide), if_pos (by rfl), Of_nice _ _ (sector_byte _ ho hr), of_sector _ ho hr]
  rfl
end Go.Proofs.YtgmdjhokcipajaaQ.PRec
end
section
set_option linter.unusedVariables false
set_option linter.unusedSimpArgs false
namespace Go.Proofs.Ytgmdjhokcipajaa
open Go.RowKit
open Go.Proofs.YtgmdjhokcipajaaQ
open List (setIfInBounds_toArray set_cons_zero set_cons_succ)
open Go.Proofs.YtgmdjhokcipajaaW.PrintWords (Kd rd below_step)
/-! The law's own reading of a number: four bytes of the row that the variable holds. -/
theorem val4 (a b c d : Int) (ha : 0 ≤ a ∧ a ≤ 255) (hb : 0 ≤ b ∧ b ≤ 255) (hc : 0 ≤ c ∧ c ≤ 255) (hd : 0 ≤ d ∧ d ≤ 255) :
    IntKind.u32.wrap (IntKind.u32.wrap (IntKind.u32.wrap (IntKind.u32.wrap (IntKind.u32.wrap a * 16777216) + IntKind.u32.wrap (IntKind.u32.wrap b * 65536)) + IntKind.u32.wrap (IntKind.u32.wrap c * 256)) + IntKind.u32.wrap d) = valB [a, b, c, d] := by
  show _ = (((0 * 256 + a) * 256 + b) * 256 + c) * 256 + d
  simp only [IntKind.wrap_u32]
  omega
theorem recReads_n4 (g0 : Nat) (B : List Int) (A : Option Addr) (c : Nat) (w : World) (hB : Byte B) (hC : Kd.C (Kd.int .u8) w A B.length B) (hcell : w.cell? ⟨g0, 0, none⟩ = some (.slice A B.length c)) (hl : B.length = 48) :
    Calls Try.prog 33 #[.int .i64 4, .pointer (some ⟨g0, 0, none⟩)] w fun e w' => e = .returned (.int .u32 (valB ((B.drop 4).take 4))) ∧ w' = w.drew := by
  have e : (B.drop 4).take 4 = [rd B 4, rd B 5, rd B 6, rd B 7] := by
    have e0 : rd B 4 = B[4] := PRec.rd_at B 4 (by omega)
    have e1 : rd B 5 = B[5] := PRec.rd_at B 5 (by omega)
    have e2 : rd B 6 = B[6] := PRec.rd_at B 6 (by omega)
    have e3 : rd B 7 = B[7] := PRec.rd_at B 7 (by omega)
    rw [e0, e1, e2, e3, List.drop_eq_getElem_cons (show 4 < B.length by omega), List.drop_eq_getElem_cons (show 5 < B.length by omega), List.drop_eq_getElem_cons (show 6 < B.length by omega), List.drop_eq_getElem_cons (show 7 < B.length by omega)]
    rfl
  have r0 : 0 ≤ rd B 4 ∧ rd B 4 ≤ 255 := PRec.rd_bd B hB 4 (by omega)
  have r1 : 0 ≤ rd B 5 ∧ rd B 5 ≤ 255 := PRec.rd_bd B hB 5 (by omega)
  have r2 : 0 ≤ rd B 6 ∧ rd B 6 ≤ 255 := PRec.rd_bd B hB 6 (by omega)
  have r3 : 0 ≤ rd B 7 ∧ rd B 7 ≤ 255 := PRec.rd_bd B hB 7 (by omega)
  obtain ⟨ad, eA, x0⟩ := Kd.at_int hC 4 (by omega) (by omega)
  obtain ⟨ad1, eA1, x1⟩ := Kd.at_int hC 5 (by omega) (by omega)
  obtain ⟨ad2, eA2, x2⟩ := Kd.at_int hC 6 (by omega) (by omega)
  obtain ⟨ad3, eA3, x3⟩ := Kd.at_int hC 7 (by omega) (by omega)
  subst eA
  cases eA1
  cases eA2
  cases eA3
  have V := Lib.hid (val4 _ _ _ _ r0 r1 r2 r3)
  clear r0 r1 r2 r3 hC hB
  rw [e]
  clear e
  generalize rd B 4 = a at *
  generalize rd B 5 = b at *
  generalize rd B 6 = d at *
  generalize rd B 7 = f at *
  rw [hl] at hcell
  have hlg := World.block_lt_of_cell? _ _ hcell
  have hlb := World.block_lt_of_cell? _ _ x0
  simp only [show (4 : Int).toNat = 4 from rfl, show (5 : Int).toNat = 5 from rfl, show (6 : Int).toNat = 6 from rfl, show (7 : Int).toNat = 7 from rfl, Go.Addr.add, Nat.reduceEqDiff, ↓reduceIte] at x0 x1 x2 x3 hlb
  have wj : IntKind.i64.wrap 5 = 5 := by decide
  have wk : IntKind.i64.wrap 6 = 6 := by decide
  have wl : IntKind.i64.wrap 7 = 7 := by decide
  go_enter Try.func33, Try.ntmps33
  go_wp2_with fail
  refine draw_start [] Later (by kernel_rfl) ?_
  refine draw_chunk (n := 33) (by kernel_rfl) (fun _ _ _ _ _ h => h) [0, 1, 2, 3, 4, 5, 6, 7, 8, 9, 10, 11, 12, 13, 14, 15, 16, 17, 18, 19, 20, 21, 22, 23, 24, 25, 26, 27, 28, 29] [] _ #[true, true, true, true, true, true, true, true, true, true, true, true, true, true, true, true, true, true, true, true, true, true, true, true, true, true, true, true, true, true] (by kernel_rfl) 0 _ ?_ _ rfl ?_ ?_
  rotate_left
  · intro w' hw'
    have hc' : ∀ b o, b < w.heap.size → w'.cell? ⟨b, o, none⟩ = w.cell? ⟨b, o, none⟩ := (bcell hw').1
    have hx' := (hc' g0 0 hlg).trans hcell; have y0 := (hc' ad.block (ad.off + 4) hlb).trans x0; have y1 := (hc' ad.block (ad.off + 5) hlb).trans x1; have y2 := (hc' ad.block (ad.off + 6) hlb).trans x2; have y3 := (hc' ad.block (ad.off + 7) hlb).trans x3
    refine ci_step (i := 0) (v := ?_) rfl (by kernel_rfl) ?_ ?_
    rotate_left
    · first | (go_simp; done) | (go_simp; with_reducible rfl)
    skip
    try simp only [Act.put, setIfInBounds_toArray, set_cons_zero, set_cons_succ]
    refine ci_step (i := 1) (v := ?_) rfl (by kernel_rfl) ?_ ?_
    rotate_left
    · first | (go_simp; done) | (go_simp; with_reducible rfl)
    skip
    try simp only [Act.put, setIfInBounds_toArray, set_cons_zero, set_cons_succ]
    refine ci_step (i := 2) (v := ?_) rfl (by kernel_rfl) ?_ ?_
    rotate_left
    · first | (go_simp; done) | (go_simp; with_reducible rfl)
    skip
    try simp only [Act.put, setIfInBounds_toArray, set_cons_zero, set_cons_succ]
    refine ci_step (i := 3) (v := ?_) rfl (by kernel_rfl) ?_ ?_
    rotate_left
    · first | (go_simp; done) | (go_simp; with_reducible rfl)
    skip
    try simp only [Act.put, setIfInBounds_toArray, set_cons_zero, set_cons_succ]
    refine ci_step (i := 4) (v := ?_) rfl (by kernel_rfl) ?_ ?_
    rotate_left
    · first | (go_simp; done) | (go_simp; with_reducible rfl)
    skip
    try simp only [Act.put, setIfInBounds_toArray, set_cons_zero, set_cons_succ]
    refine ci_step (i := 5) (v := ?_) rfl (by kernel_rfl) ?_ ?_
    rotate_left
    · first | (go_simp; done) | (go_simp; with_reducible rfl)
    skip
    try simp only [Act.put, setIfInBounds_toArray, set_cons_zero, set_cons_succ]
    refine ci_step (i := 6) (v := ?_) rfl (by kernel_rfl) ?_ ?_
    rotate_left
    · first | (go_simp; done) | (go_simp; with_reducible rfl)
    skip
    try simp only [Act.put, setIfInBounds_toArray, set_cons_zero, set_cons_succ]
    refine ci_step (i := 7) (v := ?_) rfl (by kernel_rfl) ?_ ?_
    rotate_left
    · first | (go_simp; done) | (go_simp; with_reducible rfl)
    skip
    try simp only [Act.put, setIfInBounds_toArray, set_cons_zero, set_cons_succ]
    refine ci_step (i := 8) (v := ?_) rfl (by kernel_rfl) ?_ ?_
    rotate_left
    · first | (go_simp; done) | (go_simp; with_reducible rfl)
    skip
    try simp only [Act.put, setIfInBounds_toArray, set_cons_zero, set_cons_succ]
    refine ci_step (i := 9) (v := ?_) rfl (by kernel_rfl) ?_ ?_
    rotate_left
    · first | (go_simp; done) | (go_simp; with_reducible rfl)
    skip
    try simp only [Act.put, setIfInBounds_toArray, set_cons_zero, set_cons_succ]
    refine ci_step (i := 10) (v := ?_) rfl (by kernel_rfl) ?_ ?_
    rotate_left
    · first | (go_simp; done) | (go_simp; with_reducible rfl)
    skip
    try simp only [Act.put, setIfInBounds_toArray, set_cons_zero, set_cons_succ]
    refine ci_step (i := 11) (v := ?_) rfl (by kernel_rfl) ?_ ?_
    rotate_left
    · first | (go_simp; done) | (go_simp; with_reducible rfl)
    skip
    try simp only [Act.put, setIfInBounds_toArray, set_cons_zero, set_cons_succ]
    refine ci_step (i := 12) (v := ?_) rfl (by kernel_rfl) ?_ ?_
    rotate_left
    · first | (go_simp; done) | (go_simp; with_reducible rfl)
    skip
    try simp only [Act.put, setIfInBounds_toArray, set_cons_zero, set_cons_succ]
    refine ci_step (i := 13) (v := ?_) rfl (by kernel_rfl) ?_ ?_
    rotate_left
    · first | (go_simp; done) | (go_simp; with_reducible rfl)
    skip
    try simp only [Act.put, setIfInBounds_toArray, set_cons_zero, set_cons_succ]
    refine ci_step (i := 14) (v := ?_) rfl (by kernel_rfl) ?_ ?_
    rotate_left
    · first | (go_simp; done) | (go_simp; with_reducible rfl)
    skip
    try simp only [Act.put, setIfInBounds_toArray, set_cons_zero, set_cons_succ]
    refine ci_step (i := 15) (v := ?_) rfl (by kernel_rfl) ?_ ?_
    rotate_left
    · first | (go_simp; done) | (go_simp; with_reducible rfl)
    skip
    try simp only [Act.put, setIfInBounds_toArray, set_cons_zero, set_cons_succ]
    refine ci_step (i := 16) (v := ?_) rfl (by kernel_rfl) ?_ ?_
    rotate_left
    · first | (go_simp; done) | (go_simp; with_reducible rfl)
    skip
    try simp only [Act.put, setIfInBounds_toArray, set_cons_zero, set_cons_succ]
    refine ci_step (i := 17) (v := ?_) rfl (by kernel_rfl) ?_ ?_
    rotate_left
    · first | (go_simp; done) | (go_simp; with_reducible rfl)
    skip
    try simp only [Act.put, setIfInBounds_toArray, set_cons_zero, set_cons_succ]
    refine ci_step (i := 18) (v := ?_) rfl (by kernel_rfl) ?_ ?_
    rotate_left
    · first | (go_simp; done) | (go_simp; with_reducible rfl)
    skip
    try simp only [Act.put, setIfInBounds_toArray, set_cons_zero, set_cons_succ]
    refine ci_step (i := 19) (v := ?_) rfl (by kernel_rfl) ?_ ?_
    rotate_left
    · first | (go_simp; done) | (go_simp; with_reducible rfl)
    skip
    try simp only [Act.put, setIfInBounds_toArray, set_cons_zero, set_cons_succ]
    refine ci_step (i := 20) (v := ?_) rfl (by kernel_rfl) ?_ ?_
    rotate_left
    · first | (go_simp; done) | (go_simp; with_reducible rfl)
    skip
    try simp only [Act.put, setIfInBounds_toArray, set_cons_zero, set_cons_succ]
    refine ci_step (i := 21) (v := ?_) rfl (by kernel_rfl) ?_ ?_
    rotate_left
    · first | (go_simp; done) | (go_simp; with_reducible rfl)
    skip
    try simp only [Act.put, setIfInBounds_toArray, set_cons_zero, set_cons_succ]
    refine ci_step (i := 22) (v := ?_) rfl (by kernel_rfl) ?_ ?_
    rotate_left
    · first | (go_simp; done) | (go_simp; with_reducible rfl)
    skip
    try simp only [Act.put, setIfInBounds_toArray, set_cons_zero, set_cons_succ]
    refine ci_step (i := 23) (v := ?_) rfl (by kernel_rfl) ?_ ?_
    rotate_left
    · first | (go_simp; done) | (go_simp; with_reducible rfl)
    skip
    try simp only [Act.put, setIfInBounds_toArray, set_cons_zero, set_cons_succ]
    refine ci_step (i := 24) (v := ?_) rfl (by kernel_rfl) ?_ ?_
    rotate_left
    · first | (go_simp; done) | (go_simp; with_reducible rfl)
    skip
    try simp only [Act.put, setIfInBounds_toArray, set_cons_zero, set_cons_succ]
    refine ci_step (i := 25) (v := ?_) rfl (by kernel_rfl) ?_ ?_
    rotate_left
    · first | (go_simp; done) | (go_simp; with_reducible rfl)
    skip
    try simp only [Act.put, setIfInBounds_toArray, set_cons_zero, set_cons_succ]
    refine ci_step (i := 26) (v := ?_) rfl (by kernel_rfl) ?_ ?_
    rotate_left
    · first | (go_simp; done) | (go_simp; with_reducible rfl)
    skip
    try simp only [Act.put, setIfInBounds_toArray, set_cons_zero, set_cons_succ]
    refine ci_step (i := 27) (v := ?_) rfl (by kernel_rfl) ?_ ?_
    rotate_left
    · first | (go_simp; done) | (go_simp; with_reducible rfl)
    skip
    try simp only [Act.put, setIfInBounds_toArray, set_cons_zero, set_cons_succ]
    refine ci_step (i := 28) (v := ?_) rfl (by kernel_rfl) ?_ ?_
    rotate_left
    · first | (go_simp; done) | (go_simp; with_reducible rfl)
    skip
    try simp only [Act.put, setIfInBounds_toArray, set_cons_zero, set_cons_succ]
    refine ci_step (i := 29) (v := ?_) rfl (by kernel_rfl) ?_ ?_
    rotate_left
    · first | (go_simp; done) | (go_simp; with_reducible rfl)
    skip
    try simp only [Act.put, setIfInBounds_toArray, set_cons_zero, set_cons_succ]
    refine ci_end ?_
    rfl
  refine draw_done (by kernel_rfl) ?_ _
  go_wp2
  go_ret
  exact ⟨congrArg (fun x => Ending.returned (Value.int .u32 x)) V.out, rfl⟩
theorem recReads_n8 (g0 : Nat) (B : List Int) (A : Option Addr) (c : Nat) (w : World) (hB : Byte B) (hC : Kd.C (Kd.int .u8) w A B.length B) (hcell : w.cell? ⟨g0, 0, none⟩ = some (.slice A B.length c)) (hl : B.length = 48) :
    Calls Try.prog 33 #[.int .i64 8, .pointer (some ⟨g0, 0, none⟩)] w fun e w' => e = .returned (.int .u32 (valB ((B.drop 8).take 4))) ∧ w' = w.drew := by
  have e : (B.drop 8).take 4 = [rd B 8, rd B 9, rd B 10, rd B 11] := by
    have e0 : rd B 8 = B[8] := PRec.rd_at B 8 (by omega)
    have e1 : rd B 9 = B[9] := PRec.rd_at B 9 (by omega)
    have e2 : rd B 10 = B[10] := PRec.rd_at B 10 (by omega)
    have e3 : rd B 11 = B[11] := PRec.rd_at B 11 (by omega)
    rw [e0, e1, e2, e3, List.drop_eq_getElem_cons (show 8 < B.length by omega), List.drop_eq_getElem_cons (show 9 < B.length by omega), List.drop_eq_getElem_cons (show 10 < B.length by omega), List.drop_eq_getElem_cons (show 11 < B.length by omega)]
    rfl
  have r0 : 0 ≤ rd B 8 ∧ rd B 8 ≤ 255 := PRec.rd_bd B hB 8 (by omega)
  have r1 : 0 ≤ rd B 9 ∧ rd B 9 ≤ 255 := PRec.rd_bd B hB 9 (by omega)
  have r2 : 0 ≤ rd B 10 ∧ rd B 10 ≤ 255 := PRec.rd_bd B hB 10 (by omega)
  have r3 : 0 ≤ rd B 11 ∧ rd B 11 ≤ 255 := PRec.rd_bd B hB 11 (by omega)
  obtain ⟨ad, eA, x0⟩ := Kd.at_int hC 8 (by omega) (by omega)
  obtain ⟨ad1, eA1, x1⟩ := Kd.at_int hC 9 (by omega) (by omega)
  obtain ⟨ad2, eA2, x2⟩ := Kd.at_int hC 10 (by omega) (by omega)
  obtain ⟨ad3, eA3, x3⟩ := Kd.at_int hC 11 (by omega) (by omega)
  subst eA
  cases eA1
  cases eA2
  cases eA3
  have V := Lib.hid (val4 _ _ _ _ r0 r1 r2 r3)
  clear r0 r1 r2 r3 hC hB
  rw [e]
  clear e
  generalize rd B 8 = a at *
  generalize rd B 9 = b at *
  generalize rd B 10 = d at *
  generalize rd B 11 = f at *
  rw [hl] at hcell
  have hlg := World.block_lt_of_cell? _ _ hcell
  have hlb := World.block_lt_of_cell? _ _ x0
  simp only [show (8 : Int).toNat = 8 from rfl, show (9 : Int).toNat = 9 from rfl, show (10 : Int).toNat = 10 from rfl, show (11 : Int).toNat = 11 from rfl, Go.Addr.add, Nat.reduceEqDiff, ↓reduceIte] at x0 x1 x2 x3 hlb
  have wj : IntKind.i64.wrap 9 = 9 := by decide
  have wk : IntKind.i64.wrap 10 = 10 := by decide
  have wl : IntKind.i64.wrap 11 = 11 := by decide
  go_enter Try.func33, Try.ntmps33
  go_wp2_with fail
  refine draw_start [] Later (by kernel_rfl) ?_
  refine draw_chunk (n := 33) (by kernel_rfl) (fun _ _ _ _ _ h => h) [0, 1, 2, 3, 4, 5, 6, 7, 8, 9, 10, 11, 12, 13, 14, 15, 16, 17, 18, 19, 20, 21, 22, 23, 24, 25, 26, 27, 28, 29] [] _ #[true, true, true, true, true, true, true, true, true, true, true, true, true, true, true, true, true, true, true, true, true, true, true, true, true, true, true, true, true, true] (by kernel_rfl) 0 _ ?_ _ rfl ?_ ?_
  rotate_left
  · intro w' hw'
    have hc' : ∀ b o, b < w.heap.size → w'.cell? ⟨b, o, none⟩ = w.cell? ⟨b, o, none⟩ := (bcell hw').1
    have hx' := (hc' g0 0 hlg).trans hcell; have y0 := (hc' ad.block (ad.off + 8) hlb).trans x0; have y1 := (hc' ad.block (ad.off + 9) hlb).trans x1; have y2 := (hc' ad.block (ad.off + 10) hlb).trans x2; have y3 := (hc' ad.block (ad.off + 11) hlb).trans x3
    refine ci_step (i := 0) (v := ?_) rfl (by kernel_rfl) ?_ ?_
    rotate_left
    · first | (go_simp; done) | (go_simp; with_reducible rfl)
    skip
    try simp only [Act.put, setIfInBounds_toArray, set_cons_zero, set_cons_succ]
    refine ci_step (i := 1) (v := ?_) rfl (by kernel_rfl) ?_ ?_
    rotate_left
    · first | (go_simp; done) | (go_simp; with_reducible rfl)
    skip
    try simp only [Act.put, setIfInBounds_toArray, set_cons_zero, set_cons_succ]
    refine ci_step (i := 2) (v := ?_) rfl (by kernel_rfl) ?_ ?_
    rotate_left
    · first | (go_simp; done) | (go_simp; with_reducible rfl)
    skip
    try simp only [Act.put, setIfInBounds_toArray, set_cons_zero, set_cons_succ]
    refine ci_step (i := 3) (v := ?_) rfl (by kernel_rfl) ?_ ?_
    rotate_left
    · first | (go_simp; done) | (go_simp; with_reducible rfl)
    skip
    try simp only [Act.put, setIfInBounds_toArray, set_cons_zero, set_cons_succ]
    refine ci_step (i := 4) (v := ?_) rfl (by kernel_rfl) ?_ ?_
    rotate_left
    · first | (go_simp; done) | (go_simp; with_reducible rfl)
    skip
    try simp only [Act.put, setIfInBounds_toArray, set_cons_zero, set_cons_succ]
    refine ci_step (i := 5) (v := ?_) rfl (by kernel_rfl) ?_ ?_
    rotate_left
    · first | (go_simp; done) | (go_simp; with_reducible rfl)
    skip
    try simp only [Act.put, setIfInBounds_toArray, set_cons_zero, set_cons_succ]
    refine ci_step (i := 6) (v := ?_) rfl (by kernel_rfl) ?_ ?_
    rotate_left
    · first | (go_simp; done) | (go_simp; with_reducible rfl)
    skip
    try simp only [Act.put, setIfInBounds_toArray, set_cons_zero, set_cons_succ]
    refine ci_step (i := 7) (v := ?_) rfl (by kernel_rfl) ?_ ?_
    rotate_left
    · first | (go_simp; done) | (go_simp; with_reducible rfl)
    skip
    try simp only [Act.put, setIfInBounds_toArray, set_cons_zero, set_cons_succ]
    refine ci_step (i := 8) (v := ?_) rfl (by kernel_rfl) ?_ ?_
    rotate_left
    · first | (go_simp; done) | (go_simp; with_reducible rfl)
    skip
    try simp only [Act.put, setIfInBounds_toArray, set_cons_zero, set_cons_succ]
    refine ci_step (i := 9) (v := ?_) rfl (by kernel_rfl) ?_ ?_
    rotate_left
    · first | (go_simp; done) | (go_simp; with_reducible rfl)
    skip
    try simp only [Act.put, setIfInBounds_toArray, set_cons_zero, set_cons_succ]
    refine ci_step (i := 10) (v := ?_) rfl (by kernel_rfl) ?_ ?_
    rotate_left
    · first | (go_simp; done) | (go_simp; with_reducible rfl)
    skip
    try simp only [Act.put, setIfInBounds_toArray, set_cons_zero, set_cons_succ]
    refine ci_step (i := 11) (v := ?_) rfl (by kernel_rfl) ?_ ?_
    rotate_left
    · first | (go_simp; done) | (go_simp; with_reducible rfl)
    skip
    try simp only [Act.put, setIfInBounds_toArray, set_cons_zero, set_cons_succ]
    refine ci_step (i := 12) (v := ?_) rfl (by kernel_rfl) ?_ ?_
    rotate_left
    · first | (go_simp; done) | (go_simp; with_reducible rfl)
    skip
    try simp only [Act.put, setIfInBounds_toArray, set_cons_zero, set_cons_succ]
    refine ci_step (i := 13) (v := ?_) rfl (by kernel_rfl) ?_ ?_
    rotate_left
    · first | (go_simp; done) | (go_simp; with_reducible rfl)
    skip
    try simp only [Act.put, setIfInBounds_toArray, set_cons_zero, set_cons_succ]
    refine ci_step (i := 14) (v := ?_) rfl (by kernel_rfl) ?_ ?_
    rotate_left
    · first | (go_simp; done) | (go_simp; with_reducible rfl)
    skip
    try simp only [Act.put, setIfInBounds_toArray, set_cons_zero, set_cons_succ]
    refine ci_step (i := 15) (v := ?_) rfl (by kernel_rfl) ?_ ?_
    rotate_left
    · first | (go_simp; done) | (go_simp; with_reducible rfl)
    skip
    try simp only [Act.put, setIfInBounds_toArray, set_cons_zero, set_cons_succ]
    refine ci_step (i := 16) (v := ?_) rfl (by kernel_rfl) ?_ ?_
    rotate_left
    · first | (go_simp; done) | (go_simp; with_reducible rfl)
    skip
    try simp only [Act.put, setIfInBounds_toArray, set_cons_zero, set_cons_succ]
    refine ci_step (i := 17) (v := ?_) rfl (by kernel_rfl) ?_ ?_
    rotate_left
    · first | (go_simp; done) | (go_simp; with_reducible rfl)
    skip
    try simp only [Act.put, setIfInBounds_toArray, set_cons_zero, set_cons_succ]
    refine ci_step (i := 18) (v := ?_) rfl (by kernel_rfl) ?_ ?_
    rotate_left
    · first | (go_simp; done) | (go_simp; with_reducible rfl)
    skip
    try simp only [Act.put, setIfInBounds_toArray, set_cons_zero, set_cons_succ]
    refine ci_step (i := 19) (v := ?_) rfl (by kernel_rfl) ?_ ?_
    rotate_left
    · first | (go_simp; done) | (go_simp; with_reducible rfl)
    skip
    try simp only [Act.put, setIfInBounds_toArray, set_cons_zero, set_cons_succ]
    refine ci_step (i := 20) (v := ?_) rfl (by kernel_rfl) ?_ ?_
    rotate_left
    · first | (go_simp; done) | (go_simp; with_reducible rfl)
    skip
    try simp only [Act.put, setIfInBounds_toArray, set_cons_zero, set_cons_succ]
    refine ci_step (i := 21) (v := ?_) rfl (by kernel_rfl) ?_ ?_
    rotate_left
    · first | (go_simp; done) | (go_simp; with_reducible rfl)
    skip
    try simp only [Act.put, setIfInBounds_toArray, set_cons_zero, set_cons_succ]
    refine ci_step (i := 22) (v := ?_) rfl (by kernel_rfl) ?_ ?_
    rotate_left
    · first | (go_simp; done) | (go_simp; with_reducible rfl)
    skip
    try simp only [Act.put, setIfInBounds_toArray, set_cons_zero, set_cons_succ]
    refine ci_step (i := 23) (v := ?_) rfl (by kernel_rfl) ?_ ?_
    rotate_left
    · first | (go_simp; done) | (go_simp; with_reducible rfl)
    skip
    try simp only [Act.put, setIfInBounds_toArray, set_cons_zero, set_cons_succ]
    refine ci_step (i := 24) (v := ?_) rfl (by kernel_rfl) ?_ ?_
    rotate_left
    · first | (go_simp; done) | (go_simp; with_reducible rfl)
    skip
    try simp only [Act.put, setIfInBounds_toArray, set_cons_zero, set_cons_succ]
    refine ci_step (i := 25) (v := ?_) rfl (by kernel_rfl) ?_ ?_
    rotate_left
    · first | (go_simp; done) | (go_simp; with_reducible rfl)
    skip
    try simp only [Act.put, setIfInBounds_toArray, set_cons_zero, set_cons_succ]
    refine ci_step (i := 26) (v := ?_) rfl (by kernel_rfl) ?_ ?_
    rotate_left
    · first | (go_simp; done) | (go_simp; with_reducible rfl)
    skip
    try simp only [Act.put, setIfInBounds_toArray, set_cons_zero, set_cons_succ]
    refine ci_step (i := 27) (v := ?_) rfl (by kernel_rfl) ?_ ?_
    rotate_left
    · first | (go_simp; done) | (go_simp; with_reducible rfl)
    skip
    try simp only [Act.put, setIfInBounds_toArray, set_cons_zero, set_cons_succ]
    refine ci_step (i := 28) (v := ?_) rfl (by kernel_rfl) ?_ ?_
    rotate_left
    · first | (go_simp; done) | (go_simp; with_reducible rfl)
    skip
    try simp only [Act.put, setIfInBounds_toArray, set_cons_zero, set_cons_succ]
    refine ci_step (i := 29) (v := ?_) rfl (by kernel_rfl) ?_ ?_
    rotate_left
    · first | (go_simp; done) | (go_simp; with_reducible rfl)
    skip
    try simp only [Act.put, setIfInBounds_toArray, set_cons_zero, set_cons_succ]
    refine ci_end ?_
    rfl
  refine draw_done (by kernel_rfl) ?_ _
  go_wp2
  go_ret
  exact ⟨congrArg (fun x => Ending.returned (Value.int .u32 x)) V.out, rfl⟩
theorem recReads_n12 (g0 : Nat) (B : List Int) (A : Option Addr) (c : Nat) (w : World) (hB : Byte B) (hC : Kd.C (Kd.int .u8) w A B.length B) (hcell : w.cell? ⟨g0, 0, none⟩ = some (.slice A B.length c)) (hl : B.length = 48) :
    Calls Try.prog 33 #[.int .i64 12, .pointer (some ⟨g0, 0, none⟩)] w fun e w' => e = .returned (.int .u32 (valB ((B.drop 12).take 4))) ∧ w' = w.drew := by
  have e : (B.drop 12).take 4 = [rd B 12, rd B 13, rd B 14, rd B 15] := by
    have e0 : rd B 12 = B[12] := PRec.rd_at B 12 (by omega)
    have e1 : rd B 13 = B[13] := PRec.rd_at B 13 (by omega)
    have e2 : rd B 14 = B[14] := PRec.rd_at B 14 (by omega)
    have e3 : rd B 15 = B[15] := PRec.rd_at B 15 (by omega)
    rw [e0, e1, e2, e3, List.drop_eq_getElem_cons (show 12 < B.length by omega), List.drop_eq_getElem_cons (show 13 < B.length by omega), List.drop_eq_getElem_cons (show 14 < B.length by omega), List.drop_eq_getElem_cons (show 15 < B.length by omega)]
    rfl
  have r0 : 0 ≤ rd B 12 ∧ rd B 12 ≤ 255 := PRec.rd_bd B hB 12 (by omega)
  have r1 : 0 ≤ rd B 13 ∧ rd B 13 ≤ 255 := PRec.rd_bd B hB 13 (by omega)
  have r2 : 0 ≤ rd B 14 ∧ rd B 14 ≤ 255 := PRec.rd_bd B hB 14 (by omega)
  have r3 : 0 ≤ rd B 15 ∧ rd B 15 ≤ 255 := PRec.rd_bd B hB 15 (by omega)
  obtain ⟨ad, eA, x0⟩ := Kd.at_int hC 12 (by omega) (by omega)
  obtain ⟨ad1, eA1, x1⟩ := Kd.at_int hC 13 (by omega) (by omega)
  obtain ⟨ad2, eA2, x2⟩ := Kd.at_int hC 14 (by omega) (by omega)
  obtain ⟨ad3, eA3, x3⟩ := Kd.at_int hC 15 (by omega) (by omega)
  subst eA
  cases eA1
  cases eA2
  cases eA3
  have V := Lib.hid (val4 _ _ _ _ r0 r1 r2 r3)
  clear r0 r1 r2 r3 hC hB
  rw [e]
  clear e
  generalize rd B 12 = a at *
  generalize rd B 13 = b at *
  generalize rd B 14 = d at *
  generalize rd B 15 = f at *
  rw [hl] at hcell
  have hlg := World.block_lt_of_cell? _ _ hcell
  have hlb := World.block_lt_of_cell? _ _ x0
  simp only [show (12 : Int).toNat = 12 from rfl, show (13 : Int).toNat = 13 from rfl, show (14 : Int).toNat = 14 from rfl, show (15 : Int).toNat = 15 from rfl, Go.Addr.add, Nat.reduceEqDiff, ↓reduceIte] at x0 x1 x2 x3 hlb
  have wj : IntKind.i64.wrap 13 = 13 := by decide
  have wk : IntKind.i64.wrap 14 = 14 := by decide
  have wl : IntKind.i64.wrap 15 = 15 := by decide
  go_enter Try.func33, Try.ntmps33
  go_wp2_with fail
  refine draw_start [] Later (by kernel_rfl) ?_
  refine draw_chunk (n := 33) (by kernel_rfl) (fun _ _ _ _ _ h => h) [0, 1, 2, 3, 4, 5, 6, 7, 8, 9, 10, 11, 12, 13, 14, 15, 16, 17, 18, 19, 20, 21, 22, 23, 24, 25, 26, 27, 28, 29] [] _ #[true, true, true, true, true, true, true, true, true, true, true, true, true, true, true, true, true, true, true, true, true, true, true, true, true, true, true, true, true, true] (by kernel_rfl) 0 _ ?_ _ rfl ?_ ?_
  rotate_left
  · intro w' hw'
    have hc' : ∀ b o, b < w.heap.size → w'.cell? ⟨b, o, none⟩ = w.cell? ⟨b, o, none⟩ := (bcell hw').1
    have hx' := (hc' g0 0 hlg).trans hcell; have y0 := (hc' ad.block (ad.off + 12) hlb).trans x0; have y1 := (hc' ad.block (ad.off + 13) hlb).trans x1; have y2 := (hc' ad.block (ad.off + 14) hlb).trans x2; have y3 := (hc' ad.block (ad.off + 15) hlb).trans x3
    refine ci_step (i := 0) (v := ?_) rfl (by kernel_rfl) ?_ ?_
    rotate_left
    · first | (go_simp; done) | (go_simp; with_reducible rfl)
    skip
    try simp only [Act.put, setIfInBounds_toArray, set_cons_zero, set_cons_succ]
    refine ci_step (i := 1) (v := ?_) rfl (by kernel_rfl) ?_ ?_
    rotate_left
    · first | (go_simp; done) | (go_simp; with_reducible rfl)
    skip
    try simp only [Act.put, setIfInBounds_toArray, set_cons_zero, set_cons_succ]
    refine ci_step (i := 2) (v := ?_) rfl (by kernel_rfl) ?_ ?_
    rotate_left
    · first | (go_simp; done) | (go_simp; with_reducible rfl)
    skip
    try simp only [Act.put, setIfInBounds_toArray, set_cons_zero, set_cons_succ]
    refine ci_step (i := 3) (v := ?_) rfl (by kernel_rfl) ?_ ?_
    rotate_left
    · first | (go_simp; done) | (go_simp; with_reducible rfl)
    skip
    try simp only [Act.put, setIfInBounds_toArray, set_cons_zero, set_cons_succ]
    refine ci_step (i := 4) (v := ?_) rfl (by kernel_rfl) ?_ ?_
    rotate_left
    · first | (go_simp; done) | (go_simp; with_reducible rfl)
    skip
    try simp only [Act.put, setIfInBounds_toArray, set_cons_zero, set_cons_succ]
    refine ci_step (i := 5) (v := ?_) rfl (by kernel_rfl) ?_ ?_
    rotate_left
    · first | (go_simp; done) | (go_simp; with_reducible rfl)
    skip
    try simp only [Act.put, setIfInBounds_toArray, set_cons_zero, set_cons_succ]
    refine ci_step (i := 6) (v := ?_) rfl (by kernel_rfl) ?_ ?_
    rotate_left
    · first | (go_simp; done) | (go_simp; with_reducible rfl)
    skip
    try simp only [Act.put, setIfInBounds_toArray, set_cons_zero, set_cons_succ]
    refine ci_step (i := 7) (v := ?_) rfl (by kernel_rfl) ?_ ?_
    rotate_left
    · first | (go_simp; done) | (go_simp; with_reducible rfl)
    skip
    try simp only [Act.put, setIfInBounds_toArray, set_cons_zero, set_cons_succ]
    refine ci_step (i := 8) (v := ?_) rfl (by kernel_rfl) ?_ ?_
    rotate_left
    · first | (go_simp; done) | (go_simp; with_reducible rfl)
    skip
    try simp only [Act.put, setIfInBounds_toArray, set_cons_zero, set_cons_succ]
    refine ci_step (i := 9) (v := ?_) rfl (by kernel_rfl) ?_ ?_
    rotate_left
    · first | (go_simp; done) | (go_simp; with_reducible rfl)
    skip
    try simp only [Act.put, setIfInBounds_toArray, set_cons_zero, set_cons_succ]
    refine ci_step (i := 10) (v := ?_) rfl (by kernel_rfl) ?_ ?_
    rotate_left
    · first | (go_simp; done) | (go_simp; with_reducible rfl)
    skip
    try simp only [Act.put, setIfInBounds_toArray, set_cons_zero, set_cons_succ]
    refine ci_step (i := 11) (v := ?_) rfl (by kernel_rfl) ?_ ?_
    rotate_left
    · first | (go_simp; done) | (go_simp; with_reducible rfl)
    skip
    try simp only [Act.put, setIfInBounds_toArray, set_cons_zero, set_cons_succ]
    refine ci_step (i := 12) (v := ?_) rfl (by kernel_rfl) ?_ ?_
    rotate_left
    · first | (go_simp; done) | (go_simp; with_reducible rfl)
    skip
    try simp only [Act.put, setIfInBounds_toArray, set_cons_zero, set_cons_succ]
    refine ci_step (i := 13) (v := ?_) rfl (by kernel_rfl) ?_ ?_
    rotate_left
    · first | (go_simp; done) | (go_simp; with_reducible rfl)
    skip
    try simp only [Act.put, setIfInBounds_toArray, set_cons_zero, set_cons_succ]
    refine ci_step (i := 14) (v := ?_) rfl (by kernel_rfl) ?_ ?_
    rotate_left
    · first | (go_simp; done) | (go_simp; with_reducible rfl)
    skip
    try simp only [Act.put, setIfInBounds_toArray, set_cons_zero, set_cons_succ]
    refine ci_step (i := 15) (v := ?_) rfl (by kernel_rfl) ?_ ?_
    rotate_left
    · first | (go_simp; done) | (go_simp; with_reducible rfl)
    skip
    try simp only [Act.put, setIfInBounds_toArray, set_cons_zero, set_cons_succ]
    refine ci_step (i := 16) (v := ?_) rfl (by kernel_rfl) ?_ ?_
    rotate_left
    · first | (go_simp; done) | (go_simp; with_reducible rfl)
    skip
    try simp only [Act.put, setIfInBounds_toArray, set_cons_zero, set_cons_succ]
    refine ci_step (i := 17) (v := ?_) rfl (by kernel_rfl) ?_ ?_
    rotate_left
    · first | (go_simp; done) | (go_simp; with_reducible rfl)
    skip
    try simp only [Act.put, setIfInBounds_toArray, set_cons_zero, set_cons_succ]
    refine ci_step (i := 18) (v := ?_) rfl (by kernel_rfl) ?_ ?_
    rotate_left
    · first | (go_simp; done) | (go_simp; with_reducible rfl)
    skip
    try simp only [Act.put, setIfInBounds_toArray, set_cons_zero, set_cons_succ]
    refine ci_step (i := 19) (v := ?_) rfl (by kernel_rfl) ?_ ?_
    rotate_left
    · first | (go_simp; done) | (go_simp; with_reducible rfl)
    skip
    try simp only [Act.put, setIfInBounds_toArray, set_cons_zero, set_cons_succ]
    refine ci_step (i := 20) (v := ?_) rfl (by kernel_rfl) ?_ ?_
    rotate_left
    · first | (go_simp; done) | (go_simp; with_reducible rfl)
    skip
    try simp only [Act.put, setIfInBounds_toArray, set_cons_zero, set_cons_succ]
    refine ci_step (i := 21) (v := ?_) rfl (by kernel_rfl) ?_ ?_
    rotate_left
    · first | (go_simp; done) | (go_simp; with_reducible rfl)
    skip
    try simp only [Act.put, setIfInBounds_toArray, set_cons_zero, set_cons_succ]
    refine ci_step (i := 22) (v := ?_) rfl (by kernel_rfl) ?_ ?_
    rotate_left
    · first | (go_simp; done) | (go_simp; with_reducible rfl)
    skip
    try simp only [Act.put, setIfInBounds_toArray, set_cons_zero, set_cons_succ]
    refine ci_step (i := 23) (v := ?_) rfl (by kernel_rfl) ?_ ?_
    rotate_left
    · first | (go_simp; done) | (go_simp; with_reducible rfl)
    skip
    try simp only [Act.put, setIfInBounds_toArray, set_cons_zero, set_cons_succ]
    refine ci_step (i := 24) (v := ?_) rfl (by kernel_rfl) ?_ ?_
    rotate_left
    · first | (go_simp; done) | (go_simp; with_reducible rfl)
    skip
    try simp only [Act.put, setIfInBounds_toArray, set_cons_zero, set_cons_succ]
    refine ci_step (i := 25) (v := ?_) rfl (by kernel_rfl) ?_ ?_
    rotate_left
    · first | (go_simp; done) | (go_simp; with_reducible rfl)
    skip
    try simp only [Act.put, setIfInBounds_toArray, set_cons_zero, set_cons_succ]
    refine ci_step (i := 26) (v := ?_) rfl (by kernel_rfl) ?_ ?_
    rotate_left
    · first | (go_simp; done) | (go_simp; with_reducible rfl)
    skip
    try simp only [Act.put, setIfInBounds_toArray, set_cons_zero, set_cons_succ]
    refine ci_step (i := 27) (v := ?_) rfl (by kernel_rfl) ?_ ?_
    rotate_left
    · first | (go_simp; done) | (go_simp; with_reducible rfl)
    skip
    try simp only [Act.put, setIfInBounds_toArray, set_cons_zero, set_cons_succ]
    refine ci_step (i := 28) (v := ?_) rfl (by kernel_rfl) ?_ ?_
    rotate_left
    · first | (go_simp; done) | (go_simp; with_reducible rfl)
    skip
    try simp only [Act.put, setIfInBounds_toArray, set_cons_zero, set_cons_succ]
    refine ci_step (i := 29) (v := ?_) rfl (by kernel_rfl) ?_ ?_
    rotate_left
    · first | (go_simp; done) | (go_simp; with_reducible rfl)
    skip
    try simp only [Act.put, setIfInBounds_toArray, set_cons_zero, set_cons_succ]
    refine ci_end ?_
    rfl
  refine draw_done (by kernel_rfl) ?_ _
  go_wp2
  go_ret
  exact ⟨congrArg (fun x => Ending.returned (Value.int .u32 x)) V.out, rfl⟩
theorem recReads_n16 (g0 : Nat) (B : List Int) (A : Option Addr) (c : Nat) (w : World) (hB : Byte B) (hC : Kd.C (Kd.int .u8) w A B.length B) (hcell : w.cell? ⟨g0, 0, none⟩ = some (.slice A B.length c)) (hl : B.length = 48) :
    Calls Try.prog 33 #[.int .i64 16, .pointer (some ⟨g0, 0, none⟩)] w fun e w' => e = .returned (.int .u32 (valB ((B.drop 16).take 4))) ∧ w' = w.drew := by
  have e : (B.drop 16).take 4 = [rd B 16, rd B 17, rd B 18, rd B 19] := by
    have e0 : rd B 16 = B[16] := PRec.rd_at B 16 (by omega)
    have e1 : rd B 17 = B[17] := PRec.rd_at B 17 (by omega)
    have e2 : rd B 18 = B[18] := PRec.rd_at B 18 (by omega)
    have e3 : rd B 19 = B[19] := PRec.rd_at B 19 (by omega)
    rw [e0, e1, e2, e3, List.drop_eq_getElem_cons (show 16 < B.length by omega), List.drop_eq_getElem_cons (show 17 < B.length by omega), List.drop_eq_getElem_cons (show 18 < B.length by omega), List.drop_eq_getElem_cons (show 19 < B.length by omega)]
    rfl
  have r0 : 0 ≤ rd B 16 ∧ rd B 16 ≤ 255 := PRec.rd_bd B hB 16 (by omega)
  have r1 : 0 ≤ rd B 17 ∧ rd B 17 ≤ 255 := PRec.rd_bd B hB 17 (by omega)
  have r2 : 0 ≤ rd B 18 ∧ rd B 18 ≤ 255 := PRec.rd_bd B hB 18 (by omega)
  have r3 : 0 ≤ rd B 19 ∧ rd B 19 ≤ 255 := PRec.rd_bd B hB 19 (by omega)
  obtain ⟨ad, eA, x0⟩ := Kd.at_int hC 16 (by omega) (by omega)
  obtain ⟨ad1, eA1, x1⟩ := Kd.at_int hC 17 (by omega) (by omega)
  obtain ⟨ad2, eA2, x2⟩ := Kd.at_int hC 18 (by omega) (by omega)
  obtain ⟨ad3, eA3, x3⟩ := Kd.at_int hC 19 (by omega) (by omega)
  subst eA
  cases eA1
  cases eA2
  cases eA3
  have V := Lib.hid (val4 _ _ _ _ r0 r1 r2 r3)
  clear r0 r1 r2 r3 hC hB
  rw [e]
  clear e
  generalize rd B 16 = a at *
  generalize rd B 17 = b at *
  generalize rd B 18 = d at *
  generalize rd B 19 = f at *
  rw [hl] at hcell
  have hlg := World.block_lt_of_cell? _ _ hcell
  have hlb := World.block_lt_of_cell? _ _ x0
  simp only [show (16 : Int).toNat = 16 from rfl, show (17 : Int).toNat = 17 from rfl, show (18 : Int).toNat = 18 from rfl, show (19 : Int).toNat = 19 from rfl, Go.Addr.add, Nat.reduceEqDiff, ↓reduceIte] at x0 x1 x2 x3 hlb
  have wj : IntKind.i64.wrap 17 = 17 := by decide
  have wk : IntKind.i64.wrap 18 = 18 := by decide
  have wl : IntKind.i64.wrap 19 = 19 := by decide
  go_enter Try.func33, Try.ntmps33
  go_wp2_with fail
  refine draw_start [] Later (by kernel_rfl) ?_
  refine draw_chunk (n := 33) (by kernel_rfl) (fun _ _ _ _ _ h => h) [0, 1, 2, 3, 4, 5, 6, 7, 8, 9, 10, 11, 12, 13, 14, 15, 16, 17, 18, 19, 20, 21, 22, 23, 24, 25, 26, 27, 28, 29] [] _ #[true, true, true, true, true, true, true, true, true, true, true, true, true, true, true, true, true, true, true, true, true, true, true, true, true, true, true, true, true, true] (by kernel_rfl) 0 _ ?_ _ rfl ?_ ?_
  rotate_left
  · intro w' hw'
    have hc' : ∀ b o, b < w.heap.size → w'.cell? ⟨b, o, none⟩ = w.cell? ⟨b, o, none⟩ := (bcell hw').1
    have hx' := (hc' g0 0 hlg).trans hcell; have y0 := (hc' ad.block (ad.off + 16) hlb).trans x0; have y1 := (hc' ad.block (ad.off + 17) hlb).trans x1; have y2 := (hc' ad.block (ad.off + 18) hlb).trans x2; have y3 := (hc' ad.block (ad.off + 19) hlb).trans x3
    refine ci_step (i := 0) (v := ?_) rfl (by kernel_rfl) ?_ ?_
    rotate_left
    · first | (go_simp; done) | (go_simp; with_reducible rfl)
    skip
    try simp only [Act.put, setIfInBounds_toArray, set_cons_zero, set_cons_succ]
    refine ci_step (i := 1) (v := ?_) rfl (by kernel_rfl) ?_ ?_
    rotate_left
    · first | (go_simp; done) | (go_simp; with_reducible rfl)
    skip
    try simp only [Act.put, setIfInBounds_toArray, set_cons_zero, set_cons_succ]
    refine ci_step (i := 2) (v := ?_) rfl (by kernel_rfl) ?_ ?_
    rotate_left
    · first | (go_simp; done) | (go_simp; with_reducible rfl)
    skip
    try simp only [Act.put, setIfInBounds_toArray, set_cons_zero, set_cons_succ]
    refine ci_step (i := 3) (v := ?_) rfl (by kernel_rfl) ?_ ?_
    rotate_left
    · first | (go_simp; done) | (go_simp; with_reducible rfl)
    skip
    try simp only [Act.put, setIfInBounds_toArray, set_cons_zero, set_cons_succ]
    refine ci_step (i := 4) (v := ?_) rfl (by kernel_rfl) ?_ ?_
    rotate_left
    · first | (go_simp; done) | (go_simp; with_reducible rfl)
    skip
    try simp only [Act.put, setIfInBounds_toArray, set_cons_zero, set_cons_succ]
    refine ci_step (i := 5) (v := ?_) rfl (by kernel_rfl) ?_ ?_
    rotate_left
    · first | (go_simp; done) | (go_simp; with_reducible rfl)
    skip
    try simp only [Act.put, setIfInBounds_toArray, set_cons_zero, set_cons_succ]
    refine ci_step (i := 6) (v := ?_) rfl (by kernel_rfl) ?_ ?_
    rotate_left
    · first | (go_simp; done) | (go_simp; with_reducible rfl)
    skip
    try simp only [Act.put, setIfInBounds_toArray, set_cons_zero, set_cons_succ]
    refine ci_step (i := 7) (v := ?_) rfl (by kernel_rfl) ?_ ?_
    rotate_left
    · first | (go_simp; done) | (go_simp; with_reducible rfl)
    skip
    try simp only [Act.put, setIfInBounds_toArray, set_cons_zero, set_cons_succ]
    refine ci_step (i := 8) (v := ?_) rfl (by kernel_rfl) ?_ ?_
    rotate_left
    · first | (go_simp; done) | (go_simp; with_reducible rfl)
    skip
    try simp only [Act.put, setIfInBounds_toArray, set_cons_zero, set_cons_succ]
    refine ci_step (i := 9) (v := ?_) rfl (by kernel_rfl) ?_ ?_
    rotate_left
    · first | (go_simp; done) | (go_simp; with_reducible rfl)
    skip
    try simp only [Act.put, setIfInBounds_toArray, set_cons_zero, set_cons_succ]
    refine ci_step (i := 10) (v := ?_) rfl (by kernel_rfl) ?_ ?_
    rotate_left
    · first | (go_simp; done) | (go_simp; with_reducible rfl)
    skip
    try simp only [Act.put, setIfInBounds_toArray, set_cons_zero, set_cons_succ]
    refine ci_step (i := 11) (v := ?_) rfl (by kernel_rfl) ?_ ?_
    rotate_left
    · first | (go_simp; done) | (go_simp; with_reducible rfl)
    skip
    try simp only [Act.put, setIfInBounds_toArray, set_cons_zero, set_cons_succ]
    refine ci_step (i := 12) (v := ?_) rfl (by kernel_rfl) ?_ ?_
    rotate_left
    · first | (go_simp; done) | (go_simp; with_reducible rfl)
    skip
    try simp only [Act.put, setIfInBounds_toArray, set_cons_zero, set_cons_succ]
    refine ci_step (i := 13) (v := ?_) rfl (by kernel_rfl) ?_ ?_
    rotate_left
    · first | (go_simp; done) | (go_simp; with_reducible rfl)
    skip
    try simp only [Act.put, setIfInBounds_toArray, set_cons_zero, set_cons_succ]
    refine ci_step (i := 14) (v := ?_) rfl (by kernel_rfl) ?_ ?_
    rotate_left
    · first | (go_simp; done) | (go_simp; with_reducible rfl)
    skip
    try simp only [Act.put, setIfInBounds_toArray, set_cons_zero, set_cons_succ]
    refine ci_step (i := 15) (v := ?_) rfl (by kernel_rfl) ?_ ?_
    rotate_left
    · first | (go_simp; done) | (go_simp; with_reducible rfl)
    skip
    try simp only [Act.put, setIfInBounds_toArray, set_cons_zero, set_cons_succ]
    refine ci_step (i := 16) (v := ?_) rfl (by kernel_rfl) ?_ ?_
    rotate_left
    · first | (go_simp; done) | (go_simp; with_reducible rfl)
    skip
    try simp only [Act.put, setIfInBounds_toArray, set_cons_zero, set_cons_succ]
    refine ci_step (i := 17) (v := ?_) rfl (by kernel_rfl) ?_ ?_
    rotate_left
    · first | (go_simp; done) | (go_simp; with_reducible rfl)
    skip
    try simp only [Act.put, setIfInBounds_toArray, set_cons_zero, set_cons_succ]
    refine ci_step (i := 18) (v := ?_) rfl (by kernel_rfl) ?_ ?_
    rotate_left
    · first | (go_simp; done) | (go_simp; with_reducible rfl)
    skip
    try simp only [Act.put, setIfInBounds_toArray, set_cons_zero, set_cons_succ]
    refine ci_step (i := 19) (v := ?_) rfl (by kernel_rfl) ?_ ?_
    rotate_left
    · first | (go_simp; done) | (go_simp; with_reducible rfl)
    skip
    try simp only [Act.put, setIfInBounds_toArray, set_cons_zero, set_cons_succ]
    refine ci_step (i := 20) (v := ?_) rfl (by kernel_rfl) ?_ ?_
    rotate_left
    · first | (go_simp; done) | (go_simp; with_reducible rfl)
    skip
    try simp only [Act.put, setIfInBounds_toArray, set_cons_zero, set_cons_succ]
    refine ci_step (i := 21) (v := ?_) rfl (by kernel_rfl) ?_ ?_
    rotate_left
    · first | (go_simp; done) | (go_simp; with_reducible rfl)
    skip
    try simp only [Act.put, setIfInBounds_toArray, set_cons_zero, set_cons_succ]
    refine ci_step (i := 22) (v := ?_) rfl (by kernel_rfl) ?_ ?_
    rotate_left
    · first | (go_simp; done) | (go_simp; with_reducible rfl)
    skip
    try simp only [Act.put, setIfInBounds_toArray, set_cons_zero, set_cons_succ]
    refine ci_step (i := 23) (v := ?_) rfl (by kernel_rfl) ?_ ?_
    rotate_left
    · first | (go_simp; done) | (go_simp; with_reducible rfl)
    skip
    try simp only [Act.put, setIfInBounds_toArray, set_cons_zero, set_cons_succ]
    refine ci_step (i := 24) (v := ?_) rfl (by kernel_rfl) ?_ ?_
    rotate_left
    · first | (go_simp; done) | (go_simp; with_reducible rfl)
    skip
    try simp only [Act.put, setIfInBounds_toArray, set_cons_zero, set_cons_succ]
    refine ci_step (i := 25) (v := ?_) rfl (by kernel_rfl) ?_ ?_
    rotate_left
    · first | (go_simp; done) | (go_simp; with_reducible rfl)
    skip
    try simp only [Act.put, setIfInBounds_toArray, set_cons_zero, set_cons_succ]
    refine ci_step (i := 26) (v := ?_) rfl (by kernel_rfl) ?_ ?_
    rotate_left
    · first | (go_simp; done) | (go_simp; with_reducible rfl)
    skip
    try simp only [Act.put, setIfInBounds_toArray, set_cons_zero, set_cons_succ]
    refine ci_step (i := 27) (v := ?_) rfl (by kernel_rfl) ?_ ?_
    rotate_left
    · first | (go_simp; done) | (go_simp; with_reducible rfl)
    skip
    try simp only [Act.put, setIfInBounds_toArray, set_cons_zero, set_cons_succ]
    refine ci_step (i := 28) (v := ?_) rfl (by kernel_rfl) ?_ ?_
    rotate_left
    · first | (go_simp; done) | (go_simp; with_reducible rfl)
    skip
    try simp only [Act.put, setIfInBounds_toArray, set_cons_zero, set_cons_succ]
    refine ci_step (i := 29) (v := ?_) rfl (by kernel_rfl) ?_ ?_
    rotate_left
    · first | (go_simp; done) | (go_simp; with_reducible rfl)
    skip
    try simp only [Act.put, setIfInBounds_toArray, set_cons_zero, set_cons_succ]
    refine ci_end ?_
    rfl
  refine draw_done (by kernel_rfl) ?_ _
  go_wp2
  go_ret
  exact ⟨congrArg (fun x => Ending.returned (Value.int .u32 x)) V.out, rfl⟩
theorem recReads_n24 (g0 : Nat) (B : List Int) (A : Option Addr) (c : Nat) (w : World) (hB : Byte B) (hC : Kd.C (Kd.int .u8) w A B.length B) (hcell : w.cell? ⟨g0, 0, none⟩ = some (.slice A B.length c)) (hl : B.length = 48) :
    Calls Try.prog 33 #[.int .i64 24, .pointer (some ⟨g0, 0, none⟩)] w fun e w' => e = .returned (.int .u32 (valB ((B.drop 24).take 4))) ∧ w' = w.drew := by
  have e : (B.drop 24).take 4 = [rd B 24, rd B 25, rd B 26, rd B 27] := by
    have e0 : rd B 24 = B[24] := PRec.rd_at B 24 (by omega)
    have e1 : rd B 25 = B[25] := PRec.rd_at B 25 (by omega)
    have e2 : rd B 26 = B[26] := PRec.rd_at B 26 (by omega)
    have e3 : rd B 27 = B[27] := PRec.rd_at B 27 (by omega)
    rw [e0, e1, e2, e3, List.drop_eq_getElem_cons (show 24 < B.length by omega), List.drop_eq_getElem_cons (show 25 < B.length by omega), List.drop_eq_getElem_cons (show 26 < B.length by omega), List.drop_eq_getElem_cons (show 27 < B.length by omega)]
    rfl
  have r0 : 0 ≤ rd B 24 ∧ rd B 24 ≤ 255 := PRec.rd_bd B hB 24 (by omega)
  have r1 : 0 ≤ rd B 25 ∧ rd B 25 ≤ 255 := PRec.rd_bd B hB 25 (by omega)
  have r2 : 0 ≤ rd B 26 ∧ rd B 26 ≤ 255 := PRec.rd_bd B hB 26 (by omega)
  have r3 : 0 ≤ rd B 27 ∧ rd B 27 ≤ 255 := PRec.rd_bd B hB 27 (by omega)
  obtain ⟨ad, eA, x0⟩ := Kd.at_int hC 24 (by omega) (by omega)
  obtain ⟨ad1, eA1, x1⟩ := Kd.at_int hC 25 (by omega) (by omega)
  obtain ⟨ad2, eA2, x2⟩ := Kd.at_int hC 26 (by omega) (by omega)
  obtain ⟨ad3, eA3, x3⟩ := Kd.at_int hC 27 (by omega) (by omega)
  subst eA
  cases eA1
  cases eA2
  cases eA3
  have V := Lib.hid (val4 _ _ _ _ r0 r1 r2 r3)
  clear r0 r1 r2 r3 hC hB
  rw [e]
  clear e
  generalize rd B 24 = a at *
  generalize rd B 25 = b at *
  generalize rd B 26 = d at *
  generalize rd B 27 = f at *
  rw [hl] at hcell
  have hlg := World.block_lt_of_cell? _ _ hcell
  have hlb := World.block_lt_of_cell? _ _ x0
  simp only [show (24 : Int).toNat = 24 from rfl, show (25 : Int).toNat = 25 from rfl, show (26 : Int).toNat = 26 from rfl, show (27 : Int).toNat = 27 from rfl, Go.Addr.add, Nat.reduceEqDiff, ↓reduceIte] at x0 x1 x2 x3 hlb
  have wj : IntKind.i64.wrap 25 = 25 := by decide
  have wk : IntKind.i64.wrap 26 = 26 := by decide
  have wl : IntKind.i64.wrap 27 = 27 := by decide
  go_enter Try.func33, Try.ntmps33
  go_wp2_with fail
  refine draw_start [] Later (by kernel_rfl) ?_
  refine draw_chunk (n := 33) (by kernel_rfl) (fun _ _ _ _ _ h => h) [0, 1, 2, 3, 4, 5, 6, 7, 8, 9, 10, 11, 12, 13, 14, 15, 16, 17, 18, 19, 20, 21, 22, 23, 24, 25, 26, 27, 28, 29] [] _ #[true, true, true, true, true, true, true, true, true, true, true, true, true, true, true, true, true, true, true, true, true, true, true, true, true, true, true, true, true, true] (by kernel_rfl) 0 _ ?_ _ rfl ?_ ?_
  rotate_left
  · intro w' hw'
    have hc' : ∀ b o, b < w.heap.size → w'.cell? ⟨b, o, none⟩ = w.cell? ⟨b, o, none⟩ := (bcell hw').1
    have hx' := (hc' g0 0 hlg).trans hcell; have y0 := (hc' ad.block (ad.off + 24) hlb).trans x0; have y1 := (hc' ad.block (ad.off + 25) hlb).trans x1; have y2 := (hc' ad.block (ad.off + 26) hlb).trans x2; have y3 := (hc' ad.block (ad.off + 27) hlb).trans x3
    refine ci_step (i := 0) (v := ?_) rfl (by kernel_rfl) ?_ ?_
    rotate_left
    · first | (go_simp; done) | (go_simp; with_reducible rfl)
    skip
    try simp only [Act.put, setIfInBounds_toArray, set_cons_zero, set_cons_succ]
    refine ci_step (i := 1) (v := ?_) rfl (by kernel_rfl) ?_ ?_
    rotate_left
    · first | (go_simp; done) | (go_simp; with_reducible rfl)
    skip
    try simp only [Act.put, setIfInBounds_toArray, set_cons_zero, set_cons_succ]
    refine ci_step (i := 2) (v := ?_) rfl (by kernel_rfl) ?_ ?_
    rotate_left
    · first | (go_simp; done) | (go_simp; with_reducible rfl)
    skip
    try simp only [Act.put, setIfInBounds_toArray, set_cons_zero, set_cons_succ]
    refine ci_step (i := 3) (v := ?_) rfl (by kernel_rfl) ?_ ?_
    rotate_left
    · first | (go_simp; done) | (go_simp; with_reducible rfl)
    skip
    try simp only [Act.put, setIfInBounds_toArray, set_cons_zero, set_cons_succ]
    refine ci_step (i := 4) (v := ?_) rfl (by kernel_rfl) ?_ ?_
    rotate_left
    · first | (go_simp; done) | (go_simp; with_reducible rfl)
    skip
    try simp only [Act.put, setIfInBounds_toArray, set_cons_zero, set_cons_succ]
    refine ci_step (i := 5) (v := ?_) rfl (by kernel_rfl) ?_ ?_
    rotate_left
    · first | (go_simp; done) | (go_simp; with_reducible rfl)
    skip
    try simp only [Act.put, setIfInBounds_toArray, set_cons_zero, set_cons_succ]
    refine ci_step (i := 6) (v := ?_) rfl (by kernel_rfl) ?_ ?_
    rotate_left
    · first | (go_simp; done) | (go_simp; with_reducible rfl)
    skip
    try simp only [Act.put, setIfInBounds_toArray, set_cons_zero, set_cons_succ]
    refine ci_step (i := 7) (v := ?_) rfl (by kernel_rfl) ?_ ?_
    rotate_left
    · first | (go_simp; done) | (go_simp; with_reducible rfl)
    skip
    try simp only [Act.put, setIfInBounds_toArray, set_cons_zero, set_cons_succ]
    refine ci_step (i := 8) (v := ?_) rfl (by kernel_rfl) ?_ ?_
    rotate_left
    · first | (go_simp; done) | (go_simp; with_reducible rfl)
    skip
    try simp only [Act.put, setIfInBounds_toArray, set_cons_zero, set_cons_succ]
    refine ci_step (i := 9) (v := ?_) rfl (by kernel_rfl) ?_ ?_
    rotate_left
    · first | (go_simp; done) | (go_simp; with_reducible rfl)
    skip
    try simp only [Act.put, setIfInBounds_toArray, set_cons_zero, set_cons_succ]
    refine ci_step (i := 10) (v := ?_) rfl (by kernel_rfl) ?_ ?_
    rotate_left
    · first | (go_simp; done) | (go_simp; with_reducible rfl)
    skip
    try simp only [Act.put, setIfInBounds_toArray, set_cons_zero, set_cons_succ]
    refine ci_step (i := 11) (v := ?_) rfl (by kernel_rfl) ?_ ?_
    rotate_left
    · first | (go_simp; done) | (go_simp; with_reducible rfl)
    skip
    try simp only [Act.put, setIfInBounds_toArray, set_cons_zero, set_cons_succ]
    refine ci_step (i := 12) (v := ?_) rfl (by kernel_rfl) ?_ ?_
    rotate_left
    · first | (go_simp; done) | (go_simp; with_reducible rfl)
    skip
    try simp only [Act.put, setIfInBounds_toArray, set_cons_zero, set_cons_succ]
    refine ci_step (i := 13) (v := ?_) rfl (by kernel_rfl) ?_ ?_
    rotate_left
    · first | (go_simp; done) | (go_simp; with_reducible rfl)
    skip
    try simp only [Act.put, setIfInBounds_toArray, set_cons_zero, set_cons_succ]
    refine ci_step (i := 14) (v := ?_) rfl (by kernel_rfl) ?_ ?_
    rotate_left
    · first | (go_simp; done) | (go_simp; with_reducible rfl)
    skip
    try simp only [Act.put, setIfInBounds_toArray, set_cons_zero, set_cons_succ]
    refine ci_step (i := 15) (v := ?_) rfl (by kernel_rfl) ?_ ?_
    rotate_left
    · first | (go_simp; done) | (go_simp; with_reducible rfl)
    skip
    try simp only [Act.put, setIfInBounds_toArray, set_cons_zero, set_cons_succ]
    refine ci_step (i := 16) (v := ?_) rfl (by kernel_rfl) ?_ ?_
    rotate_left
    · first | (go_simp; done) | (go_simp; with_reducible rfl)
    skip
    try simp only [Act.put, setIfInBounds_toArray, set_cons_zero, set_cons_succ]
    refine ci_step (i := 17) (v := ?_) rfl (by kernel_rfl) ?_ ?_
    rotate_left
    · first | (go_simp; done) | (go_simp; with_reducible rfl)
    skip
    try simp only [Act.put, setIfInBounds_toArray, set_cons_zero, set_cons_succ]
    refine ci_step (i := 18) (v := ?_) rfl (by kernel_rfl) ?_ ?_
    rotate_left
    · first | (go_simp; done) | (go_simp; with_reducible rfl)
    skip
    try simp only [Act.put, setIfInBounds_toArray, set_cons_zero, set_cons_succ]
    refine ci_step (i := 19) (v := ?_) rfl (by kernel_rfl) ?_ ?_
    rotate_left
    · first | (go_simp; done) | (go_simp; with_reducible rfl)
    skip
    try simp only [Act.put, setIfInBounds_toArray, set_cons_zero, set_cons_succ]
    refine ci_step (i := 20) (v := ?_) rfl (by kernel_rfl) ?_ ?_
    rotate_left
    · first | (go_simp; done) | (go_simp; with_reducible rfl)
    skip
    try simp only [Act.put, setIfInBounds_toArray, set_cons_zero, set_cons_succ]
    refine ci_step (i := 21) (v := ?_) rfl (by kernel_rfl) ?_ ?_
    rotate_left
    · first | (go_simp; done) | (go_simp; with_reducible rfl)
    skip
    try simp only [Act.put, setIfInBounds_toArray, set_cons_zero, set_cons_succ]
    refine ci_step (i := 22) (v := ?_) rfl (by kernel_rfl) ?_ ?_
    rotate_left
    · first | (go_simp; done) | (go_simp; with_reducible rfl)
    skip
    try simp only [Act.put, setIfInBounds_toArray, set_cons_zero, set_cons_succ]
    refine ci_step (i := 23) (v := ?_) rfl (by kernel_rfl) ?_ ?_
    rotate_left
    · first | (go_simp; done) | (go_simp; with_reducible rfl)
    skip
    try simp only [Act.put, setIfInBounds_toArray, set_cons_zero, set_cons_succ]
    refine ci_step (i := 24) (v := ?_) rfl (by kernel_rfl) ?_ ?_
    rotate_left
    · first | (go_simp; done) | (go_simp; with_reducible rfl)
    skip
    try simp only [Act.put, setIfInBounds_toArray, set_cons_zero, set_cons_succ]
    refine ci_step (i := 25) (v := ?_) rfl (by kernel_rfl) ?_ ?_
    rotate_left
    · first | (go_simp; done) | (go_simp; with_reducible rfl)
    skip
    try simp only [Act.put, setIfInBounds_toArray, set_cons_zero, set_cons_succ]
    refine ci_step (i := 26) (v := ?_) rfl (by kernel_rfl) ?_ ?_
    rotate_left
    · first | (go_simp; done) | (go_simp; with_reducible rfl)
    skip
    try simp only [Act.put, setIfInBounds_toArray, set_cons_zero, set_cons_succ]
    refine ci_step (i := 27) (v := ?_) rfl (by kernel_rfl) ?_ ?_
    rotate_left
    · first | (go_simp; done) | (go_simp; with_reducible rfl)
    skip
    try simp only [Act.put, setIfInBounds_toArray, set_cons_zero, set_cons_succ]
    refine ci_step (i := 28) (v := ?_) rfl (by kernel_rfl) ?_ ?_
    rotate_left
    · first | (go_simp; done) | (go_simp; with_reducible rfl)
    skip
    try simp only [Act.put, setIfInBounds_toArray, set_cons_zero, set_cons_succ]
    refine ci_step (i := 29) (v := ?_) rfl (by kernel_rfl) ?_ ?_
    rotate_left
    · first | (go_simp; done) | (go_simp; with_reducible rfl)
    skip
    try simp only [Act.put, setIfInBounds_toArray, set_cons_zero, set_cons_succ]
    refine ci_end ?_
    rfl
  refine draw_done (by kernel_rfl) ?_ _
  go_wp2
  go_ret
  exact ⟨congrArg (fun x => Ending.returned (Value.int .u32 x)) V.out, rfl⟩
end Go.Proofs.Ytgmdjhokcipajaa
end
section
set_option linter.unusedVariables false
set_option linter.unusedSimpArgs false
namespace Go.Proofs.Ytgmdjhokcipajaa
open Go.RowKit
open Go.Proofs.YtgmdjhokcipajaaQ
open List (setIfInBounds_toArray set_cons_zero set_cons_succ)
open Go.Proofs.YtgmdjhokcipajaaW.PrintWords (Kd rd own_string)
attribute [-go_sem] Go.run_equalIn_agg
/-! The law RecReads, walked. -/
theorem alloc_rec (a : Act) (w : World) (o : Oper) (h : o.op = .alloc 50) : AllocLike Try.prog o := by
  refine ⟨.cells #[.int .i64 0, .int .u32 0, .int .u32 0, .int .u32 0, .int .u32 0, .int .i64 0, .bool false, .int .u32 0, .int .u16 0] 50, fun a w => ?_⟩
  have e : (Instr.alloc 50 true (.tuple #[])).run Try.prog w = .ok (.pointer (some ⟨w.heap.size, 0, none⟩)) (w.alloc (.cells #[.int .i64 0, .int .u32 0, .int .u32 0, .int .u32 0, .int .u32 0, .int .i64 0, .bool false, .int .u32 0, .int .u16 0] 50)) := by kernel_rfl
  have hx : (execOp a.eval o).run Try.prog w = .ok (.value (.pointer (some ⟨w.heap.size, 0, none⟩))) (w.alloc (.cells #[.int .i64 0, .int .u32 0, .int .u32 0, .int .u32 0, .int .u32 0, .int .i64 0, .bool false, .int .u32 0, .int .u16 0] 50)) := by
    unfold execOp
    simp only [h]
    simp [e]
  refine ⟨hx, ?_⟩
  rintro ⟨h1, -⟩
  have e3 : ((execOp a.eval o).runT Try.prog w #[]).2 = #[] := by
    unfold execOp
    simp only [h]
    first | kernel_rfl | rfl
  rw [e3] at h1
  simp at h1
theorem law05_Reads_long (l : List Int) (A : Option Addr) (c : Nat) (sealed : Bool) (w : World) (hC : Kd.C (Kd.int .u8) w A l.length l) (hl : 100 < l.length) :
    Calls Try.prog 9 #[.slice A l.length c, .bool sealed] w fun e w' => e = .returned (.bool true) ∧ Below w.heap.size w w' := by
  have k0 := Blk.new w 22 #[.slice A l.length c]
  have hb0 : Below w.heap.size w (w.alloc (.cells #[.slice A l.length c] 22)) := (Below.refl _ _).alloc (Nat.le_refl _) _
  have hC0 := Kd.C_below hC hb0
  go_enter Try.func9, Try.ntmps9
  go_wp2_with fail
  refine (PRec.wayfarerlaw05_head.calls 500 true _ (PRec.head_true 0)).mono ?_
  rintro e w1 ⟨rfl, hb1⟩
  replace k0 := k0.below' hb1
  replace hC0 := Kd.C_below hC0 hb1
  replace hb0 := below_step hb0 hb0.size hb1
  clear hb1 hC
  have hlg := k0.lt
  have b0 := k0.cell 0
  simp only [List.getElem?_toArray, List.getElem?_cons_zero] at b0
  have d : decide ((100 : Int) < (l.length : Int)) = true := decide_eq_true (by omega)
  go_wp2
  go_ret
  exact ⟨rfl, hb0⟩
set_option maxHeartbeats 2000000 in
set_option maxRecDepth 100000 in
theorem law05_Reads_ok (l : List Int) (hB : Byte l) (A : Option Addr) (c : Nat) (w : World) (hC : Kd.C (Kd.int .u8) w A l.length l) (hc : l.length ≤ c) (hl : l.length ≤ 100) (r : Rec) (ho : r.ok) (hr : recRightB r = true) (hs : sector r = l) :
    Calls Try.prog 9 #[.slice A l.length c, .bool false] w fun e w' => e = .returned (.bool true) ∧ Below w.heap.size w w' := by
  have hof : PRec.rec_Of.f 500 l = some (PRec.outM r true) := by
    have := PRec.Of_nice 0 l hB
    rw [← hs, PRec.of_sector r ho hr] at this
    rw [← hs]
    exact this
  have hby := PRec.Bytes_nice 0 r ho hr
  have hright : PRec.wayfarerlaw05_Right.f r.kind r.gen r.lsn r.id r.a r.l r.on r.s r.m = some (recRightB r) := if_pos ((PRec.recOkB_iff _).2 ho)
  rw [hr] at hright
  obtain ⟨kind, gen, lsn, rid, a, lv, on, s, m⟩ := r
  simp only [PRec.outM] at hof
  simp only at hby hright
  rw [hs] at hby
  have k0 := Blk.new w 22 #[.slice A l.length c]
  have hb0 : Below w.heap.size w (w.alloc (.cells #[.slice A l.length c] 22)) := (Below.refl _ _).alloc (Nat.le_refl _) _
  have hC0 := Kd.C_below hC hb0
  go_enter Try.func9, Try.ntmps9
  go_wp2_with fail
  refine (PRec.wayfarerlaw05_head.calls 500 true _ (PRec.head_true 0)).mono ?_
  rintro e w1 ⟨rfl, hb1⟩
  replace k0 := k0.below' hb1
  replace hC0 := Kd.C_below hC0 hb1
  replace hb0 := below_step hb0 hb0.size hb1
  clear hb1 hC
  have hlg := k0.lt
  have b0 := k0.cell 0
  simp only [List.getElem?_toArray, List.getElem?_cons_zero] at b0
  have d : decide ((100 : Int) < (l.length : Int)) = false := decide_eq_false (by omega)
  go_wp2_with fail
  refine (PRec.rec_Of.calls 500 A c l _ _ _ _ _ _ _ _ _ _ _ hC0 hc hof).mono ?_
  rintro e w2 ⟨rfl, hb1⟩
  replace k0 := k0.below' hb1
  replace hC0 := Kd.C_below hC0 hb1
  replace hb0 := below_step hb0 hb0.size hb1
  clear hb1 b0 hlg
  have hlg := k0.lt
  have b0 := k0.cell 0
  simp only [List.getElem?_toArray, List.getElem?_cons_zero] at b0
  go_wp2_with fail
  have kR := Blk.new w2 50 #[.int .i64 kind, .int .u32 gen, .int .u32 lsn, .int .u32 rid, .int .u32 a, .int .i64 lv, .bool on, .int .u32 s, .int .u16 m]
  have hbA := (Below.refl w2.heap.size w2).alloc (Nat.le_refl _) (.cells #[.int .i64 kind, .int .u32 gen, .int .u32 lsn, .int .u32 rid, .int .u32 a, .int .i64 lv, .bool on, .int .u32 s, .int .u16 m] 50)
  clear b0
  replace k0 := k0.below' hbA
  replace hC0 := Kd.C_below hC0 hbA
  replace hb0 := below_step hb0 hb0.size hbA
  clear hbA hlg
  generalize (w2.alloc (.cells #[.int .i64 kind, .int .u32 gen, .int .u32 lsn, .int .u32 rid, .int .u32 a, .int .i64 lv, .bool on, .int .u32 s, .int .u16 m] 50)) = W2 at kR k0 hC0 hb0 ⊢
  generalize w2.heap.size = g at kR ⊢
  have hlg := k0.lt
  have hlr := kR.lt
  have b0 := k0.cell 0
  simp only [List.getElem?_toArray, List.getElem?_cons_zero] at b0
  have r0 := kR.cell 0
  have r1 := kR.cell 1
  have r2 := kR.cell 2
  have r3 := kR.cell 3
  have r4 := kR.cell 4
  have r5 := kR.cell 5
  have r6 := kR.cell 6
  have r7 := kR.cell 7
  have r8 := kR.cell 8
  simp only [List.getElem?_toArray, List.getElem?_cons_zero, List.getElem?_cons_succ] at r0 r1 r2 r3 r4 r5 r6 r7 r8
  refine draw_start [] Later (by kernel_rfl) ?_
  refine draw_chunk (n := 103) (by kernel_rfl) (fun _ _ _ _ _ h => h) [0] [] _ #[true, false, false, false, false, false, false, false, false, false, false] (by kernel_rfl) 10 _ ?_ _ rfl ?_ ?_
  rotate_left
  · intro w' hw'
    have hc' : ∀ b o, b < W2.heap.size → w'.cell? ⟨b, o, none⟩ = W2.cell? ⟨b, o, none⟩ := (bcell hw').1
    refine ci_step (i := 0) (v := ?_) rfl (by kernel_rfl) ?_ ?_
    rotate_left
    · first | (go_simp; done) | (go_simp; with_reducible rfl)
    skip
    try simp only [Act.put, setIfInBounds_toArray, set_cons_zero, set_cons_succ]
    refine ci_end ?_
    rfl
  refine draw_eff (i := 1) rfl (by kernel_rfl) (listed' := #[true, true, false, false, false, false, false, false, false, false, false]) rfl (fun K hK => ?_)
  replace hK := Lib.hid hK
  go_wp2_with fail
  refine (PRec.wayfarerlaw05_Right.calls _ _ _ _ _ _ _ _ _ _ _ hright).mono ?_
  rintro e w3 ⟨rfl, hb3⟩
  go_wp2_with fail
  refine hK.out _ _ ⟨fun _ => hb3, ?_⟩
  clear hK b0 r0 r1 r2 r3 r4 r5 r6 r7 r8
  replace k0 := k0.drew.below' hb3
  replace kR := kR.drew.below' hb3
  replace hC0 := Kd.C_below (Kd.C_drew hC0) hb3
  replace hb0 := below_step (Below.drew hb0) hb0.size hb3
  clear hb3 hlg hlr
  have hlg := k0.lt
  have hlr := kR.lt
  have b0 := k0.cell 0
  simp only [List.getElem?_toArray, List.getElem?_cons_zero] at b0
  have r0 := kR.cell 0
  have r1 := kR.cell 1
  have r2 := kR.cell 2
  have r3 := kR.cell 3
  have r4 := kR.cell 4
  have r5 := kR.cell 5
  have r6 := kR.cell 6
  have r7 := kR.cell 7
  have r8 := kR.cell 8
  simp only [List.getElem?_toArray, List.getElem?_cons_zero, List.getElem?_cons_succ] at r0 r1 r2 r3 r4 r5 r6 r7 r8
  refine draw_chunk (n := 103) (by kernel_rfl) (fun _ _ _ _ _ h => h) [2, 3, 6, 7] [] _ #[true, true, true, true, false, false, true, true, false, false, false] (by kernel_rfl) 5 _ ?_ _ rfl ?_ ?_
  rotate_left
  · intro w' hw'
    have hc' : ∀ b o, b < w3.heap.size → w'.cell? ⟨b, o, none⟩ = w3.cell? ⟨b, o, none⟩ := (bcell hw').1
    have hcv := Kd.C_string (P := Try.prog) Try.underlying22 Try.underlying5 Try.underlying9 (n := l.length) (c := c) (Kd.C_below hC0 hw')
    refine ci_step (i := 2) (v := ?_) rfl (by kernel_rfl) ?_ ?_
    rotate_left
    · first | (go_simp; done) | (go_simp; with_reducible rfl)
    skip
    try simp only [Act.put, setIfInBounds_toArray, set_cons_zero, set_cons_succ]
    refine ci_step (i := 3) (v := ?_) rfl (by kernel_rfl) ?_ ?_
    rotate_left
    · first | (go_simp; done) | (go_simp; with_reducible rfl)
    skip
    try simp only [Act.put, setIfInBounds_toArray, set_cons_zero, set_cons_succ]
    refine ci_step (i := 6) (v := ?_) rfl (by kernel_rfl) ?_ ?_
    rotate_left
    · first | (go_simp; done) | (go_simp; with_reducible rfl)
    skip
    try simp only [Act.put, setIfInBounds_toArray, set_cons_zero, set_cons_succ]
    refine ci_step (i := 7) (v := ?_) rfl (by kernel_rfl) ?_ ?_
    rotate_left
    · first | (go_simp; done) | (go_simp; with_reducible rfl)
    skip
    try simp only [Act.put, setIfInBounds_toArray, set_cons_zero, set_cons_succ]
    refine ci_end ?_
    rfl
  refine draw_eff (i := 4) rfl (by kernel_rfl) (listed' := #[true, true, true, true, true, false, true, true, false, false, false]) rfl (fun K hK => ?_)
  replace hK := Lib.hid hK
  go_wp2_with fail
  refine (PRec.wayfarerlaw05_Bytes.calls _ _ _ _ _ _ _ _ _ _ _ _ hby).mono ?_
  rintro e w4 ⟨vB, rfl, hR4, hb3⟩
  go_wp2_with fail
  refine hK.out _ _ ⟨fun _ => hb3, ?_⟩
  clear hK b0 r0 r1 r2 r3 r4 r5 r6 r7 r8
  replace k0 := k0.below' hb3
  replace kR := kR.below' hb3
  replace hC0 := Kd.C_below hC0 hb3
  replace hb0 := below_step hb0 hb0.size hb3
  clear hb3 hlg hlr
  refine draw_chunk (n := 103) (by kernel_rfl) (fun _ _ _ _ _ h => h) [5, 8, 9, 10] [] _ #[true, true, true, true, true, true, true, true, true, true, true] (by kernel_rfl) 0 _ ?_ _ rfl ?_ ?_
  rotate_left
  · intro w' hw'
    have hc' : ∀ b o, b < w4.heap.size → w'.cell? ⟨b, o, none⟩ = w4.cell? ⟨b, o, none⟩ := (bcell hw').1
    have hcv := own_string (P := Try.prog) Try.underlying22 Try.underlying5 Try.underlying9 (Kd.own_of_R (Kd.R_below hR4 hw'))
    refine ci_step (i := 5) (v := ?_) rfl (by kernel_rfl) ?_ ?_
    rotate_left
    · first | (go_simp; done) | (go_simp; with_reducible rfl)
    skip
    try simp only [Act.put, setIfInBounds_toArray, set_cons_zero, set_cons_succ]
    refine ci_step (i := 8) (v := ?_) rfl (by kernel_rfl) ?_ ?_
    rotate_left
    · first | (go_simp; done) | (go_simp; with_reducible rfl)
    skip
    try simp only [Act.put, setIfInBounds_toArray, set_cons_zero, set_cons_succ]
    refine ci_step (i := 9) (v := ?_) rfl (by kernel_rfl) ?_ ?_
    rotate_left
    · first | (go_simp; done) | (go_simp; with_reducible rfl)
    skip
    try simp only [Act.put, setIfInBounds_toArray, set_cons_zero, set_cons_succ]
    refine ci_step (i := 10) (v := ?_) rfl (by kernel_rfl) ?_ ?_
    rotate_left
    · first | (go_simp; done) | (go_simp; with_reducible rfl)
    skip
    try simp only [Act.put, setIfInBounds_toArray, set_cons_zero, set_cons_succ]
    refine ci_end ?_
    rfl
  refine draw_done (by kernel_rfl) ?_ _
  go_wp2
  go_ret
  exact ⟨by simp, hb0⟩
set_option maxHeartbeats 2000000 in
set_option maxRecDepth 100000 in
theorem law05_Reads_no (l : List Int) (hB : Byte l) (A : Option Addr) (c : Nat) (w : World) (hC : Kd.C (Kd.int .u8) w A l.length l) (hc : l.length ≤ c) (hl : l.length ≤ 100) (hn : l.length ≠ 48) :
    Calls Try.prog 9 #[.slice A l.length c, .bool false] w fun e w' => e = .returned (.bool true) ∧ Below w.heap.size w w' := by
  have hof : PRec.rec_Of.f 500 l = some (PRec.outM PRec.noRec false) := by
    have := PRec.Of_nice 0 l hB
    rw [this]
    unfold PRec.ofM
    rw [if_neg (fun h => hn h.1)]
  simp only [PRec.outM, PRec.noRec] at hof
  have k0 := Blk.new w 22 #[.slice A l.length c]
  have hb0 : Below w.heap.size w (w.alloc (.cells #[.slice A l.length c] 22)) := (Below.refl _ _).alloc (Nat.le_refl _) _
  have hC0 := Kd.C_below hC hb0
  go_enter Try.func9, Try.ntmps9
  go_wp2_with fail
  refine (PRec.wayfarerlaw05_head.calls 500 true _ (PRec.head_true 0)).mono ?_
  rintro e w1 ⟨rfl, hb1⟩
  replace k0 := k0.below' hb1
  replace hC0 := Kd.C_below hC0 hb1
  replace hb0 := below_step hb0 hb0.size hb1
  clear hb1 hC
  have hlg := k0.lt
  have b0 := k0.cell 0
  simp only [List.getElem?_toArray, List.getElem?_cons_zero] at b0
  have d : decide ((100 : Int) < (l.length : Int)) = false := decide_eq_false (by omega)
  go_wp2_with fail
  refine (PRec.rec_Of.calls 500 A c l _ _ _ _ _ _ _ _ _ _ _ hC0 hc hof).mono ?_
  rintro e w2 ⟨rfl, hb1⟩
  replace k0 := k0.below' hb1
  replace hC0 := Kd.C_below hC0 hb1
  replace hb0 := below_step hb0 hb0.size hb1
  have dn : ((l.length : Int) == 48) = false := beq_eq_false_iff_ne.2 (by omega)
  have de : recEqB ⟨0, 0, 0, 0, 0, 0, false, 0, 0⟩ ⟨0, 0, 0, 0, 0, 0, false, 0, 0⟩ = true := by decide
  clear hb1 b0 hlg
  have hlg := k0.lt
  have b0 := k0.cell 0
  simp only [List.getElem?_toArray, List.getElem?_cons_zero] at b0
  go_wp2
  go_ret
  exact ⟨by first | rfl | simp, hb0.alloc (Nat.le_of_lt hlg) _⟩
set_option maxHeartbeats 2000000 in
set_option maxRecDepth 100000 in
theorem law05_Reads_not (l : List Int) (hB : Byte l) (A : Option Addr) (c : Nat) (w : World) (hC : Kd.C (Kd.int .u8) w A l.length l) (hc : l.length ≤ c) (hl0 : l.length = 48) (hno : PRec.ofM l = PRec.outM PRec.noRec false) (hr : recRightB (PRec.fieldsM l) = false) (ho : (PRec.fieldsM l).ok) :
    Calls Try.prog 9 #[.slice A l.length c, .bool false] w fun e w' => e = .returned (.bool true) ∧ Below w.heap.size w w' := by
  have hl := Lib.hid hl0
  clear hl0
  have hof : PRec.rec_Of.f 500 l = some (PRec.outM PRec.noRec false) := by
    rw [← hno]
    exact PRec.Of_nice 0 l hB
  simp only [PRec.outM, PRec.noRec] at hof
  have k0 := Blk.new w 22 #[.slice A l.length c]
  have hb0 : Below w.heap.size w (w.alloc (.cells #[.slice A l.length c] 22)) := (Below.refl _ _).alloc (Nat.le_refl _) _
  have hC0 := Kd.C_below hC hb0
  go_enter Try.func9, Try.ntmps9
  go_wp2_with fail
  refine (PRec.wayfarerlaw05_head.calls 500 true _ (PRec.head_true 0)).mono ?_
  rintro e w1 ⟨rfl, hb1⟩
  replace k0 := k0.below' hb1
  replace hC0 := Kd.C_below hC0 hb1
  replace hb0 := below_step hb0 hb0.size hb1
  clear hb1 hC
  have hlg := k0.lt
  have b0 := k0.cell 0
  simp only [List.getElem?_toArray, List.getElem?_cons_zero] at b0
  have d : decide ((100 : Int) < (l.length : Int)) = false := decide_eq_false (by have := hl.out; omega)
  go_wp2_with fail
  refine (PRec.rec_Of.calls 500 A c l _ _ _ _ _ _ _ _ _ _ _ hC0 hc hof).mono ?_
  rintro e w2 ⟨rfl, hb1⟩
  replace k0 := k0.below' hb1
  replace hC0 := Kd.C_below hC0 hb1
  replace hb0 := below_step hb0 hb0.size hb1
  have dn : ((l.length : Int) == 48) = true := beq_iff_eq.2 (by have := hl.out; omega)
  have de : recEqB ⟨0, 0, 0, 0, 0, 0, false, 0, 0⟩ ⟨0, 0, 0, 0, 0, 0, false, 0, 0⟩ = true := by decide
  clear hb1 b0 hlg
  have hlg := k0.lt
  have b0 := k0.cell 0
  simp only [List.getElem?_toArray, List.getElem?_cons_zero] at b0
  go_wp2_with fail
  have hright : PRec.wayfarerlaw05_Right.f (rd l 0) (valB ((l.drop 4).take 4)) (valB ((l.drop 8).take 4)) (valB ((l.drop 12).take 4)) (valB ((l.drop 16).take 4)) (rd l 20) (rd l 1 == 1) (valB ((l.drop 24).take 4)) (rd l 2 * 256 + rd l 3) = some false := by
    rw [← hr]
    exact if_pos ((PRec.recOkB_iff _).2 ho)
  have hby := True.intro
  clear ho hr
  have kR := Blk.new w2 50 #[.int .i64 0, .int .u32 0, .int .u32 0, .int .u32 0, .int .u32 0, .int .i64 0, .bool false, .int .u32 0, .int .u16 0]
  have hbA := (Below.refl w2.heap.size w2).alloc (Nat.le_refl _) (.cells #[.int .i64 0, .int .u32 0, .int .u32 0, .int .u32 0, .int .u32 0, .int .i64 0, .bool false, .int .u32 0, .int .u16 0] 50)
  clear b0 kR
  replace k0 := k0.below' hbA
  replace hC0 := Kd.C_below hC0 hbA
  replace hb0 := below_step hb0 hb0.size hbA
  clear hbA hlg de dn d
  generalize (w2.alloc (.cells #[.int .i64 0, .int .u32 0, .int .u32 0, .int .u32 0, .int .u32 0, .int .i64 0, .bool false, .int .u32 0, .int .u16 0] 50)) = W2 at k0 hC0 hb0 ⊢
  have hal : ∀ oj : Oper, oj.op = .alloc 50 → AllocLike Try.prog oj := fun oj h => alloc_rec ⟨#[], []⟩ W2 oj h
  have hl48 := hl.out
  have x0 := Kd.at_int hC0 0 (by omega) (by omega)
  have x1 := Kd.at_int hC0 1 (by omega) (by omega)
  have x2 := Kd.at_int hC0 2 (by omega) (by omega)
  have x3 := Kd.at_int hC0 3 (by omega) (by omega)
  have x20 := Kd.at_int hC0 20 (by omega) (by omega)
  have hlb : ∃ ad, A = some ad ∧ ad.block < W2.heap.size ∧ W2.cell? ad = some (.int .u8 (rd l 0)) ∧ W2.cell? ⟨ad.block, ad.off + 1, none⟩ = some (.int .u8 (rd l 1)) ∧ W2.cell? ⟨ad.block, ad.off + 2, none⟩ = some (.int .u8 (rd l 2)) ∧ W2.cell? ⟨ad.block, ad.off + 3, none⟩ = some (.int .u8 (rd l 3)) ∧ W2.cell? ⟨ad.block, ad.off + 20, none⟩ = some (.int .u8 (rd l 20)) := by
    obtain ⟨ad, eA, x0⟩ := x0
    obtain ⟨ad1, eA1, x1⟩ := x1
    obtain ⟨ad2, eA2, x2⟩ := x2
    obtain ⟨ad3, eA3, x3⟩ := x3
    obtain ⟨ad4, eA4, x20⟩ := x20
    subst eA
    cases eA1
    cases eA2
    cases eA3
    cases eA4
    simp only [show (0 : Int).toNat = 0 from rfl, show (1 : Int).toNat = 1 from rfl, show (2 : Int).toNat = 2 from rfl, show (3 : Int).toNat = 3 from rfl, show (20 : Int).toNat = 20 from rfl, Go.Addr.add, Nat.reduceEqDiff, ↓reduceIte] at x0 x1 x2 x3 x20
    exact ⟨ad, rfl, World.block_lt_of_cell? _ _ x0, x0, x1, x2, x3, x20⟩
  clear x0 x1 x2 x3 x20
  obtain ⟨ad, rfl, hlb, x0, x1, x2, x3, x20⟩ := hlb
  have hlg := k0.lt
  have b0 := k0.cell 0
  simp only [List.getElem?_toArray, List.getElem?_cons_zero] at b0
  rw [hl48] at b0
  clear hl48
  refine draw_start [36] Later (by kernel_rfl) ?_
  refine draw_chunk (n := 103) (by kernel_rfl) (fun _ _ _ _ _ h => h) [0, 1, 2, 3, 4, 6, 8, 10, 12, 13, 14, 15, 17, 18, 19, 20, 21, 23, 24, 25, 26, 27, 28, 29, 30, 31, 32] [] _ #[true, true, true, true, true, false, true, false, true, false, true, false, true, true, true, true, false, true, true, true, true, true, false, true, true, true, true, true, true, true, true, true, true, false, false, false, false] (by kernel_rfl) 10 _ ?_ _ rfl ?_ ?_
  rotate_left
  · intro w' hw'
    have hc' : ∀ b o, b < W2.heap.size → w'.cell? ⟨b, o, none⟩ = W2.cell? ⟨b, o, none⟩ := (bcell hw').1
    have y0 := (Below.cell (p := ad) hw' hlb).trans x0; have y1 := (hc' ad.block (ad.off + 1) hlb).trans x1; have y2 := (hc' ad.block (ad.off + 2) hlb).trans x2; have y3 := (hc' ad.block (ad.off + 3) hlb).trans x3; have y20 := (hc' ad.block (ad.off + 20) hlb).trans x20; have z0 := (hc' w.heap.size 0 hlg).trans b0
    refine ci_step (i := 0) (v := ?_) rfl (by kernel_rfl) ?_ ?_
    rotate_left
    · first | (go_simp; done) | (go_simp; with_reducible rfl)
    skip
    try simp only [Act.put, setIfInBounds_toArray, set_cons_zero, set_cons_succ]
    refine ci_step (i := 1) (v := ?_) rfl (by kernel_rfl) ?_ ?_
    rotate_left
    · first | (go_simp; done) | (go_simp; with_reducible rfl)
    skip
    try simp only [Act.put, setIfInBounds_toArray, set_cons_zero, set_cons_succ]
    refine ci_step (i := 2) (v := ?_) rfl (by kernel_rfl) ?_ ?_
    rotate_left
    · first | (go_simp; done) | (go_simp; with_reducible rfl)
    skip
    try simp only [Act.put, setIfInBounds_toArray, set_cons_zero, set_cons_succ]
    refine ci_step (i := 3) (v := ?_) rfl (by kernel_rfl) ?_ ?_
    rotate_left
    · first | (go_simp; done) | (go_simp; with_reducible rfl)
    skip
    try simp only [Act.put, setIfInBounds_toArray, set_cons_zero, set_cons_succ]
    refine ci_step (i := 4) (v := ?_) rfl (by kernel_rfl) ?_ ?_
    rotate_left
    · first | (go_simp; done) | (go_simp; with_reducible rfl)
    skip
    try simp only [Act.put, setIfInBounds_toArray, set_cons_zero, set_cons_succ]
    refine ci_step (i := 6) (v := ?_) rfl (by kernel_rfl) ?_ ?_
    rotate_left
    · first | (go_simp; done) | (go_simp; with_reducible rfl)
    skip
    try simp only [Act.put, setIfInBounds_toArray, set_cons_zero, set_cons_succ]
    refine ci_step (i := 8) (v := ?_) rfl (by kernel_rfl) ?_ ?_
    rotate_left
    · first | (go_simp; done) | (go_simp; with_reducible rfl)
    skip
    try simp only [Act.put, setIfInBounds_toArray, set_cons_zero, set_cons_succ]
    refine ci_step (i := 10) (v := ?_) rfl (by kernel_rfl) ?_ ?_
    rotate_left
    · first | (go_simp; done) | (go_simp; with_reducible rfl)
    skip
    try simp only [Act.put, setIfInBounds_toArray, set_cons_zero, set_cons_succ]
    refine ci_step (i := 12) (v := ?_) rfl (by kernel_rfl) ?_ ?_
    rotate_left
    · first | (go_simp; done) | (go_simp; with_reducible rfl)
    skip
    try simp only [Act.put, setIfInBounds_toArray, set_cons_zero, set_cons_succ]
    refine ci_step (i := 13) (v := ?_) rfl (by kernel_rfl) ?_ ?_
    rotate_left
    · first | (go_simp; done) | (go_simp; with_reducible rfl)
    skip
    try simp only [Act.put, setIfInBounds_toArray, set_cons_zero, set_cons_succ]
    refine ci_step (i := 14) (v := ?_) rfl (by kernel_rfl) ?_ ?_
    rotate_left
    · first | (go_simp; done) | (go_simp; with_reducible rfl)
    skip
    try simp only [Act.put, setIfInBounds_toArray, set_cons_zero, set_cons_succ]
    refine ci_step (i := 15) (v := ?_) rfl (by kernel_rfl) ?_ ?_
    rotate_left
    · first | (go_simp; done) | (go_simp; with_reducible rfl)
    skip
    try simp only [Act.put, setIfInBounds_toArray, set_cons_zero, set_cons_succ]
    refine ci_step (i := 17) (v := ?_) rfl (by kernel_rfl) ?_ ?_
    rotate_left
    · first | (go_simp; done) | (go_simp; with_reducible rfl)
    skip
    try simp only [Act.put, setIfInBounds_toArray, set_cons_zero, set_cons_succ]
    refine ci_step (i := 18) (v := ?_) rfl (by kernel_rfl) ?_ ?_
    rotate_left
    · first | (go_simp; done) | (go_simp; with_reducible rfl)
    skip
    try simp only [Act.put, setIfInBounds_toArray, set_cons_zero, set_cons_succ]
    refine ci_step (i := 19) (v := ?_) rfl (by kernel_rfl) ?_ ?_
    rotate_left
    · first | (go_simp; done) | (go_simp; with_reducible rfl)
    skip
    try simp only [Act.put, setIfInBounds_toArray, set_cons_zero, set_cons_succ]
    refine ci_step (i := 20) (v := ?_) rfl (by kernel_rfl) ?_ ?_
    rotate_left
    · first | (go_simp; done) | (go_simp; with_reducible rfl)
    skip
    try simp only [Act.put, setIfInBounds_toArray, set_cons_zero, set_cons_succ]
    refine ci_step (i := 21) (v := ?_) rfl (by kernel_rfl) ?_ ?_
    rotate_left
    · first | (go_simp; done) | (go_simp; with_reducible rfl)
    skip
    try simp only [Act.put, setIfInBounds_toArray, set_cons_zero, set_cons_succ]
    refine ci_step (i := 23) (v := ?_) rfl (by kernel_rfl) ?_ ?_
    rotate_left
    · first | (go_simp; done) | (go_simp; with_reducible rfl)
    skip
    try simp only [Act.put, setIfInBounds_toArray, set_cons_zero, set_cons_succ]
    refine ci_step (i := 24) (v := ?_) rfl (by kernel_rfl) ?_ ?_
    rotate_left
    · first | (go_simp; done) | (go_simp; with_reducible rfl)
    skip
    try simp only [Act.put, setIfInBounds_toArray, set_cons_zero, set_cons_succ]
    refine ci_step (i := 25) (v := ?_) rfl (by kernel_rfl) ?_ ?_
    rotate_left
    · first | (go_simp; done) | (go_simp; with_reducible rfl)
    skip
    try simp only [Act.put, setIfInBounds_toArray, set_cons_zero, set_cons_succ]
    refine ci_step (i := 26) (v := ?_) rfl (by kernel_rfl) ?_ ?_
    rotate_left
    · first | (go_simp; done) | (go_simp; with_reducible rfl)
    skip
    try simp only [Act.put, setIfInBounds_toArray, set_cons_zero, set_cons_succ]
    refine ci_step (i := 27) (v := ?_) rfl (by kernel_rfl) ?_ ?_
    rotate_left
    · first | (go_simp; done) | (go_simp; with_reducible rfl)
    skip
    try simp only [Act.put, setIfInBounds_toArray, set_cons_zero, set_cons_succ]
    refine ci_step (i := 28) (v := ?_) rfl (by kernel_rfl) ?_ ?_
    rotate_left
    · first | (go_simp; done) | (go_simp; with_reducible rfl)
    skip
    try simp only [Act.put, setIfInBounds_toArray, set_cons_zero, set_cons_succ]
    refine ci_step (i := 29) (v := ?_) rfl (by kernel_rfl) ?_ ?_
    rotate_left
    · first | (go_simp; done) | (go_simp; with_reducible rfl)
    skip
    try simp only [Act.put, setIfInBounds_toArray, set_cons_zero, set_cons_succ]
    refine ci_step (i := 30) (v := ?_) rfl (by kernel_rfl) ?_ ?_
    rotate_left
    · first | (go_simp; done) | (go_simp; with_reducible rfl)
    skip
    try simp only [Act.put, setIfInBounds_toArray, set_cons_zero, set_cons_succ]
    refine ci_step (i := 31) (v := ?_) rfl (by kernel_rfl) ?_ ?_
    rotate_left
    · first | (go_simp; done) | (go_simp; with_reducible rfl)
    skip
    try simp only [Act.put, setIfInBounds_toArray, set_cons_zero, set_cons_succ]
    refine ci_step (i := 32) (v := ?_) rfl (by kernel_rfl) ?_ ?_
    rotate_left
    · first | (go_simp; done) | (go_simp; with_reducible rfl)
    skip
    try simp only [Act.put, setIfInBounds_toArray, set_cons_zero, set_cons_succ]
    refine ci_end ?_
    rfl
  clear hlb x0 x1 x2 x3 x20 b0
  replace k0 := k0.drew
  replace hC0 := Kd.C_drew hC0
  replace hb0 := Below.drew hb0
  generalize W2.drew = V0 at k0 hC0 hb0 ⊢
  have hlg := k0.lt
  have b0 := k0.cell 0
  simp only [List.getElem?_toArray, List.getElem?_cons_zero] at b0
  refine draw_call (i := 5) (v := .int .u32 (valB ((l.drop 4).take 4))) 50 rfl (by kernel_rfl) (by kernel_rfl) hal (fun w => Below.drew (Below.refl _ _)) (fun w o => (Below.refl _ _).alloc (Nat.le_refl _) _) (listed' := #[true, true, true, true, true, true, true, false, true, false, true, false, true, true, true, true, false, true, true, true, true, true, false, true, true, true, true, true, true, true, true, true, true, false, false, false, false]) rfl (by kernel_rfl) (fun w' hw' => ⟨33, #[.int .i64 4, .pointer (some ⟨w.heap.size, 0, none⟩)], ?_, recReads_n4 w.heap.size l (some ad) c w' hB (Kd.C_below hC0 hw') ((Below.cell (p := ⟨w.heap.size, 0, none⟩) hw' hlg).trans b0) hl.out⟩) (fun m => ?_)
  · first | (go_simp; done) | (go_simp; with_reducible rfl)
  try simp only [Act.put, setIfInBounds_toArray, set_cons_zero, set_cons_succ]
  have hW : Below (V0).heap.size V0 ((V0).drewN m) := below_drewN (Below.refl _ _) m
  clear hlg b0
  replace k0 := k0.below' hW
  replace hC0 := Kd.C_below hC0 hW
  replace hb0 := below_step hb0 hb0.size hW
  clear hW
  generalize (V0).drewN m = V1 at k0 hC0 hb0 ⊢
  clear m
  have hlg := k0.lt
  have b0 := k0.cell 0
  simp only [List.getElem?_toArray, List.getElem?_cons_zero] at b0
  refine draw_call (i := 7) (v := .int .u32 (valB ((l.drop 8).take 4))) 50 rfl (by kernel_rfl) (by kernel_rfl) hal (fun w => Below.drew (Below.refl _ _)) (fun w o => (Below.refl _ _).alloc (Nat.le_refl _) _) (listed' := #[true, true, true, true, true, true, true, true, true, false, true, false, true, true, true, true, false, true, true, true, true, true, false, true, true, true, true, true, true, true, true, true, true, false, false, false, false]) rfl (by kernel_rfl) (fun w' hw' => ⟨33, #[.int .i64 8, .pointer (some ⟨w.heap.size, 0, none⟩)], ?_, recReads_n8 w.heap.size l (some ad) c w' hB (Kd.C_below hC0 hw') ((Below.cell (p := ⟨w.heap.size, 0, none⟩) hw' hlg).trans b0) hl.out⟩) (fun m => ?_)
  · first | (go_simp; done) | (go_simp; with_reducible rfl)
  try simp only [Act.put, setIfInBounds_toArray, set_cons_zero, set_cons_succ]
  have hW : Below (V1).heap.size V1 ((V1).drewN m) := below_drewN (Below.refl _ _) m
  clear hlg b0
  replace k0 := k0.below' hW
  replace hC0 := Kd.C_below hC0 hW
  replace hb0 := below_step hb0 hb0.size hW
  clear hW
  generalize (V1).drewN m = V2 at k0 hC0 hb0 ⊢
  clear m
  have hlg := k0.lt
  have b0 := k0.cell 0
  simp only [List.getElem?_toArray, List.getElem?_cons_zero] at b0
  refine draw_call (i := 9) (v := .int .u32 (valB ((l.drop 12).take 4))) 50 rfl (by kernel_rfl) (by kernel_rfl) hal (fun w => Below.drew (Below.refl _ _)) (fun w o => (Below.refl _ _).alloc (Nat.le_refl _) _) (listed' := #[true, true, true, true, true, true, true, true, true, true, true, false, true, true, true, true, false, true, true, true, true, true, false, true, true, true, true, true, true, true, true, true, true, false, false, false, false]) rfl (by kernel_rfl) (fun w' hw' => ⟨33, #[.int .i64 12, .pointer (some ⟨w.heap.size, 0, none⟩)], ?_, recReads_n12 w.heap.size l (some ad) c w' hB (Kd.C_below hC0 hw') ((Below.cell (p := ⟨w.heap.size, 0, none⟩) hw' hlg).trans b0) hl.out⟩) (fun m => ?_)
  · first | (go_simp; done) | (go_simp; with_reducible rfl)
  try simp only [Act.put, setIfInBounds_toArray, set_cons_zero, set_cons_succ]
  have hW : Below (V2).heap.size V2 ((V2).drewN m) := below_drewN (Below.refl _ _) m
  clear hlg b0
  replace k0 := k0.below' hW
  replace hC0 := Kd.C_below hC0 hW
  replace hb0 := below_step hb0 hb0.size hW
  clear hW
  generalize (V2).drewN m = V3 at k0 hC0 hb0 ⊢
  clear m
  have hlg := k0.lt
  have b0 := k0.cell 0
  simp only [List.getElem?_toArray, List.getElem?_cons_zero] at b0
  refine draw_call (i := 11) (v := .int .u32 (valB ((l.drop 16).take 4))) 50 rfl (by kernel_rfl) (by kernel_rfl) hal (fun w => Below.drew (Below.refl _ _)) (fun w o => (Below.refl _ _).alloc (Nat.le_refl _) _) (listed' := #[true, true, true, true, true, true, true, true, true, true, true, true, true, true, true, true, false, true, true, true, true, true, false, true, true, true, true, true, true, true, true, true, true, false, false, false, false]) rfl (by kernel_rfl) (fun w' hw' => ⟨33, #[.int .i64 16, .pointer (some ⟨w.heap.size, 0, none⟩)], ?_, recReads_n16 w.heap.size l (some ad) c w' hB (Kd.C_below hC0 hw') ((Below.cell (p := ⟨w.heap.size, 0, none⟩) hw' hlg).trans b0) hl.out⟩) (fun m => ?_)
  · first | (go_simp; done) | (go_simp; with_reducible rfl)
  try simp only [Act.put, setIfInBounds_toArray, set_cons_zero, set_cons_succ]
  have hW : Below (V3).heap.size V3 ((V3).drewN m) := below_drewN (Below.refl _ _) m
  clear hlg b0
  replace k0 := k0.below' hW
  replace hC0 := Kd.C_below hC0 hW
  replace hb0 := below_step hb0 hb0.size hW
  clear hW
  generalize (V3).drewN m = V4 at k0 hC0 hb0 ⊢
  clear m
  have hlg := k0.lt
  have b0 := k0.cell 0
  simp only [List.getElem?_toArray, List.getElem?_cons_zero] at b0
  refine draw_chunk (n := 103) (by kernel_rfl) (fun _ _ _ _ _ h => h) [16] [] _ #[true, true, true, true, true, true, true, true, true, true, true, true, true, true, true, true, true, true, true, true, true, true, false, true, true, true, true, true, true, true, true, true, true, false, false, false, false] (by kernel_rfl) 5 _ ?_ _ rfl ?_ ?_
  rotate_left
  · intro w' hw'
    have hc' : ∀ b o, b < V4.heap.size → w'.cell? ⟨b, o, none⟩ = V4.cell? ⟨b, o, none⟩ := (bcell hw').1
    refine ci_step (i := 16) (v := ?_) rfl (by kernel_rfl) ?_ ?_
    rotate_left
    · first | (go_simp; done) | (go_simp; with_reducible rfl)
    skip
    try simp only [Act.put, setIfInBounds_toArray, set_cons_zero, set_cons_succ]
    refine ci_end ?_
    rfl
  refine draw_call (i := 22) (v := .int .u32 (valB ((l.drop 24).take 4))) 50 rfl (by kernel_rfl) (by kernel_rfl) hal (fun w => Below.drew (Below.refl _ _)) (fun w o => (Below.refl _ _).alloc (Nat.le_refl _) _) (listed' := #[true, true, true, true, true, true, true, true, true, true, true, true, true, true, true, true, true, true, true, true, true, true, true, true, true, true, true, true, true, true, true, true, true, false, false, false, false]) rfl (by kernel_rfl) (fun w' hw' => ⟨33, #[.int .i64 24, .pointer (some ⟨w.heap.size, 0, none⟩)], ?_, recReads_n24 w.heap.size l (some ad) c w' hB (Kd.C_below hC0 hw') ((Below.cell (p := ⟨w.heap.size, 0, none⟩) hw' hlg).trans b0) hl.out⟩) (fun m => ?_)
  · first | (go_simp; done) | (go_simp; with_reducible rfl)
  try simp only [Act.put, setIfInBounds_toArray, set_cons_zero, set_cons_succ]
  have hW : Below (V4).heap.size V4 ((V4).drewN m) := below_drewN (Below.refl _ _) m
  clear hlg b0
  replace k0 := k0.below' hW
  replace hC0 := Kd.C_below hC0 hW
  replace hb0 := below_step hb0 hb0.size hW
  clear hW
  generalize (V4).drewN m = V5 at k0 hC0 hb0 ⊢
  clear m
  have hlg := k0.lt
  have b0 := k0.cell 0
  simp only [List.getElem?_toArray, List.getElem?_cons_zero] at b0
  refine draw_chunk (n := 103) (by kernel_rfl) (fun _ _ _ _ _ h => h) [33, 34] [] _ #[true, true, true, true, true, true, true, true, true, true, true, true, true, true, true, true, true, true, true, true, true, true, true, true, true, true, true, true, true, true, true, true, true, true, true, false, false] (by kernel_rfl) 2 _ ?_ _ rfl ?_ ?_
  rotate_left
  · intro w' hw'
    have hc' : ∀ b o, b < V5.heap.size → w'.cell? ⟨b, o, none⟩ = V5.cell? ⟨b, o, none⟩ := (bcell hw').1
    refine ci_step (i := 33) (v := ?_) rfl (by kernel_rfl) ?_ ?_
    rotate_left
    · first | (go_simp; done) | (go_simp; with_reducible rfl)
    skip
    try simp only [Act.put, setIfInBounds_toArray, set_cons_zero, set_cons_succ]
    refine ci_step (i := 34) (v := ?_) rfl (by kernel_rfl) ?_ ?_
    rotate_left
    · first | (go_simp; done) | (go_simp; with_reducible rfl)
    skip
    try simp only [Act.put, setIfInBounds_toArray, set_cons_zero, set_cons_succ]
    refine ci_end ?_
    rfl
  refine draw_eff (i := 35) rfl (by kernel_rfl) (listed' := #[true, true, true, true, true, true, true, true, true, true, true, true, true, true, true, true, true, true, true, true, true, true, true, true, true, true, true, true, true, true, true, true, true, true, true, true, false]) rfl (fun K hK => ?_)
  replace hK := Lib.hid hK
  go_wp2_with fail
  refine hK.out _ _ ⟨fun _ => (Below.refl _ _).alloc (Nat.le_refl _) _, ?_⟩
  clear hK K b0
  have hbA := (Below.refl V5.heap.size V5).alloc (Nat.le_refl _) (.cells #[.int .i64 0, .int .u32 0, .int .u32 0, .int .u32 0, .int .u32 0, .int .i64 0, .bool false, .int .u32 0, .int .u16 0] 50)
  refine draw_eff (i := 36) rfl (by kernel_rfl) (listed' := #[true, true, true, true, true, true, true, true, true, true, true, true, true, true, true, true, true, true, true, true, true, true, true, true, true, true, true, true, true, true, true, true, true, true, true, true, true]) rfl (fun K hK => ?_)
  replace hK := Lib.hid hK
  go_wp2_with fail
  refine hK.out _ _ ⟨fun h => absurd (by decide) h, ?_⟩
  clear hK hbA hal
  refine draw_done (by kernel_rfl) ?_ _
  have h0b : 0 ≤ rd l 0 ∧ rd l 0 ≤ 255 := PRec.rd_bd l hB 0 (by have := hl.out; omega)
  have h2b : 0 ≤ rd l 2 ∧ rd l 2 ≤ 255 := PRec.rd_bd l hB 2 (by have := hl.out; omega)
  have h3b : 0 ≤ rd l 3 ∧ rd l 3 ≤ 255 := PRec.rd_bd l hB 3 (by have := hl.out; omega)
  have h20b : 0 ≤ rd l 20 ∧ rd l 20 ≤ 255 := PRec.rd_bd l hB 20 (by have := hl.out; omega)
  have v0 : wrap64 (rd l 0) = rd l 0 := PRec.w64 _ (Int.le_trans (by decide) h0b.1) (Int.le_trans h0b.2 (by decide))
  have v20 : wrap64 (rd l 20) = rd l 20 := PRec.w64 _ (Int.le_trans (by decide) h20b.1) (Int.le_trans h20b.2 (by decide))
  have v2 : IntKind.u16.wrap (IntKind.u16.wrap (IntKind.u16.wrap (rd l 2) * 256) + IntKind.u16.wrap (rd l 3)) = rd l 2 * 256 + rd l 3 := by
    have := h2b.1
    have := h2b.2
    have := h3b.1
    have := h3b.2
    simp only [IntKind.wrap_u16]
    omega
  rw [v0, v20, v2]
  clear h0b h2b h3b h20b v0 v20 v2
  generalize ev0 : rd l 0 = f0 at hright hby ⊢
  generalize ev1 : valB ((l.drop 4).take 4) = f1 at hright hby ⊢
  generalize ev2 : valB ((l.drop 8).take 4) = f2 at hright hby ⊢
  generalize ev3 : valB ((l.drop 12).take 4) = f3 at hright hby ⊢
  generalize ev4 : valB ((l.drop 16).take 4) = f4 at hright hby ⊢
  generalize ev5 : rd l 20 = f5 at hright hby ⊢
  generalize ev6 : (rd l 1 == 1) = f6 at hright hby ⊢
  generalize ev7 : valB ((l.drop 24).take 4) = f7 at hright hby ⊢
  generalize ev8 : rd l 2 * 256 + rd l 3 = f8 at hright hby ⊢
  clear ev0 ev1 ev2 ev3 ev4 ev5 ev6 ev7 ev8
  go_wp2_with fail
  have kR := Blk.new V5 50 #[.int .i64 f0, .int .u32 f1, .int .u32 f2, .int .u32 f3, .int .u32 f4, .int .i64 f5, .bool f6, .int .u32 f7, .int .u16 f8]
  have hbA := (Below.refl V5.heap.size V5).alloc (Nat.le_refl _) (.cells #[.int .i64 f0, .int .u32 f1, .int .u32 f2, .int .u32 f3, .int .u32 f4, .int .i64 f5, .bool f6, .int .u32 f7, .int .u16 f8] 50)
  replace k0 := k0.below' hbA
  replace hC0 := Kd.C_below hC0 hbA
  replace hb0 := below_step hb0 hb0.size hbA
  clear hbA hlg
  generalize (V5.alloc (.cells #[.int .i64 f0, .int .u32 f1, .int .u32 f2, .int .u32 f3, .int .u32 f4, .int .i64 f5, .bool f6, .int .u32 f7, .int .u16 f8] 50)) = W6 at kR k0 hC0 hb0 ⊢
  generalize V5.heap.size = g at kR ⊢
  have hlg := k0.lt
  have hlr := kR.lt
  have b0 := k0.cell 0
  simp only [List.getElem?_toArray, List.getElem?_cons_zero] at b0
  have r0 := kR.cell 0
  have r1 := kR.cell 1
  have r2 := kR.cell 2
  have r3 := kR.cell 3
  have r4 := kR.cell 4
  have r5 := kR.cell 5
  have r6 := kR.cell 6
  have r7 := kR.cell 7
  have r8 := kR.cell 8
  simp only [List.getElem?_toArray, List.getElem?_cons_zero, List.getElem?_cons_succ] at r0 r1 r2 r3 r4 r5 r6 r7 r8
  refine draw_start [] Later (by kernel_rfl) ?_
  refine draw_chunk (n := 103) (by kernel_rfl) (fun _ _ _ _ _ h => h) [0] [] _ #[true, false, false, false, false, false, false, false, false, false, false, false] (by kernel_rfl) 11 _ ?_ _ rfl ?_ ?_
  rotate_left
  · intro w' hw'
    have hc' : ∀ b o, b < W6.heap.size → w'.cell? ⟨b, o, none⟩ = W6.cell? ⟨b, o, none⟩ := (bcell hw').1
    refine ci_step (i := 0) (v := ?_) rfl (by kernel_rfl) ?_ ?_
    rotate_left
    · first | (go_simp; done) | (go_simp; with_reducible rfl)
    skip
    try simp only [Act.put, setIfInBounds_toArray, set_cons_zero, set_cons_succ]
    refine ci_end ?_
    rfl
  refine draw_eff (i := 1) rfl (by kernel_rfl) (listed' := #[true, true, false, false, false, false, false, false, false, false, false, false]) rfl (fun K hK => ?_)
  replace hK := Lib.hid hK
  go_wp2_with fail
  refine (PRec.wayfarerlaw05_Right.calls _ _ _ _ _ _ _ _ _ _ _ hright).mono ?_
  rintro e w3 ⟨rfl, hb3⟩
  go_wp2_with fail
  refine hK.out _ _ ⟨fun _ => hb3, ?_⟩
  clear hK b0 r0 r1 r2 r3 r4 r5 r6 r7 r8
  replace k0 := k0.drew.below' hb3
  replace kR := kR.drew.below' hb3
  replace hC0 := Kd.C_below (Kd.C_drew hC0) hb3
  replace hb0 := below_step (Below.drew hb0) hb0.size hb3
  clear hb3 hlg hlr
  have hlg := k0.lt
  have hlr := kR.lt
  have b0 := k0.cell 0
  simp only [List.getElem?_toArray, List.getElem?_cons_zero] at b0
  have r0 := kR.cell 0
  have r1 := kR.cell 1
  have r2 := kR.cell 2
  have r3 := kR.cell 3
  have r4 := kR.cell 4
  have r5 := kR.cell 5
  have r6 := kR.cell 6
  have r7 := kR.cell 7
  have r8 := kR.cell 8
  simp only [List.getElem?_toArray, List.getElem?_cons_zero, List.getElem?_cons_succ] at r0 r1 r2 r3 r4 r5 r6 r7 r8
  refine draw_chunk (n := 103) (by kernel_rfl) (fun _ _ _ _ _ h => h) [2, 3, 4, 5, 6, 7, 8, 9, 10, 11] [] _ #[true, true, true, true, true, true, true, true, true, true, true, true] (by kernel_rfl) 0 _ ?_ _ rfl ?_ ?_
  rotate_left
  · intro w' hw'
    have hc' : ∀ b o, b < w3.heap.size → w'.cell? ⟨b, o, none⟩ = w3.cell? ⟨b, o, none⟩ := (bcell hw').1
    refine ci_step (i := 2) (v := ?_) rfl (by kernel_rfl) ?_ ?_
    rotate_left
    · first | (go_simp; done) | (go_simp; with_reducible rfl)
    skip
    try simp only [Act.put, setIfInBounds_toArray, set_cons_zero, set_cons_succ]
    refine ci_step (i := 3) (v := ?_) rfl (by kernel_rfl) ?_ ?_
    rotate_left
    · first | (go_simp; done) | (go_simp; with_reducible rfl)
    skip
    try simp only [Act.put, setIfInBounds_toArray, set_cons_zero, set_cons_succ]
    refine ci_off (i := 4) rfl (by kernel_rfl) ?_
    try simp only [Act.put, setIfInBounds_toArray, set_cons_zero, set_cons_succ]
    refine ci_off (i := 5) rfl (by kernel_rfl) ?_
    try simp only [Act.put, setIfInBounds_toArray, set_cons_zero, set_cons_succ]
    refine ci_off (i := 6) rfl (by kernel_rfl) ?_
    try simp only [Act.put, setIfInBounds_toArray, set_cons_zero, set_cons_succ]
    refine ci_off (i := 7) rfl (by kernel_rfl) ?_
    try simp only [Act.put, setIfInBounds_toArray, set_cons_zero, set_cons_succ]
    refine ci_off (i := 8) rfl (by kernel_rfl) ?_
    try simp only [Act.put, setIfInBounds_toArray, set_cons_zero, set_cons_succ]
    refine ci_off (i := 9) rfl (by kernel_rfl) ?_
    try simp only [Act.put, setIfInBounds_toArray, set_cons_zero, set_cons_succ]
    refine ci_step (i := 10) (v := ?_) rfl (by kernel_rfl) ?_ ?_
    rotate_left
    · first | (go_simp; done) | (go_simp; with_reducible rfl)
    skip
    try simp only [Act.put, setIfInBounds_toArray, set_cons_zero, set_cons_succ]
    refine ci_step (i := 11) (v := ?_) rfl (by kernel_rfl) ?_ ?_
    rotate_left
    · first | (go_simp; done) | (go_simp; with_reducible rfl)
    skip
    try simp only [Act.put, setIfInBounds_toArray, set_cons_zero, set_cons_succ]
    refine ci_end ?_
    rfl
  refine draw_done (by kernel_rfl) ?_ _
  go_wp2
  go_ret
  exact ⟨by simp, hb0⟩
set_option maxHeartbeats 4000000 in
set_option maxRecDepth 100000 in
theorem law05_Reads_other (l : List Int) (hB : Byte l) (A : Option Addr) (c : Nat) (w : World) (hC : Kd.C (Kd.int .u8) w A l.length l) (hc : l.length ≤ c) (hl0 : l.length = 48) (hno : PRec.ofM l = PRec.outM PRec.noRec false) (hr : recRightB (PRec.fieldsM l) = true) (ho : (PRec.fieldsM l).ok) (hs : sector (PRec.fieldsM l) ≠ l) :
    Calls Try.prog 9 #[.slice A l.length c, .bool false] w fun e w' => e = .returned (.bool true) ∧ Below w.heap.size w w' := by
  have hl := Lib.hid hl0
  clear hl0
  have hof : PRec.rec_Of.f 500 l = some (PRec.outM PRec.noRec false) := by
    rw [← hno]
    exact PRec.Of_nice 0 l hB
  simp only [PRec.outM, PRec.noRec] at hof
  have k0 := Blk.new w 22 #[.slice A l.length c]
  have hb0 : Below w.heap.size w (w.alloc (.cells #[.slice A l.length c] 22)) := (Below.refl _ _).alloc (Nat.le_refl _) _
  have hC0 := Kd.C_below hC hb0
  go_enter Try.func9, Try.ntmps9
  go_wp2_with fail
  refine (PRec.wayfarerlaw05_head.calls 500 true _ (PRec.head_true 0)).mono ?_
  rintro e w1 ⟨rfl, hb1⟩
  replace k0 := k0.below' hb1
  replace hC0 := Kd.C_below hC0 hb1
  replace hb0 := below_step hb0 hb0.size hb1
  clear hb1 hC
  have hlg := k0.lt
  have b0 := k0.cell 0
  simp only [List.getElem?_toArray, List.getElem?_cons_zero] at b0
  have d : decide ((100 : Int) < (l.length : Int)) = false := decide_eq_false (by have := hl.out; omega)
  go_wp2_with fail
  refine (PRec.rec_Of.calls 500 A c l _ _ _ _ _ _ _ _ _ _ _ hC0 hc hof).mono ?_
  rintro e w2 ⟨rfl, hb1⟩
  replace k0 := k0.below' hb1
  replace hC0 := Kd.C_below hC0 hb1
  replace hb0 := below_step hb0 hb0.size hb1
  have dn : ((l.length : Int) == 48) = true := beq_iff_eq.2 (by have := hl.out; omega)
  have de : recEqB ⟨0, 0, 0, 0, 0, 0, false, 0, 0⟩ ⟨0, 0, 0, 0, 0, 0, false, 0, 0⟩ = true := by decide
  clear hb1 b0 hlg
  have hlg := k0.lt
  have b0 := k0.cell 0
  simp only [List.getElem?_toArray, List.getElem?_cons_zero] at b0
  go_wp2_with fail
  have hright : PRec.wayfarerlaw05_Right.f (rd l 0) (valB ((l.drop 4).take 4)) (valB ((l.drop 8).take 4)) (valB ((l.drop 12).take 4)) (valB ((l.drop 16).take 4)) (rd l 20) (rd l 1 == 1) (valB ((l.drop 24).take 4)) (rd l 2 * 256 + rd l 3) = some true := by
    rw [← hr]
    exact if_pos ((PRec.recOkB_iff _).2 ho)
  have hby : PRec.wayfarerlaw05_Bytes.f (0 + 500) (rd l 0) (valB ((l.drop 4).take 4)) (valB ((l.drop 8).take 4)) (valB ((l.drop 12).take 4)) (valB ((l.drop 16).take 4)) (rd l 20) (rd l 1 == 1) (valB ((l.drop 24).take 4)) (rd l 2 * 256 + rd l 3) = some (sector (PRec.fieldsM l)) := PRec.Bytes_nice 0 _ ho hr
  have hne := Lib.hid (mt (str_inj (sector (PRec.fieldsM l)) l (PRec.sector_byte _ ho hr) hB).1 hs)
  generalize sector (PRec.fieldsM l) = q at hby hne
  clear ho hr hs hno
  have kR := Blk.new w2 50 #[.int .i64 0, .int .u32 0, .int .u32 0, .int .u32 0, .int .u32 0, .int .i64 0, .bool false, .int .u32 0, .int .u16 0]
  have hbA := (Below.refl w2.heap.size w2).alloc (Nat.le_refl _) (.cells #[.int .i64 0, .int .u32 0, .int .u32 0, .int .u32 0, .int .u32 0, .int .i64 0, .bool false, .int .u32 0, .int .u16 0] 50)
  clear b0 kR
  replace k0 := k0.below' hbA
  replace hC0 := Kd.C_below hC0 hbA
  replace hb0 := below_step hb0 hb0.size hbA
  clear hbA hlg de dn d
  generalize (w2.alloc (.cells #[.int .i64 0, .int .u32 0, .int .u32 0, .int .u32 0, .int .u32 0, .int .i64 0, .bool false, .int .u32 0, .int .u16 0] 50)) = W2 at k0 hC0 hb0 ⊢
  have hal : ∀ oj : Oper, oj.op = .alloc 50 → AllocLike Try.prog oj := fun oj h => alloc_rec ⟨#[], []⟩ W2 oj h
  have hl48 := hl.out
  have x0 := Kd.at_int hC0 0 (by omega) (by omega)
  have x1 := Kd.at_int hC0 1 (by omega) (by omega)
  have x2 := Kd.at_int hC0 2 (by omega) (by omega)
  have x3 := Kd.at_int hC0 3 (by omega) (by omega)
  have x20 := Kd.at_int hC0 20 (by omega) (by omega)
  have hlb : ∃ ad, A = some ad ∧ ad.block < W2.heap.size ∧ W2.cell? ad = some (.int .u8 (rd l 0)) ∧ W2.cell? ⟨ad.block, ad.off + 1, none⟩ = some (.int .u8 (rd l 1)) ∧ W2.cell? ⟨ad.block, ad.off + 2, none⟩ = some (.int .u8 (rd l 2)) ∧ W2.cell? ⟨ad.block, ad.off + 3, none⟩ = some (.int .u8 (rd l 3)) ∧ W2.cell? ⟨ad.block, ad.off + 20, none⟩ = some (.int .u8 (rd l 20)) := by
    obtain ⟨ad, eA, x0⟩ := x0
    obtain ⟨ad1, eA1, x1⟩ := x1
    obtain ⟨ad2, eA2, x2⟩ := x2
    obtain ⟨ad3, eA3, x3⟩ := x3
    obtain ⟨ad4, eA4, x20⟩ := x20
    subst eA
    cases eA1
    cases eA2
    cases eA3
    cases eA4
    simp only [show (0 : Int).toNat = 0 from rfl, show (1 : Int).toNat = 1 from rfl, show (2 : Int).toNat = 2 from rfl, show (3 : Int).toNat = 3 from rfl, show (20 : Int).toNat = 20 from rfl, Go.Addr.add, Nat.reduceEqDiff, ↓reduceIte] at x0 x1 x2 x3 x20
    exact ⟨ad, rfl, World.block_lt_of_cell? _ _ x0, x0, x1, x2, x3, x20⟩
  clear x0 x1 x2 x3 x20
  obtain ⟨ad, rfl, hlb, x0, x1, x2, x3, x20⟩ := hlb
  have hlg := k0.lt
  have b0 := k0.cell 0
  simp only [List.getElem?_toArray, List.getElem?_cons_zero] at b0
  rw [hl48] at b0
  clear hl48
  refine draw_start [36] Later (by kernel_rfl) ?_
  refine draw_chunk (n := 103) (by kernel_rfl) (fun _ _ _ _ _ h => h) [0, 1, 2, 3, 4, 6, 8, 10, 12, 13, 14, 15, 17, 18, 19, 20, 21, 23, 24, 25, 26, 27, 28, 29, 30, 31, 32] [] _ #[true, true, true, true, true, false, true, false, true, false, true, false, true, true, true, true, false, true, true, true, true, true, false, true, true, true, true, true, true, true, true, true, true, false, false, false, false] (by kernel_rfl) 10 _ ?_ _ rfl ?_ ?_
  rotate_left
  · intro w' hw'
    have hc' : ∀ b o, b < W2.heap.size → w'.cell? ⟨b, o, none⟩ = W2.cell? ⟨b, o, none⟩ := (bcell hw').1
    have y0 := (Below.cell (p := ad) hw' hlb).trans x0; have y1 := (hc' ad.block (ad.off + 1) hlb).trans x1; have y2 := (hc' ad.block (ad.off + 2) hlb).trans x2; have y3 := (hc' ad.block (ad.off + 3) hlb).trans x3; have y20 := (hc' ad.block (ad.off + 20) hlb).trans x20; have z0 := (hc' w.heap.size 0 hlg).trans b0
    refine ci_step (i := 0) (v := ?_) rfl (by kernel_rfl) ?_ ?_
    rotate_left
    · first | (go_simp; done) | (go_simp; with_reducible rfl)
    skip
    try simp only [Act.put, setIfInBounds_toArray, set_cons_zero, set_cons_succ]
    refine ci_step (i := 1) (v := ?_) rfl (by kernel_rfl) ?_ ?_
    rotate_left
    · first | (go_simp; done) | (go_simp; with_reducible rfl)
    skip
    try simp only [Act.put, setIfInBounds_toArray, set_cons_zero, set_cons_succ]
    refine ci_step (i := 2) (v := ?_) rfl (by kernel_rfl) ?_ ?_
    rotate_left
    · first | (go_simp; done) | (go_simp; with_reducible rfl)
    skip
    try simp only [Act.put, setIfInBounds_toArray, set_cons_zero, set_cons_succ]
    refine ci_step (i := 3) (v := ?_) rfl (by kernel_rfl) ?_ ?_
    rotate_left
    · first | (go_simp; done) | (go_simp; with_reducible rfl)
    skip
    try simp only [Act.put, setIfInBounds_toArray, set_cons_zero, set_cons_succ]
    refine ci_step (i := 4) (v := ?_) rfl (by kernel_rfl) ?_ ?_
    rotate_left
    · first | (go_simp; done) | (go_simp; with_reducible rfl)
    skip
    try simp only [Act.put, setIfInBounds_toArray, set_cons_zero, set_cons_succ]
    refine ci_step (i := 6) (v := ?_) rfl (by kernel_rfl) ?_ ?_
    rotate_left
    · first | (go_simp; done) | (go_simp; with_reducible rfl)
    skip
    try simp only [Act.put, setIfInBounds_toArray, set_cons_zero, set_cons_succ]
    refine ci_step (i := 8) (v := ?_) rfl (by kernel_rfl) ?_ ?_
    rotate_left
    · first | (go_simp; done) | (go_simp; with_reducible rfl)
    skip
    try simp only [Act.put, setIfInBounds_toArray, set_cons_zero, set_cons_succ]
    refine ci_step (i := 10) (v := ?_) rfl (by kernel_rfl) ?_ ?_
    rotate_left
    · first | (go_simp; done) | (go_simp; with_reducible rfl)
    skip
    try simp only [Act.put, setIfInBounds_toArray, set_cons_zero, set_cons_succ]
    refine ci_step (i := 12) (v := ?_) rfl (by kernel_rfl) ?_ ?_
    rotate_left
    · first | (go_simp; done) | (go_simp; with_reducible rfl)
    skip
    try simp only [Act.put, setIfInBounds_toArray, set_cons_zero, set_cons_succ]
    refine ci_step (i := 13) (v := ?_) rfl (by kernel_rfl) ?_ ?_
    rotate_left
    · first | (go_simp; done) | (go_simp; with_reducible rfl)
    skip
    try simp only [Act.put, setIfInBounds_toArray, set_cons_zero, set_cons_succ]
    refine ci_step (i := 14) (v := ?_) rfl (by kernel_rfl) ?_ ?_
    rotate_left
    · first | (go_simp; done) | (go_simp; with_reducible rfl)
    skip
    try simp only [Act.put, setIfInBounds_toArray, set_cons_zero, set_cons_succ]
    refine ci_step (i := 15) (v := ?_) rfl (by kernel_rfl) ?_ ?_
    rotate_left
    · first | (go_simp; done) | (go_simp; with_reducible rfl)
    skip
    try simp only [Act.put, setIfInBounds_toArray, set_cons_zero, set_cons_succ]
    refine ci_step (i := 17) (v := ?_) rfl (by kernel_rfl) ?_ ?_
    rotate_left
    · first | (go_simp; done) | (go_simp; with_reducible rfl)
    skip
    try simp only [Act.put, setIfInBounds_toArray, set_cons_zero, set_cons_succ]
    refine ci_step (i := 18) (v := ?_) rfl (by kernel_rfl) ?_ ?_
    rotate_left
    · first | (go_simp; done) | (go_simp; with_reducible rfl)
    skip
    try simp only [Act.put, setIfInBounds_toArray, set_cons_zero, set_cons_succ]
    refine ci_step (i := 19) (v := ?_) rfl (by kernel_rfl) ?_ ?_
    rotate_left
    · first | (go_simp; done) | (go_simp; with_reducible rfl)
    skip
    try simp only [Act.put, setIfInBounds_toArray, set_cons_zero, set_cons_succ]
    refine ci_step (i := 20) (v := ?_) rfl (by kernel_rfl) ?_ ?_
    rotate_left
    · first | (go_simp; done) | (go_simp; with_reducible rfl)
    skip
    try simp only [Act.put, setIfInBounds_toArray, set_cons_zero, set_cons_succ]
    refine ci_step (i := 21) (v := ?_) rfl (by kernel_rfl) ?_ ?_
    rotate_left
    · first | (go_simp; done) | (go_simp; with_reducible rfl)
    skip
    try simp only [Act.put, setIfInBounds_toArray, set_cons_zero, set_cons_succ]
    refine ci_step (i := 23) (v := ?_) rfl (by kernel_rfl) ?_ ?_
    rotate_left
    · first | (go_simp; done) | (go_simp; with_reducible rfl)
    skip
    try simp only [Act.put, setIfInBounds_toArray, set_cons_zero, set_cons_succ]
    refine ci_step (i := 24) (v := ?_) rfl (by kernel_rfl) ?_ ?_
    rotate_left
    · first | (go_simp; done) | (go_simp; with_reducible rfl)
    skip
    try simp only [Act.put, setIfInBounds_toArray, set_cons_zero, set_cons_succ]
    refine ci_step (i := 25) (v := ?_) rfl (by kernel_rfl) ?_ ?_
    rotate_left
    · first | (go_simp; done) | (go_simp; with_reducible rfl)
    skip
    try simp only [Act.put, setIfInBounds_toArray, set_cons_zero, set_cons_succ]
    refine ci_step (i := 26) (v := ?_) rfl (by kernel_rfl) ?_ ?_
    rotate_left
    · first | (go_simp; done) | (go_simp; with_reducible rfl)
    skip
    try simp only [Act.put, setIfInBounds_toArray, set_cons_zero, set_cons_succ]
    refine ci_step (i := 27) (v := ?_) rfl (by kernel_rfl) ?_ ?_
    rotate_left
    · first | (go_simp; done) | (go_simp; with_reducible rfl)
    skip
    try simp only [Act.put, setIfInBounds_toArray, set_cons_zero, set_cons_succ]
    refine ci_step (i := 28) (v := ?_) rfl (by kernel_rfl) ?_ ?_
    rotate_left
    · first | (go_simp; done) | (go_simp; with_reducible rfl)
    skip
    try simp only [Act.put, setIfInBounds_toArray, set_cons_zero, set_cons_succ]
    refine ci_step (i := 29) (v := ?_) rfl (by kernel_rfl) ?_ ?_
    rotate_left
    · first | (go_simp; done) | (go_simp; with_reducible rfl)
    skip
    try simp only [Act.put, setIfInBounds_toArray, set_cons_zero, set_cons_succ]
    refine ci_step (i := 30) (v := ?_) rfl (by kernel_rfl) ?_ ?_
    rotate_left
    · first | (go_simp; done) | (go_simp; with_reducible rfl)
    skip
    try simp only [Act.put, setIfInBounds_toArray, set_cons_zero, set_cons_succ]
    refine ci_step (i := 31) (v := ?_) rfl (by kernel_rfl) ?_ ?_
    rotate_left
    · first | (go_simp; done) | (go_simp; with_reducible rfl)
    skip
    try simp only [Act.put, setIfInBounds_toArray, set_cons_zero, set_cons_succ]
    refine ci_step (i := 32) (v := ?_) rfl (by kernel_rfl) ?_ ?_
    rotate_left
    · first | (go_simp; done) | (go_simp; with_reducible rfl)
    skip
    try simp only [Act.put, setIfInBounds_toArray, set_cons_zero, set_cons_succ]
    refine ci_end ?_
    rfl
  clear hlb x0 x1 x2 x3 x20 b0
  replace k0 := k0.drew
  replace hC0 := Kd.C_drew hC0
  replace hb0 := Below.drew hb0
  generalize W2.drew = V0 at k0 hC0 hb0 ⊢
  have hlg := k0.lt
  have b0 := k0.cell 0
  simp only [List.getElem?_toArray, List.getElem?_cons_zero] at b0
  refine draw_call (i := 5) (v := .int .u32 (valB ((l.drop 4).take 4))) 50 rfl (by kernel_rfl) (by kernel_rfl) hal (fun w => Below.drew (Below.refl _ _)) (fun w o => (Below.refl _ _).alloc (Nat.le_refl _) _) (listed' := #[true, true, true, true, true, true, true, false, true, false, true, false, true, true, true, true, false, true, true, true, true, true, false, true, true, true, true, true, true, true, true, true, true, false, false, false, false]) rfl (by kernel_rfl) (fun w' hw' => ⟨33, #[.int .i64 4, .pointer (some ⟨w.heap.size, 0, none⟩)], ?_, recReads_n4 w.heap.size l (some ad) c w' hB (Kd.C_below hC0 hw') ((Below.cell (p := ⟨w.heap.size, 0, none⟩) hw' hlg).trans b0) hl.out⟩) (fun m => ?_)
  · first | (go_simp; done) | (go_simp; with_reducible rfl)
  try simp only [Act.put, setIfInBounds_toArray, set_cons_zero, set_cons_succ]
  have hW : Below (V0).heap.size V0 ((V0).drewN m) := below_drewN (Below.refl _ _) m
  clear hlg b0
  replace k0 := k0.below' hW
  replace hC0 := Kd.C_below hC0 hW
  replace hb0 := below_step hb0 hb0.size hW
  clear hW
  generalize (V0).drewN m = V1 at k0 hC0 hb0 ⊢
  clear m
  have hlg := k0.lt
  have b0 := k0.cell 0
  simp only [List.getElem?_toArray, List.getElem?_cons_zero] at b0
  refine draw_call (i := 7) (v := .int .u32 (valB ((l.drop 8).take 4))) 50 rfl (by kernel_rfl) (by kernel_rfl) hal (fun w => Below.drew (Below.refl _ _)) (fun w o => (Below.refl _ _).alloc (Nat.le_refl _) _) (listed' := #[true, true, true, true, true, true, true, true, true, false, true, false, true, true, true, true, false, true, true, true, true, true, false, true, true, true, true, true, true, true, true, true, true, false, false, false, false]) rfl (by kernel_rfl) (fun w' hw' => ⟨33, #[.int .i64 8, .pointer (some ⟨w.heap.size, 0, none⟩)], ?_, recReads_n8 w.heap.size l (some ad) c w' hB (Kd.C_below hC0 hw') ((Below.cell (p := ⟨w.heap.size, 0, none⟩) hw' hlg).trans b0) hl.out⟩) (fun m => ?_)
  · first | (go_simp; done) | (go_simp; with_reducible rfl)
  try simp only [Act.put, setIfInBounds_toArray, set_cons_zero, set_cons_succ]
  have hW : Below (V1).heap.size V1 ((V1).drewN m) := below_drewN (Below.refl _ _) m
  clear hlg b0
  replace k0 := k0.below' hW
  replace hC0 := Kd.C_below hC0 hW
  replace hb0 := below_step hb0 hb0.size hW
  clear hW
  generalize (V1).drewN m = V2 at k0 hC0 hb0 ⊢
  clear m
  have hlg := k0.lt
  have b0 := k0.cell 0
  simp only [List.getElem?_toArray, List.getElem?_cons_zero] at b0
  refine draw_call (i := 9) (v := .int .u32 (valB ((l.drop 12).take 4))) 50 rfl (by kernel_rfl) (by kernel_rfl) hal (fun w => Below.drew (Below.refl _ _)) (fun w o => (Below.refl _ _).alloc (Nat.le_refl _) _) (listed' := #[true, true, true, true, true, true, true, true, true, true, true, false, true, true, true, true, false, true, true, true, true, true, false, true, true, true, true, true, true, true, true, true, true, false, false, false, false]) rfl (by kernel_rfl) (fun w' hw' => ⟨33, #[.int .i64 12, .pointer (some ⟨w.heap.size, 0, none⟩)], ?_, recReads_n12 w.heap.size l (some ad) c w' hB (Kd.C_below hC0 hw') ((Below.cell (p := ⟨w.heap.size, 0, none⟩) hw' hlg).trans b0) hl.out⟩) (fun m => ?_)
  · first | (go_simp; done) | (go_simp; with_reducible rfl)
  try simp only [Act.put, setIfInBounds_toArray, set_cons_zero, set_cons_succ]
  have hW : Below (V2).heap.size V2 ((V2).drewN m) := below_drewN (Below.refl _ _) m
  clear hlg b0
  replace k0 := k0.below' hW
  replace hC0 := Kd.C_below hC0 hW
  replace hb0 := below_step hb0 hb0.size hW
  clear hW
  generalize (V2).drewN m = V3 at k0 hC0 hb0 ⊢
  clear m
  have hlg := k0.lt
  have b0 := k0.cell 0
  simp only [List.getElem?_toArray, List.getElem?_cons_zero] at b0
  refine draw_call (i := 11) (v := .int .u32 (valB ((l.drop 16).take 4))) 50 rfl (by kernel_rfl) (by kernel_rfl) hal (fun w => Below.drew (Below.refl _ _)) (fun w o => (Below.refl _ _).alloc (Nat.le_refl _) _) (listed' := #[true, true, true, true, true, true, true, true, true, true, true, true, true, true, true, true, false, true, true, true, true, true, false, true, true, true, true, true, true, true, true, true, true, false, false, false, false]) rfl (by kernel_rfl) (fun w' hw' => ⟨33, #[.int .i64 16, .pointer (some ⟨w.heap.size, 0, none⟩)], ?_, recReads_n16 w.heap.size l (some ad) c w' hB (Kd.C_below hC0 hw') ((Below.cell (p := ⟨w.heap.size, 0, none⟩) hw' hlg).trans b0) hl.out⟩) (fun m => ?_)
  · first | (go_simp; done) | (go_simp; with_reducible rfl)
  try simp only [Act.put, setIfInBounds_toArray, set_cons_zero, set_cons_succ]
  have hW : Below (V3).heap.size V3 ((V3).drewN m) := below_drewN (Below.refl _ _) m
  clear hlg b0
  replace k0 := k0.below' hW
  replace hC0 := Kd.C_below hC0 hW
  replace hb0 := below_step hb0 hb0.size hW
  clear hW
  generalize (V3).drewN m = V4 at k0 hC0 hb0 ⊢
  clear m
  have hlg := k0.lt
  have b0 := k0.cell 0
  simp only [List.getElem?_toArray, List.getElem?_cons_zero] at b0
  refine draw_chunk (n := 103) (by kernel_rfl) (fun _ _ _ _ _ h => h) [16] [] _ #[true, true, true, true, true, true, true, true, true, true, true, true, true, true, true, true, true, true, true, true, true, true, false, true, true, true, true, true, true, true, true, true, true, false, false, false, false] (by kernel_rfl) 5 _ ?_ _ rfl ?_ ?_
  rotate_left
  · intro w' hw'
    have hc' : ∀ b o, b < V4.heap.size → w'.cell? ⟨b, o, none⟩ = V4.cell? ⟨b, o, none⟩ := (bcell hw').1
    refine ci_step (i := 16) (v := ?_) rfl (by kernel_rfl) ?_ ?_
    rotate_left
    · first | (go_simp; done) | (go_simp; with_reducible rfl)
    skip
    try simp only [Act.put, setIfInBounds_toArray, set_cons_zero, set_cons_succ]
    refine ci_end ?_
    rfl
  refine draw_call (i := 22) (v := .int .u32 (valB ((l.drop 24).take 4))) 50 rfl (by kernel_rfl) (by kernel_rfl) hal (fun w => Below.drew (Below.refl _ _)) (fun w o => (Below.refl _ _).alloc (Nat.le_refl _) _) (listed' := #[true, true, true, true, true, true, true, true, true, true, true, true, true, true, true, true, true, true, true, true, true, true, true, true, true, true, true, true, true, true, true, true, true, false, false, false, false]) rfl (by kernel_rfl) (fun w' hw' => ⟨33, #[.int .i64 24, .pointer (some ⟨w.heap.size, 0, none⟩)], ?_, recReads_n24 w.heap.size l (some ad) c w' hB (Kd.C_below hC0 hw') ((Below.cell (p := ⟨w.heap.size, 0, none⟩) hw' hlg).trans b0) hl.out⟩) (fun m => ?_)
  · first | (go_simp; done) | (go_simp; with_reducible rfl)
  try simp only [Act.put, setIfInBounds_toArray, set_cons_zero, set_cons_succ]
  have hW : Below (V4).heap.size V4 ((V4).drewN m) := below_drewN (Below.refl _ _) m
  clear hlg b0
  replace k0 := k0.below' hW
  replace hC0 := Kd.C_below hC0 hW
  replace hb0 := below_step hb0 hb0.size hW
  clear hW
  generalize (V4).drewN m = V5 at k0 hC0 hb0 ⊢
  clear m
  have hlg := k0.lt
  have b0 := k0.cell 0
  simp only [List.getElem?_toArray, List.getElem?_cons_zero] at b0
  refine draw_chunk (n := 103) (by kernel_rfl) (fun _ _ _ _ _ h => h) [33, 34] [] _ #[true, true, true, true, true, true, true, true, true, true, true, true, true, true, true, true, true, true, true, true, true, true, true, true, true, true, true, true, true, true, true, true, true, true, true, false, false] (by kernel_rfl) 2 _ ?_ _ rfl ?_ ?_
  rotate_left
  · intro w' hw'
    have hc' : ∀ b o, b < V5.heap.size → w'.cell? ⟨b, o, none⟩ = V5.cell? ⟨b, o, none⟩ := (bcell hw').1
    refine ci_step (i := 33) (v := ?_) rfl (by kernel_rfl) ?_ ?_
    rotate_left
    · first | (go_simp; done) | (go_simp; with_reducible rfl)
    skip
    try simp only [Act.put, setIfInBounds_toArray, set_cons_zero, set_cons_succ]
    refine ci_step (i := 34) (v := ?_) rfl (by kernel_rfl) ?_ ?_
    rotate_left
    · first | (go_simp; done) | (go_simp; with_reducible rfl)
    skip
    try simp only [Act.put, setIfInBounds_toArray, set_cons_zero, set_cons_succ]
    refine ci_end ?_
    rfl
  refine draw_eff (i := 35) rfl (by kernel_rfl) (listed' := #[true, true, true, true, true, true, true, true, true, true, true, true, true, true, true, true, true, true, true, true, true, true, true, true, true, true, true, true, true, true, true, true, true, true, true, true, false]) rfl (fun K hK => ?_)
  replace hK := Lib.hid hK
  go_wp2_with fail
  refine hK.out _ _ ⟨fun _ => (Below.refl _ _).alloc (Nat.le_refl _) _, ?_⟩
  clear hK K b0
  have hbA := (Below.refl V5.heap.size V5).alloc (Nat.le_refl _) (.cells #[.int .i64 0, .int .u32 0, .int .u32 0, .int .u32 0, .int .u32 0, .int .i64 0, .bool false, .int .u32 0, .int .u16 0] 50)
  refine draw_eff (i := 36) rfl (by kernel_rfl) (listed' := #[true, true, true, true, true, true, true, true, true, true, true, true, true, true, true, true, true, true, true, true, true, true, true, true, true, true, true, true, true, true, true, true, true, true, true, true, true]) rfl (fun K hK => ?_)
  replace hK := Lib.hid hK
  go_wp2_with fail
  refine hK.out _ _ ⟨fun h => absurd (by decide) h, ?_⟩
  clear hK hbA hal
  refine draw_done (by kernel_rfl) ?_ _
  have h0b : 0 ≤ rd l 0 ∧ rd l 0 ≤ 255 := PRec.rd_bd l hB 0 (by have := hl.out; omega)
  have h2b : 0 ≤ rd l 2 ∧ rd l 2 ≤ 255 := PRec.rd_bd l hB 2 (by have := hl.out; omega)
  have h3b : 0 ≤ rd l 3 ∧ rd l 3 ≤ 255 := PRec.rd_bd l hB 3 (by have := hl.out; omega)
  have h20b : 0 ≤ rd l 20 ∧ rd l 20 ≤ 255 := PRec.rd_bd l hB 20 (by have := hl.out; omega)
  have v0 : wrap64 (rd l 0) = rd l 0 := PRec.w64 _ (Int.le_trans (by decide) h0b.1) (Int.le_trans h0b.2 (by decide))
  have v20 : wrap64 (rd l 20) = rd l 20 := PRec.w64 _ (Int.le_trans (by decide) h20b.1) (Int.le_trans h20b.2 (by decide))
  have v2 : IntKind.u16.wrap (IntKind.u16.wrap (IntKind.u16.wrap (rd l 2) * 256) + IntKind.u16.wrap (rd l 3)) = rd l 2 * 256 + rd l 3 := by
    have := h2b.1
    have := h2b.2
    have := h3b.1
    have := h3b.2
    simp only [IntKind.wrap_u16]
    omega
  rw [v0, v20, v2]
  clear h0b h2b h3b h20b v0 v20 v2
  generalize ev0 : rd l 0 = f0 at hright hby ⊢
  generalize ev1 : valB ((l.drop 4).take 4) = f1 at hright hby ⊢
  generalize ev2 : valB ((l.drop 8).take 4) = f2 at hright hby ⊢
  generalize ev3 : valB ((l.drop 12).take 4) = f3 at hright hby ⊢
  generalize ev4 : valB ((l.drop 16).take 4) = f4 at hright hby ⊢
  generalize ev5 : rd l 20 = f5 at hright hby ⊢
  generalize ev6 : (rd l 1 == 1) = f6 at hright hby ⊢
  generalize ev7 : valB ((l.drop 24).take 4) = f7 at hright hby ⊢
  generalize ev8 : rd l 2 * 256 + rd l 3 = f8 at hright hby ⊢
  clear ev0 ev1 ev2 ev3 ev4 ev5 ev6 ev7 ev8
  go_wp2_with fail
  have kR := Blk.new V5 50 #[.int .i64 f0, .int .u32 f1, .int .u32 f2, .int .u32 f3, .int .u32 f4, .int .i64 f5, .bool f6, .int .u32 f7, .int .u16 f8]
  have hbA := (Below.refl V5.heap.size V5).alloc (Nat.le_refl _) (.cells #[.int .i64 f0, .int .u32 f1, .int .u32 f2, .int .u32 f3, .int .u32 f4, .int .i64 f5, .bool f6, .int .u32 f7, .int .u16 f8] 50)
  replace k0 := k0.below' hbA
  replace hC0 := Kd.C_below hC0 hbA
  replace hb0 := below_step hb0 hb0.size hbA
  clear hbA hlg
  generalize (V5.alloc (.cells #[.int .i64 f0, .int .u32 f1, .int .u32 f2, .int .u32 f3, .int .u32 f4, .int .i64 f5, .bool f6, .int .u32 f7, .int .u16 f8] 50)) = W6 at kR k0 hC0 hb0 ⊢
  generalize V5.heap.size = g at kR ⊢
  have hlg := k0.lt
  have hlr := kR.lt
  have b0 := k0.cell 0
  simp only [List.getElem?_toArray, List.getElem?_cons_zero] at b0
  have r0 := kR.cell 0
  have r1 := kR.cell 1
  have r2 := kR.cell 2
  have r3 := kR.cell 3
  have r4 := kR.cell 4
  have r5 := kR.cell 5
  have r6 := kR.cell 6
  have r7 := kR.cell 7
  have r8 := kR.cell 8
  simp only [List.getElem?_toArray, List.getElem?_cons_zero, List.getElem?_cons_succ] at r0 r1 r2 r3 r4 r5 r6 r7 r8
  refine draw_start [] Later (by kernel_rfl) ?_
  refine draw_chunk (n := 103) (by kernel_rfl) (fun _ _ _ _ _ h => h) [0] [] _ #[true, false, false, false, false, false, false, false, false, false, false, false] (by kernel_rfl) 11 _ ?_ _ rfl ?_ ?_
  rotate_left
  · intro w' hw'
    have hc' : ∀ b o, b < W6.heap.size → w'.cell? ⟨b, o, none⟩ = W6.cell? ⟨b, o, none⟩ := (bcell hw').1
    refine ci_step (i := 0) (v := ?_) rfl (by kernel_rfl) ?_ ?_
    rotate_left
    · first | (go_simp; done) | (go_simp; with_reducible rfl)
    skip
    try simp only [Act.put, setIfInBounds_toArray, set_cons_zero, set_cons_succ]
    refine ci_end ?_
    rfl
  refine draw_eff (i := 1) rfl (by kernel_rfl) (listed' := #[true, true, false, false, false, false, false, false, false, false, false, false]) rfl (fun K hK => ?_)
  replace hK := Lib.hid hK
  go_wp2_with fail
  refine (PRec.wayfarerlaw05_Right.calls _ _ _ _ _ _ _ _ _ _ _ hright).mono ?_
  rintro e w3 ⟨rfl, hb3⟩
  go_wp2_with fail
  refine hK.out _ _ ⟨fun _ => hb3, ?_⟩
  clear hK b0 r0 r1 r2 r3 r4 r5 r6 r7 r8
  replace k0 := k0.drew.below' hb3
  replace kR := kR.drew.below' hb3
  replace hC0 := Kd.C_below (Kd.C_drew hC0) hb3
  replace hb0 := below_step (Below.drew hb0) hb0.size hb3
  clear hb3 hlg hlr
  have hlg := k0.lt
  have hlr := kR.lt
  have b0 := k0.cell 0
  simp only [List.getElem?_toArray, List.getElem?_cons_zero] at b0
  have r0 := kR.cell 0
  have r1 := kR.cell 1
  have r2 := kR.cell 2
  have r3 := kR.cell 3
  have r4 := kR.cell 4
  have r5 := kR.cell 5
  have r6 := kR.cell 6
  have r7 := kR.cell 7
  have r8 := kR.cell 8
  simp only [List.getElem?_toArray, List.getElem?_cons_zero, List.getElem?_cons_succ] at r0 r1 r2 r3 r4 r5 r6 r7 r8
  refine draw_chunk (n := 103) (by kernel_rfl) (fun _ _ _ _ _ h => h) [2, 3, 4, 7, 8] [] _ #[true, true, true, true, true, false, false, true, true, false, false, false] (by kernel_rfl) 5 _ ?_ _ rfl ?_ ?_
  rotate_left
  · intro w' hw'
    have hc' : ∀ b o, b < w3.heap.size → w'.cell? ⟨b, o, none⟩ = w3.cell? ⟨b, o, none⟩ := (bcell hw').1
    have hcv := Kd.C_string (P := Try.prog) Try.underlying22 Try.underlying5 Try.underlying9 (n := l.length) (c := c) (Kd.C_below hC0 hw')
    refine ci_step (i := 2) (v := ?_) rfl (by kernel_rfl) ?_ ?_
    rotate_left
    · first | (go_simp; done) | (go_simp; with_reducible rfl)
    skip
    try simp only [Act.put, setIfInBounds_toArray, set_cons_zero, set_cons_succ]
    refine ci_step (i := 3) (v := ?_) rfl (by kernel_rfl) ?_ ?_
    rotate_left
    · first | (go_simp; done) | (go_simp; with_reducible rfl)
    skip
    try simp only [Act.put, setIfInBounds_toArray, set_cons_zero, set_cons_succ]
    refine ci_step (i := 4) (v := ?_) rfl (by kernel_rfl) ?_ ?_
    rotate_left
    · first | (go_simp; done) | (go_simp; with_reducible rfl)
    skip
    try simp only [Act.put, setIfInBounds_toArray, set_cons_zero, set_cons_succ]
    refine ci_step (i := 7) (v := ?_) rfl (by kernel_rfl) ?_ ?_
    rotate_left
    · first | (go_simp; done) | (go_simp; with_reducible rfl)
    skip
    try simp only [Act.put, setIfInBounds_toArray, set_cons_zero, set_cons_succ]
    refine ci_step (i := 8) (v := ?_) rfl (by kernel_rfl) ?_ ?_
    rotate_left
    · first | (go_simp; done) | (go_simp; with_reducible rfl)
    skip
    try simp only [Act.put, setIfInBounds_toArray, set_cons_zero, set_cons_succ]
    refine ci_end ?_
    rfl
  refine draw_eff (i := 5) rfl (by kernel_rfl) (listed' := #[true, true, true, true, true, true, false, true, true, false, false, false]) rfl (fun K hK => ?_)
  replace hK := Lib.hid hK
  go_wp2_with fail
  refine (PRec.wayfarerlaw05_Bytes.calls _ _ _ _ _ _ _ _ _ _ _ _ hby).mono ?_
  rintro e w4 ⟨vB, rfl, hR4, hb3⟩
  go_wp2_with fail
  refine hK.out _ _ ⟨fun _ => hb3, ?_⟩
  clear hK b0 r0 r1 r2 r3 r4 r5 r6 r7 r8
  replace hb0 := below_step hb0 hb0.size hb3
  clear hb3 hlg hlr
  refine draw_chunk (n := 103) (by kernel_rfl) (fun _ _ _ _ _ h => h) [6, 9, 10, 11] [] _ #[true, true, true, true, true, true, true, true, true, true, true, true] (by kernel_rfl) 0 _ ?_ _ rfl ?_ ?_
  rotate_left
  · intro w' hw'
    have hc' : ∀ b o, b < w4.heap.size → w'.cell? ⟨b, o, none⟩ = w4.cell? ⟨b, o, none⟩ := (bcell hw').1
    have hcv := own_string (P := Try.prog) Try.underlying22 Try.underlying5 Try.underlying9 (Kd.own_of_R (Kd.R_below hR4 hw'))
    refine ci_step (i := 6) (v := ?_) rfl (by kernel_rfl) ?_ ?_
    rotate_left
    · first | (go_simp; done) | (go_simp; with_reducible rfl)
    skip
    try simp only [Act.put, setIfInBounds_toArray, set_cons_zero, set_cons_succ]
    refine ci_step (i := 9) (v := ?_) rfl (by kernel_rfl) ?_ ?_
    rotate_left
    · first | (go_simp; done) | (go_simp; with_reducible rfl)
    skip
    try simp only [Act.put, setIfInBounds_toArray, set_cons_zero, set_cons_succ]
    refine ci_step (i := 10) (v := ?_) rfl (by kernel_rfl) ?_ ?_
    rotate_left
    · first | (go_simp; done) | (go_simp; with_reducible rfl)
    skip
    try simp only [Act.put, setIfInBounds_toArray, set_cons_zero, set_cons_succ]
    refine ci_step (i := 11) (v := ?_) rfl (by kernel_rfl) ?_ ?_
    rotate_left
    · first | (go_simp; done) | (go_simp; with_reducible rfl)
    skip
    try simp only [Act.put, setIfInBounds_toArray, set_cons_zero, set_cons_succ]
    refine ci_end ?_
    rfl
  refine draw_done (by kernel_rfl) ?_ _
  go_wp2
  go_ret
  have := hne.out
  exact ⟨by simp_all, hb0⟩
end Go.Proofs.Ytgmdjhokcipajaa
end
section
set_option linter.unusedVariables false
set_option linter.unusedSimpArgs false
namespace Go.Proofs.Ytgmdjhokcipajaa
open Go.RowKit
open Go.Proofs.YtgmdjhokcipajaaQ
open List (setIfInBounds_toArray set_cons_zero set_cons_succ)
open Go.Proofs.YtgmdjhokcipajaaW.PrintWords (Kd rd own_string)
attribute [-go_sem] Go.run_equalIn_agg
/-! The law RecReads where the row is sealed. -/
set_option maxHeartbeats 2000000 in
set_option maxRecDepth 100000 in
theorem law05_Reads_short (l : List Int) (hB : Byte l) (A : Option Addr) (c : Nat) (w : World) (hC : Kd.C (Kd.int .u8) w A l.length l) (hc : l.length ≤ c) (hl : l.length < 44) :
    Calls Try.prog 9 #[.slice A l.length c, .bool true] w fun e w' => e = .returned (.bool true) ∧ Below w.heap.size w w' := by
  have hof : PRec.rec_Of.f 500 l = some (PRec.outM PRec.noRec false) := by
    have := PRec.Of_nice 0 l hB
    rw [this]
    unfold PRec.ofM
    rw [if_neg (fun h => by have := h.1; omega)]
  simp only [PRec.outM, PRec.noRec] at hof
  have k0 := Blk.new w 22 #[.slice A l.length c]
  have hb0 : Below w.heap.size w (w.alloc (.cells #[.slice A l.length c] 22)) := (Below.refl _ _).alloc (Nat.le_refl _) _
  have hC0 := Kd.C_below hC hb0
  go_enter Try.func9, Try.ntmps9
  go_wp2_with fail
  refine (PRec.wayfarerlaw05_head.calls 500 true _ (PRec.head_true 0)).mono ?_
  rintro e w1 ⟨rfl, hb1⟩
  replace k0 := k0.below' hb1
  replace hC0 := Kd.C_below hC0 hb1
  replace hb0 := below_step hb0 hb0.size hb1
  clear hb1 hC
  have hlg := k0.lt
  have b0 := k0.cell 0
  simp only [List.getElem?_toArray, List.getElem?_cons_zero] at b0
  have d : decide ((100 : Int) < (l.length : Int)) = false := decide_eq_false (by omega)
  have d4 : decide ((44 : Int) ≤ (l.length : Int)) = false := decide_eq_false (by omega)
  go_wp2_with fail
  refine (PRec.rec_Of.calls 500 A c l _ _ _ _ _ _ _ _ _ _ _ hC0 hc hof).mono ?_
  rintro e w2 ⟨rfl, hb1⟩
  replace k0 := k0.below' hb1
  replace hC0 := Kd.C_below hC0 hb1
  replace hb0 := below_step hb0 hb0.size hb1
  have dn : ((l.length : Int) == 48) = false := beq_eq_false_iff_ne.2 (by omega)
  have de : recEqB ⟨0, 0, 0, 0, 0, 0, false, 0, 0⟩ ⟨0, 0, 0, 0, 0, 0, false, 0, 0⟩ = true := by decide
  clear hb1 b0 hlg
  have hlg := k0.lt
  have b0 := k0.cell 0
  simp only [List.getElem?_toArray, List.getElem?_cons_zero] at b0
  go_wp2
  go_ret
  exact ⟨by first | rfl | simp, hb0.alloc (Nat.le_of_lt hlg) _⟩
theorem Row.take8 {w : World} {A : Option Addr} {l : List Int} (h : Row w 1 A l.length (u8s l)) (m : Nat) (hm : m ≤ l.length) : Row w 1 A m (u8s (l.take m)) := by
  obtain ⟨h1, h2, h3⟩ := h
  refine ⟨by simp [u8s]; omega, by omega, fun hp => ?_⟩
  obtain ⟨b, off, e, hlt, hc⟩ := h3 (by omega)
  refine ⟨b, off, e, hlt, fun j x hj => hc j x ?_⟩
  unfold u8s at hj ⊢
  rw [List.map_take, List.getElem?_take] at hj
  split at hj
  · exact hj
  · cases hj
theorem Own8.rowc {w : World} {base : Nat} {v : Value} {l : List Int} (h : Own8 w base v l) (hl : l.length ≤ 140737488351232) : ∃ A c, v = .slice A l.length c ∧ l.length ≤ c ∧ Row w 1 A l.length (u8s l) ∧ ∀ b off, A = some ⟨b, off, none⟩ → base ≤ b := by
  obtain ⟨A, c, e, hr⟩ := h.row hl
  refine ⟨A, c, e, ?_, hr, ?_⟩
  rotate_left
  · intro b off hA
    subst hA
    rcases h.2 with ⟨e2, h0⟩ | ⟨g, cap, cur, e2, hb, hg, hc, hm, hs, ht⟩
    · rw [e] at e2
      cases e2
    · rw [e] at e2
      cases e2
      exact hb
  rcases h.2 with ⟨e2, h0⟩ | ⟨g, cap, cur, e2, hb, hg, hc, hm, hs, ht⟩
  · omega
  · rw [e] at e2
    injection e2 with _ _ e3
    omega
def sealB (l : List Int) : List Int := l.take 44 ++ four (lawCrc (l.take 44))
theorem sealB_byte (l : List Int) (hB : Byte l) : Byte (sealB l) := (hB.take 44).app (four_byte _)
theorem sealB_crc (l : List Int) (hB : Byte l) : 0 ≤ lawCrc (l.take 44) ∧ lawCrc (l.take 44) ≤ 4294967295 := by
  rw [← crc_eq _ (hB.take 44)]
  exact crc_lt _ (hB.take 44)
theorem sealB_len (l : List Int) (h : 44 ≤ l.length) : (sealB l).length = 48 := by simp [sealB, four_len]; omega
set_option maxHeartbeats 2000000 in
set_option maxRecDepth 100000 in
theorem law05_Reads_sok (l : List Int) (hB : Byte l) (A : Option Addr) (c : Nat) (w : World) (hrow : Row w 1 A l.length (u8s l)) (hC : Kd.C (Kd.int .u8) w A l.length l) (hc : l.length ≤ c) (hl : 44 ≤ l.length) (hl2 : l.length ≤ 100) (r : Rec) (ho : r.ok) (hr : recRightB r = true) (hs : sector r = sealB l) :
    Calls Try.prog 9 #[.slice A l.length c, .bool true] w fun e w' => e = .returned (.bool true) ∧ Below w.heap.size w w' := by
  have hBq := sealB_byte l hB
  have hcrc := sealB_crc l hB
  have hof : PRec.rec_Of.f 500 (sealB l) = some (PRec.outM r true) := by
    have := PRec.Of_nice 0 (sealB l) hBq
    rw [← hs, PRec.of_sector r ho hr] at this
    rw [← hs]
    exact this
  have hby := PRec.Bytes_nice 0 r ho hr
  have hright : PRec.wayfarerlaw05_Right.f r.kind r.gen r.lsn r.id r.a r.l r.on r.s r.m = some (recRightB r) := if_pos ((PRec.recOkB_iff _).2 ho)
  rw [hr] at hright
  rw [hs] at hby
  clear ho hr hs
  obtain ⟨kind, gen, lsn, rid, a, lv, on, s, m⟩ := r
  simp only [PRec.outM] at hof
  simp only at hby hright
  have k0 := Blk.new w 22 #[.slice A l.length c]
  have hb0 : Below w.heap.size w (w.alloc (.cells #[.slice A l.length c] 22)) := (Below.refl _ _).alloc (Nat.le_refl _) _
  have hC0 := Kd.C_below hC hb0
  go_enter Try.func9, Try.ntmps9
  go_wp2_with fail
  refine (PRec.wayfarerlaw05_head.calls 500 true _ (PRec.head_true 0)).mono ?_
  rintro e w1 ⟨rfl, hb1⟩
  replace k0 := k0.below' hb1
  replace hC0 := Kd.C_below hC0 hb1
  replace hb0 := below_step hb0 hb0.size hb1
  clear hb1 hC
  have hlg := k0.lt
  have b0 := k0.cell 0
  simp only [List.getElem?_toArray, List.getElem?_cons_zero] at b0
  have d : decide ((100 : Int) < (l.length : Int)) = false := decide_eq_false (by omega)
  have d4 : decide ((44 : Int) ≤ (l.length : Int)) = true := decide_eq_true (by omega)
  have hc44 : (44 : Int) ≤ (c : Int) := by omega
  go_wp2_with fail
  have hrw := Row.below hrow (hb0)
  have hr44 := Row.take8 hrw 44 hl
  obtain ⟨b, off, rfl, hlt, hcs⟩ := hr44.2.2 (by omega)
  clear hC0 hrow hrw
  refine draw_start [9] (Below (w1.heap.size)) (by kernel_rfl) ?_
  refine draw_chunk (n := 103) (by kernel_rfl) (fun _ _ _ _ _ h => h) [1, 2, 4, 5] [] _ #[false, true, true, false, true, true, false, false, false, false] (by kernel_rfl) 6 _ ?_ _ rfl ?_ ?_
  rotate_left
  · intro w' hw'
    have hc' : ∀ b o, b < (w1.heap.size) → w'.cell? ⟨b, o, none⟩ = w1.cell? ⟨b, o, none⟩ := fun b o h => hw'.cell (p := ⟨b, o, none⟩) h
    refine ci_step (i := 1) (v := ?_) rfl (by kernel_rfl) ?_ ?_
    rotate_left
    · first | (go_simp; done) | (go_simp; with_reducible rfl)
    skip
    try simp only [Act.put, setIfInBounds_toArray, set_cons_zero, set_cons_succ]
    refine ci_step (i := 2) (v := ?_) rfl (by kernel_rfl) ?_ ?_
    rotate_left
    · first | (go_simp; done) | (go_simp; with_reducible rfl)
    skip
    try simp only [Act.put, setIfInBounds_toArray, set_cons_zero, set_cons_succ]
    refine ci_step (i := 4) (v := ?_) rfl (by kernel_rfl) ?_ ?_
    rotate_left
    · first | (go_simp; done) | (go_simp; with_reducible rfl)
    skip
    try simp only [Act.put, setIfInBounds_toArray, set_cons_zero, set_cons_succ]
    refine ci_step (i := 5) (v := ?_) rfl (by kernel_rfl) ?_ ?_
    rotate_left
    · first | (go_simp; done) | (go_simp; with_reducible rfl)
    skip
    try simp only [Act.put, setIfInBounds_toArray, set_cons_zero, set_cons_succ]
    refine ci_end ?_
    rfl
  clear d d4 hc44
  have hb1z : w.heap.size < w1.heap.size := hlg
  refine draw_eff (i := 0) rfl (by kernel_rfl) (listed' := #[true, true, true, false, true, true, false, false, false, false]) rfl (fun K hK => ?_)
  replace hK := Lib.hid hK
  go_wp2_with fail
  refine hK.out _ _ ⟨fun _ => below_dd ((Below.refl _ _).alloc (Nat.le_refl _) _), ?_⟩
  clear hK K
  have hO : Own8 (w1.alloc (.cells #[] 5)).drew w1.heap.size (.slice (some ⟨w1.heap.size, 0, none⟩) 0 0) [] := Own8.new w1 w1.heap.size [] (Nat.le_refl _) (by simp)
  have hW : Below w1.heap.size w1 (w1.alloc (.cells #[] 5)).drew := Below.drew ((Below.refl _ _).alloc (Nat.le_refl _) _)
  have hl44 : (l.take 44).length = 44 := by simp; omega
  obtain ⟨v2, V2, hrun, hO2, hb2, -⟩ := app8 w1.heap.size _ [] (l.take 44) _ hO ⟨b, off, none⟩ 44 c hl44
    (fun j u hj => by
      have h1 := hcs j u hj
      rw [show (⟨b, off, none⟩ : Addr).add j = ⟨b, off + j, none⟩ by unfold Addr.add; split <;> simp_all]
      exact (Below.cell (p := ⟨b, off + j, none⟩) hW hlt).trans h1) (by simp) hW.size
  refine draw_eff (i := 3) rfl (by kernel_rfl) (listed' := #[true, true, true, true, true, true, false, false, false, false]) rfl (fun K hK => ?_)
  replace hK := Lib.hid hK
  go_wp2_with (at_builtin; refine wpList_app rfl _ _ _ _ rfl rfl rfl hrun ?_)
  refine hK.out _ _ ⟨fun _ => hb2, ?_⟩
  clear hK K hrun hO hcs
  try simp only [Act.put, setIfInBounds_toArray, set_cons_zero, set_cons_succ]
  replace hW := Below.trans hW hb2
  have hcall := law01_Of (l.take 44) (some ⟨b, off, none⟩) c V2 (by rw [hl44]; exact Row.below hr44 hW) (hB.take 44)
  rw [hl44] at hcall
  refine draw_eff (i := 6) rfl (by kernel_rfl) (listed' := #[true, true, true, true, true, true, true, false, false, false]) rfl (fun K hK => ?_)
  replace hK := Lib.hid hK
  go_wp2_with fail
  refine hcall.mono ?_
  rintro e w3 ⟨rfl, rfl⟩
  go_wp2_with fail
  refine hK.out _ _ ⟨fun _ => Below.refl _ _, ?_⟩
  clear hK K hcall hb2
  refine draw_eff (i := 7) rfl (by kernel_rfl) (listed' := #[true, true, true, true, true, true, true, true, false, false]) rfl (fun K hK => ?_)
  replace hK := Lib.hid hK
  go_wp2_with fail
  refine (law05_four (lawCrc (l.take 44)) _ hcrc).mono ?_
  rintro e w3 ⟨rfl, rfl⟩
  go_wp2_with fail
  refine hK.out _ _ ⟨fun _ => (Below.refl _ _).alloc hW.size _, ?_⟩
  clear hK K
  obtain ⟨v3, V3, hrun, hO3, hb3, -⟩ := app8 w1.heap.size _ _ (four (lawCrc (l.take 44))) _ (hO2.below ((Below.refl w3.heap.size w3).alloc (Nat.le_refl _) (.cells (u8s (four (lawCrc (l.take 44)))).toArray 5))) ⟨w3.heap.size, 0, none⟩ 4 4 rfl
    (fun j u hj => by
      have := (Blk.new w3 5 (u8s (four (lawCrc (l.take 44)))).toArray).cell j
      rw [show (⟨w3.heap.size, 0, none⟩ : Addr).add j = ⟨w3.heap.size, j, none⟩ by unfold Addr.add; split <;> simp_all, this]
      simpa using hj) (by simp; omega) (by have := hW.size; simp; omega)
  refine draw_eff (i := 8) rfl (by kernel_rfl) (listed' := #[true, true, true, true, true, true, true, true, true, false]) rfl (fun K hK => ?_)
  replace hK := Lib.hid hK
  go_wp2_with (at_builtin; refine wpList_app rfl _ _ _ _ rfl rfl rfl hrun ?_)
  refine hK.out _ _ ⟨fun _ => hb3, ?_⟩
  clear hK K hrun hO2
  try simp only [Act.put, setIfInBounds_toArray, set_cons_zero, set_cons_succ]
  replace hW := Below.trans (hW.alloc hW.size _) hb3
  obtain ⟨A3, c3, rfl, hc3, hr3, hA3⟩ := Own8.rowc (l := sealB l) hO3 (by simp [sealB, four_len]; omega)
  have hsz3 := hW.size
  replace k0 := k0.below' hW
  replace hb0 := below_step hb0 hb0.size hW
  have hlg := k0.lt
  have b0 := k0.cell 0
  simp only [List.getElem?_toArray, List.getElem?_cons_zero] at b0
  have pf0 := k0.frozen 0
  refine draw_eff (i := 9) rfl (by kernel_rfl) (listed' := #[true, true, true, true, true, true, true, true, true, true]) rfl (fun K hK => ?_)
  replace hK := Lib.hid hK
  go_wp2_with fail
  refine hK.out _ _ ⟨fun h => absurd (by decide) h, ?_⟩
  clear hK K hO3 hr44 b0 pf0 hcrc
  refine draw_done (by kernel_rfl) ?_ _
  have hr4 := hr3.other (a := ⟨w.heap.size, 0, none⟩) (fun b off e h => by have := hA3 b off e; have := hb1z; simp only at h; omega) (.slice A3 (sealB l).length c3)
  have hb4 := Below.setCell hb0 (p := ⟨w.heap.size, 0, none⟩) (Nat.le_refl _) (.slice A3 (sealB l).length c3)
  have k4 := k0.set 0 (.slice A3 (sealB l).length c3)
  simp only [List.setIfInBounds_toArray, List.set_cons_zero] at k4
  generalize V3.setCell ⟨w.heap.size, 0, none⟩ (.slice A3 (sealB l).length c3) = w0 at hr4 hb4 k4 ⊢
  clear hr3 hA3 hb0 k0 hlg hW hsz3
  have hrow := hr4
  have hb0 := hb4
  have k0 := k4
  clear hr4 hb4 k4 hB hc hl hl2 hl44
  have hc := hc3
  have hB := hBq
  clear hc3 hBq
  generalize sealB l = q at *
  rename List Int => l
  rename Option Addr => A
  rename Nat => c
  have hC0 := C_of_bytes hrow
  have hlg := k0.lt
  have b0 := k0.cell 0
  simp only [List.getElem?_toArray, List.getElem?_cons_zero] at b0
  go_wp2_with fail
  refine (PRec.rec_Of.calls 500 A c l _ _ _ _ _ _ _ _ _ _ _ hC0 hc hof).mono ?_
  rintro e w2 ⟨rfl, hb1⟩
  replace k0 := k0.below' hb1
  replace hC0 := Kd.C_below hC0 hb1
  replace hb0 := below_step hb0 hb0.size hb1
  clear hb1 b0 hlg
  have hlg := k0.lt
  have b0 := k0.cell 0
  simp only [List.getElem?_toArray, List.getElem?_cons_zero] at b0
  go_wp2_with fail
  have kR := Blk.new w2 50 #[.int .i64 kind, .int .u32 gen, .int .u32 lsn, .int .u32 rid, .int .u32 a, .int .i64 lv, .bool on, .int .u32 s, .int .u16 m]
  have hbA := (Below.refl w2.heap.size w2).alloc (Nat.le_refl _) (.cells #[.int .i64 kind, .int .u32 gen, .int .u32 lsn, .int .u32 rid, .int .u32 a, .int .i64 lv, .bool on, .int .u32 s, .int .u16 m] 50)
  clear b0
  replace k0 := k0.below' hbA
  replace hC0 := Kd.C_below hC0 hbA
  replace hb0 := below_step hb0 hb0.size hbA
  clear hbA hlg
  generalize (w2.alloc (.cells #[.int .i64 kind, .int .u32 gen, .int .u32 lsn, .int .u32 rid, .int .u32 a, .int .i64 lv, .bool on, .int .u32 s, .int .u16 m] 50)) = W2 at kR k0 hC0 hb0 ⊢
  generalize w2.heap.size = g at kR ⊢
  have hlg := k0.lt
  have hlr := kR.lt
  have b0 := k0.cell 0
  simp only [List.getElem?_toArray, List.getElem?_cons_zero] at b0
  have r0 := kR.cell 0
  have r1 := kR.cell 1
  have r2 := kR.cell 2
  have r3 := kR.cell 3
  have r4 := kR.cell 4
  have r5 := kR.cell 5
  have r6 := kR.cell 6
  have r7 := kR.cell 7
  have r8 := kR.cell 8
  simp only [List.getElem?_toArray, List.getElem?_cons_zero, List.getElem?_cons_succ] at r0 r1 r2 r3 r4 r5 r6 r7 r8
  refine draw_start [] Later (by kernel_rfl) ?_
  refine draw_chunk (n := 103) (by kernel_rfl) (fun _ _ _ _ _ h => h) [0] [] _ #[true, false, false, false, false, false, false, false, false, false, false] (by kernel_rfl) 10 _ ?_ _ rfl ?_ ?_
  rotate_left
  · intro w' hw'
    have hc' : ∀ b o, b < W2.heap.size → w'.cell? ⟨b, o, none⟩ = W2.cell? ⟨b, o, none⟩ := (bcell hw').1
    refine ci_step (i := 0) (v := ?_) rfl (by kernel_rfl) ?_ ?_
    rotate_left
    · first | (go_simp; done) | (go_simp; with_reducible rfl)
    skip
    try simp only [Act.put, setIfInBounds_toArray, set_cons_zero, set_cons_succ]
    refine ci_end ?_
    rfl
  refine draw_eff (i := 1) rfl (by kernel_rfl) (listed' := #[true, true, false, false, false, false, false, false, false, false, false]) rfl (fun K hK => ?_)
  replace hK := Lib.hid hK
  go_wp2_with fail
  refine (PRec.wayfarerlaw05_Right.calls _ _ _ _ _ _ _ _ _ _ _ hright).mono ?_
  rintro e w3 ⟨rfl, hb3⟩
  go_wp2_with fail
  refine hK.out _ _ ⟨fun _ => hb3, ?_⟩
  clear hK b0 r0 r1 r2 r3 r4 r5 r6 r7 r8
  replace k0 := k0.drew.below' hb3
  replace kR := kR.drew.below' hb3
  replace hC0 := Kd.C_below (Kd.C_drew hC0) hb3
  replace hb0 := below_step (Below.drew hb0) hb0.size hb3
  clear hb3 hlg hlr
  have hlg := k0.lt
  have hlr := kR.lt
  have b0 := k0.cell 0
  simp only [List.getElem?_toArray, List.getElem?_cons_zero] at b0
  have r0 := kR.cell 0
  have r1 := kR.cell 1
  have r2 := kR.cell 2
  have r3 := kR.cell 3
  have r4 := kR.cell 4
  have r5 := kR.cell 5
  have r6 := kR.cell 6
  have r7 := kR.cell 7
  have r8 := kR.cell 8
  simp only [List.getElem?_toArray, List.getElem?_cons_zero, List.getElem?_cons_succ] at r0 r1 r2 r3 r4 r5 r6 r7 r8
  refine draw_chunk (n := 103) (by kernel_rfl) (fun _ _ _ _ _ h => h) [2, 3, 6, 7] [] _ #[true, true, true, true, false, false, true, true, false, false, false] (by kernel_rfl) 5 _ ?_ _ rfl ?_ ?_
  rotate_left
  · intro w' hw'
    have hc' : ∀ b o, b < w3.heap.size → w'.cell? ⟨b, o, none⟩ = w3.cell? ⟨b, o, none⟩ := (bcell hw').1
    have hcv := Kd.C_string (P := Try.prog) Try.underlying22 Try.underlying5 Try.underlying9 (n := l.length) (c := c) (Kd.C_below hC0 hw')
    refine ci_step (i := 2) (v := ?_) rfl (by kernel_rfl) ?_ ?_
    rotate_left
    · first | (go_simp; done) | (go_simp; with_reducible rfl)
    skip
    try simp only [Act.put, setIfInBounds_toArray, set_cons_zero, set_cons_succ]
    refine ci_step (i := 3) (v := ?_) rfl (by kernel_rfl) ?_ ?_
    rotate_left
    · first | (go_simp; done) | (go_simp; with_reducible rfl)
    skip
    try simp only [Act.put, setIfInBounds_toArray, set_cons_zero, set_cons_succ]
    refine ci_step (i := 6) (v := ?_) rfl (by kernel_rfl) ?_ ?_
    rotate_left
    · first | (go_simp; done) | (go_simp; with_reducible rfl)
    skip
    try simp only [Act.put, setIfInBounds_toArray, set_cons_zero, set_cons_succ]
    refine ci_step (i := 7) (v := ?_) rfl (by kernel_rfl) ?_ ?_
    rotate_left
    · first | (go_simp; done) | (go_simp; with_reducible rfl)
    skip
    try simp only [Act.put, setIfInBounds_toArray, set_cons_zero, set_cons_succ]
    refine ci_end ?_
    rfl
  refine draw_eff (i := 4) rfl (by kernel_rfl) (listed' := #[true, true, true, true, true, false, true, true, false, false, false]) rfl (fun K hK => ?_)
  replace hK := Lib.hid hK
  go_wp2_with fail
  refine (PRec.wayfarerlaw05_Bytes.calls _ _ _ _ _ _ _ _ _ _ _ _ hby).mono ?_
  rintro e w4 ⟨vB, rfl, hR4, hb3⟩
  go_wp2_with fail
  refine hK.out _ _ ⟨fun _ => hb3, ?_⟩
  clear hK b0 r0 r1 r2 r3 r4 r5 r6 r7 r8
  replace k0 := k0.below' hb3
  replace kR := kR.below' hb3
  replace hC0 := Kd.C_below hC0 hb3
  replace hb0 := below_step hb0 hb0.size hb3
  clear hb3 hlg hlr
  refine draw_chunk (n := 103) (by kernel_rfl) (fun _ _ _ _ _ h => h) [5, 8, 9, 10] [] _ #[true, true, true, true, true, true, true, true, true, true, true] (by kernel_rfl) 0 _ ?_ _ rfl ?_ ?_
  rotate_left
  · intro w' hw'
    have hc' : ∀ b o, b < w4.heap.size → w'.cell? ⟨b, o, none⟩ = w4.cell? ⟨b, o, none⟩ := (bcell hw').1
    have hcv := own_string (P := Try.prog) Try.underlying22 Try.underlying5 Try.underlying9 (Kd.own_of_R (Kd.R_below hR4 hw'))
    refine ci_step (i := 5) (v := ?_) rfl (by kernel_rfl) ?_ ?_
    rotate_left
    · first | (go_simp; done) | (go_simp; with_reducible rfl)
    skip
    try simp only [Act.put, setIfInBounds_toArray, set_cons_zero, set_cons_succ]
    refine ci_step (i := 8) (v := ?_) rfl (by kernel_rfl) ?_ ?_
    rotate_left
    · first | (go_simp; done) | (go_simp; with_reducible rfl)
    skip
    try simp only [Act.put, setIfInBounds_toArray, set_cons_zero, set_cons_succ]
    refine ci_step (i := 9) (v := ?_) rfl (by kernel_rfl) ?_ ?_
    rotate_left
    · first | (go_simp; done) | (go_simp; with_reducible rfl)
    skip
    try simp only [Act.put, setIfInBounds_toArray, set_cons_zero, set_cons_succ]
    refine ci_step (i := 10) (v := ?_) rfl (by kernel_rfl) ?_ ?_
    rotate_left
    · first | (go_simp; done) | (go_simp; with_reducible rfl)
    skip
    try simp only [Act.put, setIfInBounds_toArray, set_cons_zero, set_cons_succ]
    refine ci_end ?_
    rfl
  refine draw_done (by kernel_rfl) ?_ _
  go_wp2
  go_ret
  exact ⟨by simp, hb0⟩
set_option maxHeartbeats 4000000 in
set_option maxRecDepth 100000 in
theorem law05_Reads_snot (l : List Int) (hB : Byte l) (A : Option Addr) (c : Nat) (w : World) (hrow : Row w 1 A l.length (u8s l)) (hC : Kd.C (Kd.int .u8) w A l.length l) (hc : l.length ≤ c) (hl : 44 ≤ l.length) (hl2 : l.length ≤ 100) (hno : PRec.ofM (sealB l) = PRec.outM PRec.noRec false) (hr : recRightB (PRec.fieldsM (sealB l)) = false) (ho : (PRec.fieldsM (sealB l)).ok) :
    Calls Try.prog 9 #[.slice A l.length c, .bool true] w fun e w' => e = .returned (.bool true) ∧ Below w.heap.size w w' := by
  have hBq := sealB_byte l hB
  have hcrc := sealB_crc l hB
  have hls := Lib.hid (sealB_len l hl)
  have hof : PRec.rec_Of.f 500 (sealB l) = some (PRec.outM PRec.noRec false) := by
    rw [← hno]
    exact PRec.Of_nice 0 (sealB l) hBq
  simp only [PRec.outM, PRec.noRec] at hof
  have k0 := Blk.new w 22 #[.slice A l.length c]
  have hb0 : Below w.heap.size w (w.alloc (.cells #[.slice A l.length c] 22)) := (Below.refl _ _).alloc (Nat.le_refl _) _
  have hC0 := Kd.C_below hC hb0
  go_enter Try.func9, Try.ntmps9
  go_wp2_with fail
  refine (PRec.wayfarerlaw05_head.calls 500 true _ (PRec.head_true 0)).mono ?_
  rintro e w1 ⟨rfl, hb1⟩
  replace k0 := k0.below' hb1
  replace hC0 := Kd.C_below hC0 hb1
  replace hb0 := below_step hb0 hb0.size hb1
  clear hb1 hC
  have hlg := k0.lt
  have b0 := k0.cell 0
  simp only [List.getElem?_toArray, List.getElem?_cons_zero] at b0
  have d : decide ((100 : Int) < (l.length : Int)) = false := decide_eq_false (by omega)
  have d4 : decide ((44 : Int) ≤ (l.length : Int)) = true := decide_eq_true (by omega)
  have hc44 : (44 : Int) ≤ (c : Int) := by omega
  go_wp2_with fail
  have hrw := Row.below hrow (hb0)
  have hr44 := Row.take8 hrw 44 hl
  obtain ⟨b, off, rfl, hlt, hcs⟩ := hr44.2.2 (by omega)
  clear hC0 hrow hrw
  refine draw_start [9] (Below (w1.heap.size)) (by kernel_rfl) ?_
  refine draw_chunk (n := 103) (by kernel_rfl) (fun _ _ _ _ _ h => h) [1, 2, 4, 5] [] _ #[false, true, true, false, true, true, false, false, false, false] (by kernel_rfl) 6 _ ?_ _ rfl ?_ ?_
  rotate_left
  · intro w' hw'
    have hc' : ∀ b o, b < (w1.heap.size) → w'.cell? ⟨b, o, none⟩ = w1.cell? ⟨b, o, none⟩ := fun b o h => hw'.cell (p := ⟨b, o, none⟩) h
    refine ci_step (i := 1) (v := ?_) rfl (by kernel_rfl) ?_ ?_
    rotate_left
    · first | (go_simp; done) | (go_simp; with_reducible rfl)
    skip
    try simp only [Act.put, setIfInBounds_toArray, set_cons_zero, set_cons_succ]
    refine ci_step (i := 2) (v := ?_) rfl (by kernel_rfl) ?_ ?_
    rotate_left
    · first | (go_simp; done) | (go_simp; with_reducible rfl)
    skip
    try simp only [Act.put, setIfInBounds_toArray, set_cons_zero, set_cons_succ]
    refine ci_step (i := 4) (v := ?_) rfl (by kernel_rfl) ?_ ?_
    rotate_left
    · first | (go_simp; done) | (go_simp; with_reducible rfl)
    skip
    try simp only [Act.put, setIfInBounds_toArray, set_cons_zero, set_cons_succ]
    refine ci_step (i := 5) (v := ?_) rfl (by kernel_rfl) ?_ ?_
    rotate_left
    · first | (go_simp; done) | (go_simp; with_reducible rfl)
    skip
    try simp only [Act.put, setIfInBounds_toArray, set_cons_zero, set_cons_succ]
    refine ci_end ?_
    rfl
  clear d d4 hc44
  have hb1z : w.heap.size < w1.heap.size := hlg
  refine draw_eff (i := 0) rfl (by kernel_rfl) (listed' := #[true, true, true, false, true, true, false, false, false, false]) rfl (fun K hK => ?_)
  replace hK := Lib.hid hK
  go_wp2_with fail
  refine hK.out _ _ ⟨fun _ => below_dd ((Below.refl _ _).alloc (Nat.le_refl _) _), ?_⟩
  clear hK K
  have hO : Own8 (w1.alloc (.cells #[] 5)).drew w1.heap.size (.slice (some ⟨w1.heap.size, 0, none⟩) 0 0) [] := Own8.new w1 w1.heap.size [] (Nat.le_refl _) (by simp)
  have hW : Below w1.heap.size w1 (w1.alloc (.cells #[] 5)).drew := Below.drew ((Below.refl _ _).alloc (Nat.le_refl _) _)
  have hl44 : (l.take 44).length = 44 := by simp; omega
  obtain ⟨v2, V2, hrun, hO2, hb2, -⟩ := app8 w1.heap.size _ [] (l.take 44) _ hO ⟨b, off, none⟩ 44 c hl44
    (fun j u hj => by
      have h1 := hcs j u hj
      rw [show (⟨b, off, none⟩ : Addr).add j = ⟨b, off + j, none⟩ by unfold Addr.add; split <;> simp_all]
      exact (Below.cell (p := ⟨b, off + j, none⟩) hW hlt).trans h1) (by simp) hW.size
  refine draw_eff (i := 3) rfl (by kernel_rfl) (listed' := #[true, true, true, true, true, true, false, false, false, false]) rfl (fun K hK => ?_)
  replace hK := Lib.hid hK
  go_wp2_with (at_builtin; refine wpList_app rfl _ _ _ _ rfl rfl rfl hrun ?_)
  refine hK.out _ _ ⟨fun _ => hb2, ?_⟩
  clear hK K hrun hO hcs
  try simp only [Act.put, setIfInBounds_toArray, set_cons_zero, set_cons_succ]
  replace hW := Below.trans hW hb2
  have hcall := law01_Of (l.take 44) (some ⟨b, off, none⟩) c V2 (by rw [hl44]; exact Row.below hr44 hW) (hB.take 44)
  rw [hl44] at hcall
  refine draw_eff (i := 6) rfl (by kernel_rfl) (listed' := #[true, true, true, true, true, true, true, false, false, false]) rfl (fun K hK => ?_)
  replace hK := Lib.hid hK
  go_wp2_with fail
  refine hcall.mono ?_
  rintro e w3 ⟨rfl, rfl⟩
  go_wp2_with fail
  refine hK.out _ _ ⟨fun _ => Below.refl _ _, ?_⟩
  clear hK K hcall hb2
  refine draw_eff (i := 7) rfl (by kernel_rfl) (listed' := #[true, true, true, true, true, true, true, true, false, false]) rfl (fun K hK => ?_)
  replace hK := Lib.hid hK
  go_wp2_with fail
  refine (law05_four (lawCrc (l.take 44)) _ hcrc).mono ?_
  rintro e w3 ⟨rfl, rfl⟩
  go_wp2_with fail
  refine hK.out _ _ ⟨fun _ => (Below.refl _ _).alloc hW.size _, ?_⟩
  clear hK K
  obtain ⟨v3, V3, hrun, hO3, hb3, -⟩ := app8 w1.heap.size _ _ (four (lawCrc (l.take 44))) _ (hO2.below ((Below.refl w3.heap.size w3).alloc (Nat.le_refl _) (.cells (u8s (four (lawCrc (l.take 44)))).toArray 5))) ⟨w3.heap.size, 0, none⟩ 4 4 rfl
    (fun j u hj => by
      have := (Blk.new w3 5 (u8s (four (lawCrc (l.take 44)))).toArray).cell j
      rw [show (⟨w3.heap.size, 0, none⟩ : Addr).add j = ⟨w3.heap.size, j, none⟩ by unfold Addr.add; split <;> simp_all, this]
      simpa using hj) (by simp; omega) (by have := hW.size; simp; omega)
  refine draw_eff (i := 8) rfl (by kernel_rfl) (listed' := #[true, true, true, true, true, true, true, true, true, false]) rfl (fun K hK => ?_)
  replace hK := Lib.hid hK
  go_wp2_with (at_builtin; refine wpList_app rfl _ _ _ _ rfl rfl rfl hrun ?_)
  refine hK.out _ _ ⟨fun _ => hb3, ?_⟩
  clear hK K hrun hO2
  try simp only [Act.put, setIfInBounds_toArray, set_cons_zero, set_cons_succ]
  replace hW := Below.trans (hW.alloc hW.size _) hb3
  obtain ⟨A3, c3, rfl, hc3, hr3, hA3⟩ := Own8.rowc (l := sealB l) hO3 (by simp [sealB, four_len]; omega)
  have hsz3 := hW.size
  replace k0 := k0.below' hW
  replace hb0 := below_step hb0 hb0.size hW
  have hlg := k0.lt
  have b0 := k0.cell 0
  simp only [List.getElem?_toArray, List.getElem?_cons_zero] at b0
  have pf0 := k0.frozen 0
  refine draw_eff (i := 9) rfl (by kernel_rfl) (listed' := #[true, true, true, true, true, true, true, true, true, true]) rfl (fun K hK => ?_)
  replace hK := Lib.hid hK
  go_wp2_with fail
  refine hK.out _ _ ⟨fun h => absurd (by decide) h, ?_⟩
  clear hK K hO3 hr44 b0 pf0 hcrc
  refine draw_done (by kernel_rfl) ?_ _
  have hr4 := hr3.other (a := ⟨w.heap.size, 0, none⟩) (fun b off e h => by have := hA3 b off e; have := hb1z; simp only at h; omega) (.slice A3 (sealB l).length c3)
  have hb4 := Below.setCell hb0 (p := ⟨w.heap.size, 0, none⟩) (Nat.le_refl _) (.slice A3 (sealB l).length c3)
  have k4 := k0.set 0 (.slice A3 (sealB l).length c3)
  simp only [List.setIfInBounds_toArray, List.set_cons_zero] at k4
  generalize V3.setCell ⟨w.heap.size, 0, none⟩ (.slice A3 (sealB l).length c3) = w0 at hr4 hb4 k4 ⊢
  clear hr3 hA3 hb0 k0 hlg hW hsz3
  have hrow := hr4
  have hb0 := hb4
  have k0 := k4
  clear hr4 hb4 k4 hB hc hl hl2 hl44
  have hc := hc3
  have hB := hBq
  clear hc3 hBq
  generalize sealB l = q at *
  rename List Int => l
  rename Option Addr => A
  rename Nat => c
  have hC0 := C_of_bytes hrow
  have hlg := k0.lt
  have b0 := k0.cell 0
  simp only [List.getElem?_toArray, List.getElem?_cons_zero] at b0
  go_wp2_with fail
  have d := True.intro
  have hl := hls
  clear hls
  refine (PRec.rec_Of.calls 500 A c l _ _ _ _ _ _ _ _ _ _ _ hC0 hc hof).mono ?_
  rintro e w2 ⟨rfl, hb1⟩
  replace k0 := k0.below' hb1
  replace hC0 := Kd.C_below hC0 hb1
  replace hb0 := below_step hb0 hb0.size hb1
  have dn : ((l.length : Int) == 48) = true := beq_iff_eq.2 (by have := hl.out; omega)
  have de : recEqB ⟨0, 0, 0, 0, 0, 0, false, 0, 0⟩ ⟨0, 0, 0, 0, 0, 0, false, 0, 0⟩ = true := by decide
  clear hb1 b0 hlg
  have hlg := k0.lt
  have b0 := k0.cell 0
  simp only [List.getElem?_toArray, List.getElem?_cons_zero] at b0
  go_wp2_with fail
  have hright : PRec.wayfarerlaw05_Right.f (rd l 0) (valB ((l.drop 4).take 4)) (valB ((l.drop 8).take 4)) (valB ((l.drop 12).take 4)) (valB ((l.drop 16).take 4)) (rd l 20) (rd l 1 == 1) (valB ((l.drop 24).take 4)) (rd l 2 * 256 + rd l 3) = some false := by
    rw [← hr]
    exact if_pos ((PRec.recOkB_iff _).2 ho)
  have hby := True.intro
  clear ho hr
  have kR := Blk.new w2 50 #[.int .i64 0, .int .u32 0, .int .u32 0, .int .u32 0, .int .u32 0, .int .i64 0, .bool false, .int .u32 0, .int .u16 0]
  have hbA := (Below.refl w2.heap.size w2).alloc (Nat.le_refl _) (.cells #[.int .i64 0, .int .u32 0, .int .u32 0, .int .u32 0, .int .u32 0, .int .i64 0, .bool false, .int .u32 0, .int .u16 0] 50)
  clear b0 kR
  replace k0 := k0.below' hbA
  replace hC0 := Kd.C_below hC0 hbA
  replace hb0 := below_step hb0 hb0.size hbA
  clear hbA hlg de dn d
  generalize (w2.alloc (.cells #[.int .i64 0, .int .u32 0, .int .u32 0, .int .u32 0, .int .u32 0, .int .i64 0, .bool false, .int .u32 0, .int .u16 0] 50)) = W2 at k0 hC0 hb0 ⊢
  have hal : ∀ oj : Oper, oj.op = .alloc 50 → AllocLike Try.prog oj := fun oj h => alloc_rec ⟨#[], []⟩ W2 oj h
  have hl48 := hl.out
  have x0 := Kd.at_int hC0 0 (by omega) (by omega)
  have x1 := Kd.at_int hC0 1 (by omega) (by omega)
  have x2 := Kd.at_int hC0 2 (by omega) (by omega)
  have x3 := Kd.at_int hC0 3 (by omega) (by omega)
  have x20 := Kd.at_int hC0 20 (by omega) (by omega)
  have hlb : ∃ ad, A = some ad ∧ ad.block < W2.heap.size ∧ W2.cell? ad = some (.int .u8 (rd l 0)) ∧ W2.cell? ⟨ad.block, ad.off + 1, none⟩ = some (.int .u8 (rd l 1)) ∧ W2.cell? ⟨ad.block, ad.off + 2, none⟩ = some (.int .u8 (rd l 2)) ∧ W2.cell? ⟨ad.block, ad.off + 3, none⟩ = some (.int .u8 (rd l 3)) ∧ W2.cell? ⟨ad.block, ad.off + 20, none⟩ = some (.int .u8 (rd l 20)) := by
    obtain ⟨ad, eA, x0⟩ := x0
    obtain ⟨ad1, eA1, x1⟩ := x1
    obtain ⟨ad2, eA2, x2⟩ := x2
    obtain ⟨ad3, eA3, x3⟩ := x3
    obtain ⟨ad4, eA4, x20⟩ := x20
    subst eA
    cases eA1
    cases eA2
    cases eA3
    cases eA4
    simp only [show (0 : Int).toNat = 0 from rfl, show (1 : Int).toNat = 1 from rfl, show (2 : Int).toNat = 2 from rfl, show (3 : Int).toNat = 3 from rfl, show (20 : Int).toNat = 20 from rfl, Go.Addr.add, Nat.reduceEqDiff, ↓reduceIte] at x0 x1 x2 x3 x20
    exact ⟨ad, rfl, World.block_lt_of_cell? _ _ x0, x0, x1, x2, x3, x20⟩
  clear x0 x1 x2 x3 x20
  obtain ⟨ad, rfl, hlb, x0, x1, x2, x3, x20⟩ := hlb
  have hlg := k0.lt
  have b0 := k0.cell 0
  simp only [List.getElem?_toArray, List.getElem?_cons_zero] at b0
  rw [hl48] at b0
  clear hl48
  refine draw_start [36] Later (by kernel_rfl) ?_
  refine draw_chunk (n := 103) (by kernel_rfl) (fun _ _ _ _ _ h => h) [0, 1, 2, 3, 4, 6, 8, 10, 12, 13, 14, 15, 17, 18, 19, 20, 21, 23, 24, 25, 26, 27, 28, 29, 30, 31, 32] [] _ #[true, true, true, true, true, false, true, false, true, false, true, false, true, true, true, true, false, true, true, true, true, true, false, true, true, true, true, true, true, true, true, true, true, false, false, false, false] (by kernel_rfl) 10 _ ?_ _ rfl ?_ ?_
  rotate_left
  · intro w' hw'
    have hc' : ∀ b o, b < W2.heap.size → w'.cell? ⟨b, o, none⟩ = W2.cell? ⟨b, o, none⟩ := (bcell hw').1
    have y0 := (Below.cell (p := ad) hw' hlb).trans x0; have y1 := (hc' ad.block (ad.off + 1) hlb).trans x1; have y2 := (hc' ad.block (ad.off + 2) hlb).trans x2; have y3 := (hc' ad.block (ad.off + 3) hlb).trans x3; have y20 := (hc' ad.block (ad.off + 20) hlb).trans x20; have z0 := (hc' w.heap.size 0 hlg).trans b0
    refine ci_step (i := 0) (v := ?_) rfl (by kernel_rfl) ?_ ?_
    rotate_left
    · first | (go_simp; done) | (go_simp; with_reducible rfl)
    skip
    try simp only [Act.put, setIfInBounds_toArray, set_cons_zero, set_cons_succ]
    refine ci_step (i := 1) (v := ?_) rfl (by kernel_rfl) ?_ ?_
    rotate_left
    · first | (go_simp; done) | (go_simp; with_reducible rfl)
    skip
    try simp only [Act.put, setIfInBounds_toArray, set_cons_zero, set_cons_succ]
    refine ci_step (i := 2) (v := ?_) rfl (by kernel_rfl) ?_ ?_
    rotate_left
    · first | (go_simp; done) | (go_simp; with_reducible rfl)
    skip
    try simp only [Act.put, setIfInBounds_toArray, set_cons_zero, set_cons_succ]
    refine ci_step (i := 3) (v := ?_) rfl (by kernel_rfl) ?_ ?_
    rotate_left
    · first | (go_simp; done) | (go_simp; with_reducible rfl)
    skip
    try simp only [Act.put, setIfInBounds_toArray, set_cons_zero, set_cons_succ]
    refine ci_step (i := 4) (v := ?_) rfl (by kernel_rfl) ?_ ?_
    rotate_left
    · first | (go_simp; done) | (go_simp; with_reducible rfl)
    skip
    try simp only [Act.put, setIfInBounds_toArray, set_cons_zero, set_cons_succ]
    refine ci_step (i := 6) (v := ?_) rfl (by kernel_rfl) ?_ ?_
    rotate_left
    · first | (go_simp; done) | (go_simp; with_reducible rfl)
    skip
    try simp only [Act.put, setIfInBounds_toArray, set_cons_zero, set_cons_succ]
    refine ci_step (i := 8) (v := ?_) rfl (by kernel_rfl) ?_ ?_
    rotate_left
    · first | (go_simp; done) | (go_simp; with_reducible rfl)
    skip
    try simp only [Act.put, setIfInBounds_toArray, set_cons_zero, set_cons_succ]
    refine ci_step (i := 10) (v := ?_) rfl (by kernel_rfl) ?_ ?_
    rotate_left
    · first | (go_simp; done) | (go_simp; with_reducible rfl)
    skip
    try simp only [Act.put, setIfInBounds_toArray, set_cons_zero, set_cons_succ]
    refine ci_step (i := 12) (v := ?_) rfl (by kernel_rfl) ?_ ?_
    rotate_left
    · first | (go_simp; done) | (go_simp; with_reducible rfl)
    skip
    try simp only [Act.put, setIfInBounds_toArray, set_cons_zero, set_cons_succ]
    refine ci_step (i := 13) (v := ?_) rfl (by kernel_rfl) ?_ ?_
    rotate_left
    · first | (go_simp; done) | (go_simp; with_reducible rfl)
    skip
    try simp only [Act.put, setIfInBounds_toArray, set_cons_zero, set_cons_succ]
    refine ci_step (i := 14) (v := ?_) rfl (by kernel_rfl) ?_ ?_
    rotate_left
    · first | (go_simp; done) | (go_simp; with_reducible rfl)
    skip
    try simp only [Act.put, setIfInBounds_toArray, set_cons_zero, set_cons_succ]
    refine ci_step (i := 15) (v := ?_) rfl (by kernel_rfl) ?_ ?_
    rotate_left
    · first | (go_simp; done) | (go_simp; with_reducible rfl)
    skip
    try simp only [Act.put, setIfInBounds_toArray, set_cons_zero, set_cons_succ]
    refine ci_step (i := 17) (v := ?_) rfl (by kernel_rfl) ?_ ?_
    rotate_left
    · first | (go_simp; done) | (go_simp; with_reducible rfl)
    skip
    try simp only [Act.put, setIfInBounds_toArray, set_cons_zero, set_cons_succ]
    refine ci_step (i := 18) (v := ?_) rfl (by kernel_rfl) ?_ ?_
    rotate_left
    · first | (go_simp; done) | (go_simp; with_reducible rfl)
    skip
    try simp only [Act.put, setIfInBounds_toArray, set_cons_zero, set_cons_succ]
    refine ci_step (i := 19) (v := ?_) rfl (by kernel_rfl) ?_ ?_
    rotate_left
    · first | (go_simp; done) | (go_simp; with_reducible rfl)
    skip
    try simp only [Act.put, setIfInBounds_toArray, set_cons_zero, set_cons_succ]
    refine ci_step (i := 20) (v := ?_) rfl (by kernel_rfl) ?_ ?_
    rotate_left
    · first | (go_simp; done) | (go_simp; with_reducible rfl)
    skip
    try simp only [Act.put, setIfInBounds_toArray, set_cons_zero, set_cons_succ]
    refine ci_step (i := 21) (v := ?_) rfl (by kernel_rfl) ?_ ?_
    rotate_left
    · first | (go_simp; done) | (go_simp; with_reducible rfl)
    skip
    try simp only [Act.put, setIfInBounds_toArray, set_cons_zero, set_cons_succ]
    refine ci_step (i := 23) (v := ?_) rfl (by kernel_rfl) ?_ ?_
    rotate_left
    · first | (go_simp; done) | (go_simp; with_reducible rfl)
    skip
    try simp only [Act.put, setIfInBounds_toArray, set_cons_zero, set_cons_succ]
    refine ci_step (i := 24) (v := ?_) rfl (by kernel_rfl) ?_ ?_
    rotate_left
    · first | (go_simp; done) | (go_simp; with_reducible rfl)
    skip
    try simp only [Act.put, setIfInBounds_toArray, set_cons_zero, set_cons_succ]
    refine ci_step (i := 25) (v := ?_) rfl (by kernel_rfl) ?_ ?_
    rotate_left
    · first | (go_simp; done) | (go_simp; with_reducible rfl)
    skip
    try simp only [Act.put, setIfInBounds_toArray, set_cons_zero, set_cons_succ]
    refine ci_step (i := 26) (v := ?_) rfl (by kernel_rfl) ?_ ?_
    rotate_left
    · first | (go_simp; done) | (go_simp; with_reducible rfl)
    skip
    try simp only [Act.put, setIfInBounds_toArray, set_cons_zero, set_cons_succ]
    refine ci_step (i := 27) (v := ?_) rfl (by kernel_rfl) ?_ ?_
    rotate_left
    · first | (go_simp; done) | (go_simp; with_reducible rfl)
    skip
    try simp only [Act.put, setIfInBounds_toArray, set_cons_zero, set_cons_succ]
    refine ci_step (i := 28) (v := ?_) rfl (by kernel_rfl) ?_ ?_
    rotate_left
    · first | (go_simp; done) | (go_simp; with_reducible rfl)
    skip
    try simp only [Act.put, setIfInBounds_toArray, set_cons_zero, set_cons_succ]
    refine ci_step (i := 29) (v := ?_) rfl (by kernel_rfl) ?_ ?_
    rotate_left
    · first | (go_simp; done) | (go_simp; with_reducible rfl)
    skip
    try simp only [Act.put, setIfInBounds_toArray, set_cons_zero, set_cons_succ]
    refine ci_step (i := 30) (v := ?_) rfl (by kernel_rfl) ?_ ?_
    rotate_left
    · first | (go_simp; done) | (go_simp; with_reducible rfl)
    skip
    try simp only [Act.put, setIfInBounds_toArray, set_cons_zero, set_cons_succ]
    refine ci_step (i := 31) (v := ?_) rfl (by kernel_rfl) ?_ ?_
    rotate_left
    · first | (go_simp; done) | (go_simp; with_reducible rfl)
    skip
    try simp only [Act.put, setIfInBounds_toArray, set_cons_zero, set_cons_succ]
    refine ci_step (i := 32) (v := ?_) rfl (by kernel_rfl) ?_ ?_
    rotate_left
    · first | (go_simp; done) | (go_simp; with_reducible rfl)
    skip
    try simp only [Act.put, setIfInBounds_toArray, set_cons_zero, set_cons_succ]
    refine ci_end ?_
    rfl
  clear hlb x0 x1 x2 x3 x20 b0
  replace k0 := k0.drew
  replace hC0 := Kd.C_drew hC0
  replace hb0 := Below.drew hb0
  generalize W2.drew = V0 at k0 hC0 hb0 ⊢
  have hlg := k0.lt
  have b0 := k0.cell 0
  simp only [List.getElem?_toArray, List.getElem?_cons_zero] at b0
  refine draw_call (i := 5) (v := .int .u32 (valB ((l.drop 4).take 4))) 50 rfl (by kernel_rfl) (by kernel_rfl) hal (fun w => Below.drew (Below.refl _ _)) (fun w o => (Below.refl _ _).alloc (Nat.le_refl _) _) (listed' := #[true, true, true, true, true, true, true, false, true, false, true, false, true, true, true, true, false, true, true, true, true, true, false, true, true, true, true, true, true, true, true, true, true, false, false, false, false]) rfl (by kernel_rfl) (fun w' hw' => ⟨33, #[.int .i64 4, .pointer (some ⟨w.heap.size, 0, none⟩)], ?_, recReads_n4 w.heap.size l (some ad) c w' hB (Kd.C_below hC0 hw') ((Below.cell (p := ⟨w.heap.size, 0, none⟩) hw' hlg).trans b0) hl.out⟩) (fun m => ?_)
  · first | (go_simp; done) | (go_simp; with_reducible rfl)
  try simp only [Act.put, setIfInBounds_toArray, set_cons_zero, set_cons_succ]
  have hW : Below (V0).heap.size V0 ((V0).drewN m) := below_drewN (Below.refl _ _) m
  clear hlg b0
  replace k0 := k0.below' hW
  replace hC0 := Kd.C_below hC0 hW
  replace hb0 := below_step hb0 hb0.size hW
  clear hW
  generalize (V0).drewN m = V1 at k0 hC0 hb0 ⊢
  clear m
  have hlg := k0.lt
  have b0 := k0.cell 0
  simp only [List.getElem?_toArray, List.getElem?_cons_zero] at b0
  refine draw_call (i := 7) (v := .int .u32 (valB ((l.drop 8).take 4))) 50 rfl (by kernel_rfl) (by kernel_rfl) hal (fun w => Below.drew (Below.refl _ _)) (fun w o => (Below.refl _ _).alloc (Nat.le_refl _) _) (listed' := #[true, true, true, true, true, true, true, true, true, false, true, false, true, true, true, true, false, true, true, true, true, true, false, true, true, true, true, true, true, true, true, true, true, false, false, false, false]) rfl (by kernel_rfl) (fun w' hw' => ⟨33, #[.int .i64 8, .pointer (some ⟨w.heap.size, 0, none⟩)], ?_, recReads_n8 w.heap.size l (some ad) c w' hB (Kd.C_below hC0 hw') ((Below.cell (p := ⟨w.heap.size, 0, none⟩) hw' hlg).trans b0) hl.out⟩) (fun m => ?_)
  · first | (go_simp; done) | (go_simp; with_reducible rfl)
  try simp only [Act.put, setIfInBounds_toArray, set_cons_zero, set_cons_succ]
  have hW : Below (V1).heap.size V1 ((V1).drewN m) := below_drewN (Below.refl _ _) m
  clear hlg b0
  replace k0 := k0.below' hW
  replace hC0 := Kd.C_below hC0 hW
  replace hb0 := below_step hb0 hb0.size hW
  clear hW
  generalize (V1).drewN m = V2 at k0 hC0 hb0 ⊢
  clear m
  have hlg := k0.lt
  have b0 := k0.cell 0
  simp only [List.getElem?_toArray, List.getElem?_cons_zero] at b0
  refine draw_call (i := 9) (v := .int .u32 (valB ((l.drop 12).take 4))) 50 rfl (by kernel_rfl) (by kernel_rfl) hal (fun w => Below.drew (Below.refl _ _)) (fun w o => (Below.refl _ _).alloc (Nat.le_refl _) _) (listed' := #[true, true, true, true, true, true, true, true, true, true, true, false, true, true, true, true, false, true, true, true, true, true, false, true, true, true, true, true, true, true, true, true, true, false, false, false, false]) rfl (by kernel_rfl) (fun w' hw' => ⟨33, #[.int .i64 12, .pointer (some ⟨w.heap.size, 0, none⟩)], ?_, recReads_n12 w.heap.size l (some ad) c w' hB (Kd.C_below hC0 hw') ((Below.cell (p := ⟨w.heap.size, 0, none⟩) hw' hlg).trans b0) hl.out⟩) (fun m => ?_)
  · first | (go_simp; done) | (go_simp; with_reducible rfl)
  try simp only [Act.put, setIfInBounds_toArray, set_cons_zero, set_cons_succ]
  have hW : Below (V2).heap.size V2 ((V2).drewN m) := below_drewN (Below.refl _ _) m
  clear hlg b0
  replace k0 := k0.below' hW
  replace hC0 := Kd.C_below hC0 hW
  replace hb0 := below_step hb0 hb0.size hW
  clear hW
  generalize (V2).drewN m = V3 at k0 hC0 hb0 ⊢
  clear m
  have hlg := k0.lt
  have b0 := k0.cell 0
  simp only [List.getElem?_toArray, List.getElem?_cons_zero] at b0
  refine draw_call (i := 11) (v := .int .u32 (valB ((l.drop 16).take 4))) 50 rfl (by kernel_rfl) (by kernel_rfl) hal (fun w => Below.drew (Below.refl _ _)) (fun w o => (Below.refl _ _).alloc (Nat.le_refl _) _) (listed' := #[true, true, true, true, true, true, true, true, true, true, true, true, true, true, true, true, false, true, true, true, true, true, false, true, true, true, true, true, true, true, true, true, true, false, false, false, false]) rfl (by kernel_rfl) (fun w' hw' => ⟨33, #[.int .i64 16, .pointer (some ⟨w.heap.size, 0, none⟩)], ?_, recReads_n16 w.heap.size l (some ad) c w' hB (Kd.C_below hC0 hw') ((Below.cell (p := ⟨w.heap.size, 0, none⟩) hw' hlg).trans b0) hl.out⟩) (fun m => ?_)
  · first | (go_simp; done) | (go_simp; with_reducible rfl)
  try simp only [Act.put, setIfInBounds_toArray, set_cons_zero, set_cons_succ]
  have hW : Below (V3).heap.size V3 ((V3).drewN m) := below_drewN (Below.refl _ _) m
  clear hlg b0
  replace k0 := k0.below' hW
  replace hC0 := Kd.C_below hC0 hW
  replace hb0 := below_step hb0 hb0.size hW
  clear hW
  generalize (V3).drewN m = V4 at k0 hC0 hb0 ⊢
  clear m
  have hlg := k0.lt
  have b0 := k0.cell 0
  simp only [List.getElem?_toArray, List.getElem?_cons_zero] at b0
  refine draw_chunk (n := 103) (by kernel_rfl) (fun _ _ _ _ _ h => h) [16] [] _ #[true, true, true, true, true, true, true, true, true, true, true, true, true, true, true, true, true, true, true, true, true, true, false, true, true, true, true, true, true, true, true, true, true, false, false, false, false] (by kernel_rfl) 5 _ ?_ _ rfl ?_ ?_
  rotate_left
  · intro w' hw'
    have hc' : ∀ b o, b < V4.heap.size → w'.cell? ⟨b, o, none⟩ = V4.cell? ⟨b, o, none⟩ := (bcell hw').1
    refine ci_step (i := 16) (v := ?_) rfl (by kernel_rfl) ?_ ?_
    rotate_left
    · first | (go_simp; done) | (go_simp; with_reducible rfl)
    skip
    try simp only [Act.put, setIfInBounds_toArray, set_cons_zero, set_cons_succ]
    refine ci_end ?_
    rfl
  refine draw_call (i := 22) (v := .int .u32 (valB ((l.drop 24).take 4))) 50 rfl (by kernel_rfl) (by kernel_rfl) hal (fun w => Below.drew (Below.refl _ _)) (fun w o => (Below.refl _ _).alloc (Nat.le_refl _) _) (listed' := #[true, true, true, true, true, true, true, true, true, true, true, true, true, true, true, true, true, true, true, true, true, true, true, true, true, true, true, true, true, true, true, true, true, false, false, false, false]) rfl (by kernel_rfl) (fun w' hw' => ⟨33, #[.int .i64 24, .pointer (some ⟨w.heap.size, 0, none⟩)], ?_, recReads_n24 w.heap.size l (some ad) c w' hB (Kd.C_below hC0 hw') ((Below.cell (p := ⟨w.heap.size, 0, none⟩) hw' hlg).trans b0) hl.out⟩) (fun m => ?_)
  · first | (go_simp; done) | (go_simp; with_reducible rfl)
  try simp only [Act.put, setIfInBounds_toArray, set_cons_zero, set_cons_succ]
  have hW : Below (V4).heap.size V4 ((V4).drewN m) := below_drewN (Below.refl _ _) m
  clear hlg b0
  replace k0 := k0.below' hW
  replace hC0 := Kd.C_below hC0 hW
  replace hb0 := below_step hb0 hb0.size hW
  clear hW
  generalize (V4).drewN m = V5 at k0 hC0 hb0 ⊢
  clear m
  have hlg := k0.lt
  have b0 := k0.cell 0
  simp only [List.getElem?_toArray, List.getElem?_cons_zero] at b0
  refine draw_chunk (n := 103) (by kernel_rfl) (fun _ _ _ _ _ h => h) [33, 34] [] _ #[true, true, true, true, true, true, true, true, true, true, true, true, true, true, true, true, true, true, true, true, true, true, true, true, true, true, true, true, true, true, true, true, true, true, true, false, false] (by kernel_rfl) 2 _ ?_ _ rfl ?_ ?_
  rotate_left
  · intro w' hw'
    have hc' : ∀ b o, b < V5.heap.size → w'.cell? ⟨b, o, none⟩ = V5.cell? ⟨b, o, none⟩ := (bcell hw').1
    refine ci_step (i := 33) (v := ?_) rfl (by kernel_rfl) ?_ ?_
    rotate_left
    · first | (go_simp; done) | (go_simp; with_reducible rfl)
    skip
    try simp only [Act.put, setIfInBounds_toArray, set_cons_zero, set_cons_succ]
    refine ci_step (i := 34) (v := ?_) rfl (by kernel_rfl) ?_ ?_
    rotate_left
    · first | (go_simp; done) | (go_simp; with_reducible rfl)
    skip
    try simp only [Act.put, setIfInBounds_toArray, set_cons_zero, set_cons_succ]
    refine ci_end ?_
    rfl
  refine draw_eff (i := 35) rfl (by kernel_rfl) (listed' := #[true, true, true, true, true, true, true, true, true, true, true, true, true, true, true, true, true, true, true, true, true, true, true, true, true, true, true, true, true, true, true, true, true, true, true, true, false]) rfl (fun K hK => ?_)
  replace hK := Lib.hid hK
  go_wp2_with fail
  refine hK.out _ _ ⟨fun _ => (Below.refl _ _).alloc (Nat.le_refl _) _, ?_⟩
  clear hK K b0
  have hbA := (Below.refl V5.heap.size V5).alloc (Nat.le_refl _) (.cells #[.int .i64 0, .int .u32 0, .int .u32 0, .int .u32 0, .int .u32 0, .int .i64 0, .bool false, .int .u32 0, .int .u16 0] 50)
  refine draw_eff (i := 36) rfl (by kernel_rfl) (listed' := #[true, true, true, true, true, true, true, true, true, true, true, true, true, true, true, true, true, true, true, true, true, true, true, true, true, true, true, true, true, true, true, true, true, true, true, true, true]) rfl (fun K hK => ?_)
  replace hK := Lib.hid hK
  go_wp2_with fail
  refine hK.out _ _ ⟨fun h => absurd (by decide) h, ?_⟩
  clear hK hbA hal
  refine draw_done (by kernel_rfl) ?_ _
  have h0b : 0 ≤ rd l 0 ∧ rd l 0 ≤ 255 := PRec.rd_bd l hB 0 (by have := hl.out; omega)
  have h2b : 0 ≤ rd l 2 ∧ rd l 2 ≤ 255 := PRec.rd_bd l hB 2 (by have := hl.out; omega)
  have h3b : 0 ≤ rd l 3 ∧ rd l 3 ≤ 255 := PRec.rd_bd l hB 3 (by have := hl.out; omega)
  have h20b : 0 ≤ rd l 20 ∧ rd l 20 ≤ 255 := PRec.rd_bd l hB 20 (by have := hl.out; omega)
  have v0 : wrap64 (rd l 0) = rd l 0 := PRec.w64 _ (Int.le_trans (by decide) h0b.1) (Int.le_trans h0b.2 (by decide))
  have v20 : wrap64 (rd l 20) = rd l 20 := PRec.w64 _ (Int.le_trans (by decide) h20b.1) (Int.le_trans h20b.2 (by decide))
  have v2 : IntKind.u16.wrap (IntKind.u16.wrap (IntKind.u16.wrap (rd l 2) * 256) + IntKind.u16.wrap (rd l 3)) = rd l 2 * 256 + rd l 3 := by
    have := h2b.1
    have := h2b.2
    have := h3b.1
    have := h3b.2
    simp only [IntKind.wrap_u16]
    omega
  rw [v0, v20, v2]
  clear h0b h2b h3b h20b v0 v20 v2
  generalize ev0 : rd l 0 = f0 at hright hby ⊢
  generalize ev1 : valB ((l.drop 4).take 4) = f1 at hright hby ⊢
  generalize ev2 : valB ((l.drop 8).take 4) = f2 at hright hby ⊢
  generalize ev3 : valB ((l.drop 12).take 4) = f3 at hright hby ⊢
  generalize ev4 : valB ((l.drop 16).take 4) = f4 at hright hby ⊢
  generalize ev5 : rd l 20 = f5 at hright hby ⊢
  generalize ev6 : (rd l 1 == 1) = f6 at hright hby ⊢
  generalize ev7 : valB ((l.drop 24).take 4) = f7 at hright hby ⊢
  generalize ev8 : rd l 2 * 256 + rd l 3 = f8 at hright hby ⊢
  clear ev0 ev1 ev2 ev3 ev4 ev5 ev6 ev7 ev8
  go_wp2_with fail
  have kR := Blk.new V5 50 #[.int .i64 f0, .int .u32 f1, .int .u32 f2, .int .u32 f3, .int .u32 f4, .int .i64 f5, .bool f6, .int .u32 f7, .int .u16 f8]
  have hbA := (Below.refl V5.heap.size V5).alloc (Nat.le_refl _) (.cells #[.int .i64 f0, .int .u32 f1, .int .u32 f2, .int .u32 f3, .int .u32 f4, .int .i64 f5, .bool f6, .int .u32 f7, .int .u16 f8] 50)
  replace k0 := k0.below' hbA
  replace hC0 := Kd.C_below hC0 hbA
  replace hb0 := below_step hb0 hb0.size hbA
  clear hbA hlg
  generalize (V5.alloc (.cells #[.int .i64 f0, .int .u32 f1, .int .u32 f2, .int .u32 f3, .int .u32 f4, .int .i64 f5, .bool f6, .int .u32 f7, .int .u16 f8] 50)) = W6 at kR k0 hC0 hb0 ⊢
  generalize V5.heap.size = g at kR ⊢
  have hlg := k0.lt
  have hlr := kR.lt
  have b0 := k0.cell 0
  simp only [List.getElem?_toArray, List.getElem?_cons_zero] at b0
  have r0 := kR.cell 0
  have r1 := kR.cell 1
  have r2 := kR.cell 2
  have r3 := kR.cell 3
  have r4 := kR.cell 4
  have r5 := kR.cell 5
  have r6 := kR.cell 6
  have r7 := kR.cell 7
  have r8 := kR.cell 8
  simp only [List.getElem?_toArray, List.getElem?_cons_zero, List.getElem?_cons_succ] at r0 r1 r2 r3 r4 r5 r6 r7 r8
  refine draw_start [] Later (by kernel_rfl) ?_
  refine draw_chunk (n := 103) (by kernel_rfl) (fun _ _ _ _ _ h => h) [0] [] _ #[true, false, false, false, false, false, false, false, false, false, false, false] (by kernel_rfl) 11 _ ?_ _ rfl ?_ ?_
  rotate_left
  · intro w' hw'
    have hc' : ∀ b o, b < W6.heap.size → w'.cell? ⟨b, o, none⟩ = W6.cell? ⟨b, o, none⟩ := (bcell hw').1
    refine ci_step (i := 0) (v := ?_) rfl (by kernel_rfl) ?_ ?_
    rotate_left
    · first | (go_simp; done) | (go_simp; with_reducible rfl)
    skip
    try simp only [Act.put, setIfInBounds_toArray, set_cons_zero, set_cons_succ]
    refine ci_end ?_
    rfl
  refine draw_eff (i := 1) rfl (by kernel_rfl) (listed' := #[true, true, false, false, false, false, false, false, false, false, false, false]) rfl (fun K hK => ?_)
  replace hK := Lib.hid hK
  go_wp2_with fail
  refine (PRec.wayfarerlaw05_Right.calls _ _ _ _ _ _ _ _ _ _ _ hright).mono ?_
  rintro e w3 ⟨rfl, hb3⟩
  go_wp2_with fail
  refine hK.out _ _ ⟨fun _ => hb3, ?_⟩
  clear hK b0 r0 r1 r2 r3 r4 r5 r6 r7 r8
  replace k0 := k0.drew.below' hb3
  replace kR := kR.drew.below' hb3
  replace hC0 := Kd.C_below (Kd.C_drew hC0) hb3
  replace hb0 := below_step (Below.drew hb0) hb0.size hb3
  clear hb3 hlg hlr
  have hlg := k0.lt
  have hlr := kR.lt
  have b0 := k0.cell 0
  simp only [List.getElem?_toArray, List.getElem?_cons_zero] at b0
  have r0 := kR.cell 0
  have r1 := kR.cell 1
  have r2 := kR.cell 2
  have r3 := kR.cell 3
  have r4 := kR.cell 4
  have r5 := kR.cell 5
  have r6 := kR.cell 6
  have r7 := kR.cell 7
  have r8 := kR.cell 8
  simp only [List.getElem?_toArray, List.getElem?_cons_zero, List.getElem?_cons_succ] at r0 r1 r2 r3 r4 r5 r6 r7 r8
  refine draw_chunk (n := 103) (by kernel_rfl) (fun _ _ _ _ _ h => h) [2, 3, 4, 5, 6, 7, 8, 9, 10, 11] [] _ #[true, true, true, true, true, true, true, true, true, true, true, true] (by kernel_rfl) 0 _ ?_ _ rfl ?_ ?_
  rotate_left
  · intro w' hw'
    have hc' : ∀ b o, b < w3.heap.size → w'.cell? ⟨b, o, none⟩ = w3.cell? ⟨b, o, none⟩ := (bcell hw').1
    refine ci_step (i := 2) (v := ?_) rfl (by kernel_rfl) ?_ ?_
    rotate_left
    · first | (go_simp; done) | (go_simp; with_reducible rfl)
    skip
    try simp only [Act.put, setIfInBounds_toArray, set_cons_zero, set_cons_succ]
    refine ci_step (i := 3) (v := ?_) rfl (by kernel_rfl) ?_ ?_
    rotate_left
    · first | (go_simp; done) | (go_simp; with_reducible rfl)
    skip
    try simp only [Act.put, setIfInBounds_toArray, set_cons_zero, set_cons_succ]
    refine ci_off (i := 4) rfl (by kernel_rfl) ?_
    try simp only [Act.put, setIfInBounds_toArray, set_cons_zero, set_cons_succ]
    refine ci_off (i := 5) rfl (by kernel_rfl) ?_
    try simp only [Act.put, setIfInBounds_toArray, set_cons_zero, set_cons_succ]
    refine ci_off (i := 6) rfl (by kernel_rfl) ?_
    try simp only [Act.put, setIfInBounds_toArray, set_cons_zero, set_cons_succ]
    refine ci_off (i := 7) rfl (by kernel_rfl) ?_
    try simp only [Act.put, setIfInBounds_toArray, set_cons_zero, set_cons_succ]
    refine ci_off (i := 8) rfl (by kernel_rfl) ?_
    try simp only [Act.put, setIfInBounds_toArray, set_cons_zero, set_cons_succ]
    refine ci_off (i := 9) rfl (by kernel_rfl) ?_
    try simp only [Act.put, setIfInBounds_toArray, set_cons_zero, set_cons_succ]
    refine ci_step (i := 10) (v := ?_) rfl (by kernel_rfl) ?_ ?_
    rotate_left
    · first | (go_simp; done) | (go_simp; with_reducible rfl)
    skip
    try simp only [Act.put, setIfInBounds_toArray, set_cons_zero, set_cons_succ]
    refine ci_step (i := 11) (v := ?_) rfl (by kernel_rfl) ?_ ?_
    rotate_left
    · first | (go_simp; done) | (go_simp; with_reducible rfl)
    skip
    try simp only [Act.put, setIfInBounds_toArray, set_cons_zero, set_cons_succ]
    refine ci_end ?_
    rfl
  refine draw_done (by kernel_rfl) ?_ _
  go_wp2
  go_ret
  exact ⟨by simp, hb0⟩
set_option maxHeartbeats 4000000 in
set_option maxRecDepth 100000 in
theorem law05_Reads_sother (l : List Int) (hB : Byte l) (A : Option Addr) (c : Nat) (w : World) (hrow : Row w 1 A l.length (u8s l)) (hC : Kd.C (Kd.int .u8) w A l.length l) (hc : l.length ≤ c) (hl : 44 ≤ l.length) (hl2 : l.length ≤ 100) (hno : PRec.ofM (sealB l) = PRec.outM PRec.noRec false) (hr : recRightB (PRec.fieldsM (sealB l)) = true) (ho : (PRec.fieldsM (sealB l)).ok) (hs : sector (PRec.fieldsM (sealB l)) ≠ sealB l) :
    Calls Try.prog 9 #[.slice A l.length c, .bool true] w fun e w' => e = .returned (.bool true) ∧ Below w.heap.size w w' := by
  have hBq := sealB_byte l hB
  have hcrc := sealB_crc l hB
  have hls := Lib.hid (sealB_len l hl)
  have hof : PRec.rec_Of.f 500 (sealB l) = some (PRec.outM PRec.noRec false) := by
    rw [← hno]
    exact PRec.Of_nice 0 (sealB l) hBq
  simp only [PRec.outM, PRec.noRec] at hof
  have hne := Lib.hid (mt (str_inj (sector (PRec.fieldsM (sealB l))) (sealB l) (PRec.sector_byte _ ho hr) hBq).1 hs)
  have k0 := Blk.new w 22 #[.slice A l.length c]
  have hb0 : Below w.heap.size w (w.alloc (.cells #[.slice A l.length c] 22)) := (Below.refl _ _).alloc (Nat.le_refl _) _
  have hC0 := Kd.C_below hC hb0
  go_enter Try.func9, Try.ntmps9
  go_wp2_with fail
  refine (PRec.wayfarerlaw05_head.calls 500 true _ (PRec.head_true 0)).mono ?_
  rintro e w1 ⟨rfl, hb1⟩
  replace k0 := k0.below' hb1
  replace hC0 := Kd.C_below hC0 hb1
  replace hb0 := below_step hb0 hb0.size hb1
  clear hb1 hC
  have hlg := k0.lt
  have b0 := k0.cell 0
  simp only [List.getElem?_toArray, List.getElem?_cons_zero] at b0
  have d : decide ((100 : Int) < (l.length : Int)) = false := decide_eq_false (by omega)
  have d4 : decide ((44 : Int) ≤ (l.length : Int)) = true := decide_eq_true (by omega)
  have hc44 : (44 : Int) ≤ (c : Int) := by omega
  go_wp2_with fail
  have hrw := Row.below hrow (hb0)
  have hr44 := Row.take8 hrw 44 hl
  obtain ⟨b, off, rfl, hlt, hcs⟩ := hr44.2.2 (by omega)
  clear hC0 hrow hrw
  refine draw_start [9] (Below (w1.heap.size)) (by kernel_rfl) ?_
  refine draw_chunk (n := 103) (by kernel_rfl) (fun _ _ _ _ _ h => h) [1, 2, 4, 5] [] _ #[false, true, true, false, true, true, false, false, false, false] (by kernel_rfl) 6 _ ?_ _ rfl ?_ ?_
  rotate_left
  · intro w' hw'
    have hc' : ∀ b o, b < (w1.heap.size) → w'.cell? ⟨b, o, none⟩ = w1.cell? ⟨b, o, none⟩ := fun b o h => hw'.cell (p := ⟨b, o, none⟩) h
    refine ci_step (i := 1) (v := ?_) rfl (by kernel_rfl) ?_ ?_
    rotate_left
    · first | (go_simp; done) | (go_simp; with_reducible rfl)
    skip
    try simp only [Act.put, setIfInBounds_toArray, set_cons_zero, set_cons_succ]
    refine ci_step (i := 2) (v := ?_) rfl (by kernel_rfl) ?_ ?_
    rotate_left
    · first | (go_simp; done) | (go_simp; with_reducible rfl)
    skip
    try simp only [Act.put, setIfInBounds_toArray, set_cons_zero, set_cons_succ]
    refine ci_step (i := 4) (v := ?_) rfl (by kernel_rfl) ?_ ?_
    rotate_left
    · first | (go_simp; done) | (go_simp; with_reducible rfl)
    skip
    try simp only [Act.put, setIfInBounds_toArray, set_cons_zero, set_cons_succ]
    refine ci_step (i := 5) (v := ?_) rfl (by kernel_rfl) ?_ ?_
    rotate_left
    · first | (go_simp; done) | (go_simp; with_reducible rfl)
    skip
    try simp only [Act.put, setIfInBounds_toArray, set_cons_zero, set_cons_succ]
    refine ci_end ?_
    rfl
  clear d d4 hc44
  have hb1z : w.heap.size < w1.heap.size := hlg
  refine draw_eff (i := 0) rfl (by kernel_rfl) (listed' := #[true, true, true, false, true, true, false, false, false, false]) rfl (fun K hK => ?_)
  replace hK := Lib.hid hK
  go_wp2_with fail
  refine hK.out _ _ ⟨fun _ => below_dd ((Below.refl _ _).alloc (Nat.le_refl _) _), ?_⟩
  clear hK K
  have hO : Own8 (w1.alloc (.cells #[] 5)).drew w1.heap.size (.slice (some ⟨w1.heap.size, 0, none⟩) 0 0) [] := Own8.new w1 w1.heap.size [] (Nat.le_refl _) (by simp)
  have hW : Below w1.heap.size w1 (w1.alloc (.cells #[] 5)).drew := Below.drew ((Below.refl _ _).alloc (Nat.le_refl _) _)
  have hl44 : (l.take 44).length = 44 := by simp; omega
  obtain ⟨v2, V2, hrun, hO2, hb2, -⟩ := app8 w1.heap.size _ [] (l.take 44) _ hO ⟨b, off, none⟩ 44 c hl44
    (fun j u hj => by
      have h1 := hcs j u hj
      rw [show (⟨b, off, none⟩ : Addr).add j = ⟨b, off + j, none⟩ by unfold Addr.add; split <;> simp_all]
      exact (Below.cell (p := ⟨b, off + j, none⟩) hW hlt).trans h1) (by simp) hW.size
  refine draw_eff (i := 3) rfl (by kernel_rfl) (listed' := #[true, true, true, true, true, true, false, false, false, false]) rfl (fun K hK => ?_)
  replace hK := Lib.hid hK
  go_wp2_with (at_builtin; refine wpList_app rfl _ _ _ _ rfl rfl rfl hrun ?_)
  refine hK.out _ _ ⟨fun _ => hb2, ?_⟩
  clear hK K hrun hO hcs
  try simp only [Act.put, setIfInBounds_toArray, set_cons_zero, set_cons_succ]
  replace hW := Below.trans hW hb2
  have hcall := law01_Of (l.take 44) (some ⟨b, off, none⟩) c V2 (by rw [hl44]; exact Row.below hr44 hW) (hB.take 44)
  rw [hl44] at hcall
  refine draw_eff (i := 6) rfl (by kernel_rfl) (listed' := #[true, true, true, true, true, true, true, false, false, false]) rfl (fun K hK => ?_)
  replace hK := Lib.hid hK
  go_wp2_with fail
  refine hcall.mono ?_
  rintro e w3 ⟨rfl, rfl⟩
  go_wp2_with fail
  refine hK.out _ _ ⟨fun _ => Below.refl _ _, ?_⟩
  clear hK K hcall hb2
  refine draw_eff (i := 7) rfl (by kernel_rfl) (listed' := #[true, true, true, true, true, true, true, true, false, false]) rfl (fun K hK => ?_)
  replace hK := Lib.hid hK
  go_wp2_with fail
  refine (law05_four (lawCrc (l.take 44)) _ hcrc).mono ?_
  rintro e w3 ⟨rfl, rfl⟩
  go_wp2_with fail
  refine hK.out _ _ ⟨fun _ => (Below.refl _ _).alloc hW.size _, ?_⟩
  clear hK K
  obtain ⟨v3, V3, hrun, hO3, hb3, -⟩ := app8 w1.heap.size _ _ (four (lawCrc (l.take 44))) _ (hO2.below ((Below.refl w3.heap.size w3).alloc (Nat.le_refl _) (.cells (u8s (four (lawCrc (l.take 44)))).toArray 5))) ⟨w3.heap.size, 0, none⟩ 4 4 rfl
    (fun j u hj => by
      have := (Blk.new w3 5 (u8s (four (lawCrc (l.take 44)))).toArray).cell j
      rw [show (⟨w3.heap.size, 0, none⟩ : Addr).add j = ⟨w3.heap.size, j, none⟩ by unfold Addr.add; split <;> simp_all, this]
      simpa using hj) (by simp; omega) (by have := hW.size; simp; omega)
  refine draw_eff (i := 8) rfl (by kernel_rfl) (listed' := #[true, true, true, true, true, true, true, true, true, false]) rfl (fun K hK => ?_)
  replace hK := Lib.hid hK
  go_wp2_with (at_builtin; refine wpList_app rfl _ _ _ _ rfl rfl rfl hrun ?_)
  refine hK.out _ _ ⟨fun _ => hb3, ?_⟩
  clear hK K hrun hO2
  try simp only [Act.put, setIfInBounds_toArray, set_cons_zero, set_cons_succ]
  replace hW := Below.trans (hW.alloc hW.size _) hb3
  obtain ⟨A3, c3, rfl, hc3, hr3, hA3⟩ := Own8.rowc (l := sealB l) hO3 (by simp [sealB, four_len]; omega)
  have hsz3 := hW.size
  replace k0 := k0.below' hW
  replace hb0 := below_step hb0 hb0.size hW
  have hlg := k0.lt
  have b0 := k0.cell 0
  simp only [List.getElem?_toArray, List.getElem?_cons_zero] at b0
  have pf0 := k0.frozen 0
  refine draw_eff (i := 9) rfl (by kernel_rfl) (listed' := #[true, true, true, true, true, true, true, true, true, true]) rfl (fun K hK => ?_)
  replace hK := Lib.hid hK
  go_wp2_with fail
  refine hK.out _ _ ⟨fun h => absurd (by decide) h, ?_⟩
  clear hK K hO3 hr44 b0 pf0 hcrc
  refine draw_done (by kernel_rfl) ?_ _
  have hr4 := hr3.other (a := ⟨w.heap.size, 0, none⟩) (fun b off e h => by have := hA3 b off e; have := hb1z; simp only at h; omega) (.slice A3 (sealB l).length c3)
  have hb4 := Below.setCell hb0 (p := ⟨w.heap.size, 0, none⟩) (Nat.le_refl _) (.slice A3 (sealB l).length c3)
  have k4 := k0.set 0 (.slice A3 (sealB l).length c3)
  simp only [List.setIfInBounds_toArray, List.set_cons_zero] at k4
  generalize V3.setCell ⟨w.heap.size, 0, none⟩ (.slice A3 (sealB l).length c3) = w0 at hr4 hb4 k4 ⊢
  clear hr3 hA3 hb0 k0 hlg hW hsz3
  have hrow := hr4
  have hb0 := hb4
  have k0 := k4
  clear hr4 hb4 k4 hB hc hl hl2 hl44
  have hc := hc3
  have hB := hBq
  clear hc3 hBq
  generalize sealB l = q at *
  rename List Int => l
  rename Option Addr => A
  rename Nat => c
  have hC0 := C_of_bytes hrow
  have hlg := k0.lt
  have b0 := k0.cell 0
  simp only [List.getElem?_toArray, List.getElem?_cons_zero] at b0
  go_wp2_with fail
  have d := True.intro
  have hl := hls
  clear hls
  refine (PRec.rec_Of.calls 500 A c l _ _ _ _ _ _ _ _ _ _ _ hC0 hc hof).mono ?_
  rintro e w2 ⟨rfl, hb1⟩
  replace k0 := k0.below' hb1
  replace hC0 := Kd.C_below hC0 hb1
  replace hb0 := below_step hb0 hb0.size hb1
  have dn : ((l.length : Int) == 48) = true := beq_iff_eq.2 (by have := hl.out; omega)
  have de : recEqB ⟨0, 0, 0, 0, 0, 0, false, 0, 0⟩ ⟨0, 0, 0, 0, 0, 0, false, 0, 0⟩ = true := by decide
  clear hb1 b0 hlg
  have hlg := k0.lt
  have b0 := k0.cell 0
  simp only [List.getElem?_toArray, List.getElem?_cons_zero] at b0
  go_wp2_with fail
  have hright : PRec.wayfarerlaw05_Right.f (rd l 0) (valB ((l.drop 4).take 4)) (valB ((l.drop 8).take 4)) (valB ((l.drop 12).take 4)) (valB ((l.drop 16).take 4)) (rd l 20) (rd l 1 == 1) (valB ((l.drop 24).take 4)) (rd l 2 * 256 + rd l 3) = some true := by
    rw [← hr]
    exact if_pos ((PRec.recOkB_iff _).2 ho)
  have hby : PRec.wayfarerlaw05_Bytes.f (0 + 500) (rd l 0) (valB ((l.drop 4).take 4)) (valB ((l.drop 8).take 4)) (valB ((l.drop 12).take 4)) (valB ((l.drop 16).take 4)) (rd l 20) (rd l 1 == 1) (valB ((l.drop 24).take 4)) (rd l 2 * 256 + rd l 3) = some (sector (PRec.fieldsM l)) := PRec.Bytes_nice 0 _ ho hr
  generalize sector (PRec.fieldsM l) = q at hby hne
  clear ho hr hs hno
  have kR := Blk.new w2 50 #[.int .i64 0, .int .u32 0, .int .u32 0, .int .u32 0, .int .u32 0, .int .i64 0, .bool false, .int .u32 0, .int .u16 0]
  have hbA := (Below.refl w2.heap.size w2).alloc (Nat.le_refl _) (.cells #[.int .i64 0, .int .u32 0, .int .u32 0, .int .u32 0, .int .u32 0, .int .i64 0, .bool false, .int .u32 0, .int .u16 0] 50)
  clear b0 kR
  replace k0 := k0.below' hbA
  replace hC0 := Kd.C_below hC0 hbA
  replace hb0 := below_step hb0 hb0.size hbA
  clear hbA hlg de dn d
  generalize (w2.alloc (.cells #[.int .i64 0, .int .u32 0, .int .u32 0, .int .u32 0, .int .u32 0, .int .i64 0, .bool false, .int .u32 0, .int .u16 0] 50)) = W2 at k0 hC0 hb0 ⊢
  have hal : ∀ oj : Oper, oj.op = .alloc 50 → AllocLike Try.prog oj := fun oj h => alloc_rec ⟨#[], []⟩ W2 oj h
  have hl48 := hl.out
  have x0 := Kd.at_int hC0 0 (by omega) (by omega)
  have x1 := Kd.at_int hC0 1 (by omega) (by omega)
  have x2 := Kd.at_int hC0 2 (by omega) (by omega)
  have x3 := Kd.at_int hC0 3 (by omega) (by omega)
  have x20 := Kd.at_int hC0 20 (by omega) (by omega)
  have hlb : ∃ ad, A = some ad ∧ ad.block < W2.heap.size ∧ W2.cell? ad = some (.int .u8 (rd l 0)) ∧ W2.cell? ⟨ad.block, ad.off + 1, none⟩ = some (.int .u8 (rd l 1)) ∧ W2.cell? ⟨ad.block, ad.off + 2, none⟩ = some (.int .u8 (rd l 2)) ∧ W2.cell? ⟨ad.block, ad.off + 3, none⟩ = some (.int .u8 (rd l 3)) ∧ W2.cell? ⟨ad.block, ad.off + 20, none⟩ = some (.int .u8 (rd l 20)) := by
    obtain ⟨ad, eA, x0⟩ := x0
    obtain ⟨ad1, eA1, x1⟩ := x1
    obtain ⟨ad2, eA2, x2⟩ := x2
    obtain ⟨ad3, eA3, x3⟩ := x3
    obtain ⟨ad4, eA4, x20⟩ := x20
    subst eA
    cases eA1
    cases eA2
    cases eA3
    cases eA4
    simp only [show (0 : Int).toNat = 0 from rfl, show (1 : Int).toNat = 1 from rfl, show (2 : Int).toNat = 2 from rfl, show (3 : Int).toNat = 3 from rfl, show (20 : Int).toNat = 20 from rfl, Go.Addr.add, Nat.reduceEqDiff, ↓reduceIte] at x0 x1 x2 x3 x20
    exact ⟨ad, rfl, World.block_lt_of_cell? _ _ x0, x0, x1, x2, x3, x20⟩
  clear x0 x1 x2 x3 x20
  obtain ⟨ad, rfl, hlb, x0, x1, x2, x3, x20⟩ := hlb
  have hlg := k0.lt
  have b0 := k0.cell 0
  simp only [List.getElem?_toArray, List.getElem?_cons_zero] at b0
  rw [hl48] at b0
  clear hl48
  refine draw_start [36] Later (by kernel_rfl) ?_
  refine draw_chunk (n := 103) (by kernel_rfl) (fun _ _ _ _ _ h => h) [0, 1, 2, 3, 4, 6, 8, 10, 12, 13, 14, 15, 17, 18, 19, 20, 21, 23, 24, 25, 26, 27, 28, 29, 30, 31, 32] [] _ #[true, true, true, true, true, false, true, false, true, false, true, false, true, true, true, true, false, true, true, true, true, true, false, true, true, true, true, true, true, true, true, true, true, false, false, false, false] (by kernel_rfl) 10 _ ?_ _ rfl ?_ ?_
  rotate_left
  · intro w' hw'
    have hc' : ∀ b o, b < W2.heap.size → w'.cell? ⟨b, o, none⟩ = W2.cell? ⟨b, o, none⟩ := (bcell hw').1
    have y0 := (Below.cell (p := ad) hw' hlb).trans x0; have y1 := (hc' ad.block (ad.off + 1) hlb).trans x1; have y2 := (hc' ad.block (ad.off + 2) hlb).trans x2; have y3 := (hc' ad.block (ad.off + 3) hlb).trans x3; have y20 := (hc' ad.block (ad.off + 20) hlb).trans x20; have z0 := (hc' w.heap.size 0 hlg).trans b0
    refine ci_step (i := 0) (v := ?_) rfl (by kernel_rfl) ?_ ?_
    rotate_left
    · first | (go_simp; done) | (go_simp; with_reducible rfl)
    skip
    try simp only [Act.put, setIfInBounds_toArray, set_cons_zero, set_cons_succ]
    refine ci_step (i := 1) (v := ?_) rfl (by kernel_rfl) ?_ ?_
    rotate_left
    · first | (go_simp; done) | (go_simp; with_reducible rfl)
    skip
    try simp only [Act.put, setIfInBounds_toArray, set_cons_zero, set_cons_succ]
    refine ci_step (i := 2) (v := ?_) rfl (by kernel_rfl) ?_ ?_
    rotate_left
    · first | (go_simp; done) | (go_simp; with_reducible rfl)
    skip
    try simp only [Act.put, setIfInBounds_toArray, set_cons_zero, set_cons_succ]
    refine ci_step (i := 3) (v := ?_) rfl (by kernel_rfl) ?_ ?_
    rotate_left
    · first | (go_simp; done) | (go_simp; with_reducible rfl)
    skip
    try simp only [Act.put, setIfInBounds_toArray, set_cons_zero, set_cons_succ]
    refine ci_step (i := 4) (v := ?_) rfl (by kernel_rfl) ?_ ?_
    rotate_left
    · first | (go_simp; done) | (go_simp; with_reducible rfl)
    skip
    try simp only [Act.put, setIfInBounds_toArray, set_cons_zero, set_cons_succ]
    refine ci_step (i := 6) (v := ?_) rfl (by kernel_rfl) ?_ ?_
    rotate_left
    · first | (go_simp; done) | (go_simp; with_reducible rfl)
    skip
    try simp only [Act.put, setIfInBounds_toArray, set_cons_zero, set_cons_succ]
    refine ci_step (i := 8) (v := ?_) rfl (by kernel_rfl) ?_ ?_
    rotate_left
    · first | (go_simp; done) | (go_simp; with_reducible rfl)
    skip
    try simp only [Act.put, setIfInBounds_toArray, set_cons_zero, set_cons_succ]
    refine ci_step (i := 10) (v := ?_) rfl (by kernel_rfl) ?_ ?_
    rotate_left
    · first | (go_simp; done) | (go_simp; with_reducible rfl)
    skip
    try simp only [Act.put, setIfInBounds_toArray, set_cons_zero, set_cons_succ]
    refine ci_step (i := 12) (v := ?_) rfl (by kernel_rfl) ?_ ?_
    rotate_left
    · first | (go_simp; done) | (go_simp; with_reducible rfl)
    skip
    try simp only [Act.put, setIfInBounds_toArray, set_cons_zero, set_cons_succ]
    refine ci_step (i := 13) (v := ?_) rfl (by kernel_rfl) ?_ ?_
    rotate_left
    · first | (go_simp; done) | (go_simp; with_reducible rfl)
    skip
    try simp only [Act.put, setIfInBounds_toArray, set_cons_zero, set_cons_succ]
    refine ci_step (i := 14) (v := ?_) rfl (by kernel_rfl) ?_ ?_
    rotate_left
    · first | (go_simp; done) | (go_simp; with_reducible rfl)
    skip
    try simp only [Act.put, setIfInBounds_toArray, set_cons_zero, set_cons_succ]
    refine ci_step (i := 15) (v := ?_) rfl (by kernel_rfl) ?_ ?_
    rotate_left
    · first | (go_simp; done) | (go_simp; with_reducible rfl)
    skip
    try simp only [Act.put, setIfInBounds_toArray, set_cons_zero, set_cons_succ]
    refine ci_step (i := 17) (v := ?_) rfl (by kernel_rfl) ?_ ?_
    rotate_left
    · first | (go_simp; done) | (go_simp; with_reducible rfl)
    skip
    try simp only [Act.put, setIfInBounds_toArray, set_cons_zero, set_cons_succ]
    refine ci_step (i := 18) (v := ?_) rfl (by kernel_rfl) ?_ ?_
    rotate_left
    · first | (go_simp; done) | (go_simp; with_reducible rfl)
    skip
    try simp only [Act.put, setIfInBounds_toArray, set_cons_zero, set_cons_succ]
    refine ci_step (i := 19) (v := ?_) rfl (by kernel_rfl) ?_ ?_
    rotate_left
    · first | (go_simp; done) | (go_simp; with_reducible rfl)
    skip
    try simp only [Act.put, setIfInBounds_toArray, set_cons_zero, set_cons_succ]
    refine ci_step (i := 20) (v := ?_) rfl (by kernel_rfl) ?_ ?_
    rotate_left
    · first | (go_simp; done) | (go_simp; with_reducible rfl)
    skip
    try simp only [Act.put, setIfInBounds_toArray, set_cons_zero, set_cons_succ]
    refine ci_step (i := 21) (v := ?_) rfl (by kernel_rfl) ?_ ?_
    rotate_left
    · first | (go_simp; done) | (go_simp; with_reducible rfl)
    skip
    try simp only [Act.put, setIfInBounds_toArray, set_cons_zero, set_cons_succ]
    refine ci_step (i := 23) (v := ?_) rfl (by kernel_rfl) ?_ ?_
    rotate_left
    · first | (go_simp; done) | (go_simp; with_reducible rfl)
    skip
    try simp only [Act.put, setIfInBounds_toArray, set_cons_zero, set_cons_succ]
    refine ci_step (i := 24) (v := ?_) rfl (by kernel_rfl) ?_ ?_
    rotate_left
    · first | (go_simp; done) | (go_simp; with_reducible rfl)
    skip
    try simp only [Act.put, setIfInBounds_toArray, set_cons_zero, set_cons_succ]
    refine ci_step (i := 25) (v := ?_) rfl (by kernel_rfl) ?_ ?_
    rotate_left
    · first | (go_simp; done) | (go_simp; with_reducible rfl)
    skip
    try simp only [Act.put, setIfInBounds_toArray, set_cons_zero, set_cons_succ]
    refine ci_step (i := 26) (v := ?_) rfl (by kernel_rfl) ?_ ?_
    rotate_left
    · first | (go_simp; done) | (go_simp; with_reducible rfl)
    skip
    try simp only [Act.put, setIfInBounds_toArray, set_cons_zero, set_cons_succ]
    refine ci_step (i := 27) (v := ?_) rfl (by kernel_rfl) ?_ ?_
    rotate_left
    · first | (go_simp; done) | (go_simp; with_reducible rfl)
    skip
    try simp only [Act.put, setIfInBounds_toArray, set_cons_zero, set_cons_succ]
    refine ci_step (i := 28) (v := ?_) rfl (by kernel_rfl) ?_ ?_
    rotate_left
    · first | (go_simp; done) | (go_simp; with_reducible rfl)
    skip
    try simp only [Act.put, setIfInBounds_toArray, set_cons_zero, set_cons_succ]
    refine ci_step (i := 29) (v := ?_) rfl (by kernel_rfl) ?_ ?_
    rotate_left
    · first | (go_simp; done) | (go_simp; with_reducible rfl)
    skip
    try simp only [Act.put, setIfInBounds_toArray, set_cons_zero, set_cons_succ]
    refine ci_step (i := 30) (v := ?_) rfl (by kernel_rfl) ?_ ?_
    rotate_left
    · first | (go_simp; done) | (go_simp; with_reducible rfl)
    skip
    try simp only [Act.put, setIfInBounds_toArray, set_cons_zero, set_cons_succ]
    refine ci_step (i := 31) (v := ?_) rfl (by kernel_rfl) ?_ ?_
    rotate_left
    · first | (go_simp; done) | (go_simp; with_reducible rfl)
    skip
    try simp only [Act.put, setIfInBounds_toArray, set_cons_zero, set_cons_succ]
    refine ci_step (i := 32) (v := ?_) rfl (by kernel_rfl) ?_ ?_
    rotate_left
    · first | (go_simp; done) | (go_simp; with_reducible rfl)
    skip
    try simp only [Act.put, setIfInBounds_toArray, set_cons_zero, set_cons_succ]
    refine ci_end ?_
    rfl
  clear hlb x0 x1 x2 x3 x20 b0
  replace k0 := k0.drew
  replace hC0 := Kd.C_drew hC0
  replace hb0 := Below.drew hb0
  generalize W2.drew = V0 at k0 hC0 hb0 ⊢
  have hlg := k0.lt
  have b0 := k0.cell 0
  simp only [List.getElem?_toArray, List.getElem?_cons_zero] at b0
  refine draw_call (i := 5) (v := .int .u32 (valB ((l.drop 4).take 4))) 50 rfl (by kernel_rfl) (by kernel_rfl) hal (fun w => Below.drew (Below.refl _ _)) (fun w o => (Below.refl _ _).alloc (Nat.le_refl _) _) (listed' := #[true, true, true, true, true, true, true, false, true, false, true, false, true, true, true, true, false, true, true, true, true, true, false, true, true, true, true, true, true, true, true, true, true, false, false, false, false]) rfl (by kernel_rfl) (fun w' hw' => ⟨33, #[.int .i64 4, .pointer (some ⟨w.heap.size, 0, none⟩)], ?_, recReads_n4 w.heap.size l (some ad) c w' hB (Kd.C_below hC0 hw') ((Below.cell (p := ⟨w.heap.size, 0, none⟩) hw' hlg).trans b0) hl.out⟩) (fun m => ?_)
  · first | (go_simp; done) | (go_simp; with_reducible rfl)
  try simp only [Act.put, setIfInBounds_toArray, set_cons_zero, set_cons_succ]
  have hW : Below (V0).heap.size V0 ((V0).drewN m) := below_drewN (Below.refl _ _) m
  clear hlg b0
  replace k0 := k0.below' hW
  replace hC0 := Kd.C_below hC0 hW
  replace hb0 := below_step hb0 hb0.size hW
  clear hW
  generalize (V0).drewN m = V1 at k0 hC0 hb0 ⊢
  clear m
  have hlg := k0.lt
  have b0 := k0.cell 0
  simp only [List.getElem?_toArray, List.getElem?_cons_zero] at b0
  refine draw_call (i := 7) (v := .int .u32 (valB ((l.drop 8).take 4))) 50 rfl (by kernel_rfl) (by kernel_rfl) hal (fun w => Below.drew (Below.refl _ _)) (fun w o => (Below.refl _ _).alloc (Nat.le_refl _) _) (listed' := #[true, true, true, true, true, true, true, true, true, false, true, false, true, true, true, true, false, true, true, true, true, true, false, true, true, true, true, true, true, true, true, true, true, false, false, false, false]) rfl (by kernel_rfl) (fun w' hw' => ⟨33, #[.int .i64 8, .pointer (some ⟨w.heap.size, 0, none⟩)], ?_, recReads_n8 w.heap.size l (some ad) c w' hB (Kd.C_below hC0 hw') ((Below.cell (p := ⟨w.heap.size, 0, none⟩) hw' hlg).trans b0) hl.out⟩) (fun m => ?_)
  · first | (go_simp; done) | (go_simp; with_reducible rfl)
  try simp only [Act.put, setIfInBounds_toArray, set_cons_zero, set_cons_succ]
  have hW : Below (V1).heap.size V1 ((V1).drewN m) := below_drewN (Below.refl _ _) m
  clear hlg b0
  replace k0 := k0.below' hW
  replace hC0 := Kd.C_below hC0 hW
  replace hb0 := below_step hb0 hb0.size hW
  clear hW
  generalize (V1).drewN m = V2 at k0 hC0 hb0 ⊢
  clear m
  have hlg := k0.lt
  have b0 := k0.cell 0
  simp only [List.getElem?_toArray, List.getElem?_cons_zero] at b0
  refine draw_call (i := 9) (v := .int .u32 (valB ((l.drop 12).take 4))) 50 rfl (by kernel_rfl) (by kernel_rfl) hal (fun w => Below.drew (Below.refl _ _)) (fun w o => (Below.refl _ _).alloc (Nat.le_refl _) _) (listed' := #[true, true, true, true, true, true, true, true, true, true, true, false, true, true, true, true, false, true, true, true, true, true, false, true, true, true, true, true, true, true, true, true, true, false, false, false, false]) rfl (by kernel_rfl) (fun w' hw' => ⟨33, #[.int .i64 12, .pointer (some ⟨w.heap.size, 0, none⟩)], ?_, recReads_n12 w.heap.size l (some ad) c w' hB (Kd.C_below hC0 hw') ((Below.cell (p := ⟨w.heap.size, 0, none⟩) hw' hlg).trans b0) hl.out⟩) (fun m => ?_)
  · first | (go_simp; done) | (go_simp; with_reducible rfl)
  try simp only [Act.put, setIfInBounds_toArray, set_cons_zero, set_cons_succ]
  have hW : Below (V2).heap.size V2 ((V2).drewN m) := below_drewN (Below.refl _ _) m
  clear hlg b0
  replace k0 := k0.below' hW
  replace hC0 := Kd.C_below hC0 hW
  replace hb0 := below_step hb0 hb0.size hW
  clear hW
  generalize (V2).drewN m = V3 at k0 hC0 hb0 ⊢
  clear m
  have hlg := k0.lt
  have b0 := k0.cell 0
  simp only [List.getElem?_toArray, List.getElem?_cons_zero] at b0
  refine draw_call (i := 11) (v := .int .u32 (valB ((l.drop 16).take 4))) 50 rfl (by kernel_rfl) (by kernel_rfl) hal (fun w => Below.drew (Below.refl _ _)) (fun w o => (Below.refl _ _).alloc (Nat.le_refl _) _) (listed' := #[true, true, true, true, true, true, true, true, true, true, true, true, true, true, true, true, false, true, true, true, true, true, false, true, true, true, true, true, true, true, true, true, true, false, false, false, false]) rfl (by kernel_rfl) (fun w' hw' => ⟨33, #[.int .i64 16, .pointer (some ⟨w.heap.size, 0, none⟩)], ?_, recReads_n16 w.heap.size l (some ad) c w' hB (Kd.C_below hC0 hw') ((Below.cell (p := ⟨w.heap.size, 0, none⟩) hw' hlg).trans b0) hl.out⟩) (fun m => ?_)
  · first | (go_simp; done) | (go_simp; with_reducible rfl)
  try simp only [Act.put, setIfInBounds_toArray, set_cons_zero, set_cons_succ]
  have hW : Below (V3).heap.size V3 ((V3).drewN m) := below_drewN (Below.refl _ _) m
  clear hlg b0
  replace k0 := k0.below' hW
  replace hC0 := Kd.C_below hC0 hW
  replace hb0 := below_step hb0 hb0.size hW
  clear hW
  generalize (V3).drewN m = V4 at k0 hC0 hb0 ⊢
  clear m
  have hlg := k0.lt
  have b0 := k0.cell 0
  simp only [List.getElem?_toArray, List.getElem?_cons_zero] at b0
  refine draw_chunk (n := 103) (by kernel_rfl) (fun _ _ _ _ _ h => h) [16] [] _ #[true, true, true, true, true, true, true, true, true, true, true, true, true, true, true, true, true, true, true, true, true, true, false, true, true, true, true, true, true, true, true, true, true, false, false, false, false] (by kernel_rfl) 5 _ ?_ _ rfl ?_ ?_
  rotate_left
  · intro w' hw'
    have hc' : ∀ b o, b < V4.heap.size → w'.cell? ⟨b, o, none⟩ = V4.cell? ⟨b, o, none⟩ := (bcell hw').1
    refine ci_step (i := 16) (v := ?_) rfl (by kernel_rfl) ?_ ?_
    rotate_left
    · first | (go_simp; done) | (go_simp; with_reducible rfl)
    skip
    try simp only [Act.put, setIfInBounds_toArray, set_cons_zero, set_cons_succ]
    refine ci_end ?_
    rfl
  refine draw_call (i := 22) (v := .int .u32 (valB ((l.drop 24).take 4))) 50 rfl (by kernel_rfl) (by kernel_rfl) hal (fun w => Below.drew (Below.refl _ _)) (fun w o => (Below.refl _ _).alloc (Nat.le_refl _) _) (listed' := #[true, true, true, true, true, true, true, true, true, true, true, true, true, true, true, true, true, true, true, true, true, true, true, true, true, true, true, true, true, true, true, true, true, false, false, false, false]) rfl (by kernel_rfl) (fun w' hw' => ⟨33, #[.int .i64 24, .pointer (some ⟨w.heap.size, 0, none⟩)], ?_, recReads_n24 w.heap.size l (some ad) c w' hB (Kd.C_below hC0 hw') ((Below.cell (p := ⟨w.heap.size, 0, none⟩) hw' hlg).trans b0) hl.out⟩) (fun m => ?_)
  · first | (go_simp; done) | (go_simp; with_reducible rfl)
  try simp only [Act.put, setIfInBounds_toArray, set_cons_zero, set_cons_succ]
  have hW : Below (V4).heap.size V4 ((V4).drewN m) := below_drewN (Below.refl _ _) m
  clear hlg b0
  replace k0 := k0.below' hW
  replace hC0 := Kd.C_below hC0 hW
  replace hb0 := below_step hb0 hb0.size hW
  clear hW
  generalize (V4).drewN m = V5 at k0 hC0 hb0 ⊢
  clear m
  have hlg := k0.lt
  have b0 := k0.cell 0
  simp only [List.getElem?_toArray, List.getElem?_cons_zero] at b0
  refine draw_chunk (n := 103) (by kernel_rfl) (fun _ _ _ _ _ h => h) [33, 34] [] _ #[true, true, true, true, true, true, true, true, true, true, true, true, true, true, true, true, true, true, true, true, true, true, true, true, true, true, true, true, true, true, true, true, true, true, true, false, false] (by kernel_rfl) 2 _ ?_ _ rfl ?_ ?_
  rotate_left
  · intro w' hw'
    have hc' : ∀ b o, b < V5.heap.size → w'.cell? ⟨b, o, none⟩ = V5.cell? ⟨b, o, none⟩ := (bcell hw').1
    refine ci_step (i := 33) (v := ?_) rfl (by kernel_rfl) ?_ ?_
    rotate_left
    · first | (go_simp; done) | (go_simp; with_reducible rfl)
    skip
    try simp only [Act.put, setIfInBounds_toArray, set_cons_zero, set_cons_succ]
    refine ci_step (i := 34) (v := ?_) rfl (by kernel_rfl) ?_ ?_
    rotate_left
    · first | (go_simp; done) | (go_simp; with_reducible rfl)
    skip
    try simp only [Act.put, setIfInBounds_toArray, set_cons_zero, set_cons_succ]
    refine ci_end ?_
    rfl
  refine draw_eff (i := 35) rfl (by kernel_rfl) (listed' := #[true, true, true, true, true, true, true, true, true, true, true, true, true, true, true, true, true, true, true, true, true, true, true, true, true, true, true, true, true, true, true, true, true, true, true, true, false]) rfl (fun K hK => ?_)
  replace hK := Lib.hid hK
  go_wp2_with fail
  refine hK.out _ _ ⟨fun _ => (Below.refl _ _).alloc (Nat.le_refl _) _, ?_⟩
  clear hK K b0
  have hbA := (Below.refl V5.heap.size V5).alloc (Nat.le_refl _) (.cells #[.int .i64 0, .int .u32 0, .int .u32 0, .int .u32 0, .int .u32 0, .int .i64 0, .bool false, .int .u32 0, .int .u16 0] 50)
  refine draw_eff (i := 36) rfl (by kernel_rfl) (listed' := #[true, true, true, true, true, true, true, true, true, true, true, true, true, true, true, true, true, true, true, true, true, true, true, true, true, true, true, true, true, true, true, true, true, true, true, true, true]) rfl (fun K hK => ?_)
  replace hK := Lib.hid hK
  go_wp2_with fail
  refine hK.out _ _ ⟨fun h => absurd (by decide) h, ?_⟩
  clear hK hbA hal
  refine draw_done (by kernel_rfl) ?_ _
  have h0b : 0 ≤ rd l 0 ∧ rd l 0 ≤ 255 := PRec.rd_bd l hB 0 (by have := hl.out; omega)
  have h2b : 0 ≤ rd l 2 ∧ rd l 2 ≤ 255 := PRec.rd_bd l hB 2 (by have := hl.out; omega)
  have h3b : 0 ≤ rd l 3 ∧ rd l 3 ≤ 255 := PRec.rd_bd l hB 3 (by have := hl.out; omega)
  have h20b : 0 ≤ rd l 20 ∧ rd l 20 ≤ 255 := PRec.rd_bd l hB 20 (by have := hl.out; omega)
  have v0 : wrap64 (rd l 0) = rd l 0 := PRec.w64 _ (Int.le_trans (by decide) h0b.1) (Int.le_trans h0b.2 (by decide))
  have v20 : wrap64 (rd l 20) = rd l 20 := PRec.w64 _ (Int.le_trans (by decide) h20b.1) (Int.le_trans h20b.2 (by decide))
  have v2 : IntKind.u16.wrap (IntKind.u16.wrap (IntKind.u16.wrap (rd l 2) * 256) + IntKind.u16.wrap (rd l 3)) = rd l 2 * 256 + rd l 3 := by
    have := h2b.1
    have := h2b.2
    have := h3b.1
    have := h3b.2
    simp only [IntKind.wrap_u16]
    omega
  rw [v0, v20, v2]
  clear h0b h2b h3b h20b v0 v20 v2
  generalize ev0 : rd l 0 = f0 at hright hby ⊢
  generalize ev1 : valB ((l.drop 4).take 4) = f1 at hright hby ⊢
  generalize ev2 : valB ((l.drop 8).take 4) = f2 at hright hby ⊢
  generalize ev3 : valB ((l.drop 12).take 4) = f3 at hright hby ⊢
  generalize ev4 : valB ((l.drop 16).take 4) = f4 at hright hby ⊢
  generalize ev5 : rd l 20 = f5 at hright hby ⊢
  generalize ev6 : (rd l 1 == 1) = f6 at hright hby ⊢
  generalize ev7 : valB ((l.drop 24).take 4) = f7 at hright hby ⊢
  generalize ev8 : rd l 2 * 256 + rd l 3 = f8 at hright hby ⊢
  clear ev0 ev1 ev2 ev3 ev4 ev5 ev6 ev7 ev8
  go_wp2_with fail
  have kR := Blk.new V5 50 #[.int .i64 f0, .int .u32 f1, .int .u32 f2, .int .u32 f3, .int .u32 f4, .int .i64 f5, .bool f6, .int .u32 f7, .int .u16 f8]
  have hbA := (Below.refl V5.heap.size V5).alloc (Nat.le_refl _) (.cells #[.int .i64 f0, .int .u32 f1, .int .u32 f2, .int .u32 f3, .int .u32 f4, .int .i64 f5, .bool f6, .int .u32 f7, .int .u16 f8] 50)
  replace k0 := k0.below' hbA
  replace hC0 := Kd.C_below hC0 hbA
  replace hb0 := below_step hb0 hb0.size hbA
  clear hbA hlg
  generalize (V5.alloc (.cells #[.int .i64 f0, .int .u32 f1, .int .u32 f2, .int .u32 f3, .int .u32 f4, .int .i64 f5, .bool f6, .int .u32 f7, .int .u16 f8] 50)) = W6 at kR k0 hC0 hb0 ⊢
  generalize V5.heap.size = g at kR ⊢
  have hlg := k0.lt
  have hlr := kR.lt
  have b0 := k0.cell 0
  simp only [List.getElem?_toArray, List.getElem?_cons_zero] at b0
  have r0 := kR.cell 0
  have r1 := kR.cell 1
  have r2 := kR.cell 2
  have r3 := kR.cell 3
  have r4 := kR.cell 4
  have r5 := kR.cell 5
  have r6 := kR.cell 6
  have r7 := kR.cell 7
  have r8 := kR.cell 8
  simp only [List.getElem?_toArray, List.getElem?_cons_zero, List.getElem?_cons_succ] at r0 r1 r2 r3 r4 r5 r6 r7 r8
  refine draw_start [] Later (by kernel_rfl) ?_
  refine draw_chunk (n := 103) (by kernel_rfl) (fun _ _ _ _ _ h => h) [0] [] _ #[true, false, false, false, false, false, false, false, false, false, false, false] (by kernel_rfl) 11 _ ?_ _ rfl ?_ ?_
  rotate_left
  · intro w' hw'
    have hc' : ∀ b o, b < W6.heap.size → w'.cell? ⟨b, o, none⟩ = W6.cell? ⟨b, o, none⟩ := (bcell hw').1
    refine ci_step (i := 0) (v := ?_) rfl (by kernel_rfl) ?_ ?_
    rotate_left
    · first | (go_simp; done) | (go_simp; with_reducible rfl)
    skip
    try simp only [Act.put, setIfInBounds_toArray, set_cons_zero, set_cons_succ]
    refine ci_end ?_
    rfl
  refine draw_eff (i := 1) rfl (by kernel_rfl) (listed' := #[true, true, false, false, false, false, false, false, false, false, false, false]) rfl (fun K hK => ?_)
  replace hK := Lib.hid hK
  go_wp2_with fail
  refine (PRec.wayfarerlaw05_Right.calls _ _ _ _ _ _ _ _ _ _ _ hright).mono ?_
  rintro e w3 ⟨rfl, hb3⟩
  go_wp2_with fail
  refine hK.out _ _ ⟨fun _ => hb3, ?_⟩
  clear hK b0 r0 r1 r2 r3 r4 r5 r6 r7 r8
  replace k0 := k0.drew.below' hb3
  replace kR := kR.drew.below' hb3
  replace hC0 := Kd.C_below (Kd.C_drew hC0) hb3
  replace hb0 := below_step (Below.drew hb0) hb0.size hb3
  clear hb3 hlg hlr
  have hlg := k0.lt
  have hlr := kR.lt
  have b0 := k0.cell 0
  simp only [List.getElem?_toArray, List.getElem?_cons_zero] at b0
  have r0 := kR.cell 0
  have r1 := kR.cell 1
  have r2 := kR.cell 2
  have r3 := kR.cell 3
  have r4 := kR.cell 4
  have r5 := kR.cell 5
  have r6 := kR.cell 6
  have r7 := kR.cell 7
  have r8 := kR.cell 8
  simp only [List.getElem?_toArray, List.getElem?_cons_zero, List.getElem?_cons_succ] at r0 r1 r2 r3 r4 r5 r6 r7 r8
  refine draw_chunk (n := 103) (by kernel_rfl) (fun _ _ _ _ _ h => h) [2, 3, 4, 7, 8] [] _ #[true, true, true, true, true, false, false, true, true, false, false, false] (by kernel_rfl) 5 _ ?_ _ rfl ?_ ?_
  rotate_left
  · intro w' hw'
    have hc' : ∀ b o, b < w3.heap.size → w'.cell? ⟨b, o, none⟩ = w3.cell? ⟨b, o, none⟩ := (bcell hw').1
    have hcv := Kd.C_string (P := Try.prog) Try.underlying22 Try.underlying5 Try.underlying9 (n := l.length) (c := c) (Kd.C_below hC0 hw')
    refine ci_step (i := 2) (v := ?_) rfl (by kernel_rfl) ?_ ?_
    rotate_left
    · first | (go_simp; done) | (go_simp; with_reducible rfl)
    skip
    try simp only [Act.put, setIfInBounds_toArray, set_cons_zero, set_cons_succ]
    refine ci_step (i := 3) (v := ?_) rfl (by kernel_rfl) ?_ ?_
    rotate_left
    · first | (go_simp; done) | (go_simp; with_reducible rfl)
    skip
    try simp only [Act.put, setIfInBounds_toArray, set_cons_zero, set_cons_succ]
    refine ci_step (i := 4) (v := ?_) rfl (by kernel_rfl) ?_ ?_
    rotate_left
    · first | (go_simp; done) | (go_simp; with_reducible rfl)
    skip
    try simp only [Act.put, setIfInBounds_toArray, set_cons_zero, set_cons_succ]
    refine ci_step (i := 7) (v := ?_) rfl (by kernel_rfl) ?_ ?_
    rotate_left
    · first | (go_simp; done) | (go_simp; with_reducible rfl)
    skip
    try simp only [Act.put, setIfInBounds_toArray, set_cons_zero, set_cons_succ]
    refine ci_step (i := 8) (v := ?_) rfl (by kernel_rfl) ?_ ?_
    rotate_left
    · first | (go_simp; done) | (go_simp; with_reducible rfl)
    skip
    try simp only [Act.put, setIfInBounds_toArray, set_cons_zero, set_cons_succ]
    refine ci_end ?_
    rfl
  refine draw_eff (i := 5) rfl (by kernel_rfl) (listed' := #[true, true, true, true, true, true, false, true, true, false, false, false]) rfl (fun K hK => ?_)
  replace hK := Lib.hid hK
  go_wp2_with fail
  refine (PRec.wayfarerlaw05_Bytes.calls _ _ _ _ _ _ _ _ _ _ _ _ hby).mono ?_
  rintro e w4 ⟨vB, rfl, hR4, hb3⟩
  go_wp2_with fail
  refine hK.out _ _ ⟨fun _ => hb3, ?_⟩
  clear hK b0 r0 r1 r2 r3 r4 r5 r6 r7 r8
  replace hb0 := below_step hb0 hb0.size hb3
  clear hb3 hlg hlr
  refine draw_chunk (n := 103) (by kernel_rfl) (fun _ _ _ _ _ h => h) [6, 9, 10, 11] [] _ #[true, true, true, true, true, true, true, true, true, true, true, true] (by kernel_rfl) 0 _ ?_ _ rfl ?_ ?_
  rotate_left
  · intro w' hw'
    have hc' : ∀ b o, b < w4.heap.size → w'.cell? ⟨b, o, none⟩ = w4.cell? ⟨b, o, none⟩ := (bcell hw').1
    have hcv := own_string (P := Try.prog) Try.underlying22 Try.underlying5 Try.underlying9 (Kd.own_of_R (Kd.R_below hR4 hw'))
    refine ci_step (i := 6) (v := ?_) rfl (by kernel_rfl) ?_ ?_
    rotate_left
    · first | (go_simp; done) | (go_simp; with_reducible rfl)
    skip
    try simp only [Act.put, setIfInBounds_toArray, set_cons_zero, set_cons_succ]
    refine ci_step (i := 9) (v := ?_) rfl (by kernel_rfl) ?_ ?_
    rotate_left
    · first | (go_simp; done) | (go_simp; with_reducible rfl)
    skip
    try simp only [Act.put, setIfInBounds_toArray, set_cons_zero, set_cons_succ]
    refine ci_step (i := 10) (v := ?_) rfl (by kernel_rfl) ?_ ?_
    rotate_left
    · first | (go_simp; done) | (go_simp; with_reducible rfl)
    skip
    try simp only [Act.put, setIfInBounds_toArray, set_cons_zero, set_cons_succ]
    refine ci_step (i := 11) (v := ?_) rfl (by kernel_rfl) ?_ ?_
    rotate_left
    · first | (go_simp; done) | (go_simp; with_reducible rfl)
    skip
    try simp only [Act.put, setIfInBounds_toArray, set_cons_zero, set_cons_succ]
    refine ci_end ?_
    rfl
  refine draw_done (by kernel_rfl) ?_ _
  go_wp2
  go_ret
  have := hne.out
  exact ⟨by simp_all, hb0⟩
end Go.Proofs.Ytgmdjhokcipajaa
end
section
set_option maxRecDepth 100000
set_option linter.unusedVariables false
namespace Go.Proofs.Ytgmdjhokcipajaa
open Go.RowKit Go.ChangeShapes Go.WideShapes
open Go.Proofs.YtgmdjhokcipajaaW.PrintWords (Kd rd)
/-! The law RecReads: every row of bytes, sealed or not. -/
theorem ofM_cases (l : List Int) (hB : Byte l) : (∃ r : Rec, r.ok ∧ recRightB r = true ∧ sector r = l) ∨ YtgmdjhokcipajaaQ.PRec.ofM l = YtgmdjhokcipajaaQ.PRec.outM YtgmdjhokcipajaaQ.PRec.noRec false := by
  unfold YtgmdjhokcipajaaQ.PRec.ofM
  split
  · rename_i h
    exact .inl ⟨_, YtgmdjhokcipajaaQ.PRec.fields_ok l hB h.1, h.2.2.1, h.2.2.2⟩
  · exact .inr rfl
theorem ofM_other (l : List Int) (hB : Byte l) (hl : l.length = 48) (hno : YtgmdjhokcipajaaQ.PRec.ofM l = YtgmdjhokcipajaaQ.PRec.outM YtgmdjhokcipajaaQ.PRec.noRec false) (hr : recRightB (YtgmdjhokcipajaaQ.PRec.fieldsM l) = true) : sector (YtgmdjhokcipajaaQ.PRec.fieldsM l) ≠ l := by
  intro hs
  have h := YtgmdjhokcipajaaQ.PRec.of_sector _ (YtgmdjhokcipajaaQ.PRec.fields_ok l hB hl) hr
  rw [hs, hno] at h
  simp [YtgmdjhokcipajaaQ.PRec.outM] at h
theorem law05_Reads (l : List Int) (hB : Byte l) (A : Option Addr) (c : Nat) (sealed : Bool) (w : World) (hrow : Row w 1 A l.length (u8s l)) (hc : l.length ≤ c) :
    Calls Try.prog 9 #[.slice A l.length c, .bool sealed] w fun e w' => e = .returned (.bool true) ∧ Below w.heap.size w w' := by
  have hC : Kd.C (Kd.int .u8) w A l.length l := C_of_bytes hrow
  rcases Nat.lt_or_ge 100 l.length with hlong | hlen
  · exact law05_Reads_long l A c sealed w hC hlong
  cases sealed with
  | false =>
    rcases ofM_cases l hB with ⟨r, ho, hr, hs⟩ | hno
    · exact law05_Reads_ok l hB A c w hC hc hlen r ho hr hs
    by_cases hn : l.length = 48
    · have ho := YtgmdjhokcipajaaQ.PRec.fields_ok l hB hn
      cases hr : recRightB (YtgmdjhokcipajaaQ.PRec.fieldsM l) with
      | false => exact law05_Reads_not l hB A c w hC hc hn hno hr ho
      | true => exact law05_Reads_other l hB A c w hC hc hn hno hr ho (ofM_other l hB hn hno hr)
    · exact law05_Reads_no l hB A c w hC hc hlen hn
  | true =>
    rcases Nat.lt_or_ge l.length 44 with hs | hs
    · exact law05_Reads_short l hB A c w hC hc hs
    have hBq := sealB_byte l hB
    have hn := sealB_len l hs
    rcases ofM_cases (sealB l) hBq with ⟨r, ho, hr, he⟩ | hno
    · exact law05_Reads_sok l hB A c w hrow hC hc hs hlen r ho hr he
    have ho := YtgmdjhokcipajaaQ.PRec.fields_ok (sealB l) hBq hn
    cases hr : recRightB (YtgmdjhokcipajaaQ.PRec.fieldsM (sealB l)) with
    | false => exact law05_Reads_snot l hB A c w hrow hC hc hs hlen hno hr ho
    | true => exact law05_Reads_sother l hB A c w hrow hC hc hs hlen hno hr ho (ofM_other _ hBq hn hno hr)
theorem RecReads_walk (W : World) {b0 : Nat} {v0 v1 : Value} (a0 : Value.okWide Try.prog W .any b0 22 v0) (h0 : Opens Try.prog W 22 v0) (a1 : Value.okWide Try.prog W .any b0 4 v1) (h1 : Opens Try.prog W 4 v1) :
    Calls Try.prog 9 #[v0, v1] W fun e W' => e = .returned (.bool true) ∧ Below W.heap.size W W' := by
  have l2 := fun A n c (e : v0 = .slice A n c) => opens_le Try.underlying22 (e ▸ h0)
  obtain ⟨P, A1, c1, rfl, r1, hP⟩ := Opens.u8s a0 h0
  obtain ⟨b, rfl⟩ := okWide_bool Try.underlying4 a1
  exact law05_Reads P hP A1 c1 b W r1 (l2 _ _ _ rfl)
end Go.Proofs.Ytgmdjhokcipajaa
end
