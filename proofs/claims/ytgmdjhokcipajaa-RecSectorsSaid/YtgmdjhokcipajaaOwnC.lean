/- Texts of this proof, one behind the other: lemmas for the row at the claim's end. No condition of their own. -/
import Derived.Test.YtgmdjhokcipajaaPRec4
import Derived.Test.YtgmdjhokcipajaaOwnB
import Derived.Test.YtgmdjhokcipajaaPRec5
section
set_option linter.unusedVariables false
set_option linter.unusedSimpArgs false
namespace Go.Proofs.YtgmdjhokcipajaaQ.PRec
open Go.RowKit Go.Proofs.YtgmdjhokcipajaaW.PrintWords Go.Proofs.YtgmdjhokcipajaaW.PrintMore
open Go.Proofs.Ytgmdjhokcipajaa (four valB rightB Byte byteB byteB_iff four_len Rec sector head44 recRightB crc crcByte crcBits crcStep lawCrc lawBits lawBit crc_lt crc_eq onI right_bd head44_byte cat4_four)
/-! The sums and what a sector says, in plain lists. -/
theorem w64 (x : Int) (h0 : -9223372036854775808 ≤ x) (h1 : x ≤ 9223372036854775807) : wrap64 x = x := by unfold wrap64; omega
theorem crcBits_front (n : Nat) (s : Int) : crcBits n (crcStep s) = crcBits (n + 1) s := by
  induction n with
  | zero => rfl
  | succ n ih => simp only [crcBits] at ih ⊢; rw [ih]
theorem sum_l1 (K : Nat) (l : List Int) (L i : Int) : ∀ (n : Nat) (s : Int), n ≤ 8 → sum_Of.l1 (K + n + 1) s l L i (8 - (n : Int)) = sum_Of.l0 K (crcBits n s) l L (wrap64 (i + 1))
  | 0, s, _ => by simp [sum_Of.l1, crcBits]
  | n + 1, s, hn => by
    have ih := sum_l1 K l L i n (crcStep s) (by omega)
    rw [crcBits_front] at ih
    rw [← ih, show K + (n + 1) + 1 = (K + n + 1) + 1 by omega]
    rw [sum_Of.l1, if_pos (by omega), show wrap64 (8 - ((n + 1 : Nat) : Int) + 1) = 8 - (n : Int) by rw [w64 _ (by omega) (by omega)]; omega]
    unfold crcStep
    split <;> rfl
theorem sum_l0 (K : Nat) (l : List Int) (hb : Byte l) (hl : l.length ≤ 1000000) : ∀ (n j : Nat) (s : Int), j + n = l.length → sum_Of.l0 (K + 10 * n + 1) s l (l.length : Int) (j : Int) = some ((l.drop j).foldl crcByte s)
  | 0, j, s, h => by
    obtain rfl : j = l.length := by omega
    simp [sum_Of.l0]
  | n + 1, j, s, h => by
    have hj : j < l.length := by omega
    have ih := sum_l0 K l hb hl n (j + 1) (crcByte s l[j]) (by omega)
    obtain ⟨c0, c1⟩ := hb l[j] (List.getElem_mem hj)
    rw [List.drop_eq_getElem_cons hj, List.foldl_cons, ← ih]
    rw [show K + 10 * (n + 1) + 1 = (K + 10 * n + 1 + 8 + 1) + 1 by omega, sum_Of.l0, if_pos (by omega), if_pos (by omega), if_pos (by omega)]
    have := sum_l1 (K + 10 * n + 1) l (l.length : Int) (j : Int) 8 (Go.bits .xor .u32 s ((((rd l (j : Int)) % 4294967296) * 16777216) % 4294967296)) (by omega)
    rw [show (8 : Int) - ((8 : Nat) : Int) = 0 by rfl] at this
    rw [this, w64 _ (by omega) (by omega)]
    have hr : rd l (j : Int) = l[j] := by simp [rd, hj]
    rw [hr, show l[j] % 4294967296 = l[j] by omega]
    rfl
theorem sum_nice (k : Nat) (l : List Int) (hb : Byte l) (hl : l.length ≤ 1000000) (hk : 10 * l.length + 1 ≤ k) : sum_Of.f k l = some (crc l) := by
  obtain ⟨K, rfl⟩ : ∃ K, k = K + 10 * l.length + 1 := ⟨k - (10 * l.length + 1), by omega⟩
  have := sum_l0 K l hb hl l.length 0 4294967295 (by omega)
  rw [List.drop_zero] at this
  exact this
theorem law_step (k : Nat) (s c : Int) (i : Nat) (hi : i ≤ 7) (l : List Int) (L x : Int) : wayfarerlaw01_Of.l1 (k + 1) s c (i : Int) l L x = wayfarerlaw01_Of.l1 k (lawBit c s i) c ((i : Int) - 1) l L x := by
  rw [wayfarerlaw01_Of.l1, if_pos (by omega)]
  have hw : IntKind.u64.wrap (i : Int) = (i : Int) := by rw [IntKind.wrap_u64]; omega
  rw [hw, if_pos (by omega), w64 _ (by omega) (by omega)]
  have hs : shr .u8 c (i : Int) = c / 2 ^ i := by unfold shr; rw [Int.toNat_natCast, Nat.min_eq_left (show i ≤ IntKind.u8.bits from (show i ≤ 8 by omega))]
  rw [hs]
  unfold lawBit
  simp only [ge_iff_le]
  split <;> rfl
theorem law_l1 (K : Nat) (c : Int) (l : List Int) (L x s : Int) : wayfarerlaw01_Of.l1 (K + 9) s c 7 l L x = wayfarerlaw01_Of.l0 K (lawBits c s 8) l L (wrap64 (x + 1)) := by
  have st := fun k s i hi => law_step k s c i hi l L x
  rw [show (7 : Int) = ((7 : Nat) : Int) from rfl, st (K + 8) _ 7 (by omega), show ((7 : Nat) : Int) - 1 = ((6 : Nat) : Int) from rfl, st (K + 7) _ 6 (by omega), show ((6 : Nat) : Int) - 1 = ((5 : Nat) : Int) from rfl, st (K + 6) _ 5 (by omega),
    show ((5 : Nat) : Int) - 1 = ((4 : Nat) : Int) from rfl, st (K + 5) _ 4 (by omega), show ((4 : Nat) : Int) - 1 = ((3 : Nat) : Int) from rfl, st (K + 4) _ 3 (by omega), show ((3 : Nat) : Int) - 1 = ((2 : Nat) : Int) from rfl, st (K + 3) _ 2 (by omega),
    show ((2 : Nat) : Int) - 1 = ((1 : Nat) : Int) from rfl, st (K + 2) _ 1 (by omega), show ((1 : Nat) : Int) - 1 = ((0 : Nat) : Int) from rfl, st (K + 1) _ 0 (by omega)]
  rw [wayfarerlaw01_Of.l1, if_neg (by decide)]
  rfl
theorem law_l0 (K : Nat) (l : List Int) (hl : l.length ≤ 1000000) : ∀ (n j : Nat) (s : Int), j + n = l.length → wayfarerlaw01_Of.l0 (K + 10 * n + 1) s l (l.length : Int) (j : Int) = some ((l.drop j).foldl (fun s c => lawBits c s 8) s)
  | 0, j, s, h => by
    obtain rfl : j = l.length := by omega
    simp [wayfarerlaw01_Of.l0]
  | n + 1, j, s, h => by
    have hj : j < l.length := by omega
    have ih := law_l0 K l hl n (j + 1) (lawBits l[j] s 8) (by omega)
    rw [List.drop_eq_getElem_cons hj, List.foldl_cons, ← ih]
    rw [show K + 10 * (n + 1) + 1 = (K + 10 * n + 1 + 9) + 1 by omega, wayfarerlaw01_Of.l0, if_pos (by omega), if_pos (by omega), if_pos (by omega), law_l1, w64 _ (by omega) (by omega)]
    have hr : rd l (j : Int) = l[j] := by simp [rd, hj]
    rw [hr]
    rfl
theorem law_nice (k : Nat) (l : List Int) (hl : l.length ≤ 1000000) (hk : 10 * l.length + 1 ≤ k) : wayfarerlaw01_Of.f k l = some (lawCrc l) := by
  obtain ⟨K, rfl⟩ : ∃ K, k = K + 10 * l.length + 1 := ⟨k - (10 * l.length + 1), by omega⟩
  have := law_l0 K l hl l.length 0 4294967295 (by omega)
  rw [List.drop_zero] at this
  exact this
end Go.Proofs.YtgmdjhokcipajaaQ.PRec
end
section
set_option linter.unusedVariables false
set_option linter.unusedSimpArgs false
namespace Go.Proofs.YtgmdjhokcipajaaQ.PRec
open Go.RowKit Go.Proofs.YtgmdjhokcipajaaW.PrintWords Go.Proofs.YtgmdjhokcipajaaW.PrintMore
open Go.Proofs.Ytgmdjhokcipajaa (four valB rightB Byte byteB byteB_iff four_len Rec sector head44 recRightB crc crcByte crcBits crcStep lawCrc lawBits lawBit crc_lt crc_eq onI right_bd head44_byte cat4_four valB_bd4 or_byte16 four_byte str_inj)
theorem rd_at (l : List Int) (j : Nat) (h : j < l.length) : rd l (j : Int) = l[j] := by simp [rd, h]
theorem rd_bd (l : List Int) (hb : Byte l) (j : Nat) (h : j < l.length) : 0 ≤ rd l (j : Int) ∧ rd l (j : Int) ≤ 255 := by rw [rd_at l j h]; exact hb _ (List.getElem_mem h)
theorem get_nice (l : List Int) (hb : Byte l) (h : 4 ≤ l.length) : rec_get.f l = some (valB (l.take 4)) := by
  unfold rec_get.f
  rw [if_pos ⟨h, (byteB_iff _).2 (hb.take 4)⟩]
/-- What a sector's bytes say. -/
def fieldsM (l : List Int) : Rec := ⟨rd l 0, valB ((l.drop 4).take 4), valB ((l.drop 8).take 4), valB ((l.drop 12).take 4), valB ((l.drop 16).take 4), rd l 20, rd l 1 == 1, valB ((l.drop 24).take 4), rd l 2 * 256 + rd l 3⟩
theorem val_at (l : List Int) (hb : Byte l) (i : Nat) : 0 ≤ valB ((l.drop i).take 4) ∧ valB ((l.drop i).take 4) ≤ 4294967295 := valB_bd4 _ ((hb.drop i).take 4) (by simp; omega)
theorem fields_ok (l : List Int) (hb : Byte l) (hl : l.length = 48) : (fieldsM l).ok := by
  have h0 := rd_bd l hb 0 (by omega)
  have h20 := rd_bd l hb 20 (by omega)
  have h2 := rd_bd l hb 2 (by omega)
  have h3 := rd_bd l hb 3 (by omega)
  have a := val_at l hb
  refine ⟨?_, a 4, a 8, a 12, a 16, ?_, a 24, ?_⟩
  · show -9223372036854775808 ≤ rd l ((0 : Nat) : Int) ∧ rd l ((0 : Nat) : Int) ≤ 9223372036854775807
    omega
  · show -9223372036854775808 ≤ rd l ((20 : Nat) : Int) ∧ rd l ((20 : Nat) : Int) ≤ 9223372036854775807
    omega
  · show 0 ≤ rd l ((2 : Nat) : Int) * 256 + rd l ((3 : Nat) : Int) ∧ rd l ((2 : Nat) : Int) * 256 + rd l ((3 : Nat) : Int) ≤ 65535
    omega
theorem sector_byte (r : Rec) (ho : r.ok) (h : recRightB r = true) : Byte (sector r) := (head44_byte r ho h).app (four_byte _)
def outM (r : Rec) (b : Bool) : Int × Int × Int × Int × Int × Int × Bool × Int × Int × Bool := (r.kind, r.gen, r.lsn, r.id, r.a, r.l, r.on, r.s, r.m, b)
def noRec : Rec := ⟨0, 0, 0, 0, 0, 0, false, 0, 0⟩
def ofM (l : List Int) : Int × Int × Int × Int × Int × Int × Bool × Int × Int × Bool :=
  if l.length = 48 ∧ valB ((l.drop 44).take 4) = crc (l.take 44) ∧ recRightB (fieldsM l) = true ∧ sector (fieldsM l) = l then outM (fieldsM l) true else outM noRec false
theorem Of_nice (k : Nat) (l : List Int) (hb : Byte l) : rec_Of.f (k + 500) l = some (ofM l) := by
  unfold rec_Of.f ofM
  by_cases hl : l.length = 48
  case neg =>
    rw [if_neg (by omega), if_neg (fun h => hl h.1)]
    simp [rec_Of.j0, outM, noRec]
  rw [if_pos (by omega), if_pos (by omega), get_nice _ (hb.drop 44) (by simp; omega), sum_nice _ _ (hb.take 44) (by simp; omega) (by simp; omega)]
  simp only [Option.bind_some]
  by_cases h1 : valB ((l.drop 44).take 4) = crc (l.take 44)
  case neg =>
    rw [if_neg (fun h => h1 h.2.1), bne_iff_ne.2 h1]
    simp [rec_Of.j0, outM, noRec]
  rw [bne_eq_false_iff_eq.2 h1]
  have h0b := rd_bd l hb 0 (by omega)
  have h20b := rd_bd l hb 20 (by omega)
  have h2b := rd_bd l hb 2 (by omega)
  have h3b := rd_bd l hb 3 (by omega)
  have w2 : IntKind.u16.wrap (rd l 2) = rd l 2 := by rw [IntKind.wrap_u16]; exact Int.emod_eq_of_lt h2b.1 (by have := h2b.2; show rd l ((2 : Nat) : Int) < 65536; omega)
  have w3 : IntKind.u16.wrap (rd l 3) = rd l 3 := by rw [IntKind.wrap_u16]; exact Int.emod_eq_of_lt h3b.1 (by have := h3b.2; show rd l ((3 : Nat) : Int) < 65536; omega)
  have w22 : IntKind.u16.wrap (rd l 2 * 256) = rd l 2 * 256 := by rw [IntKind.wrap_u16]; exact Int.emod_eq_of_lt (by have := h2b.1; show 0 ≤ rd l ((2 : Nat) : Int) * 256; omega) (by have := h2b.2; show rd l ((2 : Nat) : Int) * 256 < 65536; omega)
  have o : Go.bits .or .u16 (rd l 2 * 256) (rd l 3) = rd l 2 * 256 + rd l 3 := or_byte16 _ _ h2b.1 (by have := h2b.2; show rd l ((2 : Nat) : Int) * 256 + 255 ≤ 65535; omega) h3b
  have v0 : wrap64 (rd l 0) = rd l 0 := w64 _ (Int.le_trans (by decide) h0b.1) (Int.le_trans h0b.2 (by decide))
  have v20 : wrap64 (rd l 20) = rd l 20 := w64 _ (Int.le_trans (by decide) h20b.1) (Int.le_trans h20b.2 (by decide))
  have hR : rec_Rec_Right.f (rd l 0) (valB ((l.drop 4).take 4)) (valB ((l.drop 8).take 4)) (valB ((l.drop 12).take 4)) (valB ((l.drop 16).take 4)) (rd l 20) (rd l 1 == 1) (valB ((l.drop 24).take 4)) (rd l 2 * 256 + rd l 3) = some (recRightB (fieldsM l)) := by
    unfold rec_Rec_Right.f
    exact if_pos ((recOkB_iff _).2 (fields_ok l hb hl))
  have hS : rec_Rec_Sector.f (rd l 0) (valB ((l.drop 4).take 4)) (valB ((l.drop 8).take 4)) (valB ((l.drop 12).take 4)) (valB ((l.drop 16).take 4)) (rd l 20) (rd l 1 == 1) (valB ((l.drop 24).take 4)) (rd l 2 * 256 + rd l 3) = some (if recRightB (fieldsM l) = true then sector (fieldsM l) else []) := by
    unfold rec_Rec_Sector.f
    exact if_pos ((recOkB_iff _).2 (fields_ok l hb hl))
  rw [show k + 500 = (k + 499) + 1 from rfl, rec_Of.j0, if_neg (by decide), if_pos (by omega), if_pos (by omega), get_nice _ (hb.drop 4) (by simp; omega)]
  simp only [Option.bind_some]
  rw [if_pos (by omega), get_nice _ (hb.drop 8) (by simp; omega)]
  simp only [Option.bind_some]
  rw [if_pos (by omega), get_nice _ (hb.drop 12) (by simp; omega)]
  simp only [Option.bind_some]
  rw [if_pos (by omega), get_nice _ (hb.drop 16) (by simp; omega)]
  simp only [Option.bind_some]
  rw [if_pos (by omega), if_pos (by omega), if_pos (by omega), get_nice _ (hb.drop 24) (by simp; omega)]
  simp only [Option.bind_some]
  rw [if_pos (by omega), if_pos (by omega), w2, w3, w22, o, v0, v20, hR]
  simp only [Option.bind_some]
  cases hr : recRightB (fieldsM l) with
  | false =>
    rw [if_neg (by decide), if_neg (fun h => by cases h.2.2.1)]
    rfl
  | true =>
    rw [if_pos rfl, hS, hr, if_pos rfl]
    simp only [Option.bind_some]
    by_cases hs : sector (fieldsM l) = l
    · rw [if_pos ((str_inj _ _ (sector_byte _ (fields_ok l hb hl) hr) hb).2 hs), if_pos ⟨hl, h1, by first | rfl | trivial, hs⟩]
      rfl
    · rw [if_neg (fun h => hs ((str_inj _ _ (sector_byte _ (fields_ok l hb hl) hr) hb).1 h)), if_neg (fun h => hs h.2.2.2)]
      rfl
end Go.Proofs.YtgmdjhokcipajaaQ.PRec
end
section
set_option linter.unusedVariables false
set_option linter.unusedSimpArgs false
namespace Go.Proofs.YtgmdjhokcipajaaQ.PRec
open Go.RowKit Go.Proofs.YtgmdjhokcipajaaW.PrintWords Go.Proofs.YtgmdjhokcipajaaW.PrintMore
open Go.Proofs.Ytgmdjhokcipajaa (four valB rightB Byte byteB byteB_iff four_len Rec sector head44 recRightB crc crcByte crcBits crcStep lawCrc lawBits lawBit crc_lt crc_eq onI right_bd head44_byte cat4_four valB_bd4 or_byte16 four_byte str_inj)
/-! A record's sector says the record; the law's bytes are the sector. -/
theorem valB_four (n : Int) (h : 0 ≤ n ∧ n ≤ 4294967295) : valB (four n) = n := by
  show (((0 * 256 + n / 16777216 % 256) * 256 + n / 65536 % 256) * 256 + n / 256 % 256) * 256 + n % 256 = n
  omega
attribute [local irreducible] crc lawCrc
theorem sector_len (r : Rec) : (sector r).length = 48 := rfl
theorem fields_sector (r : Rec) (ho : r.ok) : fieldsM (sector r) = r := by
  obtain ⟨kind, gen, lsn, id, a, l, on, s, m⟩ := r
  obtain ⟨-, hg, hl, hi, ha, -, hs, hm⟩ := ho
  have e4 : ((sector ⟨kind, gen, lsn, id, a, l, on, s, m⟩).drop 4).take 4 = four gen := rfl
  have e8 : ((sector ⟨kind, gen, lsn, id, a, l, on, s, m⟩).drop 8).take 4 = four lsn := rfl
  have e12 : ((sector ⟨kind, gen, lsn, id, a, l, on, s, m⟩).drop 12).take 4 = four id := rfl
  have e16 : ((sector ⟨kind, gen, lsn, id, a, l, on, s, m⟩).drop 16).take 4 = four a := rfl
  have e24 : ((sector ⟨kind, gen, lsn, id, a, l, on, s, m⟩).drop 24).take 4 = four s := rfl
  unfold fieldsM
  rw [e4, e8, e12, e16, e24, valB_four _ hg, valB_four _ hl, valB_four _ hi, valB_four _ ha, valB_four _ hs]
  have eo : (rd (sector ⟨kind, gen, lsn, id, a, l, on, s, m⟩) 1 == 1) = on := by
    show (onI on == 1) = on
    cases on <;> rfl
  have em : rd (sector ⟨kind, gen, lsn, id, a, l, on, s, m⟩) 2 * 256 + rd (sector ⟨kind, gen, lsn, id, a, l, on, s, m⟩) 3 = m := by
    show m / 256 * 256 + m % 256 = m
    omega
  rw [eo, em]
  rfl
theorem of_sector (r : Rec) (ho : r.ok) (h : recRightB r = true) : ofM (sector r) = outM r true := by
  unfold ofM
  rw [fields_sector r ho, if_pos]
  refine ⟨rfl, ?_, h, rfl⟩
  have e1 : ((sector r).drop 44).take 4 = four (crc (head44 r)) := rfl
  have e2 : (sector r).take 44 = head44 r := rfl
  rw [e1, e2, valB_four _ (crc_lt _ (head44_byte r ho h))]
theorem by_step (k : Nat) (x xs : List Int) (j : Nat) (hj : j < xs.length) (hxs : xs.length ≤ 100) (hx : x.length ≤ 1000) (a0 a1 a2 a3 a4 a5 : Int) (a6 : Bool) (a7 a8 : Int) :
    wayfarerlaw05_Bytes.l0 (k + 1) x xs (xs.length : Int) (j : Int) a0 a1 a2 a3 a4 a5 a6 a7 a8 = wayfarerlaw05_Bytes.l0 k (x ++ four xs[j]) xs (xs.length : Int) ((j + 1 : Nat) : Int) a0 a1 a2 a3 a4 a5 a6 a7 a8 := by
  have hr : wayfarerlaw05_four.f (rd xs (j : Int)) = some (four xs[j]) := by rw [rd_at xs j hj]; rfl
  rw [wayfarerlaw05_Bytes.l0, if_pos (by omega), if_pos (by omega), if_pos (by omega), hr]
  simp only [Option.bind_some]
  rw [if_pos (by rw [four_len]; omega), w64 _ (by omega) (by omega)]
  rfl
theorem Bytes_end (K : Nat) (hK : 441 ≤ K) (kind gen lsn id a l : Int) (on : Bool) (s m : Int) (hll : l % 256 = l) (hby : Byte (head44 ⟨kind, gen, lsn, id, a, l, on, s, m⟩)) (y xs : List Int) (hy : y = [kind, onI on, m / 256, m % 256]) (hxs : xs = [gen, lsn, id, a]) (L j : Int) (hL : L = (xs.length : Int)) (hj : j = ((0 : Nat) : Int)) :
    wayfarerlaw05_Bytes.l0 (K + 1 + 1 + 1 + 1 + 1) y xs L j kind gen lsn id a l on s m = some (sector ⟨kind, gen, lsn, id, a, l, on, s, m⟩) := by
  have hxl : xs.length = 4 := by rw [hxs]; rfl
  have hyl : y.length = 4 := by rw [hy]; rfl
  rw [hL, hj, by_step _ y xs 0 (by omega) (by omega) (by omega), by_step _ _ xs 1 (by omega) (by omega) (by simp [four_len, hyl]), by_step _ _ xs 2 (by omega) (by omega) (by simp [four_len, hyl]), by_step _ _ xs 3 (by omega) (by omega) (by simp [four_len, hyl])]
  rw [wayfarerlaw05_Bytes.l0, if_neg (by omega)]
  have f1 : wayfarerlaw05_four.f s = some (four s) := rfl
  have e44 : (((y ++ four xs[0] ++ four xs[1] ++ four xs[2] ++ four xs[3]) ++ [l % 256, 0, 0, 0]) ++ four s) ++ List.replicate 16 0 = head44 ⟨kind, gen, lsn, id, a, l, on, s, m⟩ := by
    subst hxs hy
    rw [hll]
    rfl
  have f2 : wayfarerlaw05_four.f (lawCrc (head44 ⟨kind, gen, lsn, id, a, l, on, s, m⟩)) = some (four (lawCrc (head44 ⟨kind, gen, lsn, id, a, l, on, s, m⟩))) := rfl
  have h44 : (head44 ⟨kind, gen, lsn, id, a, l, on, s, m⟩).length = 44 := rfl
  have f3 := law_nice K (head44 ⟨kind, gen, lsn, id, a, l, on, s, m⟩) (by omega) (by omega)
  rw [Option.bind_some, if_pos (by simp [four_len, hyl]), Option.bind_some, f1, Option.bind_some, if_pos (by simp [four_len, hyl]), Option.bind_some, if_pos (by simp [four_len, hyl]), Option.bind_some, e44, f3, Option.bind_some, f2, Option.bind_some, if_pos (by rw [h44, four_len]; omega), ← crc_eq _ hby]
  rfl
theorem Bytes_nice (k : Nat) (r : Rec) (ho : r.ok) (h : recRightB r = true) : wayfarerlaw05_Bytes.f (k + 500) r.kind r.gen r.lsn r.id r.a r.l r.on r.s r.m = some (sector r) := by
  have hbd := right_bd r h
  have hby := head44_byte r ho h
  obtain ⟨kind, gen, lsn, id, a, l, on, s, m⟩ := r
  obtain ⟨-, hg, hl, hi, ha, -, hs, hm0, hm1⟩ := ho
  obtain ⟨⟨hk0, hk1⟩, hp0, hp1⟩ := hbd
  simp only at hg hl hi ha hs hm0 hm1 hk0 hk1 hp0 hp1 ⊢
  have hq : IntKind.u16.wrap (Int.tdiv m 256) % 256 = m / 256 := by
    rw [Int.tdiv_eq_ediv_of_nonneg hm0, IntKind.wrap_u16]
    omega
  have hq2 : Int.tmod m 256 % 256 = m % 256 := by
    rw [Int.tmod_eq_emod_of_nonneg hm0]
    omega
  have hkk : kind % 256 = kind := by omega
  have hll : l % 256 = l := by omega
  obtain ⟨K, hK, hK4⟩ : ∃ K, k + 500 = K + 1 + 1 + 1 + 1 + 1 + 1 ∧ 441 ≤ K := ⟨k + 494, rfl, by omega⟩
  rw [hK]
  have hj : ∀ on : Bool, wayfarerlaw05_Bytes.f (K + 1 + 1 + 1 + 1 + 1 + 1) kind gen lsn id a l on s m = wayfarerlaw05_Bytes.j0 (K + 1 + 1 + 1 + 1 + 1 + 1) (onI on) kind gen lsn id a l on s m := by
    intro on
    unfold wayfarerlaw05_Bytes.f
    cases on
    · rw [if_neg (by decide)]; rfl
    · rw [if_pos rfl]; rfl
  rw [hj, wayfarerlaw05_Bytes.j0, Option.bind_some, hq, hq2, hkk]
  exact Bytes_end K hK4 kind gen lsn id a l on s m hll hby _ _ rfl rfl _ _ rfl rfl
theorem head_true (k : Nat) : wayfarerlaw05_head.f (k + 500) = some true := by
  have ho : (⟨1, 1, 0, 7, 0, 0, false, 0, 0⟩ : Rec).ok := by unfold Rec.ok; decide
  have hr : recRightB ⟨1, 1, 0, 7, 0, 0, false, 0, 0⟩ = true := by decide
  have hS : rec_Rec_Sector.f 1 1 0 7 0 0 false 0 0 = some (sector ⟨1, 1, 0, 7, 0, 0, false, 0, 0⟩) := by
    refine (if_pos ((recOkB_iff _).2 ho)).trans ?_
    rw [hr, if_pos rfl]
  unfold wayfarerlaw05_head.f
  rw [hS]
  simp only [Option.bind_some]
  have hl : ((sector ⟨1, 1, 0, 7, 0, 0, false, 0, 0⟩).length : Int) = 48 := rfl
  rw [hl, if_pos rfl, if_pos (by decide), if_pos (by rfl), if_pos (by decide), if_pos (by rfl), if_pos (by decide), if_pos (by rfl), Of_nice _ _ (sector_byte _ ho hr), of_sector _ ho hr]
  rfl
end Go.Proofs.YtgmdjhokcipajaaQ.PRec
end
section
set_option linter.unusedVariables false
namespace Go.Proofs.YtgmdjhokcipajaaQ.PRec
open Go.RowKit Go.Proofs.YtgmdjhokcipajaaW.PrintWords Go.Proofs.YtgmdjhokcipajaaW.PrintMore
open Go.Proofs.Ytgmdjhokcipajaa (Rec sector recRightB)
/-- A record's sector is the page's; read, it is the record; what can't be written has none. -/
theorem sectors_true (k : Nat) (r : Rec) (ho : r.ok) : wayfarerlaw05_RecSectors.f (k + 500) r.kind r.gen r.lsn r.id r.a r.l r.on r.s r.m = some true := by
  have hR : rec_Rec_Right.f r.kind r.gen r.lsn r.id r.a r.l r.on r.s r.m = some (recRightB r) := if_pos ((recOkB_iff _).2 ho)
  have hL : wayfarerlaw05_Right.f r.kind r.gen r.lsn r.id r.a r.l r.on r.s r.m = some (recRightB r) := if_pos ((recOkB_iff _).2 ho)
  have hS : rec_Rec_Sector.f r.kind r.gen r.lsn r.id r.a r.l r.on r.s r.m = some (if recRightB r = true then sector r else []) := if_pos ((recOkB_iff _).2 ho)
  unfold wayfarerlaw05_RecSectors.f
  rw [head_true, Option.bind_some, if_pos rfl, hS, Option.bind_some, hR, Option.bind_some, hL, Option.bind_some, Option.bind_some, if_neg (by simp)]
  cases hr : recRightB r with
  | false =>
    rw [if_neg (by decide), if_neg (by decide)]
    rfl
  | true =>
    rw [if_pos rfl, if_pos rfl, Of_nice _ _ (sector_byte r ho hr), Option.bind_some, Bytes_nice k r ho hr, Option.bind_some, if_pos rfl, of_sector r ho hr]
    simp [outM]
end Go.Proofs.YtgmdjhokcipajaaQ.PRec
namespace Go.Proofs.Ytgmdjhokcipajaa
open Go.RowKit Go.ChangeShapes Go.WideShapes
theorem RecSectors_walk (W : World) {b0 : Nat} {v0 : Value} (a0 : Value.okWide Try.prog W .any b0 50 v0) (h0 : Opens Try.prog W 50 v0) :
    Calls Try.prog 8 #[v0] W fun e W' => e = .returned (.bool true) ∧ Below W.heap.size W W' := by
  obtain ⟨r, rfl, ho⟩ := Opens.rec1 a0 h0
  exact YtgmdjhokcipajaaQ.PRec.wayfarerlaw05_RecSectors.calls _ _ _ _ _ _ _ _ _ _ true W (YtgmdjhokcipajaaQ.PRec.sectors_true 0 r ho)
end Go.Proofs.Ytgmdjhokcipajaa
end
