import Derived.Test.YtjdapfimjpbnmaaScrP1
set_option linter.unusedVariables false
set_option linter.unusedSimpArgs false
namespace Go.Proofs.YtjdapfimjpbnmaaQ.PScr
open Go.RowKit Go.Proofs.YtjdapfimjpbnmaaW.PrintWords Go.Proofs.YtjdapfimjpbnmaaW.PrintMore
open Go.Proofs.Ytjdapfimjpbnmaa (four valB byteB rightB Byte four_len evRightB evHas evRest numB valB_snoc valB_bd valB_bd4 or_add_nat str_inj str_data str_empty toList_eq fold_bd)
/-! Numbers as bytes; strings of bytes; one event. -/
theorem ext_str (l : List Int) (a b : Nat) : (strOfNums l).extract a b = strOfNums ((l.drop a).take (b - a)) := by
  apply ByteArray.ext
  rw [ByteArray.data_extract]
  apply Array.ext'
  rw [Array.toList_extract]
  simp [strOfNums, List.extract, List.map_take, List.map_drop]
theorem size_str (l : List Int) : (strOfNums l).size = l.length := strOfNums_size l
theorem bytesOf_str (l : List Int) (h : Byte l) : bytesOf (strOfNums l) = l := str_data l h
theorem bt_str (l : List Int) (h : Byte l) (i : Nat) (hi : i < l.length) : bt (strOfNums l) (i : Int) = rd l (i : Int) := by
  unfold bt rd
  rw [Int.toNat_natCast, dif_pos (by rw [size_str]; exact hi)]
  have hb := h l[i] (List.getElem_mem hi)
  show (((strOfNums l).data[i]'_).toNat : Int) = _
  have : (strOfNums l).data[i]'(by have := size_str l; show i < (strOfNums l).size; omega) = UInt8.ofNat (l[i]).toNat := by simp [strOfNums]
  rw [this, List.getD_eq_getElem?_getD, List.getElem?_eq_getElem hi]
  simp only [UInt8.toNat_ofNat', Option.getD_some]
  omega
theorem rd_at (l : List Int) (j : Nat) (h : j < l.length) : rd l (j : Int) = l[j] := by simp [rd, h]
theorem rd_bd (l : List Int) (hb : Byte l) (j : Nat) (h : j < l.length) : 0 ≤ rd l (j : Int) ∧ rd l (j : Int) ≤ 255 := by rw [rd_at l j h]; exact hb _ (List.getElem_mem h)
/-- The bytes of a number, the highest one first. -/
def beN (n : Int) : Nat → List Int
  | 0 => []
  | s + 1 => n / 256 ^ s % 256 :: beN n s
theorem shr64 (n : Int) (j : Nat) (hj : j ≤ 3) : shr .u64 n (8 * (j : Int)) = n / 256 ^ j := by
  unfold shr
  rcases (show j = 0 ∨ j = 1 ∨ j = 2 ∨ j = 3 by omega) with rfl | rfl | rfl | rfl <;> rfl
theorem put_l0 (n : Int) : ∀ (s k : Nat) (x : List Int), s ≤ 4 → s < k → x.length + s ≤ 140737488350000 → script_put.l0 k x n ((s : Int) - 1) = some (x ++ beN n s)
  | 0, k, x, _, hk, _ => by
    obtain ⟨k, rfl⟩ : ∃ m, k = m + 1 := ⟨k - 1, by omega⟩
    simp [script_put.l0, beN]
  | s + 1, k, x, hs, hk, hx => by
    obtain ⟨k, rfl⟩ : ∃ m, k = m + 1 := ⟨k - 1, by omega⟩
    have e : ((s + 1 : Nat) : Int) - 1 = (s : Int) := by omega
    rw [script_put.l0, e, if_pos (by omega), w64 (8 * (s : Int)) (by omega) (by omega), if_pos (by omega), if_pos (by omega), shr64 n s (by omega), w64 ((s : Int) - 1) (by omega) (by omega), put_l0 n s k _ (by omega) (by omega) (by simp; omega)]
    simp [beN]
theorem put_nice (k : Nat) (n : Int) (s : Nat) (x : List Int) (hs : s ≤ 4) (h0 : 0 ≤ n) (h1 : n ≤ 18446744073709551615) (hx : x.length + s ≤ 140737488350000) : script_put.f (k + 5) x (IntKind.u64.wrap n) (s : Int) = some (x ++ beN n s) := by
  unfold script_put.f
  rw [u64w n h0 h1, w64 _ (by omega) (by omega), put_l0 n s (k + 5) x hs (by omega) hx]
theorem or_byte64 (n c : Int) (hn : 0 ≤ n) (hb : n * 256 + 255 ≤ 4294967295) (hc : 0 ≤ c ∧ c ≤ 255) : Go.bits .or .u64 (n * 256) c = n * 256 + c := by
  obtain ⟨n, rfl⟩ := Int.eq_ofNat_of_zero_le hn
  obtain ⟨c, rfl⟩ := Int.eq_ofNat_of_zero_le hc.1
  rw [show ((n : Int) * 256) = ((n * 256 : Nat) : Int) by simp, u64_or_nat _ _ (by omega) (by omega), or_add_nat n c (by omega)]
  simp
theorem take_val (l : List Int) (j : Nat) (h : j < l.length) : valB (l.take (j + 1)) = valB (l.take j) * 256 + rd l (j : Int) := by
  rw [List.take_succ_eq_append_getElem h, valB_snoc, rd_at l j h]
theorem valB_bd3 (l : List Int) (h : Byte l) (hl : l.length ≤ 3) : 0 ≤ valB l ∧ valB l ≤ 16777215 := by
  have h1 := valB_bd l h
  have h2 : (256 : Int) ^ l.length ≤ 256 ^ 3 := by
    rcases (show l.length = 0 ∨ l.length = 1 ∨ l.length = 2 ∨ l.length = 3 by omega) with e | e | e | e <;> rw [e] <;> decide
  omega
theorem get_l0 (l : List Int) (hb : Byte l) (hl : l.length ≤ 4) : ∀ (n j k : Nat), j + n = l.length → n < k → script_get.l0 k (strOfNums l) (valB (l.take j)) ((strOfNums l).size : Int) (j : Int) = some (valB l)
  | 0, j, k, h, hk => by
    obtain ⟨k, rfl⟩ : ∃ m, k = m + 1 := ⟨k - 1, by omega⟩
    rw [script_get.l0, size_str, if_neg (by omega), List.take_of_length_le (by omega)]
  | n + 1, j, k, h, hk => by
    obtain ⟨k, rfl⟩ : ∃ m, k = m + 1 := ⟨k - 1, by omega⟩
    have hj : j < l.length := by omega
    have ih := get_l0 l hb hl n (j + 1) k (by omega) (by omega)
    have r := rd_bd l hb j hj
    have v := valB_bd3 (l.take j) (hb.take j) (by simp; omega)
    rw [script_get.l0]
    simp only [size_str] at ih ⊢
    rw [if_pos (by omega), if_pos (by omega), if_pos (by omega), bt_str l hb j hj, u64w _ (by omega) (by omega), u64w _ (by omega) (by omega), or_byte64 _ _ v.1 (by omega) r, w64 _ (by omega) (by omega), ← take_val l j hj]
    exact ih
theorem get_nice (k : Nat) (l : List Int) (hb : Byte l) (hl : l.length ≤ 4) : script_get.f (k + 5) (strOfNums l) = some (valB l) := by
  unfold script_get.f
  exact get_l0 l hb hl l.length 0 (k + 5) (by omega) (by omega)
/-- The event with which bytes begin, all of it told. -/
def evN (l : List Int) : Nat := 16 + (rd l 15).toNat
def evOf (l : List Int) : Ev := ⟨rd l 0, valB ((l.drop 1).take 3), valB ((l.drop 4).take 3), valB ((l.drop 7).take 3), ⟨valB ((l.drop 10).take 4), rd l 14⟩, strOfNums ((l.drop 16).take (rd l 15).toNat)⟩
def oneB (l : List Int) : Bool := decide (16 ≤ l.length) && decide (evN l ≤ l.length) && rightE (evOf l)
theorem one_nice (k : Nat) (l : List Int) (hb : Byte l) (hl : l.length ≤ 1000000000) : ∃ q, script_one.f (k + 10) (strOfNums l) = some q ∧ q.2.2.2.2.2.2.2.2 = oneB l ∧ (oneB l = true → q = ((evOf l).f0, (evOf l).f1, (evOf l).f2, (evOf l).f3, (evOf l).f4.f0, (evOf l).f4.f1, (evOf l).f5, (evN l : Int), true)) := by
  unfold script_one.f
  rw [size_str]
  by_cases h16 : l.length < 16
  · rw [if_pos (by omega)]
    refine ⟨_, rfl, ?_, ?_⟩
    · simp [oneB, show ¬ 16 ≤ l.length by omega]
    · simp [oneB, show ¬ 16 ≤ l.length by omega]
  have b15 := rd_bd l hb 15 (by omega)
  have hb15 : bt (strOfNums l) 15 = rd l 15 := bt_str l hb 15 (by omega)
  have hev : (evN l : Int) = 16 + rd l 15 := by unfold evN; have := b15.1; show ((16 + (rd l ((15 : Nat) : Int)).toNat : Nat) : Int) = 16 + rd l ((15 : Nat) : Int); omega
  have hw : wrap64 (16 + wrap64 (rd l 15)) = (evN l : Int) := by
    have h0 : wrap64 (rd l 15) = rd l 15 := w64 _ (Int.le_trans (by decide) b15.1) (Int.le_trans b15.2 (by decide))
    rw [h0, ← hev]
    have := b15.2
    refine w64 _ (by omega) ?_
    rw [hev]
    show 16 + rd l ((15 : Nat) : Int) ≤ _
    omega
  rw [if_neg (by omega), if_pos (by omega), hb15, hw]
  by_cases hn : l.length < evN l
  · rw [decide_eq_true (show (l.length : Int) < (evN l : Int) by omega)]
    refine ⟨_, rfl, ?_, ?_⟩
    · simp [oneB, show ¬ evN l ≤ l.length by omega]
    · simp [oneB, show ¬ evN l ≤ l.length by omega]
  rw [decide_eq_false (show ¬ (l.length : Int) < (evN l : Int) by omega)]
  have hev16 : 16 ≤ evN l := by unfold evN; omega
  have b0 := rd_bd l hb 0 (by omega)
  have b14 := rd_bd l hb 14 (by omega)
  have hb0 : bt (strOfNums l) 0 = rd l 0 := bt_str l hb 0 (by omega)
  have hb14 : bt (strOfNums l) 14 = rd l 14 := bt_str l hb 14 (by omega)
  have w0 : wrap64 (rd l 0) = rd l 0 := w64 _ (Int.le_trans (by decide) b0.1) (Int.le_trans b0.2 (by decide))
  have w14 : wrap64 (rd l 14) = rd l 14 := w64 _ (Int.le_trans (by decide) b14.1) (Int.le_trans b14.2 (by decide))
  have g1 := get_nice (k + 4) ((l.drop 1).take 3) ((hb.drop 1).take 3) (by simp; omega)
  have g4 := get_nice (k + 4) ((l.drop 4).take 3) ((hb.drop 4).take 3) (by simp; omega)
  have g7 := get_nice (k + 4) ((l.drop 7).take 3) ((hb.drop 7).take 3) (by simp; omega)
  have g10 := get_nice (k + 4) ((l.drop 10).take 4) ((hb.drop 10).take 4) (by simp; omega)
  have v1 := valB_bd3 ((l.drop 1).take 3) ((hb.drop 1).take 3) (by simp; omega)
  have v4 := valB_bd3 ((l.drop 4).take 3) ((hb.drop 4).take 3) (by simp; omega)
  have v7 := valB_bd3 ((l.drop 7).take 3) ((hb.drop 7).take 3) (by simp; omega)
  have v10 := valB_bd4 ((l.drop 10).take 4) ((hb.drop 10).take 4) (by simp; omega)
  have hx : (strOfNums l).extract 16 ((evN l : Int)).toNat = strOfNums ((l.drop 16).take (rd l 15).toNat) := by
    rw [Int.toNat_natCast, ext_str]
    congr 2
    unfold evN
    omega
  have hR := Right_nice (k + 4) (rd l 0) (valB ((l.drop 1).take 3)) (valB ((l.drop 4).take 3)) (valB ((l.drop 7).take 3)) (valB ((l.drop 10).take 4)) (rd l 14) (strOfNums ((l.drop 16).take (rd l 15).toNat)) v10
  refine ⟨((evOf l).f0, (evOf l).f1, (evOf l).f2, (evOf l).f3, (evOf l).f4.f0, (evOf l).f4.f1, (evOf l).f5, (evN l : Int), rightE (evOf l)), ?_, ?_, ?_⟩
  · rw [show k + 10 = (k + 9) + 1 from rfl, script_one.j0, if_neg (by decide), size_str, if_pos (by omega), if_pos (by omega), if_pos (by decide), if_pos (by omega), ext_str, g1, Option.bind_some, if_pos (by decide), if_pos (by omega), ext_str, g4, Option.bind_some, if_pos (by decide), if_pos (by omega), ext_str, g7, Option.bind_some,
      if_pos (by decide), if_pos (by omega), ext_str, g10, Option.bind_some, if_pos (by omega), hb15, hw, if_pos (by omega), if_pos (by omega), hb0, hb14, w0, w14, hx,
      w64 _ (by omega) (by omega), w64 _ (by omega) (by omega), w64 _ (by omega) (by omega), Int.emod_eq_of_lt v10.1 (by omega), hR]
    rfl
  · simp [oneB, show 16 ≤ l.length by omega, show evN l ≤ l.length by omega]
  · intro h
    have : rightE (evOf l) = true := by simp [oneB] at h; exact h.2
    rw [this]
end Go.Proofs.YtjdapfimjpbnmaaQ.PScr
