/- Texts of this proof, one behind the other: lemmas for the row at the claim's end. No condition of their own. -/
import Derived.Test.YtjdapfimjpbnmaaPScr5
import Derived.Test.YtjdapfimjpbnmaaOwnA
import Derived.Test.YtjdapfimjpbnmaaPScr7
import Derived.Test.YtjdapfimjpbnmaaPScr8
section
set_option linter.unusedVariables false
set_option linter.unusedSimpArgs false
namespace Go.Proofs.YtjdapfimjpbnmaaQ.PScr
open Go.RowKit Go.Proofs.YtjdapfimjpbnmaaW.PrintWords Go.Proofs.YtjdapfimjpbnmaaW.PrintMore
open Go.Proofs.Ytjdapfimjpbnmaa (four valB byteB rightB Byte four_len evRightB evHas evRest numB valB_snoc valB_bd valB_bd4 or_add_nat str_inj str_data str_empty toList_eq)
/-! Events as bytes, in plain lists: the small functions. -/
abbrev Ev := S30
abbrev Px := S28
def okE (e : Ev) : Prop := (0 ≤ e.f4.f0 ∧ e.f4.f0 ≤ 4294967295)
def rightE (e : Ev) : Bool := evRightB e.f0 e.f1 e.f2 e.f3 e.f4.f0 e.f4.f1 e.f5
theorem w64 (x : Int) (h0 : -9223372036854775808 ≤ x) (h1 : x ≤ 9223372036854775807) : wrap64 x = x := by unfold wrap64; omega
theorem u64w (x : Int) (h0 : 0 ≤ x) (h1 : x ≤ 18446744073709551615) : IntKind.u64.wrap x = x := by rw [IntKind.wrap_u64]; omega
theorem bare_in (k : Nat) (kind i n m a l : Int) (p : ByteArray) (h : 0 ≤ kind ∧ kind ≤ 10) :
    script_Event_bare.f (k + 3) kind i n m a l p = some (kind, (if (evHas kind).1 = true then i else 0), (if (evHas kind).2.1 = true then n else 0), (if (evHas kind).2.2.1 = true then m else 0), (if (evHas kind).2.2.2.1 = true then a else 0), (if (evHas kind).2.2.2.1 = true then l else 0), (if (evHas kind).2.2.2.2 = true then p else ⟨#[]⟩), true) := by
  rcases (show kind = 0 ∨ kind = 1 ∨ kind = 2 ∨ kind = 3 ∨ kind = 4 ∨ kind = 5 ∨ kind = 6 ∨ kind = 7 ∨ kind = 8 ∨ kind = 9 ∨ kind = 10 by omega) with rfl | rfl | rfl | rfl | rfl | rfl | rfl | rfl | rfl | rfl | rfl <;>
    simp [script_Event_bare.f, script_Event_bare.j0, script_Event_bare.j1, script_Event_bare.j2, evHas]
theorem bare_out (k : Nat) (kind i n m a l : Int) (p : ByteArray) (h : ¬ (0 ≤ kind ∧ kind ≤ 10)) : ∃ q, script_Event_bare.f (k + 3) kind i n m a l p = some q ∧ q.2.2.2.2.2.2.2 = false := by
  have h0 : ¬ kind = 0 := by omega
  have h1 : ¬ kind = 1 := by omega
  have h2 : ¬ kind = 2 := by omega
  have h3 : ¬ kind = 3 := by omega
  have h4 : ¬ kind = 4 := by omega
  have h5 : ¬ kind = 5 := by omega
  have h6 : ¬ kind = 6 := by omega
  have h7 : ¬ kind = 7 := by omega
  have h8 : ¬ kind = 8 := by omega
  have h9 : ¬ kind = 9 := by omega
  have h10 : ¬ kind = 10 := by omega
  refine ⟨(kind, 0, 0, 0, 0, 0, ⟨#[]⟩, false), ?_, rfl⟩
  simp [script_Event_bare.f, script_Event_bare.j0, script_Event_bare.j1, script_Event_bare.j2, h0, h1, h2, h3, h4, h5, h6, h7, h8, h9, h10]
theorem sel (b : Bool) (x : Int) : ((if b = true then x else 0) == x) = (b || x == 0) := by
  cases b
  · simp only [Bool.false_eq_true, if_false, Bool.false_or]
    rw [Bool.eq_iff_iff, beq_iff_eq, beq_iff_eq]
    exact eq_comm
  · simp
theorem selp (b : Bool) (p : ByteArray) : ((if b = true then p else ⟨#[]⟩).toList == p.toList) = (b || decide (p.size = 0)) := by
  cases b
  · simp only [Bool.false_eq_true, if_false, Bool.false_or]
    rw [← str_empty, toList_eq ⟨#[]⟩]
    cases h : p.toList <;> rfl
  · simp
theorem nums_true (k : Nat) (x y z : Int) : script_Event_Right.l0 (k + 4) [x, y, z] (([x, y, z] : List Int).length : Int) 0 = some (numB x && numB y && numB z) := by
  have step : ∀ (k j : Nat) (v : Int), (hj : j < 3) → rd [x, y, z] (j : Int) = v → script_Event_Right.l0 (k + 1) [x, y, z] (([x, y, z] : List Int).length : Int) (j : Int) = (if numB v = true then script_Event_Right.l0 k [x, y, z] (([x, y, z] : List Int).length : Int) ((j + 1 : Nat) : Int) else some false) := by
    intro k j v hj hv
    rw [script_Event_Right.l0, if_pos (by simp; omega), if_pos (by omega), if_pos (by simp; omega), hv, w64 _ (by omega) (by omega)]
    unfold numB
    by_cases h0 : v < 0
    · rw [if_pos h0, if_neg (by simp; omega)]
    · rw [if_neg h0]
      by_cases h1 : v > 65536
      · rw [if_pos h1, if_neg (by simp; omega)]
      · rw [if_neg h1, if_pos (by simp; omega)]
        rfl
  have e0 := step (k + 3) 0 x (by omega) rfl
  have e1 := step (k + 2) 1 y (by omega) rfl
  have e2 := step (k + 1) 2 z (by omega) rfl
  have e3 : script_Event_Right.l0 (k + 1) [x, y, z] (([x, y, z] : List Int).length : Int) ((3 : Nat) : Int) = some true := by
    rw [script_Event_Right.l0, if_neg (by simp)]
  rw [e3] at e2
  rw [e2] at e1
  rw [e1] at e0
  refine e0.trans ?_
  cases numB x <;> cases numB y <;> cases numB z <;> rfl
theorem Right_nice (k : Nat) (kind i n m a l : Int) (p : ByteArray) (ha : 0 ≤ a ∧ a ≤ 4294967295) : script_Event_Right.f (k + 5) kind i n m a l p = some (evRightB kind i n m a l p) := by
  unfold script_Event_Right.f
  by_cases h : 0 ≤ kind ∧ kind ≤ 10
  case neg =>
    obtain ⟨q, hq, hf⟩ := bare_out (k + 2) kind i n m a l p h
    have hn : evRightB kind i n m a l p = false := by
      unfold evRightB
      by_cases h0 : 0 ≤ kind
      · simp [show ¬ kind ≤ 10 by omega]
      · simp [h0]
    rw [show k + 5 = (k + 2) + 3 from rfl, hq, Option.bind_some, hf, if_neg (by decide), hn]
    rfl
  have hP : addr_Prefix_Right.f a l = some (rightB a l) := if_pos ha
  rw [show k + 5 = (k + 2) + 3 from rfl, bare_in (k + 2) kind i n m a l p h, Option.bind_some, if_pos rfl]
  simp only [sel, selp, beq_self_eq_true, Bool.not_true, Bool.false_or]
  have e : evRightB kind i n m a l p = (evRest kind i n m a l p && (rightB a l && (decide (p.size % 6 = 0) && (decide (p.size ≤ 240) && (numB i && numB n && numB m))))) := by
    unfold evRightB evRest
    simp only [h.1, h.2, decide_true, Bool.true_and]
    generalize (evHas kind) = b
    cases rightB a l <;> cases decide (p.size % 6 = 0) <;> cases decide (p.size ≤ 240) <;> cases numB i <;> cases numB n <;> cases numB m <;> simp
  have er : (!((evHas kind).1 || i == 0) || (!((evHas kind).2.1 || n == 0) || (!((evHas kind).2.2.1 || m == 0) || ((!((evHas kind).2.2.2.1 || a == 0) || !((evHas kind).2.2.2.1 || l == 0)) || !((evHas kind).2.2.2.2 || decide (p.size = 0)))))) = !evRest kind i n m a l p := by
    unfold evRest
    generalize (evHas kind) = b
    obtain ⟨b1, b2, b3, b4, b5⟩ := b
    simp only
    cases b1 <;> cases b2 <;> cases b3 <;> cases b4 <;> cases b5 <;> cases (i == 0) <;> cases (n == 0) <;> cases (m == 0) <;> cases (a == 0) <;> cases (l == 0) <;> simp
  rw [er, e]
  cases hr : evRest kind i n m a l p with
  | false => rfl
  | true =>
    rw [if_neg (by decide), hP, Option.bind_some]
    cases rightB a l with
    | false => rfl
    | true =>
      rw [if_pos rfl]
      by_cases h6 : p.size % 6 = 0
      case neg =>
        rw [if_neg (by omega)]
        simp [script_Event_Right.j0, h6]
      rw [if_pos (by omega)]
      by_cases h240 : p.size ≤ 240
      case neg =>
        rw [decide_eq_true (show (p.size : Int) > 240 by omega)]
        simp [script_Event_Right.j0, h240]
      rw [decide_eq_false (show ¬ (p.size : Int) > 240 by omega), show k + 2 + 3 = (k + 4) + 1 from rfl, script_Event_Right.j0, if_neg (by decide), Option.bind_some, nums_true]
      simp [h6, h240]
end Go.Proofs.YtjdapfimjpbnmaaQ.PScr
end
section
set_option linter.unusedVariables false
set_option linter.unusedSimpArgs false
namespace Go.Proofs.YtjdapfimjpbnmaaQ.PScr
open Go.RowKit Go.Proofs.YtjdapfimjpbnmaaW.PrintWords Go.Proofs.YtjdapfimjpbnmaaW.PrintMore
open Go.Proofs.Ytjdapfimjpbnmaa (four valB byteB rightB Byte four_len evRightB evHas evRest numB valB_snoc valB_bd valB_bd4 or_add_nat str_inj str_data str_empty toList_eq fold_bd)
/-! Numbers as bytes; strings of bytes; one event. -/
theorem ext_str (l : List Int) (a b : Nat) : (strOfNums l).extract a b = strOfNums ((l.drop a).take (b - a)) := by
  apply ByteArray.ext
  rw [ByteArray.data_extract]
  apply Array.ext'
  rw [Array.toList_extract]
  simp [strOfNums, List.extract, List.map_take, List.map_drop]
theorem size_str (l : List Int) : (strOfNums l).size = l.length := strOfNums_size l
theorem bytesOf_str (l : List Int) (h : Byte l) : bytesOf (strOfNums l) = l := str_data l h
theorem bt_str (l : List Int) (h : Byte l) (i : Nat) (hi : i < l.length) : bt (strOfNums l) (i : Int) = rd l (i : Int) := by
  unfold bt rd
  rw [Int.toNat_natCast, dif_pos (by rw [size_str]; exact hi)]
  have hb := h l[i] (List.getElem_mem hi)
  show (((strOfNums l).data[i]'_).toNat : Int) = _
  have : (strOfNums l).data[i]'(by have := size_str l; show i < (strOfNums l).size; omega) = UInt8.ofNat (l[i]).toNat := by simp [strOfNums]
  rw [this, List.getD_eq_getElem?_getD, List.getElem?_eq_getElem hi]
  simp only [UInt8.toNat_ofNat', Option.getD_some]
  omega
theorem rd_at (l : List Int) (j : Nat) (h : j < l.length) : rd l (j : Int) = l[j] := by simp [rd, h]
theorem rd_bd (l : List Int) (hb : Byte l) (j : Nat) (h : j < l.length) : 0 ≤ rd l (j : Int) ∧ rd l (j : Int) ≤ 255 := by rw [rd_at l j h]; exact hb _ (List.getElem_mem h)
/-- The bytes of a number, the highest one first. -/
def beN (n : Int) : Nat → List Int
  | 0 => []
  | s + 1 => n / 256 ^ s % 256 :: beN n s
theorem shr64 (n : Int) (j : Nat) (hj : j ≤ 3) : shr .u64 n (8 * (j : Int)) = n / 256 ^ j := by
  unfold shr
  rcases (show j = 0 ∨ j = 1 ∨ j = 2 ∨ j = 3 by omega) with rfl | rfl | rfl | rfl <;> rfl
theorem put_l0 (n : Int) : ∀ (s k : Nat) (x : List Int), s ≤ 4 → s < k → x.length + s ≤ 140737488350000 → script_put.l0 k x n ((s : Int) - 1) = some (x ++ beN n s)
  | 0, k, x, _, hk, _ => by
    obtain ⟨k, rfl⟩ : ∃ m, k = m + 1 := ⟨k - 1, by omega⟩
    simp [script_put.l0, beN]
  | s + 1, k, x, hs, hk, hx => by
    obtain ⟨k, rfl⟩ : ∃ m, k = m + 1 := ⟨k - 1, by omega⟩
    have e : ((s + 1 : Nat) : Int) - 1 = (s : Int) := by omega
    rw [script_put.l0, e, if_pos (by omega), w64 (8 * (s : Int)) (by omega) (by omega), if_pos (by omega), if_pos (by omega), shr64 n s (by omega), w64 ((s : Int) - 1) (by omega) (by omega), put_l0 n s k _ (by omega) (by omega) (by simp; omega)]
    simp [beN]
theorem put_nice (k : Nat) (n : Int) (s : Nat) (x : List Int) (hs : s ≤ 4) (h0 : 0 ≤ n) (h1 : n ≤ 18446744073709551615) (hx : x.length + s ≤ 140737488350000) : script_put.f (k + 5) x (IntKind.u64.wrap n) (s : Int) = some (x ++ beN n s) := by
  unfold script_put.f
  rw [u64w n h0 h1, w64 _ (by omega) (by omega), put_l0 n s (k + 5) x hs (by omega) hx]
theorem or_byte64 (n c : Int) (hn : 0 ≤ n) (hb : n * 256 + 255 ≤ 4294967295) (hc : 0 ≤ c ∧ c ≤ 255) : Go.bits .or .u64 (n * 256) c = n * 256 + c := by
  obtain ⟨n, rfl⟩ := Int.eq_ofNat_of_zero_le hn
  obtain ⟨c, rfl⟩ := Int.eq_ofNat_of_zero_le hc.1
  rw [show ((n : Int) * 256) = ((n * 256 : Nat) : Int) by simp, u64_or_nat _ _ (by omega) (by omega), or_add_nat n c (by omega)]
  simp
theorem take_val (l : List Int) (j : Nat) (h : j < l.length) : valB (l.take (j + 1)) = valB (l.take j) * 256 + rd l (j : Int) := by
  rw [List.take_succ_eq_append_getElem h, valB_snoc, rd_at l j h]
theorem valB_bd3 (l : List Int) (h : Byte l) (hl : l.length ≤ 3) : 0 ≤ valB l ∧ valB l ≤ 16777215 := by
  have h1 := valB_bd l h
  have h2 : (256 : Int) ^ l.length ≤ 256 ^ 3 := by
    rcases (show l.length = 0 ∨ l.length = 1 ∨ l.length = 2 ∨ l.length = 3 by omega) with e | e | e | e <;> rw [e] <;> decide
  omega
theorem get_l0 (l : List Int) (hb : Byte l) (hl : l.length ≤ 4) : ∀ (n j k : Nat), j + n = l.length → n < k → script_get.l0 k (strOfNums l) (valB (l.take j)) ((strOfNums l).size : Int) (j : Int) = some (valB l)
  | 0, j, k, h, hk => by
    obtain ⟨k, rfl⟩ : ∃ m, k = m + 1 := ⟨k - 1, by omega⟩
    rw [script_get.l0, size_str, if_neg (by omega), List.take_of_length_le (by omega)]
  | n + 1, j, k, h, hk => by
    obtain ⟨k, rfl⟩ : ∃ m, k = m + 1 := ⟨k - 1, by omega⟩
    have hj : j < l.length := by omega
    have ih := get_l0 l hb hl n (j + 1) k (by omega) (by omega)
    have r := rd_bd l hb j hj
    have v := valB_bd3 (l.take j) (hb.take j) (by simp; omega)
    rw [script_get.l0]
    simp only [size_str] at ih ⊢
    rw [if_pos (by omega), if_pos (by omega), if_pos (by omega), bt_str l hb j hj, u64w _ (by omega) (by omega), u64w _ (by omega) (by omega), or_byte64 _ _ v.1 (by omega) r, w64 _ (by omega) (by omega), ← take_val l j hj]
    exact ih
theorem get_nice (k : Nat) (l : List Int) (hb : Byte l) (hl : l.length ≤ 4) : script_get.f (k + 5) (strOfNums l) = some (valB l) := by
  unfold script_get.f
  exact get_l0 l hb hl l.length 0 (k + 5) (by omega) (by omega)
/-- The event with which bytes begin, all of it told. -/
def evN (l : List Int) : Nat := 16 + (rd l 15).toNat
def evOf (l : List Int) : Ev := ⟨rd l 0, valB ((l.drop 1).take 3), valB ((l.drop 4).take 3), valB ((l.drop 7).take 3), ⟨valB ((l.drop 10).take 4), rd l 14⟩, strOfNums ((l.drop 16).take (rd l 15).toNat)⟩
def oneB (l : List Int) : Bool := decide (16 ≤ l.length) && decide (evN l ≤ l.length) && rightE (evOf l)
theorem one_nice (k : Nat) (l : List Int) (hb : Byte l) (hl : l.length ≤ 1000000000) : ∃ q, script_one.f (k + 10) (strOfNums l) = some q ∧ q.2.2.2.2.2.2.2.2 = oneB l ∧ (oneB l = true → q = ((evOf l).f0, (evOf l).f1, (evOf l).f2, (evOf l).f3, (evOf l).f4.f0, (evOf l).f4.f1, (evOf l).f5, (evN l : Int), true)) := by
  unfold script_one.f
  rw [size_str]
  by_cases h16 : l.length < 16
  · rw [if_pos (by omega)]
    refine ⟨_, rfl, ?_, ?_⟩
    · simp [oneB, show ¬ 16 ≤ l.length by omega]
    · simp [oneB, show ¬ 16 ≤ l.length by omega]
  have b15 := rd_bd l hb 15 (by omega)
  have hb15 : bt (strOfNums l) 15 = rd l 15 := bt_str l hb 15 (by omega)
  have hev : (evN l : Int) = 16 + rd l 15 := by unfold evN; have := b15.1; show ((16 + (rd l ((15 : Nat) : Int)).toNat : Nat) : Int) = 16 + rd l ((15 : Nat) : Int); omega
  have hw : wrap64 (16 + wrap64 (rd l 15)) = (evN l : Int) := by
    have h0 : wrap64 (rd l 15) = rd l 15 := w64 _ (Int.le_trans (by decide) b15.1) (Int.le_trans b15.2 (by decide))
    rw [h0, ← hev]
    have := b15.2
    refine w64 _ (by omega) ?_
    rw [hev]
    show 16 + rd l ((15 : Nat) : Int) ≤ _
    omega
  rw [if_neg (by omega), if_pos (by omega), hb15, hw]
  by_cases hn : l.length < evN l
  · rw [decide_eq_true (show (l.length : Int) < (evN l : Int) by omega)]
    refine ⟨_, rfl, ?_, ?_⟩
    · simp [oneB, show ¬ evN l ≤ l.length by omega]
    · simp [oneB, show ¬ evN l ≤ l.length by omega]
  rw [decide_eq_false (show ¬ (l.length : Int) < (evN l : Int) by omega)]
  have hev16 : 16 ≤ evN l := by unfold evN; omega
  have b0 := rd_bd l hb 0 (by omega)
  have b14 := rd_bd l hb 14 (by omega)
  have hb0 : bt (strOfNums l) 0 = rd l 0 := bt_str l hb 0 (by omega)
  have hb14 : bt (strOfNums l) 14 = rd l 14 := bt_str l hb 14 (by omega)
  have w0 : wrap64 (rd l 0) = rd l 0 := w64 _ (Int.le_trans (by decide) b0.1) (Int.le_trans b0.2 (by decide))
  have w14 : wrap64 (rd l 14) = rd l 14 := w64 _ (Int.le_trans (by decide) b14.1) (Int.le_trans b14.2 (by decide))
  have g1 := get_nice (k + 4) ((l.drop 1).take 3) ((hb.drop 1).take 3) (by simp; omega)
  have g4 := get_nice (k + 4) ((l.drop 4).take 3) ((hb.drop 4).take 3) (by simp; omega)
  have g7 := get_nice (k + 4) ((l.drop 7).take 3) ((hb.drop 7).take 3) (by simp; omega)
  have g10 := get_nice (k + 4) ((l.drop 10).take 4) ((hb.drop 10).take 4) (by simp; omega)
  have v1 := valB_bd3 ((l.drop 1).take 3) ((hb.drop 1).take 3) (by simp; omega)
  have v4 := valB_bd3 ((l.drop 4).take 3) ((hb.drop 4).take 3) (by simp; omega)
  have v7 := valB_bd3 ((l.drop 7).take 3) ((hb.drop 7).take 3) (by simp; omega)
  have v10 := valB_bd4 ((l.drop 10).take 4) ((hb.drop 10).take 4) (by simp; omega)
  have hx : (strOfNums l).extract 16 ((evN l : Int)).toNat = strOfNums ((l.drop 16).take (rd l 15).toNat) := by
    rw [Int.toNat_natCast, ext_str]
    congr 2
    unfold evN
    omega
  have hR := Right_nice (k + 4) (rd l 0) (valB ((l.drop 1).take 3)) (valB ((l.drop 4).take 3)) (valB ((l.drop 7).take 3)) (valB ((l.drop 10).take 4)) (rd l 14) (strOfNums ((l.drop 16).take (rd l 15).toNat)) v10
  refine ⟨((evOf l).f0, (evOf l).f1, (evOf l).f2, (evOf l).f3, (evOf l).f4.f0, (evOf l).f4.f1, (evOf l).f5, (evN l : Int), rightE (evOf l)), ?_, ?_, ?_⟩
  · rw [show k + 10 = (k + 9) + 1 from rfl, script_one.j0, if_neg (by decide), size_str, if_pos (by omega), if_pos (by omega), if_pos (by decide), if_pos (by omega), ext_str, g1, Option.bind_some, if_pos (by decide), if_pos (by omega), ext_str, g4, Option.bind_some, if_pos (by decide), if_pos (by omega), ext_str, g7, Option.bind_some,
      if_pos (by decide), if_pos (by omega), ext_str, g10, Option.bind_some, if_pos (by omega), hb15, hw, if_pos (by omega), if_pos (by omega), hb0, hb14, w0, w14, hx,
      w64 _ (by omega) (by omega), w64 _ (by omega) (by omega), w64 _ (by omega) (by omega), Int.emod_eq_of_lt v10.1 (by omega), hR]
    rfl
  · simp [oneB, show 16 ≤ l.length by omega, show evN l ≤ l.length by omega]
  · intro h
    have : rightE (evOf l) = true := by simp [oneB] at h; exact h.2
    rw [this]
end Go.Proofs.YtjdapfimjpbnmaaQ.PScr
end
section
set_option linter.unusedVariables false
set_option linter.unusedSimpArgs false
namespace Go.Proofs.YtjdapfimjpbnmaaQ.PScr
open Go.RowKit Go.Proofs.YtjdapfimjpbnmaaW.PrintWords Go.Proofs.YtjdapfimjpbnmaaW.PrintMore
open Go.Proofs.Ytjdapfimjpbnmaa (four valB byteB rightB Byte four_len evRightB evHas evRest numB valB_snoc valB_bd valB_bd4 or_add_nat str_inj str_data str_empty toList_eq fold_bd)
/-! Events written: 'Encode' and the law's bytes. -/
def evBytes (e : Ev) : List Int := e.f0 % 256 :: (beN e.f1 3 ++ beN e.f2 3 ++ beN e.f3 3 ++ beN e.f4.f0 4 ++ [e.f4.f1 % 256, (e.f5.size : Int) % 256] ++ bytesOf e.f5)
theorem beN_len (n : Int) : ∀ s, (beN n s).length = s
  | 0 => rfl
  | s + 1 => by simp [beN, beN_len n s]
theorem evBytes_len (e : Ev) : (evBytes e).length = 16 + e.f5.size := by
  simp [evBytes, beN_len, bytesOf_length]
  omega
structure Small (e : Ev) : Prop where
  kind : 0 ≤ e.f0 ∧ e.f0 ≤ 10
  i : 0 ≤ e.f1 ∧ e.f1 ≤ 65536
  k : 0 ≤ e.f2 ∧ e.f2 ≤ 65536
  n : 0 ≤ e.f3 ∧ e.f3 ≤ 65536
  l : 0 ≤ e.f4.f1 ∧ e.f4.f1 ≤ 32
  p : e.f5.size ≤ 240
theorem right_small (e : Ev) (h : rightE e = true) : Small e := by
  unfold rightE evRightB numB rightB at h
  simp only [Bool.and_eq_true, decide_eq_true_eq] at h
  obtain ⟨⟨⟨⟨⟨⟨⟨⟨⟨⟨⟨⟨h1, h2⟩, ⟨h3, h4, -⟩⟩, h5⟩, -⟩, h6⟩, h7⟩, h8⟩, -⟩, -⟩, -⟩, -⟩, -⟩ := h
  exact ⟨⟨h1, h2⟩, h6, h7, h8, ⟨h3, h4⟩, h5⟩
theorem rd_T (xs : List Ev) (j : Nat) (h : j < xs.length) : rd_T30 xs (j : Int) = xs[j] := by simp [rd_T30, h]
theorem enc_put (k : Nat) (x : List Int) (xs : List Ev) (L j : Int) (y : List Int) (i : Nat) (hy : y.length = 3) (hi : i < 3) (v : Int) (hv : rd y (i : Int) = v) (h0 : 0 ≤ v) (h1 : v ≤ 65536) (hx : x.length ≤ 140737488000000) (e : Ev) :
    script_Encode.l1 (k + 6) x xs L j y (y.length : Int) (i : Int) e.f0 e.f1 e.f2 e.f3 e.f4.f0 e.f4.f1 e.f5 = script_Encode.l1 (k + 5) (x ++ beN v 3) xs L j y (y.length : Int) ((i + 1 : Nat) : Int) e.f0 e.f1 e.f2 e.f3 e.f4.f0 e.f4.f1 e.f5 := by
  have hp : script_put.f (k + 5) x (IntKind.u64.wrap v) 3 = some (x ++ beN v 3) := put_nice k v 3 x (by omega) h0 (by omega) (by omega)
  rw [show k + 6 = (k + 5) + 1 from rfl, script_Encode.l1, if_pos (by omega), if_pos (by omega), if_pos (by omega), hv, hp, Option.bind_some, w64 _ (by omega) (by omega)]
  rfl
theorem enc_end (k : Nat) (x : List Int) (xs : List Ev) (L : Int) (j : Nat) (hj : j < 1000000) (y : List Int) (hy : y.length = 3) (hx : x.length ≤ 140737488000000) (e : Ev) (he : Small e) (ha : okE e) :
    script_Encode.l1 (k + 6) x xs L (j : Int) y (y.length : Int) ((3 : Nat) : Int) e.f0 e.f1 e.f2 e.f3 e.f4.f0 e.f4.f1 e.f5 = script_Encode.l0 (k + 5) ((((x ++ beN e.f4.f0 4) ++ [e.f4.f1 % 256, (e.f5.size : Int) % 256]) ++ bytesOf e.f5)) xs L ((j + 1 : Nat) : Int) := by
  obtain ⟨a0, a1⟩ := ha
  have hp : script_put.f (k + 5) x (IntKind.u64.wrap e.f4.f0) 4 = some (x ++ beN e.f4.f0 4) := put_nice k e.f4.f0 4 x (by omega) a0 (by omega) (by omega)
  have h240 := he.p
  rw [show k + 6 = (k + 5) + 1 from rfl, script_Encode.l1, if_neg (by omega), hp, Option.bind_some, Option.bind_some, if_pos (by simp [beN_len]; omega), Option.bind_some, if_pos (by simp [beN_len]; omega), w64 _ (by omega) (by omega)]
  rfl
theorem enc_l0 (xs : List Ev) (ho : ∀ e ∈ xs, okE e) (hl : xs.length ≤ 9000) : ∀ (n j k : Nat) (x : List Int), j + n = xs.length → x.length + 300 * n ≤ 140737488000000 →
    script_Encode.l0 (k + 5 * n + 6) x xs (xs.length : Int) (j : Int) = some (if (xs.drop j).all rightE = true then (x ++ (xs.drop j).flatMap evBytes, 0) else ([], 1))
  | 0, j, k, x, h, hx => by
    rw [script_Encode.l0, if_neg (by omega), List.drop_eq_nil_of_le (by omega)]
    simp
  | n + 1, j, k, x, h, hx => by
    have hj : j < xs.length := by omega
    have hoe := ho xs[j] (List.getElem_mem hj)
    rw [List.drop_eq_getElem_cons hj, List.all_cons]
    rw [show k + 5 * (n + 1) + 6 = (k + 5 * n + 5 + 5) + 1 by omega, script_Encode.l0, if_pos (by omega), if_pos (by omega), if_pos (by omega), rd_T xs j hj, Right_nice _ _ _ _ _ _ _ _ hoe, Option.bind_some]
    show (if rightE xs[j] = true then _ else _) = _
    cases hr : rightE xs[j] with
    | false => rfl
    | true =>
      have he := right_small _ hr
      have h240 := he.p
      rw [if_pos rfl, if_pos (by omega), Option.bind_some]
      rw [show k + 5 * n + 5 + 5 = (k + 5 * n + 4) + 6 by omega]
      have e0 := enc_put (k + 5 * n + 4) (x ++ [xs[j].f0 % 256]) xs (xs.length : Int) (j : Int) [xs[j].f1, xs[j].f2, xs[j].f3] 0 rfl (by omega) _ rfl he.i.1 he.i.2 (by simp; omega) xs[j]
      have e1 := enc_put (k + 5 * n + 3) ((x ++ [xs[j].f0 % 256]) ++ beN xs[j].f1 3) xs (xs.length : Int) (j : Int) [xs[j].f1, xs[j].f2, xs[j].f3] 1 rfl (by omega) _ rfl he.k.1 he.k.2 (by simp [beN_len]; omega) xs[j]
      have e2 := enc_put (k + 5 * n + 2) (((x ++ [xs[j].f0 % 256]) ++ beN xs[j].f1 3) ++ beN xs[j].f2 3) xs (xs.length : Int) (j : Int) [xs[j].f1, xs[j].f2, xs[j].f3] 2 rfl (by omega) _ rfl he.n.1 he.n.2 (by simp [beN_len]; omega) xs[j]
      have e3 := enc_end (k + 5 * n + 1) ((((x ++ [xs[j].f0 % 256]) ++ beN xs[j].f1 3) ++ beN xs[j].f2 3) ++ beN xs[j].f3 3) xs (xs.length : Int) j (by omega) [xs[j].f1, xs[j].f2, xs[j].f3] rfl (by simp [beN_len]; omega) xs[j] he hoe
      refine (e0.trans (e1.trans (e2.trans e3))).trans ?_
      rw [show k + 5 * n + 1 + 5 = k + 5 * n + 6 by omega, enc_l0 xs ho hl n (j + 1) k _ (by omega) (by simp [beN_len, bytesOf_length]; omega)]
      clear e0 e1 e2 e3
      generalize xs.drop (j + 1) = tl
      generalize xs[j] = e
      simp [evBytes]
def encM (n s : Int) (xs : List Ev) : List Int × Int :=
  if 8192 < xs.length then ([], 7) else if n < 1 ∨ 8 < n ∨ s < 1 ∨ 512 < s then ([], 1) else if xs.all rightE = true then ([n % 256] ++ beN s 2 ++ xs.flatMap evBytes, 0) else ([], 1)
theorem Encode_nice (k : Nat) (n s : Int) (xs : List Ev) (ho : ∀ e ∈ xs, okE e) (hl : xs.length ≤ 9000) : script_Encode.f (k + 5 * xs.length + 20) n s xs = some (encM n s xs) := by
  unfold script_Encode.f encM
  by_cases h1 : 8192 < xs.length
  · rw [if_pos (by omega), if_pos h1]
  rw [if_neg (by omega), if_neg h1]
  have j0t : ∀ k, script_Encode.j0 (k + 1) n s xs true = some ([], 1) := fun k => by rw [script_Encode.j0, if_pos rfl]
  by_cases hn : n < 1
  · rw [if_pos hn, if_pos (Or.inl hn), show k + 5 * xs.length + 20 = (k + 5 * xs.length + 19) + 1 by omega, j0t]
  by_cases hn8 : 8 < n
  · rw [if_neg hn, if_pos (by omega), if_pos (Or.inr (Or.inl hn8)), show k + 5 * xs.length + 20 = (k + 5 * xs.length + 19) + 1 by omega, j0t]
  by_cases hs : s < 1
  · rw [if_neg hn, if_neg (by omega), if_pos hs, if_pos (Or.inr (Or.inr (Or.inl hs))), show k + 5 * xs.length + 20 = (k + 5 * xs.length + 19) + 1 by omega, j0t]
  by_cases hs5 : 512 < s
  · rw [if_neg hn, if_neg (by omega), if_neg hs, decide_eq_true (show s > 512 by omega), if_pos (Or.inr (Or.inr (Or.inr hs5))), show k + 5 * xs.length + 20 = (k + 5 * xs.length + 19) + 1 by omega, j0t]
  have hp : script_put.f ((k + 5 * xs.length + 14) + 5) [n % 256] (IntKind.u64.wrap s) 2 = some ([n % 256] ++ beN s 2) := put_nice _ s 2 _ (by omega) (by omega) (by omega) (by simp)
  rw [if_neg hn, if_neg (by omega), if_neg hs, decide_eq_false (show ¬ s > 512 by omega), if_neg (by omega), show k + 5 * xs.length + 20 = ((k + 5 * xs.length + 14) + 5) + 1 by omega, script_Encode.j0, if_neg (by decide), hp, Option.bind_some]
  have := enc_l0 xs ho hl xs.length 0 (k + 13) ([n % 256] ++ beN s 2) (by omega) (by simp [beN_len]; omega)
  rw [List.drop_zero, show k + 13 + 5 * xs.length + 6 = (k + 5 * xs.length + 14) + 5 by omega] at this
  exact this
theorem byt_put (k : Nat) (x : List Int) (xs : List Ev) (L j : Int) (y : List Int) (i : Nat) (hy : y.length = 3) (hi : i < 3) (v : Int) (hv : rd y (i : Int) = v) (h0 : 0 ≤ v) (h1 : v ≤ 65536) (hx : x.length ≤ 140737488000000) (e : Ev) :
    wayfarerlaw14_Bytes.l1 (k + 1) x xs L j y (y.length : Int) (i : Int) e.f0 e.f1 e.f2 e.f3 e.f4.f0 e.f4.f1 e.f5 = wayfarerlaw14_Bytes.l1 k (x ++ beN v 3) xs L j y (y.length : Int) ((i + 1 : Nat) : Int) e.f0 e.f1 e.f2 e.f3 e.f4.f0 e.f4.f1 e.f5 := by
  have d1 : Int.tdiv v 65536 = v / 65536 := Int.tdiv_eq_ediv_of_nonneg h0
  have d2 : Int.tdiv v 256 = v / 256 := Int.tdiv_eq_ediv_of_nonneg h0
  have d3 : Int.tmod v 256 = v % 256 := Int.tmod_eq_emod_of_nonneg h0
  have d4 : Int.tmod (v / 256) 256 = v / 256 % 256 := Int.tmod_eq_emod_of_nonneg (by omega)
  have hb : ([(wrap64 (Int.tdiv v 65536)) % 256, (Int.tmod (wrap64 (Int.tdiv v 256)) 256) % 256, (Int.tmod v 256) % 256] : List Int) = beN v 3 := by
    rw [d1, d2, d3, w64 _ (by omega) (by omega), w64 _ (by omega) (by omega), d4]
    simp [beN]
  rw [wayfarerlaw14_Bytes.l1, if_pos (by omega), if_pos (by omega), if_pos (by omega), hv, hb, Option.bind_some, if_pos (by rw [beN_len]; omega), w64 _ (by omega) (by omega)]
  rfl
theorem byt_end (k : Nat) (x : List Int) (xs : List Ev) (L : Int) (j : Nat) (hj : j < 1000000) (y : List Int) (hy : y.length = 3) (hx : x.length ≤ 140737488000000) (e : Ev) (he : Small e) :
    wayfarerlaw14_Bytes.l1 (k + 1) x xs L (j : Int) y (y.length : Int) ((3 : Nat) : Int) e.f0 e.f1 e.f2 e.f3 e.f4.f0 e.f4.f1 e.f5 = wayfarerlaw14_Bytes.l0 k ((((x ++ beN e.f4.f0 4) ++ [e.f4.f1 % 256, (e.f5.size : Int) % 256]) ++ bytesOf e.f5)) xs L ((j + 1 : Nat) : Int) := by
  have h240 := he.p
  rw [wayfarerlaw14_Bytes.l1, if_neg (by omega), Option.bind_some, if_pos (by simp; omega), Option.bind_some, if_pos (by simp; omega), w64 _ (by omega) (by omega)]
  simp [beN]
theorem byt_l0 (xs : List Ev) (hr : ∀ e ∈ xs, rightE e = true) (hl : xs.length ≤ 9000) : ∀ (n j k : Nat) (x : List Int), j + n = xs.length → x.length + 300 * n ≤ 140737488000000 →
    wayfarerlaw14_Bytes.l0 (k + 5 * n + 1) x xs (xs.length : Int) (j : Int) = some (x ++ (xs.drop j).flatMap evBytes)
  | 0, j, k, x, h, hx => by
    rw [wayfarerlaw14_Bytes.l0, if_neg (by omega), List.drop_eq_nil_of_le (by omega)]
    simp
  | n + 1, j, k, x, h, hx => by
    have hj : j < xs.length := by omega
    have he := right_small _ (hr xs[j] (List.getElem_mem hj))
    have h240 := he.p
    rw [List.drop_eq_getElem_cons hj]
    rw [show k + 5 * (n + 1) + 1 = (k + 5 * n + 1 + 1 + 1 + 1 + 1) + 1 by omega, wayfarerlaw14_Bytes.l0, if_pos (by omega), if_pos (by omega), if_pos (by omega), rd_T xs j hj, if_pos (by omega), Option.bind_some]
    have e0 := byt_put (k + 5 * n + 1 + 1 + 1 + 1) (x ++ [xs[j].f0 % 256]) xs (xs.length : Int) (j : Int) [xs[j].f1, xs[j].f2, xs[j].f3] 0 rfl (by omega) _ rfl he.i.1 he.i.2 (by simp; omega) xs[j]
    have e1 := byt_put (k + 5 * n + 1 + 1 + 1) ((x ++ [xs[j].f0 % 256]) ++ beN xs[j].f1 3) xs (xs.length : Int) (j : Int) [xs[j].f1, xs[j].f2, xs[j].f3] 1 rfl (by omega) _ rfl he.k.1 he.k.2 (by simp [beN_len]; omega) xs[j]
    have e2 := byt_put (k + 5 * n + 1 + 1) (((x ++ [xs[j].f0 % 256]) ++ beN xs[j].f1 3) ++ beN xs[j].f2 3) xs (xs.length : Int) (j : Int) [xs[j].f1, xs[j].f2, xs[j].f3] 2 rfl (by omega) _ rfl he.n.1 he.n.2 (by simp [beN_len]; omega) xs[j]
    have e3 := byt_end (k + 5 * n + 1) ((((x ++ [xs[j].f0 % 256]) ++ beN xs[j].f1 3) ++ beN xs[j].f2 3) ++ beN xs[j].f3 3) xs (xs.length : Int) j (by omega) [xs[j].f1, xs[j].f2, xs[j].f3] rfl (by simp [beN_len]; omega) xs[j] he
    refine (e0.trans (e1.trans (e2.trans e3))).trans ?_
    rw [byt_l0 xs hr hl n (j + 1) k _ (by omega) (by simp [beN_len, bytesOf_length]; omega)]
    clear e0 e1 e2 e3
    generalize xs.drop (j + 1) = tl
    generalize xs[j] = e
    simp [evBytes]
theorem Bytes_nice (k : Nat) (n s : Int) (xs : List Ev) (hr : ∀ e ∈ xs, rightE e = true) (hl : xs.length ≤ 9000) (hs : 0 ≤ s ∧ s ≤ 65535) : wayfarerlaw14_Bytes.f (k + 5 * xs.length + 1) n s xs = some ([n % 256] ++ beN s 2 ++ xs.flatMap evBytes) := by
  unfold wayfarerlaw14_Bytes.f
  have d2 : Int.tdiv s 256 = s / 256 := Int.tdiv_eq_ediv_of_nonneg hs.1
  have d3 : Int.tmod s 256 = s % 256 := Int.tmod_eq_emod_of_nonneg hs.1
  have hb : ([n % 256, (wrap64 (Int.tdiv s 256)) % 256, (Int.tmod s 256) % 256] : List Int) = [n % 256] ++ beN s 2 := by
    rw [d2, d3, w64 _ (by omega) (by omega)]
    simp [beN]
  rw [hb]
  have := byt_l0 xs hr hl xs.length 0 k ([n % 256] ++ beN s 2) (by omega) (by simp [beN_len]; omega)
  rw [List.drop_zero] at this
  exact this
end Go.Proofs.YtjdapfimjpbnmaaQ.PScr
end
section
set_option linter.unusedVariables false
set_option linter.unusedSimpArgs false
namespace Go.Proofs.YtjdapfimjpbnmaaQ.PScr
open Go.RowKit Go.Proofs.YtjdapfimjpbnmaaW.PrintWords Go.Proofs.YtjdapfimjpbnmaaW.PrintMore
open Go.Proofs.Ytjdapfimjpbnmaa (four valB byteB rightB Byte four_len evRightB evHas evRest numB valB_snoc valB_bd valB_bd4 or_add_nat str_inj str_data str_empty toList_eq fold_bd)
/-! Events read: 'Decode'; what is written is read, and what is read is written. -/
def decR : Nat → List Int → List Ev → Nat → List Ev × Nat × Int
  | 0, _, acc, pos => (acc, pos, 0)
  | f + 1, l, acc, pos => if l = [] then (acc, pos, 0) else if oneB l = true then (if acc.length = 8192 then (acc, pos, 7) else decR f (l.drop (evN l)) (acc ++ [evOf l]) (pos + evN l)) else (acc, pos, 6)
theorem oneB_len (l : List Int) (h : oneB l = true) : 16 ≤ evN l ∧ evN l ≤ l.length := by
  simp only [oneB, Bool.and_eq_true, decide_eq_true_eq] at h
  refine ⟨?_, h.1.2⟩
  unfold evN
  omega
theorem dec_l0 (l : List Int) (hb : Byte l) (hl : l.length ≤ 1000000) (n s : Int) : ∀ (f pos k : Nat) (acc : List Ev), pos ≤ l.length → l.length - pos < f → acc.length ≤ 8192 →
    script_Decode.l0 (k + f + 10) (strOfNums l) n s acc (pos : Int) = some (n, s, (decR f (l.drop pos) acc pos).1, ((decR f (l.drop pos) acc pos).2.1 : Int), (decR f (l.drop pos) acc pos).2.2)
  | 0, pos, k, acc, hp, hf, ha => by omega
  | f + 1, pos, k, acc, hp, hf, ha => by
    rw [show k + (f + 1) + 10 = (k + f + 10) + 1 by omega, script_Decode.l0, size_str]
    by_cases he : pos = l.length
    · rw [if_neg (by omega), decR, if_pos (by rw [he]; simp)]
    have hne : l.drop pos ≠ [] := by intro h; have := List.drop_eq_nil_iff.1 h; omega
    obtain ⟨q, hq, h1, h2⟩ := one_nice (k + f) (l.drop pos) (hb.drop pos) (by simp; omega)
    rw [if_pos (by omega), if_pos (by omega), if_pos (by omega), ext_str, Int.toNat_natCast, List.take_of_length_le (by simp), hq, Option.bind_some, h1, decR, if_neg hne]
    cases ho : oneB (l.drop pos) with
    | false => rfl
    | true =>
      rw [if_pos rfl, if_pos rfl]
      by_cases hc : acc.length = 8192
      · rw [if_pos (by omega), if_pos hc]
      obtain ⟨g0, g1⟩ := oneB_len _ ho
      rw [List.length_drop] at g1
      have := dec_l0 l hb hl n s f (pos + evN (l.drop pos)) k (acc ++ [evOf (l.drop pos)]) (by omega) (by omega) (by simp; omega)
      rw [← List.drop_drop] at this
      rw [if_neg (by omega), if_neg hc, if_pos (by omega), h2 ho]
      simp only
      rw [w64 _ (by omega) (by omega)]
      exact this
def netN (l : List Int) : Int := rd l 0
def netS (l : List Int) : Int := valB ((l.drop 1).take 2)
def headB (l : List Int) : Bool := decide (3 ≤ l.length) && decide (1 ≤ netN l) && decide (netN l ≤ 8) && decide (1 ≤ netS l) && decide (netS l ≤ 512)
def decM (l : List Int) : Int × Int × List Ev × Int × Int :=
  if 262144 < l.length then (0, 0, [], 0, 7) else if headB l = true then (netN l, netS l, (decR (l.length + 1) (l.drop 3) [] 3).1, ((decR (l.length + 1) (l.drop 3) [] 3).2.1 : Int), (decR (l.length + 1) (l.drop 3) [] 3).2.2) else (0, 0, [], 0, 6)
theorem netS_bd (l : List Int) (hb : Byte l) : 0 ≤ netS l ∧ netS l ≤ 65535 := by
  have h1 := valB_bd ((l.drop 1).take 2) ((hb.drop 1).take 2)
  have h2 : (256 : Int) ^ ((l.drop 1).take 2).length ≤ 256 ^ 2 := by
    rcases (show ((l.drop 1).take 2).length = 0 ∨ ((l.drop 1).take 2).length = 1 ∨ ((l.drop 1).take 2).length = 2 by simp; omega) with e | e | e <;> rw [e] <;> decide
  unfold netS
  omega
theorem Decode_nice (k : Nat) (l : List Int) (hb : Byte l) (hl : l.length ≤ 1000000) : script_Decode.f (k + l.length + 20) l = some (decM l) := by
  unfold script_Decode.f decM
  by_cases h1 : 262144 < l.length
  · rw [if_pos (by omega), if_pos h1]
  rw [if_neg (by omega), if_neg h1]
  by_cases h3 : l.length < 3
  · rw [if_pos (by omega), if_neg (by simp [headB]; omega)]
  have b0 := rd_bd l hb 0 (by omega)
  have hb0 : bt (strOfNums l) 0 = netN l := bt_str l hb 0 (by omega)
  have hn0 : wrap64 (netN l) = netN l := w64 _ (Int.le_trans (by decide) b0.1) (Int.le_trans b0.2 (by decide))
  have sb := netS_bd l hb
  have hs0 : wrap64 (netS l) = netS l := w64 _ (by omega) (by omega)
  have g := get_nice (k + l.length + 15) ((l.drop 1).take 2) ((hb.drop 1).take 2) (by simp; omega)
  rw [if_neg (by omega), size_str, if_pos (by omega), if_pos (by decide), if_pos (by omega), ext_str, show k + l.length + 20 = (k + l.length + 15) + 5 from rfl, g, Option.bind_some, hb0, hn0]
  show (if netN l < 1 then script_Decode.j0 _ _ _ (wrap64 (netS l)) true else if netN l > 8 then script_Decode.j0 _ _ _ (wrap64 (netS l)) true else if wrap64 (netS l) < 1 then script_Decode.j0 _ _ _ (wrap64 (netS l)) true else script_Decode.j0 _ _ _ (wrap64 (netS l)) (decide (wrap64 (netS l) > 512))) = _
  rw [hs0]
  have jt : ∀ b, b = true → script_Decode.j0 (k + l.length + 15 + 5) (strOfNums l) (netN l) (netS l) b = some (0, 0, [], 0, 6) := by
    rintro b rfl
    rw [show k + l.length + 15 + 5 = (k + l.length + 19) + 1 by omega, script_Decode.j0, if_pos rfl]
  by_cases c1 : netN l < 1
  · rw [if_pos c1, jt _ rfl, if_neg (by simp [headB]; omega)]
  by_cases c2 : netN l > 8
  · rw [if_neg c1, if_pos c2, jt _ rfl, if_neg (by simp [headB]; omega)]
  by_cases c3 : netS l < 1
  · rw [if_neg c1, if_neg c2, if_pos c3, jt _ rfl, if_neg (by simp [headB]; omega)]
  by_cases c4 : netS l > 512
  · rw [if_neg c1, if_neg c2, if_neg c3, jt _ (decide_eq_true c4), if_neg (by simp [headB]; omega)]
  rw [if_neg c1, if_neg c2, if_neg c3, decide_eq_false c4, if_pos (by simp [headB]; omega), show k + l.length + 15 + 5 = (k + l.length + 19) + 1 by omega, script_Decode.j0, if_neg (by decide)]
  have := dec_l0 l hb hl (netN l) (netS l) (l.length + 1) 3 (k + 8) [] (by omega) (by omega) (by simp)
  rw [show k + 8 + (l.length + 1) + 10 = k + l.length + 19 by omega] at this
  exact this
end Go.Proofs.YtjdapfimjpbnmaaQ.PScr
end
section
set_option linter.unusedVariables false
set_option linter.unusedSimpArgs false
namespace Go.Proofs.YtjdapfimjpbnmaaQ.PScr
open Go.RowKit Go.Proofs.YtjdapfimjpbnmaaW.PrintWords Go.Proofs.YtjdapfimjpbnmaaW.PrintMore
open Go.Proofs.Ytjdapfimjpbnmaa (four valB byteB rightB Byte four_len evRightB evHas evRest numB valB_snoc valB_bd valB_bd4 or_add_nat str_inj str_data str_empty toList_eq fold_bd)
/-! What is written is read, and what is read is written. -/
theorem str_bytesOf (p : ByteArray) : strOfNums (bytesOf p) = p := by
  apply ByteArray.ext
  apply Array.ext'
  simp only [strOfNums, bytesOf, List.map_map, List.toList_toArray]
  refine (List.map_congr_left (g := id) fun x _ => ?_).trans (List.map_id _)
  simp
theorem bytesOf_byte (p : ByteArray) : Byte (bytesOf p) := by
  intro x hx
  simp only [bytesOf, List.mem_map] at hx
  obtain ⟨b, -, rfl⟩ := hx
  have := b.toNat_lt
  omega
theorem ev_cons (e : Ev) (t : List Int) : evBytes e ++ t = e.f0 % 256 :: e.f1 / 256 ^ 2 % 256 :: e.f1 / 256 ^ 1 % 256 :: e.f1 / 256 ^ 0 % 256 :: e.f2 / 256 ^ 2 % 256 :: e.f2 / 256 ^ 1 % 256 :: e.f2 / 256 ^ 0 % 256 :: e.f3 / 256 ^ 2 % 256 :: e.f3 / 256 ^ 1 % 256 :: e.f3 / 256 ^ 0 % 256 ::
    e.f4.f0 / 256 ^ 3 % 256 :: e.f4.f0 / 256 ^ 2 % 256 :: e.f4.f0 / 256 ^ 1 % 256 :: e.f4.f0 / 256 ^ 0 % 256 :: e.f4.f1 % 256 :: (e.f5.size : Int) % 256 :: (bytesOf e.f5 ++ t) := rfl
theorem one_ev (e : Ev) (t : List Int) (hr : rightE e = true) (ho : okE e) : oneB (evBytes e ++ t) = true ∧ evN (evBytes e ++ t) = 16 + e.f5.size ∧ evOf (evBytes e ++ t) = e := by
  have hs := right_small e hr
  obtain ⟨kind, i, k, n, ⟨a, l⟩, p⟩ := e
  obtain ⟨⟨k0, k1⟩, ⟨i0, i1⟩, ⟨q0, q1⟩, ⟨n0, n1⟩, ⟨l0, l1⟩, hp⟩ := hs
  obtain ⟨a0, a1⟩ := ho
  simp only at k0 k1 i0 i1 q0 q1 n0 n1 l0 l1 hp a0 a1
  have e15 : (rd (evBytes ⟨kind, i, k, n, ⟨a, l⟩, p⟩ ++ t) 15).toNat = p.size := by
    show ((p.size : Int) % 256).toNat = p.size
    omega
  have hN : evN (evBytes ⟨kind, i, k, n, ⟨a, l⟩, p⟩ ++ t) = 16 + p.size := by unfold evN; rw [e15]
  have hx : ((evBytes ⟨kind, i, k, n, ⟨a, l⟩, p⟩ ++ t).drop 16).take p.size = bytesOf p := by
    show (bytesOf p ++ t).take p.size = bytesOf p
    rw [← bytesOf_length p, List.take_left]
  have hE : evOf (evBytes ⟨kind, i, k, n, ⟨a, l⟩, p⟩ ++ t) = ⟨kind, i, k, n, ⟨a, l⟩, p⟩ := by
    unfold evOf
    rw [e15, hx, str_bytesOf]
    have f0 : rd (evBytes ⟨kind, i, k, n, ⟨a, l⟩, p⟩ ++ t) 0 = kind := by show kind % 256 = kind; omega
    have f14 : rd (evBytes ⟨kind, i, k, n, ⟨a, l⟩, p⟩ ++ t) 14 = l := by show l % 256 = l; omega
    have g1 : valB (((evBytes ⟨kind, i, k, n, ⟨a, l⟩, p⟩ ++ t).drop 1).take 3) = i := by show ((0 * 256 + i / 65536 % 256) * 256 + i / 256 % 256) * 256 + i / 1 % 256 = i; omega
    have g4 : valB (((evBytes ⟨kind, i, k, n, ⟨a, l⟩, p⟩ ++ t).drop 4).take 3) = k := by show ((0 * 256 + k / 65536 % 256) * 256 + k / 256 % 256) * 256 + k / 1 % 256 = k; omega
    have g7 : valB (((evBytes ⟨kind, i, k, n, ⟨a, l⟩, p⟩ ++ t).drop 7).take 3) = n := by show ((0 * 256 + n / 65536 % 256) * 256 + n / 256 % 256) * 256 + n / 1 % 256 = n; omega
    have g10 : valB (((evBytes ⟨kind, i, k, n, ⟨a, l⟩, p⟩ ++ t).drop 10).take 4) = a := by show (((0 * 256 + a / 16777216 % 256) * 256 + a / 65536 % 256) * 256 + a / 256 % 256) * 256 + a / 1 % 256 = a; omega
    rw [f0, f14, g1, g4, g7, g10]
  refine ⟨?_, hN, hE⟩
  unfold oneB
  rw [hN, hE, hr]
  have : (evBytes ⟨kind, i, k, n, ⟨a, l⟩, p⟩ ++ t).length = 16 + p.size + t.length := by rw [List.length_append, evBytes_len]
  simp [this]
  omega
theorem be3_val (x y z : Int) (hx : 0 ≤ x ∧ x ≤ 255) (hy : 0 ≤ y ∧ y ≤ 255) (hz : 0 ≤ z ∧ z ≤ 255) : beN (valB [x, y, z]) 3 = [x, y, z] := by
  have e : valB [x, y, z] = (x * 256 + y) * 256 + z := by show ((0 * 256 + x) * 256 + y) * 256 + z = _; omega
  rw [e]
  show [((x * 256 + y) * 256 + z) / 65536 % 256, ((x * 256 + y) * 256 + z) / 256 % 256, ((x * 256 + y) * 256 + z) / 1 % 256] = _
  congr 1
  · omega
  congr 1
  · omega
  congr 1
  omega
theorem be4_val (x y z u : Int) (hx : 0 ≤ x ∧ x ≤ 255) (hy : 0 ≤ y ∧ y ≤ 255) (hz : 0 ≤ z ∧ z ≤ 255) (hu : 0 ≤ u ∧ u ≤ 255) : beN (valB [x, y, z, u]) 4 = [x, y, z, u] := by
  have e : valB [x, y, z, u] = ((x * 256 + y) * 256 + z) * 256 + u := by show (((0 * 256 + x) * 256 + y) * 256 + z) * 256 + u = _; omega
  rw [e]
  show [(((x * 256 + y) * 256 + z) * 256 + u) / 16777216 % 256, (((x * 256 + y) * 256 + z) * 256 + u) / 65536 % 256, (((x * 256 + y) * 256 + z) * 256 + u) / 256 % 256, (((x * 256 + y) * 256 + z) * 256 + u) / 1 % 256] = _
  congr 1
  · omega
  congr 1
  · omega
  congr 1
  · omega
  congr 1
  omega
theorem cut_len (l : List Int) (i n : Nat) (h : i + n ≤ l.length) : ((l.drop i).take n).length = n := by simp; omega
theorem list3 (l : List Int) (h : l.length = 3) : ∃ x y z, l = [x, y, z] := by
  match l, h with
  | [x, y, z], _ => exact ⟨x, y, z, rfl⟩
theorem list4 (l : List Int) (h : l.length = 4) : ∃ x y z u, l = [x, y, z, u] := by
  match l, h with
  | [x, y, z, u], _ => exact ⟨x, y, z, u, rfl⟩
theorem be3_cut (l : List Int) (hb : Byte l) (h : l.length = 3) : beN (valB l) 3 = l := by
  obtain ⟨x, y, z, rfl⟩ := list3 l h
  exact be3_val x y z (hb x (by simp)) (hb y (by simp)) (hb z (by simp))
theorem be4_cut (l : List Int) (hb : Byte l) (h : l.length = 4) : beN (valB l) 4 = l := by
  obtain ⟨x, y, z, u, rfl⟩ := list4 l h
  exact be4_val x y z u (hb x (by simp)) (hb y (by simp)) (hb z (by simp)) (hb u (by simp))
theorem take_cut (l : List Int) (i n m : Nat) : ((l.drop i).take n) ++ ((l.drop (i + n)).take m) = (l.drop i).take (n + m) := by
  rw [List.take_add, List.drop_drop]
theorem cut_one (l : List Int) (i : Nat) (h : i < l.length) : (l.drop i).take 1 = [rd l (i : Int)] := by
  rw [rd_at l i h, List.drop_eq_getElem_cons h]
  rfl
theorem ev_one (l : List Int) (hb : Byte l) (h : oneB l = true) : evBytes (evOf l) = l.take (evN l) ∧ rightE (evOf l) = true ∧ okE (evOf l) := by
  obtain ⟨h0, h1⟩ := oneB_len l h
  have hr : rightE (evOf l) = true := by simp only [oneB, Bool.and_eq_true] at h; exact h.2
  have b0 := rd_bd l hb 0 (by omega)
  have b14 := rd_bd l hb 14 (by omega)
  have b15 := rd_bd l hb 15 (by omega)
  refine ⟨?_, hr, valB_bd4 _ ((hb.drop 10).take 4) (by simp; omega)⟩
  have hN : evN l = 16 + (rd l 15).toNat := rfl
  generalize hz : (rd l 15).toNat = z at hN
  have hz' : rd l 15 = (z : Int) := by
    have := b15.1
    have e : rd l 15 = rd l ((15 : Nat) : Int) := rfl
    omega
  have hp : (evOf l).f5 = strOfNums ((l.drop 16).take z) := by rw [← hz]; rfl
  have hpl : ((l.drop 16).take z).length = z := by simp; omega
  unfold evBytes
  rw [hp, bytesOf_str _ ((hb.drop 16).take z), size_str, hpl]
  show rd l 0 % 256 :: (beN (valB ((l.drop 1).take 3)) 3 ++ beN (valB ((l.drop 4).take 3)) 3 ++ beN (valB ((l.drop 7).take 3)) 3 ++ beN (valB ((l.drop 10).take 4)) 4 ++ [rd l 14 % 256, (z : Int) % 256] ++ (l.drop 16).take z) = _
  rw [be3_cut _ ((hb.drop 1).take 3) (by simp; omega), be3_cut _ ((hb.drop 4).take 3) (by simp; omega), be3_cut _ ((hb.drop 7).take 3) (by simp; omega), be4_cut _ ((hb.drop 10).take 4) (by simp; omega), hN]
  have z0 : rd l 0 % 256 = rd l ((0 : Nat) : Int) := by have e : rd l 0 = rd l ((0 : Nat) : Int) := rfl; omega
  have z14 : rd l 14 % 256 = rd l ((14 : Nat) : Int) := by have e : rd l 14 = rd l ((14 : Nat) : Int) := rfl; omega
  have z15 : (z : Int) % 256 = rd l ((15 : Nat) : Int) := by have e : rd l 15 = rd l ((15 : Nat) : Int) := rfl; omega
  rw [z0, z14, z15]
  have c0 := cut_one l 0 (by omega)
  have c14 := cut_one l 14 (by omega)
  have c15 := cut_one l 15 (by omega)
  have t := take_cut l
  have e1 : rd l ((0 : Nat) : Int) :: ((l.drop 1).take 3 ++ (l.drop 4).take 3 ++ (l.drop 7).take 3 ++ (l.drop 10).take 4 ++ [rd l ((14 : Nat) : Int), rd l ((15 : Nat) : Int)] ++ (l.drop 16).take z) =
      [rd l ((0 : Nat) : Int)] ++ (l.drop 1).take 3 ++ (l.drop 4).take 3 ++ (l.drop 7).take 3 ++ (l.drop 10).take 4 ++ [rd l ((14 : Nat) : Int)] ++ [rd l ((15 : Nat) : Int)] ++ (l.drop 16).take z := by simp
  rw [e1, ← c0, ← c14, ← c15, t 0 1 3, t 0 4 3, t 0 7 3, t 0 10 4, t 0 14 1, t 0 15 1, t 0 16 z, List.drop_zero]
theorem decR_app (xs : List Ev) (hr : ∀ e ∈ xs, rightE e = true ∧ okE e) : ∀ (f : Nat) (acc : List Ev) (pos : Nat), (xs.flatMap evBytes).length < f → acc.length + xs.length ≤ 8192 → decR f (xs.flatMap evBytes) acc pos = (acc ++ xs, pos + (xs.flatMap evBytes).length, 0) := by
  induction xs with
  | nil =>
    intro f acc pos hf ha
    cases f with
    | zero => simp at hf
    | succ f => simp [decR]
  | cons e xs ih =>
    intro f acc pos hf ha
    cases f with
    | zero => simp at hf
    | succ f =>
    obtain ⟨o1, o2, o3⟩ := one_ev e (xs.flatMap evBytes) (hr e (by simp)).1 (hr e (by simp)).2
    have hne : evBytes e ++ xs.flatMap evBytes ≠ [] := by rw [ev_cons]; simp
    have hd : (evBytes e ++ xs.flatMap evBytes).drop (16 + e.f5.size) = xs.flatMap evBytes := by rw [← evBytes_len e, List.drop_left]
    simp only [List.flatMap_cons, List.length_append, List.length_cons, evBytes_len] at hf ha ⊢
    rw [decR, if_neg hne, if_pos o1, if_neg (by omega), o2, o3, hd, ih (fun y hy => hr y (by simp [hy])) f (acc ++ [e]) _ (by omega) (by simp; omega)]
    simp
    omega
theorem decR_sound : ∀ (f : Nat) (l : List Int) (acc : List Ev) (pos : Nat), Byte l → l.length < f → ∃ ys n, decR f l acc pos = (acc ++ ys, pos + n, (decR f l acc pos).2.2) ∧ n ≤ l.length ∧ ys.flatMap evBytes = l.take n ∧ (∀ y ∈ ys, rightE y = true ∧ okE y) ∧
    (((decR f l acc pos).2.2 = 0 ∧ n = l.length) ∨ ((decR f l acc pos).2.2 = 6 ∧ n < l.length ∧ oneB (l.drop n) = false) ∨ ((decR f l acc pos).2.2 = 7 ∧ (acc ++ ys).length = 8192))
  | 0, l, acc, pos, hb, hf => by omega
  | f + 1, l, acc, pos, hb, hf => by
    rw [decR]
    by_cases he : l = []
    · rw [if_pos he]
      exact ⟨[], 0, by simp, by omega, by simp, by simp, .inl ⟨rfl, by rw [he]; rfl⟩⟩
    rw [if_neg he]
    have hl : 0 < l.length := List.length_pos_iff.2 he
    cases ho : oneB l with
    | false =>
      rw [if_neg (by decide)]
      exact ⟨[], 0, by simp, by omega, by simp, by simp, .inr (.inl ⟨rfl, hl, by simpa using ho⟩)⟩
    | true =>
      rw [if_pos rfl]
      by_cases hc : acc.length = 8192
      · rw [if_pos hc]
        exact ⟨[], 0, by simp, by omega, by simp, by simp, .inr (.inr ⟨rfl, by simpa using hc⟩)⟩
      rw [if_neg hc]
      obtain ⟨g0, g1⟩ := oneB_len l ho
      obtain ⟨w1, w2, w3⟩ := ev_one l hb ho
      obtain ⟨ys, n, i1, i2, i3, i4, i5⟩ := decR_sound f (l.drop (evN l)) (acc ++ [evOf l]) (pos + evN l) (hb.drop _) (by simp; omega)
      rw [List.length_drop] at i2 i5
      refine ⟨evOf l :: ys, evN l + n, ?_, by omega, ?_, ?_, ?_⟩
      · rw [i1]
        simp
        omega
      · rw [List.flatMap_cons, w1, i3, ← List.take_add]
      · intro y hy
        rcases List.mem_cons.1 hy with rfl | hy
        · exact ⟨w2, w3⟩
        · exact i4 y hy
      · rcases i5 with ⟨a, b⟩ | ⟨a, b, c⟩ | ⟨a, b⟩
        · exact .inl ⟨a, by omega⟩
        · exact .inr (.inl ⟨a, by omega, by rw [← List.drop_drop]; exact c⟩)
        · exact .inr (.inr ⟨a, by simpa using b⟩)
end Go.Proofs.YtjdapfimjpbnmaaQ.PScr
end
section
set_option linter.unusedVariables false
set_option linter.unusedSimpArgs false
namespace Go.Proofs.YtjdapfimjpbnmaaQ.PScr
open Go.RowKit Go.Proofs.YtjdapfimjpbnmaaW.PrintWords Go.Proofs.YtjdapfimjpbnmaaW.PrintMore
open Go.Proofs.Ytjdapfimjpbnmaa (four valB byteB rightB Byte four_len evRightB evHas evRest numB valB_snoc valB_bd valB_bd4 or_add_nat str_inj str_data str_empty toList_eq fold_bd)
/-! The head's example; what is asked of few events, and of the same ones. -/
theorem beN_byte (n : Int) : ∀ s, Byte (beN n s)
  | 0 => by intro x hx; cases hx
  | s + 1 => by
    intro x hx
    rcases List.mem_cons.1 hx with rfl | hx
    · omega
    · exact beN_byte n s x hx
theorem evBytes_byte (e : Ev) : Byte (evBytes e) := by
  intro x hx
  simp only [evBytes, List.mem_cons, List.mem_append, List.not_mem_nil, or_false] at hx
  rcases hx with rfl | ((((h | h) | h) | h) | rfl | rfl) | h
  · omega
  · exact beN_byte _ _ x h
  · exact beN_byte _ _ x h
  · exact beN_byte _ _ x h
  · exact beN_byte _ _ x h
  · omega
  · omega
  · exact bytesOf_byte _ x h
theorem flat_byte (xs : List Ev) : Byte (xs.flatMap evBytes) := by
  intro x hx
  obtain ⟨e, -, h⟩ := List.mem_flatMap.1 hx
  exact evBytes_byte e x h
theorem flat_len (xs : List Ev) (hs : ∀ e ∈ xs, e.f5.size ≤ 240) : (xs.flatMap evBytes).length ≤ 256 * xs.length := by
  induction xs with
  | nil => simp
  | cons e xs ih =>
    have h1 := ih (fun y hy => hs y (by simp [hy]))
    have h2 := hs e (by simp)
    simp only [List.flatMap_cons, List.length_append, evBytes_len, List.length_cons]
    omega
/-- A script's bytes. -/
def scr (n s : Int) (xs : List Ev) : List Int := [n % 256] ++ beN s 2 ++ xs.flatMap evBytes
theorem scr_byte (n s : Int) (xs : List Ev) : Byte (scr n s xs) := by
  intro x hx
  simp only [scr, List.mem_append, List.mem_cons, List.not_mem_nil, or_false] at hx
  rcases hx with (rfl | h) | h
  · omega
  · exact beN_byte _ _ x h
  · exact flat_byte xs x h
theorem scr_len (n s : Int) (xs : List Ev) : (scr n s xs).length = 3 + (xs.flatMap evBytes).length := by simp [scr, beN_len]; omega
theorem scr_drop (n s : Int) (xs : List Ev) : (scr n s xs).drop 3 = xs.flatMap evBytes := rfl
theorem scr_head (n s : Int) (xs : List Ev) (hn : 1 ≤ n ∧ n ≤ 8) (hs : 1 ≤ s ∧ s ≤ 512) : netN (scr n s xs) = n ∧ netS (scr n s xs) = s ∧ headB (scr n s xs) = true := by
  have h1 : netN (scr n s xs) = n := by show n % 256 = n; omega
  have h2 : netS (scr n s xs) = s := by show (0 * 256 + s / 256 % 256) * 256 + s / 1 % 256 = s; omega
  refine ⟨h1, h2, ?_⟩
  unfold headB
  rw [h1, h2, scr_len]
  simp
  omega
theorem dec_scr (n s : Int) (xs : List Ev) (hn : 1 ≤ n ∧ n ≤ 8) (hs : 1 ≤ s ∧ s ≤ 512) (hr : ∀ e ∈ xs, rightE e = true ∧ okE e) (hl : xs.length ≤ 8192) (hL : (scr n s xs).length ≤ 262144) : decM (scr n s xs) = (n, s, xs, ((scr n s xs).length : Int), 0) := by
  obtain ⟨h1, h2, h3⟩ := scr_head n s xs hn hs
  have h4 := decR_app xs hr ((scr n s xs).length + 1) [] 3 (by rw [scr_len]; omega) (by simpa using hl)
  unfold decM
  rw [if_neg (by omega), if_pos h3, h1, h2, scr_drop, h4, scr_len]
  simp
theorem enc_scr (n s : Int) (xs : List Ev) (hn : 1 ≤ n ∧ n ≤ 8) (hs : 1 ≤ s ∧ s ≤ 512) (hr : ∀ e ∈ xs, rightE e = true) (hl : xs.length ≤ 8192) : encM n s xs = (scr n s xs, 0) := by
  unfold encM
  rw [if_neg (by omega), if_neg (by omega), if_pos (by simpa using hr)]
  rfl
def tickE : Ev := ⟨6, 2, 0, 0, ⟨0, 0⟩, ⟨#[]⟩⟩
theorem tick_right : rightE tickE = true := by decide
theorem tick_ok : okE tickE := by unfold okE tickE; decide
theorem head_true (k : Nat) : wayfarerlaw14_head.f (k + 60) = some true := by
  have h1 := Encode_nice (k + 35) 3 300 [tickE] (by intro e he; simp at he; rw [he]; exact tick_ok) (by simp)
  have h2 : encM 3 300 [tickE] = (scr 3 300 [tickE], 0) := enc_scr 3 300 [tickE] (by omega) (by omega) (by intro e he; simp at he; rw [he]; exact tick_right) (by simp)
  have h3 : scr 3 300 [tickE] = [3, 1, 44, 6, 0, 0, 2, 0, 0, 0, 0, 0, 0, 0, 0, 0, 0, 0, 0] := by decide
  have h4 := Decode_nice (k + 21) (scr 3 300 [tickE]) (scr_byte _ _ _) (by rw [h3]; decide)
  have h5 := dec_scr 3 300 [tickE] (by omega) (by omega) (by intro e he; simp at he; rw [he]; exact ⟨tick_right, tick_ok⟩) (by simp) (by rw [h3]; decide)
  rw [h2, show k + 35 + 5 * [tickE].length + 20 = k + 60 from rfl] at h1
  rw [h5, h3, show k + 21 + ([3, 1, 44, 6, 0, 0, 2, 0, 0, 0, 0, 0, 0, 0, 0, 0, 0, 0, 0] : List Int).length + 20 = k + 60 from rfl] at h4
  rw [h3] at h1
  unfold wayfarerlaw14_head.f
  have h6 : script_Encode.f (k + 60) 3 300 ([(⟨6, 2, 0, 0, (⟨0, 0⟩ : Px), (⟨#[]⟩ : ByteArray)⟩ : Ev)] : List Ev) = some ([3, 1, 44, 6, 0, 0, 2, 0, 0, 0, 0, 0, 0, 0, 0, 0, 0, 0, 0], 0) := h1
  rw [h6, Option.bind_some]
  simp only [h4]
  rfl
theorem few_l0 (xs ys : List Ev) (hl : xs.length ≤ 140737488000000) : ∀ (n j k : Nat), j + n = xs.length → wayfarerlaw14_Few.l0 (k + n + 1) ys xs (xs.length : Int) (j : Int) = some ((xs.drop j).all (fun e => decide (e.f5.size ≤ 400)) && decide (ys.length ≤ 150))
  | 0, j, k, h => by
    rw [wayfarerlaw14_Few.l0, if_neg (by omega), List.drop_eq_nil_of_le (by omega)]
    simp
    omega
  | n + 1, j, k, h => by
    have hj : j < xs.length := by omega
    rw [show k + (n + 1) + 1 = (k + n + 1) + 1 by omega, wayfarerlaw14_Few.l0, if_pos (by omega), if_pos (by omega), if_pos (by omega), rd_T xs j hj, List.drop_eq_getElem_cons hj, List.all_cons]
    by_cases hs : xs[j].f5.size ≤ 400
    · rw [if_neg (by omega), w64 _ (by omega) (by omega)]
      have := few_l0 xs ys hl n (j + 1) k (by omega)
      simp only [hs, decide_true, Bool.true_and]
      exact this
    · rw [if_pos (by omega)]
      simp [hs]
theorem Few_nice (k : Nat) (xs : List Ev) (hl : xs.length ≤ 140737488000000) : wayfarerlaw14_Few.f (k + xs.length + 1) xs = some (xs.all (fun e => decide (e.f5.size ≤ 400)) && decide (xs.length ≤ 150)) := by
  have := few_l0 xs xs hl xs.length 0 k (by omega)
  rw [List.drop_zero] at this
  exact this
theorem same_l0 (xs : List Ev) (hl : xs.length ≤ 1000000) : ∀ (n j k : Nat), j + n = xs.length → wayfarerlaw14_Same.l0 (k + n + 1) xs xs (xs.length : Int) (j : Int) = some true
  | 0, j, k, h => by rw [wayfarerlaw14_Same.l0, if_neg (by omega)]
  | n + 1, j, k, h => by
    have hj : j < xs.length := by omega
    rw [show k + (n + 1) + 1 = (k + n + 1) + 1 by omega, wayfarerlaw14_Same.l0, if_pos (by omega), if_pos (by omega), if_pos (by omega), if_pos (by omega), if_neg (by simp), w64 _ (by omega) (by omega)]
    exact same_l0 xs hl n (j + 1) k (by omega)
theorem Same_nice (k : Nat) (xs : List Ev) (hl : xs.length ≤ 1000000) : wayfarerlaw14_Same.f (k + xs.length + 1) xs xs = some true := by
  unfold wayfarerlaw14_Same.f
  rw [if_pos rfl]
  exact same_l0 xs hl xs.length 0 k (by omega)
end Go.Proofs.YtjdapfimjpbnmaaQ.PScr
end
section
set_option linter.unusedVariables false
set_option linter.unusedSimpArgs false
namespace Go.Proofs.YtjdapfimjpbnmaaQ.PScr
open Go.RowKit Go.Proofs.YtjdapfimjpbnmaaW.PrintWords Go.Proofs.YtjdapfimjpbnmaaW.PrintMore
open Go.Proofs.Ytjdapfimjpbnmaa (four valB byteB rightB Byte four_len evRightB evHas evRest numB str_inj str_data str_empty toList_eq)
/-! The law ScriptBytes. -/
theorem sb_l0 (n s : Int) (xs : List Ev) (ho : ∀ e ∈ xs, okE e) (hl : xs.length ≤ 150) : ∀ (m j K : Nat) (b : Bool), j + m = xs.length →
    wayfarerlaw14_ScriptBytes.l0 (K + m + 6) n s xs b xs (xs.length : Int) (j : Int) = wayfarerlaw14_ScriptBytes.l0 (K + 6) n s xs (b && (xs.drop j).all rightE) xs (xs.length : Int) (xs.length : Int)
  | 0, j, K, b, h => by
    obtain rfl : j = xs.length := by omega
    simp
  | m + 1, j, K, b, h => by
    have hj : j < xs.length := by omega
    have hoe := ho xs[j] (List.getElem_mem hj)
    have hL : wayfarerlaw14_Right.f xs[j].f0 xs[j].f1 xs[j].f2 xs[j].f3 xs[j].f4.f0 xs[j].f4.f1 xs[j].f5 = some (rightE xs[j]) := if_pos hoe
    have ih := fun b => sb_l0 n s xs ho hl m (j + 1) K b (by omega)
    rw [List.drop_eq_getElem_cons hj, List.all_cons]
    have hR : script_Event_Right.f (K + m + 6) xs[j].f0 xs[j].f1 xs[j].f2 xs[j].f3 xs[j].f4.f0 xs[j].f4.f1 xs[j].f5 = some (rightE xs[j]) := Right_nice (K + m + 1) _ _ _ _ _ _ _ hoe
    rw [show K + (m + 1) + 6 = (K + m + 6) + 1 by omega, wayfarerlaw14_ScriptBytes.l0, if_pos (by omega), if_pos (by omega), if_pos (by omega), rd_T xs j hj, hR, Option.bind_some, hL, Option.bind_some, if_neg (by simp), w64 _ (by omega) (by omega)]
    cases b with
    | false =>
      rw [if_neg (by decide)]
      have := ih false
      simpa using this
    | true =>
      rw [if_pos rfl, Option.bind_some]
      have := ih (rightE xs[j])
      simpa using this
theorem bytes_true (n s : Int) (xs : List Ev) (ho : ∀ e ∈ xs, okE e) (hxl : xs.length ≤ 140737488000000) : wayfarerlaw14_ScriptBytes.f (xs.length + 100000) n s xs = some true := by
  unfold wayfarerlaw14_ScriptBytes.f
  have h0 := head_true (xs.length + 99940)
  rw [show xs.length + 99940 + 60 = xs.length + 100000 by omega] at h0
  have h1 := Few_nice 99999 xs hxl
  rw [show 99999 + xs.length + 1 = xs.length + 100000 by omega] at h1
  rw [h0, Option.bind_some, if_pos rfl, h1, Option.bind_some]
  by_cases hf : (xs.all (fun e => decide (e.f5.size ≤ 400)) && decide (xs.length ≤ 150)) = true
  case neg => rw [if_neg hf]
  rw [if_pos hf]
  have hl : xs.length ≤ 150 := by simp at hf; exact hf.2
  clear hf h0 h1
  have good : ∀ b, b = decide (1 ≤ n ∧ n ≤ 8 ∧ 1 ≤ s ∧ s ≤ 512) → wayfarerlaw14_ScriptBytes.j0 (xs.length + 100000) n s xs b = some true := by
    intro b hb
    rw [show xs.length + 100000 = (99993 + xs.length + 6) + 1 by omega, wayfarerlaw14_ScriptBytes.j0]
    have e0 := sb_l0 n s xs ho hl xs.length 0 99993 b (by omega)
    rw [List.drop_zero] at e0
    refine e0.trans ?_
    clear e0
    have hE := Encode_nice (99998 - 5 * xs.length - 20) n s xs ho (by omega)
    rw [show 99998 - 5 * xs.length - 20 + 5 * xs.length + 20 = 99998 by omega] at hE
    rw [show 99993 + 6 = 99998 + 1 from rfl, wayfarerlaw14_ScriptBytes.l0, if_neg (by omega), hE, Option.bind_some]
    cases hx : (b && xs.all rightE) with
    | false =>
      have hn : encM n s xs = ([], 1) := by
        unfold encM
        rw [if_neg (by omega)]
        by_cases c : n < 1 ∨ 8 < n ∨ s < 1 ∨ 512 < s
        · rw [if_pos c]
        · rw [if_neg c]
          have : b = true := by rw [hb]; simp; omega
          rw [this, Bool.true_and] at hx
          rw [hx]
          rfl
      rw [hn]
      rfl
    | true =>
      rw [Bool.and_eq_true] at hx
      obtain ⟨hb1, hall⟩ := hx
      rw [hb1] at hb
      have hg := of_decide_eq_true hb.symm
      have hr : ∀ e ∈ xs, rightE e = true := by simpa using hall
      have hlen : (scr n s xs).length ≤ 40000 := by
        have := flat_len xs (fun e he => (right_small e (hr e he)).p)
        rw [scr_len]
        omega
      have hD := Decode_nice (99998 - (scr n s xs).length - 20) (scr n s xs) (scr_byte _ _ _) (by omega)
      rw [show 99998 - (scr n s xs).length - 20 + (scr n s xs).length + 20 = 99998 by omega, dec_scr n s xs ⟨hg.1, hg.2.1⟩ ⟨hg.2.2.1, hg.2.2.2⟩ (fun e he => ⟨hr e he, ho e he⟩) (by omega) (by omega)] at hD
      have hB := Bytes_nice (99998 - 5 * xs.length - 1) n s xs hr (by omega) (by omega)
      rw [show 99998 - 5 * xs.length - 1 + 5 * xs.length + 1 = 99998 by omega] at hB
      have hS := Same_nice (99998 - xs.length - 1) xs (by omega)
      rw [show 99998 - xs.length - 1 + xs.length + 1 = 99998 by omega] at hS
      rw [enc_scr n s xs ⟨hg.1, hg.2.1⟩ ⟨hg.2.2.1, hg.2.2.2⟩ hr (by omega)]
      simp only
      have e : [n % 256] ++ beN s 2 ++ xs.flatMap evBytes = scr n s xs := rfl
      rw [if_pos trivial, hD, Option.bind_some, if_pos rfl, hB, Option.bind_some, e]
      simp [hS]
  by_cases c1 : n ≥ 1
  · rw [if_pos c1]
    by_cases c2 : n ≤ 8
    · rw [if_pos c2]
      by_cases c3 : s ≥ 1
      · rw [if_pos c3]
        exact good _ (decide_eq_decide.2 (by omega))
      · rw [if_neg c3]
        exact good _ (by simp; omega)
    · rw [if_neg c2]
      exact good _ (by simp; omega)
  · rw [if_neg c1]
    exact good _ (by simp; omega)
end Go.Proofs.YtjdapfimjpbnmaaQ.PScr
end
section
set_option maxRecDepth 100000
set_option linter.unusedVariables false
set_option linter.unusedSimpArgs false
namespace Go.Proofs.YtjdapfimjpbnmaaQ.PScr
open Go.RowKit Go.ChangeShapes Go.WideShapes Go.Proofs.YtjdapfimjpbnmaaW.PrintWords
open Go.Proofs.Ytjdapfimjpbnmaa (Opens Row opens_le C_of_row)
/-! Rows of events that came in. -/
def evCells (e : Ev) : List Value := [.int .i64 e.f0, .int .i64 e.f1, .int .i64 e.f2, .int .i64 e.f3, .int .u32 e.f4.f0, .int .i64 e.f4.f1, .string e.f5]
theorem Op_ev {W : World} {n : Nat} {cs : List Value} (h : Ytjdapfimjpbnmaa.Op Try.prog W n 30 cs) : ∃ e : Ev, cs = evCells e ∧ okE e := by
  obtain ⟨hl, m, hf⟩ := Ytjdapfimjpbnmaa.Op.struct Try.underlying30 h
  rw [show Try.prog.cellsOf 30 = 7 by kernel_rfl] at hl
  match cs, hl with
  | [c0, c1, c2, c3, c4, c5, c6], _ =>
    have h0 : Ytjdapfimjpbnmaa.Op Try.prog W m 25 (([c0, c1, c2, c3, c4, c5, c6].drop 0).take (Try.prog.cellsOf 25)) := hf 0 _ rfl
    rw [show Try.prog.cellsOf 25 = 1 by kernel_rfl] at h0
    have h1 : Ytjdapfimjpbnmaa.Op Try.prog W m 3 (([c0, c1, c2, c3, c4, c5, c6].drop 1).take (Try.prog.cellsOf 3)) := hf 1 _ rfl
    rw [show Try.prog.cellsOf 3 = 1 by kernel_rfl] at h1
    have h2 : Ytjdapfimjpbnmaa.Op Try.prog W m 3 (([c0, c1, c2, c3, c4, c5, c6].drop 2).take (Try.prog.cellsOf 3)) := hf 2 _ rfl
    rw [show Try.prog.cellsOf 3 = 1 by kernel_rfl] at h2
    have h3 : Ytjdapfimjpbnmaa.Op Try.prog W m 3 (([c0, c1, c2, c3, c4, c5, c6].drop 3).take (Try.prog.cellsOf 3)) := hf 3 _ rfl
    rw [show Try.prog.cellsOf 3 = 1 by kernel_rfl] at h3
    have h4 : Ytjdapfimjpbnmaa.Op Try.prog W m 28 (([c0, c1, c2, c3, c4, c5, c6].drop 4).take (Try.prog.cellsOf 28)) := hf 4 _ rfl
    rw [show Try.prog.cellsOf 28 = 2 by kernel_rfl] at h4
    have h5 : Ytjdapfimjpbnmaa.Op Try.prog W m 9 (([c0, c1, c2, c3, c4, c5, c6].drop 6).take (Try.prog.cellsOf 9)) := hf 5 _ rfl
    rw [show Try.prog.cellsOf 9 = 1 by kernel_rfl] at h5
    obtain ⟨x0, e0, w0⟩ := Ytjdapfimjpbnmaa.Op.int Try.underlying25 h0
    obtain ⟨x1, e1, w1⟩ := Ytjdapfimjpbnmaa.Op.int Try.underlying3 h1
    obtain ⟨x2, e2, w2⟩ := Ytjdapfimjpbnmaa.Op.int Try.underlying3 h2
    obtain ⟨x3, e3, w3⟩ := Ytjdapfimjpbnmaa.Op.int Try.underlying3 h3
    obtain ⟨a, l, e4, w4, w5⟩ := Ytjdapfimjpbnmaa.Op.prefix_ h4
    obtain ⟨s, e5, -⟩ := Ytjdapfimjpbnmaa.Op.string Try.underlying9 h5
    simp at e0 e1 e2 e3 e4 e5
    obtain ⟨rfl, rfl⟩ := e4
    subst e0 e1 e2 e3 e5
    exact ⟨⟨x0, x1, x2, x3, ⟨a, l⟩, s⟩, rfl, w4⟩
theorem open_evs {W : World} {b0 : Nat} {v : Value} (hv : Value.okWide Try.prog W .any b0 22 v) (h : Opens Try.prog W 22 v) :
    ∃ (L : List Ev) (A : Option Addr) (c : Nat), v = .slice A L.length c ∧ L.length ≤ c ∧ Kd.C k30 W A L.length L ∧ (∀ e ∈ L, okE e) ∧ L.length ≤ 140737488000000 := by
  obtain ⟨A, n, c, rfl⟩ := okWide_slice Try.underlying22 hv
  have hle := opens_le Try.underlying22 h
  obtain ⟨L, rfl, ho, hr, hn⟩ := Ytjdapfimjpbnmaa.Opens.rowm (B := 64) (M := 7) evCells okE (fun _ => rfl) (by omega) Try.underlying22 (by kernel_rfl) (by omega) (by kernel_rfl) (fun m cs' hx => Op_ev hx) h
  exact ⟨L, A, c, rfl, hle, C_of_row evCells 7 (fun _ => rfl) rfl (fun e => k30_mk W e) hr, ho, by omega⟩
end Go.Proofs.YtjdapfimjpbnmaaQ.PScr
end
section
set_option maxRecDepth 100000
set_option linter.unusedVariables false
namespace Go.Proofs.Ytjdapfimjpbnmaa
open Go.RowKit Go.ChangeShapes Go.WideShapes
theorem ScriptBytes_walk (W : World) {b0 b1 b2 : Nat} {v0 v1 v2 : Value} (a0 : Value.okWide Try.prog W .any b0 3 v0) (h0 : Opens Try.prog W 3 v0) (a1 : Value.okWide Try.prog W .any b1 3 v1) (h1 : Opens Try.prog W 3 v1)
    (a2 : Value.okWide Try.prog W .any b2 22 v2) (h2 : Opens Try.prog W 22 v2) :
    Calls Try.prog 3 #[v0, v1, v2] W fun e W' => e = .returned (.bool true) ∧ Below W.heap.size W W' := by
  obtain ⟨n, rfl, -⟩ := Opens.int a0 h0
  obtain ⟨s, rfl, -⟩ := Opens.int a1 h1
  obtain ⟨L, A, c, rfl, hc, hC, ho, hl⟩ := YtjdapfimjpbnmaaQ.PScr.open_evs a2 h2
  exact YtjdapfimjpbnmaaQ.PScr.wayfarerlaw14_ScriptBytes.calls _ n s A c L true W hC hc (YtjdapfimjpbnmaaQ.PScr.bytes_true n s L ho hl)
end Go.Proofs.Ytjdapfimjpbnmaa
end
