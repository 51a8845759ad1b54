import Derived.Test.YtjdapfimjpbnmaaScrP3
set_option linter.unusedVariables false
set_option linter.unusedSimpArgs false
namespace Go.Proofs.YtjdapfimjpbnmaaQ.PScr
open Go.RowKit Go.Proofs.YtjdapfimjpbnmaaW.PrintWords Go.Proofs.YtjdapfimjpbnmaaW.PrintMore
open Go.Proofs.Ytjdapfimjpbnmaa (four valB byteB rightB Byte four_len evRightB evHas evRest numB valB_snoc valB_bd valB_bd4 or_add_nat str_inj str_data str_empty toList_eq fold_bd)
/-! Events read: 'Decode'; what is written is read, and what is read is written. -/
def decR : Nat → List Int → List Ev → Nat → List Ev × Nat × Int
  | 0, _, acc, pos => (acc, pos, 0)
  | f + 1, l, acc, pos => if l = [] then (acc, pos, 0) else if oneB l = true then (if acc.length = 8192 then (acc, pos, 7) else decR f (l.drop (evN l)) (acc ++ [evOf l]) (pos + evN l)) else (acc, pos, 6)
theorem oneB_len (l : List Int) (h : oneB l = true) : 16 ≤ evN l ∧ evN l ≤ l.length := by
  simp only [oneB, Bool.and_eq_true, decide_eq_true_eq] at h
  refine ⟨?_, h.1.2⟩
  unfold evN
  omega
theorem dec_l0 (l : List Int) (hb : Byte l) (hl : l.length ≤ 1000000) (n s : Int) : ∀ (f pos k : Nat) (acc : List Ev), pos ≤ l.length → l.length - pos < f → acc.length ≤ 8192 →
    script_Decode.l0 (k + f + 10) (strOfNums l) n s acc (pos : Int) = some (n, s, (decR f (l.drop pos) acc pos).1, ((decR f (l.drop pos) acc pos).2.1 : Int), (decR f (l.drop pos) acc pos).2.2)
  | 0, pos, k, acc, hp, hf, ha => by omega
  | f + 1, pos, k, acc, hp, hf, ha => by
    rw [show k + (f + 1) + 10 = (k + f + 10) + 1 by omega, script_Decode.l0, size_str]
    by_cases he : pos = l.length
    · rw [if_neg (by omega), decR, if_pos (by rw [he]; simp)]
    have hne : l.drop pos ≠ [] := by intro h; have := List.drop_eq_nil_iff.1 h; omega
    obtain ⟨q, hq, h1, h2⟩ := one_nice (k + f) (l.drop pos) (hb.drop pos) (by simp; omega)
    rw [if_pos (by omega), if_pos (by omega), if_pos (by omega), ext_str, Int.toNat_natCast, List.take_of_length_le (by simp), hq, Option.bind_some, h1, decR, if_neg hne]
    cases ho : oneB (l.drop pos) with
    | false => rfl
    | true =>
      rw [if_pos rfl, if_pos rfl]
      by_cases hc : acc.length = 8192
      · rw [if_pos (by omega), if_pos hc]
      obtain ⟨g0, g1⟩ := oneB_len _ ho
      rw [List.length_drop] at g1
      have := dec_l0 l hb hl n s f (pos + evN (l.drop pos)) k (acc ++ [evOf (l.drop pos)]) (by omega) (by omega) (by simp; omega)
      rw [← List.drop_drop] at this
      rw [if_neg (by omega), if_neg hc, if_pos (by omega), h2 ho]
      simp only
      rw [w64 _ (by omega) (by omega)]
      exact this
def netN (l : List Int) : Int := rd l 0
def netS (l : List Int) : Int := valB ((l.drop 1).take 2)
def headB (l : List Int) : Bool := decide (3 ≤ l.length) && decide (1 ≤ netN l) && decide (netN l ≤ 8) && decide (1 ≤ netS l) && decide (netS l ≤ 512)
def decM (l : List Int) : Int × Int × List Ev × Int × Int :=
  if 262144 < l.length then (0, 0, [], 0, 7) else if headB l = true then (netN l, netS l, (decR (l.length + 1) (l.drop 3) [] 3).1, ((decR (l.length + 1) (l.drop 3) [] 3).2.1 : Int), (decR (l.length + 1) (l.drop 3) [] 3).2.2) else (0, 0, [], 0, 6)
theorem netS_bd (l : List Int) (hb : Byte l) : 0 ≤ netS l ∧ netS l ≤ 65535 := by
  have h1 := valB_bd ((l.drop 1).take 2) ((hb.drop 1).take 2)
  have h2 : (256 : Int) ^ ((l.drop 1).take 2).length ≤ 256 ^ 2 := by
    rcases (show ((l.drop 1).take 2).length = 0 ∨ ((l.drop 1).take 2).length = 1 ∨ ((l.drop 1).take 2).length = 2 by simp; omega) with e | e | e <;> rw [e] <;> decide
  unfold netS
  omega
theorem Decode_nice (k : Nat) (l : List Int) (hb : Byte l) (hl : l.length ≤ 1000000) : script_Decode.f (k + l.length + 20) l = some (decM l) := by
  unfold script_Decode.f decM
  by_cases h1 : 262144 < l.length
  · rw [if_pos (by omega), if_pos h1]
  rw [if_neg (by omega), if_neg h1]
  by_cases h3 : l.length < 3
  · rw [if_pos (by omega), if_neg (by simp [headB]; omega)]
  have b0 := rd_bd l hb 0 (by omega)
  have hb0 : bt (strOfNums l) 0 = netN l := bt_str l hb 0 (by omega)
  have hn0 : wrap64 (netN l) = netN l := w64 _ (Int.le_trans (by decide) b0.1) (Int.le_trans b0.2 (by decide))
  have sb := netS_bd l hb
  have hs0 : wrap64 (netS l) = netS l := w64 _ (by omega) (by omega)
  have g := get_nice (k + l.length + 15) ((l.drop 1).take 2) ((hb.drop 1).take 2) (by simp; omega)
  rw [if_neg (by omega), size_str, if_pos (by omega), if_pos (by decide), if_pos (by omega), ext_str, show k + l.length + 20 = (k + l.length + 15) + 5 from rfl, g, Option.bind_some, hb0, hn0]
  show (if netN l < 1 then script_Decode.j0 _ _ _ (wrap64 (netS l)) true else if netN l > 8 then script_Decode.j0 _ _ _ (wrap64 (netS l)) true else if wrap64 (netS l) < 1 then script_Decode.j0 _ _ _ (wrap64 (netS l)) true else script_Decode.j0 _ _ _ (wrap64 (netS l)) (decide (wrap64 (netS l) > 512))) = _
  rw [hs0]
  have jt : ∀ b, b = true → script_Decode.j0 (k + l.length + 15 + 5) (strOfNums l) (netN l) (netS l) b = some (0, 0, [], 0, 6) := by
    rintro b rfl
    rw [show k + l.length + 15 + 5 = (k + l.length + 19) + 1 by omega, script_Decode.j0, if_pos rfl]
  by_cases c1 : netN l < 1
  · rw [if_pos c1, jt _ rfl, if_neg (by simp [headB]; omega)]
  by_cases c2 : netN l > 8
  · rw [if_neg c1, if_pos c2, jt _ rfl, if_neg (by simp [headB]; omega)]
  by_cases c3 : netS l < 1
  · rw [if_neg c1, if_neg c2, if_pos c3, jt _ rfl, if_neg (by simp [headB]; omega)]
  by_cases c4 : netS l > 512
  · rw [if_neg c1, if_neg c2, if_neg c3, jt _ (decide_eq_true c4), if_neg (by simp [headB]; omega)]
  rw [if_neg c1, if_neg c2, if_neg c3, decide_eq_false c4, if_pos (by simp [headB]; omega), show k + l.length + 15 + 5 = (k + l.length + 19) + 1 by omega, script_Decode.j0, if_neg (by decide)]
  have := dec_l0 l hb hl (netN l) (netS l) (l.length + 1) 3 (k + 8) [] (by omega) (by omega) (by simp)
  rw [show k + 8 + (l.length + 1) + 10 = k + l.length + 19 by omega] at this
  exact this
end Go.Proofs.YtjdapfimjpbnmaaQ.PScr
