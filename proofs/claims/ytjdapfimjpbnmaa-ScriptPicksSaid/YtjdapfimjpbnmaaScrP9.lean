import Derived.Test.YtjdapfimjpbnmaaScrP6
import Derived.Test.YtjdapfimjpbnmaaPScr9
set_option linter.unusedVariables false
set_option linter.unusedSimpArgs false
namespace Go.Proofs.YtjdapfimjpbnmaaQ.PScr
open Go.RowKit Go.Proofs.YtjdapfimjpbnmaaW.PrintWords Go.Proofs.YtjdapfimjpbnmaaW.PrintMore
open Go.Proofs.Ytjdapfimjpbnmaa (valB byteB rightB Byte evRightB evHas evRest numB str_inj str_data str_empty toList_eq valB_bd4)
/-! A crash's picks. -/
abbrev Pk := S48
def pkOf (l : List Int) : Pk := ⟨rd l 0, rd l 1 * 2, valB ((l.drop 2).take 4)⟩
def pkN : Nat → List Int → List Pk
  | 0, _ => []
  | n + 1, l => pkOf l :: pkN n (l.drop 6)
theorem pkN_len (n : Nat) : ∀ l, (pkN n l).length = n := by
  induction n with
  | zero => intro l; rfl
  | succ n ih => intro l; simp [pkN, ih]
theorem pkN_get : ∀ (n : Nat) (l : List Int) (k : Nat) (h : k < (pkN n l).length), (pkN n l)[k] = pkOf (l.drop (6 * k))
  | 0, l, k, h => by simp [pkN] at h
  | n + 1, l, 0, h => rfl
  | n + 1, l, k + 1, h => by
    have := pkN_get n (l.drop 6) k (by simpa [pkN] using h)
    rw [List.drop_drop, show 6 + 6 * k = 6 * (k + 1) by omega] at this
    exact this
theorem chosen_l0 : ∀ (n : Nat) (l : List Int) (K : Nat) (acc : List Pk), Byte l → l.length < 6 * n + 6 → 6 * n ≤ l.length → acc.length + n ≤ 1000000 → script_Event_Chosen.l0 (K + n + 6) acc (strOfNums l) = some (acc ++ pkN n l)
  | 0, l, K, acc, hb, h1, h2, h3 => by
    rw [show K + 0 + 6 = (K + 5) + 1 from rfl, script_Event_Chosen.l0, size_str, if_neg (by omega)]
    simp [pkN]
  | n + 1, l, K, acc, hb, h1, h2, h3 => by
    have b0 := rd_bd l hb 0 (by omega)
    have b1 := rd_bd l hb 1 (by omega)
    have e0 : bt (strOfNums l) 0 = rd l 0 := bt_str l hb 0 (by omega)
    have e1 : bt (strOfNums l) 1 = rd l 1 := bt_str l hb 1 (by omega)
    have w0 : wrap64 (rd l 0) = rd l 0 := w64 _ (Int.le_trans (by decide) b0.1) (Int.le_trans b0.2 (by decide))
    have w1 : wrap64 (rd l 1) = rd l 1 := w64 _ (Int.le_trans (by decide) b1.1) (Int.le_trans b1.2 (by decide))
    have w2 : wrap64 (rd l 1 * 2) = rd l 1 * 2 := w64 _ (by have := b1.1; show _ ≤ rd l ((1 : Nat) : Int) * 2; omega) (by have := b1.2; show rd l ((1 : Nat) : Int) * 2 ≤ _; omega)
    have v := valB_bd4 ((l.drop 2).take 4) ((hb.drop 2).take 4) (by simp; omega)
    have g := get_nice (K + n + 1) ((l.drop 2).take 4) ((hb.drop 2).take 4) (by simp; omega)
    have hd : (strOfNums l).extract 6 l.length = strOfNums (l.drop 6) := by rw [ext_str, List.take_of_length_le (by simp)]
    rw [show K + (n + 1) + 6 = (K + n + 6) + 1 by omega, script_Event_Chosen.l0]
    simp only [size_str]
    rw [if_pos (by omega), if_pos (by omega), if_pos (by omega), if_pos (by decide), if_pos (by omega), ext_str, g, Option.bind_some, if_pos (by omega), e0, e1, w0, w1, w2, Int.emod_eq_of_lt v.1 (by omega), hd]
    have ih := chosen_l0 n (l.drop 6) K (acc ++ [pkOf l]) (hb.drop 6) (by simp; omega) (by simp; omega) (by simp; omega)
    refine ih.trans ?_
    simp [pkN]
theorem chosen_nice (l : List Int) (hb : Byte l) (hl : l.length ≤ 300) : script_Event_Chosen.f 1000 1 0 0 0 0 0 (strOfNums l) = some (pkN (l.length / 6) l) := by
  have := chosen_l0 (l.length / 6) l (1000 - l.length / 6 - 6) [] hb (by omega) (by omega) (by simp; omega)
  rw [show 1000 - l.length / 6 - 6 + l.length / 6 + 6 = 1000 by omega] at this
  exact this
end Go.Proofs.YtjdapfimjpbnmaaQ.PScr
