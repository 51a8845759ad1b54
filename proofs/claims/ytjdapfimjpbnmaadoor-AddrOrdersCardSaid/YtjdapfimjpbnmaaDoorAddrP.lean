import Derived.Test.YtjdapfimjpbnmaaDoorAddrT
import Derived.Test.YtjdapfimjpbnmaaDoorAddr
set_option linter.unusedVariables false
set_option linter.unusedSimpArgs false
namespace Go.Proofs.YtjdapfimjpbnmaaDoor
open Go.Lib
/-! A prefix as a text, and back. -/
def textP (a l : Int) : List UInt8 := join [itoa (a / 16777216 % 256), itoa (a / 65536 % 256), itoa (a / 256 % 256), itoa (a % 256)] [46] ++ 47 :: itoa l
def foldA : Int → List (List UInt8) → Option Int
  | acc, [] => some acc
  | acc, x :: r => if (numF x 255).2 = true then foldA (acc * 256 % 4294967296 + (numF x 255).1) r else none
def parseF (s : List UInt8) : Option (Int × Int) :=
  if (numF (cutOn 47 s).2 32).2 = true ∧ (splitOn 46 (cutOn 47 s).1).length = 4 then
    match foldA 0 (splitOn 46 (cutOn 47 s).1) with
    | some a => if rightB a (numF (cutOn 47 s).2 32).1 = true then some (a, (numF (cutOn 47 s).2 32).1) else none
    | none => none
  else none
theorem join4 (a b c d : List UInt8) : join [a, b, c, d] [46] = a ++ 46 :: (b ++ 46 :: (c ++ 46 :: d)) := by
  rw [join_cons]
  simp [joinTail]
theorem rightB_bd {a l : Int} (h : rightB a l = true) : 0 ≤ l ∧ l ≤ 32 := by
  simp only [rightB, decide_eq_true_eq] at h
  exact ⟨h.1, h.2.1⟩
theorem parse_nat (n0 n1 n2 n3 n : Nat) (h0 : n0 ≤ 255) (h1 : n1 ≤ 255) (h2 : n2 ≤ 255) (h3 : n3 ≤ 255) (h : n ≤ 32) :
    parseF (join [decDigits n0, decDigits n1, decDigits n2, decDigits n3] [46] ++ 47 :: decDigits n) =
      if rightB (n0 * 16777216 + n1 * 65536 + n2 * 256 + n3) n = true then some ((n0 * 16777216 + n1 * 65536 + n2 * 256 + n3 : Int), (n : Int)) else none := by
  have hc : cutOn 47 (join [decDigits n0, decDigits n1, decDigits n2, decDigits n3] [46] ++ 47 :: decDigits n) = (join [decDigits n0, decDigits n1, decDigits n2, decDigits n3] [46], decDigits n) := by
    refine cutOn_at _ _ _ ?_
    rw [join4]
    intro hm
    simp only [List.mem_append, List.mem_cons] at hm
    have d0 := dec_not n0 47 (by decide)
    have d1 := dec_not n1 47 (by decide)
    have d2 := dec_not n2 47 (by decide)
    have d3 := dec_not n3 47 (by decide)
    simp [d0, d1, d2, d3] at hm
  have hs : splitOn 46 (join [decDigits n0, decDigits n1, decDigits n2, decDigits n3] [46]) = [decDigits n0, decDigits n1, decDigits n2, decDigits n3] :=
    splitOn_join _ _ _ (dec_not _ _ (by decide)) (fun y hy => by
      simp only [List.mem_cons, List.not_mem_nil, or_false] at hy
      rcases hy with rfl | rfl | rfl <;> exact dec_not _ _ (by decide))
  unfold parseF
  rw [hc]
  dsimp only
  rw [hs, numF_dec n 32 (by omega) (by omega), if_pos ⟨rfl, rfl⟩]
  simp only [foldA, numF_dec n0 255 (by omega) (by omega), numF_dec n1 255 (by omega) (by omega), numF_dec n2 255 (by omega) (by omega), numF_dec n3 255 (by omega) (by omega), if_true]
  have e : (((0 * 256 % 4294967296 + (n0 : Int)) * 256 % 4294967296 + n1) * 256 % 4294967296 + n2) * 256 % 4294967296 + n3 = n0 * 16777216 + n1 * 65536 + n2 * 256 + n3 := by omega
  rw [e]
theorem bytes_of (a : Int) (ha : 0 ≤ a ∧ a ≤ 4294967295) : ∃ n0 n1 n2 n3 : Nat, n0 ≤ 255 ∧ n1 ≤ 255 ∧ n2 ≤ 255 ∧ n3 ≤ 255 ∧ a / 16777216 % 256 = n0 ∧ a / 65536 % 256 = n1 ∧ a / 256 % 256 = n2 ∧ a % 256 = n3 ∧ a = n0 * 16777216 + n1 * 65536 + n2 * 256 + n3 :=
  ⟨(a / 16777216 % 256).toNat, (a / 65536 % 256).toNat, (a / 256 % 256).toNat, (a % 256).toNat, by omega, by omega, by omega, by omega, by omega, by omega, by omega, by omega, by omega⟩
theorem parse_text (a l : Int) (ha : 0 ≤ a ∧ a ≤ 4294967295) (h : rightB a l = true) : parseF (textP a l) = some (a, l) := by
  obtain ⟨l0, l1⟩ := rightB_bd h
  obtain ⟨n0, n1, n2, n3, b0, b1, b2, b3, e0, e1, e2, e3, ea⟩ := bytes_of a ha
  obtain ⟨n, rfl⟩ := Int.eq_ofNat_of_zero_le l0
  unfold textP
  rw [e0, e1, e2, e3]
  simp only [itoa_nat]
  rw [parse_nat n0 n1 n2 n3 n b0 b1 b2 b3 (by omega), ← ea, if_pos h]
theorem fold_sound : ∀ (l : List (List UInt8)) (acc a : Int), foldA acc l = some a → ∀ x ∈ l, (numF x 255).2 = true
  | [], _, _, _, x, hx => by simp at hx
  | y :: l, acc, a, h, x, hx => by
    simp only [foldA] at h
    split at h
    · rename_i hy
      rcases List.mem_cons.1 hx with rfl | hx
      · exact hy
      · exact fold_sound l _ a h x hx
    · cases h
theorem parse_sound {s : List UInt8} {a l : Int} (h : parseF s = some (a, l)) : rightB a l = true ∧ (0 ≤ a ∧ a ≤ 4294967295) ∧ textP a l = s := by
  have h' := h
  unfold parseF at h
  split at h
  case isFalse => cases h
  rename_i hc
  obtain ⟨n, hn, hr, -⟩ := numF_true hc.1
  have hb := cutOn_back 47 s (by rw [hr]; exact dec_ne n)
  have hj := join_splitOn 46 (cutOn 47 s).1
  have hlen := hc.2
  cases hf : foldA 0 (splitOn 46 (cutOn 47 s).1) with
  | none => rw [hf] at h; cases h
  | some a' =>
    have hx := fold_sound _ _ _ hf
    match hsp : splitOn 46 (cutOn 47 s).1, hlen with
    | [p0, p1, p2, p3], _ =>
      rw [hsp] at hx hj
      obtain ⟨n0, b0, rfl, -⟩ := numF_true (hx p0 (by simp))
      obtain ⟨n1, b1, rfl, -⟩ := numF_true (hx p1 (by simp))
      obtain ⟨n2, b2, rfl, -⟩ := numF_true (hx p2 (by simp))
      obtain ⟨n3, b3, rfl, -⟩ := numF_true (hx p3 (by simp))
      have hs : s = join [decDigits n0, decDigits n1, decDigits n2, decDigits n3] [46] ++ 47 :: decDigits n := by
        rw [hj, ← hr]; exact hb.symm
      rw [hs, parse_nat n0 n1 n2 n3 n (by omega) (by omega) (by omega) (by omega) (by omega)] at h'
      split at h'
      · rename_i hright
        simp only [Option.some.injEq, Prod.mk.injEq] at h'
        obtain ⟨ea, el⟩ := h'
        subst ea
        subst el
        refine ⟨hright, by omega, ?_⟩
        rw [hs]
        unfold textP
        rw [show ((n0 : Int) * 16777216 + n1 * 65536 + n2 * 256 + n3) / 16777216 % 256 = n0 by omega, show ((n0 : Int) * 16777216 + n1 * 65536 + n2 * 256 + n3) / 65536 % 256 = n1 by omega,
          show ((n0 : Int) * 16777216 + n1 * 65536 + n2 * 256 + n3) / 256 % 256 = n2 by omega, show ((n0 : Int) * 16777216 + n1 * 65536 + n2 * 256 + n3) % 256 = n3 by omega]
        simp only [itoa_nat]
      · cases h'
end Go.Proofs.YtjdapfimjpbnmaaDoor
