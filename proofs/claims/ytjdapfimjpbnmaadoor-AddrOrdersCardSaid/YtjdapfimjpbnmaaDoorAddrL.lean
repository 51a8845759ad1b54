import Derived.Test.YtjdapfimjpbnmaaDoorAddrP
set_option linter.unusedVariables false
set_option linter.unusedSimpArgs false
namespace Go.Proofs.YtjdapfimjpbnmaaDoor
open Go.Lib
/-! The law's own reading of a text, byte by byte. -/
def sepAt (k : Nat) : UInt8 := if k = 3 then 47 else 46
def sepDone : List Nat → List UInt8
  | [] => []
  | [a] => decDigits a ++ [46]
  | [a, b] => decDigits a ++ 46 :: (decDigits b ++ [46])
  | [a, b, c] => decDigits a ++ 46 :: (decDigits b ++ 46 :: (decDigits c ++ [46]))
  | a :: b :: c :: d :: _ => decDigits a ++ 46 :: (decDigits b ++ 46 :: (decDigits c ++ 46 :: (decDigits d ++ [47])))
theorem sepDone_snoc (done : List Nat) (x : Nat) (h : done.length ≤ 3) : sepDone (done ++ [x]) = sepDone done ++ (decDigits x ++ [sepAt done.length]) := by
  match done, h with
  | [], _ => simp [sepDone, sepAt]
  | [a], _ => simp [sepDone, sepAt]
  | [a, b], _ => simp [sepDone, sepAt]
  | [a, b, c], _ => simp [sepDone, sepAt]
/-- How far the reading has come. -/
structure PL (s : List UInt8) (i : Nat) (done : List Nat) (x size : Nat) : Prop where
  le : i ≤ s.length
  few : done.length ≤ 4
  size4 : size ≤ 4
  zero : size = 0 → x = 0
  bound : x < 10 ^ size
  text : ∃ cur, s.take i = sepDone done ++ cur ∧ cur.length = size ∧ (0 < size → cur = decDigits x)
theorem PL.start (s : List UInt8) : PL s 0 [] 0 0 := ⟨Nat.zero_le _, by simp, by omega, fun _ => rfl, by decide, [], by simp [sepDone], rfl, fun h => by omega⟩
theorem PL.digit {s : List UInt8} {i : Nat} {done : List Nat} {x size : Nat} (h : PL s i done x size) {c : UInt8} (hc : s[i]? = some c) (h0 : 48 ≤ c.toNat) (h1 : c.toNat ≤ 57) (h4 : size < 4) (hz : ¬ (0 < size ∧ x = 0)) :
    PL s (i + 1) done (10 * x + (c.toNat - 48)) (size + 1) := by
  obtain ⟨hl, hf, hs, hx, hb, cur, ht, hcl, hd⟩ := h
  have hlt : i < s.length := (List.getElem?_eq_some_iff.1 hc).1
  refine ⟨hlt, hf, h4, fun e => by omega, ?_, cur ++ [c], ?_, by simp [hcl], fun _ => ?_⟩
  · rw [Nat.pow_succ]; omega
  · rw [List.take_add_one, hc, ht]; simp
  · by_cases h : 0 < size
    · rw [hd h, show 10 * x + (c.toNat - 48) = x * 10 + (c.toNat - 48) by omega, dec_step x _ (by omega) (by omega), ofNat_dig c h0]
    · have h00 : size = 0 := by omega
      have hc0 : cur = [] := List.eq_nil_of_length_eq_zero (by omega)
      rw [hx h00, hc0, decDigits, dif_pos (by omega), show 48 + (10 * 0 + (c.toNat - 48)) = 48 + (c.toNat - 48) by omega, ofNat_dig c h0]
      rfl
theorem PL.sep {s : List UInt8} {i : Nat} {done : List Nat} {x size : Nat} (h : PL s i done x size) {c : UInt8} (hc : s[i]? = some c) (h0 : size ≠ 0) (h3 : done.length ≤ 3) (hs : c = sepAt done.length) : PL s (i + 1) (done ++ [x]) 0 0 := by
  obtain ⟨hl, hf, hs4, hx, hb, cur, ht, hcl, hd⟩ := h
  have hlt : i < s.length := (List.getElem?_eq_some_iff.1 hc).1
  refine ⟨hlt, by simp; omega, by omega, fun _ => rfl, by decide, [], ?_, rfl, fun h => by omega⟩
  rw [List.take_add_one, hc, ht, sepDone_snoc done x h3, hd (by omega), hs]
  simp
theorem PL.done {s : List UInt8} {done : List Nat} {x size : Nat} (h : PL s s.length done x size) (h0 : size ≠ 0) (h4 : done.length = 4) :
    ∃ a b c d, done = [a, b, c, d] ∧ s = join [decDigits a, decDigits b, decDigits c, decDigits d] [46] ++ 47 :: decDigits x := by
  obtain ⟨hl, hf, hs4, hx, hb, cur, ht, hcl, hd⟩ := h
  match done, h4 with
  | [a, b, c, d], _ =>
    refine ⟨a, b, c, d, rfl, ?_⟩
    rw [List.take_length] at ht
    rw [ht, hd (by omega), join4]
    simp [sepDone]
/-- A text that is none as the program reads it is none by hand. -/
theorem PL.none {s : List UInt8} {a b c d x size : Nat} (h : PL s s.length [a, b, c, d] x size) (h0 : size ≠ 0) (hp : parseF s = Option.none) (ha : a ≤ 255) (hb : b ≤ 255) (hc : c ≤ 255) (hd : d ≤ 255) (hx : x ≤ 32) :
    rightB (a * 16777216 + b * 65536 + c * 256 + d) x = false := by
  obtain ⟨a', b', c', d', e, hs⟩ := h.done h0 rfl
  simp only [List.cons.injEq, and_true] at e
  obtain ⟨rfl, rfl, rfl, rfl⟩ := e
  rw [hs, parse_nat a b c d x ha hb hc hd hx] at hp
  split at hp
  · cases hp
  · rename_i hn
    simpa using hn
end Go.Proofs.YtjdapfimjpbnmaaDoor
