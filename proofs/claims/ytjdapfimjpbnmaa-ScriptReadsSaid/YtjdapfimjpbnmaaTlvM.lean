import Derived.Test.YtjdapfimjpbnmaaAddr
import Derived.Test.YtjdapfimjpbnmaaBytes4
set_option linter.unusedVariables false
set_option linter.unusedSimpArgs false
namespace Go.Proofs.Ytjdapfimjpbnmaa
open Go.RowKit
/-! What a datagram says, in plain lists. -/
def byteB (l : List Int) : Bool := l.all fun x => decide (0 ≤ x) && decide (x ≤ 255)
theorem byteB_iff (l : List Int) : byteB l = true ↔ Byte l := by simp [byteB, Byte, List.all_eq_true]
def valB (l : List Int) : Int := l.foldl (fun n c => n * 256 + c) 0
/-- Can something be told? -/
def updB (a l id s m : Int) : Bool := rightB a l && decide (s ≤ 1073741824) && (if m = 65535 then decide (id = 0 ∧ s = 0) else decide (id ≠ 0))
def szB (n : Int) : Int := (n + 7) / 8
def padB (l : List Int) : List Int := (l ++ [0, 0, 0, 0]).take 4
def oneM (l : List Int) (id : Int) : Int × Int × Int × Int × Int × Bool :=
  if l.length < 7 then (0, 0, 0, 0, 0, false)
  else if 32 < l.getD 0 0 then (0, 0, 0, 0, 0, false)
  else if (l.length : Int) ≠ 7 + szB (l.getD 0 0) then (0, 0, 0, 0, 0, false)
  else
    (valB (padB (l.drop 7)), l.getD 0 0, (if valB ((l.drop 5).take 2) = 65535 then 0 else id), valB ((l.drop 1).take 4), valB ((l.drop 5).take 2),
      updB (valB (padB (l.drop 7))) (l.getD 0 0) (if valB ((l.drop 5).take 2) = 65535 then 0 else id) (valB ((l.drop 1).take 4)) (valB ((l.drop 5).take 2)))
theorem valB_snoc (l : List Int) (x : Int) : valB (l ++ [x]) = valB l * 256 + x := by simp [valB]
theorem Byte.take {l : List Int} (h : Byte l) (n : Nat) : Byte (l.take n) := fun x hx => h x (List.mem_of_mem_take hx)
theorem Byte.drop {l : List Int} (h : Byte l) (n : Nat) : Byte (l.drop n) := fun x hx => h x (List.mem_of_mem_drop hx)
theorem Byte.app {l l' : List Int} (h : Byte l) (h' : Byte l') : Byte (l ++ l') := fun x hx => by
  rcases List.mem_append.1 hx with hx | hx
  · exact h x hx
  · exact h' x hx
theorem pow256 (n : Nat) : (1 : Int) ≤ 256 ^ n := by
  induction n with
  | zero => simp
  | succ n ih => rw [Int.pow_succ]; omega
theorem fold_bd : ∀ (l : List Int) (a : Int), Byte l → 0 ≤ a → 0 ≤ l.foldl (fun n c => n * 256 + c) a ∧ l.foldl (fun n c => n * 256 + c) a < (a + 1) * 256 ^ l.length
  | [], a, _, h => by simp; omega
  | x :: l, a, hb, h => by
    have h2 := hb x (by simp)
    have ih := fold_bd l (a * 256 + x) (fun y hy => hb y (by simp [hy])) (by omega)
    refine ⟨ih.1, Int.lt_of_lt_of_le ih.2 ?_⟩
    rw [List.length_cons, Int.pow_succ, Int.mul_comm (256 ^ l.length) 256, ← Int.mul_assoc]
    exact Int.mul_le_mul_of_nonneg_right (by omega) (by have := pow256 l.length; omega)
theorem valB_bd (l : List Int) (h : Byte l) : 0 ≤ valB l ∧ valB l < 256 ^ l.length := by
  have := fold_bd l 0 h (by omega)
  rw [Int.zero_add, Int.one_mul] at this
  exact this
theorem valB_bd4 (l : List Int) (h : Byte l) (hl : l.length ≤ 4) : 0 ≤ valB l ∧ valB l ≤ 4294967295 := by
  have h1 := valB_bd l h
  have h2 : (256 : Int) ^ l.length ≤ 256 ^ 4 := by
    rcases (show l.length = 0 ∨ l.length = 1 ∨ l.length = 2 ∨ l.length = 3 ∨ l.length = 4 by omega) with e | e | e | e | e <;> rw [e] <;> decide
  omega
theorem valB_bd2 (l : List Int) (h : Byte l) (hl : l.length ≤ 2) : 0 ≤ valB l ∧ valB l ≤ 65535 := by
  have h1 := valB_bd l h
  have h2 : (256 : Int) ^ l.length ≤ 256 ^ 2 := by
    rcases (show l.length = 0 ∨ l.length = 1 ∨ l.length = 2 by omega) with e | e | e <;> rw [e] <;> decide
  omega
theorem Byte.pad {l : List Int} (h : Byte l) : Byte (padB l) := (h.app (by intro x hx; simp at hx; omega)).take 4
theorem padB_len (l : List Int) : (padB l).length = 4 := by simp [padB]
end Go.Proofs.Ytjdapfimjpbnmaa
