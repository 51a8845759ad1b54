import Derived.Test.YtjdapfimjpbnmaaLaw02
import Derived.Test.YtjdapfimjpbnmaaStrs
set_option linter.unusedVariables false
set_option linter.unusedSimpArgs false
namespace Go.Proofs.Ytjdapfimjpbnmaa
open Go.RowKit
/-- Which of the two numbers, the third, the prefix and the picks a kind has. -/
def evHas (kind : Int) : Bool × Bool × Bool × Bool × Bool :=
  (decide (kind ≤ 6), (decide (kind = 3) || decide (7 ≤ kind ∧ kind ≤ 9)), (decide (kind = 2) || (decide (kind = 3) || decide (kind = 7))), (decide (kind = 4) || decide (kind = 5)), decide (kind = 1))
def numB (n : Int) : Bool := decide (0 ≤ n) && decide (n ≤ 65536)
/-- Can an event be written? -/
def evRightB (kind i k n a l : Int) (p : ByteArray) : Bool :=
  decide (0 ≤ kind) && decide (kind ≤ 10) && rightB a l && decide (p.size ≤ 240) && decide (p.size % 6 = 0) && numB i && numB k && numB n &&
    ((evHas kind).1 || i == 0) && ((evHas kind).2.1 || k == 0) && ((evHas kind).2.2.1 || n == 0) && ((evHas kind).2.2.2.1 || (a == 0 && l == 0)) && ((evHas kind).2.2.2.2 || decide (p.size = 0))
def evRest (kind i k n a l : Int) (p : ByteArray) : Bool :=
  ((evHas kind).1 || i == 0) && ((evHas kind).2.1 || k == 0) && ((evHas kind).2.2.1 || n == 0) && ((evHas kind).2.2.2.1 || (a == 0 && l == 0)) && ((evHas kind).2.2.2.2 || decide (p.size = 0))
theorem str_empty (p : ByteArray) : p.toList.isEmpty = decide (p.size = 0) := by
  have h : p.toList.length = p.size := by rw [toList_eq, Array.length_toList]; rfl
  rw [← h]
  cases p.toList <;> simp
abbrev evArr (kind i k n a l : Int) (p : ByteArray) : Array Value := #[.int .i64 kind, .int .i64 i, .int .i64 k, .int .i64 n, .int .u32 a, .int .i64 l, .string p]
theorem law14_neg (kind i k n a l : Int) (p : ByteArray) (w : World) (h : kind < 0) : Calls Try.prog 13 #[.agg (evArr kind i k n a l p)] w fun e w' => e = .returned (.bool false) ∧ Below w.heap.size w w' := by
  have hb0 : Below w.heap.size w (w.alloc (.cells (evArr kind i k n a l p) 30)) := (Below.refl _ _).alloc (Nat.le_refl _) _
  have h1 : decide (kind < 0) = true := decide_eq_true h
  simp only [evArr] at hb0 ⊢
  go_enter Try.func13, Try.ntmps13
  go_wp2
  go_ret
  exact ⟨rfl, hb0⟩
theorem law14_big (kind i k n a l : Int) (p : ByteArray) (w : World) (h : ¬ kind < 0) (h' : kind > 10) : Calls Try.prog 13 #[.agg (evArr kind i k n a l p)] w fun e w' => e = .returned (.bool false) ∧ Below w.heap.size w w' := by
  have hb0 : Below w.heap.size w (w.alloc (.cells (evArr kind i k n a l p) 30)) := (Below.refl _ _).alloc (Nat.le_refl _) _
  have h1 : decide (kind < 0) = false := decide_eq_false h
  have h2 : decide (10 < kind) = true := decide_eq_true h'
  simp only [evArr] at hb0 ⊢
  go_enter Try.func13, Try.ntmps13
  go_wp2
  go_ret
  exact ⟨rfl, hb0⟩
theorem law14_pfx (kind i k n a l : Int) (p : ByteArray) (w : World) (ha : 0 ≤ a ∧ a ≤ 4294967295) (h : 0 ≤ kind ∧ kind ≤ 10) (hr : rightB a l = false) : Calls Try.prog 13 #[.agg (evArr kind i k n a l p)] w fun e w' => e = .returned (.bool false) ∧ Below w.heap.size w w' := by
  have hb0 : Below w.heap.size w (w.alloc (.cells (evArr kind i k n a l p) 30)) := (Below.refl _ _).alloc (Nat.le_refl _) _
  have kE := Blk.new w 30 (evArr kind i k n a l p)
  have h1 : decide (kind < 0) = false := decide_eq_false (by omega)
  have h2 : decide (10 < kind) = false := decide_eq_false (by omega)
  simp only [evArr] at hb0 kE ⊢
  go_enter Try.func13, Try.ntmps13
  go_wp2_with fail
  refine (law02_Right _ _ _ ha).mono ?_
  rintro e w1 ⟨rfl, hb1⟩
  rw [hr]
  have hb := below_step hb0 hb0.size hb1
  replace kE := kE.below' hb1
  clear hb1 hb0 h1 h2
  have hlt := kE.lt
  have x0 := kE.cell 0
  have x1 := kE.cell 1
  have x2 := kE.cell 2
  have x3 := kE.cell 3
  have x4 := kE.cell 4
  have x5 := kE.cell 5
  have x6 := kE.cell 6
  simp only [List.getElem?_toArray, List.getElem?_cons_zero, List.getElem?_cons_succ] at x0 x1 x2 x3 x4 x5 x6
  go_wp2
  go_ret
  exact ⟨rfl, hb⟩
theorem law14_len (kind i k n a l : Int) (p : ByteArray) (w : World) (ha : 0 ≤ a ∧ a ≤ 4294967295) (h : 0 ≤ kind ∧ kind ≤ 10) (hr : rightB a l = true) (hp : 240 < p.size) : Calls Try.prog 13 #[.agg (evArr kind i k n a l p)] w fun e w' => e = .returned (.bool false) ∧ Below w.heap.size w w' := by
  have hb0 : Below w.heap.size w (w.alloc (.cells (evArr kind i k n a l p) 30)) := (Below.refl _ _).alloc (Nat.le_refl _) _
  have kE := Blk.new w 30 (evArr kind i k n a l p)
  have h1 : decide (kind < 0) = false := decide_eq_false (by omega)
  have h2 : decide (10 < kind) = false := decide_eq_false (by omega)
  simp only [evArr] at hb0 kE ⊢
  go_enter Try.func13, Try.ntmps13
  go_wp2_with fail
  refine (law02_Right _ _ _ ha).mono ?_
  rintro e w1 ⟨rfl, hb1⟩
  rw [hr]
  have hb := below_step hb0 hb0.size hb1
  replace kE := kE.below' hb1
  clear hb1 hb0 h1 h2
  have hlt := kE.lt
  have x0 := kE.cell 0
  have x1 := kE.cell 1
  have x2 := kE.cell 2
  have x3 := kE.cell 3
  have x4 := kE.cell 4
  have x5 := kE.cell 5
  have x6 := kE.cell 6
  simp only [List.getElem?_toArray, List.getElem?_cons_zero, List.getElem?_cons_succ] at x0 x1 x2 x3 x4 x5 x6
  have h3 : decide ((240 : Int) < (p.size : Int)) = true := decide_eq_true (by omega)
  go_wp2
  go_ret
  exact ⟨rfl, hb⟩
theorem law14_mod (kind i k n a l : Int) (p : ByteArray) (w : World) (ha : 0 ≤ a ∧ a ≤ 4294967295) (h : 0 ≤ kind ∧ kind ≤ 10) (hr : rightB a l = true) (hp : p.size ≤ 240) (hm : p.size % 6 ≠ 0) : Calls Try.prog 13 #[.agg (evArr kind i k n a l p)] w fun e w' => e = .returned (.bool false) ∧ Below w.heap.size w w' := by
  have hb0 : Below w.heap.size w (w.alloc (.cells (evArr kind i k n a l p) 30)) := (Below.refl _ _).alloc (Nat.le_refl _) _
  have kE := Blk.new w 30 (evArr kind i k n a l p)
  have h1 : decide (kind < 0) = false := decide_eq_false (by omega)
  have h2 : decide (10 < kind) = false := decide_eq_false (by omega)
  simp only [evArr] at hb0 kE ⊢
  go_enter Try.func13, Try.ntmps13
  go_wp2_with fail
  refine (law02_Right _ _ _ ha).mono ?_
  rintro e w1 ⟨rfl, hb1⟩
  rw [hr]
  have hb := below_step hb0 hb0.size hb1
  replace kE := kE.below' hb1
  clear hb1 hb0 h1 h2
  have hlt := kE.lt
  have x0 := kE.cell 0
  have x1 := kE.cell 1
  have x2 := kE.cell 2
  have x3 := kE.cell 3
  have x4 := kE.cell 4
  have x5 := kE.cell 5
  have x6 := kE.cell 6
  simp only [List.getElem?_toArray, List.getElem?_cons_zero, List.getElem?_cons_succ] at x0 x1 x2 x3 x4 x5 x6
  have h3 : decide ((240 : Int) < (p.size : Int)) = false := decide_eq_false (by omega)
  have h4 : (((p.size : Int) % 6) == 0) = false := beq_eq_false_iff_ne.2 (by omega)
  have h5 : (((p.size : Int) % 6) != 0) = true := bne_iff_ne.2 (by omega)
  go_wp2
  go_ret
  exact ⟨rfl, hb⟩
set_option maxHeartbeats 1000000 in
theorem law14_num (kind i k n a l : Int) (p : ByteArray) (w : World) (ha : 0 ≤ a ∧ a ≤ 4294967295) (h : 0 ≤ kind ∧ kind ≤ 10) (hr : rightB a l = true) (hp : p.size ≤ 240) (hm : p.size % 6 = 0) (hn : (numB i && numB k && numB n) = false) : Calls Try.prog 13 #[.agg (evArr kind i k n a l p)] w fun e w' => e = .returned (.bool false) ∧ Below w.heap.size w w' := by
  have hb0 : Below w.heap.size w (w.alloc (.cells (evArr kind i k n a l p) 30)) := (Below.refl _ _).alloc (Nat.le_refl _) _
  have kE := Blk.new w 30 (evArr kind i k n a l p)
  have h1 : decide (kind < 0) = false := decide_eq_false (by omega)
  have h2 : decide (10 < kind) = false := decide_eq_false (by omega)
  simp only [evArr] at hb0 kE ⊢
  go_enter Try.func13, Try.ntmps13
  go_wp2_with fail
  refine (law02_Right _ _ _ ha).mono ?_
  rintro e w1 ⟨rfl, hb1⟩
  rw [hr]
  have hb := below_step hb0 hb0.size hb1
  replace kE := kE.below' hb1
  clear hb1 hb0 h1 h2
  have hlt := kE.lt
  have x0 := kE.cell 0
  have x1 := kE.cell 1
  have x2 := kE.cell 2
  have x3 := kE.cell 3
  have x4 := kE.cell 4
  have x5 := kE.cell 5
  have x6 := kE.cell 6
  simp only [List.getElem?_toArray, List.getElem?_cons_zero, List.getElem?_cons_succ] at x0 x1 x2 x3 x4 x5 x6
  have h3 : decide ((240 : Int) < (p.size : Int)) = false := decide_eq_false (by omega)
  have h4 : (((p.size : Int) % 6) == 0) = true := beq_iff_eq.2 (by omega)
  have h5 : (((p.size : Int) % 6) != 0) = false := bne_eq_false_iff_eq.2 (by omega)
  clear hp hm
  by_cases li : i < 0
  · have d1 : decide (i < 0) = true := decide_eq_true li
    go_wp2
    go_ret
    exact ⟨rfl, hb⟩
  have li : decide (i < 0) = false := decide_eq_false li
  by_cases hi : 65536 < i
  · have d1 : decide (65536 < i) = true := decide_eq_true hi
    go_wp2
    go_ret
    exact ⟨rfl, hb⟩
  have hi : decide (65536 < i) = false := decide_eq_false hi
  by_cases lk : k < 0
  · have d1 : decide (k < 0) = true := decide_eq_true lk
    go_wp2
    go_ret
    exact ⟨rfl, hb⟩
  have lk : decide (k < 0) = false := decide_eq_false lk
  by_cases hk : 65536 < k
  · have d1 : decide (65536 < k) = true := decide_eq_true hk
    go_wp2
    go_ret
    exact ⟨rfl, hb⟩
  have hk : decide (65536 < k) = false := decide_eq_false hk
  by_cases ln : n < 0
  · have d1 : decide (n < 0) = true := decide_eq_true ln
    go_wp2
    go_ret
    exact ⟨rfl, hb⟩
  have ln : decide (n < 0) = false := decide_eq_false ln
  by_cases hn' : 65536 < n
  · have d1 : decide (65536 < n) = true := decide_eq_true hn'
    go_wp2
    go_ret
    exact ⟨rfl, hb⟩
  have hn' : decide (65536 < n) = false := decide_eq_false hn'
  exfalso
  simp only [decide_eq_false_iff_not] at li hi lk hk ln hn'
  simp [numB] at hn
  omega
end Go.Proofs.Ytjdapfimjpbnmaa
