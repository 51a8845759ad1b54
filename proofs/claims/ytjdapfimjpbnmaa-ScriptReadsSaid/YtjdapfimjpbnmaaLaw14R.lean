import Derived.Test.YtjdapfimjpbnmaaLaw14
set_option linter.unusedVariables false
set_option linter.unusedSimpArgs false
namespace Go.Proofs.Ytjdapfimjpbnmaa
open Go.RowKit
set_option maxHeartbeats 1000000 in
theorem law14_k0 (i k n a l : Int) (p : ByteArray) (w : World) (ha : 0 ≤ a ∧ a ≤ 4294967295) (hr : rightB a l = true) (h3 : decide ((240 : Int) < (p.size : Int)) = false) (h4 : (((p.size : Int) % 6) == 0) = true) (h5 : (((p.size : Int) % 6) != 0) = false) (li : decide (i < 0) = false) (hi : decide (65536 < i) = false) (lk : decide (k < 0) = false) (hk : decide (65536 < k) = false) (ln : decide (n < 0) = false) (hn : decide (65536 < n) = false) : Calls Try.prog 13 #[.agg (evArr 0 i k n a l p)] w fun e w' => e = .returned (.bool (evRest 0 i k n a l p)) ∧ Below w.heap.size w w' := by
  have hb0 : Below w.heap.size w (w.alloc (.cells (evArr 0 i k n a l p) 30)) := (Below.refl _ _).alloc (Nat.le_refl _) _
  have kE := Blk.new w 30 (evArr 0 i k n a l p)
  simp only [evArr] at hb0 kE ⊢
  go_enter Try.func13, Try.ntmps13
  go_wp2_with fail
  refine (law02_Right _ _ _ ha).mono ?_
  rintro e w1 ⟨rfl, hb1⟩
  rw [hr]
  have hb := below_step hb0 hb0.size hb1
  replace kE := kE.below' hb1
  have hsz : w.heap.size ≤ w1.heap.size := hb.size
  clear hb1 hb0
  have hlt := kE.lt
  have x0 := kE.cell 0
  have x1 := kE.cell 1
  have x2 := kE.cell 2
  have x3 := kE.cell 3
  have x4 := kE.cell 4
  have x5 := kE.cell 5
  have x6 := kE.cell 6
  simp only [List.getElem?_toArray, List.getElem?_cons_zero, List.getElem?_cons_succ] at x0 x1 x2 x3 x4 x5 x6
  clear kE
  go_wp2
  all_goals (go_ret; refine ⟨?_, ((hb.alloc hsz _).alloc (by simp; omega) _)⟩; exact congrArg (fun b => Ending.returned (Value.bool b)) (by simp [evRest, evHas, str_empty, *]))
set_option maxHeartbeats 1000000 in
theorem law14_k1 (i k n a l : Int) (p : ByteArray) (w : World) (ha : 0 ≤ a ∧ a ≤ 4294967295) (hr : rightB a l = true) (h3 : decide ((240 : Int) < (p.size : Int)) = false) (h4 : (((p.size : Int) % 6) == 0) = true) (h5 : (((p.size : Int) % 6) != 0) = false) (li : decide (i < 0) = false) (hi : decide (65536 < i) = false) (lk : decide (k < 0) = false) (hk : decide (65536 < k) = false) (ln : decide (n < 0) = false) (hn : decide (65536 < n) = false) : Calls Try.prog 13 #[.agg (evArr 1 i k n a l p)] w fun e w' => e = .returned (.bool (evRest 1 i k n a l p)) ∧ Below w.heap.size w w' := by
  have hb0 : Below w.heap.size w (w.alloc (.cells (evArr 1 i k n a l p) 30)) := (Below.refl _ _).alloc (Nat.le_refl _) _
  have kE := Blk.new w 30 (evArr 1 i k n a l p)
  simp only [evArr] at hb0 kE ⊢
  go_enter Try.func13, Try.ntmps13
  go_wp2_with fail
  refine (law02_Right _ _ _ ha).mono ?_
  rintro e w1 ⟨rfl, hb1⟩
  rw [hr]
  have hb := below_step hb0 hb0.size hb1
  replace kE := kE.below' hb1
  have hsz : w.heap.size ≤ w1.heap.size := hb.size
  clear hb1 hb0
  have hlt := kE.lt
  have x0 := kE.cell 0
  have x1 := kE.cell 1
  have x2 := kE.cell 2
  have x3 := kE.cell 3
  have x4 := kE.cell 4
  have x5 := kE.cell 5
  have x6 := kE.cell 6
  simp only [List.getElem?_toArray, List.getElem?_cons_zero, List.getElem?_cons_succ] at x0 x1 x2 x3 x4 x5 x6
  clear kE
  go_wp2
  all_goals (go_ret; refine ⟨?_, ((hb.alloc hsz _).alloc (by simp; omega) _)⟩; exact congrArg (fun b => Ending.returned (Value.bool b)) (by simp [evRest, evHas, str_empty, *]))
set_option maxHeartbeats 1000000 in
theorem law14_k2 (i k n a l : Int) (p : ByteArray) (w : World) (ha : 0 ≤ a ∧ a ≤ 4294967295) (hr : rightB a l = true) (h3 : decide ((240 : Int) < (p.size : Int)) = false) (h4 : (((p.size : Int) % 6) == 0) = true) (h5 : (((p.size : Int) % 6) != 0) = false) (li : decide (i < 0) = false) (hi : decide (65536 < i) = false) (lk : decide (k < 0) = false) (hk : decide (65536 < k) = false) (ln : decide (n < 0) = false) (hn : decide (65536 < n) = false) : Calls Try.prog 13 #[.agg (evArr 2 i k n a l p)] w fun e w' => e = .returned (.bool (evRest 2 i k n a l p)) ∧ Below w.heap.size w w' := by
  have hb0 : Below w.heap.size w (w.alloc (.cells (evArr 2 i k n a l p) 30)) := (Below.refl _ _).alloc (Nat.le_refl _) _
  have kE := Blk.new w 30 (evArr 2 i k n a l p)
  simp only [evArr] at hb0 kE ⊢
  go_enter Try.func13, Try.ntmps13
  go_wp2_with fail
  refine (law02_Right _ _ _ ha).mono ?_
  rintro e w1 ⟨rfl, hb1⟩
  rw [hr]
  have hb := below_step hb0 hb0.size hb1
  replace kE := kE.below' hb1
  have hsz : w.heap.size ≤ w1.heap.size := hb.size
  clear hb1 hb0
  have hlt := kE.lt
  have x0 := kE.cell 0
  have x1 := kE.cell 1
  have x2 := kE.cell 2
  have x3 := kE.cell 3
  have x4 := kE.cell 4
  have x5 := kE.cell 5
  have x6 := kE.cell 6
  simp only [List.getElem?_toArray, List.getElem?_cons_zero, List.getElem?_cons_succ] at x0 x1 x2 x3 x4 x5 x6
  clear kE
  go_wp2
  all_goals (go_ret; refine ⟨?_, ((hb.alloc hsz _).alloc (by simp; omega) _)⟩; exact congrArg (fun b => Ending.returned (Value.bool b)) (by simp [evRest, evHas, str_empty, *]))
set_option maxHeartbeats 1000000 in
theorem law14_k3 (i k n a l : Int) (p : ByteArray) (w : World) (ha : 0 ≤ a ∧ a ≤ 4294967295) (hr : rightB a l = true) (h3 : decide ((240 : Int) < (p.size : Int)) = false) (h4 : (((p.size : Int) % 6) == 0) = true) (h5 : (((p.size : Int) % 6) != 0) = false) (li : decide (i < 0) = false) (hi : decide (65536 < i) = false) (lk : decide (k < 0) = false) (hk : decide (65536 < k) = false) (ln : decide (n < 0) = false) (hn : decide (65536 < n) = false) : Calls Try.prog 13 #[.agg (evArr 3 i k n a l p)] w fun e w' => e = .returned (.bool (evRest 3 i k n a l p)) ∧ Below w.heap.size w w' := by
  have hb0 : Below w.heap.size w (w.alloc (.cells (evArr 3 i k n a l p) 30)) := (Below.refl _ _).alloc (Nat.le_refl _) _
  have kE := Blk.new w 30 (evArr 3 i k n a l p)
  simp only [evArr] at hb0 kE ⊢
  go_enter Try.func13, Try.ntmps13
  go_wp2_with fail
  refine (law02_Right _ _ _ ha).mono ?_
  rintro e w1 ⟨rfl, hb1⟩
  rw [hr]
  have hb := below_step hb0 hb0.size hb1
  replace kE := kE.below' hb1
  have hsz : w.heap.size ≤ w1.heap.size := hb.size
  clear hb1 hb0
  have hlt := kE.lt
  have x0 := kE.cell 0
  have x1 := kE.cell 1
  have x2 := kE.cell 2
  have x3 := kE.cell 3
  have x4 := kE.cell 4
  have x5 := kE.cell 5
  have x6 := kE.cell 6
  simp only [List.getElem?_toArray, List.getElem?_cons_zero, List.getElem?_cons_succ] at x0 x1 x2 x3 x4 x5 x6
  clear kE
  go_wp2
  all_goals (go_ret; refine ⟨?_, ((hb.alloc hsz _).alloc (by simp; omega) _)⟩; exact congrArg (fun b => Ending.returned (Value.bool b)) (by simp [evRest, evHas, str_empty, *]))
set_option maxHeartbeats 1000000 in
theorem law14_k4 (i k n a l : Int) (p : ByteArray) (w : World) (ha : 0 ≤ a ∧ a ≤ 4294967295) (hr : rightB a l = true) (h3 : decide ((240 : Int) < (p.size : Int)) = false) (h4 : (((p.size : Int) % 6) == 0) = true) (h5 : (((p.size : Int) % 6) != 0) = false) (li : decide (i < 0) = false) (hi : decide (65536 < i) = false) (lk : decide (k < 0) = false) (hk : decide (65536 < k) = false) (ln : decide (n < 0) = false) (hn : decide (65536 < n) = false) : Calls Try.prog 13 #[.agg (evArr 4 i k n a l p)] w fun e w' => e = .returned (.bool (evRest 4 i k n a l p)) ∧ Below w.heap.size w w' := by
  have hb0 : Below w.heap.size w (w.alloc (.cells (evArr 4 i k n a l p) 30)) := (Below.refl _ _).alloc (Nat.le_refl _) _
  have kE := Blk.new w 30 (evArr 4 i k n a l p)
  simp only [evArr] at hb0 kE ⊢
  go_enter Try.func13, Try.ntmps13
  go_wp2_with fail
  refine (law02_Right _ _ _ ha).mono ?_
  rintro e w1 ⟨rfl, hb1⟩
  rw [hr]
  have hb := below_step hb0 hb0.size hb1
  replace kE := kE.below' hb1
  have hsz : w.heap.size ≤ w1.heap.size := hb.size
  clear hb1 hb0
  have hlt := kE.lt
  have x0 := kE.cell 0
  have x1 := kE.cell 1
  have x2 := kE.cell 2
  have x3 := kE.cell 3
  have x4 := kE.cell 4
  have x5 := kE.cell 5
  have x6 := kE.cell 6
  simp only [List.getElem?_toArray, List.getElem?_cons_zero, List.getElem?_cons_succ] at x0 x1 x2 x3 x4 x5 x6
  clear kE
  go_wp2
  all_goals (go_ret; refine ⟨?_, ((hb.alloc hsz _).alloc (by simp; omega) _)⟩; exact congrArg (fun b => Ending.returned (Value.bool b)) (by simp [evRest, evHas, str_empty, *]))
set_option maxHeartbeats 1000000 in
theorem law14_k5 (i k n a l : Int) (p : ByteArray) (w : World) (ha : 0 ≤ a ∧ a ≤ 4294967295) (hr : rightB a l = true) (h3 : decide ((240 : Int) < (p.size : Int)) = false) (h4 : (((p.size : Int) % 6) == 0) = true) (h5 : (((p.size : Int) % 6) != 0) = false) (li : decide (i < 0) = false) (hi : decide (65536 < i) = false) (lk : decide (k < 0) = false) (hk : decide (65536 < k) = false) (ln : decide (n < 0) = false) (hn : decide (65536 < n) = false) : Calls Try.prog 13 #[.agg (evArr 5 i k n a l p)] w fun e w' => e = .returned (.bool (evRest 5 i k n a l p)) ∧ Below w.heap.size w w' := by
  have hb0 : Below w.heap.size w (w.alloc (.cells (evArr 5 i k n a l p) 30)) := (Below.refl _ _).alloc (Nat.le_refl _) _
  have kE := Blk.new w 30 (evArr 5 i k n a l p)
  simp only [evArr] at hb0 kE ⊢
  go_enter Try.func13, Try.ntmps13
  go_wp2_with fail
  refine (law02_Right _ _ _ ha).mono ?_
  rintro e w1 ⟨rfl, hb1⟩
  rw [hr]
  have hb := below_step hb0 hb0.size hb1
  replace kE := kE.below' hb1
  have hsz : w.heap.size ≤ w1.heap.size := hb.size
  clear hb1 hb0
  have hlt := kE.lt
  have x0 := kE.cell 0
  have x1 := kE.cell 1
  have x2 := kE.cell 2
  have x3 := kE.cell 3
  have x4 := kE.cell 4
  have x5 := kE.cell 5
  have x6 := kE.cell 6
  simp only [List.getElem?_toArray, List.getElem?_cons_zero, List.getElem?_cons_succ] at x0 x1 x2 x3 x4 x5 x6
  clear kE
  go_wp2
  all_goals (go_ret; refine ⟨?_, ((hb.alloc hsz _).alloc (by simp; omega) _)⟩; exact congrArg (fun b => Ending.returned (Value.bool b)) (by simp [evRest, evHas, str_empty, *]))
set_option maxHeartbeats 1000000 in
theorem law14_k6 (i k n a l : Int) (p : ByteArray) (w : World) (ha : 0 ≤ a ∧ a ≤ 4294967295) (hr : rightB a l = true) (h3 : decide ((240 : Int) < (p.size : Int)) = false) (h4 : (((p.size : Int) % 6) == 0) = true) (h5 : (((p.size : Int) % 6) != 0) = false) (li : decide (i < 0) = false) (hi : decide (65536 < i) = false) (lk : decide (k < 0) = false) (hk : decide (65536 < k) = false) (ln : decide (n < 0) = false) (hn : decide (65536 < n) = false) : Calls Try.prog 13 #[.agg (evArr 6 i k n a l p)] w fun e w' => e = .returned (.bool (evRest 6 i k n a l p)) ∧ Below w.heap.size w w' := by
  have hb0 : Below w.heap.size w (w.alloc (.cells (evArr 6 i k n a l p) 30)) := (Below.refl _ _).alloc (Nat.le_refl _) _
  have kE := Blk.new w 30 (evArr 6 i k n a l p)
  simp only [evArr] at hb0 kE ⊢
  go_enter Try.func13, Try.ntmps13
  go_wp2_with fail
  refine (law02_Right _ _ _ ha).mono ?_
  rintro e w1 ⟨rfl, hb1⟩
  rw [hr]
  have hb := below_step hb0 hb0.size hb1
  replace kE := kE.below' hb1
  have hsz : w.heap.size ≤ w1.heap.size := hb.size
  clear hb1 hb0
  have hlt := kE.lt
  have x0 := kE.cell 0
  have x1 := kE.cell 1
  have x2 := kE.cell 2
  have x3 := kE.cell 3
  have x4 := kE.cell 4
  have x5 := kE.cell 5
  have x6 := kE.cell 6
  simp only [List.getElem?_toArray, List.getElem?_cons_zero, List.getElem?_cons_succ] at x0 x1 x2 x3 x4 x5 x6
  clear kE
  go_wp2
  all_goals (go_ret; refine ⟨?_, ((hb.alloc hsz _).alloc (by simp; omega) _)⟩; exact congrArg (fun b => Ending.returned (Value.bool b)) (by simp [evRest, evHas, str_empty, *]))
set_option maxHeartbeats 1000000 in
theorem law14_k7 (i k n a l : Int) (p : ByteArray) (w : World) (ha : 0 ≤ a ∧ a ≤ 4294967295) (hr : rightB a l = true) (h3 : decide ((240 : Int) < (p.size : Int)) = false) (h4 : (((p.size : Int) % 6) == 0) = true) (h5 : (((p.size : Int) % 6) != 0) = false) (li : decide (i < 0) = false) (hi : decide (65536 < i) = false) (lk : decide (k < 0) = false) (hk : decide (65536 < k) = false) (ln : decide (n < 0) = false) (hn : decide (65536 < n) = false) : Calls Try.prog 13 #[.agg (evArr 7 i k n a l p)] w fun e w' => e = .returned (.bool (evRest 7 i k n a l p)) ∧ Below w.heap.size w w' := by
  have hb0 : Below w.heap.size w (w.alloc (.cells (evArr 7 i k n a l p) 30)) := (Below.refl _ _).alloc (Nat.le_refl _) _
  have kE := Blk.new w 30 (evArr 7 i k n a l p)
  simp only [evArr] at hb0 kE ⊢
  go_enter Try.func13, Try.ntmps13
  go_wp2_with fail
  refine (law02_Right _ _ _ ha).mono ?_
  rintro e w1 ⟨rfl, hb1⟩
  rw [hr]
  have hb := below_step hb0 hb0.size hb1
  replace kE := kE.below' hb1
  have hsz : w.heap.size ≤ w1.heap.size := hb.size
  clear hb1 hb0
  have hlt := kE.lt
  have x0 := kE.cell 0
  have x1 := kE.cell 1
  have x2 := kE.cell 2
  have x3 := kE.cell 3
  have x4 := kE.cell 4
  have x5 := kE.cell 5
  have x6 := kE.cell 6
  simp only [List.getElem?_toArray, List.getElem?_cons_zero, List.getElem?_cons_succ] at x0 x1 x2 x3 x4 x5 x6
  clear kE
  go_wp2
  all_goals (go_ret; refine ⟨?_, ((hb.alloc hsz _).alloc (by simp; omega) _)⟩; exact congrArg (fun b => Ending.returned (Value.bool b)) (by simp [evRest, evHas, str_empty, *]))
set_option maxHeartbeats 1000000 in
theorem law14_k8 (i k n a l : Int) (p : ByteArray) (w : World) (ha : 0 ≤ a ∧ a ≤ 4294967295) (hr : rightB a l = true) (h3 : decide ((240 : Int) < (p.size : Int)) = false) (h4 : (((p.size : Int) % 6) == 0) = true) (h5 : (((p.size : Int) % 6) != 0) = false) (li : decide (i < 0) = false) (hi : decide (65536 < i) = false) (lk : decide (k < 0) = false) (hk : decide (65536 < k) = false) (ln : decide (n < 0) = false) (hn : decide (65536 < n) = false) : Calls Try.prog 13 #[.agg (evArr 8 i k n a l p)] w fun e w' => e = .returned (.bool (evRest 8 i k n a l p)) ∧ Below w.heap.size w w' := by
  have hb0 : Below w.heap.size w (w.alloc (.cells (evArr 8 i k n a l p) 30)) := (Below.refl _ _).alloc (Nat.le_refl _) _
  have kE := Blk.new w 30 (evArr 8 i k n a l p)
  simp only [evArr] at hb0 kE ⊢
  go_enter Try.func13, Try.ntmps13
  go_wp2_with fail
  refine (law02_Right _ _ _ ha).mono ?_
  rintro e w1 ⟨rfl, hb1⟩
  rw [hr]
  have hb := below_step hb0 hb0.size hb1
  replace kE := kE.below' hb1
  have hsz : w.heap.size ≤ w1.heap.size := hb.size
  clear hb1 hb0
  have hlt := kE.lt
  have x0 := kE.cell 0
  have x1 := kE.cell 1
  have x2 := kE.cell 2
  have x3 := kE.cell 3
  have x4 := kE.cell 4
  have x5 := kE.cell 5
  have x6 := kE.cell 6
  simp only [List.getElem?_toArray, List.getElem?_cons_zero, List.getElem?_cons_succ] at x0 x1 x2 x3 x4 x5 x6
  clear kE
  go_wp2
  all_goals (go_ret; refine ⟨?_, ((hb.alloc hsz _).alloc (by simp; omega) _)⟩; exact congrArg (fun b => Ending.returned (Value.bool b)) (by simp [evRest, evHas, str_empty, *]))
set_option maxHeartbeats 1000000 in
theorem law14_k9 (i k n a l : Int) (p : ByteArray) (w : World) (ha : 0 ≤ a ∧ a ≤ 4294967295) (hr : rightB a l = true) (h3 : decide ((240 : Int) < (p.size : Int)) = false) (h4 : (((p.size : Int) % 6) == 0) = true) (h5 : (((p.size : Int) % 6) != 0) = false) (li : decide (i < 0) = false) (hi : decide (65536 < i) = false) (lk : decide (k < 0) = false) (hk : decide (65536 < k) = false) (ln : decide (n < 0) = false) (hn : decide (65536 < n) = false) : Calls Try.prog 13 #[.agg (evArr 9 i k n a l p)] w fun e w' => e = .returned (.bool (evRest 9 i k n a l p)) ∧ Below w.heap.size w w' := by
  have hb0 : Below w.heap.size w (w.alloc (.cells (evArr 9 i k n a l p) 30)) := (Below.refl _ _).alloc (Nat.le_refl _) _
  have kE := Blk.new w 30 (evArr 9 i k n a l p)
  simp only [evArr] at hb0 kE ⊢
  go_enter Try.func13, Try.ntmps13
  go_wp2_with fail
  refine (law02_Right _ _ _ ha).mono ?_
  rintro e w1 ⟨rfl, hb1⟩
  rw [hr]
  have hb := below_step hb0 hb0.size hb1
  replace kE := kE.below' hb1
  have hsz : w.heap.size ≤ w1.heap.size := hb.size
  clear hb1 hb0
  have hlt := kE.lt
  have x0 := kE.cell 0
  have x1 := kE.cell 1
  have x2 := kE.cell 2
  have x3 := kE.cell 3
  have x4 := kE.cell 4
  have x5 := kE.cell 5
  have x6 := kE.cell 6
  simp only [List.getElem?_toArray, List.getElem?_cons_zero, List.getElem?_cons_succ] at x0 x1 x2 x3 x4 x5 x6
  clear kE
  go_wp2
  all_goals (go_ret; refine ⟨?_, ((hb.alloc hsz _).alloc (by simp; omega) _)⟩; exact congrArg (fun b => Ending.returned (Value.bool b)) (by simp [evRest, evHas, str_empty, *]))
set_option maxHeartbeats 1000000 in
theorem law14_k10 (i k n a l : Int) (p : ByteArray) (w : World) (ha : 0 ≤ a ∧ a ≤ 4294967295) (hr : rightB a l = true) (h3 : decide ((240 : Int) < (p.size : Int)) = false) (h4 : (((p.size : Int) % 6) == 0) = true) (h5 : (((p.size : Int) % 6) != 0) = false) (li : decide (i < 0) = false) (hi : decide (65536 < i) = false) (lk : decide (k < 0) = false) (hk : decide (65536 < k) = false) (ln : decide (n < 0) = false) (hn : decide (65536 < n) = false) : Calls Try.prog 13 #[.agg (evArr 10 i k n a l p)] w fun e w' => e = .returned (.bool (evRest 10 i k n a l p)) ∧ Below w.heap.size w w' := by
  have hb0 : Below w.heap.size w (w.alloc (.cells (evArr 10 i k n a l p) 30)) := (Below.refl _ _).alloc (Nat.le_refl _) _
  have kE := Blk.new w 30 (evArr 10 i k n a l p)
  simp only [evArr] at hb0 kE ⊢
  go_enter Try.func13, Try.ntmps13
  go_wp2_with fail
  refine (law02_Right _ _ _ ha).mono ?_
  rintro e w1 ⟨rfl, hb1⟩
  rw [hr]
  have hb := below_step hb0 hb0.size hb1
  replace kE := kE.below' hb1
  have hsz : w.heap.size ≤ w1.heap.size := hb.size
  clear hb1 hb0
  have hlt := kE.lt
  have x0 := kE.cell 0
  have x1 := kE.cell 1
  have x2 := kE.cell 2
  have x3 := kE.cell 3
  have x4 := kE.cell 4
  have x5 := kE.cell 5
  have x6 := kE.cell 6
  simp only [List.getElem?_toArray, List.getElem?_cons_zero, List.getElem?_cons_succ] at x0 x1 x2 x3 x4 x5 x6
  clear kE
  go_wp2
  all_goals (go_ret; refine ⟨?_, ((hb.alloc hsz _).alloc (by simp; omega) _)⟩; exact congrArg (fun b => Ending.returned (Value.bool b)) (by simp [evRest, evHas, str_empty, *]))
theorem law14_Right (kind i k n a l : Int) (p : ByteArray) (w : World) (ha : 0 ≤ a ∧ a ≤ 4294967295) : Calls Try.prog 13 #[.agg (evArr kind i k n a l p)] w fun e w' => e = .returned (.bool (evRightB kind i k n a l p)) ∧ Below w.heap.size w w' := by
  have no : ∀ {b : Bool}, Calls Try.prog 13 #[.agg (evArr kind i k n a l p)] w (fun e w' => e = .returned (.bool false) ∧ Below w.heap.size w w') → b = false → Calls Try.prog 13 #[.agg (evArr kind i k n a l p)] w (fun e w' => e = .returned (.bool b) ∧ Below w.heap.size w w') := fun h e => by rw [e]; exact h
  by_cases h1 : kind < 0
  · exact no (law14_neg _ _ _ _ _ _ _ w h1) (by simp [evRightB, show ¬ 0 ≤ kind by omega])
  by_cases h2 : kind > 10
  · exact no (law14_big _ _ _ _ _ _ _ w h1 h2) (by simp [evRightB, show ¬ kind ≤ 10 by omega])
  have hk : 0 ≤ kind ∧ kind ≤ 10 := by omega
  cases hr : rightB a l with
  | false => exact no (law14_pfx _ _ _ _ _ _ _ w ha hk hr) (by simp [evRightB, hr])
  | true =>
  by_cases h3 : p.size ≤ 240
  case neg => exact no (law14_len _ _ _ _ _ _ _ w ha hk hr (by omega)) (by simp [evRightB, h3])
  by_cases h4 : p.size % 6 = 0
  case neg => exact no (law14_mod _ _ _ _ _ _ _ w ha hk hr h3 h4) (by simp [evRightB, h4])
  cases h5 : (numB i && numB k && numB n) with
  | false => exact no (law14_num _ _ _ _ _ _ _ w ha hk hr h3 h4 h5) (by simp only [Bool.and_eq_false_iff] at h5; rcases h5 with (h5 | h5) | h5 <;> simp [evRightB, h5])
  | true =>
  have h5' := h5
  simp only [Bool.and_eq_true] at h5
  obtain ⟨⟨hi, hk'⟩, hn⟩ := h5
  have e : evRightB kind i k n a l p = evRest kind i k n a l p := by
    unfold evRightB evRest
    simp [hk.1, hk.2, hr, h3, h4, hi, hk', hn]
  rw [e]
  simp only [numB, Bool.and_eq_true, decide_eq_true_eq] at hi hk' hn
  have a3 : decide ((240 : Int) < (p.size : Int)) = false := decide_eq_false (by omega)
  have a4 : (((p.size : Int) % 6) == 0) = true := beq_iff_eq.2 (by omega)
  have a5 : (((p.size : Int) % 6) != 0) = false := bne_eq_false_iff_eq.2 (by omega)
  have b1 : decide (i < 0) = false := decide_eq_false (by omega)
  have b2 : decide (65536 < i) = false := decide_eq_false (by omega)
  have b3 : decide (k < 0) = false := decide_eq_false (by omega)
  have b4 : decide (65536 < k) = false := decide_eq_false (by omega)
  have b5 : decide (n < 0) = false := decide_eq_false (by omega)
  have b6 : decide (65536 < n) = false := decide_eq_false (by omega)
  clear e h5' hi hk' hn no h1 h2
  rcases (show kind = 0 ∨ kind = 1 ∨ kind = 2 ∨ kind = 3 ∨ kind = 4 ∨ kind = 5 ∨ kind = 6 ∨ kind = 7 ∨ kind = 8 ∨ kind = 9 ∨ kind = 10 by omega) with rfl | rfl | rfl | rfl | rfl | rfl | rfl | rfl | rfl | rfl | rfl
  · exact law14_k0 i k n a l p w ha hr a3 a4 a5 b1 b2 b3 b4 b5 b6
  · exact law14_k1 i k n a l p w ha hr a3 a4 a5 b1 b2 b3 b4 b5 b6
  · exact law14_k2 i k n a l p w ha hr a3 a4 a5 b1 b2 b3 b4 b5 b6
  · exact law14_k3 i k n a l p w ha hr a3 a4 a5 b1 b2 b3 b4 b5 b6
  · exact law14_k4 i k n a l p w ha hr a3 a4 a5 b1 b2 b3 b4 b5 b6
  · exact law14_k5 i k n a l p w ha hr a3 a4 a5 b1 b2 b3 b4 b5 b6
  · exact law14_k6 i k n a l p w ha hr a3 a4 a5 b1 b2 b3 b4 b5 b6
  · exact law14_k7 i k n a l p w ha hr a3 a4 a5 b1 b2 b3 b4 b5 b6
  · exact law14_k8 i k n a l p w ha hr a3 a4 a5 b1 b2 b3 b4 b5 b6
  · exact law14_k9 i k n a l p w ha hr a3 a4 a5 b1 b2 b3 b4 b5 b6
  · exact law14_k10 i k n a l p w ha hr a3 a4 a5 b1 b2 b3 b4 b5 b6
end Go.Proofs.Ytjdapfimjpbnmaa
