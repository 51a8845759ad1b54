import Derived.Test.YtnfaeafplaeehaaRegionD
set_option linter.unusedVariables false
set_option linter.unusedSimpArgs false
namespace Go.Proofs.Ytnfaeafplaeehaa
open Go.RowKit
/-! Two operations that make or turn memory, in whichever order. -/
section
variable {P : Program} {ops : Array Oper} {Q : Exit → Act → World → Prop} {md : Region.Mode} {ds : List Nat} {R : World → World → Prop}
theorem wpOp_of_list {i : Nat} {o : Oper} {t : List Oper} {a : Act} {w : World} (ho : ops.toList.drop i = o :: t) {K : Act → World → Prop} (h : wpList P ops (Exit.then K Q) [o] a w) : wpOp P ops Q i K a w := by
  replace ho := at_drop ho
  unfold wpOp
  rw [ho]
  unfold wpList at h
  simp only
  split
  · rename_i hw
    rw [if_pos hw] at h
    rcases h with h | ⟨h1, a0, w0, h2⟩
    · refine .inl ?_
      unfold Oper.wp at *
      generalize (execOp a.eval o).run P w = r at *
      cases r with
      | ok n w' =>
        cases n <;> simp only [Oper.upon] at h ⊢
        case value => exact h
        case skip => exact h
        case defer => exact h
        case enter =>
          refine Calls.mono h fun e w'' he => ?_
          cases e with
          | returned u => exact he
          | panicked c => exact he
          | outgrown => exact he
        case row => exact Rows.mono h fun u w'' he => he
      | halt x w' => cases x <;> simp only [Oper.upon] at h ⊢ <;> exact h
    · exact .inr ⟨h1, a0, w0, h2⟩
  · rename_i hw
    rw [if_neg hw] at h
    unfold wpList at h
    exact h
theorem draw_two {i j : Nat} {oi oj : Oper} {ti tj : List Oper} {fuel : Nat} {listed li lj : Array Bool} {a : Act} {w : World} (hi : ops.toList.drop i = oi :: ti) (hj : ops.toList.drop j = oj :: tj) (hr : (Region.ready md ops listed == [i, j]) = true)
    (hli : listed.setIfInBounds i true = li) (hlj : listed.setIfInBounds j true = lj)
    (h1 : ∀ K : Act → World → Prop, (∀ a' w', ((i ∉ ds → R w w') ∧ wpAnyM P md ops Q ds R fuel li a' w') → K a' w') → wpList P ops (Exit.then K Q) [oi] a w)
    (h2 : ∀ K : Act → World → Prop, (∀ a' w', ((j ∉ ds → R w w') ∧ wpAnyM P md ops Q ds R fuel lj a' w') → K a' w') → wpList P ops (Exit.then K Q) [oj] a w) : wpAnyM P md ops Q ds R (fuel + 1) listed a w := by
  subst hli
  subst hlj
  have hr' : Region.ready md ops listed = [i, j] := by simpa using hr
  rw [wpAnyM_succ]
  refine ⟨fun h0 => (by rw [hr'] at h0; cases h0), fun k hk => ?_⟩
  rw [hr'] at hk
  simp only [List.mem_cons, List.not_mem_nil, or_false] at hk
  rcases hk with rfl | rfl
  · exact wpOp_of_list hi (h1 _ fun _ _ h => h)
  · exact wpOp_of_list hj (h2 _ fun _ _ h => h)
end
end Go.Proofs.Ytnfaeafplaeehaa
