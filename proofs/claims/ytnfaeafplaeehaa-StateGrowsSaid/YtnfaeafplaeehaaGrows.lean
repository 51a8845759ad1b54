import Derived.Test.YtnfaeafplaeehaaAllows
set_option linter.unusedVariables false
set_option linter.unusedSimpArgs false
namespace Go.Proofs.Ytnfaeafplaeehaa
open Go.RowKit

/-! What a record does to a floor. -/
section
variable {α β : Type} [DecidableEq α]
theorem getM_upd (m : List (α × β)) (k k' : α) (v : β) : getM (updM m k v) k' = if k' = k then some v else getM m k' := by
  induction m with
  | nil =>
    by_cases h : k' = k
    · subst h; simp [updM, getM]
    · simp [updM, getM, h]
  | cons x m ih =>
    by_cases hk : k = x.1
    · by_cases h : k' = k
      · subst h; simp [updM, getM, hk]
      · have h' : ¬ k' = x.1 := fun e => h (e.trans hk.symm)
        simp [updM, getM, hk, h']
    · simp only [updM, if_neg hk]
      by_cases h : k' = x.1
      · have h' : ¬ k' = k := fun e => hk (e.symm.trans h)
        simp [getM, h, Ne.symm hk]
      · simp only [getM, List.find?_cons, decide_eq_false h] at ih ⊢
        exact ih
end
/-- The floor that a record leaves is no worse. -/
theorem apply_floor (σ : St) (r : Rec) (k : Key) : (getM (σ.apply r).fl k = getM σ.fl k) ∨ (∃ d, getM (σ.apply r).fl k = some d ∧ ∀ f, getM σ.fl k = some f → gtB d f = true) := by
  unfold St.apply
  by_cases h2 : r.kind = 2
  · rw [if_pos h2]; exact .inl rfl
  rw [if_neg h2]
  by_cases h3 : r.kind = 3
  · rw [if_pos h3]; exact .inl rfl
  rw [if_neg h3]
  by_cases h4 : r.kind = 4
  · rw [if_pos h4]
    simp only [noteFl]
    cases hg : getM σ.fl (⟨r.a, r.l, r.id⟩ : Key) with
    | none =>
      simp only [getM_upd]
      by_cases hk : k = ⟨r.a, r.l, r.id⟩
      · rw [if_pos hk]
        exact .inr ⟨_, rfl, fun f hf => by rw [hk, hg] at hf; cases hf⟩
      · rw [if_neg hk]; exact .inl rfl
    | some f0 =>
      simp only
      by_cases hb : gtB (r.s, r.m) f0 = true
      · rw [if_pos hb]
        simp only [getM_upd]
        by_cases hk : k = ⟨r.a, r.l, r.id⟩
        · rw [if_pos hk]
          exact .inr ⟨_, rfl, fun f hf => by rw [hk, hg] at hf; cases hf; exact hb⟩
        · rw [if_neg hk]; exact .inl rfl
      · rw [if_neg hb]; exact .inl rfl
  · rw [if_neg h4]; exact .inl rfl
theorem apply_lease (σ : St) (r : Rec) : σ.lease ≤ (σ.apply r).lease := by
  unfold St.apply
  by_cases h2 : r.kind = 2
  · rw [if_pos h2]; exact Int.le_refl _
  rw [if_neg h2]
  by_cases h3 : r.kind = 3
  · rw [if_pos h3]; simp only; split <;> omega
  rw [if_neg h3]
  by_cases h4 : r.kind = 4
  · rw [if_pos h4]; exact Int.le_refl _
  · rw [if_neg h4]; exact Int.le_refl _
theorem gtB_spec (d f : Dst) : gtB d f = decide (f.1 < d.1 ∨ d.1 = f.1 ∧ d.2 < f.2) := by rw [gtB_better]; rfl
theorem apply_had (σ : St) (r : Rec) (k : Key) (h : (getM σ.fl k).isSome = true) : (getM (σ.apply r).fl k).isSome = true := by
  rcases apply_floor σ r k with e | ⟨d, e, -⟩
  · rw [e]; exact h
  · rw [e]; rfl
theorem apply_worse (σ : St) (r : Rec) (k : Key) (h : (getM σ.fl k).isSome = true) : betterB (getD0 σ.fl k).1 (getD0 σ.fl k).2 (getD0 (σ.apply r).fl k).1 (getD0 (σ.apply r).fl k).2 = false := by
  obtain ⟨f, hf⟩ := Option.isSome_iff_exists.1 h
  rcases apply_floor σ r k with e | ⟨d, e, hd⟩
  · simp only [getD0, e, hf, Option.getD_some]
    exact (distCmp_same _ _).2
  · have h1 := hd f hf
    simp only [getD0, e, hf, Option.getD_some]
    rw [gtB_better] at h1
    exact (distCmp_better _ _ _ _ h1).2.2.1
theorem apply_covers (σ : St) (r : Rec) (k : Key) (d : Dst) (h : coversB σ.fl k d = true) : coversB (σ.apply r).fl k d = true := by
  rcases apply_floor σ r k with e | ⟨g, e, hd⟩
  · unfold coversB at *; rw [e]; exact h
  · unfold coversB at *
    rw [e]
    cases hg : getM σ.fl k with
    | none =>
      rw [hg] at h
      simp at h
      simp [h]
    | some f =>
      rw [hg] at h
      have h1 := hd f hg
      simp only [gtB_spec, Bool.or_eq_true, beq_iff_eq, Bool.not_eq_true', decide_eq_false_iff_not, decide_eq_true_eq] at *
      omega
theorem apply_feas (σ : St) (r : Rec) (k : Key) (d : Dst) (h : feasB (σ.apply r).fl k d = true) : feasB σ.fl k d = true := by
  rcases apply_floor σ r k with e | ⟨g, e, hd⟩
  · unfold feasB at *; rw [e] at h; exact h
  · unfold feasB at *
    rw [e] at h
    cases hg : getM σ.fl k with
    | none => simp
    | some f =>
      have h1 := hd f hg
      simp only [gtB_spec, Bool.or_eq_true, beq_iff_eq, decide_eq_true_eq] at *
      omega
theorem cov_feas (fl : List (Key × Dst)) (k : Key) (d : Dst) (h1 : coversB fl k d = true) (h2 : feasB fl k d = true) : (d.2 == 65535) = true := by
  unfold coversB feasB at *
  cases hg : getM fl k with
  | none => rw [hg] at h1; simpa using h1
  | some f =>
    rw [hg] at h1 h2
    simp only [Bool.or_eq_true, Bool.not_eq_true'] at h1 h2
    rcases h1 with h1 | h1
    · exact h1
    · rcases h2 with h2 | h2
      · exact h2
      · rw [h1] at h2; cases h2
end Go.Proofs.Ytnfaeafplaeehaa
