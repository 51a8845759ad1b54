import Derived.Test.YtnfaeafplaeehaaRegion
set_option linter.unusedVariables false
set_option linter.unusedSimpArgs false
namespace Go.Proofs.Ytnfaeafplaeehaa
open Go.RowKit
/-! A call that only draws, in a region in which a new variable may be made at any time: the call may be taken first. -/
theorem wpAnyM_succ {P : Program} {md : Region.Mode} {ops : Array Oper} {Q : Exit → Act → World → Prop} {ds : List Nat} {R : World → World → Prop} {fuel : Nat} {listed : Array Bool} {a : Act} {w : World} : wpAnyM P md ops Q ds R (fuel + 1) listed a w ↔
    (Region.ready md ops listed = [] → Q .normal a w) ∧ ∀ i ∈ Region.ready md ops listed, wpOp P ops Q i (fun a' w' => (i ∉ ds → R w w') ∧ wpAnyM P md ops Q ds R fuel (listed.setIfInBounds i true) a' w') a w := by with_unfolding_all exact Iff.rfl
theorem wpAnyM_zero {P : Program} {md : Region.Mode} {ops : Array Oper} {Q : Exit → Act → World → Prop} {ds : List Nat} {R : World → World → Prop} {listed : Array Bool} {a : Act} {w : World} : wpAnyM P md ops Q ds R 0 listed a w ↔ Region.ready md ops listed = [] ∧ Q .normal a w := by with_unfolding_all exact Iff.rfl
section
variable {P : Program} {ops : Array Oper} {Q : Exit → Act → World → Prop} {md : Region.Mode} {ds : List Nat} {R : World → World → Prop} [LR R]
/-- An operation that makes a variable. -/
def AllocLike (P : Program) (o : Oper) : Prop := ∃ obj, ∀ (a : Act) (w : World), (execOp a.eval o).run P w = .ok (.value (.pointer (some ⟨w.heap.size, 0, none⟩))) (w.alloc obj) ∧ ¬ o.asks P a w
theorem alloc_drewN (w : World) (obj : Obj) (n : Nat) : (w.drewN n).alloc obj = (w.alloc obj).drewN n := rfl
omit [LR R] in
theorem wpOp_alloc {j : Nat} {oj : Oper} {obj : Obj} (hoj : ops[j]? = some oj) (hA : ∀ (a : Act) (w : World), (execOp a.eval oj).run P w = .ok (.value (.pointer (some ⟨w.heap.size, 0, none⟩))) (w.alloc obj) ∧ ¬ oj.asks P a w) (a : Act) (hw : Region.wanted oj (yielded ops a.tmps) = true)
    (K : Act → World → Prop) (w : World) : wpOp P ops Q j K a w ↔ K (a.put oj.dst (.pointer (some ⟨w.heap.size, 0, none⟩))) (w.alloc obj) := by
  unfold wpOp
  simp only [hoj, hw, if_true]
  unfold Oper.wp
  rw [(hA a w).1]
  simp only [Oper.upon]
  exact ⟨fun h' => h'.resolve_right fun h'' => (hA a w).2 h''.1, .inl⟩
omit [LR R] in
theorem wpOp_off {j : Nat} {oj : Oper} (hoj : ops[j]? = some oj) (a : Act) (hw : ¬ Region.wanted oj (yielded ops a.tmps) = true) (K : Act → World → Prop) (w : World) : wpOp P ops Q j K a w ↔ K (a.put oj.dst undef) w := by
  unfold wpOp
  simp only [hoj, hw, Bool.false_eq_true, if_false]
/-- In every world that meets S the operation leaves 'v' and the world drawn from once. -/
def YieldsD (P : Program) (ops : Array Oper) (S : World → Prop) (o : Oper) (v : Value) (a : Act) : Prop :=
  Region.wanted o (yielded ops a.tmps) = true ∧ ∀ w, S w → ∃ f args, (execOp a.eval o).run P w = .ok (.enter f args) w ∧ Calls P f args w fun e w' => e = .returned v ∧ w' = w.drew
omit [LR R] in
theorem YieldsD.wpOp {S : World → Prop} {i : Nat} {o : Oper} {v : Value} {a : Act} (hi : ops[i]? = some o) (hy : YieldsD P ops S o v a) {K : Act → World → Prop} {w : World} (hS : S w) (h : K (a.put o.dst v) w.drew) : wpOp P ops Q i K a w := by
  unfold Go.wpOp
  simp only [hi, hy.1, if_true]
  obtain ⟨f, args, e1, hc⟩ := hy.2 w hS
  refine .inl ?_
  unfold Oper.wp
  rw [e1]
  exact hc.mono fun e w'' ⟨he, hw''⟩ => by subst he; subst hw''; exact h
omit [LR R] in
theorem YieldsD.put {S : World → Prop} {o oj : Oper} {v u : Value} {a : Act} (hap : o.apart ops oj = true) (hsi : ∀ cs b, o.op ≠ .select cs b) (hy : YieldsD P ops S o v a) : YieldsD P ops S o v (a.put oj.dst u) := by
  obtain ⟨h1, h2, h3⟩ := Oper.apart_spec hap
  unfold YieldsD at *
  rw [execOp_put o hsi a oj.dst u h3, wanted_put o a oj.dst u h3]
  exact hy
theorem wpAnyM_call {i : Nat} {oi : Oper} {v : Value} {w0 : World} (hi : ops[i]? = some oi) (hsel : ∀ (j : Nat) (o : Oper) cs b, ops[j]? = some o → o.op ≠ .select cs b) (n : Nat) (hR : ∀ w : World, R w w.drew) (hRa : ∀ (w : World) obj, R w (w.alloc obj)) :
    ∀ (fuel : Nat) (listed : Array Bool) (a : Act) (w : World),
      (∀ j oj, ops[j]? = some oj → j ≠ i → listed.getD j true = false → reachB md ops i n j = false → AllocLike P oj ∧ oi.apart ops oj = true ∧ j ∉ ds) →
      ListedClosed md ops listed → i ∈ Region.ready md ops listed → YieldsD P ops (R w0) oi v a → R w0 w →
      (∀ m, wpAnyM P md ops Q ds R fuel (listed.setIfInBounds i true) (a.put oi.dst v) (w.drewN m)) → wpAnyM P md ops Q ds R (fuel + 1) listed a w := by
  intro fuel
  induction fuel with
  | zero =>
    intro listed a w _ _ hr hy hS H
    rw [wpAnyM_succ]
    refine ⟨fun h => (by rw [h] at hr; cases hr), fun j hj => ?_⟩
    by_cases hji : j = i
    · subst hji
      refine hy.wpOp hi hS ⟨fun _ => hR _, ?_⟩
      exact H 1
    · have := ready_mono hj hji
      rw [(wpAnyM_zero.1 (H 0)).1] at this
      cases this
  | succ fuel ih =>
    intro listed a w hfree hc hr hy hS H
    have H1 := H 1
    rw [wpAnyM_succ]
    refine ⟨fun h => (by rw [h] at hr; cases hr), fun j hj => ?_⟩
    by_cases hji : j = i
    · subst hji
      exact hy.wpOp hi hS ⟨fun _ => hR _, H1⟩
    clear H1
    obtain ⟨hjun, oj, hoj, hall⟩ := mem_ready.1 hj
    have hiun := (mem_ready.1 hr).1
    have hnr : reachB md ops i n j = false := by
      cases hb : reachB md ops i n j with
      | false => rfl
      | true => exact absurd hj (reach_not_ready hc hb hiun)
    obtain ⟨⟨obj, hA⟩, hap, hjd⟩ := hfree j oj hoj hji hjun hnr
    obtain ⟨p1, p2, p3⟩ := Oper.apart_spec hap
    have hfree' : ∀ k ok, ops[k]? = some ok → k ≠ i → (listed.setIfInBounds j true).getD k true = false → reachB md ops i n k = false → AllocLike P ok ∧ oi.apart ops ok = true ∧ k ∉ ds := by
      intro k ok hk' hki hun hno
      refine hfree k ok hk' hki ?_ hno
      by_cases hjk : j = k
      · subst hjk; exact hjun
      · rw [getD_set_ne true hjk] at hun; exact hun
    have hgo : ∀ u w1, R w w1 → (∀ m, wpAnyM P md ops Q ds R fuel ((listed.setIfInBounds i true).setIfInBounds j true) ((a.put oi.dst v).put oj.dst u) (w1.drewN m)) → wpAnyM P md ops Q ds R (fuel + 1) (listed.setIfInBounds j true) (a.put oj.dst u) w1 := by
      intro u w1 hw1 h1
      refine ih (listed.setIfInBounds j true) (a.put oj.dst u) w1 hfree' (hc.set hj) (ready_mono hr (Ne.symm hji)) (hy.put hap (fun cs b => hsel i oi cs b hi)) (LR.trans hS hw1) fun m => ?_
      have := h1 m
      rw [Array.setIfInBounds_comm _ _ (Ne.symm hji), Act.put_comm a v u p2] at this
      exact this
    have hm := fun m => by
      exact (wpAnyM_succ.1 (H m)).2 j (ready_mono hj hji)
    by_cases hw : Region.wanted oj (yielded ops a.tmps) = true
    · rw [wpOp_alloc hoj hA a hw]
      refine ⟨fun _ => hRa _ _, hgo _ _ (hRa _ _) fun m => ?_⟩
      have h1 := hm m
      rw [wpOp_alloc hoj hA (a.put oi.dst v) (by rw [wanted_put oj a oi.dst v p1]; exact hw)] at h1
      exact h1.2
    · rw [wpOp_off hoj a hw]
      refine ⟨fun _ => LR.refl _, hgo _ _ (LR.refl _) fun m => ?_⟩
      have h1 := hm m
      rw [wpOp_off hoj (a.put oi.dst v) (by rw [wanted_put oj a oi.dst v p1]; exact hw)] at h1
      exact h1.2
/-- What may come up ahead of operation i: only new variables of type T. -/
def callB (md : Region.Mode) (ops : Array Oper) (ds : List Nat) (T : TypeId) (listed : Array Bool) (i : Nat) : Bool :=
  (Region.ready md ops listed).contains i && closedB md ops listed && (List.range ops.size).all fun j => listed.getD j true || j == i || reachB md ops i ops.size j ||
    match ops[i]?, ops[j]? with
    | some oi, some oj => (match oj.op with | .alloc t => t == T | _ => false) && oi.apart ops oj && !ds.contains j
    | _, _ => false
theorem draw_call {i : Nat} {o : Oper} {t : List Oper} {fuel : Nat} {listed listed' : Array Bool} {a : Act} {w : World} {v : Value} (T : TypeId) (ho : ops.toList.drop i = o :: t) (hb : callB md ops ds T listed i = true) (hs : Region.noSelect ops = true)
    (hal : ∀ oj : Oper, oj.op = .alloc T → AllocLike P oj) (hR : ∀ w : World, R w w.drew) (hRa : ∀ (w : World) obj, R w (w.alloc obj)) (hl : listed.setIfInBounds i true = listed') (hw : Region.wanted o (yielded ops a.tmps) = true)
    (hy : ∀ w', R w w' → ∃ f args, (execOp a.eval o).run P w' = .ok (.enter f args) w' ∧ Calls P f args w' fun e w'' => e = .returned v ∧ w'' = w'.drew)
    (H : ∀ m, wpAnyM P md ops Q ds R fuel listed' (a.put o.dst v) (w.drewN m)) : wpAnyM P md ops Q ds R (fuel + 1) listed a w := by
  subst hl
  simp only [callB, Bool.and_eq_true, List.contains_eq_mem, decide_eq_true_eq] at hb
  obtain ⟨⟨b1, b2⟩, b3⟩ := hb
  have hi := at_drop ho
  refine wpAnyM_call hi (Region.noSelect_spec hs) ops.size hR hRa fuel listed a w (fun j oj hj hji hun hno => ?_) (closed_spec b2) b1 ⟨hw, hy⟩ (LR.refl w) H
  have hlt : j < ops.size := (Array.getElem?_eq_some_iff.1 hj).1
  have h1 := List.all_eq_true.1 b3 j (List.mem_range.2 hlt)
  rw [hun, hno, hi, hj] at h1
  have hne : (j == i) = false := beq_eq_false_iff_ne.2 hji
  simp only [hne, Bool.false_or, Bool.and_eq_true, Bool.not_eq_true', List.contains_eq_mem, decide_eq_false_iff_not] at h1
  obtain ⟨⟨h2, h3⟩, h4⟩ := h1
  refine ⟨?_, h3, h4⟩
  split at h2
  · rename_i t' ht
    have : t' = T := by simpa using h2
    subst this
    exact hal oj ht
  · cases h2
end
end Go.Proofs.Ytnfaeafplaeehaa
