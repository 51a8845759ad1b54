import Derived.Test.YtnfaeafplaeehaaGreatMrgB
import Derived.OrdersIn
import Derived.TacticsIn
set_option linter.unusedVariables false
set_option linter.unusedSimpArgs false
namespace Go.Proofs.YtnfaeafplaeehaaGreat
open Go.RowKit
/-! XRegion's theory inside the fence that asks nothing: a call of yield may be among the operations. -/
section
variable {n0 : Nat} {P : Program} {ops : Array Oper} {Q : Exit → Act → World → Prop} {md : Region.Mode} {ds : List Nat}
variable {R : World → World → Prop} [LR R]
abbrev opI (n0 : Nat) (P : Program) (ops : Array Oper) (Q : Exit → Act → World → Prop) (i : Nat) (K : Act → World → Prop) (a : Act) (w : World) : Prop := wpOpIn Fence.wide n0 P ops Q i K a w
def wpAnyMI (n0 : Nat) (P : Program) (md : Region.Mode) (ops : Array Oper) (Q : Exit → Act → World → Prop) (ds : List Nat) (R : World → World → Prop) : Nat → Array Bool → Act → World → Prop
  | 0, listed, a, w => Region.ready md ops listed = [] ∧ Q .normal a w
  | fuel + 1, listed, a, w =>
    (Region.ready md ops listed = [] → Q .normal a w) ∧
    ∀ i ∈ Region.ready md ops listed, wpOpIn Fence.wide n0 P ops Q i (fun a' w' => (i ∉ ds → R w w') ∧ wpAnyMI n0 P md ops Q ds R fuel (listed.setIfInBounds i true) a' w') a w
omit [LR R] in
theorem wpAny_of_MI : ∀ (fuel : Nat) (listed : Array Bool) (a : Act) (w : World), wpAnyMI n0 P md ops Q ds R fuel listed a w → wpAnyIn Fence.wide n0 P md ops Q fuel listed a w
  | 0, _, _, _, h => h
  | fuel + 1, _, _, _, h => ⟨h.1, fun i hi => wpOpIn_mono (fun a' w' h' => wpAny_of_MI fuel _ a' w' h'.2) (h.2 i hi)⟩
omit [LR R] in
theorem YieldsX.wpOpI {S : World → Prop} {i : Nat} {o : Oper} {v : Value} {a : Act} (hi : ops[i]? = some o) (hy : YieldsX P ops S o v a) {K : Act → World → Prop} {w : World} (hS : S w) (h : K (a.put o.dst v) w) : wpOpIn Fence.wide n0 P ops Q i K a w := by
  unfold Go.wpOpIn
  simp only [hi]
  rcases hy with ⟨hw, hv⟩ | ⟨hw, rfl⟩
  · simp only [hw, if_true]
    have h3 := hv w hS
    unfold Oper.quietAt at h3
    unfold Oper.wpIn
    refine ⟨fun _ _ => trivial, ?_⟩
    rw [show Fence.wide.round = none from rfl, Oper.semAt_none]
    generalize (execOp a.eval o).run P w = r at *
    cases r with
    | ok x w' =>
      cases x <;> simp only [Oper.quietUpon] at h3 <;> simp only [Oper.uponIn]
      case value u => rw [h3.1, h3.2]; exact h
      case skip => rw [h3.1, ← h3.2]; exact h
      case enter f args =>
        obtain ⟨e1, hc⟩ := h3
        rw [e1]
        exact ⟨(fun hd => absurd hd (by decide)), callsIn_wide.2 (hc.mono fun e w'' ⟨he, hw''⟩ => by subst he; subst hw''; exact h)⟩
    | halt x w' => simp only [Oper.quietUpon] at h3
  · simp only [hw, Bool.false_eq_true, if_false]; exact ⟨fun _ _ => trivial, h⟩
omit [LR R] in
theorem wpOp_putXI {S : World → Prop} {j : Nat} {oi oj : Oper} {v : Value} (hj : ops[j]? = some oj) (hap : oi.apart ops oj = true)
    (hsi : ∀ cs b, oi.op ≠ .select cs b) (hsj : ∀ cs b, oj.op ≠ .select cs b)
    (hQ : ∀ c a w, Q (.panic c) (a.put oi.dst v) w → Q (.panic c) a w) {K : Act → World → Prop} {a : Act} {w : World}
    (hy : YieldsX P ops S oi v a) (h : wpOpIn Fence.wide n0 P ops Q j K (a.put oi.dst v) w) :
    wpOpIn Fence.wide n0 P ops Q j (fun a' w' => YieldsX P ops S oi v a' ∧ K (a'.put oi.dst v) w') a w := by
  obtain ⟨h1, h2, h3⟩ := Oper.apart_spec hap
  have keep : ∀ (a : Act), YieldsX P ops S oi v a → ∀ u, YieldsX P ops S oi v (a.put oj.dst u) := fun a hy u =>
    hy.of_same (execOp_put oi hsi a oj.dst u h3) (wanted_put oi a oj.dst u h3)
  have keepD : ∀ d, YieldsX P ops S oi v { a with defers := d :: a.defers } := fun d => hy.of_same rfl rfl
  unfold wpOpIn at *
  simp only [hj] at *
  rw [wanted_put oj a oi.dst v h1] at h
  split
  · rename_i hw
    simp only [hw, if_true] at h
    unfold Oper.wpIn at *
    refine ⟨fun _ _ => trivial, ?_⟩
    have h := h.2
    rw [show Fence.wide.round = none from rfl, Oper.semAt_none, execOp_put oj hsj a oi.dst v h1] at h
    rw [show Fence.wide.round = none from rfl, Oper.semAt_none]
    generalize (execOp a.eval oj).run P w = r at *
    cases r with
    | ok x w' =>
      cases x <;> simp only [Oper.uponIn] at h ⊢
      case value u => exact ⟨keep a hy u, by rw [← Act.put_comm a v u h2]; exact h⟩
      case skip => exact ⟨keep a hy _, by rw [← Act.put_comm a v undef h2]; exact h⟩
      case defer d =>
        refine ⟨keep _ (keepD d) _, ?_⟩
        rw [← Act.put_comm _ v undef h2, ← Act.put_defers]
        exact h
      case enter f args =>
        refine ⟨h.1, CallsIn.mono h.2 fun e w'' he => ?_⟩
        cases e with
        | returned u => exact ⟨keep a hy u, by rw [← Act.put_comm a v u h2]; exact he⟩
        | panicked c => exact hQ _ _ _ he
        | outgrown => exact he
      case row row args => exact ⟨h.1, RowsIn.mono h.2 fun u w'' he => ⟨keep a hy u, by rw [← Act.put_comm a v u h2]; exact he⟩⟩
      case round l f tmps assign body =>
        refine ⟨h.1, RoundIn.mono h.2 fun e w'' he => ?_⟩
        cases e with
        | returned u => exact ⟨keep a hy u, by rw [← Act.put_comm a v u h2]; exact he⟩
        | panicked c => exact hQ _ _ _ he
        | outgrown => exact he
    | halt x w' =>
      cases x <;> simp only [Oper.uponIn] at h ⊢
      case panic u => exact hQ _ _ _ h
  · rename_i hw
    simp only [hw] at h
    exact ⟨fun _ _ => trivial, keep a hy _, by rw [← Act.put_comm a v undef h2]; exact h.2⟩
theorem wpAnyM_firstI {i : Nat} {oi : Oper} {v : Value} {w0 : World} (hi : ops[i]? = some oi) (hsel : ∀ (j : Nat) (o : Oper) cs b, ops[j]? = some o → o.op ≠ .select cs b)
    (hQ : ∀ c a w, Q (.panic c) (a.put oi.dst v) w → Q (.panic c) a w) (n : Nat) :
    ∀ (fuel : Nat) (listed : Array Bool) (a : Act) (w : World),
      (∀ j oj, ops[j]? = some oj → j ≠ i → listed.getD j true = false → (∀ e ∈ oj.after, Region.binds md e = true → e.on ≠ i) → oi.apart ops oj = true) →
      ListedClosed md ops listed → (∀ d ∈ ds, listed.getD d true = false → reachB md ops i n d = true) →
      i ∈ Region.ready md ops listed → YieldsX P ops (R w0) oi v a → R w0 w →
      wpAnyMI n0 P md ops Q ds R fuel (listed.setIfInBounds i true) (a.put oi.dst v) w → wpAnyMI n0 P md ops Q ds R (fuel + 1) listed a w := by
  intro fuel
  induction fuel with
  | zero =>
    intro listed a w _ _ _ hr hy hS H
    refine ⟨fun h => (by rw [h] at hr; cases hr), fun j hj => ?_⟩
    by_cases hji : j = i
    · subst hji; exact hy.wpOpI hi hS ⟨fun _ => LR.refl _, H⟩
    · have := ready_mono hj hji
      rw [H.1] at this
      cases this
  | succ fuel ih =>
    intro listed a w hfree hc hd hr hy hS H
    refine ⟨fun h => (by rw [h] at hr; cases hr), fun j hj => ?_⟩
    by_cases hji : j = i
    · subst hji; exact hy.wpOpI hi hS ⟨fun _ => LR.refl _, H⟩
    · have h1 := H.2 j (ready_mono hj hji)
      obtain ⟨hjun, oj, hoj, hall⟩ := mem_ready.1 hj
      have hiun := (mem_ready.1 hr).1
      have hnot : ∀ e ∈ oj.after, Region.binds md e = true → e.on ≠ i := fun e he hb heq => by
        have h1 := hall e he hb
        rw [heq] at h1
        rcases Nat.lt_or_ge i listed.size with h' | h'
        · simp [h'] at hiun h1; rw [hiun] at h1; cases h1
        · simp [Array.getElem?_eq_none h'] at h1
      have hjd : j ∉ ds := fun hm => reach_not_ready hc (hd j hm hjun) hiun hj
      have h2 := wpOp_putXI hoj (hfree j oj hoj hji hjun hnot) (fun cs b => hsel i oi cs b hi) (fun cs b => hsel j oj cs b hoj) hQ hy h1
      have hfree' : ∀ k ok, ops[k]? = some ok → k ≠ i → (listed.setIfInBounds j true).getD k true = false →
          (∀ e ∈ ok.after, Region.binds md e = true → e.on ≠ i) → oi.apart ops ok = true := fun k ok hk hki hun hno => by
        refine hfree k ok hk hki ?_ hno
        by_cases hjk : j = k
        · subst hjk; exact hjun
        · rw [getD_set_ne true hjk] at hun; exact hun
      have hd' : ∀ d ∈ ds, (listed.setIfInBounds j true).getD d true = false → reachB md ops i n d = true := fun d hm hun => by
        refine hd d hm ?_
        by_cases hjk : j = d
        · subst hjk; exact hjun
        · rw [getD_set_ne true hjk] at hun; exact hun
      refine wpOpIn_mono (fun a' w' h3 => ⟨h3.2.1, ih (listed.setIfInBounds j true) a' w' hfree' (hc.set hj) hd' (ready_mono hr (Ne.symm hji)) h3.1 (LR.trans hS (h3.2.1 hjd)) ?_⟩) h2
      rw [Array.setIfInBounds_comm _ _ hji]
      exact h3.2.2

theorem draw_chunkI {n : Nat} (hs : Region.noSelect ops = true) (hQ : ∀ c (d : Tmp) v a w, Q (.panic c) (a.put (some d) v) w → Q (.panic c) a w) :
    ∀ (ch : List Nat) (seen : List Nat) (listed listed' : Array Bool), chunkAt md ops ds n ch seen listed = some listed' →
    ∀ (fuel : Nat) (a A : Act) (w : World), a.tmps.size = n → (∀ w', R w w' → wpChunk P ops (ch.filterMap (ops[·]?)) a w' A) → wpAnyMI n0 P md ops Q ds R fuel listed' A w → wpAnyMI n0 P md ops Q ds R (fuel + ch.length) listed a w
  | [], _, listed, listed', hc, fuel, a, A, w, _, h, hn => by
    simp only [chunkAt, Option.some.injEq] at hc
    subst hc
    have : a = A := by
      have := h w (LR.refl w)
      simp only [List.filterMap_nil] at this
      unfold wpChunk at this
      exact this
    subst this
    exact hn
  | i :: r, seen, listed, listed', hc, fuel, a, A, w, hn, h, hnext => by
    unfold chunkAt at hc
    cases ho : ops[i]? with
    | none => rw [ho] at hc; cases hc
    | some o =>
      rw [ho] at hc
      simp only at hc
      cases hd : o.dst with
      | none => rw [hd] at hc; cases hc
      | some d =>
        rw [hd] at hc
        simp only at hc
        split at hc
        · rename_i hb
          simp only [Bool.and_eq_true, Bool.not_eq_true', List.contains_eq_mem, decide_eq_false_iff_not, decide_eq_true_eq] at hb
          obtain ⟨⟨⟨⟨⟨b1, b2⟩, b3⟩, b4⟩, b5⟩, b6⟩ := hb
          simp only [List.filterMap_cons, ho] at h
          have hl : ∀ d' ∈ ds, listed.getD d' true = false → reachB md ops i ops.size d' = true := fun d' hm hun => by
            have := List.all_eq_true.1 b4 d' hm
            rw [hun] at this
            simpa using this
          by_cases hw : Region.wanted o (yielded ops a.tmps) = true
          · have key : ∀ w', R w w' → ∃ v, o.quietAt P a (fun w'' => w'' = w') w' v ∧ wpChunk P ops (r.filterMap (ops[·]?)) (a.put o.dst v) w' A := fun w' hw' => by
              have := h w' hw'
              unfold wpChunk at this
              rw [if_pos hw] at this
              exact this
            have hv : ∀ w', R w w' → o.quietAt P a (fun w'' => w'' = w') w' (A.tmps.getD d undef) ∧ wpChunk P ops (r.filterMap (ops[·]?)) (a.put o.dst (A.tmps.getD d undef)) w' A := fun w' hw' => by
              obtain ⟨v, e1, e2⟩ := key w' hw'
              have : A.tmps.getD d undef = v := by
                rw [hd] at e2
                rw [chunk_keeps r (d :: seen) _ _ hc _ A w' e2 d (by simp), put_getD a d v (by rw [hn]; exact b5)]
              rw [this]
              exact ⟨e1, e2⟩
            have ih := draw_chunkI hs hQ r (d :: seen) _ _ hc fuel (a.put o.dst (A.tmps.getD d undef)) A w (by rw [put_size]; exact hn) (fun w' hw' => (hv w' hw').2) hnext
            exact wpAnyM_firstI ho (Region.noSelect_spec hs) (fun c a w => by rw [hd]; exact hQ c _ _ a w) ops.size (fuel + r.length) listed a w (Region.free_spec ho b1) (closed_spec b3) hl (by simpa using b2)
              (.inl ⟨hw, fun w' hw' => (hv w' hw').1⟩) (LR.refl w) ih
          · have hw' : Region.wanted o (yielded ops a.tmps) = false := by simpa using hw
            have ih := draw_chunkI hs hQ r (d :: seen) _ _ hc fuel (a.put o.dst undef) A w (by rw [put_size]; exact hn) (fun w' hw'' => by
              have := h w' hw''
              unfold wpChunk at this
              rw [if_neg hw] at this
              exact this) hnext
            exact wpAnyM_firstI ho (Region.noSelect_spec hs) (fun c a w => by rw [hd]; exact hQ c _ _ a w) ops.size (fuel + r.length) listed a w (Region.free_spec ho b1) (closed_spec b3) hl (by simpa using b2)
              (.inr ⟨hw', rfl⟩) (LR.refl w) ih
        · cases hc
omit [LR R] in
/-- An operation that makes or turns memory, or a call: nothing else may come up. -/
theorem draw_effI {i : Nat} {o : Oper} {t : List Oper} {fuel : Nat} {listed listed' : Array Bool} {a : Act} {w : World} (ho : ops.toList.drop i = o :: t) (hr : (Region.ready md ops listed == [i]) = true) (hl : listed.setIfInBounds i true = listed')
    (h : ∀ K : Act → World → Prop, (∀ a' w', ((i ∉ ds → R w w') ∧ wpAnyMI n0 P md ops Q ds R fuel listed' a' w') → K a' w') → wpListIn Fence.wide n0 P ops (Exit.then K Q) [o] a w) : wpAnyMI n0 P md ops Q ds R (fuel + 1) listed a w := by
  subst hl
  replace h := h _ fun _ _ h => h
  replace ho := at_drop ho
  have hr' : Region.ready md ops listed = [i] := by simpa using hr
  refine ⟨fun h0 => (by rw [hr'] at h0; cases h0), fun j hj => ?_⟩
  rw [hr'] at hj
  obtain rfl : j = i := by simpa using hj
  unfold wpOpIn
  rw [ho]
  unfold wpListIn at h
  simp only
  split
  · rename_i hw
    rw [if_pos hw] at h
    unfold Oper.wpIn at *
    refine ⟨h.1, ?_⟩
    have h := h.2
    generalize (o.semAt Fence.wide.round a.eval).run P w = r at *
    cases r with
    | ok x w' =>
      cases x <;> simp only [Oper.uponIn] at h ⊢
      case value => exact h
      case skip => exact h
      case defer => exact h
      case enter =>
        refine ⟨h.1, CallsIn.mono h.2 fun e w'' he => ?_⟩
        cases e with
        | returned u => exact he
        | panicked c => exact he
        | outgrown => exact he
      case row => exact ⟨h.1, RowsIn.mono h.2 fun u w'' he => he⟩
      case round =>
        refine ⟨h.1, RoundIn.mono h.2 fun e w'' he => ?_⟩
        cases e with
        | returned u => exact he
        | panicked c => exact he
        | outgrown => exact he
    | halt x w' => cases x <;> simp only [Oper.uponIn] at h ⊢ <;> exact h
  · rename_i hw
    rw [if_neg hw] at h
    unfold wpListIn at h
    exact h
omit [LR R] in
theorem draw_doneI {listed : Array Bool} {a : Act} {w : World} (hr : (Region.ready md ops listed == []) = true) (h : Q .normal a w) : ∀ fuel, wpAnyMI n0 P md ops Q ds R fuel listed a w
  | 0 => ⟨by simpa using hr, h⟩
  | _ + 1 => ⟨fun _ => h, by rw [show Region.ready md ops listed = [] by simpa using hr]; simp⟩
theorem draw_startI {id : Nat} {a : Act} {w : World} (ds : List Nat) (R : World → World → Prop) (hm : P.follows .mixedOrders = true)
    (h : wpAnyMI n0 P .any ops Q ds R ops.size (Array.replicate ops.size false) a w.drew) : (Code.region id ops true).wpIn Fence.wide n0 P Q a w :=
  wpIn_region_any hm (wpAny_of_MI _ _ _ _ h)
end
attribute [irreducible] wpAnyMI
end Go.Proofs.YtnfaeafplaeehaaGreat
