/- own texts of this claim, one behind the other: see the remarks within -/
import Derived.OrdersHeld
import Derived.Deep.RegionHeld3
import Derived.Deep.Quiet
import Derived.Test.YtnfaeafplaeehaaGreatMrgA
section
set_option linter.unusedVariables false
set_option linter.unusedSimpArgs false
namespace Go.Proofs.YtnfaeafplaeehaaGreat
open Go.RowKit
/-! A region that draws its order. Its operations are walked in ONE order: pieces of operations that only read (a 'chunk'), and between them the operations that make or turn memory, whose order is forced.
  An operation that only reads may be taken first, since it yields the same in every world that has grown from the one at hand; behind the operations of 'ds' (stores) no such thing is claimed: each of them waits for all that is taken before it. -/
section
variable {P : Program} {ops : Array Oper} {Q : Exit → Act → World → Prop} {md : Region.Mode} {ds : List Nat}

def Later (w w' : World) : Prop := Below w.heap.size w w'
theorem Later.refl (w : World) : Later w w := Below.refl _ _
theorem Later.trans {a b c : World} (h : Later a b) (k : Later b c) : Later a c := below_step h h.size k
theorem below_dd {N : Nat} {a b : World} (h : Below N a b) : Below N a.drew b.drew := ⟨h.os, h.tape, h.output, h.size, h.block⟩
theorem undrew {N : Nat} {W w : World} (h : Below N W.drew w) : Below N W w := ⟨h.os, h.tape, h.output, h.size, h.block⟩
theorem below_two {N : Nat} {W a b : World} (h : Below N W a) (k : Below N W b) (hs : a.heap.size ≤ b.heap.size) : Below N a b :=
  ⟨k.os.trans h.os.symm, k.tape.trans h.tape.symm, k.output.trans h.output.symm, hs, fun i hi => (k.block i hi).trans (h.block i hi).symm⟩
/-- How a world may grow while a region is drawn. -/
class LR (R : World → World → Prop) : Prop where
  refl : ∀ w, R w w
  trans : ∀ {a b c}, R a b → R b c → R a c
instance : LR Later := ⟨Later.refl, Later.trans⟩
instance (N : Nat) : LR (Below N) := ⟨Below.refl N, Below.trans⟩
variable {R : World → World → Prop} [LR R]

/-- Operation d waits for operation i, by a chain of at most 'fuel' edges. -/
def reachB (md : Region.Mode) (ops : Array Oper) (i : Nat) : Nat → Nat → Bool
  | 0, _ => false
  | fuel + 1, d => match ops[d]? with
    | some o => o.after.any fun e => Region.binds md e && (e.on == i || reachB md ops i fuel e.on)
    | none => false

/-- What is listed is closed under the edges. -/
def closedB (md : Region.Mode) (ops : Array Oper) (listed : Array Bool) : Bool :=
  (List.range ops.size).all fun j => !listed.getD j false || match ops[j]? with
    | some o => o.after.all fun e => !Region.binds md e || listed.getD e.on false
    | none => true

/-- Each of ds that has not come up yet waits for number i. -/
def lastB (md : Region.Mode) (ops : Array Oper) (listed : Array Bool) (ds : List Nat) (i : Nat) : Bool :=
  ds.all fun d => listed.getD d true || reachB md ops i ops.size d

def ListedClosed (md : Region.Mode) (ops : Array Oper) (listed : Array Bool) : Prop :=
  ∀ j oj, ops[j]? = some oj → listed.getD j false = true → ∀ e ∈ oj.after, Region.binds md e = true → listed.getD e.on false = true

theorem closed_spec {listed : Array Bool} (h : closedB md ops listed = true) : ListedClosed md ops listed := by
  intro j oj hj hl e he hb
  have hlt : j < ops.size := (Array.getElem?_eq_some_iff.1 hj).1
  have h1 := List.all_eq_true.1 h j (List.mem_range.2 hlt)
  simp only [hl, hj, Bool.not_true, Bool.false_or] at h1
  have h2 := Array.all_eq_true_iff_forall_mem.1 h1 e he
  simpa [hb] using h2

theorem ListedClosed.set {listed : Array Bool} {i : Nat} (h : ListedClosed md ops listed) (hi : i ∈ Region.ready md ops listed) : ListedClosed md ops (listed.setIfInBounds i true) := by
  obtain ⟨_, oi, hoi, hall⟩ := mem_ready.1 hi
  intro j oj hj hl e he hb
  by_cases hij : i = j
  · subst hij
    have : oj = oi := Option.some.inj (hj.symm.trans hoi)
    subst this
    exact getD_set_true (hall e he hb)
  · rw [getD_set_ne false hij] at hl
    exact getD_set_true (h j oj hj hl e he hb)

theorem reach_listed {listed : Array Bool} {i : Nat} (hc : ListedClosed md ops listed) : ∀ (fuel d : Nat), reachB md ops i fuel d = true → listed.getD d false = true → listed.getD i false = true
  | 0, _, h, _ => by simp [reachB] at h
  | fuel + 1, d, h, hl => by
    unfold reachB at h
    cases ho : ops[d]? with
    | none => rw [ho] at h; simp at h
    | some o =>
      rw [ho] at h
      obtain ⟨e, he, h1⟩ := Array.any_eq_true'.1 h
      simp only [Bool.and_eq_true, Bool.or_eq_true, beq_iff_eq] at h1
      have hle := hc d o ho hl e he h1.1
      rcases h1.2 with h2 | h2
      · rw [← h2]; exact hle
      · exact reach_listed hc fuel e.on h2 hle

/-- What waits for i cannot come up before i is listed. -/
theorem reach_not_ready {listed : Array Bool} {i d fuel : Nat} (hc : ListedClosed md ops listed) (hr : reachB md ops i fuel d = true) (hun : listed.getD i true = false) : d ∉ Region.ready md ops listed := by
  intro hd
  obtain ⟨_, o, ho, hall⟩ := mem_ready.1 hd
  have hi : listed.getD i false = true := by
    cases fuel with
    | zero => simp [reachB] at hr
    | succ n =>
      unfold reachB at hr
      rw [ho] at hr
      obtain ⟨e, he, h1⟩ := Array.any_eq_true'.1 hr
      simp only [Bool.and_eq_true, Bool.or_eq_true, beq_iff_eq] at h1
      have hle := hall e he h1.1
      rcases h1.2 with h2 | h2
      · rw [← h2]; exact hle
      · exact reach_listed hc n e.on h2 hle
  rcases Nat.lt_or_ge i listed.size with h' | h'
  · simp [h'] at hun hi
    rw [hun] at hi
    cases hi
  · simp [Array.getElem?_eq_none h'] at hun


def wpAnyM (P : Program) (md : Region.Mode) (ops : Array Oper) (Q : Exit → Act → World → Prop) (ds : List Nat) (R : World → World → Prop) : Nat → Array Bool → Act → World → Prop
  | 0, listed, a, w => Region.ready md ops listed = [] ∧ Q .normal a w
  | fuel + 1, listed, a, w =>
    (Region.ready md ops listed = [] → Q .normal a w) ∧
    ∀ i ∈ Region.ready md ops listed, wpOp P ops Q i (fun a' w' => (i ∉ ds → R w w') ∧ wpAnyM P md ops Q ds R fuel (listed.setIfInBounds i true) a' w') a w

omit [LR R] in
theorem wpAny_of_M : ∀ (fuel : Nat) (listed : Array Bool) (a : Act) (w : World), wpAnyM P md ops Q ds R fuel listed a w → wpAny P md ops Q fuel listed a w
  | 0, _, _, _, h => h
  | fuel + 1, _, _, _, h => ⟨h.1, fun i hi => wpOp_mono (fun a' w' h' => wpAny_of_M fuel _ a' w' h'.2) (h.2 i hi)⟩

/-- In state 'a', in every world that meets S, operation 'o' leaves 'v' in its temporary and the world as it is (a call too). -/
def YieldsX (P : Program) (ops : Array Oper) (S : World → Prop) (o : Oper) (v : Value) (a : Act) : Prop :=
  (Region.wanted o (yielded ops a.tmps) = true ∧ ∀ w, S w → o.quietAt P a (fun w' => w' = w) w v) ∨ (Region.wanted o (yielded ops a.tmps) = false ∧ v = undef)
omit [LR R] in
theorem YieldsX.wpOp {S : World → Prop} {i : Nat} {o : Oper} {v : Value} {a : Act} (hi : ops[i]? = some o) (hy : YieldsX P ops S o v a) {K : Act → World → Prop} {w : World} (hS : S w) (h : K (a.put o.dst v) w) : wpOp P ops Q i K a w := by
  unfold Go.wpOp
  simp only [hi]
  rcases hy with ⟨hw, hv⟩ | ⟨hw, rfl⟩
  · simp only [hw, if_true]
    have h3 := hv w hS
    unfold Oper.quietAt at h3
    refine .inl ?_
    unfold Oper.wp
    generalize (execOp a.eval o).run P w = r at *
    cases r with
    | ok n w' =>
      cases n <;> simp only [Oper.quietUpon] at h3 <;> simp only [Oper.upon]
      case value u => rw [h3.1, h3.2]; exact h
      case skip => rw [h3.1, ← h3.2]; exact h
      case enter f args =>
        obtain ⟨e1, hc⟩ := h3
        rw [e1]
        exact hc.mono fun e w'' ⟨he, hw''⟩ => by subst he; subst hw''; exact h
    | halt x w' => simp only [Oper.quietUpon] at h3
  · simp only [hw, Bool.false_eq_true, if_false]; exact h
omit [LR R] in
theorem YieldsX.of_same {S : World → Prop} {o : Oper} {v : Value} {a a' : Act} (hy : YieldsX P ops S o v a) (he : execOp a'.eval o = execOp a.eval o)
    (hw : Region.wanted o (yielded ops a'.tmps) = Region.wanted o (yielded ops a.tmps)) : YieldsX P ops S o v a' := by
  unfold YieldsX Oper.quietAt at *
  rw [he, hw]
  exact hy
omit [LR R] in
theorem wpOp_putX {S : World → Prop} {j : Nat} {oi oj : Oper} {v : Value} (hj : ops[j]? = some oj) (hap : oi.apart ops oj = true)
    (hsi : ∀ cs b, oi.op ≠ .select cs b) (hsj : ∀ cs b, oj.op ≠ .select cs b)
    (hQ : ∀ c a w, Q (.panic c) (a.put oi.dst v) w → Q (.panic c) a w) {K : Act → World → Prop} {a : Act} {w : World}
    (hy : YieldsX P ops S oi v a) (h : wpOp P ops Q j K (a.put oi.dst v) w) :
    wpOp P ops Q j (fun a' w' => YieldsX P ops S oi v a' ∧ K (a'.put oi.dst v) w') a w := by
  obtain ⟨h1, h2, h3⟩ := Oper.apart_spec hap
  have keep : ∀ (a : Act), YieldsX P ops S oi v a → ∀ u, YieldsX P ops S oi v (a.put oj.dst u) := fun a hy u =>
    hy.of_same (execOp_put oi hsi a oj.dst u h3) (wanted_put oi a oj.dst u h3)
  have keepD : ∀ d, YieldsX P ops S oi v { a with defers := d :: a.defers } := fun d => hy.of_same rfl rfl
  unfold wpOp at *
  simp only [hj] at *
  rw [wanted_put oj a oi.dst v h1] at h
  split
  · rename_i hw
    simp only [hw, if_true] at h
    rcases h with h | ⟨hasks, hlets⟩
    case inr => exact .inr ⟨by unfold Oper.asks at *; rw [execOp_put oj hsj a oi.dst v h1] at hasks; exact hasks, hlets⟩
    refine .inl ?_
    unfold Oper.wp at *
    rw [execOp_put oj hsj a oi.dst v h1] at h
    generalize (execOp a.eval oj).run P w = r at *
    cases r with
    | ok n w' =>
      cases n <;> simp only [Oper.upon] at h ⊢
      case value u => exact ⟨keep a hy u, by rw [← Act.put_comm a v u h2]; exact h⟩
      case skip => exact ⟨keep a hy _, by rw [← Act.put_comm a v undef h2]; exact h⟩
      case defer d =>
        refine ⟨keep _ (keepD d) _, ?_⟩
        rw [← Act.put_comm _ v undef h2, ← Act.put_defers]
        exact h
      case enter f args =>
        refine Calls.mono h fun e w'' he => ?_
        cases e with
        | returned u => exact ⟨keep a hy u, by rw [← Act.put_comm a v u h2]; exact he⟩
        | panicked c => exact hQ _ _ _ he
        | outgrown => exact he
      case row row args => exact Rows.mono h fun u w'' he => ⟨keep a hy u, by rw [← Act.put_comm a v u h2]; exact he⟩
    | halt x w' =>
      cases x <;> simp only [Oper.upon] at h ⊢
      case panic u => exact hQ _ _ _ h
  · rename_i hw
    simp only [hw] at h
    exact ⟨keep a hy _, by rw [← Act.put_comm a v undef h2]; exact h⟩

theorem wpAnyM_first {i : Nat} {oi : Oper} {v : Value} {w0 : World} (hi : ops[i]? = some oi) (hsel : ∀ (j : Nat) (o : Oper) cs b, ops[j]? = some o → o.op ≠ .select cs b)
    (hQ : ∀ c a w, Q (.panic c) (a.put oi.dst v) w → Q (.panic c) a w) (n : Nat) :
    ∀ (fuel : Nat) (listed : Array Bool) (a : Act) (w : World),
      (∀ j oj, ops[j]? = some oj → j ≠ i → listed.getD j true = false → (∀ e ∈ oj.after, Region.binds md e = true → e.on ≠ i) → oi.apart ops oj = true) →
      ListedClosed md ops listed → (∀ d ∈ ds, listed.getD d true = false → reachB md ops i n d = true) →
      i ∈ Region.ready md ops listed → YieldsX P ops (R w0) oi v a → R w0 w →
      wpAnyM P md ops Q ds R fuel (listed.setIfInBounds i true) (a.put oi.dst v) w → wpAnyM P md ops Q ds R (fuel + 1) listed a w := by
  intro fuel
  induction fuel with
  | zero =>
    intro listed a w _ _ _ hr hy hS H
    refine ⟨fun h => (by rw [h] at hr; cases hr), fun j hj => ?_⟩
    by_cases hji : j = i
    · subst hji; exact hy.wpOp hi hS ⟨fun _ => LR.refl _, H⟩
    · have := ready_mono hj hji
      rw [H.1] at this
      cases this
  | succ fuel ih =>
    intro listed a w hfree hc hd hr hy hS H
    refine ⟨fun h => (by rw [h] at hr; cases hr), fun j hj => ?_⟩
    by_cases hji : j = i
    · subst hji; exact hy.wpOp hi hS ⟨fun _ => LR.refl _, H⟩
    · have h1 := H.2 j (ready_mono hj hji)
      obtain ⟨hjun, oj, hoj, hall⟩ := mem_ready.1 hj
      have hiun := (mem_ready.1 hr).1
      have hnot : ∀ e ∈ oj.after, Region.binds md e = true → e.on ≠ i := fun e he hb heq => by
        have h1 := hall e he hb
        rw [heq] at h1
        rcases Nat.lt_or_ge i listed.size with h' | h'
        · simp [h'] at hiun h1; rw [hiun] at h1; cases h1
        · simp [Array.getElem?_eq_none h'] at h1
      have hjd : j ∉ ds := fun hm => reach_not_ready hc (hd j hm hjun) hiun hj
      have h2 := wpOp_putX hoj (hfree j oj hoj hji hjun hnot) (fun cs b => hsel i oi cs b hi) (fun cs b => hsel j oj cs b hoj) hQ hy h1
      have hfree' : ∀ k ok, ops[k]? = some ok → k ≠ i → (listed.setIfInBounds j true).getD k true = false →
          (∀ e ∈ ok.after, Region.binds md e = true → e.on ≠ i) → oi.apart ops ok = true := fun k ok hk hki hun hno => by
        refine hfree k ok hk hki ?_ hno
        by_cases hjk : j = k
        · subst hjk; exact hjun
        · rw [getD_set_ne true hjk] at hun; exact hun
      have hd' : ∀ d ∈ ds, (listed.setIfInBounds j true).getD d true = false → reachB md ops i n d = true := fun d hm hun => by
        refine hd d hm ?_
        by_cases hjk : j = d
        · subst hjk; exact hjun
        · rw [getD_set_ne true hjk] at hun; exact hun
      refine wpOp_mono (fun a' w' h3 => ⟨h3.2.1, ih (listed.setIfInBounds j true) a' w' hfree' (hc.set hj) hd' (ready_mono hr (Ne.symm hji)) h3.1 (LR.trans hS (h3.2.1 hjd)) ?_⟩) h2
      rw [Array.setIfInBounds_comm _ _ hji]
      exact h3.2.2

/-! ### A chunk -/
def wpChunk (P : Program) (ops : Array Oper) : List Oper → Act → World → Act → Prop
  | [], a, _, A => a = A
  | o :: r, a, w, A => if Region.wanted o (yielded ops a.tmps) = true then ∃ v, o.quietAt P a (fun w' => w' = w) w v ∧ wpChunk P ops r (a.put o.dst v) w A else wpChunk P ops r (a.put o.dst undef) w A

/-- What is listed behind a chunk; none: its operations can't be taken so. -/
def chunkAt (md : Region.Mode) (ops : Array Oper) (ds : List Nat) (n : Nat) : List Nat → List Nat → Array Bool → Option (Array Bool)
  | [], _, listed => some listed
  | i :: r, seen, listed =>
    match ops[i]? with
    | none => none
    | some o => match o.dst with
      | none => none
      | some d => if Region.free md ops listed i && (Region.ready md ops listed).contains i && closedB md ops listed && lastB md ops listed ds i && decide (d < n) && !seen.contains d then chunkAt md ops ds n r (d :: seen) (listed.setIfInBounds i true) else none

theorem put_size (a : Act) (d : Option Tmp) (v : Value) : (a.put d v).tmps.size = a.tmps.size := by
  cases d <;> simp [Act.put]
theorem put_getD (a : Act) (d : Tmp) (v : Value) (h : d < a.tmps.size) : (a.put (some d) v).tmps.getD d undef = v := by
  simp [Act.put, h]
theorem put_getD_ne (a : Act) (d e : Tmp) (v : Value) (h : d ≠ e) : (a.put (some d) v).tmps.getD e undef = a.tmps.getD e undef := by
  simp [Act.put, Array.getElem?_setIfInBounds, h]
theorem chunk_keeps {n : Nat} : ∀ (ch : List Nat) (seen : List Nat) (listed listed' : Array Bool), chunkAt md ops ds n ch seen listed = some listed' →
    ∀ (a A : Act) (w : World), wpChunk P ops (ch.filterMap (ops[·]?)) a w A → ∀ e ∈ seen, A.tmps.getD e undef = a.tmps.getD e undef
  | [], _, _, _, _, a, A, w, h, e, _ => by
    have : a = A := h
    rw [this]
  | i :: r, seen, listed, listed', hc, a, A, w, h, e, he => by
    unfold chunkAt at hc
    cases ho : ops[i]? with
    | none => rw [ho] at hc; cases hc
    | some o =>
      rw [ho] at hc
      simp only at hc
      cases hd : o.dst with
      | none => rw [hd] at hc; cases hc
      | some d =>
        rw [hd] at hc
        simp only at hc
        split at hc
        · rename_i hb
          simp only [Bool.and_eq_true, Bool.not_eq_true', List.contains_eq_mem, decide_eq_false_iff_not, decide_eq_true_eq] at hb
          have hne : d ≠ e := fun h => hb.2 (h ▸ he)
          simp only [List.filterMap_cons, ho] at h
          unfold wpChunk at h
          rw [hd] at h
          split at h
          · obtain ⟨v, _, h⟩ := h
            exact (chunk_keeps r (d :: seen) _ _ hc _ A w h e (by simp [he])).trans (put_getD_ne a d e v hne)
          · exact (chunk_keeps r (d :: seen) _ _ hc _ A w h e (by simp [he])).trans (put_getD_ne a d e undef hne)
        · cases hc

theorem draw_chunk {n : Nat} (hs : Region.noSelect ops = true) (hQ : ∀ c (d : Tmp) v a w, Q (.panic c) (a.put (some d) v) w → Q (.panic c) a w) :
    ∀ (ch : List Nat) (seen : List Nat) (listed listed' : Array Bool), chunkAt md ops ds n ch seen listed = some listed' →
    ∀ (fuel : Nat) (a A : Act) (w : World), a.tmps.size = n → (∀ w', R w w' → wpChunk P ops (ch.filterMap (ops[·]?)) a w' A) → wpAnyM P md ops Q ds R fuel listed' A w → wpAnyM P md ops Q ds R (fuel + ch.length) listed a w
  | [], _, listed, listed', hc, fuel, a, A, w, _, h, hn => by
    simp only [chunkAt, Option.some.injEq] at hc
    subst hc
    have : a = A := h w (LR.refl w)
    subst this
    exact hn
  | i :: r, seen, listed, listed', hc, fuel, a, A, w, hn, h, hnext => by
    unfold chunkAt at hc
    cases ho : ops[i]? with
    | none => rw [ho] at hc; cases hc
    | some o =>
      rw [ho] at hc
      simp only at hc
      cases hd : o.dst with
      | none => rw [hd] at hc; cases hc
      | some d =>
        rw [hd] at hc
        simp only at hc
        split at hc
        · rename_i hb
          simp only [Bool.and_eq_true, Bool.not_eq_true', List.contains_eq_mem, decide_eq_false_iff_not, decide_eq_true_eq] at hb
          obtain ⟨⟨⟨⟨⟨b1, b2⟩, b3⟩, b4⟩, b5⟩, b6⟩ := hb
          simp only [List.filterMap_cons, ho] at h
          have hl : ∀ d' ∈ ds, listed.getD d' true = false → reachB md ops i ops.size d' = true := fun d' hm hun => by
            have := List.all_eq_true.1 b4 d' hm
            rw [hun] at this
            simpa using this
          by_cases hw : Region.wanted o (yielded ops a.tmps) = true
          · have key : ∀ w', R w w' → ∃ v, o.quietAt P a (fun w'' => w'' = w') w' v ∧ wpChunk P ops (r.filterMap (ops[·]?)) (a.put o.dst v) w' A := fun w' hw' => by
              have := h w' hw'
              unfold wpChunk at this
              rw [if_pos hw] at this
              exact this
            have hv : ∀ w', R w w' → o.quietAt P a (fun w'' => w'' = w') w' (A.tmps.getD d undef) ∧ wpChunk P ops (r.filterMap (ops[·]?)) (a.put o.dst (A.tmps.getD d undef)) w' A := fun w' hw' => by
              obtain ⟨v, e1, e2⟩ := key w' hw'
              have : A.tmps.getD d undef = v := by
                rw [hd] at e2
                rw [chunk_keeps r (d :: seen) _ _ hc _ A w' e2 d (by simp), put_getD a d v (by rw [hn]; exact b5)]
              rw [this]
              exact ⟨e1, e2⟩
            have ih := draw_chunk hs hQ r (d :: seen) _ _ hc fuel (a.put o.dst (A.tmps.getD d undef)) A w (by rw [put_size]; exact hn) (fun w' hw' => (hv w' hw').2) hnext
            exact wpAnyM_first ho (Region.noSelect_spec hs) (fun c a w => by rw [hd]; exact hQ c _ _ a w) ops.size (fuel + r.length) listed a w (Region.free_spec ho b1) (closed_spec b3) hl (by simpa using b2)
              (.inl ⟨hw, fun w' hw' => (hv w' hw').1⟩) (LR.refl w) ih
          · have hw' : Region.wanted o (yielded ops a.tmps) = false := by simpa using hw
            have ih := draw_chunk hs hQ r (d :: seen) _ _ hc fuel (a.put o.dst undef) A w (by rw [put_size]; exact hn) (fun w' hw'' => by
              have := h w' hw''
              unfold wpChunk at this
              rw [if_neg hw] at this
              exact this) hnext
            exact wpAnyM_first ho (Region.noSelect_spec hs) (fun c a w => by rw [hd]; exact hQ c _ _ a w) ops.size (fuel + r.length) listed a w (Region.free_spec ho b1) (closed_spec b3) hl (by simpa using b2)
              (.inr ⟨hw', rfl⟩) (LR.refl w) ih
        · cases hc
theorem at_drop {i : Nat} {o : Oper} {t : List Oper} (h : ops.toList.drop i = o :: t) : ops[i]? = some o := by
  have : (ops.toList.drop i)[0]? = some o := by rw [h]; rfl
  rw [List.getElem?_drop] at this
  simpa using this
omit [LR R] in
/-- An operation that makes or turns memory: nothing else may come up. -/
theorem draw_eff {i : Nat} {o : Oper} {t : List Oper} {fuel : Nat} {listed listed' : Array Bool} {a : Act} {w : World} (ho : ops.toList.drop i = o :: t) (hr : (Region.ready md ops listed == [i]) = true) (hl : listed.setIfInBounds i true = listed')
    (h : ∀ K : Act → World → Prop, (∀ a' w', ((i ∉ ds → R w w') ∧ wpAnyM P md ops Q ds R fuel listed' a' w') → K a' w') → wpList P ops (Exit.then K Q) [o] a w) : wpAnyM P md ops Q ds R (fuel + 1) listed a w := by
  subst hl
  replace h := h _ fun _ _ h => h
  replace ho := at_drop ho
  have hr' : Region.ready md ops listed = [i] := by simpa using hr
  refine ⟨fun h0 => (by rw [hr'] at h0; cases h0), fun j hj => ?_⟩
  rw [hr'] at hj
  obtain rfl : j = i := by simpa using hj
  unfold wpOp
  rw [ho]
  unfold wpList at h
  simp only
  split
  · rename_i hw
    rw [if_pos hw] at h
    rcases h with h | ⟨h1, a0, w0, h2⟩
    · refine .inl ?_
      unfold Oper.wp at *
      generalize (execOp a.eval o).run P w = r at *
      cases r with
      | ok n w' =>
        cases n <;> simp only [Oper.upon] at h ⊢
        case value => exact h
        case skip => exact h
        case defer => exact h
        case enter =>
          refine Calls.mono h fun e w'' he => ?_
          cases e with
          | returned u => exact he
          | panicked c => exact he
          | outgrown => exact he
        case row => exact Rows.mono h fun u w'' he => he
      | halt x w' => cases x <;> simp only [Oper.upon] at h ⊢ <;> exact h
    · exact .inr ⟨h1, a0, w0, h2⟩
  · rename_i hw
    rw [if_neg hw] at h
    unfold wpList at h
    exact h
omit [LR R] in
theorem draw_done {listed : Array Bool} {a : Act} {w : World} (hr : (Region.ready md ops listed == []) = true) (h : Q .normal a w) : ∀ fuel, wpAnyM P md ops Q ds R fuel listed a w
  | 0 => ⟨by simpa using hr, h⟩
  | _ + 1 => ⟨fun _ => h, by rw [show Region.ready md ops listed = [] by simpa using hr]; simp⟩
theorem ci_step {i : Nat} {r : List Nat} {o : Oper} {t : List Oper} {v : Value} {a A : Act} {w : World} (ho : ops.toList.drop i = o :: t) (hw : Region.wanted o (yielded ops a.tmps) = true) (hr : (execOp a.eval o).run P w = .ok (.value v) w)
    (h : wpChunk P ops (r.filterMap (ops[·]?)) (a.put o.dst v) w A) : wpChunk P ops ((i :: r).filterMap (ops[·]?)) a w A := by
  simp only [List.filterMap_cons, at_drop ho]
  unfold wpChunk
  rw [if_pos hw]
  exact ⟨v, by unfold Oper.quietAt; rw [hr]; exact ⟨rfl, rfl⟩, h⟩
/-- A call that leaves the world as it is. -/
theorem ci_call {i : Nat} {r : List Nat} {o : Oper} {t : List Oper} {v : Value} {a A : Act} {w : World} {f : FuncId} {args : Array Value} (ho : ops.toList.drop i = o :: t) (hw : Region.wanted o (yielded ops a.tmps) = true) (hr : (execOp a.eval o).run P w = .ok (.enter f args) w)
    (hc : Calls P f args w fun e w' => e = .returned v ∧ w' = w) (h : wpChunk P ops (r.filterMap (ops[·]?)) (a.put o.dst v) w A) : wpChunk P ops ((i :: r).filterMap (ops[·]?)) a w A := by
  simp only [List.filterMap_cons, at_drop ho]
  unfold wpChunk
  rw [if_pos hw]
  exact ⟨v, by unfold Oper.quietAt; rw [hr]; exact ⟨rfl, hc⟩, h⟩
theorem ci_off {i : Nat} {r : List Nat} {o : Oper} {t : List Oper} {a A : Act} {w : World} (ho : ops.toList.drop i = o :: t) (hw : Region.wanted o (yielded ops a.tmps) = false)
    (h : wpChunk P ops (r.filterMap (ops[·]?)) (a.put o.dst undef) w A) : wpChunk P ops ((i :: r).filterMap (ops[·]?)) a w A := by
  simp only [List.filterMap_cons, at_drop ho]
  unfold wpChunk
  rw [if_neg (by simp [hw])]
  exact h
theorem ci_end {a A : Act} {w : World} (h : a = A) : wpChunk P ops (([] : List Nat).filterMap (ops[·]?)) a w A := h
theorem draw_start {id : Nat} {a : Act} {w : World} (ds : List Nat) (R : World → World → Prop) (hm : P.follows .mixedOrders = true)
    (h : wpAnyM P .any ops Q ds R ops.size (Array.replicate ops.size false) a w.drew) : (Code.region id ops true).wp P Q a w :=
  wp_region_any hm (wpAny_of_M _ _ _ _ h)
end
attribute [irreducible] wpChunk wpAnyM
end Go.Proofs.YtnfaeafplaeehaaGreat
end
section
set_option linter.unusedVariables false
set_option linter.unusedSimpArgs false
namespace Go.Proofs.YtnfaeafplaeehaaGreat
open Go.RowKit

def Rec.bare (r : Rec) : Rec :=
  if r.kind = 1 then ⟨1, r.gen, r.lsn, r.id, 0, 0, false, 0, 0⟩ else if r.kind = 2 then ⟨2, r.gen, r.lsn, 0, r.a, r.l, r.on, 0, 0⟩ else if r.kind = 3 then ⟨3, r.gen, r.lsn, 0, 0, 0, false, r.s, 0⟩
  else if r.kind = 4 then ⟨4, r.gen, r.lsn, r.id, r.a, r.l, false, r.s, r.m⟩ else ⟨r.kind, r.gen, r.lsn, 0, 0, 0, false, 0, 0⟩
set_option maxHeartbeats 4000000 in
theorem rec_bare (r : Rec) (w : World) : Calls Tryz.prog 54 #[r.val] w fun e w' => e = .returned r.bare.val ∧ Below w.heap.size w w' := by
  obtain ⟨kind, gen, lsn, rid, a, l, on, rs, rm⟩ := r
  simp only [Rec.val]
  by_cases k1 : kind = 1
  · subst k1
    have HF := Lib.hid (show (Rec.mk 1 gen lsn rid a l on rs rm).bare.arr = Rec.arr ⟨1, gen, lsn, rid, 0, 0, false, 0, 0⟩ from rfl)
    simp only [Rec.arr]
    go_enter Tryz.func54, Tryz.ntmps54
    go_wp2
    refine bodyPost_ret (v := .agg (Rec.arr ⟨1, gen, lsn, rid, 0, 0, false, 0, 0⟩)) (by simp [results, Tryz.results54, go_sem, Rec.arr]) rfl ⟨congrArg (fun x => Ending.returned (Value.agg x)) HF.out.symm, ?_⟩
    first | exact (((Below.refl _ _).alloc (Nat.le_refl _) _).alloc (by simp) _).alloc (by simp; omega) _ | exact Below.drew ((((Below.refl _ _).alloc (Nat.le_refl _) _).alloc (by simp) _).alloc (by simp; omega) _)
  by_cases k2 : kind = 2
  · subst k2
    have HF := Lib.hid (show (Rec.mk 2 gen lsn rid a l on rs rm).bare.arr = Rec.arr ⟨2, gen, lsn, 0, a, l, on, 0, 0⟩ from rfl)
    simp only [Rec.arr]
    go_enter Tryz.func54, Tryz.ntmps54
    go_wp2_with fail
    refine draw_start [] (Below (w.heap.size + 1)) (by kernel_rfl) ?_
    refine draw_chunk (n := 45) (by kernel_rfl) (fun _ _ _ _ _ h => h) [0, 1, 2, 3, 4] [] _ #[true, true, true, true, true, false, false, false] (by kernel_rfl) 3 _ ?_ _ rfl ?_ ?_
    rotate_left
    · intro w' hw'
      have hc' : ∀ b o, b < (w.heap.size + 1) → w'.cell? ⟨b, o, none⟩ = ((((w.alloc (.cells #[.int .i64 2, .int .u32 gen, .int .u32 lsn, .int .u32 rid, .int .u32 a, .int .i64 l, .bool on, .int .u32 rs, .int .u16 rm] 41)).alloc (.cells #[.int .i64 0, .int .u32 0, .int .u32 0, .int .u32 0, .int .u32 0, .int .i64 0, .bool false, .int .u32 0, .int .u16 0] 41)).alloc (.cells #[.int .i64 2, .int .u32 gen, .int .u32 lsn, .int .u32 0, .int .u32 0, .int .i64 0, .bool false, .int .u32 0, .int .u16 0] 41)).drew).cell? ⟨b, o, none⟩ := fun b o h => hw'.cell (p := ⟨b, o, none⟩) h
      iterate 5
        refine ci_step (v := ?_) rfl (by kernel_rfl) ?_ ?_
        rotate_left
        · first | (go_simp; done) | (go_simp; with_reducible rfl)
        try simp only [Act.put, List.setIfInBounds_toArray, List.set_cons_zero, List.set_cons_succ]
      refine ci_end ?_
      rfl
    refine draw_eff (i := 5) rfl (by kernel_rfl) (listed' := #[true, true, true, true, true, true, false, false]) rfl (fun K hK => ?_)
    replace hK := Lib.hid hK
    go_wp2_with fail
    refine hK.out _ _ ⟨fun _ => below_dd (below_two (W := w.alloc (.cells #[.int .i64 2, .int .u32 gen, .int .u32 lsn, .int .u32 rid, .int .u32 a, .int .i64 l, .bool on, .int .u32 rs, .int .u16 rm] 41)) (((Below.refl _ _).alloc (by simp) _).alloc (by simp) _) (((Below.refl _ _).alloc (by simp) _).alloc (by simp) _) (by simp)), ?_⟩
    clear hK
    refine draw_chunk (n := 45) (by kernel_rfl) (fun _ _ _ _ _ h => h) [6] [] _ #[true, true, true, true, true, true, true, false] (by kernel_rfl) 1 _ ?_ _ rfl ?_ ?_
    rotate_left
    · intro w' hw'
      have hc' : ∀ b o, b < (w.heap.size + 1) → w'.cell? ⟨b, o, none⟩ = ((((w.alloc (.cells #[.int .i64 2, .int .u32 gen, .int .u32 lsn, .int .u32 rid, .int .u32 a, .int .i64 l, .bool on, .int .u32 rs, .int .u16 rm] 41)).alloc (.cells #[.int .i64 0, .int .u32 0, .int .u32 0, .int .u32 0, .int .u32 0, .int .i64 0, .bool false, .int .u32 0, .int .u16 0] 41)).alloc (.cells #[.int .i64 2, .int .u32 gen, .int .u32 lsn, .int .u32 0, .int .u32 a, .int .i64 l, .bool false, .int .u32 0, .int .u16 0] 41)).drew).cell? ⟨b, o, none⟩ := fun b o h => hw'.cell (p := ⟨b, o, none⟩) h
      refine ci_step (i := 6) (v := ?_) rfl (by kernel_rfl) ?_ ?_
      rotate_left
      · first | (go_simp; done) | (go_simp; with_reducible rfl)
      skip
      try simp only [Act.put, List.setIfInBounds_toArray, List.set_cons_zero, List.set_cons_succ]
      refine ci_end ?_
      rfl
    refine draw_eff (i := 7) rfl (by kernel_rfl) (listed' := #[true, true, true, true, true, true, true, true]) rfl (fun K hK => ?_)
    replace hK := Lib.hid hK
    go_wp2_with fail
    refine hK.out _ _ ⟨fun _ => below_dd (below_two (W := w.alloc (.cells #[.int .i64 2, .int .u32 gen, .int .u32 lsn, .int .u32 rid, .int .u32 a, .int .i64 l, .bool on, .int .u32 rs, .int .u16 rm] 41)) (((Below.refl _ _).alloc (by simp) _).alloc (by simp) _) (((Below.refl _ _).alloc (by simp) _).alloc (by simp) _) (by simp)), ?_⟩
    clear hK
    refine draw_done (by kernel_rfl) ?_ _
    go_wp2
    refine bodyPost_ret (v := .agg (Rec.arr ⟨2, gen, lsn, 0, a, l, on, 0, 0⟩)) (by simp [results, Tryz.results54, go_sem, Rec.arr]) rfl ⟨congrArg (fun x => Ending.returned (Value.agg x)) HF.out.symm, ?_⟩
    first | exact (((Below.refl _ _).alloc (Nat.le_refl _) _).alloc (by simp) _).alloc (by simp; omega) _ | exact Below.drew ((((Below.refl _ _).alloc (Nat.le_refl _) _).alloc (by simp) _).alloc (by simp; omega) _)
  by_cases k3 : kind = 3
  · subst k3
    have HF := Lib.hid (show (Rec.mk 3 gen lsn rid a l on rs rm).bare.arr = Rec.arr ⟨3, gen, lsn, 0, 0, 0, false, rs, 0⟩ from rfl)
    simp only [Rec.arr]
    go_enter Tryz.func54, Tryz.ntmps54
    go_wp2
    refine bodyPost_ret (v := .agg (Rec.arr ⟨3, gen, lsn, 0, 0, 0, false, rs, 0⟩)) (by simp [results, Tryz.results54, go_sem, Rec.arr]) rfl ⟨congrArg (fun x => Ending.returned (Value.agg x)) HF.out.symm, ?_⟩
    first | exact (((Below.refl _ _).alloc (Nat.le_refl _) _).alloc (by simp) _).alloc (by simp; omega) _ | exact Below.drew ((((Below.refl _ _).alloc (Nat.le_refl _) _).alloc (by simp) _).alloc (by simp; omega) _)
  by_cases k4 : kind = 4
  · subst k4
    have HF := Lib.hid (show (Rec.mk 4 gen lsn rid a l on rs rm).bare.arr = Rec.arr ⟨4, gen, lsn, rid, a, l, false, rs, rm⟩ from rfl)
    simp only [Rec.arr]
    go_enter Tryz.func54, Tryz.ntmps54
    go_wp2_with fail
    refine draw_start [] (Below (w.heap.size + 1)) (by kernel_rfl) ?_
    refine draw_chunk (n := 45) (by kernel_rfl) (fun _ _ _ _ _ h => h) [0, 1, 2, 3, 4, 5, 6] [] _ #[true, true, true, true, true, true, true, false, false, false, false, false] (by kernel_rfl) 5 _ ?_ _ rfl ?_ ?_
    rotate_left
    · intro w' hw'
      have hc' : ∀ b o, b < (w.heap.size + 1) → w'.cell? ⟨b, o, none⟩ = ((((w.alloc (.cells #[.int .i64 4, .int .u32 gen, .int .u32 lsn, .int .u32 rid, .int .u32 a, .int .i64 l, .bool on, .int .u32 rs, .int .u16 rm] 41)).alloc (.cells #[.int .i64 0, .int .u32 0, .int .u32 0, .int .u32 0, .int .u32 0, .int .i64 0, .bool false, .int .u32 0, .int .u16 0] 41)).alloc (.cells #[.int .i64 4, .int .u32 gen, .int .u32 lsn, .int .u32 0, .int .u32 0, .int .i64 0, .bool false, .int .u32 0, .int .u16 0] 41)).drew).cell? ⟨b, o, none⟩ := fun b o h => hw'.cell (p := ⟨b, o, none⟩) h
      iterate 7
        refine ci_step (v := ?_) rfl (by kernel_rfl) ?_ ?_
        rotate_left
        · first | (go_simp; done) | (go_simp; with_reducible rfl)
        try simp only [Act.put, List.setIfInBounds_toArray, List.set_cons_zero, List.set_cons_succ]
      refine ci_end ?_
      rfl
    refine draw_eff (i := 7) rfl (by kernel_rfl) (listed' := #[true, true, true, true, true, true, true, true, false, false, false, false]) rfl (fun K hK => ?_)
    replace hK := Lib.hid hK
    go_wp2_with fail
    refine hK.out _ _ ⟨fun _ => below_dd (below_two (W := w.alloc (.cells #[.int .i64 4, .int .u32 gen, .int .u32 lsn, .int .u32 rid, .int .u32 a, .int .i64 l, .bool on, .int .u32 rs, .int .u16 rm] 41)) (((Below.refl _ _).alloc (by simp) _).alloc (by simp) _) (((Below.refl _ _).alloc (by simp) _).alloc (by simp) _) (by simp)), ?_⟩
    clear hK
    refine draw_chunk (n := 45) (by kernel_rfl) (fun _ _ _ _ _ h => h) [8] [] _ #[true, true, true, true, true, true, true, true, true, false, false, false] (by kernel_rfl) 3 _ ?_ _ rfl ?_ ?_
    rotate_left
    · intro w' hw'
      have hc' : ∀ b o, b < (w.heap.size + 1) → w'.cell? ⟨b, o, none⟩ = ((((w.alloc (.cells #[.int .i64 4, .int .u32 gen, .int .u32 lsn, .int .u32 rid, .int .u32 a, .int .i64 l, .bool on, .int .u32 rs, .int .u16 rm] 41)).alloc (.cells #[.int .i64 0, .int .u32 0, .int .u32 0, .int .u32 0, .int .u32 0, .int .i64 0, .bool false, .int .u32 0, .int .u16 0] 41)).alloc (.cells #[.int .i64 4, .int .u32 gen, .int .u32 lsn, .int .u32 rid, .int .u32 0, .int .i64 0, .bool false, .int .u32 0, .int .u16 0] 41)).drew).cell? ⟨b, o, none⟩ := fun b o h => hw'.cell (p := ⟨b, o, none⟩) h
      refine ci_step (i := 8) (v := ?_) rfl (by kernel_rfl) ?_ ?_
      rotate_left
      · first | (go_simp; done) | (go_simp; with_reducible rfl)
      skip
      try simp only [Act.put, List.setIfInBounds_toArray, List.set_cons_zero, List.set_cons_succ]
      refine ci_end ?_
      rfl
    refine draw_eff (i := 9) rfl (by kernel_rfl) (listed' := #[true, true, true, true, true, true, true, true, true, true, false, false]) rfl (fun K hK => ?_)
    replace hK := Lib.hid hK
    go_wp2_with fail
    refine hK.out _ _ ⟨fun _ => below_dd (below_two (W := w.alloc (.cells #[.int .i64 4, .int .u32 gen, .int .u32 lsn, .int .u32 rid, .int .u32 a, .int .i64 l, .bool on, .int .u32 rs, .int .u16 rm] 41)) (((Below.refl _ _).alloc (by simp) _).alloc (by simp) _) (((Below.refl _ _).alloc (by simp) _).alloc (by simp) _) (by simp)), ?_⟩
    clear hK
    refine draw_chunk (n := 45) (by kernel_rfl) (fun _ _ _ _ _ h => h) [10] [] _ #[true, true, true, true, true, true, true, true, true, true, true, false] (by kernel_rfl) 1 _ ?_ _ rfl ?_ ?_
    rotate_left
    · intro w' hw'
      have hc' : ∀ b o, b < (w.heap.size + 1) → w'.cell? ⟨b, o, none⟩ = ((((w.alloc (.cells #[.int .i64 4, .int .u32 gen, .int .u32 lsn, .int .u32 rid, .int .u32 a, .int .i64 l, .bool on, .int .u32 rs, .int .u16 rm] 41)).alloc (.cells #[.int .i64 0, .int .u32 0, .int .u32 0, .int .u32 0, .int .u32 0, .int .i64 0, .bool false, .int .u32 0, .int .u16 0] 41)).alloc (.cells #[.int .i64 4, .int .u32 gen, .int .u32 lsn, .int .u32 rid, .int .u32 a, .int .i64 l, .bool false, .int .u32 0, .int .u16 0] 41)).drew).cell? ⟨b, o, none⟩ := fun b o h => hw'.cell (p := ⟨b, o, none⟩) h
      refine ci_step (i := 10) (v := ?_) rfl (by kernel_rfl) ?_ ?_
      rotate_left
      · first | (go_simp; done) | (go_simp; with_reducible rfl)
      skip
      try simp only [Act.put, List.setIfInBounds_toArray, List.set_cons_zero, List.set_cons_succ]
      refine ci_end ?_
      rfl
    refine draw_eff (i := 11) rfl (by kernel_rfl) (listed' := #[true, true, true, true, true, true, true, true, true, true, true, true]) rfl (fun K hK => ?_)
    replace hK := Lib.hid hK
    go_wp2_with fail
    refine hK.out _ _ ⟨fun _ => below_dd (below_two (W := w.alloc (.cells #[.int .i64 4, .int .u32 gen, .int .u32 lsn, .int .u32 rid, .int .u32 a, .int .i64 l, .bool on, .int .u32 rs, .int .u16 rm] 41)) (((Below.refl _ _).alloc (by simp) _).alloc (by simp) _) (((Below.refl _ _).alloc (by simp) _).alloc (by simp) _) (by simp)), ?_⟩
    clear hK
    refine draw_done (by kernel_rfl) ?_ _
    go_wp2
    refine bodyPost_ret (v := .agg (Rec.arr ⟨4, gen, lsn, rid, a, l, false, rs, rm⟩)) (by simp [results, Tryz.results54, go_sem, Rec.arr]) rfl ⟨congrArg (fun x => Ending.returned (Value.agg x)) HF.out.symm, ?_⟩
    first | exact (((Below.refl _ _).alloc (Nat.le_refl _) _).alloc (by simp) _).alloc (by simp; omega) _ | exact Below.drew ((((Below.refl _ _).alloc (Nat.le_refl _) _).alloc (by simp) _).alloc (by simp; omega) _)
  · have k1' : (kind == 1) = false := by simpa using k1
    have k2' : (kind == 2) = false := by simpa using k2
    have k3' : (kind == 3) = false := by simpa using k3
    have k4' : (kind == 4) = false := by simpa using k4
    have HF := Lib.hid (show (Rec.mk kind gen lsn rid a l on rs rm).bare.arr = Rec.arr ⟨kind, gen, lsn, 0, 0, 0, false, 0, 0⟩ by simp [Rec.bare, k1, k2, k3, k4])
    clear k1 k2 k3 k4
    simp only [Rec.arr]
    go_enter Tryz.func54, Tryz.ntmps54
    go_wp2
    refine bodyPost_ret (v := .agg (Rec.arr ⟨kind, gen, lsn, 0, 0, 0, false, 0, 0⟩)) (by simp [results, Tryz.results54, go_sem, Rec.arr]) rfl ⟨congrArg (fun x => Ending.returned (Value.agg x)) HF.out.symm, ?_⟩
    first | exact (((Below.refl _ _).alloc (Nat.le_refl _) _).alloc (by simp) _).alloc (by simp; omega) _ | exact Below.drew ((((Below.refl _ _).alloc (Nat.le_refl _) _).alloc (by simp) _).alloc (by simp; omega) _)
end Go.Proofs.YtnfaeafplaeehaaGreat
end
section
set_option linter.unusedVariables false
set_option linter.unusedSimpArgs false
namespace Go.Proofs.YtnfaeafplaeehaaGreat
open Go.RowKit

def maskI (n : Int) : Int := 4294967296 - 2 ^ (32 - n).toNat
/-- Is a prefix one? -/
def rightB (a l : Int) : Bool := decide (0 ≤ l ∧ l ≤ 32 ∧ a % 2 ^ (32 - l).toNat = 0)
/-- Has a prefix that is one an address? -/
def inB (a l x : Int) : Bool := decide (x - x % 2 ^ (32 - l).toNat = a)
def hasB (a l x : Int) : Bool := rightB a l && inB a l x

theorem shl_mask (k : Nat) (h : k ≤ 31) : (4294967295 : Int) * 2 ^ k % 4294967296 = 4294967296 - 2 ^ k := by
  have : ∀ k : Fin 32, (4294967295 : Int) * 2 ^ k.val % 4294967296 = 4294967296 - 2 ^ k.val := by decide
  exact this ⟨k, by omega⟩
theorem pow_bd (k : Nat) (h : k ≤ 32) : (1 : Int) ≤ 2 ^ k ∧ (2 : Int) ^ k ≤ 4294967296 := by
  have : ∀ k : Fin 33, (1 : Int) ≤ 2 ^ k.val ∧ (2 : Int) ^ k.val ≤ 4294967296 := by decide
  exact this ⟨k, by omega⟩
theorem natpow_bd (k : Nat) (h : k ≤ 32) : 1 ≤ 2 ^ k ∧ 2 ^ k ≤ 4294967296 := by
  have : ∀ k : Fin 33, 1 ≤ 2 ^ k.val ∧ 2 ^ k.val ≤ 4294967296 := by decide
  exact this ⟨k, by omega⟩
theorem maskI_nat (l : Int) (h0 : 0 ≤ l) (h1 : l ≤ 32) : maskI l = ((4294967296 - 2 ^ (32 - l).toNat : Nat) : Int) := by
  have := natpow_bd (32 - l).toNat (by omega)
  unfold maskI
  rw [Int.natCast_sub this.2]
  simp
theorem andNot_mask (a l : Int) (ha : 0 ≤ a ∧ a ≤ 4294967295) (h0 : 0 ≤ l) (h1 : l ≤ 32) : (Go.bits .andNot .u32 a (maskI l) == 0) = decide (a % 2 ^ (32 - l).toNat = 0) := by
  have hk := natpow_bd (32 - l).toNat (by omega)
  obtain ⟨n, rfl⟩ := Int.eq_ofNat_of_zero_le ha.1
  rw [maskI_nat l h0 h1, u32_andNot_nat _ _ (by omega) (by omega)]
  generalize (32 - l).toNat = k at *
  rw [show 4294967295 - (4294967296 - 2 ^ k) = 2 ^ k - 1 by omega, Nat.and_two_pow_sub_one_eq_mod]
  rw [show ((n : Int) % 2 ^ k) = ((n % 2 ^ k : Nat) : Int) by simp]
  rw [Bool.eq_iff_iff]
  simp
theorem and_high (x k : Nat) (hk : k ≤ 32) (hx : x < 4294967296) : x &&& (4294967296 - 2 ^ k) = x - x % 2 ^ k := by
  have e : 4294967296 - 2 ^ k = (2 ^ (32 - k) - 1) <<< k := by
    rw [Nat.shiftLeft_eq, Nat.sub_mul, ← Nat.pow_add, show 32 - k + k = 32 by omega, Nat.one_mul]
  have e2 : x - x % 2 ^ k = (x / 2 ^ k) <<< k := by
    rw [Nat.shiftLeft_eq]
    have := Nat.div_add_mod x (2 ^ k)
    rw [Nat.mul_comm] at this
    omega
  rw [e, e2]
  refine Nat.eq_of_testBit_eq fun i => ?_
  rw [Nat.testBit_and, Nat.testBit_shiftLeft, Nat.testBit_shiftLeft, Nat.testBit_two_pow_sub_one, Nat.testBit_div_two_pow]
  by_cases hi : k ≤ i
  · simp only [hi, decide_true, Bool.true_and, ge_iff_le]
    rw [show i - k + k = i by omega]
    by_cases h2 : i - k < 32 - k
    · simp [h2]
    · have : x.testBit i = false := Nat.testBit_lt_two_pow (Nat.lt_of_lt_of_le hx (by
        calc 4294967296 = 2 ^ 32 := by decide
          _ ≤ 2 ^ i := Nat.pow_le_pow_right (by decide) (by omega)))
      simp [this]
  · simp [hi]
theorem and_mask (x l : Int) (hx : 0 ≤ x ∧ x ≤ 4294967295) (h0 : 0 ≤ l) (h1 : l ≤ 32) : Go.bits .and .u32 x (maskI l) = x - x % 2 ^ (32 - l).toNat := by
  have hk := natpow_bd (32 - l).toNat (by omega)
  obtain ⟨n, rfl⟩ := Int.eq_ofNat_of_zero_le hx.1
  rw [maskI_nat l h0 h1, u32_and_nat _ _ (by omega) (by omega), and_high n _ (by omega) (by omega)]
  have := Nat.mod_le n (2 ^ (32 - l).toNat)
  rw [Int.natCast_sub this]
  simp

theorem addr_mask (n : Int) (w : World) (h0 : 0 ≤ n) (h1 : n ≤ 32) : Calls Tryz.prog 69 #[.int .i64 n] w fun e w' => e = .returned (.int .u32 (maskI n)) ∧ w' = w := by
  by_cases hn : n = 0
  · subst hn
    have HM := Lib.hid (show maskI 0 = 0 by decide)
    go_enter Tryz.func69, Tryz.ntmps69
    go_wp2
    go_ret
    exact ⟨by rw [HM.out]; rfl, rfl⟩
  · have hn' : (n == 0) = false := by simpa using hn
    go_enter Tryz.func69, Tryz.ntmps69
    go_wp2
    go_ret
    exact ⟨congrArg (fun x => Ending.returned (.int .u32 x)) (shl_mask (32 - n).toNat (by omega)), rfl⟩

theorem addr_Right (a l : Int) (w : World) (ha : 0 ≤ a ∧ a ≤ 4294967295) : Calls Tryz.prog 55 #[.agg #[.int .u32 a, .int .i64 l]] w
    fun e w' => e = .returned (.bool (rightB a l)) ∧ Below w.heap.size w w' := by
  by_cases h0 : 0 ≤ l
  · by_cases h1 : l ≤ 32
    · have hb := Lib.hid (show rightB a l = (Go.bits .andNot .u32 a (maskI l) == 0) by rw [andNot_mask a l ha h0 h1]; simp [rightB, h0, h1])
      go_enter Tryz.func55, Tryz.ntmps55
      go_wp2_with fail
      go_quiet ((go_at_call 69; exact Calls.quiet_of_same (addr_mask _ _ h0 h1)))
      go_wp2
      go_ret
      exact ⟨by rw [hb.out]; rfl, below_drewN ((Below.refl _ _).alloc (Nat.le_refl _) _) _⟩
    · have hb := Lib.hid (show rightB a l = false by simp [rightB, h1])
      have h1' : decide (l ≤ 32) = false := by simpa using h1
      go_enter Tryz.func55, Tryz.ntmps55
      go_wp2_with fail
      go_quiet (fail)
      go_wp2
      go_ret
      exact ⟨by rw [hb.out]; rfl, below_drewN ((Below.refl _ _).alloc (Nat.le_refl _) _) _⟩
  · have hb := Lib.hid (show rightB a l = false by simp [rightB, h0])
    have h0' : decide (0 ≤ l) = false := by simpa using h0
    go_enter Tryz.func55, Tryz.ntmps55
    go_wp2_with fail
    go_quiet (fail)
    go_wp2
    go_ret
    exact ⟨by rw [hb.out]; rfl, below_drewN ((Below.refl _ _).alloc (Nat.le_refl _) _) _⟩
end Go.Proofs.YtnfaeafplaeehaaGreat
end
section
set_option linter.unusedVariables false
set_option linter.unusedSimpArgs false
namespace Go.Proofs.YtnfaeafplaeehaaGreat
open Go.RowKit
/-! Which records may be written. -/
/-- Can a record be written? -/
def recRightB (r : Rec) : Bool := rightB r.a r.l && !decide (r.s > 1073741824) && !(r.m == 65535) &&
  (if r.kind = 1 then decide (r.id > 0) && (r.a == 0 && r.l == 0) && !r.on && (r.s == 0 && r.m == 0) else if r.kind = 2 then (r.id == 0) && (r.s == 0 && r.m == 0) else if r.kind = 3 then (r.id == 0) && (r.a == 0 && r.l == 0) && !r.on && (r.m == 0) else if r.kind = 4 then decide (r.id > 0) && !r.on else false)

end Go.Proofs.YtnfaeafplaeehaaGreat
end
section
set_option linter.unusedVariables false
set_option linter.unusedSimpArgs false
namespace Go.Proofs.YtnfaeafplaeehaaGreat
open Go.RowKit

def accN (a b c d : Int) : Nat → Int
  | 0 => 0
  | 1 => a
  | 2 => a * 256 + b
  | 3 => (a * 256 + b) * 256 + c
  | _ => cat4 a b c d
/-- 'get' on a slice of four bytes or more. -/
theorem rec_get (g off n cap : Nat) (a b c d : Int) (w : World) (hn : 4 ≤ n) (hnc : n ≤ cap) (hm : n ≤ 140737488351232) (ha : 0 ≤ a ∧ a ≤ 255) (hb : 0 ≤ b ∧ b ≤ 255) (hc : 0 ≤ c ∧ c ≤ 255) (hd : 0 ≤ d ∧ d ≤ 255)
    (h0 : w.cell? ⟨g, off, none⟩ = some (.int .u8 a)) (h1 : w.cell? ⟨g, off + 1, none⟩ = some (.int .u8 b)) (h2 : w.cell? ⟨g, off + 2, none⟩ = some (.int .u8 c)) (h3 : w.cell? ⟨g, off + 3, none⟩ = some (.int .u8 d)) :
    Calls Tryz.prog 71 #[.slice (some ⟨g, off, none⟩) n cap] w fun e w' => e = .returned (.int .u32 (cat4 a b c d)) ∧ w' = w := by
  have O1 : Go.bits .or .u32 0 a = a := by have := or_byte32 0 a (by omega) (by omega) ha; simpa using this
  have O2 := or_byte32 a b (by omega) (by omega) hb
  have O3 := or_byte32 (a * 256 + b) c (by omega) (by omega) hc
  have O4 := or_byte32 ((a * 256 + b) * 256 + c) d (by omega) (by omega) hd
  obtain ⟨ha0, ha1⟩ := ha
  obtain ⟨hb0, hb1⟩ := hb
  obtain ⟨hc0, hc1⟩ := hc
  obtain ⟨hd0, hd1⟩ := hd
  go_enter Tryz.func71, Tryz.ntmps71
  go_wp2
  go_loop [9, 3] (fun i v => ∃ k : Nat, k ≤ 4 ∧ i = .int .i64 k ∧ v = .int .u32 (accN a b c d k)) (fun i _ => 4 - (intOf i).toNat)
  case atStart => exact ⟨0, by omega, rfl, rfl⟩
  case round =>
    obtain ⟨k, hk, rfl, rfl⟩ := hrel
    match k, hk with
    | 0, _ =>
      simp only [accN]
      go_wp2
      refine ⟨⟨1, by omega, rfl, ?_⟩, by simp [intOf]⟩
      exact rfl
    | 1, _ =>
      simp only [accN]
      go_wp2
      refine ⟨⟨2, by omega, rfl, ?_⟩, by simp [intOf]⟩
      exact rfl
    | 2, _ =>
      simp only [accN]
      go_wp2
      refine ⟨⟨3, by omega, rfl, ?_⟩, by simp [intOf]⟩
      exact rfl
    | 3, _ =>
      simp only [accN]
      go_wp2
      refine ⟨⟨4, by omega, rfl, ?_⟩, by simp [intOf]⟩
      exact rfl
    | 4, _ =>
      simp only [accN]
      go_wp2
      go_ret
      exact ⟨rfl, rfl⟩
end Go.Proofs.YtnfaeafplaeehaaGreat
end
section
set_option linter.unusedVariables false
set_option linter.unusedSimpArgs false
namespace Go.Proofs.YtnfaeafplaeehaaGreat
open Go.RowKit
/-! A call that only draws, in a region in which a new variable may be made at any time: the call may be taken first. -/
theorem wpAnyM_succ {P : Program} {md : Region.Mode} {ops : Array Oper} {Q : Exit → Act → World → Prop} {ds : List Nat} {R : World → World → Prop} {fuel : Nat} {listed : Array Bool} {a : Act} {w : World} : wpAnyM P md ops Q ds R (fuel + 1) listed a w ↔
    (Region.ready md ops listed = [] → Q .normal a w) ∧ ∀ i ∈ Region.ready md ops listed, wpOp P ops Q i (fun a' w' => (i ∉ ds → R w w') ∧ wpAnyM P md ops Q ds R fuel (listed.setIfInBounds i true) a' w') a w := by with_unfolding_all exact Iff.rfl
theorem wpAnyM_zero {P : Program} {md : Region.Mode} {ops : Array Oper} {Q : Exit → Act → World → Prop} {ds : List Nat} {R : World → World → Prop} {listed : Array Bool} {a : Act} {w : World} : wpAnyM P md ops Q ds R 0 listed a w ↔ Region.ready md ops listed = [] ∧ Q .normal a w := by with_unfolding_all exact Iff.rfl
section
variable {P : Program} {ops : Array Oper} {Q : Exit → Act → World → Prop} {md : Region.Mode} {ds : List Nat} {R : World → World → Prop} [LR R]
/-- An operation that makes a variable. -/
def AllocLike (P : Program) (o : Oper) : Prop := ∃ obj, ∀ (a : Act) (w : World), (execOp a.eval o).run P w = .ok (.value (.pointer (some ⟨w.heap.size, 0, none⟩))) (w.alloc obj) ∧ ¬ o.asks P a w
theorem alloc_drewN (w : World) (obj : Obj) (n : Nat) : (w.drewN n).alloc obj = (w.alloc obj).drewN n := rfl
omit [LR R] in
theorem wpOp_alloc {j : Nat} {oj : Oper} {obj : Obj} (hoj : ops[j]? = some oj) (hA : ∀ (a : Act) (w : World), (execOp a.eval oj).run P w = .ok (.value (.pointer (some ⟨w.heap.size, 0, none⟩))) (w.alloc obj) ∧ ¬ oj.asks P a w) (a : Act) (hw : Region.wanted oj (yielded ops a.tmps) = true)
    (K : Act → World → Prop) (w : World) : wpOp P ops Q j K a w ↔ K (a.put oj.dst (.pointer (some ⟨w.heap.size, 0, none⟩))) (w.alloc obj) := by
  unfold wpOp
  simp only [hoj, hw, if_true]
  unfold Oper.wp
  rw [(hA a w).1]
  simp only [Oper.upon]
  exact ⟨fun h' => h'.resolve_right fun h'' => (hA a w).2 h''.1, .inl⟩
omit [LR R] in
theorem wpOp_off {j : Nat} {oj : Oper} (hoj : ops[j]? = some oj) (a : Act) (hw : ¬ Region.wanted oj (yielded ops a.tmps) = true) (K : Act → World → Prop) (w : World) : wpOp P ops Q j K a w ↔ K (a.put oj.dst undef) w := by
  unfold wpOp
  simp only [hoj, hw, Bool.false_eq_true, if_false]
/-- In every world that meets S the operation leaves 'v' and the world drawn from once. -/
def YieldsD (P : Program) (ops : Array Oper) (S : World → Prop) (o : Oper) (v : Value) (a : Act) : Prop :=
  Region.wanted o (yielded ops a.tmps) = true ∧ ∀ w, S w → ∃ f args, (execOp a.eval o).run P w = .ok (.enter f args) w ∧ Calls P f args w fun e w' => e = .returned v ∧ w' = w.drew
omit [LR R] in
theorem YieldsD.wpOp {S : World → Prop} {i : Nat} {o : Oper} {v : Value} {a : Act} (hi : ops[i]? = some o) (hy : YieldsD P ops S o v a) {K : Act → World → Prop} {w : World} (hS : S w) (h : K (a.put o.dst v) w.drew) : wpOp P ops Q i K a w := by
  unfold Go.wpOp
  simp only [hi, hy.1, if_true]
  obtain ⟨f, args, e1, hc⟩ := hy.2 w hS
  refine .inl ?_
  unfold Oper.wp
  rw [e1]
  exact hc.mono fun e w'' ⟨he, hw''⟩ => by subst he; subst hw''; exact h
omit [LR R] in
theorem YieldsD.put {S : World → Prop} {o oj : Oper} {v u : Value} {a : Act} (hap : o.apart ops oj = true) (hsi : ∀ cs b, o.op ≠ .select cs b) (hy : YieldsD P ops S o v a) : YieldsD P ops S o v (a.put oj.dst u) := by
  obtain ⟨h1, h2, h3⟩ := Oper.apart_spec hap
  unfold YieldsD at *
  rw [execOp_put o hsi a oj.dst u h3, wanted_put o a oj.dst u h3]
  exact hy
theorem wpAnyM_call {i : Nat} {oi : Oper} {v : Value} {w0 : World} (hi : ops[i]? = some oi) (hsel : ∀ (j : Nat) (o : Oper) cs b, ops[j]? = some o → o.op ≠ .select cs b) (n : Nat) (hR : ∀ w : World, R w w.drew) (hRa : ∀ (w : World) obj, R w (w.alloc obj)) :
    ∀ (fuel : Nat) (listed : Array Bool) (a : Act) (w : World),
      (∀ j oj, ops[j]? = some oj → j ≠ i → listed.getD j true = false → reachB md ops i n j = false → AllocLike P oj ∧ oi.apart ops oj = true ∧ j ∉ ds) →
      ListedClosed md ops listed → i ∈ Region.ready md ops listed → YieldsD P ops (R w0) oi v a → R w0 w →
      (∀ m, wpAnyM P md ops Q ds R fuel (listed.setIfInBounds i true) (a.put oi.dst v) (w.drewN m)) → wpAnyM P md ops Q ds R (fuel + 1) listed a w := by
  intro fuel
  induction fuel with
  | zero =>
    intro listed a w _ _ hr hy hS H
    rw [wpAnyM_succ]
    refine ⟨fun h => (by rw [h] at hr; cases hr), fun j hj => ?_⟩
    by_cases hji : j = i
    · subst hji
      refine hy.wpOp hi hS ⟨fun _ => hR _, ?_⟩
      exact H 1
    · have := ready_mono hj hji
      rw [(wpAnyM_zero.1 (H 0)).1] at this
      cases this
  | succ fuel ih =>
    intro listed a w hfree hc hr hy hS H
    have H1 := H 1
    rw [wpAnyM_succ]
    refine ⟨fun h => (by rw [h] at hr; cases hr), fun j hj => ?_⟩
    by_cases hji : j = i
    · subst hji
      exact hy.wpOp hi hS ⟨fun _ => hR _, H1⟩
    clear H1
    obtain ⟨hjun, oj, hoj, hall⟩ := mem_ready.1 hj
    have hiun := (mem_ready.1 hr).1
    have hnr : reachB md ops i n j = false := by
      cases hb : reachB md ops i n j with
      | false => rfl
      | true => exact absurd hj (reach_not_ready hc hb hiun)
    obtain ⟨⟨obj, hA⟩, hap, hjd⟩ := hfree j oj hoj hji hjun hnr
    obtain ⟨p1, p2, p3⟩ := Oper.apart_spec hap
    have hfree' : ∀ k ok, ops[k]? = some ok → k ≠ i → (listed.setIfInBounds j true).getD k true = false → reachB md ops i n k = false → AllocLike P ok ∧ oi.apart ops ok = true ∧ k ∉ ds := by
      intro k ok hk' hki hun hno
      refine hfree k ok hk' hki ?_ hno
      by_cases hjk : j = k
      · subst hjk; exact hjun
      · rw [getD_set_ne true hjk] at hun; exact hun
    have hgo : ∀ u w1, R w w1 → (∀ m, wpAnyM P md ops Q ds R fuel ((listed.setIfInBounds i true).setIfInBounds j true) ((a.put oi.dst v).put oj.dst u) (w1.drewN m)) → wpAnyM P md ops Q ds R (fuel + 1) (listed.setIfInBounds j true) (a.put oj.dst u) w1 := by
      intro u w1 hw1 h1
      refine ih (listed.setIfInBounds j true) (a.put oj.dst u) w1 hfree' (hc.set hj) (ready_mono hr (Ne.symm hji)) (hy.put hap (fun cs b => hsel i oi cs b hi)) (LR.trans hS hw1) fun m => ?_
      have := h1 m
      rw [Array.setIfInBounds_comm _ _ (Ne.symm hji), Act.put_comm a v u p2] at this
      exact this
    have hm := fun m => by
      exact (wpAnyM_succ.1 (H m)).2 j (ready_mono hj hji)
    by_cases hw : Region.wanted oj (yielded ops a.tmps) = true
    · rw [wpOp_alloc hoj hA a hw]
      refine ⟨fun _ => hRa _ _, hgo _ _ (hRa _ _) fun m => ?_⟩
      have h1 := hm m
      rw [wpOp_alloc hoj hA (a.put oi.dst v) (by rw [wanted_put oj a oi.dst v p1]; exact hw)] at h1
      exact h1.2
    · rw [wpOp_off hoj a hw]
      refine ⟨fun _ => LR.refl _, hgo _ _ (LR.refl _) fun m => ?_⟩
      have h1 := hm m
      rw [wpOp_off hoj (a.put oi.dst v) (by rw [wanted_put oj a oi.dst v p1]; exact hw)] at h1
      exact h1.2
/-- What may come up ahead of operation i: only new variables of type T. -/
def callB (md : Region.Mode) (ops : Array Oper) (ds : List Nat) (T : TypeId) (listed : Array Bool) (i : Nat) : Bool :=
  (Region.ready md ops listed).contains i && closedB md ops listed && (List.range ops.size).all fun j => listed.getD j true || j == i || reachB md ops i ops.size j ||
    match ops[i]?, ops[j]? with
    | some oi, some oj => (match oj.op with | .alloc t => t == T | _ => false) && oi.apart ops oj && !ds.contains j
    | _, _ => false
theorem draw_call {i : Nat} {o : Oper} {t : List Oper} {fuel : Nat} {listed listed' : Array Bool} {a : Act} {w : World} {v : Value} (T : TypeId) (ho : ops.toList.drop i = o :: t) (hb : callB md ops ds T listed i = true) (hs : Region.noSelect ops = true)
    (hal : ∀ oj : Oper, oj.op = .alloc T → AllocLike P oj) (hR : ∀ w : World, R w w.drew) (hRa : ∀ (w : World) obj, R w (w.alloc obj)) (hl : listed.setIfInBounds i true = listed') (hw : Region.wanted o (yielded ops a.tmps) = true)
    (hy : ∀ w', R w w' → ∃ f args, (execOp a.eval o).run P w' = .ok (.enter f args) w' ∧ Calls P f args w' fun e w'' => e = .returned v ∧ w'' = w'.drew)
    (H : ∀ m, wpAnyM P md ops Q ds R fuel listed' (a.put o.dst v) (w.drewN m)) : wpAnyM P md ops Q ds R (fuel + 1) listed a w := by
  subst hl
  simp only [callB, Bool.and_eq_true, List.contains_eq_mem, decide_eq_true_eq] at hb
  obtain ⟨⟨b1, b2⟩, b3⟩ := hb
  have hi := at_drop ho
  refine wpAnyM_call hi (Region.noSelect_spec hs) ops.size hR hRa fuel listed a w (fun j oj hj hji hun hno => ?_) (closed_spec b2) b1 ⟨hw, hy⟩ (LR.refl w) H
  have hlt : j < ops.size := (Array.getElem?_eq_some_iff.1 hj).1
  have h1 := List.all_eq_true.1 b3 j (List.mem_range.2 hlt)
  rw [hun, hno, hi, hj] at h1
  have hne : (j == i) = false := beq_eq_false_iff_ne.2 hji
  simp only [hne, Bool.false_or, Bool.and_eq_true, Bool.not_eq_true', List.contains_eq_mem, decide_eq_false_iff_not] at h1
  obtain ⟨⟨h2, h3⟩, h4⟩ := h1
  refine ⟨?_, h3, h4⟩
  split at h2
  · rename_i t' ht
    have : t' = T := by simpa using h2
    subst this
    exact hal oj ht
  · cases h2
end
end Go.Proofs.YtnfaeafplaeehaaGreat
end
section
set_option linter.unusedVariables false
set_option linter.unusedSimpArgs false
namespace Go.Proofs.YtnfaeafplaeehaaGreat
open Go.RowKit
/-! Two operations that make or turn memory, in whichever order. -/
section
variable {P : Program} {ops : Array Oper} {Q : Exit → Act → World → Prop} {md : Region.Mode} {ds : List Nat} {R : World → World → Prop}
theorem wpOp_of_list {i : Nat} {o : Oper} {t : List Oper} {a : Act} {w : World} (ho : ops.toList.drop i = o :: t) {K : Act → World → Prop} (h : wpList P ops (Exit.then K Q) [o] a w) : wpOp P ops Q i K a w := by
  replace ho := at_drop ho
  unfold wpOp
  rw [ho]
  unfold wpList at h
  simp only
  split
  · rename_i hw
    rw [if_pos hw] at h
    rcases h with h | ⟨h1, a0, w0, h2⟩
    · refine .inl ?_
      unfold Oper.wp at *
      generalize (execOp a.eval o).run P w = r at *
      cases r with
      | ok n w' =>
        cases n <;> simp only [Oper.upon] at h ⊢
        case value => exact h
        case skip => exact h
        case defer => exact h
        case enter =>
          refine Calls.mono h fun e w'' he => ?_
          cases e with
          | returned u => exact he
          | panicked c => exact he
          | outgrown => exact he
        case row => exact Rows.mono h fun u w'' he => he
      | halt x w' => cases x <;> simp only [Oper.upon] at h ⊢ <;> exact h
    · exact .inr ⟨h1, a0, w0, h2⟩
  · rename_i hw
    rw [if_neg hw] at h
    unfold wpList at h
    exact h
theorem draw_two {i j : Nat} {oi oj : Oper} {ti tj : List Oper} {fuel : Nat} {listed li lj : Array Bool} {a : Act} {w : World} (hi : ops.toList.drop i = oi :: ti) (hj : ops.toList.drop j = oj :: tj) (hr : (Region.ready md ops listed == [i, j]) = true)
    (hli : listed.setIfInBounds i true = li) (hlj : listed.setIfInBounds j true = lj)
    (h1 : ∀ K : Act → World → Prop, (∀ a' w', ((i ∉ ds → R w w') ∧ wpAnyM P md ops Q ds R fuel li a' w') → K a' w') → wpList P ops (Exit.then K Q) [oi] a w)
    (h2 : ∀ K : Act → World → Prop, (∀ a' w', ((j ∉ ds → R w w') ∧ wpAnyM P md ops Q ds R fuel lj a' w') → K a' w') → wpList P ops (Exit.then K Q) [oj] a w) : wpAnyM P md ops Q ds R (fuel + 1) listed a w := by
  subst hli
  subst hlj
  have hr' : Region.ready md ops listed = [i, j] := by simpa using hr
  rw [wpAnyM_succ]
  refine ⟨fun h0 => (by rw [hr'] at h0; cases h0), fun k hk => ?_⟩
  rw [hr'] at hk
  simp only [List.mem_cons, List.not_mem_nil, or_false] at hk
  rcases hk with rfl | rfl
  · exact wpOp_of_list hi (h1 _ fun _ _ h => h)
  · exact wpOp_of_list hj (h2 _ fun _ _ h => h)
end
end Go.Proofs.YtnfaeafplaeehaaGreat
end
section
set_option linter.unusedVariables false
set_option linter.unusedSimpArgs false
namespace Go.Proofs.YtnfaeafplaeehaaGreat
open Go.RowKit

def bitB (a : Int) (i : Nat) : Bool := a.toNat.testBit (31 - i)
theorem bit_and (a : Int) (i : Nat) (ha : 0 ≤ a ∧ a ≤ 4294967295) (hi : i ≤ 31) : (Go.bits .and .u32 (a / 2 ^ (31 - i)) 1 == 1) = bitB a i := by
  obtain ⟨n, rfl⟩ := Int.eq_ofNat_of_zero_le ha.1
  have h1 : ((n : Int) / 2 ^ (31 - i)) = ((n / 2 ^ (31 - i) : Nat) : Int) := by simp
  have h2 : n / 2 ^ (31 - i) ≤ n := Nat.div_le_self _ _
  rw [h1, show (1 : Int) = ((1 : Nat) : Int) from rfl, u32_and_nat _ _ (by omega) (by omega), Nat.and_one_is_mod, bitB, Int.toNat_natCast, Nat.testBit_eq_decide_div_mod_eq, Bool.eq_iff_iff]
  simp
  omega
theorem half_lt (r j : Nat) (h : r < 2 ^ (j + 1)) (hb : r.testBit j = false) : r < 2 ^ j := by
  rw [Nat.testBit_eq_decide_div_mod_eq] at hb
  have h1 : ¬ r / 2 ^ j % 2 = 1 := by simpa using hb
  have h2 : r / 2 ^ j < 2 := by
    rw [Nat.div_lt_iff_lt_mul (Nat.two_pow_pos j)]
    rw [Nat.pow_succ] at h
    omega
  have h3 : r / 2 ^ j = 0 := by generalize r / 2 ^ j = q at h1 h2; omega
  exact (Nat.div_eq_zero_iff_lt (Nat.two_pow_pos j)).1 h3
theorem half_eq (x a j : Nat) (h : x / 2 ^ (j + 1) = a / 2 ^ (j + 1)) (hb : x.testBit j = a.testBit j) : x / 2 ^ j = a / 2 ^ j := by
  rw [Nat.testBit_eq_decide_div_mod_eq, Nat.testBit_eq_decide_div_mod_eq, decide_eq_decide] at hb
  rw [Nat.pow_succ, ← Nat.div_div_eq_div_mul, ← Nat.div_div_eq_div_mul] at h
  omega
theorem half_ne (x a j n : Nat) (h : x / 2 ^ n = a / 2 ^ n) (hn : n ≤ j) : x.testBit j = a.testBit j := by
  obtain ⟨k, rfl⟩ := Nat.exists_eq_add_of_le hn
  have e : ∀ y : Nat, y.testBit (n + k) = (y / 2 ^ n).testBit k := fun y => by rw [Nat.testBit_div_two_pow, Nat.add_comm]
  rw [e, e, h]

/-- The low bits from 'i' on are noughts. -/
def lowB (a l : Int) (i : Nat) : Prop := a.toNat % 2 ^ (32 - l.toNat) < 2 ^ (32 - i)
theorem rightB_nat (a l : Int) (ha : 0 ≤ a ∧ a ≤ 4294967295) (h0 : 0 ≤ l) (h1 : l ≤ 32) : rightB a l = decide (a.toNat % 2 ^ (32 - l.toNat) = 0) := by
  obtain ⟨n, rfl⟩ := Int.eq_ofNat_of_zero_le ha.1
  obtain ⟨m, rfl⟩ := Int.eq_ofNat_of_zero_le h0
  have e : (32 - (m : Int)).toNat = 32 - m := by omega
  have e2 : ((n : Int) % 2 ^ (32 - m)) = ((n % 2 ^ (32 - m) : Nat) : Int) := by simp
  unfold rightB
  rw [e, e2, Int.toNat_natCast, Int.toNat_natCast, Bool.eq_iff_iff]
  simp
  omega
theorem low_start (a l : Int) : lowB a l l.toNat := Nat.mod_lt _ (Nat.two_pow_pos _)
theorem low_bit (a l : Int) (i : Nat) (hi : i ≤ 31) (hl : l.toNat ≤ i) : (a.toNat % 2 ^ (32 - l.toNat)).testBit (31 - i) = bitB a i := by
  rw [Nat.testBit_mod_two_pow, bitB]
  simp
  intro; omega
theorem low_step (a l : Int) (i : Nat) (hi : i ≤ 31) (hl : l.toNat ≤ i) (h : lowB a l i) (hb : bitB a i = false) : lowB a l (i + 1) := by
  have := half_lt _ (31 - i) (by have : 31 - i + 1 = 32 - i := by omega
                                 rw [this]; exact h) ((low_bit a l i hi hl).trans hb)
  unfold lowB
  rw [show 32 - (i + 1) = 31 - i by omega]
  exact this
theorem low_no (a l : Int) (ha : 0 ≤ a ∧ a ≤ 4294967295) (h0 : 0 ≤ l) (h1 : l ≤ 32) (i : Nat) (hi : i ≤ 31) (hl : l.toNat ≤ i) (hb : bitB a i = true) : rightB a l = false := by
  rw [rightB_nat a l ha h0 h1, decide_eq_false_iff_not]
  intro h
  have := low_bit a l i hi hl
  rw [h, hb] at this
  simp at this
theorem low_end (a l : Int) (ha : 0 ≤ a ∧ a ≤ 4294967295) (h0 : 0 ≤ l) (h1 : l ≤ 32) (h : lowB a l 32) : rightB a l = true := by
  rw [rightB_nat a l ha h0 h1, decide_eq_true_eq]
  unfold lowB at h
  simpa using h

theorem law02_bit (a i : Int) (w : World) (h0 : 0 ≤ i) (h1 : i ≤ 31) (ha : 0 ≤ a ∧ a ≤ 4294967295) : Calls Tryz.prog 47 #[.int .u32 a, .int .i64 i] w
    fun e w' => e = .returned (.bool (bitB a i.toNat)) ∧ w' = w := by
  have hb := bit_and a i.toNat ha (by omega)
  have h2 : 0 ≤ 31 - i := by omega
  have h3 : 31 - i ≤ 31 := by omega
  have e1 : (31 - i).toNat = 31 - i.toNat := by omega
  have HB := Lib.hid hb
  have E1 := Lib.hid e1
  clear hb e1
  go_enter Tryz.func47, Tryz.ntmps47
  go_wp2
  go_ret
  exact ⟨by rw [← HB.out, ← E1.out]; rfl, rfl⟩

theorem law02_Right (a l : Int) (w : World) (ha : 0 ≤ a ∧ a ≤ 4294967295) : Calls Tryz.prog 27 #[.agg #[.int .u32 a, .int .i64 l]] w
    fun e w' => e = .returned (.bool (rightB a l)) ∧ Below w.heap.size w w' := by
  by_cases h0 : 0 ≤ l
  · by_cases h1 : l ≤ 32
    · have h0' : ¬ l < 0 := by omega
      have h1' : ¬ 32 < l := by omega
      go_enter Tryz.func27, Tryz.ntmps27
      go_wp2
      go_loop [3] (fun i => ∃ k : Nat, l.toNat ≤ k ∧ k ≤ 32 ∧ i = .int .i64 k ∧ Hid (lowB a l k)) (fun i => 32 - (intOf i).toNat)
      case atStart => exact ⟨l.toNat, Nat.le_refl _, by omega, by congr 1; omega, low_start a l⟩
      case round =>
        obtain ⟨k, hk, hk2, rfl, hlow⟩ := hrel
        by_cases hlt : k < 32
        · have hk3 : (k : Int) ≤ 31 := by omega
          have hk4 : (0 : Int) ≤ k := by omega
          go_wp2_with fail
          refine (law02_bit _ _ _ hk4 hk3 ha).mono ?_
          rintro e w' ⟨rfl, rfl⟩
          rw [Int.toNat_natCast]
          cases hb : bitB a k with
          | true =>
            have HR := Lib.hid (low_no a l ha h0 h1 k (by omega) hk hb)
            clear hb
            go_wp2
            go_ret
            exact ⟨by rw [HR.out]; rfl, (Below.refl _ _).alloc (Nat.le_refl _) _⟩
          | false =>
            have HR := Lib.hid (low_step a l k (by omega) hk hlow.out hb)
            clear hb
            go_wp2
            go_round
            case rel => exact ⟨k + 1, by omega, by omega, by go_num, HR.out⟩
            case measure => simp [intOf]; omega
        · obtain rfl : k = 32 := by omega
          have HR := Lib.hid (low_end a l ha h0 h1 hlow.out)
          go_wp2
          go_ret
          exact ⟨by rw [HR.out]; rfl, (Below.refl _ _).alloc (Nat.le_refl _) _⟩
    · have HR := Lib.hid (show rightB a l = false by simp [rightB, h1])
      have h0' : ¬ l < 0 := by omega
      have h1' : 32 < l := by omega
      go_enter Tryz.func27, Tryz.ntmps27
      go_wp2
      go_ret
      exact ⟨by rw [HR.out]; rfl, (Below.refl _ _).alloc (Nat.le_refl _) _⟩
  · have HR := Lib.hid (show rightB a l = false by simp [rightB, h0])
    have h0' : l < 0 := by omega
    go_enter Tryz.func27, Tryz.ntmps27
    go_wp2
    go_ret
    exact ⟨by rw [HR.out]; rfl, (Below.refl _ _).alloc (Nat.le_refl _) _⟩

/-- The first 'i' bits are the same. -/
def sameB (a x : Int) (i : Nat) : Prop := x.toNat / 2 ^ (32 - i) = a.toNat / 2 ^ (32 - i)
theorem same_start (a x : Int) (ha : 0 ≤ a ∧ a ≤ 4294967295) (hx : 0 ≤ x ∧ x ≤ 4294967295) : sameB a x 0 := by
  unfold sameB
  rw [Nat.div_eq_of_lt (by omega), Nat.div_eq_of_lt (by omega)]
theorem same_step (a x : Int) (i : Nat) (hi : i ≤ 31) (h : sameB a x i) (hb : bitB x i = bitB a i) : sameB a x (i + 1) := by
  unfold sameB at *
  rw [show 32 - (i + 1) = 31 - i by omega]
  exact half_eq _ _ _ (by rw [show 31 - i + 1 = 32 - i by omega]; exact h) hb
theorem in_iff (a l x : Int) (ha : 0 ≤ a ∧ a ≤ 4294967295) (hx : 0 ≤ x ∧ x ≤ 4294967295) (h0 : 0 ≤ l) (h1 : l ≤ 32) (hr : rightB a l = true) : inB a l x = true ↔ sameB a x l.toNat := by
  rw [rightB_nat a l ha h0 h1, decide_eq_true_eq] at hr
  obtain ⟨n, rfl⟩ := Int.eq_ofNat_of_zero_le ha.1
  obtain ⟨y, rfl⟩ := Int.eq_ofNat_of_zero_le hx.1
  obtain ⟨m, rfl⟩ := Int.eq_ofNat_of_zero_le h0
  have e : (32 - (m : Int)).toNat = 32 - m := by omega
  simp only [inB, sameB, decide_eq_true_eq, e, Int.toNat_natCast] at *
  have e2 : ((y : Int) % 2 ^ (32 - m)) = ((y % 2 ^ (32 - m) : Nat) : Int) := by simp
  rw [e2]
  have d1 := Nat.div_add_mod n (2 ^ (32 - m))
  have d2 := Nat.div_add_mod y (2 ^ (32 - m))
  have hp := Nat.two_pow_pos (32 - m)
  rw [hr] at d1
  generalize 2 ^ (32 - m) = p at *
  constructor
  · intro h
    have : p * (y / p) = p * (n / p) := by omega
    exact Nat.eq_of_mul_eq_mul_left hp this
  · intro h
    rw [h] at d2
    omega
theorem has_end (a l x : Int) (ha : 0 ≤ a ∧ a ≤ 4294967295) (hx : 0 ≤ x ∧ x ≤ 4294967295) (h0 : 0 ≤ l) (h1 : l ≤ 32) (hr : rightB a l = true) (h : sameB a x l.toNat) : hasB a l x = true := by
  rw [hasB, hr, (in_iff a l x ha hx h0 h1 hr).2 h]; rfl
theorem has_no (a l x : Int) (ha : 0 ≤ a ∧ a ≤ 4294967295) (hx : 0 ≤ x ∧ x ≤ 4294967295) (h0 : 0 ≤ l) (h1 : l ≤ 32) (hr : rightB a l = true) (i : Nat) (hi : i < l.toNat) (h : bitB x i ≠ bitB a i) : hasB a l x = false := by
  cases hh : hasB a l x with
  | false => rfl
  | true =>
    rw [hasB, hr, Bool.true_and, in_iff a l x ha hx h0 h1 hr] at hh
    exact absurd (half_ne _ _ (31 - i) (32 - l.toNat) hh (by omega)) h
end Go.Proofs.YtnfaeafplaeehaaGreat
end
section
set_option linter.unusedVariables false
set_option linter.unusedSimpArgs false
namespace Go.Proofs.YtnfaeafplaeehaaGreat
open Go.RowKit
def lessB (a l c m : Int) : Bool := decide (a < c ∨ a = c ∧ l < m)
theorem law02_Less (a l c m : Int) (w : World) : Calls Tryz.prog 36 #[.agg #[.int .u32 a, .int .i64 l], .agg #[.int .u32 c, .int .i64 m]] w fun e w' => e = .returned (.bool (lessB a l c m)) ∧ Below w.heap.size w w' := by
  have hb0 := ((Below.refl w.heap.size w).alloc (Nat.le_refl _) (.cells #[.int .u32 a, .int .i64 l] 36)).alloc (by simp) (.cells #[.int .u32 c, .int .i64 m] 36)
  by_cases h : a < c
  · have HL := Lib.hid (show lessB a l c m = true by simp [lessB, h])
    go_enter Tryz.func36, Tryz.ntmps36
    go_wp2
    go_ret
    exact ⟨by rw [HL.out]; rfl, hb0⟩
  · have h' : decide (a < c) = false := decide_eq_false h
    by_cases h2 : a = c
    · have h2' : (a == c) = true := by simpa using h2
      have HL := Lib.hid (show lessB a l c m = decide (l < m) by simp [lessB, h2])
      clear h2 h
      go_enter Tryz.func36, Tryz.ntmps36
      go_wp2
      go_ret
      exact ⟨by rw [HL.out]; rfl, hb0⟩
    · have h2' : (a == c) = false := by simpa using h2
      have HL := Lib.hid (show lessB a l c m = false by simp [lessB, h, h2])
      clear h2 h
      go_enter Tryz.func36, Tryz.ntmps36
      go_wp2
      go_ret
      exact ⟨by rw [HL.out]; rfl, hb0⟩
end Go.Proofs.YtnfaeafplaeehaaGreat
end
section
set_option linter.unusedVariables false
set_option linter.unusedSimpArgs false
namespace Go.Proofs.YtnfaeafplaeehaaGreat
open Go.RowKit

set_option maxHeartbeats 4000000 in
theorem law05_Right (r : Rec) (w : World) (ho : r.ok) : Calls Tryz.prog 8 #[r.val] w fun e w' => e = .returned (.bool (recRightB r)) ∧ Below w.heap.size w w' := by
  obtain ⟨kind, gen, lsn, rid, a, l, on, rs, rm⟩ := r
  have kR := Blk.new w 41 (Rec.arr ⟨kind, gen, lsn, rid, a, l, on, rs, rm⟩)
  have hb0 : Below w.heap.size w (w.alloc (.cells (Rec.arr ⟨kind, gen, lsn, rid, a, l, on, rs, rm⟩) 41)) := (Below.refl _ _).alloc (Nat.le_refl _) _
  simp only [Rec.arr, Rec.val] at kR hb0 ⊢
  cases hr : rightB a l with
  | false =>
    have HF := Lib.hid (show recRightB ⟨kind, gen, lsn, rid, a, l, on, rs, rm⟩ = false by simp [recRightB, hr])
    go_enter Tryz.func8, Tryz.ntmps8
    go_wp2_with fail
    refine (law02_Right _ _ _ ho.2.2.2.2.1).mono ?_
    rintro e w1 ⟨rfl, hb1⟩
    rw [hr]
    have hb := below_step hb0 hb0.size hb1
    replace kR := kR.below' hb1
    clear hb1
    have r0 := kR.cell 0
    have r3 := kR.cell 3
    have r4 := kR.cell 4
    have r5 := kR.cell 5
    have r6 := kR.cell 6
    have r7 := kR.cell 7
    have r8 := kR.cell 8
    simp only [List.getElem?_toArray, List.getElem?_cons_zero, List.getElem?_cons_succ] at r0 r3 r4 r5 r6 r7 r8
    go_wp2
    go_ret
    exact ⟨by rw [HF.out]; rfl, hb⟩
  | true =>
    go_enter Tryz.func8, Tryz.ntmps8
    go_wp2_with fail
    refine (law02_Right _ _ _ ho.2.2.2.2.1).mono ?_
    rintro e w1 ⟨rfl, hb1⟩
    rw [hr]
    have hb := below_step hb0 hb0.size hb1
    replace kR := kR.below' hb1
    clear hb1
    have r0 := kR.cell 0
    have r3 := kR.cell 3
    have r4 := kR.cell 4
    have r5 := kR.cell 5
    have r6 := kR.cell 6
    have r7 := kR.cell 7
    have r8 := kR.cell 8
    simp only [List.getElem?_toArray, List.getElem?_cons_zero, List.getElem?_cons_succ] at r0 r3 r4 r5 r6 r7 r8
    go_wp2
    all_goals
      go_ret
      refine ⟨?_, hb⟩
      clear hb hb0 ho r0 r3 r4 r5 r6 r7 r8 kR
      try simp_all [recRightB]
    · intro h
      exfalso
      omega
    all_goals
      intros
      exfalso
      omega
end Go.Proofs.YtnfaeafplaeehaaGreat
end
section
set_option linter.unusedVariables false
set_option linter.unusedSimpArgs false
namespace Go.Proofs.YtnfaeafplaeehaaGreat
open Go.RowKit
theorem law05_four (n : Int) (w : World) (h : 0 ≤ n ∧ n ≤ 4294967295) : Calls Tryz.prog 41 #[.int .u32 n] w
    fun e w' => e = .returned (.slice (some ⟨w.heap.size, 0, none⟩) 4 4) ∧ w' = w.alloc (.cells (u8s (four n)).toArray 5) := by
  obtain ⟨h0, h1⟩ := h
  have E := Lib.hid (show (u8s (four n)).toArray = #[.int .u8 (n / 16777216), .int .u8 (n / 65536 % 256), .int .u8 (n / 256 % 256), .int .u8 (n % 256)] by
    simp only [u8s, four, List.map_cons, List.map_nil]
    rw [show n / 16777216 % 256 = n / 16777216 by omega])
  go_enter Tryz.func41, Tryz.ntmps41
  go_wp2
  go_ret
  refine ⟨rfl, ?_⟩
  rw [E.out]
end Go.Proofs.YtnfaeafplaeehaaGreat
end
