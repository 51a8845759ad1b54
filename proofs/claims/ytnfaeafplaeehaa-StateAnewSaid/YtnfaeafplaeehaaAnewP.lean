import Derived.Test.YtnfaeafplaeehaaApplies
set_option linter.unusedVariables false
set_option linter.unusedSimpArgs false
namespace Go.Proofs.Ytnfaeafplaeehaa
open Go.RowKit
/-! StateAnew's plain law: a state's records, in whatever order, make its lookups anew. -/
def ownRec (e : Pfx × Bool) : Rec := ⟨2, 0, 0, 0, e.1.a, e.1.l, e.2, 0, 0⟩
def leaseRec (x : Int) : Rec := ⟨3, 0, 0, 0, 0, 0, false, x, 0⟩
def flRec (e : Key × Dst) : Rec := ⟨4, 0, 0, e.1.id, e.1.a, e.1.l, false, e.2.1, e.2.2⟩
def ownOf (r : Rec) : Option (Pfx × Bool) := if r.kind = 2 then some (⟨r.a, r.l⟩, r.on) else none
def leaseOf (r : Rec) : Option Int := if r.kind = 3 then some r.s else none
def flOf (r : Rec) : Option (Key × Dst) := if r.kind = 4 then some (⟨r.a, r.l, r.id⟩, (r.s, r.m)) else none
theorem updM_new {α β : Type} [DecidableEq α] (m : List (α × β)) (k : α) (v : β) (h : k ∉ m.map (·.1)) : updM m k v = m ++ [(k, v)] := by
  induction m with
  | nil => rfl
  | cons e m ih =>
    simp only [List.map_cons, List.mem_cons, not_or] at h
    unfold updM
    rw [if_neg h.1, ih h.2]
    rfl
theorem snoc_ind {α : Type} {p : List α → Prop} (h0 : p []) (h1 : ∀ l x, p l → p (l ++ [x])) (l : List α) : p l := by
  rw [← List.reverse_reverse l]
  induction l.reverse with
  | nil => exact h0
  | cons x l ih => rw [List.reverse_cons]; exact h1 _ _ ih
/-- What the records make of nothing, if no key comes twice. -/
theorem run_fresh (id : Int) (L : List Rec) (h1 : ((L.filterMap ownOf).map (·.1)).Nodup) (h2 : ((L.filterMap flOf).map (·.1)).Nodup) :
    St.run ⟨id, 0, [], []⟩ L = ⟨id, (L.filterMap leaseOf).foldl max 0, L.filterMap ownOf, L.filterMap flOf⟩ := by
  revert h1 h2
  refine snoc_ind (p := fun L => ((L.filterMap ownOf).map (·.1)).Nodup → ((L.filterMap flOf).map (·.1)).Nodup → St.run ⟨id, 0, [], []⟩ L = ⟨id, (L.filterMap leaseOf).foldl max 0, L.filterMap ownOf, L.filterMap flOf⟩) ?_ ?_ L
  · intro _ _
    rfl
  · intro L r ih h1 h2
    rw [List.filterMap_append, List.map_append] at h1 h2
    have ih := ih (List.nodup_append.1 h1).1 (List.nodup_append.1 h2).1
    have hr : St.run ⟨id, 0, [], []⟩ (L ++ [r]) = (St.run ⟨id, 0, [], []⟩ L).apply r := by simp [St.run]
    rw [hr, ih, List.filterMap_append, List.filterMap_append, List.filterMap_append]
    unfold St.apply
    by_cases k2 : r.kind = 2
    · rw [if_pos k2]
      have e1 : [r].filterMap ownOf = [(⟨r.a, r.l⟩, r.on)] := by simp [ownOf, k2]
      have e2 : [r].filterMap leaseOf = [] := by simp [leaseOf, k2]
      have e3 : [r].filterMap flOf = [] := by simp [flOf, k2]
      rw [e1, e2, e3]
      rw [e1] at h1
      simp only [List.append_nil]
      rw [updM_new _ _ _ (fun hm => by
        have := (List.nodup_append.1 h1).2.2 _ hm
        simp at this)]
    · rw [if_neg k2]
      by_cases k3 : r.kind = 3
      · rw [if_pos k3]
        have e1 : [r].filterMap ownOf = [] := by simp [ownOf, k3]
        have e2 : [r].filterMap leaseOf = [r.s] := by simp [leaseOf, k3]
        have e3 : [r].filterMap flOf = [] := by simp [flOf, k3]
        rw [e1, e2, e3]
        simp only [List.append_nil, List.foldl_append, List.foldl_cons, List.foldl_nil]
        congr 1
        omega
      · rw [if_neg k3]
        have e1 : [r].filterMap ownOf = [] := by simp [ownOf, k2]
        have e2 : [r].filterMap leaseOf = [] := by simp [leaseOf, k3]
        by_cases k4 : r.kind = 4
        · rw [if_pos k4]
          have e3 : [r].filterMap flOf = [(⟨r.a, r.l, r.id⟩, (r.s, r.m))] := by simp [flOf, k4]
          rw [e1, e2, e3]
          rw [e3] at h2
          simp only [List.append_nil]
          have hn : (⟨r.a, r.l, r.id⟩ : Key) ∉ (L.filterMap flOf).map (·.1) := fun hm => by
            have := (List.nodup_append.1 h2).2.2 _ hm
            simp at this
          unfold noteFl
          rw [getM_none _ _ hn]
          simp only
          rw [updM_new _ _ _ hn]
        · rw [if_neg k4]
          have e3 : [r].filterMap flOf = [] := by simp [flOf, k4]
          rw [e1, e2, e3]
          simp
theorem getM_iff {α β : Type} [DecidableEq α] (k : α) (v : β) : ∀ (l : List (α × β)), (l.map (·.1)).Nodup → (getM l k = some v ↔ (k, v) ∈ l) := by
  intro l hl
  induction l with
  | nil => simp [getM]
  | cons e l ih =>
    simp only [List.map_cons, List.nodup_cons] at hl
    unfold getM at *
    by_cases he : k = e.1
    · rw [List.find?_cons_of_pos (by simpa using he)]
      simp only [Option.map_some, Option.some.injEq, List.mem_cons]
      constructor
      · intro hv
        exact .inl (by rw [he, ← hv])
      · rintro (hv | hv)
        · rw [← hv]
        · exact absurd (List.mem_map.2 ⟨_, hv, he⟩) hl.1
    · rw [List.find?_cons_of_neg (by simpa using he), ih hl.2]
      simp only [List.mem_cons]
      constructor
      · exact .inr
      · rintro (hv | hv)
        · exact absurd (congrArg Prod.fst hv) he
        · exact hv
theorem getM_perm {α β : Type} [DecidableEq α] {m m' : List (α × β)} (h : m.Perm m') (hn : (m.map (·.1)).Nodup) (k : α) : getM m k = getM m' k := by
  have hn' : (m'.map (·.1)).Nodup := (h.map _).nodup_iff.1 hn
  refine Option.ext fun v => ?_
  rw [getM_iff k v m hn, getM_iff k v m' hn', h.mem_iff]
/-- A map's keys in whatever order, each with what lies there: the map. -/
theorem keys_perm {α β : Type} [DecidableEq α] (m : List (α × β)) (d : β) (ss : List α) (hn : (m.map (·.1)).Nodup) (h : ss.Perm (m.map (·.1))) : (ss.map fun x => (x, (getM m x).getD d)).Perm m := by
  refine (h.map _).trans ?_
  rw [List.map_map]
  have : m.map ((fun x => (x, (getM m x).getD d)) ∘ (·.1)) = m := by
    refine (List.map_congr_left (g := id) fun e he => ?_).trans (List.map_id _)
    simp only [Function.comp_apply, id_eq]
    rw [(getM_iff e.1 e.2 m hn).2 he]
    rfl
  rw [this]
theorem updM_mem {α β : Type} [DecidableEq α] (k : α) (v : β) (e : α × β) : ∀ m : List (α × β), e ∈ updM m k v → e = (k, v) ∨ e ∈ m
  | [], h => by simpa [updM] using h
  | x :: m, h => by
    unfold updM at h
    split at h
    · rcases List.mem_cons.1 h with h | h
      · exact .inl h
      · exact .inr (List.mem_cons_of_mem _ h)
    · rcases List.mem_cons.1 h with h | h
      · exact .inr (h ▸ List.mem_cons_self ..)
      · rcases updM_mem k v e m h with h | h
        · exact .inl h
        · exact .inr (List.mem_cons_of_mem _ h)
def recsOf (σ : St) (ss : List Pfx) (ks : List Key) : List Rec :=
  (ss.map fun x => ownRec (x, (getM σ.own x).getD false)) ++ (if 0 < σ.lease then [leaseRec σ.lease] else []) ++ (ks.map fun x => flRec (x, (getM σ.fl x).getD (0, 0)))
theorem recs_own (σ : St) (ss : List Pfx) (ks : List Key) : (recsOf σ ss ks).filterMap ownOf = ss.map (fun x => (x, (getM σ.own x).getD false)) ∧ (recsOf σ ss ks).filterMap leaseOf = (if 0 < σ.lease then [σ.lease] else []) ∧ (recsOf σ ss ks).filterMap flOf = ks.map (fun x => (x, (getM σ.fl x).getD (0, 0))) := by
  unfold recsOf
  simp only [List.filterMap_append, List.filterMap_map]
  have a1 : ss.filterMap (ownOf ∘ fun x => ownRec (x, (getM σ.own x).getD false)) = ss.map (fun x => (x, (getM σ.own x).getD false)) := by
    rw [← List.filterMap_eq_map]; rfl
  have a2 : ss.filterMap (leaseOf ∘ fun x => ownRec (x, (getM σ.own x).getD false)) = [] := by
    refine List.filterMap_eq_nil_iff.2 fun x _ => rfl
  have a3 : ss.filterMap (flOf ∘ fun x => ownRec (x, (getM σ.own x).getD false)) = [] := by
    refine List.filterMap_eq_nil_iff.2 fun x _ => rfl
  have b1 : ks.filterMap (ownOf ∘ fun x => flRec (x, (getM σ.fl x).getD (0, 0))) = [] := by
    refine List.filterMap_eq_nil_iff.2 fun x _ => rfl
  have b2 : ks.filterMap (leaseOf ∘ fun x => flRec (x, (getM σ.fl x).getD (0, 0))) = [] := by
    refine List.filterMap_eq_nil_iff.2 fun x _ => rfl
  have b3 : ks.filterMap (flOf ∘ fun x => flRec (x, (getM σ.fl x).getD (0, 0))) = ks.map (fun x => (x, (getM σ.fl x).getD (0, 0))) := by
    rw [← List.filterMap_eq_map]; rfl
  rw [a1, a2, a3, b1, b2, b3]
  split <;> simp [ownOf, leaseOf, flOf, leaseRec]
/-- The records, in whatever order, make the same state. -/
theorem anew (σ : St) (ss : List Pfx) (ks : List Key) (L : List Rec) (h1 : (σ.own.map (·.1)).Nodup) (h2 : (σ.fl.map (·.1)).Nodup) (hl : 0 ≤ σ.lease) (hs : ss.Perm (σ.own.map (·.1))) (hk : ks.Perm (σ.fl.map (·.1))) (hL : L.Perm (recsOf σ ss ks)) :
    ∃ own fl, St.run ⟨σ.id, 0, [], []⟩ L = ⟨σ.id, σ.lease, own, fl⟩ ∧ (own.map (·.1)).Nodup ∧ (fl.map (·.1)).Nodup ∧ own.length = σ.own.length ∧ fl.length = σ.fl.length ∧ (∀ k, getM σ.own k = getM own k) ∧ ∀ k, getM σ.fl k = getM fl k := by
  obtain ⟨r1, r2, r3⟩ := recs_own σ ss ks
  have p1 : (L.filterMap ownOf).Perm σ.own := ((hL.filterMap _).trans (by rw [r1])).trans (keys_perm σ.own false ss h1 hs)
  have p3 : (L.filterMap flOf).Perm σ.fl := ((hL.filterMap _).trans (by rw [r3])).trans (keys_perm σ.fl (0, 0) ks h2 hk)
  have p2 : (L.filterMap leaseOf).foldl max 0 = σ.lease := by
    have h := hL.filterMap leaseOf
    rw [r2] at h
    by_cases h0 : 0 < σ.lease
    · rw [if_pos h0] at h
      rw [List.perm_singleton.1 h]
      simp only [List.foldl_cons, List.foldl_nil]
      omega
    · rw [if_neg h0] at h
      rw [List.perm_nil.1 h]
      simp only [List.foldl_nil]
      omega
  have n1 : ((L.filterMap ownOf).map (·.1)).Nodup := (p1.map _).nodup_iff.2 h1
  have n3 : ((L.filterMap flOf).map (·.1)).Nodup := (p3.map _).nodup_iff.2 h2
  refine ⟨L.filterMap ownOf, L.filterMap flOf, ?_, n1, n3, p1.length_eq, p3.length_eq, fun k => (getM_perm p1 n1 k).symm, fun k => (getM_perm p3 n3 k).symm⟩
  rw [run_fresh _ _ n1 n3, p2]
/-- Each of its records is right. -/
structure Nice (σ : St) : Prop where
  o : ∀ e ∈ σ.own, recRightB (ownRec e) = true ∧ (ownRec e).ok
  f : ∀ e ∈ σ.fl, recRightB (flRec e) = true ∧ (flRec e).ok
  l : 0 ≤ σ.lease
  m : 0 < σ.lease → recRightB (leaseRec σ.lease) = true ∧ (leaseRec σ.lease).ok
theorem nice_apply (σ : St) (r : Rec) (h : Nice σ) (hr : recRightB r = true) (ho : r.ok) : Nice (σ.apply r) := by
  obtain ⟨h1, h2, h3, h4⟩ := h
  obtain ⟨kind, gen, lsn, rid, a, l, on, s, m⟩ := r
  unfold St.apply
  by_cases k2 : kind = 2
  · subst k2
    rw [if_pos rfl]
    refine ⟨fun e he => ?_, h2, h3, h4⟩
    rcases updM_mem _ _ e _ he with rfl | he
    · simp only [recRightB, Rec.ok, ownRec] at hr ho ⊢
      simp at hr ho ⊢
      exact ⟨hr.1.1.1, by omega⟩
    · exact h1 e he
  by_cases k3 : kind = 3
  · subst k3
    rw [if_neg (by simp), if_pos rfl]
    simp only
    split
    · simp only [recRightB, Rec.ok] at hr ho
      simp at hr ho
      refine ⟨h1, h2, by simp; omega, fun _ => ?_⟩
      simp only [recRightB, Rec.ok, leaseRec]
      simp
      obtain ⟨⟨⟨hrt, hs⟩, hm⟩, ⟨⟨-, e1, e2⟩, -⟩, -⟩ := hr
      subst e1 e2
      exact ⟨⟨hrt, by omega⟩, by omega⟩
    · exact ⟨h1, h2, h3, h4⟩
  by_cases k4 : kind = 4
  · subst k4
    rw [if_neg (by simp), if_neg (by simp), if_pos rfl]
    have hnew : recRightB (flRec (⟨a, l, rid⟩, (s, m))) = true ∧ (flRec (⟨a, l, rid⟩, (s, m))).ok := by
      simp only [recRightB, Rec.ok, flRec] at hr ho ⊢
      simp at hr ho ⊢
      exact ⟨⟨hr.1, hr.2.1⟩, by omega⟩
    have hmem : ∀ e ∈ updM σ.fl (⟨a, l, rid⟩ : Key) (s, m), recRightB (flRec e) = true ∧ (flRec e).ok := fun e he => by
      rcases updM_mem _ _ e _ he with rfl | he
      · exact hnew
      · exact h2 e he
    unfold noteFl
    split
    · exact ⟨h1, hmem, h3, h4⟩
    · split
      · exact ⟨h1, hmem, h3, h4⟩
      · exact ⟨h1, h2, h3, h4⟩
  · rw [if_neg k2, if_neg k3, if_neg k4]
    exact ⟨h1, h2, h3, h4⟩
theorem nice_run (id : Int) (l : List Rec) (h : fewB l = true) (ho : RecsOk l) (k : Nat) (hk : k ≤ l.length) : Nice (St.run ⟨id, 0, [], []⟩ (l.take k)) := by
  unfold fewB at h
  simp only [Bool.and_eq_true, List.all_eq_true, decide_eq_true_eq] at h
  induction k with
  | zero => exact ⟨by simp [St.run], by simp [St.run], by simp [St.run], by simp [St.run]⟩
  | succ k ih =>
    rw [run_take _ _ _ hk]
    exact nice_apply _ _ (ih (by omega)) (h.1 _ (List.getElem_mem _)) (ho _ (List.getElem_mem _))
theorem rot_get {α : Type} (R : List α) (c i : Nat) (hc : c < R.length) (hi : i < R.length) : (R.drop c ++ R.take c)[i]'(by simp; omega) = R[(i + c) % R.length]'(Nat.mod_lt _ (by omega)) := by
  by_cases h : i < R.length - c
  · rw [List.getElem_append_left (by simpa using h), List.getElem_drop]
    congr 1
    rw [Nat.mod_eq_of_lt (by omega)]
    omega
  · rw [List.getElem_append_right (by simp; omega), List.getElem_take]
    congr 1
    rw [List.length_drop, Nat.mod_eq_sub_mod (by omega), Nat.mod_eq_of_lt (by omega)]
    omega
theorem rot_perm {α : Type} (R : List α) (c : Nat) : (R.drop c ++ R.take c).Perm R := by
  refine List.perm_append_comm.trans ?_
  rw [List.take_append_drop]
end Go.Proofs.Ytnfaeafplaeehaa
