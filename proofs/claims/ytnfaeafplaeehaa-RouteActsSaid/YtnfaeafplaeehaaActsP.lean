import Derived.Test.YtnfaeafplaeehaaActs1
set_option linter.unusedVariables false
set_option linter.unusedSimpArgs false
namespace Go.Proofs.Ytnfaeafplaeehaa
open Go.RowKit
/-! RouteActs, plain: what an act does to the ways; what was seen. -/
structure Act9 where
  k : Int
  a : Int
  l : Int
  r : Rt
  x : Int
def Act9.cells (t : Act9) : List Value := [.int .i64 t.k, .int .u32 t.a, .int .i64 t.l, .int .i64 t.r.n, .int .u32 t.r.id, .int .u32 t.r.s, .int .u16 t.r.m, .int .i64 t.r.x, .int .i64 t.x]
def Act9.key (t : Act9) : RKey := ⟨t.a, t.l, t.r.n⟩
def Act9.ok (t : Act9) : Prop := 0 ≤ t.r.m ∧ t.r.m ≤ 65535
/-- The ways so far: each by a key that an act has, each once. -/
structure WaysOk (acts : List Act9) (m : List (RKey × Rt)) (n : Nat) : Prop where
  nd : (m.map (·.1)).Nodup
  key : ∀ e ∈ m, ∃ b ∈ acts, e.1 = b.key
  met : ∀ e ∈ m, 0 ≤ e.2.m ∧ e.2.m ≤ 65535
  len : m.length ≤ n
theorem WaysOk.nil (acts : List Act9) : WaysOk acts [] 0 := ⟨List.nodup_nil, fun _ h => by simp at h, fun _ h => by simp at h, Nat.le_refl _⟩
theorem WaysOk.filter {acts : List Act9} {m : List (RKey × Rt)} {n : Nat} (h : WaysOk acts m n) (p : RKey × Rt → Bool) : WaysOk acts (m.filter p) (n + 1) :=
  ⟨nodup_filter m p h.nd, fun e he => h.key e (List.mem_filter.1 he).1, fun e he => h.met e (List.mem_filter.1 he).1, Nat.le_succ_of_le (Nat.le_trans (List.length_filter_le _ _) h.len)⟩
theorem WaysOk.del {acts : List Act9} {m : List (RKey × Rt)} {n : Nat} (h : WaysOk acts m n) (k : RKey) : WaysOk acts (delM m k) (n + 1) := by
  rw [delM_filter k m h.nd]
  exact h.filter _
theorem WaysOk.upd {acts : List Act9} {m : List (RKey × Rt)} {n : Nat} (h : WaysOk acts m n) (b : Act9) (hb : b ∈ acts) (ho : b.ok) : WaysOk acts (updM m b.key b.r) (n + 1) :=
  ⟨nodup_updM _ _ m h.nd, fun e he => by
    rcases updM_keys b.key b.r m e he with rfl | he
    · exact ⟨b, hb, rfl⟩
    · exact h.key e he, fun e he => by
    rcases updM_keys b.key b.r m e he with rfl | he
    · exact ho
    · exact h.met e he, Nat.le_trans (updM_len _ _ m) (Nat.succ_le_succ h.len)⟩
def dropL (m : List (RKey × Rt)) (n : Int) (acts : List Act9) : List (RKey × Rt) := acts.foldl (fun m b => delM m ⟨b.a, b.l, n⟩) m
theorem dropL_snoc (m : List (RKey × Rt)) (n : Int) (acts : List Act9) (j : Nat) (h : j < acts.length) : dropL m n (acts.take (j + 1)) = delM (dropL m n (acts.take j)) ⟨acts[j].a, acts[j].l, n⟩ := by
  unfold dropL
  rw [List.take_succ_eq_append_getElem h, List.foldl_append]
  rfl
theorem dropL_filter (n : Int) : ∀ (acts : List Act9) (m : List (RKey × Rt)), (m.map (·.1)).Nodup → dropL m n acts = m.filter fun x => !(acts.any fun b => decide (x.1 = ⟨b.a, b.l, n⟩))
  | [], m, _ => by
    unfold dropL
    rw [List.foldl_nil]
    exact (List.filter_eq_self.2 fun _ _ => by simp).symm
  | b :: acts, m, hn => by
    have ih := dropL_filter n acts (delM m ⟨b.a, b.l, n⟩) (nodup_delM m _ hn)
    unfold dropL at *
    rw [List.foldl_cons, ih, delM_filter _ m hn, List.filter_filter]
    refine List.filter_congr fun x _ => ?_
    simp only [List.any_cons, Bool.not_or, decide_not, Bool.and_comm]
theorem dropL_all {acts : List Act9} {m : List (RKey × Rt)} {n0 : Nat} (h : WaysOk acts m n0) (n : Int) : dropL m n acts = m.filter fun x => !(x.1.n == n) := by
  rw [dropL_filter n acts m h.nd]
  refine List.filter_congr fun x hx => ?_
  congr 1
  obtain ⟨b, hb, hk⟩ := h.key x hx
  refine Bool.eq_iff_iff.2 ?_
  rw [List.any_eq_true]
  simp only [decide_eq_true_eq, beq_iff_eq]
  constructor
  · rintro ⟨c, _, e⟩
    rw [e]
  · rintro e
    refine ⟨b, hb, ?_⟩
    rw [hk]
    rw [hk] at e
    unfold Act9.key at *
    simp only at e
    rw [e]
def expStep (now : Int) (m : List (RKey × Rt)) (b : Act9) : List (RKey × Rt) := if (getR m b.key).2 = true ∧ (getR m b.key).1.x ≤ now then delM m b.key else m
def expL (m : List (RKey × Rt)) (now : Int) (acts : List Act9) : List (RKey × Rt) := acts.foldl (expStep now) m
theorem expL_snoc (m : List (RKey × Rt)) (now : Int) (acts : List Act9) (j : Nat) (h : j < acts.length) : expL m now (acts.take (j + 1)) = expStep now (expL m now (acts.take j)) acts[j] := by
  unfold expL
  rw [List.take_succ_eq_append_getElem h, List.foldl_append]
  rfl
theorem getR_of_mem {m : List (RKey × Rt)} (hn : (m.map (·.1)).Nodup) {x : RKey × Rt} (hx : x ∈ m) : getR m x.1 = (x.2, true) := by
  obtain ⟨v, hv⟩ : ∃ v, getM m x.1 = some v := by
    cases h : getM m x.1 with
    | some v => exact ⟨v, rfl⟩
    | none =>
      unfold getM at h
      rw [Option.map_eq_none_iff, List.find?_eq_none] at h
      exact absurd (h x hx) (by simp)
  have h2 : getR m x.1 = (v, true) := by unfold getR; rw [hv]
  have h3 := getR_mem m x.1 (by rw [h2])
  rw [h2] at h3 ⊢
  have h4 : v = x.2 := congrArg Prod.snd (keys_eq hn h3 hx rfl)
  rw [h4]
theorem expStep_filter (now : Int) (m : List (RKey × Rt)) (hn : (m.map (·.1)).Nodup) (b : Act9) : expStep now m b = m.filter fun x => !(decide (x.1 = b.key) && decide (x.2.x ≤ now)) := by
  unfold expStep
  split
  · rename_i h
    rw [delM_filter _ m hn]
    refine List.filter_congr fun x hx => ?_
    by_cases hk : x.1 = b.key
    · have h1 := getR_of_mem hn hx
      rw [hk] at h1
      have h2 : x.2.x ≤ now := by rw [h1] at h; exact h.2
      simp [hk, h2]
    · simp [hk]
  · rename_i h
    refine (List.filter_eq_self.2 fun x hx => ?_).symm
    by_cases hk : x.1 = b.key
    · have h1 := getR_of_mem hn hx
      rw [hk] at h1
      have h2 : ¬ x.2.x ≤ now := fun h3 => h (by rw [h1]; exact ⟨rfl, h3⟩)
      simp [hk, h2]
    · simp [hk]
theorem expL_filter (now : Int) : ∀ (acts : List Act9) (m : List (RKey × Rt)), (m.map (·.1)).Nodup → expL m now acts = m.filter fun x => !(acts.any fun b => decide (x.1 = b.key) && decide (x.2.x ≤ now))
  | [], m, _ => by
    unfold expL
    rw [List.foldl_nil]
    exact (List.filter_eq_self.2 fun _ _ => by simp).symm
  | b :: acts, m, hn => by
    have hs := expStep_filter now m hn b
    have ih := expL_filter now acts (expStep now m b) (by rw [hs]; exact nodup_filter m _ hn)
    unfold expL at *
    rw [List.foldl_cons, ih, hs, List.filter_filter]
    refine List.filter_congr fun x _ => ?_
    simp only [List.any_cons, Bool.not_or, Bool.and_comm]
theorem expL_all {acts : List Act9} {m : List (RKey × Rt)} {n0 : Nat} (h : WaysOk acts m n0) (now : Int) : expL m now acts = m.filter fun x => !(decide (x.2.x ≤ now)) := by
  rw [expL_filter now acts m h.nd]
  refine List.filter_congr fun x hx => ?_
  congr 1
  obtain ⟨b, hb, hk⟩ := h.key x hx
  refine Bool.eq_iff_iff.2 ?_
  rw [List.any_eq_true]
  simp only [decide_eq_true_eq, Bool.and_eq_true]
  exact ⟨fun ⟨_, _, _, e⟩ => e, fun e => ⟨b, hb, hk, e⟩⟩
def actM (m : List (RKey × Rt)) (kind : Int) (t : Act9) : List (RKey × Rt) :=
  if kind = 4 then delM m t.key else if kind = 5 then m.filter (fun x => !(x.1.n == t.r.n)) else if kind = 6 then m.filter (fun x => !(decide (x.2.x ≤ t.x))) else updM m t.key t.r
theorem actM_ok {acts : List Act9} {m : List (RKey × Rt)} {n : Nat} (h : WaysOk acts m n) (kind : Int) (t : Act9) (ht : t ∈ acts) (ho : t.ok) : WaysOk acts (actM m kind t) (n + 1) := by
  unfold actM
  split
  · exact h.del _
  · split
    · exact h.filter _
    · split
      · exact h.filter _
      · exact h.upd t ht ho
/-- What was seen, act by act. -/
def seenM (m : List (RKey × Rt)) (acts : List Act9) : List (Pfx × Bool) := acts.foldl (fun sn b => if (getR m b.key).2 = true then updM sn ⟨b.a, b.l⟩ true else sn) []
theorem seenM_snoc (m : List (RKey × Rt)) (acts : List Act9) (b : Act9) : seenM m (acts ++ [b]) = if (getR m b.key).2 = true then updM (seenM m acts) ⟨b.a, b.l⟩ true else seenM m acts := by
  unfold seenM
  rw [List.foldl_append]
  rfl
theorem seenM_take (m : List (RKey × Rt)) (acts : List Act9) (j : Nat) (h : j < acts.length) : seenM m (acts.take (j + 1)) = if (getR m acts[j].key).2 = true then updM (seenM m (acts.take j)) ⟨acts[j].a, acts[j].l⟩ true else seenM m (acts.take j) := by
  rw [List.take_succ_eq_append_getElem h, seenM_snoc]
theorem updM_mem {α β : Type} [DecidableEq α] (k : α) (v : β) : ∀ m : List (α × β), (k, v) ∈ updM m k v
  | [] => by simp [updM]
  | y :: m => by
    unfold updM
    split
    · simp
    · exact List.mem_cons_of_mem _ (updM_mem k v m)
theorem updM_old {α β : Type} [DecidableEq α] (k : α) (v : β) : ∀ m : List (α × β), ∀ e ∈ m, e.1 ∈ (updM m k v).map (·.1)
  | y :: m, e, he => by
    unfold updM
    split
    · rename_i h
      rcases List.mem_cons.1 he with rfl | he
      · simp [h]
      · simp only [List.map_cons, List.mem_cons]
        exact .inr (List.mem_map_of_mem he)
    · rcases List.mem_cons.1 he with rfl | he
      · simp
      · simp only [List.map_cons, List.mem_cons]
        exact .inr (updM_old k v m e he)
theorem seenM_okR (m : List (RKey × Rt)) : ∀ l : List Act9, ((seenM m l.reverse).map (·.1)).Nodup ∧ (∀ e ∈ seenM m l.reverse, e.2 = true) ∧ ∀ p : Pfx, p ∈ (seenM m l.reverse).map (·.1) ↔ ∃ b ∈ l.reverse, (getR m b.key).2 = true ∧ p = ⟨b.a, b.l⟩
  | [] => ⟨List.nodup_nil, fun _ h => by simp [seenM] at h, fun p => by simp [seenM]⟩
  | b :: l => by
    obtain ⟨h1, h2, h3⟩ := seenM_okR m l
    rw [List.reverse_cons]
    generalize l.reverse = acts' at *
    rw [seenM_snoc]
    split
    · rename_i hg
      refine ⟨nodup_updM _ _ _ h1, fun e he => ?_, fun p => ?_⟩
      · rcases updM_keys _ _ _ e he with rfl | he
        · rfl
        · exact h2 e he
      · constructor
        · intro hp
          obtain ⟨e, he, rfl⟩ := List.mem_map.1 hp
          rcases updM_keys _ _ _ e he with rfl | he
          · exact ⟨b, by simp, hg, rfl⟩
          · obtain ⟨c, hc, h⟩ := (h3 e.1).1 (List.mem_map_of_mem he)
            exact ⟨c, by simp [hc], h⟩
        · rintro ⟨c, hc, h⟩
          rcases List.mem_append.1 hc with hc | hc
          · obtain ⟨e, he, hep⟩ := List.mem_map.1 ((h3 p).2 ⟨c, hc, h⟩)
            have := updM_old (⟨b.a, b.l⟩ : Pfx) true _ e he
            rwa [hep] at this
          · simp only [List.mem_singleton] at hc
            subst hc
            rw [h.2]
            exact List.mem_map_of_mem (f := Prod.fst) (updM_mem (⟨c.a, c.l⟩ : Pfx) true (seenM m acts'))
    · rename_i hg
      refine ⟨h1, h2, fun p => ?_⟩
      rw [h3]
      constructor
      · rintro ⟨c, hc, h⟩
        exact ⟨c, by simp [hc], h⟩
      · rintro ⟨c, hc, h⟩
        rcases List.mem_append.1 hc with hc | hc
        · exact ⟨c, hc, h⟩
        · simp only [List.mem_singleton] at hc
          subst hc
          exact absurd h.1 hg
theorem seenM_ok (m : List (RKey × Rt)) (acts : List Act9) : ((seenM m acts).map (·.1)).Nodup ∧ (∀ e ∈ seenM m acts, e.2 = true) ∧ ∀ p : Pfx, p ∈ (seenM m acts).map (·.1) ↔ ∃ b ∈ acts, (getR m b.key).2 = true ∧ p = ⟨b.a, b.l⟩ := by
  have := seenM_okR m acts.reverse
  rwa [List.reverse_reverse] at this
theorem nodup_same {α : Type} [DecidableEq α] : ∀ {l k : List α}, l.Nodup → k.Nodup → (∀ x, x ∈ l ↔ x ∈ k) → l.length = k.length
  | [], k, _, _, h => by
    cases k with
    | nil => rfl
    | cons y k => exact absurd ((h y).2 (by simp)) (by simp)
  | x :: l, k, hl, hk, h => by
    have hx : x ∈ k := (h x).1 (by simp)
    obtain ⟨h1, h2⟩ := List.nodup_cons.1 hl
    have ih := nodup_same (l := l) (k := k.erase x) h2 (hk.erase x) fun y => by
      rw [hk.mem_erase_iff]
      constructor
      · intro hy
        exact ⟨fun e => h1 (e ▸ hy), (h y).1 (List.mem_cons_of_mem _ hy)⟩
      · rintro ⟨hne, hy⟩
        rcases List.mem_cons.1 ((h y).2 hy) with e | e
        · exact absurd e hne
        · exact e
    have h3 := List.length_erase_of_mem hx
    have h4 := List.length_pos_of_mem hx
    simp only [List.length_cons]
    omega
theorem seen_len {acts : List Act9} {m : List (RKey × Rt)} {n : Nat} (h : WaysOk acts m n) {ps : List Pfx} (hp : IsPrefs m ps) : ps.length = (seenM m acts).length ∧ goodR (seenM m acts) ps.reverse = true := by
  obtain ⟨s1, s2, s3⟩ := seenM_ok m acts
  have hmem : ∀ x, x ∈ ps ↔ x ∈ (seenM m acts).map (·.1) := fun x => by
    rw [hp.2.1 x, s3 x]
    constructor
    · intro hx
      obtain ⟨e, he, rfl⟩ := List.mem_map.1 hx
      obtain ⟨b, hb, hk⟩ := h.key e he
      refine ⟨b, hb, ?_, by rw [hk]; rfl⟩
      rw [← hk, getR_of_mem h.nd he]
    · rintro ⟨b, _, hg, rfl⟩
      exact List.mem_map.2 ⟨_, getR_mem m b.key hg, rfl⟩
  refine ⟨?_, goodR_true _ _ (fun x hx => ?_) (List.pairwise_reverse.2 hp.1)⟩
  · have := nodup_same (up_nodup hp.1) s1 hmem
    simpa using this
  · obtain ⟨e, he, rfl⟩ := List.mem_map.1 ((hmem x).1 (List.mem_reverse.1 hx))
    unfold seenB
    cases hg : getM (seenM m acts) e.1 with
    | some v =>
      unfold getM at hg
      obtain ⟨y, hy, rfl⟩ := Option.map_eq_some_iff.1 hg
      exact s2 y (List.mem_of_find?_eq_some hy)
    | none =>
      unfold getM at hg
      rw [Option.map_eq_none_iff, List.find?_eq_none] at hg
      exact absurd (hg e he) (by simp)
/-- The way that is picked and the one by hand are the same. -/
theorem picked {m : List (RKey × Rt)} (a l : Int) (list : List Int) (most : Int) : (pickN m a l (costF list) (fun r => decide (r.id ≤ most)) 9).2.2 = decide (0 ≤ (bestN m a l list most 9).1) ∧
    (pickN m a l (costF list) (fun r => decide (r.id ≤ most)) 9).1 = if 0 ≤ (bestN m a l list most 9).1 then (getR m ⟨a, l, (bestN m a l list most 9).1⟩).1 else rt0 := by
  obtain ⟨h1, h2, h3, h4, h5⟩ := pick_best m a l list most 9
  refine ⟨h3, ?_⟩
  split
  · rename_i h; exact (h4 h).1
  · rename_i h; exact h5 (by omega)
theorem rt_self (r : Rt) (w : World) : (Op.equalIn 10000 68 r.val r.val).run Try.prog w = .ok true w := by
  obtain ⟨rn, ri, rs, rm, rx⟩ := r
  have hf := fieldsOf_eq Try.underlying68
  have hd := fieldsOf_eq Try.underlying30
  have h1 : (Op.equalIn 9999 30 (.agg #[.int .u32 rs, .int .u16 rm]) (.agg #[.int .u32 rs, .int .u16 rm])).run Try.prog w = .ok true w := by
    rw [run_equalIn_agg w 9998 _ _ _ (by rw [hd]; exact Try.underlying30) (by kernel_rfl), hd]
    simp [Op.eqFields, go_sem]
  unfold Rt.val
  rw [run_equalIn_agg w 9999 _ _ _ (by rw [hf]; exact Try.underlying68) (by kernel_rfl), hf]
  simp [Op.eqFields, go_sem, h1]
end Go.Proofs.Ytnfaeafplaeehaa
