import Derived.Test.YtnfaeafplaeehaaTable
import Derived.Test.YtnfaeafplaeehaaSeqR
set_option linter.unusedVariables false
set_option linter.unusedSimpArgs false
namespace Go.Proofs.Ytnfaeafplaeehaa
open Go.RowKit Go.ChangeMaps Go.Shelf Go.Sort Go.Lib
/-! Plain: of a sorted row of keys each prefix once, in order; a strictly rising row is told by its members. -/
def RKey.p (k : RKey) : Pfx := ⟨k.a, k.l⟩
def uniqR : List Pfx → List Pfx
  | [] => []
  | [x] => [x]
  | x :: y :: l => if x = y then uniqR (y :: l) else x :: uniqR (y :: l)
def uniqP (l : List Pfx) : List Pfx := (uniqR l.reverse).reverse
theorem uniqR_mem (z : Pfx) : ∀ l, z ∈ uniqR l ↔ z ∈ l
  | [] => Iff.rfl
  | [x] => Iff.rfl
  | x :: y :: l => by
    have ih := uniqR_mem z (y :: l)
    unfold uniqR
    split
    · rename_i h
      subst h
      rw [ih]
      simp
    · rw [List.mem_cons, ih, List.mem_cons (l := y :: l)]
theorem uniqR_len : ∀ l, (uniqR l).length ≤ l.length
  | [] => Nat.le_refl _
  | [x] => Nat.le_refl _
  | x :: y :: l => by
    have ih := uniqR_len (y :: l)
    unfold uniqR
    split
    · simp only [List.length_cons] at *; omega
    · simp only [List.length_cons] at *; omega
def pLt (x y : Pfx) : Prop := x.a < y.a ∨ (x.a = y.a ∧ x.l < y.l)
instance (x y : Pfx) : Decidable (pLt x y) := by unfold pLt; infer_instance
theorem pLt.irrefl (x : Pfx) : ¬ pLt x x := by unfold pLt; omega
theorem pLt.trans {x y z : Pfx} (h : pLt x y) (k : pLt y z) : pLt x z := by unfold pLt at *; omega
theorem pLt.tri {x y : Pfx} (h : ¬ pLt x y) (hn : x ≠ y) : pLt y x := by
  obtain ⟨a, l⟩ := x
  obtain ⟨b, m⟩ := y
  unfold pLt at *
  simp only [ne_eq, Pfx.mk.injEq] at *
  omega
theorem uniqR_down : ∀ l : List Pfx, l.Pairwise (fun x y => ¬ pLt x y) → (uniqR l).Pairwise (fun x y => pLt y x)
  | [], _ => List.Pairwise.nil
  | [x], _ => by simp [uniqR]
  | x :: y :: l, h => by
    obtain ⟨h1, h2⟩ := List.pairwise_cons.1 h
    have ih := uniqR_down (y :: l) h2
    unfold uniqR
    split
    · exact ih
    · rename_i hne
      refine List.pairwise_cons.2 ⟨fun z hz => ?_, ih⟩
      rw [uniqR_mem] at hz
      have hyx := pLt.tri (h1 y (by simp)) hne
      rcases List.mem_cons.1 hz with rfl | hz
      · exact hyx
      · have hzy := (List.pairwise_cons.1 h2).1 z hz
        by_cases e : z = y
        · subst e; exact hyx
        · exact pLt.trans (pLt.tri hzy (Ne.symm e)) hyx
theorem uniqP_nil : uniqP [] = [] := rfl
theorem uniqP_snoc (l : List Pfx) (x : Pfx) : uniqP (l ++ [x]) = if l.getLast? = some x then uniqP l else uniqP l ++ [x] := by
  unfold uniqP
  rw [List.reverse_append, List.reverse_singleton, List.singleton_append]
  rcases l.eq_nil_or_concat with rfl | ⟨l', y, rfl⟩
  · simp [uniqR]
  · simp only [List.concat_eq_append, List.reverse_append, List.reverse_singleton, List.singleton_append, List.getLast?_append, List.getLast?_singleton, Option.some_or, Option.some.injEq]
    rw [show uniqR (x :: y :: l'.reverse) = if x = y then uniqR (y :: l'.reverse) else x :: uniqR (y :: l'.reverse) from rfl]
    by_cases h : y = x
    · rw [if_pos h, if_pos h.symm]
    · rw [if_neg h, if_neg (Ne.symm h), List.reverse_cons]
theorem uniqP_mem (z : Pfx) (l : List Pfx) : z ∈ uniqP l ↔ z ∈ l := by unfold uniqP; rw [List.mem_reverse, uniqR_mem, List.mem_reverse]
theorem uniqP_len (l : List Pfx) : (uniqP l).length ≤ l.length := by unfold uniqP; rw [List.length_reverse]; simpa using uniqR_len l.reverse
theorem uniqP_up (l : List Pfx) (h : l.Pairwise fun x y => ¬ pLt y x) : (uniqP l).Pairwise pLt := by
  unfold uniqP
  exact List.pairwise_reverse.2 (uniqR_down _ (List.pairwise_reverse.2 h))
theorem up_nodup {l : List Pfx} (h : l.Pairwise pLt) : l.Nodup := h.imp fun {a b} hab e => by subst e; exact pLt.irrefl _ hab
theorem up_unique : ∀ {l k : List Pfx}, l.Pairwise pLt → k.Pairwise pLt → (∀ z, z ∈ l ↔ z ∈ k) → l = k
  | [], [], _, _, _ => rfl
  | [], y :: k, _, _, h => by have := (h y).2 (by simp); simp at this
  | x :: l, [], _, _, h => by have := (h x).1 (by simp); simp at this
  | x :: l, y :: k, hl, hk, h => by
    obtain ⟨l1, l2⟩ := List.pairwise_cons.1 hl
    obtain ⟨k1, k2⟩ := List.pairwise_cons.1 hk
    have hxy : x = y := by
      rcases List.mem_cons.1 ((h x).1 (by simp)) with e | e
      · exact e
      · rcases List.mem_cons.1 ((h y).2 (by simp)) with e' | e'
        · exact e'.symm
        · exact absurd (pLt.trans (l1 y e') (k1 x e)) (pLt.irrefl _)
    subst hxy
    rw [up_unique l2 k2 fun z => ⟨fun hz => ?_, fun hz => ?_⟩]
    · rcases List.mem_cons.1 ((h z).1 (List.mem_cons_of_mem _ hz)) with e | e
      · subst e; exact absurd (l1 _ hz) (pLt.irrefl _)
      · exact e
    · rcases List.mem_cons.1 ((h z).2 (List.mem_cons_of_mem _ hz)) with e | e
      · subst e; exact absurd (k1 _ hz) (pLt.irrefl _)
      · exact e
theorem uniqP_app : ∀ (l2 l1 : List Pfx), ∃ post, uniqP (l1 ++ l2) = uniqP l1 ++ post
  | [], l1 => ⟨[], by simp⟩
  | x :: l2, l1 => by
    obtain ⟨post, h⟩ := uniqP_app l2 (l1 ++ [x])
    rw [List.append_assoc, List.singleton_append, uniqP_snoc] at h
    split at h
    · exact ⟨post, h⟩
    · exact ⟨x :: post, by rw [h]; simp⟩
/-- The prefixes of a table, in order. -/
def IsPrefs (m : List (RKey × Rt)) (ps : List Pfx) : Prop := ps.Pairwise pLt ∧ (∀ z, z ∈ ps ↔ z ∈ m.map (fun e => e.1.p)) ∧ ps.length ≤ m.length
theorem IsPrefs.unique {m : List (RKey × Rt)} {ps qs : List Pfx} (h : IsPrefs m ps) (k : IsPrefs m qs) : ps = qs := up_unique h.1 k.1 fun z => (h.2.1 z).trans (k.2.1 z).symm
theorem isPrefs_len {m : List (RKey × Rt)} {ss : List RKey} (hp : ss.Perm (m.map (·.1))) : (uniqP (ss.map RKey.p)).length ≤ m.length := by
  have h1 := uniqP_len (ss.map RKey.p)
  have h2 := hp.length_eq
  simp at h1 h2
  omega
theorem isPrefs_of {m : List (RKey × Rt)} {ss : List RKey} (hp : ss.Perm (m.map (·.1))) (hs : ss.Pairwise fun x y => ltOf rkCf y x = false) : IsPrefs m (uniqP (ss.map RKey.p)) := by
  refine ⟨uniqP_up _ ?_, fun z => ?_, isPrefs_len hp⟩
  · rw [List.pairwise_map]
    refine hs.imp fun {x y} h => ?_
    rw [rkLt, decide_eq_false_iff_not] at h
    exact h
  · rw [uniqP_mem, List.mem_map, List.mem_map]
    constructor
    · rintro ⟨k, hk, rfl⟩
      obtain ⟨e, he, rfl⟩ := List.mem_map.1 (hp.mem_iff.1 hk)
      exact ⟨e, he, rfl⟩
    · rintro ⟨e, he, rfl⟩
      exact ⟨e.1, hp.mem_iff.2 (List.mem_map_of_mem he), rfl⟩
end Go.Proofs.Ytnfaeafplaeehaa
