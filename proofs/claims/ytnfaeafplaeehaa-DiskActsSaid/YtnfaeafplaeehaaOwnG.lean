import Derived.Test.YtnfaeafplaeehaaOwnS
import Derived.Test.YtnfaeafplaeehaaMap
set_option linter.unusedVariables false
set_option linter.unusedSimpArgs false
namespace Go.Proofs.Ytnfaeafplaeehaa
open Go.RowKit
/-! Appending to a slice that lies in a block of its own, told with where it lies then. -/
/-- A slice of n elements (of 'sz' cells each) at the head of block g. -/
def OwnG (w : World) (T : TypeId) (sz g : Nat) (v : Value) (n : Nat) (xs : List Value) : Prop :=
  xs.length = n * sz ∧ ∃ cap cur, v = .slice (some ⟨g, 0, none⟩) n cap ∧ w.heap[g]? = some (.cells cur T (0, 0)) ∧ n ≤ cap ∧ cap ≤ maxLen ∧ cur.size = cap * sz ∧ cur.toList.take (n * sz) = xs
theorem OwnG.owns {w : World} {T : TypeId} {sz g : Nat} {v : Value} {n : Nat} {xs : List Value} (h : OwnG w T sz g v n xs) {base : Nat} (hb : base ≤ g) : w.ownsRow base T sz v n xs := by
  obtain ⟨h1, cap, cur, rfl, h2, h3, h4, h5, h6⟩ := h
  exact ⟨h1, .inr ⟨g, cap, cur, rfl, hb, h2, h3, h4, h5, h6⟩⟩
theorem OwnG.same {w w' : World} {T : TypeId} {sz g : Nat} {v : Value} {n : Nat} {xs : List Value} (h : OwnG w T sz g v n xs) (hs : w'.heap[g]? = w.heap[g]?) : OwnG w' T sz g v n xs := by
  obtain ⟨h1, cap, cur, rfl, h2, h3⟩ := h
  exact ⟨h1, cap, cur, rfl, hs.trans h2, h3⟩
theorem OwnG.lt {w : World} {T : TypeId} {sz g : Nat} {v : Value} {n : Nat} {xs : List Value} (h : OwnG w T sz g v n xs) : g < w.heap.size := by
  obtain ⟨h1, cap, cur, rfl, h2, h3⟩ := h
  exact lt_of_heap h2
theorem OwnG.below {w w' : World} {T : TypeId} {sz g : Nat} {v : Value} {n : Nat} {xs : List Value} (h : OwnG w T sz g v n xs) (hb : Below w.heap.size w w') : OwnG w' T sz g v n xs := h.same (hb.block g h.lt)
theorem OwnG.kept {S : List Nat} {w w' : World} {T : TypeId} {sz g : Nat} {v : Value} {n : Nat} {xs : List Value} (h : OwnG w T sz g v n xs) (hk : Kept S w w') (hg : g ∉ S) : OwnG w' T sz g v n xs := h.same (hk.block g h.lt hg)
theorem OwnG.row {w : World} {T : TypeId} {sz g : Nat} {v : Value} {n : Nat} {xs : List Value} (h : OwnG w T sz g v n xs) (hn : n ≤ 140737488351232) : ∃ c, v = .slice (some ⟨g, 0, none⟩) n c ∧ n ≤ c ∧ Row w sz (some ⟨g, 0, none⟩) n xs := by
  obtain ⟨h1, cap, cur, rfl, h2, h3, h4, h5, h6⟩ := h
  refine ⟨cap, rfl, h3, h1, hn, fun _ => ⟨g, 0, rfl, lt_of_heap h2, fun j u hj => ?_⟩⟩
  simp only [World.cell?, h2, Nat.zero_add]
  rw [← h6, List.getElem?_take] at hj
  split at hj
  · simpa using hj
  · cases hj
theorem OwnG.new (w : World) (T : TypeId) (sz n : Nat) (xs : List Value) (h : xs.length = n * sz) (hn : n ≤ 140737488351232) : OwnG (w.alloc (.cells xs.toArray T)) T sz w.heap.size (.slice (some ⟨w.heap.size, 0, none⟩) n n) n xs :=
  ⟨h, n, xs.toArray, rfl, heap_new _ _, Nat.le_refl _, by unfold maxLen; omega, by simpa using h, by simp [← h]⟩
theorem OwnG.nt {w : World} {T : TypeId} {sz g : Nat} {v : Value} {n : Nat} {xs : List Value} (h : OwnG w T sz g v n xs) {k : Nat} {t : TypeId} {cs : Array Value} (hb : Blk w k t cs) (ht : t ≠ T) : g ≠ k := by
  rintro rfl
  obtain ⟨h1, cap, cur, rfl, h2, h3⟩ := h
  unfold Blk at hb
  rw [h2] at hb
  simp at hb
  exact ht hb.2.symm
/-- An append: the row lies where it lay, or in a new block; no other block is turned. -/
theorem OwnG.append {P : Program} {T e : TypeId} {z : Value} {sz by' : Nat} (hT : P.underlying T = some (.slice e)) (hinfo : (P.info? e).map (fun i => (i.zero, i.size, i.bytes)) = some (some z, sz, by')) (hz : z.cells.size = sz) (hsz : 0 < sz)
    {w : World} {g : Nat} {v : Value} {n : Nat} {xs : List Value} (h : OwnG w e sz g v n xs) (a : Addr) (m c : Nat) (news : List Value) (hl : news.length = m * sz) (hnews : ∀ j u, news[j]? = some u → w.cell? (a.add j) = some u) (h1 : ∀ u ∈ news, u.oneCell' = true)
    (h63 : n + m ≤ 140737488351232) (hbytes : (n + m) * by' ≤ 140737488355328) (ty : TypeId) :
    ∃ v' w' g', (Builtin.append_ #[T, T] ty #[v, .slice (some a) m c]).run P w = .ok v' w' ∧ OwnG w' e sz g' v' (n + m) (xs ++ news) ∧ (g' = g ∨ w.heap.size ≤ g') ∧ Kept [g] w w' := by
  obtain ⟨i, hi, hz0, hz1, hz2⟩ := info_parts hinfo
  have hlt := h.lt
  obtain ⟨v', w', hr, hown, hgr, hnil⟩ := run_append_own (P := P) w g T ty e i z sz by' hT hi hz0 hz1 hz2 hz hsz v n xs (h.owns (Nat.le_refl _)) a m c news hl hnews h1 (by unfold maxLen; omega) hbytes (Nat.le_of_lt hlt)
  obtain ⟨hx, cap, cur, rfl, hg, hnc, hcm, hcs, htake⟩ := h
  have hk : Kept [g] w w' := ⟨hgr.os, hgr.tape, hgr.output, hgr.size, fun k hk hs => hgr.block k hk (fun e => hs (by simp [Value.ownBlock] at e; simp [e]))⟩
  obtain ⟨ho1, ho2⟩ := hown
  rcases ho2 with ⟨e1, -⟩ | ⟨g', cap', cur', rfl, hb', hg', hc', hm', hs', ht'⟩
  · have := (hnil.1 e1).1
    cases this
  · refine ⟨_, _, g', hr, ⟨ho1, cap', cur', rfl, hg', hc', hm', hs', ht'⟩, ?_, hk⟩
    subst hz1
    by_cases hroom : n + m ≤ cap
    · have hfit : n * i.size + news.length ≤ cur.size := by rw [hl, hcs, ← Nat.add_mul]; exact Nat.mul_le_mul_right _ hroom
      have hr2 := run_append_room (P := P) w T ty e i hT hi g n cap cur hg a m c news hl hnews h1 hroom hfit
      rw [hr] at hr2
      injection hr2 with e1 e2
      injection e1 with e1
      injection e1 with e1
      injection e1 with e1
      exact .inl e1
    · have holds : ∀ j u, xs[j]? = some u → w.cell? ((⟨g, 0, none⟩ : Addr).add j) = some u := World.ownsRow.cells (base := g) (e := e) (size := i.size) (v := .slice (some ⟨g, 0, none⟩) n cap) (n := n) ⟨hx, .inr ⟨g, cap, cur, rfl, Nat.le_refl _, hg, hnc, hcm, hcs, htake⟩⟩ (g := g) rfl
      have hr2 := run_append_grow (P := P) w T ty e i z hT hi hz0 ⟨g, 0, none⟩ n cap xs hx holds a m c news hl hnews (by omega) (by omega) (by rw [hz2]; exact growslice_fits (by omega) hbytes)
      rw [hr] at hr2
      injection hr2 with e1 e2
      injection e1 with e1
      injection e1 with e1
      injection e1 with e1
      exact .inr (Nat.le_of_eq e1.symm)
end Go.Proofs.Ytnfaeafplaeehaa
