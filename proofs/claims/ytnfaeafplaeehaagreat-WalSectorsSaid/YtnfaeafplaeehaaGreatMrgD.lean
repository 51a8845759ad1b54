/- own texts of this claim, one behind the other: see the remarks within -/
import Derived.Test.YtnfaeafplaeehaaGreatMrgA
import Derived.Test.YtnfaeafplaeehaaGreatMrgC
import Derived.Laws.AppendOwn
import Derived.OwnWalk
import Derived.Test.YtnfaeafplaeehaaGreatOwnS
section
set_option linter.unusedVariables false
set_option linter.unusedSimpArgs false
namespace Go.Proofs.YtnfaeafplaeehaaGreat
open Go.RowKit
/-! Appending bytes to a slice that the call has made itself. -/
theorem info_u8 : (Tryz.prog.info? 5).map (fun i => (i.zero, i.size, i.bytes)) = some (some (.int .u8 0), 1, 1) := by kernel_rfl
/-- An append whose run is known. -/
theorem wpList_app {P : Program} {ops : Array Oper} {rest : List Oper} {o : Oper} {a : Act} {Q : Exit → Act → World → Prop} {w : World} (hgd : o.guard = none) (s x : Operand) (t u : TypeId)
    (ho : o.op = .call { callee := .builtin .append, args := #[s, x], argTypes := #[t, u] }) {v x' v' : Value} {w' : World} (hs : a.eval s = v) (hx : a.eval x = x') (hr : (Builtin.append_ #[t, u] o.type #[v, x']).run P w = .ok v' w')
    (h : wpList P ops Q rest (a.put o.dst v') w') : wpList P ops Q (o :: rest) a w := by
  refine wpList_plain hgd fun K hK => ?_
  unfold Oper.wp execOp
  simp only [ho, resolve, invoke, builtin, Sem.run_bind, Sem.run_pure, Result.andThen_ok, List.map_toArray, List.map_cons, List.map_nil, hs, hx, hr]
  exact hK _ _ h
/-- A slice of bytes that lies in memory of its own, from block 'base' on. -/
def Own8 (w : World) (base : Nat) (v : Value) (l : List Int) : Prop := w.ownsRow base 5 1 v l.length (u8s l)
theorem Own8.new (w : World) (base : Nat) (l : List Int) (hb : base ≤ w.heap.size) (hl : l.length ≤ 140737488351232) : Own8 (w.alloc (.cells (u8s l).toArray 5)) base (.slice (some ⟨w.heap.size, 0, none⟩) l.length l.length) l :=
  ⟨by simp [u8s], .inr ⟨w.heap.size, l.length, (u8s l).toArray, rfl, hb, heap_new _ _, Nat.le_refl _, by unfold maxLen; omega, by simp [u8s], by simp [u8s, List.take_of_length_le]⟩⟩
theorem Own8.drew {w : World} {base : Nat} {v : Value} {l : List Int} (h : Own8 w base v l) : Own8 w.drew base v l := h
theorem Own8.below {w w' : World} {base : Nat} {v : Value} {l : List Int} (h : Own8 w base v l) (hb : Below w.heap.size w w') : Own8 w' base v l :=
  World.ownsRow.kept h (row := none) ⟨hb.os, hb.tape, hb.output, hb.size, fun k hk _ => hb.block k hk⟩ (by cases hv : v.ownBlock <;> simp)
theorem Own8.row {w : World} {base : Nat} {v : Value} {l : List Int} (h : Own8 w base v l) (hl : l.length ≤ 140737488351232) : ∃ A c, v = .slice A l.length c ∧ Row w 1 A l.length (u8s l) := by
  obtain ⟨h1, h2⟩ := h
  rcases h2 with ⟨rfl, h0⟩ | ⟨g, cap, cur, rfl, hb, hg, hc, hm, hs, ht⟩
  · exact ⟨none, 0, by rw [h0], by simp [u8s], hl, fun hp => by omega⟩
  · refine ⟨_, _, rfl, by simp [u8s], hl, fun _ => ⟨g, 0, rfl, lt_of_heap hg, fun j u hj => ?_⟩⟩
    simp only [World.cell?, hg, Nat.zero_add]
    rw [← ht, List.getElem?_take] at hj
    split at hj
    · simpa using hj
    · cases hj
theorem Own8.apart {w : World} {base g : Nat} {v : Value} {l : List Int} {t : TypeId} {cs : Array Value} (h : Own8 w base v l) (ht : t ≠ 5) (hg : Blk w g t cs) : v.ownBlock ≠ some g := by
  rcases h.2 with ⟨rfl, -⟩ | ⟨g', cap, cur, rfl, -, hh, -⟩
  · simp [Value.ownBlock]
  · intro e
    simp [Value.ownBlock] at e
    subst e
    unfold Blk at hg
    rw [hg] at hh
    simp at hh
    exact ht hh.2
theorem app8 (base : Nat) (v : Value) (l l' : List Int) (w : World) (hown : Own8 w base v l) (a : Addr) (m c : Nat) (hm : l'.length = m) (hnews : ∀ j u, (u8s l')[j]? = some u → w.cell? (a.add j) = some u)
    (hn : l.length + m ≤ 140737488351232) (hbase : base ≤ w.heap.size) :
    ∃ v' w', (Builtin.append_ #[51, 51] 51 #[v, .slice (some a) m c]).run Tryz.prog w = .ok v' w' ∧ Own8 w' base v' (l ++ l') ∧ Below base w w' ∧ (∀ g t cs, t ≠ 5 → Blk w g t cs → Blk w' g t cs) := by
  obtain ⟨i0, hi, hz0, hz1, hz2⟩ := info_parts info_u8
  obtain ⟨v', w', h1, h2, h3, -⟩ := run_append_own w base 51 51 5 i0 (.int .u8 0) 1 1 Tryz.underlying51 hi hz0 hz1 hz2 rfl (by decide) v l.length (u8s l) hown a m c (u8s l') (by simp [u8s, hm]) hnews
    (by intro u hu; simp [u8s] at hu; obtain ⟨x, -, rfl⟩ := hu; rfl) (by unfold maxLen; omega) (by omega) hbase
  refine ⟨v', w', h1, ?_, ⟨h3.os, h3.tape, h3.output, h3.size, fun k hk => h3.block k (by omega) fun e => ?_⟩, fun g t cs ht hg => (h3.block g hg.lt fun e => ?_).trans hg⟩
  · unfold Own8
    rw [List.length_append, hm, show u8s (l ++ l') = u8s l ++ u8s l' by simp [u8s]]
    exact h2
  · have := (World.ownsRow.lt hown) k e.symm
    omega
  · exact Own8.apart hown ht hg e.symm
end Go.Proofs.YtnfaeafplaeehaaGreat
end
section
set_option linter.unusedVariables false
set_option linter.unusedSimpArgs false
namespace Go.Proofs.YtnfaeafplaeehaaGreat
open Go.RowKit
/-! Appending to a slice that lies in a block of its own, told with where it lies then. -/
/-- A slice of n elements (of 'sz' cells each) at the head of block g. -/
def OwnG (w : World) (T : TypeId) (sz g : Nat) (v : Value) (n : Nat) (xs : List Value) : Prop :=
  xs.length = n * sz ∧ ∃ cap cur, v = .slice (some ⟨g, 0, none⟩) n cap ∧ w.heap[g]? = some (.cells cur T (0, 0)) ∧ n ≤ cap ∧ cap ≤ maxLen ∧ cur.size = cap * sz ∧ cur.toList.take (n * sz) = xs
theorem OwnG.owns {w : World} {T : TypeId} {sz g : Nat} {v : Value} {n : Nat} {xs : List Value} (h : OwnG w T sz g v n xs) {base : Nat} (hb : base ≤ g) : w.ownsRow base T sz v n xs := by
  obtain ⟨h1, cap, cur, rfl, h2, h3, h4, h5, h6⟩ := h
  exact ⟨h1, .inr ⟨g, cap, cur, rfl, hb, h2, h3, h4, h5, h6⟩⟩
theorem OwnG.same {w w' : World} {T : TypeId} {sz g : Nat} {v : Value} {n : Nat} {xs : List Value} (h : OwnG w T sz g v n xs) (hs : w'.heap[g]? = w.heap[g]?) : OwnG w' T sz g v n xs := by
  obtain ⟨h1, cap, cur, rfl, h2, h3⟩ := h
  exact ⟨h1, cap, cur, rfl, hs.trans h2, h3⟩
theorem OwnG.lt {w : World} {T : TypeId} {sz g : Nat} {v : Value} {n : Nat} {xs : List Value} (h : OwnG w T sz g v n xs) : g < w.heap.size := by
  obtain ⟨h1, cap, cur, rfl, h2, h3⟩ := h
  exact lt_of_heap h2
theorem OwnG.below {w w' : World} {T : TypeId} {sz g : Nat} {v : Value} {n : Nat} {xs : List Value} (h : OwnG w T sz g v n xs) (hb : Below w.heap.size w w') : OwnG w' T sz g v n xs := h.same (hb.block g h.lt)
theorem OwnG.kept {S : List Nat} {w w' : World} {T : TypeId} {sz g : Nat} {v : Value} {n : Nat} {xs : List Value} (h : OwnG w T sz g v n xs) (hk : Kept S w w') (hg : g ∉ S) : OwnG w' T sz g v n xs := h.same (hk.block g h.lt hg)
theorem OwnG.row {w : World} {T : TypeId} {sz g : Nat} {v : Value} {n : Nat} {xs : List Value} (h : OwnG w T sz g v n xs) (hn : n ≤ 140737488351232) : ∃ c, v = .slice (some ⟨g, 0, none⟩) n c ∧ n ≤ c ∧ Row w sz (some ⟨g, 0, none⟩) n xs := by
  obtain ⟨h1, cap, cur, rfl, h2, h3, h4, h5, h6⟩ := h
  refine ⟨cap, rfl, h3, h1, hn, fun _ => ⟨g, 0, rfl, lt_of_heap h2, fun j u hj => ?_⟩⟩
  simp only [World.cell?, h2, Nat.zero_add]
  rw [← h6, List.getElem?_take] at hj
  split at hj
  · simpa using hj
  · cases hj
theorem OwnG.new (w : World) (T : TypeId) (sz n : Nat) (xs : List Value) (h : xs.length = n * sz) (hn : n ≤ 140737488351232) : OwnG (w.alloc (.cells xs.toArray T)) T sz w.heap.size (.slice (some ⟨w.heap.size, 0, none⟩) n n) n xs :=
  ⟨h, n, xs.toArray, rfl, heap_new _ _, Nat.le_refl _, by unfold maxLen; omega, by simpa using h, by simp [← h]⟩
theorem OwnG.nt {w : World} {T : TypeId} {sz g : Nat} {v : Value} {n : Nat} {xs : List Value} (h : OwnG w T sz g v n xs) {k : Nat} {t : TypeId} {cs : Array Value} (hb : Blk w k t cs) (ht : t ≠ T) : g ≠ k := by
  rintro rfl
  obtain ⟨h1, cap, cur, rfl, h2, h3⟩ := h
  unfold Blk at hb
  rw [h2] at hb
  simp at hb
  exact ht hb.2.symm
/-- An append: the row lies where it lay, or in a new block; no other block is turned. -/
theorem OwnG.append {P : Program} {T e : TypeId} {z : Value} {sz by' : Nat} (hT : P.underlying T = some (.slice e)) (hinfo : (P.info? e).map (fun i => (i.zero, i.size, i.bytes)) = some (some z, sz, by')) (hz : z.cells.size = sz) (hsz : 0 < sz)
    {w : World} {g : Nat} {v : Value} {n : Nat} {xs : List Value} (h : OwnG w e sz g v n xs) (a : Addr) (m c : Nat) (news : List Value) (hl : news.length = m * sz) (hnews : ∀ j u, news[j]? = some u → w.cell? (a.add j) = some u) (h1 : ∀ u ∈ news, u.oneCell' = true)
    (h63 : n + m ≤ 140737488351232) (hbytes : (n + m) * by' ≤ 140737488355328) (ty : TypeId) :
    ∃ v' w' g', (Builtin.append_ #[T, T] ty #[v, .slice (some a) m c]).run P w = .ok v' w' ∧ OwnG w' e sz g' v' (n + m) (xs ++ news) ∧ (g' = g ∨ w.heap.size ≤ g') ∧ Kept [g] w w' := by
  obtain ⟨i, hi, hz0, hz1, hz2⟩ := info_parts hinfo
  have hlt := h.lt
  obtain ⟨v', w', hr, hown, hgr, hnil⟩ := run_append_own (P := P) w g T ty e i z sz by' hT hi hz0 hz1 hz2 hz hsz v n xs (h.owns (Nat.le_refl _)) a m c news hl hnews h1 (by unfold maxLen; omega) hbytes (Nat.le_of_lt hlt)
  obtain ⟨hx, cap, cur, rfl, hg, hnc, hcm, hcs, htake⟩ := h
  have hk : Kept [g] w w' := ⟨hgr.os, hgr.tape, hgr.output, hgr.size, fun k hk hs => hgr.block k hk (fun e => hs (by simp [Value.ownBlock] at e; simp [e]))⟩
  obtain ⟨ho1, ho2⟩ := hown
  rcases ho2 with ⟨e1, -⟩ | ⟨g', cap', cur', rfl, hb', hg', hc', hm', hs', ht'⟩
  · have := (hnil.1 e1).1
    cases this
  · refine ⟨_, _, g', hr, ⟨ho1, cap', cur', rfl, hg', hc', hm', hs', ht'⟩, ?_, hk⟩
    subst hz1
    by_cases hroom : n + m ≤ cap
    · have hfit : n * i.size + news.length ≤ cur.size := by rw [hl, hcs, ← Nat.add_mul]; exact Nat.mul_le_mul_right _ hroom
      have hr2 := run_append_room (P := P) w T ty e i hT hi g n cap cur hg a m c news hl hnews h1 hroom hfit
      rw [hr] at hr2
      injection hr2 with e1 e2
      injection e1 with e1
      injection e1 with e1
      injection e1 with e1
      exact .inl e1
    · have holds : ∀ j u, xs[j]? = some u → w.cell? ((⟨g, 0, none⟩ : Addr).add j) = some u := World.ownsRow.cells (base := g) (e := e) (size := i.size) (v := .slice (some ⟨g, 0, none⟩) n cap) (n := n) ⟨hx, .inr ⟨g, cap, cur, rfl, Nat.le_refl _, hg, hnc, hcm, hcs, htake⟩⟩ (g := g) rfl
      have hr2 := run_append_grow (P := P) w T ty e i z hT hi hz0 ⟨g, 0, none⟩ n cap xs hx holds a m c news hl hnews (by omega) (by omega) (by rw [hz2]; exact growslice_fits (by omega) hbytes)
      rw [hr] at hr2
      injection hr2 with e1 e2
      injection e1 with e1
      injection e1 with e1
      injection e1 with e1
      exact .inr (Nat.le_of_eq e1.symm)
end Go.Proofs.YtnfaeafplaeehaaGreat
end
