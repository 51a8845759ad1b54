import Derived.Test.YtnfaeafplaeehaaOwnA
import Derived.Test.YtnfaeafplaeehaaOwnC
import Derived.Laws.AppendOwn
import Derived.OwnWalk
set_option linter.unusedVariables false
set_option linter.unusedSimpArgs false
namespace Go.Proofs.Ytnfaeafplaeehaa
open Go.RowKit
/-! Appending bytes to a slice that the call has made itself. -/
theorem info_u8 : (Try.prog.info? 5).map (fun i => (i.zero, i.size, i.bytes)) = some (some (.int .u8 0), 1, 1) := by kernel_rfl
/-- An append whose run is known. -/
theorem wpList_app {P : Program} {ops : Array Oper} {rest : List Oper} {o : Oper} {a : Act} {Q : Exit → Act → World → Prop} {w : World} (hgd : o.guard = none) (s x : Operand) (t u : TypeId)
    (ho : o.op = .call { callee := .builtin .append, args := #[s, x], argTypes := #[t, u] }) {v x' v' : Value} {w' : World} (hs : a.eval s = v) (hx : a.eval x = x') (hr : (Builtin.append_ #[t, u] o.type #[v, x']).run P w = .ok v' w')
    (h : wpList P ops Q rest (a.put o.dst v') w') : wpList P ops Q (o :: rest) a w := by
  refine wpList_plain hgd fun K hK => ?_
  unfold Oper.wp execOp
  simp only [ho, resolve, invoke, builtin, Sem.run_bind, Sem.run_pure, Result.andThen_ok, List.map_toArray, List.map_cons, List.map_nil, hs, hx, hr]
  exact hK _ _ h
/-- A slice of bytes that lies in memory of its own, from block 'base' on. -/
def Own8 (w : World) (base : Nat) (v : Value) (l : List Int) : Prop := w.ownsRow base 5 1 v l.length (u8s l)
theorem Own8.new (w : World) (base : Nat) (l : List Int) (hb : base ≤ w.heap.size) (hl : l.length ≤ 140737488351232) : Own8 (w.alloc (.cells (u8s l).toArray 5)) base (.slice (some ⟨w.heap.size, 0, none⟩) l.length l.length) l :=
  ⟨by simp [u8s], .inr ⟨w.heap.size, l.length, (u8s l).toArray, rfl, hb, heap_new _ _, Nat.le_refl _, by unfold maxLen; omega, by simp [u8s], by simp [u8s, List.take_of_length_le]⟩⟩
theorem Own8.drew {w : World} {base : Nat} {v : Value} {l : List Int} (h : Own8 w base v l) : Own8 w.drew base v l := h
theorem Own8.below {w w' : World} {base : Nat} {v : Value} {l : List Int} (h : Own8 w base v l) (hb : Below w.heap.size w w') : Own8 w' base v l :=
  World.ownsRow.kept h (row := none) ⟨hb.os, hb.tape, hb.output, hb.size, fun k hk _ => hb.block k hk⟩ (by cases hv : v.ownBlock <;> simp)
theorem Own8.row {w : World} {base : Nat} {v : Value} {l : List Int} (h : Own8 w base v l) (hl : l.length ≤ 140737488351232) : ∃ A c, v = .slice A l.length c ∧ Row w 1 A l.length (u8s l) := by
  obtain ⟨h1, h2⟩ := h
  rcases h2 with ⟨rfl, h0⟩ | ⟨g, cap, cur, rfl, hb, hg, hc, hm, hs, ht⟩
  · exact ⟨none, 0, by rw [h0], by simp [u8s], hl, fun hp => by omega⟩
  · refine ⟨_, _, rfl, by simp [u8s], hl, fun _ => ⟨g, 0, rfl, lt_of_heap hg, fun j u hj => ?_⟩⟩
    simp only [World.cell?, hg, Nat.zero_add]
    rw [← ht, List.getElem?_take] at hj
    split at hj
    · simpa using hj
    · cases hj
theorem Own8.apart {w : World} {base g : Nat} {v : Value} {l : List Int} {t : TypeId} {cs : Array Value} (h : Own8 w base v l) (ht : t ≠ 5) (hg : Blk w g t cs) : v.ownBlock ≠ some g := by
  rcases h.2 with ⟨rfl, -⟩ | ⟨g', cap, cur, rfl, -, hh, -⟩
  · simp [Value.ownBlock]
  · intro e
    simp [Value.ownBlock] at e
    subst e
    unfold Blk at hg
    rw [hg] at hh
    simp at hh
    exact ht hh.2
theorem app8 (base : Nat) (v : Value) (l l' : List Int) (w : World) (hown : Own8 w base v l) (a : Addr) (m c : Nat) (hm : l'.length = m) (hnews : ∀ j u, (u8s l')[j]? = some u → w.cell? (a.add j) = some u)
    (hn : l.length + m ≤ 140737488351232) (hbase : base ≤ w.heap.size) :
    ∃ v' w', (Builtin.append_ #[51, 51] 51 #[v, .slice (some a) m c]).run Try.prog w = .ok v' w' ∧ Own8 w' base v' (l ++ l') ∧ Below base w w' ∧ (∀ g t cs, t ≠ 5 → Blk w g t cs → Blk w' g t cs) := by
  obtain ⟨i0, hi, hz0, hz1, hz2⟩ := info_parts info_u8
  obtain ⟨v', w', h1, h2, h3, -⟩ := run_append_own w base 51 51 5 i0 (.int .u8 0) 1 1 Try.underlying51 hi hz0 hz1 hz2 rfl (by decide) v l.length (u8s l) hown a m c (u8s l') (by simp [u8s, hm]) hnews
    (by intro u hu; simp [u8s] at hu; obtain ⟨x, -, rfl⟩ := hu; rfl) (by unfold maxLen; omega) (by omega) hbase
  refine ⟨v', w', h1, ?_, ⟨h3.os, h3.tape, h3.output, h3.size, fun k hk => h3.block k (by omega) fun e => ?_⟩, fun g t cs ht hg => (h3.block g hg.lt fun e => ?_).trans hg⟩
  · unfold Own8
    rw [List.length_append, hm, show u8s (l ++ l') = u8s l ++ u8s l' by simp [u8s]]
    exact h2
  · have := (World.ownsRow.lt hown) k e.symm
    omega
  · exact Own8.apart hown ht hg e.symm
end Go.Proofs.Ytnfaeafplaeehaa
