import Derived.Test.YtnfaeafplaeehaaGreatMrgA
import Derived.Laws.AppendOwn
import Derived.OwnWalk
set_option linter.unusedVariables false
set_option linter.unusedSimpArgs false
namespace Go.Proofs.YtnfaeafplaeehaaGreat
open Go.RowKit
/-! Appending to a slice of one's own, of whatever elements of one cell. -/
/-- An append whose run is known. -/
theorem wpList_appd {P : Program} {ops : Array Oper} {rest : List Oper} {o : Oper} {a : Act} {Q : Exit → Act → World → Prop} {w : World} (hgd : o.guard = none) (s x : Operand) (t u : TypeId)
    (ho : o.op = .call { callee := .builtin .append, args := #[s, x], argTypes := #[t, u] }) {v x' v' : Value} {w' : World} (hs : a.eval s = v) (hx : a.eval x = x') (hr : (Builtin.append_ #[t, u] o.type #[v, x']).run P w = .ok v' w')
    (h : wpList P ops Q rest (a.put o.dst v') w') : wpList P ops Q (o :: rest) a w := by
  refine wpList_plain hgd fun K hK => ?_
  unfold Oper.wp execOp
  simp only [ho, resolve, invoke, builtin, Sem.run_bind, Sem.run_pure, Result.andThen_ok, List.map_toArray, List.map_cons, List.map_nil, hs, hx, hr]
  exact hK _ _ h
theorem owns_below {w w' : World} {base : Nat} {e : TypeId} {v : Value} {n : Nat} {xs : List Value} (h : w.ownsRow base e 1 v n xs) (hb : Below w.heap.size w w') : w'.ownsRow base e 1 v n xs :=
  World.ownsRow.kept h (row := none) ⟨hb.os, hb.tape, hb.output, hb.size, fun k hk _ => hb.block k hk⟩ (by cases hv : v.ownBlock <;> simp)
theorem owns_row {w : World} {base : Nat} {e : TypeId} {v : Value} {n : Nat} {xs : List Value} (h : w.ownsRow base e 1 v n xs) (hl : n ≤ 140737488351232) : xs.length = n ∧ ∃ A c, v = .slice A n c ∧ n ≤ c ∧ Row w 1 A n xs := by
  obtain ⟨h1, h2⟩ := h
  simp only [Nat.mul_one] at h1
  refine ⟨h1, ?_⟩
  rcases h2 with ⟨rfl, h0⟩ | ⟨g, cap, cur, rfl, hb, hg, hc, hm, hs, ht⟩
  · exact ⟨none, 0, by rw [h0], by omega, by omega, hl, fun hp => by omega⟩
  · refine ⟨_, _, rfl, hc, by omega, hl, fun _ => ⟨g, 0, rfl, lt_of_heap hg, fun j u hj => ?_⟩⟩
    simp only [World.cell?, hg, Nat.zero_add]
    rw [← ht, List.getElem?_take] at hj
    split at hj
    · simpa using hj
    · cases hj
theorem owns_apart {w : World} {base g : Nat} {e : TypeId} {v : Value} {n : Nat} {xs : List Value} {t : TypeId} {cs : Array Value} (h : w.ownsRow base e 1 v n xs) (ht : t ≠ e) (hg : Blk w g t cs) : v.ownBlock ≠ some g := by
  rcases h.2 with ⟨rfl, -⟩ | ⟨g', cap, cur, rfl, -, hh, -⟩
  · simp [Value.ownBlock]
  · intro e
    simp [Value.ownBlock] at e
    subst e
    unfold Blk at hg
    rw [hg] at hh
    simp at hh
    exact ht hh.2
theorem app1 {P : Program} {T e : TypeId} {z : Value} {by' : Nat} (hT : P.underlying T = some (.slice e)) (hinfo : (P.info? e).map (fun i => (i.zero, i.size, i.bytes)) = some (some z, 1, by')) (hz : z.cells.size = 1) (hby : 0 < by' ∧ by' ≤ 16)
    (base : Nat) (v : Value) (n : Nat) (xs : List Value) (w : World) (hown : w.ownsRow base e 1 v n xs) (g : Nat) (c : Nat) (x : Value) (hx : w.cell? ⟨g, 0, none⟩ = some x) (hx1 : x.oneCell' = true)
    (hn : n ≤ 1000000) (hbase : base ≤ w.heap.size) :
    ∃ v' w', (Builtin.append_ #[T, T] T #[v, .slice (some ⟨g, 0, none⟩) 1 c]).run P w = .ok v' w' ∧ w'.ownsRow base e 1 v' (n + 1) (xs ++ [x]) ∧ Below base w w' ∧ (∀ g t cs, t ≠ e → Blk w g t cs → Blk w' g t cs) := by
  obtain ⟨i0, hi, hz0, hz1, hz2⟩ := info_parts hinfo
  obtain ⟨v', w', h1, h2, h3, -⟩ := run_append_own w base T T e i0 z 1 by' hT hi hz0 hz1 hz2 hz (by omega) v n xs hown ⟨g, 0, none⟩ 1 c [x] rfl (by
      intro j u hj
      match j, hj with
      | 0, hj =>
        simp only [List.getElem?_cons_zero, Option.some.injEq] at hj
        subst hj
        simpa [Go.Addr.add] using hx)
    (by intro u hu; simp only [List.mem_singleton] at hu; subst hu; exact hx1) (by unfold maxLen; omega) (by
      have : (n + 1) * by' ≤ (n + 1) * 16 := Nat.mul_le_mul_left _ hby.2
      omega) hbase
  refine ⟨v', w', h1, h2, ⟨h3.os, h3.tape, h3.output, h3.size, fun k hk => h3.block k (by omega) fun e' => ?_⟩, fun g t cs ht hg => (h3.block g hg.lt fun e' => ?_).trans hg⟩
  · have := (World.ownsRow.lt hown) k e'.symm
    omega
  · exact owns_apart hown ht hg e'.symm
end Go.Proofs.YtnfaeafplaeehaaGreat
