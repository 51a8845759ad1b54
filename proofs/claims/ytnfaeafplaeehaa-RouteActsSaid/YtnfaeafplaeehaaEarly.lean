import Derived.Test.YtnfaeafplaeehaaHead09
import Derived.Test.YtnfaeafplaeehaaPrefixes
import Derived.OwnWalk
import Derived.Laws.AppendOwn
set_option linter.unusedVariables false
set_option linter.unusedSimpArgs false
namespace Go.Proofs.Ytnfaeafplaeehaa
open Go.RowKit
/-! RouteEarly's two functions, which its walks over the prefixes call. -/
def AllAt (base ba : Nat) (W : World) (ps : List Pfx) : Prop := ∃ v, Blk W ba 63 #[v] ∧ W.ownsRow base 25 2 v ps.length (ps.flatMap Pfx.cells)
theorem ownsRow_same {w w' : World} {base : Nat} {e : TypeId} {size n : Nat} {v : Value} {xs : List Value} (h : w.ownsRow base e size v n xs) (hs : ∀ (k : Nat) (cur : Array Value), w.heap[k]? = some (Obj.cells cur e (0, 0)) → w'.heap[k]? = some (Obj.cells cur e (0, 0))) : w'.ownsRow base e size v n xs := by
  obtain ⟨h1, h2⟩ := h
  refine ⟨h1, ?_⟩
  rcases h2 with h2 | ⟨g, cap, cur, e1, e2, e3, r⟩
  · exact .inl h2
  · exact .inr ⟨g, cap, cur, e1, e2, hs g cur e3, r⟩
theorem ownsRow_below {w w' : World} {base : Nat} {e : TypeId} {size n : Nat} {v : Value} {xs : List Value} (h : w.ownsRow base e size v n xs) (hb : Below w.heap.size w w') : w'.ownsRow base e size v n xs :=
  ownsRow_same h fun k cur hk => (hb.block k (lt_of_heap hk)).trans hk
theorem AllAt.below {base ba : Nat} {W W' : World} {ps : List Pfx} (h : AllAt base ba W ps) (hb : Below W.heap.size W W') : AllAt base ba W' ps := by
  obtain ⟨v, h1, h2⟩ := h
  exact ⟨v, h1.below' hb, ownsRow_below h2 hb⟩
/-- All but rows of prefixes and their boxes. -/
def staysX : Obj → Bool
  | .cells _ t m => decide (t ≠ 63 ∧ t ≠ 25)
  | _ => true
structure KeepsX (W W' : World) : Prop where
  size : W.heap.size ≤ W'.heap.size
  same : ∀ (k : Nat) (o : Obj), W.heap[k]? = some o → staysX o = true → W'.heap[k]? = some o
theorem KeepsX.toT {W W' : World} (h : KeepsX W W') : KeepsT W W' := ⟨h.size, fun k o hk hs => h.same k o hk (by
  cases o <;> simp only [staysT, staysX] at * <;> try rfl
  rename_i cs t m
  simp only [decide_eq_true_eq] at *
  rcases hs.1 with rfl | rfl <;> decide)⟩
theorem KeepsX.tb {W W' : World} (h : KeepsX W W') {t g : Nat} {m : List (RKey × Rt)} (hT : TbAt W t g m) : TbAt W' t g m := by
  obtain ⟨h1, ⟨es, c, h2, r⟩, h3⟩ := hT
  exact ⟨h.same _ _ h1 (by simp [staysX]), ⟨es, c, h.same _ _ h2 rfl, r⟩, h3⟩
theorem pfx_info : (Try.prog.info? 25).map (fun i => (i.zero, i.size, i.bytes)) = some (some (.agg #[.int .u32 0, .int .i64 0]), 2, 16) := by kernel_rfl
set_option maxRecDepth 100000 in
set_option maxHeartbeats 1000000 in
theorem early1 (base ba : Nat) (pre : List Pfx) (x : Pfx) (W : World) (h : AllAt base ba W pre) (hN : pre.length < 1000000) (hba : base ≤ ba) (hbW : base ≤ W.heap.size) :
    Calls Try.prog 34 (#[x.val] ++ #[.pointer (some ⟨ba, 0, none⟩)]) W fun e W' => e = .returned (.bool true) ∧ AllAt base ba W' (pre ++ [x]) ∧ KeepsX W W' ∧ Below base W W' := by
  obtain ⟨xa, xl⟩ := x
  obtain ⟨v, kb, hrow⟩ := h
  simp only [Pfx.val]
  obtain ⟨i0, hi, hz0, hz1, hz2⟩ := info_parts pfx_info
  have kN := Blk.new W 25 #[.int .u32 xa, .int .i64 xl]
  have hbA := (Below.refl W.heap.size W).alloc (Nat.le_refl _) (.cells #[.int .u32 xa, .int .i64 xl] 25)
  have hb1 := kb.lt
  have b0 := kb.cell 0
  have bf := kb.frozen 0
  simp only [List.getElem?_toArray, List.getElem?_cons_zero] at b0
  have hnew : ∀ (j : Nat) (u : Value), [Value.int .u32 xa, .int .i64 xl][j]? = some u → ((W.alloc (.cells #[.int .u32 xa, .int .i64 xl] 25)).alloc (.cells #[.int .u32 xa, .int .i64 xl] 25)).cell? ((⟨W.heap.size + 1, 0, none⟩ : Addr).add j) = some u := by
    have := cells_new (W.alloc (.cells #[.int .u32 xa, .int .i64 xl] 25)) [.int .u32 xa, .int .i64 xl] 25
    rwa [World.size_alloc] at this
  replace hnew := Lib.hid hnew
  have hbo := Lib.hid (show some ba ≠ v.ownBlock from by
    rcases hrow.2 with ⟨rfl, _⟩ | ⟨g, cap, cur, rfl, _, hh, _⟩
    · simp [Value.ownBlock]
    · simp only [Value.ownBlock, ne_eq, Option.some.injEq]
      rintro rfl
      unfold Blk at kb
      rw [kb] at hh
      cases hh)
  go_enter Try.func34, Try.ntmps34
  go_wp2_with (first
    | (at_builtin; refine wpList_append_own _ rfl _ _ 63 rfl base 25 i0 (.agg #[.int .u32 0, .int .i64 0]) 2 16 Try.underlying63 hi hz0 hz1 hz2 rfl (by decide) _ _ _ rfl (ownsRow_below (ownsRow_below hrow hbA) ((Below.refl _ _).alloc (Nat.le_refl _) _)) ⟨_, 0, none⟩ 1 1 [.int .u32 xa, .int .i64 xl] rfl rfl hnew.out (by simp [Value.oneCell']) (by unfold maxLen; omega) (by omega) (by simp; omega) ?_; intro v' w3 hown' hg3 hnil3
       have hg3' : ((W.alloc (.cells #[.int .u32 xa, .int .i64 xl] 25)).alloc (.cells #[.int .u32 xa, .int .i64 xl] 25)).grownBy w3 v.ownBlock := hg3
       have hv3 : w3.heap[ba]? = some (.cells #[v] 63 (0, 0)) := (hg3'.block ba (by simp; omega) hbo.out).trans ((Below.heap_alloc _ _ ba (by simp; omega)).trans ((Below.heap_alloc _ _ ba hb1).trans kb))
       obtain ⟨hc3, hf3⟩ := cell_of_box_a hv3
       obtain ⟨g', cap', rfl⟩ : ∃ g' cap', v' = .slice (some ⟨g', 0, none⟩) (pre.length + 1) cap' := by
         rcases hown'.2 with ⟨_, h0⟩ | ⟨g', cap', cur', e, _⟩
         · exact absurd h0 (by omega)
         · exact ⟨g', cap', e⟩
       have HG := Lib.hid hg3'
       have HO := Lib.hid hown'
       have HV := Lib.hid hv3
       clear hg3 hg3' hown' hnil3 hv3))
  go_ret
  have hg3 := HG.out
  have hv3 := HV.out
  have hown' := HO.out
  have hbA2 : Below W.heap.size W ((W.alloc (.cells #[.int .u32 xa, .int .i64 xl] 25)).alloc (.cells #[.int .u32 xa, .int .i64 xl] 25)) := hbA.alloc hbA.size _
  have hoth : ∀ (k : Nat) (o : Obj), w3.heap[k]? = some o → k ≠ ba → (w3.setCell ⟨ba, 0, none⟩ (.slice (some ⟨g', 0, none⟩) (pre.length + 1) cap')).heap[k]? = some o := fun k o hk hne => (Below.heap_setCell _ _ _ _ hne).trans hk
  refine ⟨rfl, ⟨.slice (some ⟨g', 0, none⟩) (pre.length + 1) cap', ?_, ?_⟩, ⟨?_, ?_⟩, ?_⟩
  · have := Blk.set (t := 63) (cs := #[v]) hv3 0 (.slice (some ⟨g', 0, none⟩) (pre.length + 1) cap')
    simpa using this
  · have h1 : (pre ++ [(⟨xa, xl⟩ : Pfx)]).flatMap Pfx.cells = pre.flatMap Pfx.cells ++ [.int .u32 xa, .int .i64 xl] := by simp [Pfx.cells]
    rw [h1, List.length_append, List.length_singleton]
    refine ownsRow_same hown' fun k cur hk => hoth k _ hk ?_
    rintro rfl
    rw [hv3] at hk
    cases hk
  · refine Nat.le_trans (Nat.le_trans hbA2.size hg3.size) (by simp [World.setCell])
  · intro k o hk hs
    have hkl := lt_of_heap hk
    have hkb : k ≠ ba := by
      rintro rfl
      unfold Blk at kb
      rw [kb] at hk
      cases hk
      simp [staysX] at hs
    refine hoth k o ?_ hkb
    refine (hg3.block k (Nat.lt_of_lt_of_le hkl hbA2.size) ?_).trans ((hbA2.block k hkl).trans hk)
    rcases hrow.2 with ⟨rfl, _⟩ | ⟨g, cap, cur, rfl, _, hh, _⟩
    · simp [Value.ownBlock]
    · simp only [Value.ownBlock, ne_eq, Option.some.injEq]
      rintro rfl
      rw [hk] at hh
      cases hh
      simp [staysX] at hs
  · refine (((Below.refl base W).trans (hbA2.mono hbW)).grown hg3 (Nat.le_trans hbW hbA2.size) ?_).setCell hba _
    intro k e
    rcases hrow.2 with ⟨rfl, _⟩ | ⟨g, cap, cur, rfl, hg, _⟩
    · simp [Value.ownBlock] at e
    · simp only [Value.ownBlock, Option.some.injEq] at e
      omega
end Go.Proofs.Ytnfaeafplaeehaa
