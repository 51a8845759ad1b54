import Derived.Test.YtnfaeafplaeehaaKeyCmp
import Derived.Test.YtnfaeafplaeehaaRKey
import Derived.Shelf.SlSortCmp.NoneTotal
set_option linter.unusedVariables false
set_option linter.unusedSimpArgs false
namespace Go.Proofs.Ytnfaeafplaeehaa
open Go.RowKit Go.ChangeMaps Go.Shelf
/-! The table's keys: a prefix and a neighbour; collected, and sorted by the prefix alone. -/
instance : Inhabited RKey := ⟨⟨0, 0, 0⟩⟩
set_option maxRecDepth 100000 in
set_option maxHeartbeats 2000000 in
theorem keysRt_in (F : Fence) (n : Nat) (hF : F.fn 99) (hro : F.round = none) (hn : 1 ≤ n) (l Bm b : Nat) (m : List (RKey × Rt)) (J : List RKey → World → Prop)
    (hY : ∀ pre x W, J pre W → pre.length < m.length → YieldAt F (n - 1) Try.prog l #[RKey.val x] W fun e W' => e = .returned (.bool true) ∧ J (pre ++ [x]) W' ∧ KeepsWalks W W')
    (W : World) (hJ : AbidesFrom W.heap.size J) (hm : W.cell? ⟨Bm, 0, none⟩ = some (.map (some b))) (hown : MapAt W b RKey.val Rt.val m) (h0 : J [] W) :
    CallsIn F n Try.prog 99 #[.func (.yield l) #[] #[], .pointer (some ⟨Bm, 0, none⟩)] W fun e W' => (∃ v, e = .returned v) ∧ ∃ ss : List RKey, ss.Perm (m.map (·.1)) ∧ J ss W' := by
  obtain ⟨es, clock, hb, hes, hborn, hnd⟩ := hown
  have hrg := run_range_map (P := Try.prog) W 136 140 68 b es clock Try.underlying136 hb
  have hbl := lt_of_heap hb
  refine callsIn_of_wp Try.func99 rfl hF ?_ hro
  simp only [Try.ntmps99, List.size_toArray, List.length_cons, List.length_nil, Nat.reduceAdd, Nat.reduceSub, Array.replicate_succ, Array.replicate_zero, List.push_toArray, List.append_toArray, List.nil_append, List.cons_append]
  have hkeys : ((leftOf es #[]).toList.map (·.key)) = (m.map (·.1)).map RKey.val := by
    rw [left_all]
    have := congrArg (List.map Prod.fst) hes
    simpa [Function.comp_def] using this
  have hsz : es.toList.length = m.length := by simpa using congrArg List.length hes
  have HES := Lib.hid hes
  have HK := Lib.hid hkeys
  have HSZ := Lib.hid hsz
  have hW0 : J [] (W.alloc (.mapIter (some b) clock #[] clock)) := hJ [] W _ none h0 (World.grownBy_alloc W _ none) (fun r e => by cases e)
  have hr0 := heap_new W (.mapIter (some b) clock #[] clock)
  have hb0 : (W.alloc (.mapIter (some b) clock #[] clock)).heap[b]? = some (.map es clock) := (Below.heap_alloc W _ b hbl).trans hb
  clear hes hkeys hsz
  gi_wp2
  gi_loopw [3] (fun _ wr => ∃ (seen : Array Nat) (ss ks : List RKey), wr.heap[W.heap.size]? = some (.mapIter (some b) clock seen clock) ∧ wr.heap[b]? = some (.map es clock) ∧ (leftOf es seen).toList.map (·.key) = ks.map RKey.val ∧ (ss ++ ks).Perm (m.map (·.1)) ∧ J ss wr) (fun _ wr => iterLeft wr b W.heap.size)
  case atStart => exact ⟨#[], [], m.map (·.1), hr0, hb0, HK.out, by simp, hW0⟩
  case round =>
    clear hr0 hb0 hW0 hrg
    obtain ⟨seen, ss, ks, hr, hbm, hk, hp, hJs⟩ := hrel
    have HKs := Lib.hid hk
    have HP := Lib.hid hp
    have hlr := lt_of_heap hr
    rcases run_next_at (P := Try.prog) wr 0 W.heap.size b clock clock seen es clock hr hbm hborn (Nat.le_refl _) with ⟨hz, hnx⟩ | ⟨e, he, w1, hw1, hnx⟩
    · have hks : ks = [] := by
        have h1 := congrArg List.length hk
        simp only [List.length_map, Array.length_toList] at h1
        exact List.eq_nil_of_length_eq_zero (by omega)
      subst hks
      clear hk hp
      gi_wp2
      go_end0
      exact ⟨⟨_, rfl⟩, ss, by simpa using HP.out, hJs⟩
    · obtain ⟨ks', hp2, hk2⟩ := perm_lift (left_step es seen e he hnd) ks hk
      match ks', hk2 with
      | [], hk2 => simp at hk2
      | k :: ks', hk2 =>
        simp only [List.map_cons, List.cons.injEq] at hk2
        obtain ⟨hek, hk3⟩ := hk2
        have HK3 := Lib.hid hk3
        have hlen : ss.length < m.length := by
          have h1 := hp.length_eq
          have h2 := hp2.length_eq
          simp at h1 h2
          omega
        have HP3 := Lib.hid (show ((ss ++ [k]) ++ ks').Perm (m.map (·.1)) from (by
          rw [List.append_assoc]
          exact (hp2.symm.append_left ss).trans hp))
        obtain ⟨w2, hw2⟩ : ∃ w2, setBlock w1 W.heap.size (.mapIter (some b) clock (seen.push e.born) clock) = w2 := ⟨_, rfl⟩
        rw [hw2] at hnx
        have hh1 : w1.heap = wr.heap := by rcases hw1 with rfl | rfl <;> rfl
        have hr2 : w2.heap[W.heap.size]? = some (.mapIter (some b) clock (seen.push e.born) clock) := by rw [← hw2]; exact heap_setBlock_same (by rw [hh1]; exact hlr)
        have hb2 : w2.heap[b]? = some (.map es clock) := by rw [← hw2, heap_setBlock_other (Nat.ne_of_lt hbl), hh1]; exact hbm
        have hg2 : wr.grownBy w2 (some W.heap.size) := by
          rw [← hw2]
          rcases hw1 with rfl | rfl
          · exact grownBy_setBlock _ _ _
          · exact ⟨rfl, rfl, rfl, by simp [setBlock], fun k hk he => heap_setBlock_other (fun e => he (by rw [e]))⟩
        have hJ2 : J ss w2 := hJ ss wr w2 (some W.heap.size) hJs hg2 (fun r e => by cases e; exact ⟨Nat.le_refl _, _, hr, rfl⟩)
        have hen := run_entry_at (P := Try.prog) w2 W.heap.size b clock seen es clock e hr2 hb2 (left_mem es seen e he) hnd
        have hme := iterLeft_eq hbm hr
        have hlt2 : ks'.length + 1 = (leftOf es seen).toList.length := by
          have h1 := congrArg List.length hk
          have h2 := hp2.length_eq
          simp only [List.length_map, List.length_cons] at h1 h2
          omega
        rw [hek] at hen hnx
        obtain ⟨xa, xl, xn⟩ := k
        simp only [RKey.val] at hen hnx
        have HME := Lib.hid hme
        have HL2 := Lib.hid hlt2
        clear hw2 hg2 hh1 hw1 hk hp hp2 hk3 hme hlt2 hek he
        obtain ⟨w3, hw3⟩ : ∃ w3, w2.alloc (.cells #[.int .u32 xa, .int .i64 xl, .int .i64 xn] 140) = w3 := ⟨_, rfl⟩
        have hJ3 : J ss w3 := by rw [← hw3]; exact hJ ss w2 _ none hJ2 (World.grownBy_alloc w2 _ none) (fun r e => by cases e)
        have hr3 : w3.heap[W.heap.size]? = some (.mapIter (some b) clock (seen.push e.born) clock) := by rw [← hw3]; exact (Below.heap_alloc w2 _ _ (lt_of_heap hr2)).trans hr2
        have hb3 : w3.heap[b]? = some (.map es clock) := by rw [← hw3]; exact (Below.heap_alloc w2 _ _ (lt_of_heap hb2)).trans hb2
        obtain ⟨fn, tmps, assign, body, hy, hR⟩ := hY ss ⟨xa, xl, xn⟩ w3 hJ3 hlen
        simp only [RKey.val] at hy
        rw [← hw3] at hy
        have HW3 := Lib.hid hw3
        clear hw3
        gi_wp2
        rw [HW3.out]
        refine hR.mono ?_
        rintro e4 W4 ⟨rfl, hJ4, hk4⟩
        have hr4 := hk4.same _ _ hr3 rfl
        have hb4 := hk4.same _ _ hb3 rfl
        gi_wp2
        go_roundw
        case rel => exact ⟨seen.push e.born, ss ++ [⟨xa, xl, xn⟩], ks', hr4, hb4, HK3.out, HP3.out, hJ4⟩
        case measure =>
          rw [iterLeft_eq hb4 hr4, HME.out, ← HL2.out]
          have := congrArg List.length HK3.out
          simp only [List.length_map] at this
          omega
def apRt_assign : Code := (Code.region 2 #[{ dst := some 5, op := Op.alloc 140, type := 0, pos := "iter.go:51", after := #[], guard := none }, { dst := none, op := Op.store 140 (Operand.tmp 5) (Operand.tmp 7), type := 0, pos := "iter.go:51", after := #[{ on := 0, ground := Ground.data }, { on := 0, ground := Ground.phase }], guard := none }] false)
def apRt_body : Code := (Code.block 1 (Code.region 3 #[{ dst := some 8, op := Op.load 141 (Operand.tmp 2), type := 141, pos := "iter.go:52", after := #[], guard := none }, { dst := some 9, op := Op.load 140 (Operand.tmp 5), type := 140, pos := "iter.go:52", after := #[], guard := none }, { dst := some 10, op := Op.buildSlice 141 1 #[(0, Operand.tmp 9)], type := 141, pos := "iter.go:52", after := #[{ on := 1, ground := Ground.data }], guard := none },
  { dst := some 11, op := Op.call { callee := Callee.builtin Builtin.append, args := #[Operand.tmp 8, Operand.tmp 10], argTypes := #[141, 141] }, type := 141, pos := "iter.go:52", after := #[{ on := 0, ground := Ground.data }, { on := 2, ground := Ground.data }], guard := none },
  { dst := none, op := Op.store 141 (Operand.tmp 2) (Operand.tmp 11), type := 0, pos := "iter.go:52", after := #[{ on := 3, ground := Ground.data }, { on := 3, ground := Ground.chain }, { on := 0, ground := Ground.phase }, { on := 1, ground := Ground.phase }, { on := 2, ground := Ground.phase }, { on := 3, ground := Ground.phase }], guard := none }] false))
def apRt_rec (fn : FuncId) (sv : Value) (Bs D : Nat) (st : LoopState) (pend : Option Code) : Loop :=
  { state := st, pending := pend, fn, tmps := #[.slice none 0 0, sv, .pointer (some ⟨Bs, 0, none⟩), undef, .slice none 0 0, undef, sv, undef, undef, undef, undef, undef, undef], params := #[7], assign := apRt_assign, body := apRt_body, defers := D }
theorem apRt_info : (Try.prog.info? 140).map (fun i => (i.zero, i.size, i.bytes)) = some (some (.agg #[.int .u32 0, .int .i64 0, .int .i64 0]), 3, 24) := by kernel_rfl
set_option maxRecDepth 100000 in
set_option maxHeartbeats 4000000 in
theorem apRt_yield (F : Fence) (m : Nat) (w0 : World) (fn : FuncId) (hfn : F.fn fn) (sv : Value) (Bs l D : Nat) (hBl : Bs ≠ l) (hDl : D ≠ l) (hDB : D ≠ Bs) (h0B : w0.heap.size ≤ Bs) (h0l : w0.heap.size ≤ l)
    (N : Nat) (hN : N ≤ 1000000) (ss : List RKey) (x : RKey) (W : World) (h : ApAt 141 140 3 RKey.cells (apRt_rec fn sv Bs D .ready none) w0 Bs l D ss W) (hlen : ss.length < N) :
    YieldAt F m Try.prog l #[RKey.val x] W fun e W' => e = .returned (.bool true) ∧ ApAt 141 140 3 RKey.cells (apRt_rec fn sv Bs D .ready none) w0 Bs l D (ss ++ [x]) W' ∧ KeepsWalks W W' := by
  have hne : 141 ≠ 140 := by decide
  obtain ⟨i0, hi, hz0, hz1, hz2⟩ := info_parts apRt_info
  refine ⟨fn, #[.slice none 0 0, sv, .pointer (some ⟨Bs, 0, none⟩), undef, .slice none 0 0, undef, sv, RKey.val x, undef, undef, undef, undef, undef], apRt_assign, apRt_body, by simpa [apRt_rec] using run_yield (P := Try.prog) (args := #[RKey.val x]) h.L rfl, roundIn_of_wpIn hfn ?_⟩
  obtain ⟨xa, xl, xn⟩ := x
  simp only [RKey.val]
  obtain ⟨WA, hWA⟩ : ∃ WA, W.alloc (.cells #[.int .u32 xa, .int .i64 xl, .int .i64 xn] 140) = WA := ⟨_, rfl⟩
  have hA : ApAt 141 140 3 RKey.cells (apRt_rec fn sv Bs D .ready none) w0 Bs l D ss WA := by
    rw [← hWA]
    exact ap_abides _ _ _ _ _ w0 Bs l D w0.heap.size (Nat.le_refl _) ss W _ none h (World.grownBy_alloc W _ none) (fun r e => by cases e)
  have hkA : KeepsWalks W WA := by rw [← hWA]; exact KeepsWalks.alloc _ _
  have kN : Blk WA W.heap.size 140 #[.int .u32 xa, .int .i64 xl, .int .i64 xn] := by rw [← hWA]; exact Blk.new W _ _
  have hlN : l ≠ W.heap.size := Nat.ne_of_lt (lt_of_heap h.L)
  have hbN := h.below.size
  clear h
  have hl : l < WA.heap.size := lt_of_heap hA.L
  have hbr := run_beginRound (P := Try.prog) hA.L rfl
  obtain ⟨v, hv, hrow, _⟩ := hA.box
  obtain ⟨W2, hW2⟩ : ∃ W2, WA.putObj l (.loop { apRt_rec fn sv Bs D .ready none with state := .busy }) = W2 := ⟨_, rfl⟩
  rw [hW2] at hbr
  have hg2 : WA.grownBy W2 (some l) := by rw [← hW2]; exact grownBy_putObj_a _ _ _
  have hk2 : KeepsWalks WA W2 := by rw [← hW2]; exact KeepsWalks.putObj _ hA.L rfl
  have hv2 : W2.heap[Bs]? = some (.cells #[v] 141 (0, 0)) := by rw [← hW2]; exact (World.putObj_heap_other hBl).trans hv
  have hK2 : W2.heap[D]? = some (.deferred (some [])) := by rw [← hW2]; exact (World.putObj_heap_other hDl).trans hA.D
  have hL2 : W2.heap[l]? = some (.loop { apRt_rec fn sv Bs D .ready none with state := .busy }) := by rw [← hW2]; exact World.putObj_heap_same hl
  have kN2 : Blk W2 W.heap.size 140 #[.int .u32 xa, .int .i64 xl, .int .i64 xn] := by rw [← hW2]; exact (World.putObj_heap_other (Ne.symm hlN)).trans kN
  have hrow2 : W2.ownsRow w0.heap.size 140 3 v ss.length (ss.flatMap RKey.cells) := hrow.kept hg2 (ownsRow_ne_a hrow hA.L (fun cur e => by first | cases e | exact hne (Obj.cells.inj e).2.1))
  have hb2 : Below w0.heap.size w0 W2 := hA.below.grown hg2 hA.below.size (fun k e => by cases e; exact h0l)
  obtain ⟨hc2, hf2⟩ := cell_of_box_a hv2
  have hBlt : Bs < W2.heap.size := lt_of_heap hv2
  have hl2 : l < W2.heap.size := lt_of_heap hL2
  have hDlt : D < W2.heap.size := lt_of_heap hK2
  have ne_of : ∀ {j : Nat} {o : Obj}, W2.heap[j]? = some o → (∀ cur, o ≠ .cells cur 140 (0, 0)) → some j ≠ v.ownBlock := fun hj hno => by
    rcases ownsRow_ne_a hrow2 hj hno with e | e
    · rw [e]; simp
    · exact fun e' => e e'.symm
  have hkk := (hkA.trans hk2).trans (KeepsWalks.alloc W2 (.cells #[.int .u32 xa, .int .i64 xl, .int .i64 xn] 140))
  have HWA := Lib.hid hWA
  clear hW2 hWA hA hrow hv hkA hk2 hg2 kN
  unfold apRt_assign
  gi_wp2_with gi_round_op_a
  rw [HWA.out]
  refine ⟨W2, hbr, ?_⟩
  unfold apRt_body
  have n0 := kN2.cell 0
  have n1 := kN2.cell 1
  have n2 := kN2.cell 2
  have n3 := kN2.cell 3
  simp only [List.getElem?_toArray, List.getElem?_cons_zero, List.getElem?_cons_succ, List.getElem?_nil] at n0 n1 n2 n3
  have hNlt := kN2.lt
  gi_wp2_with (first
    | (gi_at_builtin; refine wpListIn_append_own _ rfl _ _ 141 rfl w0.heap.size 140 i0 (.agg #[.int .u32 0, .int .i64 0, .int .i64 0]) 3 24 Try.underlying141 hi hz0 hz1 hz2 rfl (by decide) _ _ _ rfl (hrow2.alloc _) ⟨W2.heap.size, 0, none⟩ 1 1 (#[.int .u32 xa, .int .i64 xl, .int .i64 xn]).toList rfl rfl (cells_new _ _ _) (by simp [Value.oneCell']) (by unfold maxLen; omega) (by omega) (by have := hb2.size; simp; omega) ?_; intro v' w3 hown' hg3 hnil3
       have hv3 : w3.heap[Bs]? = some (.cells #[v] 141 (0, 0)) := (hg3.block Bs (by simp; omega) (ne_of hv2 (fun cur e => by first | cases e | exact hne (Obj.cells.inj e).2.1))).trans ((Below.heap_alloc _ _ Bs hBlt).trans hv2)
       obtain ⟨hc3, hf3⟩ := cell_of_box_a hv3
       obtain ⟨g', cap', cur', rfl, hbase', hgb', hr1, hr2, hr3, hr4⟩ : ∃ g' cap' cur', v' = .slice (some ⟨g', 0, none⟩) (ss.length + 1) cap' ∧ w0.heap.size ≤ g' ∧ w3.heap[g']? = some (.cells cur' 140 (0, 0)) ∧ ss.length + 1 ≤ cap' ∧ cap' ≤ maxLen ∧ cur'.size = cap' * 3 ∧ cur'.toList.take ((ss.length + 1) * 3) = ss.flatMap RKey.cells ++ (#[.int .u32 xa, .int .i64 xl, .int .i64 xn]).toList := by
         rcases hown'.2 with ⟨_, h0⟩ | h'
         · exact absurd h0 (by omega)
         · exact h'
       go_frame)
    | gi_round_op_a)
  have hg3' : (W2.alloc (.cells #[.int .u32 xa, .int .i64 xl, .int .i64 xn] 140)).grownBy w3 v.ownBlock := hg3
  have hL3 : w3.heap[l]? = some (.loop { apRt_rec fn sv Bs D .ready none with state := .busy }) := (hg3'.block l (by simp; omega) (ne_of hL2 (fun cur e => by first | cases e | exact hne (Obj.cells.inj e).2.1))).trans ((Below.heap_alloc _ _ l hl2).trans hL2)
  have hK3 : w3.heap[D]? = some (.deferred (some [])) := (hg3'.block D (by simp; omega) (ne_of hK2 (fun cur e => by first | cases e | exact hne (Obj.cells.inj e).2.1))).trans ((Below.heap_alloc _ _ D hDlt).trans hK2)
  obtain ⟨w4, hw4⟩ : ∃ w4, w3.setCell ⟨Bs, 0, none⟩ (.slice (some ⟨g', 0, none⟩) (ss.length + 1) cap') = w4 := ⟨_, rfl⟩
  rw [hw4]
  have hg4 : w3.grownBy w4 (some Bs) := by rw [← hw4]; exact grownBy_setCell0_a _ _ _
  have hv4 : w4.heap[Bs]? = some (.cells #[.slice (some ⟨g', 0, none⟩) (ss.length + 1) cap'] 141 (0, 0)) := by rw [← hw4]; exact heap_setCell_box_a _ hv3
  have hL4 : w4.heap[l]? = some (.loop { apRt_rec fn sv Bs D .ready none with state := .busy }) := (hg4.block l (lt_of_heap hL3) (fun e => hBl (by cases e; rfl))).trans hL3
  have hK4 : w4.heap[D]? = some (.deferred (some [])) := (hg4.block D (lt_of_heap hK3) (fun e => hDB (by cases e; rfl))).trans hK3
  have hrow4 := hown'.kept hg4 (ownsRow_ne_a hown' hv3 (fun cur e => by first | cases e | exact hne (Obj.cells.inj e).2.1))
  have hl4 : l < w4.heap.size := lt_of_heap hL4
  have hb3 : Below w0.heap.size w0 w3 := (hb2.alloc hb2.size _).grown hg3' (by have := hb2.size; simp; omega) (fun k e => (hrow2.lt k e).1)
  have hb4 : Below w0.heap.size w0 w4 := hb3.grown hg4 hb3.size (fun k e => by cases e; exact h0B)
  have hk4 : KeepsWalks W w4 := (hkk.trans (KeepsWalks.of_grownBy hg3' (ownsRow_not_walk_a (hrow2.alloc _)))).trans (by rw [← hw4]; exact KeepsWalks.setCell _ _ _)
  clear hw4
  refine ⟨_, _, run_endRound none hL4, rfl, ⟨⟨_, (World.putObj_heap_other hBl).trans hv4, ?_, by simp⟩, World.putObj_heap_same hl4, (World.putObj_heap_other hDl).trans hK4, hb4.grown (grownBy_putObj_a _ _ _) hb4.size (fun k e => by cases e; exact h0l)⟩, hk4.trans (KeepsWalks.putObj _ hL4 rfl)⟩
  have := hrow4.kept (grownBy_putObj_a w4 l (.loop { { apRt_rec fn sv Bs D .ready none with state := .busy } with state := if (none : Option Code).isNone then .ready else .done, pending := none })) (ownsRow_ne_a hrow4 hL4 (fun cur e => by first | cases e | exact hne (Obj.cells.inj e).2.1))
  simpa [RKey.cells] using this
set_option maxRecDepth 100000 in
set_option maxHeartbeats 4000000 in
theorem apRt_in (F : Fence) (n : Nat) (h11 : F.fn 117) (hro : F.round = none) (hn : 2 ≤ n) (g : Nat) (lb : Array Value) (hFg : F.fn g) (eg : ∀ args w, (callFunc g args).run Try.prog w = .ok (.enter g args) w)
    (S : List RKey → Prop) (N : Nat) (hN : N ≤ 1000000) (w : World) (hseq : SeqGives F (n - 1) Try.prog g lb RKey.val S N w) :
    CallsIn F n Try.prog 117 #[.slice none 0 0, .func (.func g) #[] lb] w fun e w' => ∃ (v : Value) (ss : List RKey), e = .returned v ∧ S ss ∧ w'.ownsRow w.heap.size 140 3 v ss.length (ss.flatMap RKey.cells) ∧ (v = .slice none 0 0 ↔ ss = []) ∧ Below w.heap.size w w' := by
  have h1 : 1 ≤ n := by omega
  have hne : 141 ≠ 140 := by decide
  refine callsIn_of_wp_marks Try.func117 rfl h11 ?_ hro
  simp only [Try.ntmps117, List.size_toArray, List.length_cons, List.length_nil, Nat.reduceAdd, Nat.reduceSub, Array.replicate_succ, Array.replicate_zero, List.push_toArray, List.append_toArray, List.nil_append, List.cons_append]
  gi_wp2
  refine wpIn_rangeFunc ?_
  intro fn hfn
  rw [hro]
  obtain ⟨W0, hW0⟩ : ∃ W0, w.alloc (.cells #[.slice none 0 0] 141) = W0 := ⟨_, rfl⟩
  have hs0 : W0.heap.size = w.heap.size + 1 := by rw [← hW0]; simp
  have hv0 : W0.heap[w.heap.size]? = some (.cells #[.slice none 0 0] 141 (0, 0)) := by rw [← hW0]; exact heap_new w _
  have hb0 : Below w.heap.size w W0 := by rw [← hW0]; exact (Below.refl _ w).alloc (Nat.le_refl _) _
  rw [hW0]
  obtain ⟨W1, hW1⟩ : ∃ W1, (W0.alloc (.deferred (some []))).alloc (.loop (apRt_rec fn (.func (.func g) #[] lb) w.heap.size W0.heap.size .ready none)) = W1 := ⟨_, rfl⟩
  have hold : ∀ k, k < W0.heap.size → W1.heap[k]? = W0.heap[k]? := fun k hk => by
    rw [← hW1]; exact (Below.heap_alloc _ _ k (by simp; omega)).trans (Below.heap_alloc _ _ k hk)
  have hb1 : Below w.heap.size w W1 := by rw [← hW1]; exact (hb0.alloc hb0.size _).alloc (by have := hb0.size; simp; omega) _
  have hs1 : W1.heap.size = W0.heap.size + 2 := by rw [← hW1]; simp
  have hM : ApAt 141 140 3 RKey.cells (apRt_rec fn (.func (.func g) #[] lb) w.heap.size W0.heap.size .ready none) w w.heap.size (W0.heap.size + 1) W0.heap.size ([] : List RKey) W1 :=
    ⟨⟨_, (hold w.heap.size (by omega)).trans hv0, ⟨rfl, .inl ⟨rfl, rfl⟩⟩, by simp⟩,
     by rw [← hW1]; have := heap_new (W0.alloc (.deferred (some []))) (.loop (apRt_rec fn (.func (.func g) #[] lb) w.heap.size W0.heap.size .ready none)); rwa [World.size_alloc] at this,
     by rw [← hW1]; exact (Below.heap_alloc _ _ _ (by simp)).trans (heap_new W0 _), hb1⟩
  refine ⟨W0.heap.size + 1, [{ target := .collected W0.heap.size, args := #[] }], W1, { target := .fn (.func g) lb, args := #[.func (.yield (W0.heap.size + 1)) #[] #[]] }, W1, g,
    #[.func (.yield (W0.heap.size + 1)) #[] #[]] ++ lb, W1, ?_, ?_, ?_, ?_, fun _ => h1, ?_⟩
  · rw [← hW1]; exact run_enterLoop_outer _ _ _ _ _
  · simp [resolve, go_sem]
  · intro f' hf'; simp [Target.leads] at hf'; subst hf'; exact hFg
  · simp [invoke, go_sem, eg]
  · refine (hseq (W0.heap.size + 1) (ApAt 141 140 3 RKey.cells (apRt_rec fn (.func (.func g) #[] lb) w.heap.size W0.heap.size .ready none) w w.heap.size (W0.heap.size + 1) W0.heap.size) W1 hb1 (ap_abides _ _ _ _ _ _ _ _ _ _ hb1.size)
      (fun pre x W hJ hl => apRt_yield F (n - 1 - 1) w fn hfn _ w.heap.size (W0.heap.size + 1) W0.heap.size (by omega) (by omega) (by omega) (Nat.le_refl _) (by omega) N hN pre x W hJ hl) hM).mono ?_
    rintro e W2 ⟨⟨v0, rfl⟩, ss, hS, h2⟩
    obtain ⟨v, hv, hrow, hnil⟩ := h2.box
    have hend := run_endLoop (P := Try.prog) h2.L (by simp [apRt_rec])
    obtain ⟨W3, hW3⟩ : ∃ W3, W2.putObj (W0.heap.size + 1) (.loop { apRt_rec fn (.func (.func g) #[] lb) w.heap.size W0.heap.size .ready none with state := .exhausted }) = W3 := ⟨_, rfl⟩
    rw [hW3] at hend
    have hg3 : W2.grownBy W3 (some (W0.heap.size + 1)) := by rw [← hW3]; exact grownBy_putObj_a _ _ _
    have hv3 : W3.heap[w.heap.size]? = some (.cells #[v] 141 (0, 0)) := by rw [← hW3]; exact (World.putObj_heap_other (by omega)).trans hv
    have hK3 : W3.heap[W0.heap.size]? = some (.deferred (some [])) := by rw [← hW3]; exact (World.putObj_heap_other (by omega)).trans h2.D
    have hrow3 := hrow.kept hg3 (ownsRow_ne_a hrow h2.L (fun cur e => by first | cases e | exact hne (Obj.cells.inj e).2.1))
    have hb3 : Below w.heap.size w W3 := h2.below.grown hg3 h2.below.size (fun k e => by cases e; omega)
    obtain ⟨hc3, hf3⟩ := cell_of_box_a hv3
    clear hW3
    refine ⟨none, W3, hend, ?_⟩
    gi_wp2
    rw [← hs0]
    refine ⟨by simp, .inl ⟨_, _, rfl, run_takeDeferred hK3, ?_⟩⟩
    exact ⟨_, results_tmp rfl _ _ _, v, ss, rfl, hS, hrow3.kept (grownBy_putObj_a _ _ _) (ownsRow_ne_a hrow3 hK3 (fun cur e => by first | cases e | exact hne (Obj.cells.inj e).2.1)), hnil, hb3.grown (grownBy_putObj_a _ _ _) hb3.size (fun k e => by cases e; omega)⟩
set_option maxHeartbeats 1000000 in
theorem apRt_collect (F : Fence) (n : Nat) (h8 : F.fn 97) (h11 : F.fn 117) (hro : F.round = none) (hn : 3 ≤ n) (g : Nat) (lb : Array Value) (hFg : F.fn g) (eg : ∀ args w, (callFunc g args).run Try.prog w = .ok (.enter g args) w)
    (S : List RKey → Prop) (N : Nat) (hN : N ≤ 1000000) (w : World) (hseq : SeqGives F (n - 1 - 1) Try.prog g lb RKey.val S N w) :
    CallsIn F n Try.prog 97 #[.func (.func g) #[] lb] w fun e w' => ∃ (v : Value) (ss : List RKey), e = .returned v ∧ S ss ∧ w'.ownsRow w.heap.size 140 3 v ss.length (ss.flatMap RKey.cells) ∧ (v = .slice none 0 0 ↔ ss = []) ∧ Below w.heap.size w w' := by
  have h1 : 1 ≤ n := by omega
  refine callsIn_of_wp Try.func97 rfl h8 ?_ hro
  simp only [Try.ntmps97, List.size_toArray, List.length_cons, List.length_nil, Nat.reduceAdd, Nat.reduceSub, Array.replicate_succ, Array.replicate_zero, List.push_toArray, List.append_toArray, List.nil_append, List.cons_append]
  gi_wp2_with (gi_at_call 117; refine (apRt_in F (n - 1) h11 hro (by omega) g lb hFg eg S N hN _ hseq).mono ?_; rintro e w' ⟨v, ss, rfl, hS, hrow, hnil, hb⟩)
  go_ret
  exact ⟨v, ss, rfl, hS, hrow, hnil, hb⟩
def rkCf (x y : RKey) : Int := pcmp x.a x.l y.a y.l
theorem rkCmp (x y : RKey) (w : World) : Calls Try.prog 69 #[.agg x.cells.toArray, .agg y.cells.toArray] w fun e w' => e = .returned (.int .i64 (rkCf x y)) ∧ ∃ q os', w' = Go.Sort.grow (w.drewN q) os' := by
  obtain ⟨a, l, i⟩ := x
  obtain ⟨c, m, j⟩ := y
  simp only [RKey.cells, rkCf]
  have kA := (Blk.new w 140 #[.int .u32 a, .int .i64 l, .int .i64 i]).alloc (.cells #[.int .u32 c, .int .i64 m, .int .i64 j] 140)
  have kB := Blk.new (w.alloc (.cells #[.int .u32 a, .int .i64 l, .int .i64 i] 140)) 140 #[.int .u32 c, .int .i64 m, .int .i64 j]
  simp only [World.size_alloc] at kB
  have hA := kA.lt
  have hB := kB.lt
  have p0 := kA.cell 0
  have p1 := kA.cell 1
  have p2 := kA.cell 2
  simp only [List.getElem?_toArray, List.getElem?_cons_zero, List.getElem?_cons_succ] at p0 p1 p2
  have q0 := kB.cell 0
  have q1 := kB.cell 1
  have q2 := kB.cell 2
  simp only [List.getElem?_toArray, List.getElem?_cons_zero, List.getElem?_cons_succ] at q0 q1 q2
  go_enter Try.func69, Try.ntmps69
  go_wp2_with fail
  refine (addr_Compare_grow _ _ _ _ _).mono ?_
  rintro e w1 ⟨rfl, n1, os1, h1⟩
  have H1 := Lib.hid h1
  clear h1
  go_wp2
  go_ret
  refine ⟨rfl, n1, #[.cells #[.int .u32 a, .int .i64 l, .int .i64 i] 140, .cells #[.int .u32 c, .int .i64 m, .int .i64 j] 140] ++ os1, ?_⟩
  rw [H1.out]
  simp only [Go.Sort.alloc_eq_grow, Go.Sort.grow_grow, drewN_grow]
  rfl
theorem rkLt (x y : RKey) : ltOf rkCf x y = decide (x.a < y.a ∨ (x.a = y.a ∧ x.l < y.l)) := by
  unfold ltOf rkCf pcmp aorI acmpI
  congr 1
  refine propext ?_
  split <;> split <;> (try split) <;> (try split) <;> omega
theorem rkSWO : Go.Sort.SWO (ltOf rkCf) where
  irrefl x := by rw [rkLt]; simp
  trans x y z h1 h2 := by rw [rkLt] at *; simp at *; omega
  ntrans x y z h1 h2 := by rw [rkLt] at *; simp at *; omega
open Go.Sort Go.Lib
theorem sRt_gives (F : Fence) (n : Nat) (hF : F.fn 99) (hro : F.round = none) (hn : 1 ≤ n) (Bm b : Nat) (m : List (RKey × Rt)) (w : World) (hB : Bm < w.heap.size) (hm : w.cell? ⟨Bm, 0, none⟩ = some (.map (some b))) (hown : MapAt w b RKey.val Rt.val m) :
    SeqGives F n Try.prog 99 #[.pointer (some ⟨Bm, 0, none⟩)] RKey.val (fun ss => ss.Perm (m.map (·.1))) m.length w := by
  intro l J W hW hJ hY h0
  have hc : W.cell? ⟨Bm, 0, none⟩ = some (.map (some b)) := (hW.cell (show (⟨Bm, 0, none⟩ : Addr).block < w.heap.size from hB)).trans hm
  refine (keysRt_in F n hF hro hn l Bm b m J hY W hJ hc (hown.below hW) h0).mono ?_
  rintro e W' ⟨he, ss, hs, hJs⟩
  exact ⟨he, ss, hs, hJs⟩
theorem sRt_cmps (blk off size : Nat) (w : World) : CmpLays Try.prog 69 #[] RKey.cells 3 rkCf blk off size w :=
  fun _ _ _ _ x y => rkCmp x y _
set_option maxHeartbeats 1000000 in
theorem sRt_func (Bm b : Nat) (m : List (RKey × Rt)) (w : World) (hB : Bm < w.heap.size) (hm : w.cell? ⟨Bm, 0, none⟩ = some (.map (some b))) (hown : MapAt w b RKey.val Rt.val m) (hN : m.length ≤ 1000000) :
    Calls Try.prog 67 #[.func (.func 99) #[] #[.pointer (some ⟨Bm, 0, none⟩)], .func (.func 69) #[] #[]] w fun e w' => ∃ (ad : Option Addr) (c : Nat) (ss : List RKey), e = .returned (.slice ad ss.length c) ∧ ss.Perm (m.map (·.1)) ∧ ss.Pairwise (fun x y => ltOf rkCf y x = false) ∧ Row w' 3 ad ss.length (ss.flatMap RKey.cells) ∧ Below w.heap.size w w' ∧ ∀ b off, ad = some ⟨b, off, none⟩ → w.heap.size ≤ b ∧ ∃ cur, w'.heap[b]? = some (.cells cur 140 (0, 0)) := by
  have e1 : ∀ args w, (callFunc 99 args).run Try.prog w = .ok (.enter 99 args) w := enters_of Try.func99 (by kernel_rfl) rfl
  have eC : ∀ args w, (callFunc 69 args).run Try.prog w = .ok (.enter 69 args) w := enters_of Try.func69 (by kernel_rfl) rfl
  have hcol := callsIn_wide.1 (apRt_collect Fence.wide 6 trivial trivial rfl (by omega) 99 #[.pointer (some ⟨Bm, 0, none⟩)] trivial e1 (fun ss => ss.Perm (m.map (·.1))) m.length hN w (sRt_gives Fence.wide 4 trivial rfl (by omega) Bm b m w hB hm hown))
  have hsort := fun blk cap ss W hH hblk hsz => AnyQ.slices_SortFunc Try.sortRt 3 Try.isAgg140 Try.sizeOf140 RKey.cells (fun _ => rfl) (fun x v hv => by simp [RKey.cells] at hv; rcases hv with rfl | rfl | rfl <;> rfl) rkCf rkSWO 69 #[] blk 0 cap ss W eC (sRt_cmps blk 0 ss.size W) hH hblk hsz
  have hnone := fun cap W => AnyF.slices_SortFunc_none (ρ := Try.sortRt_ren) { Try.sortRt with } none cap (.func (.func 69) #[] #[]) W
  change ∀ blk cap ss W, _ → _ → _ → Calls _ 98 _ _ _ at hsort
  change ∀ cap W, Calls _ 98 _ _ _ at hnone
  go_enter Try.func67, Try.ntmps67
  go_wp2_with (go_at_call 97; refine hcol.mono ?_)
  rintro e w1 ⟨v, ss, rfl, hS, ⟨hl, hrow⟩, hnil, hb⟩
  have hle : ss.length ≤ 1000000 := by have := hS.length_eq; simp at this; omega
  rcases hrow with ⟨rfl, h0⟩ | ⟨g, cap, cur, rfl, hg, hh, hcap, hmax, hcs, htk⟩
  · obtain rfl : ss = [] := List.eq_nil_of_length_eq_zero h0
    go_wp2_with (go_at_call 98; refine (hnone _ _).mono ?_; rintro e w2 ⟨rfl, rfl⟩)
    go_ret
    exact ⟨none, 0, [], rfl, hS, List.Pairwise.nil, ⟨rfl, Nat.zero_le _, fun h => absurd h (by simp)⟩, hb, fun b off h => by cases h⟩
  · have hgl := lt_of_heap hh
    have hlen : ∀ x, (RKey.cells x).length = 3 := fun _ => rfl
    have hH : HoldsK RKey.cells 3 w1 g 0 ss.toArray := holdsK_of_row RKey.cells 3 hlen (by decide) hh ss htk
    have hs := hsort g cap ss.toArray w1 hH hgl (by simp; omega)
    simp only [List.size_toArray] at hs
    clear hcol hsort hnone
    go_wp2_with (go_at_call 98; refine hs.mono ?_)
    rintro e w2 ⟨rfl, d', q, os, hp, hsd, rfl⟩
    obtain ⟨p1, p2, p3⟩ := sorted_list (ltOf rkCf) ss d' (by simpa using hp) (by simpa using hsd)
    go_wp2
    go_ret
    refine ⟨some ⟨g, 0, none⟩, cap, d'.toList, by simp [p3], p1.trans hS, p2, ?_, hb.trans (sortWorldK_below RKey.cells 3 w.heap.size hgl hg d' os), fun b off h => by cases h; exact ⟨hg, sortWorldK_blk RKey.cells 3 hh d' os⟩⟩
    have := row_of_holdsK RKey.cells 3 hlen (by decide) (W := sortWorldK RKey.cells 3 w1 g 0 q d' os) (gb := g) (Nat.lt_of_lt_of_le hgl (sortWorldK_below RKey.cells 3 w.heap.size hgl hg d' os).size) d' (by omega) (sortWorldK_cell RKey.cells 3 hgl ss.toArray d' os hH (by simpa using p3))
    simpa using this
end Go.Proofs.Ytnfaeafplaeehaa
