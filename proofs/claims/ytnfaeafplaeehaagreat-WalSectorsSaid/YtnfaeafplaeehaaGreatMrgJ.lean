/- own texts of this claim, one behind the other: see the remarks within -/
import Derived.Test.YtnfaeafplaeehaaGreatMrgG
import Derived.RangeFuncGives
import Derived.RangeFuncSeq
import Derived.RangeFuncBound
import Derived.Maps.RangeRun
import Derived.Maps.AppendAt
import Derived.Shelf.Abstract
import Derived.Shelf.AbstractIn
import Derived.Sort.MapsRangeIn
import Derived.Shelf.SlIter.Collect
import Derived.RangeFuncCalls
import Derived.WalkKit
import Derived.OwnWalkIn
import Derived.TacticsInMore
import Derived.RegionIn
import Derived.LoopNIn
import Derived.LoopIn
import Derived.Test.YtnfaeafplaeehaaGreatMrgC
section
set_option linter.unusedVariables false
set_option linter.unusedSimpArgs false
namespace Go.Proofs.YtnfaeafplaeehaaGreat
open Go.RowKit Go.ChangeMaps
/-! A map's keys, one by one, in whatever order. -/
theorem left_perm (e : MapEntry) : ∀ (L : List MapEntry), e ∈ L → (L.map (·.born)).Nodup → L.Perm (e :: L.filter fun x => decide (x.born ≠ e.born))
  | [], h, _ => by simp at h
  | a :: t, h, hn => by
    simp only [List.map_cons, List.nodup_cons] at hn
    rcases List.mem_cons.1 h with rfl | h
    · have : t.filter (fun x => decide (x.born ≠ e.born)) = t := List.filter_eq_self.2 fun x hx => by
        simp only [decide_eq_true_eq]
        intro he
        exact hn.1 (he ▸ List.mem_map.2 ⟨x, hx, rfl⟩)
      rw [List.filter_cons_of_neg (by simp), this]
    · have hne : a.born ≠ e.born := fun he => hn.1 (he ▸ List.mem_map.2 ⟨e, h, rfl⟩)
      rw [List.filter_cons_of_pos (by simpa using hne)]
      exact ((left_perm e t h hn.2).cons a).trans (List.Perm.swap e a _)
theorem left_filter (es : Array MapEntry) (seen : Array Nat) (b : Nat) : (leftOf es (seen.push b)).toList = (leftOf es seen).toList.filter fun x => decide (x.born ≠ b) := by
  unfold leftOf
  simp only [Array.toList_filter, List.filter_filter]
  congr 1
  funext x
  by_cases h1 : x.born ∈ seen
  · by_cases h2 : x.born = b <;> simp [Array.contains_iff_mem, h1, h2]
  · by_cases h2 : x.born = b <;> simp [Array.contains_iff_mem, h1, h2]
theorem left_step (es : Array MapEntry) (seen : Array Nat) (e : MapEntry) (h : e ∈ (leftOf es seen).toList) (hn : (es.toList.map (·.born)).Nodup) : (leftOf es seen).toList.Perm (e :: (leftOf es (seen.push e.born)).toList) := by
  rw [left_filter]
  refine left_perm e _ h ?_
  unfold leftOf
  rw [Array.toList_filter]
  exact hn.sublist (List.Sublist.map _ (List.filter_sublist))
theorem left_all (es : Array MapEntry) : (leftOf es #[]).toList = es.toList := by
  unfold leftOf
  simp
theorem left_mem (es : Array MapEntry) (seen : Array Nat) (e : MapEntry) (h : e ∈ (leftOf es seen).toList) : e ∈ es.toList := by
  unfold leftOf at h
  rw [Array.toList_filter] at h
  exact (List.mem_filter.1 h).1
/-- How many entries are still to come. -/
def iterLeft (w : World) (b r : Nat) : Nat := match w.heap[b]?, w.heap[r]? with
  | some (.map es _), some (.mapIter _ _ seen _) => (leftOf es seen).size
  | _, _ => 0
theorem iterLeft_eq {w : World} {b r : Nat} {es : Array MapEntry} {c s c0 : Nat} {o : Option Nat} {seen : Array Nat} (hb : w.heap[b]? = some (.map es c)) (hr : w.heap[r]? = some (.mapIter o s seen c0)) : iterLeft w b r = (leftOf es seen).toList.length := by
  unfold iterLeft
  rw [hb, hr]
  simp
theorem heap_setBlock_same {w : World} {r : Nat} {o : Obj} (h : r < w.heap.size) : (setBlock w r o).heap[r]? = some o := by
  simp [setBlock, h]
theorem heap_setBlock_other {w : World} {r k : Nat} {o : Obj} (h : k ≠ r) : (setBlock w r o).heap[k]? = w.heap[k]? := by
  simp [setBlock, Array.getElem?_setIfInBounds, Ne.symm h]
theorem grownBy_setBlock (w : World) (r : Nat) (o : Obj) : w.grownBy (setBlock w r o) (some r) :=
  ⟨rfl, rfl, rfl, by simp [setBlock], fun k hk he => heap_setBlock_other (fun e => he (by rw [e]))⟩
theorem perm_lift {α γ δ : Type} {f : γ → δ} {g : α → δ} {L L' : List γ} (h : L.Perm L') : ∀ ks : List α, L.map f = ks.map g → ∃ ks', ks.Perm ks' ∧ L'.map f = ks'.map g := by
  induction h with
  | nil => intro ks h; exact ⟨ks, List.Perm.refl _, h⟩
  | cons x _ ih =>
    intro ks h
    cases ks with
    | nil => simp at h
    | cons k ks =>
      simp only [List.map_cons, List.cons.injEq] at h
      obtain ⟨ks', h1, h2⟩ := ih ks h.2
      exact ⟨k :: ks', h1.cons k, by simp [h.1, h2]⟩
  | swap x y l =>
    intro ks h
    match ks, h with
    | a :: b :: ks, h =>
      simp only [List.map_cons, List.cons.injEq] at h
      exact ⟨b :: a :: ks, List.Perm.swap b a ks, by simp [h.1, h.2.1, h.2.2]⟩
    | [a], h => simp at h
    | [], h => simp at h
  | trans _ _ ih1 ih2 =>
    intro ks h
    obtain ⟨k1, p1, e1⟩ := ih1 ks h
    obtain ⟨k2, p2, e2⟩ := ih2 k1 e1
    exact ⟨k2, p1.trans p2, e2⟩
open Go.Shelf
theorem cells_new (w : World) (cs : List Value) (t : TypeId) : ∀ j u, cs[j]? = some u → (w.alloc (.cells cs.toArray t)).cell? ((⟨w.heap.size, 0, none⟩ : Addr).add j) = some u := by
  intro j u hj
  rw [Go.WideShapes.add_plain, Nat.zero_add]
  have := (Blk.new w t cs.toArray).cell j
  rw [this]
  simpa using hj
/-- Between two rounds of a collecting loop. -/
structure ApAt {α : Type} (TS K : TypeId) (sz : Nat) (enc : α → List Value) (r : Loop) (w0 : World) (Bs l D : Nat) (ss : List α) (W : World) : Prop where
  box : ∃ v, W.heap[Bs]? = some (.cells #[v] TS (0, 0)) ∧ W.ownsRow w0.heap.size K sz v ss.length (ss.flatMap enc) ∧ (v = .slice none 0 0 ↔ ss = [])
  L : W.heap[l]? = some (.loop r)
  D : W.heap[D]? = some (.deferred (some []))
  below : Below w0.heap.size w0 W
theorem ap_abides {α : Type} (TS K : TypeId) (sz : Nat) (enc : α → List Value) (r : Loop) (w0 : World) (Bs l D B : Nat) (hB : w0.heap.size ≤ B) : AbidesFrom B (ApAt TS K sz enc r w0 Bs l D) := fun s W W' row h hg hrow => by
  have hrow' : ∀ r, row = some r → ∃ o : Obj, W.heap[r]? = some o ∧ o.isWalk = true := fun r e => (hrow r e).2
  obtain ⟨v, hv, hr, hn⟩ := h.box
  exact ⟨⟨v, (grownBy_keeps hg hrow' hv rfl).trans hv, ownsRow_abides_a hr hg hrow', hn⟩, (grownBy_keeps hg hrow' h.L rfl).trans h.L, (grownBy_keeps hg hrow' h.D rfl).trans h.D,
    h.below.grown hg h.below.size (fun k e => Nat.le_trans hB (hrow k e).1)⟩
set_option maxRecDepth 100000 in
set_option maxHeartbeats 2000000 in
theorem keysPfx_in (F : Fence) (n : Nat) (hF : F.fn 74) (hro : F.round = none) (hn : 1 ≤ n) (l Bm b : Nat) (m : List (Pfx × Bool)) (J : List Pfx → World → Prop)
    (hY : ∀ pre x W, J pre W → pre.length < m.length → YieldAt F (n - 1) Tryz.prog l #[Pfx.val x] W fun e W' => e = .returned (.bool true) ∧ J (pre ++ [x]) W' ∧ KeepsWalks W W')
    (W : World) (hJ : AbidesFrom W.heap.size J) (hm : W.cell? ⟨Bm, 0, none⟩ = some (.map (some b))) (hown : MapAt W b Pfx.val Value.bool m) (h0 : J [] W) :
    CallsIn F n Tryz.prog 74 #[.func (.yield l) #[] #[], .pointer (some ⟨Bm, 0, none⟩)] W fun e W' => (∃ v, e = .returned v) ∧ ∃ ss : List Pfx, ss.Perm (m.map (·.1)) ∧ J ss W' := by
  obtain ⟨es, clock, hb, hes, hborn, hnd⟩ := hown
  have hrg := run_range_map (P := Tryz.prog) W 66 36 4 b es clock Tryz.underlying66 hb
  have hbl := lt_of_heap hb
  refine callsIn_of_wp Tryz.func74 rfl hF ?_ hro
  simp only [Tryz.ntmps74, List.size_toArray, List.length_cons, List.length_nil, Nat.reduceAdd, Nat.reduceSub, Array.replicate_succ, Array.replicate_zero, List.push_toArray, List.append_toArray, List.nil_append, List.cons_append]
  have hkeys : ((leftOf es #[]).toList.map (·.key)) = (m.map (·.1)).map Pfx.val := by
    rw [left_all]
    have := congrArg (List.map Prod.fst) hes
    simpa [Function.comp_def] using this
  have hsz : es.toList.length = m.length := by simpa using congrArg List.length hes
  have HES := Lib.hid hes
  have HK := Lib.hid hkeys
  have HSZ := Lib.hid hsz
  have hW0 : J [] (W.alloc (.mapIter (some b) clock #[] clock)) := hJ [] W _ none h0 (World.grownBy_alloc W _ none) (fun r e => by cases e)
  have hr0 := heap_new W (.mapIter (some b) clock #[] clock)
  have hb0 : (W.alloc (.mapIter (some b) clock #[] clock)).heap[b]? = some (.map es clock) := (Below.heap_alloc W _ b hbl).trans hb
  clear hes hkeys hsz
  gi_wp2
  gi_loopw [3] (fun _ wr => ∃ (seen : Array Nat) (ss ks : List Pfx), wr.heap[W.heap.size]? = some (.mapIter (some b) clock seen clock) ∧ wr.heap[b]? = some (.map es clock) ∧ (leftOf es seen).toList.map (·.key) = ks.map Pfx.val ∧ (ss ++ ks).Perm (m.map (·.1)) ∧ J ss wr) (fun _ wr => iterLeft wr b W.heap.size)
  case atStart => exact ⟨#[], [], m.map (·.1), hr0, hb0, HK.out, by simp, hW0⟩
  case round =>
    clear hr0 hb0 hW0 hrg
    obtain ⟨seen, ss, ks, hr, hbm, hk, hp, hJs⟩ := hrel
    have HKs := Lib.hid hk
    have HP := Lib.hid hp
    have hlr := lt_of_heap hr
    rcases run_next_at (P := Tryz.prog) wr 0 W.heap.size b clock clock seen es clock hr hbm hborn (Nat.le_refl _) with ⟨hz, hnx⟩ | ⟨e, he, w1, hw1, hnx⟩
    · have hks : ks = [] := by
        have h1 := congrArg List.length hk
        simp only [List.length_map, Array.length_toList] at h1
        exact List.eq_nil_of_length_eq_zero (by omega)
      subst hks
      clear hk hp
      gi_wp2
      go_end0
      exact ⟨⟨_, rfl⟩, ss, by simpa using HP.out, hJs⟩
    · obtain ⟨ks', hp2, hk2⟩ := perm_lift (left_step es seen e he hnd) ks hk
      match ks', hk2 with
      | [], hk2 => simp at hk2
      | k :: ks', hk2 =>
        simp only [List.map_cons, List.cons.injEq] at hk2
        obtain ⟨hek, hk3⟩ := hk2
        have HK3 := Lib.hid hk3
        have hlen : ss.length < m.length := by
          have h1 := hp.length_eq
          have h2 := hp2.length_eq
          simp at h1 h2
          omega
        have HP3 := Lib.hid (show ((ss ++ [k]) ++ ks').Perm (m.map (·.1)) from (by
          rw [List.append_assoc]
          exact (hp2.symm.append_left ss).trans hp))
        obtain ⟨w2, hw2⟩ : ∃ w2, setBlock w1 W.heap.size (.mapIter (some b) clock (seen.push e.born) clock) = w2 := ⟨_, rfl⟩
        rw [hw2] at hnx
        have hh1 : w1.heap = wr.heap := by rcases hw1 with rfl | rfl <;> rfl
        have hr2 : w2.heap[W.heap.size]? = some (.mapIter (some b) clock (seen.push e.born) clock) := by rw [← hw2]; exact heap_setBlock_same (by rw [hh1]; exact hlr)
        have hb2 : w2.heap[b]? = some (.map es clock) := by rw [← hw2, heap_setBlock_other (Nat.ne_of_lt hbl), hh1]; exact hbm
        have hg2 : wr.grownBy w2 (some W.heap.size) := by
          rw [← hw2]
          rcases hw1 with rfl | rfl
          · exact grownBy_setBlock _ _ _
          · exact ⟨rfl, rfl, rfl, by simp [setBlock], fun k hk he => heap_setBlock_other (fun e => he (by rw [e]))⟩
        have hJ2 : J ss w2 := hJ ss wr w2 (some W.heap.size) hJs hg2 (fun r e => by cases e; exact ⟨Nat.le_refl _, _, hr, rfl⟩)
        have hen := run_entry_at (P := Tryz.prog) w2 W.heap.size b clock seen es clock e hr2 hb2 (left_mem es seen e he) hnd
        have hme := iterLeft_eq hbm hr
        have hlt2 : ks'.length + 1 = (leftOf es seen).toList.length := by
          have h1 := congrArg List.length hk
          have h2 := hp2.length_eq
          simp only [List.length_map, List.length_cons] at h1 h2
          omega
        rw [hek] at hen hnx
        obtain ⟨xa, xl⟩ := k
        simp only [Pfx.val] at hen hnx
        have HME := Lib.hid hme
        have HL2 := Lib.hid hlt2
        clear hw2 hg2 hh1 hw1 hk hp hp2 hk3 hme hlt2 hek he
        obtain ⟨w3, hw3⟩ : ∃ w3, w2.alloc (.cells #[.int .u32 xa, .int .i64 xl] 36) = w3 := ⟨_, rfl⟩
        have hJ3 : J ss w3 := by rw [← hw3]; exact hJ ss w2 _ none hJ2 (World.grownBy_alloc w2 _ none) (fun r e => by cases e)
        have hr3 : w3.heap[W.heap.size]? = some (.mapIter (some b) clock (seen.push e.born) clock) := by rw [← hw3]; exact (Below.heap_alloc w2 _ _ (lt_of_heap hr2)).trans hr2
        have hb3 : w3.heap[b]? = some (.map es clock) := by rw [← hw3]; exact (Below.heap_alloc w2 _ _ (lt_of_heap hb2)).trans hb2
        obtain ⟨fn, tmps, assign, body, hy, hR⟩ := hY ss ⟨xa, xl⟩ w3 hJ3 hlen
        simp only [Pfx.val] at hy
        rw [← hw3] at hy
        have HW3 := Lib.hid hw3
        clear hw3
        gi_wp2
        rw [HW3.out]
        refine hR.mono ?_
        rintro e4 W4 ⟨rfl, hJ4, hk4⟩
        have hr4 := hk4.same _ _ hr3 rfl
        have hb4 := hk4.same _ _ hb3 rfl
        gi_wp2
        go_roundw
        case rel => exact ⟨seen.push e.born, ss ++ [⟨xa, xl⟩], ks', hr4, hb4, HK3.out, HP3.out, hJ4⟩
        case measure =>
          rw [iterLeft_eq hb4 hr4, HME.out, ← HL2.out]
          have := congrArg List.length HK3.out
          simp only [List.length_map] at this
          omega
def Pfx.cells (p : Pfx) : List Value := [.int .u32 p.a, .int .i64 p.l]
def apPfx_assign : Code := (Code.region 2 #[{ dst := some 5, op := Op.alloc 36, type := 0, pos := "iter.go:51", after := #[], guard := none }, { dst := none, op := Op.store 36 (Operand.tmp 5) (Operand.tmp 7), type := 0, pos := "iter.go:51", after := #[{ on := 0, ground := Ground.data }, { on := 0, ground := Ground.phase }], guard := none }] false)
def apPfx_body : Code := (Code.block 1 (Code.region 3 #[{ dst := some 8, op := Op.load 101 (Operand.tmp 2), type := 101, pos := "iter.go:52", after := #[], guard := none }, { dst := some 9, op := Op.load 36 (Operand.tmp 5), type := 36, pos := "iter.go:52", after := #[], guard := none }, { dst := some 10, op := Op.buildSlice 101 1 #[(0, Operand.tmp 9)], type := 101, pos := "iter.go:52", after := #[{ on := 1, ground := Ground.data }], guard := none },
  { dst := some 11, op := Op.call { callee := Callee.builtin Builtin.append, args := #[Operand.tmp 8, Operand.tmp 10], argTypes := #[101, 101] }, type := 101, pos := "iter.go:52", after := #[{ on := 0, ground := Ground.data }, { on := 2, ground := Ground.data }], guard := none },
  { dst := none, op := Op.store 101 (Operand.tmp 2) (Operand.tmp 11), type := 0, pos := "iter.go:52", after := #[{ on := 3, ground := Ground.data }, { on := 3, ground := Ground.chain }, { on := 0, ground := Ground.phase }, { on := 1, ground := Ground.phase }, { on := 2, ground := Ground.phase }, { on := 3, ground := Ground.phase }], guard := none }] false))
def apPfx_rec (fn : FuncId) (sv : Value) (Bs D : Nat) (st : LoopState) (pend : Option Code) : Loop :=
  { state := st, pending := pend, fn, tmps := #[.slice none 0 0, sv, .pointer (some ⟨Bs, 0, none⟩), undef, .slice none 0 0, undef, sv, undef, undef, undef, undef, undef, undef], params := #[7], assign := apPfx_assign, body := apPfx_body, defers := D }
theorem apPfx_info : (Tryz.prog.info? 36).map (fun i => (i.zero, i.size, i.bytes)) = some (some (.agg #[.int .u32 0, .int .i64 0]), 2, 16) := by kernel_rfl
set_option maxRecDepth 100000 in
set_option maxHeartbeats 4000000 in
theorem apPfx_yield (F : Fence) (m : Nat) (w0 : World) (fn : FuncId) (hfn : F.fn fn) (sv : Value) (Bs l D : Nat) (hBl : Bs ≠ l) (hDl : D ≠ l) (hDB : D ≠ Bs) (h0B : w0.heap.size ≤ Bs) (h0l : w0.heap.size ≤ l)
    (N : Nat) (hN : N ≤ 1000000) (ss : List Pfx) (x : Pfx) (W : World) (h : ApAt 101 36 2 Pfx.cells (apPfx_rec fn sv Bs D .ready none) w0 Bs l D ss W) (hlen : ss.length < N) :
    YieldAt F m Tryz.prog l #[Pfx.val x] W fun e W' => e = .returned (.bool true) ∧ ApAt 101 36 2 Pfx.cells (apPfx_rec fn sv Bs D .ready none) w0 Bs l D (ss ++ [x]) W' ∧ KeepsWalks W W' := by
  have hne : 101 ≠ 36 := by decide
  obtain ⟨i0, hi, hz0, hz1, hz2⟩ := info_parts apPfx_info
  refine ⟨fn, #[.slice none 0 0, sv, .pointer (some ⟨Bs, 0, none⟩), undef, .slice none 0 0, undef, sv, Pfx.val x, undef, undef, undef, undef, undef], apPfx_assign, apPfx_body, by simpa [apPfx_rec] using run_yield (P := Tryz.prog) (args := #[Pfx.val x]) h.L rfl, roundIn_of_wpIn hfn ?_⟩
  obtain ⟨xa, xl⟩ := x
  simp only [Pfx.val]
  obtain ⟨WA, hWA⟩ : ∃ WA, W.alloc (.cells #[.int .u32 xa, .int .i64 xl] 36) = WA := ⟨_, rfl⟩
  have hA : ApAt 101 36 2 Pfx.cells (apPfx_rec fn sv Bs D .ready none) w0 Bs l D ss WA := by
    rw [← hWA]
    exact ap_abides _ _ _ _ _ w0 Bs l D w0.heap.size (Nat.le_refl _) ss W _ none h (World.grownBy_alloc W _ none) (fun r e => by cases e)
  have hkA : KeepsWalks W WA := by rw [← hWA]; exact KeepsWalks.alloc _ _
  have kN : Blk WA W.heap.size 36 #[.int .u32 xa, .int .i64 xl] := by rw [← hWA]; exact Blk.new W _ _
  have hlN : l ≠ W.heap.size := Nat.ne_of_lt (lt_of_heap h.L)
  have hbN := h.below.size
  clear h
  have hl : l < WA.heap.size := lt_of_heap hA.L
  have hbr := run_beginRound (P := Tryz.prog) hA.L rfl
  obtain ⟨v, hv, hrow, _⟩ := hA.box
  obtain ⟨W2, hW2⟩ : ∃ W2, WA.putObj l (.loop { apPfx_rec fn sv Bs D .ready none with state := .busy }) = W2 := ⟨_, rfl⟩
  rw [hW2] at hbr
  have hg2 : WA.grownBy W2 (some l) := by rw [← hW2]; exact grownBy_putObj_a _ _ _
  have hk2 : KeepsWalks WA W2 := by rw [← hW2]; exact KeepsWalks.putObj _ hA.L rfl
  have hv2 : W2.heap[Bs]? = some (.cells #[v] 101 (0, 0)) := by rw [← hW2]; exact (World.putObj_heap_other hBl).trans hv
  have hK2 : W2.heap[D]? = some (.deferred (some [])) := by rw [← hW2]; exact (World.putObj_heap_other hDl).trans hA.D
  have hL2 : W2.heap[l]? = some (.loop { apPfx_rec fn sv Bs D .ready none with state := .busy }) := by rw [← hW2]; exact World.putObj_heap_same hl
  have kN2 : Blk W2 W.heap.size 36 #[.int .u32 xa, .int .i64 xl] := by rw [← hW2]; exact (World.putObj_heap_other (Ne.symm hlN)).trans kN
  have hrow2 : W2.ownsRow w0.heap.size 36 2 v ss.length (ss.flatMap Pfx.cells) := hrow.kept hg2 (ownsRow_ne_a hrow hA.L (fun cur e => by first | cases e | exact hne (Obj.cells.inj e).2.1))
  have hb2 : Below w0.heap.size w0 W2 := hA.below.grown hg2 hA.below.size (fun k e => by cases e; exact h0l)
  obtain ⟨hc2, hf2⟩ := cell_of_box_a hv2
  have hBlt : Bs < W2.heap.size := lt_of_heap hv2
  have hl2 : l < W2.heap.size := lt_of_heap hL2
  have hDlt : D < W2.heap.size := lt_of_heap hK2
  have ne_of : ∀ {j : Nat} {o : Obj}, W2.heap[j]? = some o → (∀ cur, o ≠ .cells cur 36 (0, 0)) → some j ≠ v.ownBlock := fun hj hno => by
    rcases ownsRow_ne_a hrow2 hj hno with e | e
    · rw [e]; simp
    · exact fun e' => e e'.symm
  have hkk := (hkA.trans hk2).trans (KeepsWalks.alloc W2 (.cells #[.int .u32 xa, .int .i64 xl] 36))
  have HWA := Lib.hid hWA
  clear hW2 hWA hA hrow hv hkA hk2 hg2 kN
  unfold apPfx_assign
  gi_wp2_with gi_round_op_a
  rw [HWA.out]
  refine ⟨W2, hbr, ?_⟩
  unfold apPfx_body
  have n0 := kN2.cell 0
  have n1 := kN2.cell 1
  have n2 := kN2.cell 2
  have n3 := kN2.cell 3
  simp only [List.getElem?_toArray, List.getElem?_cons_zero, List.getElem?_cons_succ, List.getElem?_nil] at n0 n1 n2 n3
  have hNlt := kN2.lt
  gi_wp2_with (first
    | (gi_at_builtin; refine wpListIn_append_own _ rfl _ _ 101 rfl w0.heap.size 36 i0 (.agg #[.int .u32 0, .int .i64 0]) 2 16 Tryz.underlying101 hi hz0 hz1 hz2 rfl (by decide) _ _ _ rfl (hrow2.alloc _) ⟨W2.heap.size, 0, none⟩ 1 1 (#[.int .u32 xa, .int .i64 xl]).toList rfl rfl (cells_new _ _ _) (by simp [Value.oneCell']) (by unfold maxLen; omega) (by omega) (by have := hb2.size; simp; omega) ?_; intro v' w3 hown' hg3 hnil3
       have hv3 : w3.heap[Bs]? = some (.cells #[v] 101 (0, 0)) := (hg3.block Bs (by simp; omega) (ne_of hv2 (fun cur e => by first | cases e | exact hne (Obj.cells.inj e).2.1))).trans ((Below.heap_alloc _ _ Bs hBlt).trans hv2)
       obtain ⟨hc3, hf3⟩ := cell_of_box_a hv3
       obtain ⟨g', cap', cur', rfl, hbase', hgb', hr1, hr2, hr3, hr4⟩ : ∃ g' cap' cur', v' = .slice (some ⟨g', 0, none⟩) (ss.length + 1) cap' ∧ w0.heap.size ≤ g' ∧ w3.heap[g']? = some (.cells cur' 36 (0, 0)) ∧ ss.length + 1 ≤ cap' ∧ cap' ≤ maxLen ∧ cur'.size = cap' * 2 ∧ cur'.toList.take ((ss.length + 1) * 2) = ss.flatMap Pfx.cells ++ (#[.int .u32 xa, .int .i64 xl]).toList := by
         rcases hown'.2 with ⟨_, h0⟩ | h'
         · exact absurd h0 (by omega)
         · exact h'
       go_frame)
    | gi_round_op_a)
  have hg3' : (W2.alloc (.cells #[.int .u32 xa, .int .i64 xl] 36)).grownBy w3 v.ownBlock := hg3
  have hL3 : w3.heap[l]? = some (.loop { apPfx_rec fn sv Bs D .ready none with state := .busy }) := (hg3'.block l (by simp; omega) (ne_of hL2 (fun cur e => by first | cases e | exact hne (Obj.cells.inj e).2.1))).trans ((Below.heap_alloc _ _ l hl2).trans hL2)
  have hK3 : w3.heap[D]? = some (.deferred (some [])) := (hg3'.block D (by simp; omega) (ne_of hK2 (fun cur e => by first | cases e | exact hne (Obj.cells.inj e).2.1))).trans ((Below.heap_alloc _ _ D hDlt).trans hK2)
  obtain ⟨w4, hw4⟩ : ∃ w4, w3.setCell ⟨Bs, 0, none⟩ (.slice (some ⟨g', 0, none⟩) (ss.length + 1) cap') = w4 := ⟨_, rfl⟩
  rw [hw4]
  have hg4 : w3.grownBy w4 (some Bs) := by rw [← hw4]; exact grownBy_setCell0_a _ _ _
  have hv4 : w4.heap[Bs]? = some (.cells #[.slice (some ⟨g', 0, none⟩) (ss.length + 1) cap'] 101 (0, 0)) := by rw [← hw4]; exact heap_setCell_box_a _ hv3
  have hL4 : w4.heap[l]? = some (.loop { apPfx_rec fn sv Bs D .ready none with state := .busy }) := (hg4.block l (lt_of_heap hL3) (fun e => hBl (by cases e; rfl))).trans hL3
  have hK4 : w4.heap[D]? = some (.deferred (some [])) := (hg4.block D (lt_of_heap hK3) (fun e => hDB (by cases e; rfl))).trans hK3
  have hrow4 := hown'.kept hg4 (ownsRow_ne_a hown' hv3 (fun cur e => by first | cases e | exact hne (Obj.cells.inj e).2.1))
  have hl4 : l < w4.heap.size := lt_of_heap hL4
  have hb3 : Below w0.heap.size w0 w3 := (hb2.alloc hb2.size _).grown hg3' (by have := hb2.size; simp; omega) (fun k e => (hrow2.lt k e).1)
  have hb4 : Below w0.heap.size w0 w4 := hb3.grown hg4 hb3.size (fun k e => by cases e; exact h0B)
  have hk4 : KeepsWalks W w4 := (hkk.trans (KeepsWalks.of_grownBy hg3' (ownsRow_not_walk_a (hrow2.alloc _)))).trans (by rw [← hw4]; exact KeepsWalks.setCell _ _ _)
  clear hw4
  refine ⟨_, _, run_endRound none hL4, rfl, ⟨⟨_, (World.putObj_heap_other hBl).trans hv4, ?_, by simp⟩, World.putObj_heap_same hl4, (World.putObj_heap_other hDl).trans hK4, hb4.grown (grownBy_putObj_a _ _ _) hb4.size (fun k e => by cases e; exact h0l)⟩, hk4.trans (KeepsWalks.putObj _ hL4 rfl)⟩
  have := hrow4.kept (grownBy_putObj_a w4 l (.loop { { apPfx_rec fn sv Bs D .ready none with state := .busy } with state := if (none : Option Code).isNone then .ready else .done, pending := none })) (ownsRow_ne_a hrow4 hL4 (fun cur e => by first | cases e | exact hne (Obj.cells.inj e).2.1))
  simpa [Pfx.cells] using this
set_option maxRecDepth 100000 in
set_option maxHeartbeats 4000000 in
theorem apPfx_in (F : Fence) (n : Nat) (h11 : F.fn 81) (hro : F.round = none) (hn : 2 ≤ n) (g : Nat) (lb : Array Value) (hFg : F.fn g) (eg : ∀ args w, (callFunc g args).run Tryz.prog w = .ok (.enter g args) w)
    (S : List Pfx → Prop) (N : Nat) (hN : N ≤ 1000000) (w : World) (hseq : SeqGives F (n - 1) Tryz.prog g lb Pfx.val S N w) :
    CallsIn F n Tryz.prog 81 #[.slice none 0 0, .func (.func g) #[] lb] w fun e w' => ∃ (v : Value) (ss : List Pfx), e = .returned v ∧ S ss ∧ w'.ownsRow w.heap.size 36 2 v ss.length (ss.flatMap Pfx.cells) ∧ (v = .slice none 0 0 ↔ ss = []) ∧ Below w.heap.size w w' := by
  have h1 : 1 ≤ n := by omega
  have hne : 101 ≠ 36 := by decide
  refine callsIn_of_wp_marks Tryz.func81 rfl h11 ?_ hro
  simp only [Tryz.ntmps81, List.size_toArray, List.length_cons, List.length_nil, Nat.reduceAdd, Nat.reduceSub, Array.replicate_succ, Array.replicate_zero, List.push_toArray, List.append_toArray, List.nil_append, List.cons_append]
  gi_wp2
  refine wpIn_rangeFunc ?_
  intro fn hfn
  rw [hro]
  obtain ⟨W0, hW0⟩ : ∃ W0, w.alloc (.cells #[.slice none 0 0] 101) = W0 := ⟨_, rfl⟩
  have hs0 : W0.heap.size = w.heap.size + 1 := by rw [← hW0]; simp
  have hv0 : W0.heap[w.heap.size]? = some (.cells #[.slice none 0 0] 101 (0, 0)) := by rw [← hW0]; exact heap_new w _
  have hb0 : Below w.heap.size w W0 := by rw [← hW0]; exact (Below.refl _ w).alloc (Nat.le_refl _) _
  rw [hW0]
  obtain ⟨W1, hW1⟩ : ∃ W1, (W0.alloc (.deferred (some []))).alloc (.loop (apPfx_rec fn (.func (.func g) #[] lb) w.heap.size W0.heap.size .ready none)) = W1 := ⟨_, rfl⟩
  have hold : ∀ k, k < W0.heap.size → W1.heap[k]? = W0.heap[k]? := fun k hk => by
    rw [← hW1]; exact (Below.heap_alloc _ _ k (by simp; omega)).trans (Below.heap_alloc _ _ k hk)
  have hb1 : Below w.heap.size w W1 := by rw [← hW1]; exact (hb0.alloc hb0.size _).alloc (by have := hb0.size; simp; omega) _
  have hs1 : W1.heap.size = W0.heap.size + 2 := by rw [← hW1]; simp
  have hM : ApAt 101 36 2 Pfx.cells (apPfx_rec fn (.func (.func g) #[] lb) w.heap.size W0.heap.size .ready none) w w.heap.size (W0.heap.size + 1) W0.heap.size ([] : List Pfx) W1 :=
    ⟨⟨_, (hold w.heap.size (by omega)).trans hv0, ⟨rfl, .inl ⟨rfl, rfl⟩⟩, by simp⟩,
     by rw [← hW1]; have := heap_new (W0.alloc (.deferred (some []))) (.loop (apPfx_rec fn (.func (.func g) #[] lb) w.heap.size W0.heap.size .ready none)); rwa [World.size_alloc] at this,
     by rw [← hW1]; exact (Below.heap_alloc _ _ _ (by simp)).trans (heap_new W0 _), hb1⟩
  refine ⟨W0.heap.size + 1, [{ target := .collected W0.heap.size, args := #[] }], W1, { target := .fn (.func g) lb, args := #[.func (.yield (W0.heap.size + 1)) #[] #[]] }, W1, g,
    #[.func (.yield (W0.heap.size + 1)) #[] #[]] ++ lb, W1, ?_, ?_, ?_, ?_, fun _ => h1, ?_⟩
  · rw [← hW1]; exact run_enterLoop_outer _ _ _ _ _
  · simp [resolve, go_sem]
  · intro f' hf'; simp [Target.leads] at hf'; subst hf'; exact hFg
  · simp [invoke, go_sem, eg]
  · refine (hseq (W0.heap.size + 1) (ApAt 101 36 2 Pfx.cells (apPfx_rec fn (.func (.func g) #[] lb) w.heap.size W0.heap.size .ready none) w w.heap.size (W0.heap.size + 1) W0.heap.size) W1 hb1 (ap_abides _ _ _ _ _ _ _ _ _ _ hb1.size)
      (fun pre x W hJ hl => apPfx_yield F (n - 1 - 1) w fn hfn _ w.heap.size (W0.heap.size + 1) W0.heap.size (by omega) (by omega) (by omega) (Nat.le_refl _) (by omega) N hN pre x W hJ hl) hM).mono ?_
    rintro e W2 ⟨⟨v0, rfl⟩, ss, hS, h2⟩
    obtain ⟨v, hv, hrow, hnil⟩ := h2.box
    have hend := run_endLoop (P := Tryz.prog) h2.L (by simp [apPfx_rec])
    obtain ⟨W3, hW3⟩ : ∃ W3, W2.putObj (W0.heap.size + 1) (.loop { apPfx_rec fn (.func (.func g) #[] lb) w.heap.size W0.heap.size .ready none with state := .exhausted }) = W3 := ⟨_, rfl⟩
    rw [hW3] at hend
    have hg3 : W2.grownBy W3 (some (W0.heap.size + 1)) := by rw [← hW3]; exact grownBy_putObj_a _ _ _
    have hv3 : W3.heap[w.heap.size]? = some (.cells #[v] 101 (0, 0)) := by rw [← hW3]; exact (World.putObj_heap_other (by omega)).trans hv
    have hK3 : W3.heap[W0.heap.size]? = some (.deferred (some [])) := by rw [← hW3]; exact (World.putObj_heap_other (by omega)).trans h2.D
    have hrow3 := hrow.kept hg3 (ownsRow_ne_a hrow h2.L (fun cur e => by first | cases e | exact hne (Obj.cells.inj e).2.1))
    have hb3 : Below w.heap.size w W3 := h2.below.grown hg3 h2.below.size (fun k e => by cases e; omega)
    obtain ⟨hc3, hf3⟩ := cell_of_box_a hv3
    clear hW3
    refine ⟨none, W3, hend, ?_⟩
    gi_wp2
    rw [← hs0]
    refine ⟨by simp, .inl ⟨_, _, rfl, run_takeDeferred hK3, ?_⟩⟩
    exact ⟨_, results_tmp rfl _ _ _, v, ss, rfl, hS, hrow3.kept (grownBy_putObj_a _ _ _) (ownsRow_ne_a hrow3 hK3 (fun cur e => by first | cases e | exact hne (Obj.cells.inj e).2.1)), hnil, hb3.grown (grownBy_putObj_a _ _ _) hb3.size (fun k e => by cases e; omega)⟩
set_option maxHeartbeats 1000000 in
theorem apPfx_collect (F : Fence) (n : Nat) (h8 : F.fn 72) (h11 : F.fn 81) (hro : F.round = none) (hn : 3 ≤ n) (g : Nat) (lb : Array Value) (hFg : F.fn g) (eg : ∀ args w, (callFunc g args).run Tryz.prog w = .ok (.enter g args) w)
    (S : List Pfx → Prop) (N : Nat) (hN : N ≤ 1000000) (w : World) (hseq : SeqGives F (n - 1 - 1) Tryz.prog g lb Pfx.val S N w) :
    CallsIn F n Tryz.prog 72 #[.func (.func g) #[] lb] w fun e w' => ∃ (v : Value) (ss : List Pfx), e = .returned v ∧ S ss ∧ w'.ownsRow w.heap.size 36 2 v ss.length (ss.flatMap Pfx.cells) ∧ (v = .slice none 0 0 ↔ ss = []) ∧ Below w.heap.size w w' := by
  have h1 : 1 ≤ n := by omega
  refine callsIn_of_wp Tryz.func72 rfl h8 ?_ hro
  simp only [Tryz.ntmps72, List.size_toArray, List.length_cons, List.length_nil, Nat.reduceAdd, Nat.reduceSub, Array.replicate_succ, Array.replicate_zero, List.push_toArray, List.append_toArray, List.nil_append, List.cons_append]
  gi_wp2_with (gi_at_call 81; refine (apPfx_in F (n - 1) h11 hro (by omega) g lb hFg eg S N hN _ hseq).mono ?_; rintro e w' ⟨v, ss, rfl, hS, hrow, hnil, hb⟩)
  go_ret
  exact ⟨v, ss, rfl, hS, hrow, hnil, hb⟩
set_option maxRecDepth 100000 in
set_option maxHeartbeats 2000000 in
theorem keysKey_in (F : Fence) (n : Nat) (hF : F.fn 79) (hro : F.round = none) (hn : 1 ≤ n) (l Bm b : Nat) (m : List (Key × Dst)) (J : List Key → World → Prop)
    (hY : ∀ pre x W, J pre W → pre.length < m.length → YieldAt F (n - 1) Tryz.prog l #[Key.val x] W fun e W' => e = .returned (.bool true) ∧ J (pre ++ [x]) W' ∧ KeepsWalks W W')
    (W : World) (hJ : AbidesFrom W.heap.size J) (hm : W.cell? ⟨Bm, 0, none⟩ = some (.map (some b))) (hown : MapAt W b Key.val dstV m) (h0 : J [] W) :
    CallsIn F n Tryz.prog 79 #[.func (.yield l) #[] #[], .pointer (some ⟨Bm, 0, none⟩)] W fun e W' => (∃ v, e = .returned v) ∧ ∃ ss : List Key, ss.Perm (m.map (·.1)) ∧ J ss W' := by
  obtain ⟨es, clock, hb, hes, hborn, hnd⟩ := hown
  have hrg := run_range_map (P := Tryz.prog) W 67 80 39 b es clock Tryz.underlying67 hb
  have hbl := lt_of_heap hb
  refine callsIn_of_wp Tryz.func79 rfl hF ?_ hro
  simp only [Tryz.ntmps79, List.size_toArray, List.length_cons, List.length_nil, Nat.reduceAdd, Nat.reduceSub, Array.replicate_succ, Array.replicate_zero, List.push_toArray, List.append_toArray, List.nil_append, List.cons_append]
  have hkeys : ((leftOf es #[]).toList.map (·.key)) = (m.map (·.1)).map Key.val := by
    rw [left_all]
    have := congrArg (List.map Prod.fst) hes
    simpa [Function.comp_def] using this
  have hsz : es.toList.length = m.length := by simpa using congrArg List.length hes
  have HES := Lib.hid hes
  have HK := Lib.hid hkeys
  have HSZ := Lib.hid hsz
  have hW0 : J [] (W.alloc (.mapIter (some b) clock #[] clock)) := hJ [] W _ none h0 (World.grownBy_alloc W _ none) (fun r e => by cases e)
  have hr0 := heap_new W (.mapIter (some b) clock #[] clock)
  have hb0 : (W.alloc (.mapIter (some b) clock #[] clock)).heap[b]? = some (.map es clock) := (Below.heap_alloc W _ b hbl).trans hb
  clear hes hkeys hsz
  gi_wp2
  gi_loopw [3] (fun _ wr => ∃ (seen : Array Nat) (ss ks : List Key), wr.heap[W.heap.size]? = some (.mapIter (some b) clock seen clock) ∧ wr.heap[b]? = some (.map es clock) ∧ (leftOf es seen).toList.map (·.key) = ks.map Key.val ∧ (ss ++ ks).Perm (m.map (·.1)) ∧ J ss wr) (fun _ wr => iterLeft wr b W.heap.size)
  case atStart => exact ⟨#[], [], m.map (·.1), hr0, hb0, HK.out, by simp, hW0⟩
  case round =>
    clear hr0 hb0 hW0 hrg
    obtain ⟨seen, ss, ks, hr, hbm, hk, hp, hJs⟩ := hrel
    have HKs := Lib.hid hk
    have HP := Lib.hid hp
    have hlr := lt_of_heap hr
    rcases run_next_at (P := Tryz.prog) wr 0 W.heap.size b clock clock seen es clock hr hbm hborn (Nat.le_refl _) with ⟨hz, hnx⟩ | ⟨e, he, w1, hw1, hnx⟩
    · have hks : ks = [] := by
        have h1 := congrArg List.length hk
        simp only [List.length_map, Array.length_toList] at h1
        exact List.eq_nil_of_length_eq_zero (by omega)
      subst hks
      clear hk hp
      gi_wp2
      go_end0
      exact ⟨⟨_, rfl⟩, ss, by simpa using HP.out, hJs⟩
    · obtain ⟨ks', hp2, hk2⟩ := perm_lift (left_step es seen e he hnd) ks hk
      match ks', hk2 with
      | [], hk2 => simp at hk2
      | k :: ks', hk2 =>
        simp only [List.map_cons, List.cons.injEq] at hk2
        obtain ⟨hek, hk3⟩ := hk2
        have HK3 := Lib.hid hk3
        have hlen : ss.length < m.length := by
          have h1 := hp.length_eq
          have h2 := hp2.length_eq
          simp at h1 h2
          omega
        have HP3 := Lib.hid (show ((ss ++ [k]) ++ ks').Perm (m.map (·.1)) from (by
          rw [List.append_assoc]
          exact (hp2.symm.append_left ss).trans hp))
        obtain ⟨w2, hw2⟩ : ∃ w2, setBlock w1 W.heap.size (.mapIter (some b) clock (seen.push e.born) clock) = w2 := ⟨_, rfl⟩
        rw [hw2] at hnx
        have hh1 : w1.heap = wr.heap := by rcases hw1 with rfl | rfl <;> rfl
        have hr2 : w2.heap[W.heap.size]? = some (.mapIter (some b) clock (seen.push e.born) clock) := by rw [← hw2]; exact heap_setBlock_same (by rw [hh1]; exact hlr)
        have hb2 : w2.heap[b]? = some (.map es clock) := by rw [← hw2, heap_setBlock_other (Nat.ne_of_lt hbl), hh1]; exact hbm
        have hg2 : wr.grownBy w2 (some W.heap.size) := by
          rw [← hw2]
          rcases hw1 with rfl | rfl
          · exact grownBy_setBlock _ _ _
          · exact ⟨rfl, rfl, rfl, by simp [setBlock], fun k hk he => heap_setBlock_other (fun e => he (by rw [e]))⟩
        have hJ2 : J ss w2 := hJ ss wr w2 (some W.heap.size) hJs hg2 (fun r e => by cases e; exact ⟨Nat.le_refl _, _, hr, rfl⟩)
        have hen := run_entry_at (P := Tryz.prog) w2 W.heap.size b clock seen es clock e hr2 hb2 (left_mem es seen e he) hnd
        have hme := iterLeft_eq hbm hr
        have hlt2 : ks'.length + 1 = (leftOf es seen).toList.length := by
          have h1 := congrArg List.length hk
          have h2 := hp2.length_eq
          simp only [List.length_map, List.length_cons] at h1 h2
          omega
        rw [hek] at hen hnx
        obtain ⟨xa, xl, xi⟩ := k
        simp only [Key.val] at hen hnx
        have HME := Lib.hid hme
        have HL2 := Lib.hid hlt2
        clear hw2 hg2 hh1 hw1 hk hp hp2 hk3 hme hlt2 hek he
        obtain ⟨w3, hw3⟩ : ∃ w3, w2.alloc (.cells #[.int .u32 xa, .int .i64 xl, .int .u32 xi] 80) = w3 := ⟨_, rfl⟩
        have hJ3 : J ss w3 := by rw [← hw3]; exact hJ ss w2 _ none hJ2 (World.grownBy_alloc w2 _ none) (fun r e => by cases e)
        have hr3 : w3.heap[W.heap.size]? = some (.mapIter (some b) clock (seen.push e.born) clock) := by rw [← hw3]; exact (Below.heap_alloc w2 _ _ (lt_of_heap hr2)).trans hr2
        have hb3 : w3.heap[b]? = some (.map es clock) := by rw [← hw3]; exact (Below.heap_alloc w2 _ _ (lt_of_heap hb2)).trans hb2
        obtain ⟨fn, tmps, assign, body, hy, hR⟩ := hY ss ⟨xa, xl, xi⟩ w3 hJ3 hlen
        simp only [Key.val] at hy
        rw [← hw3] at hy
        have HW3 := Lib.hid hw3
        clear hw3
        gi_wp2
        rw [HW3.out]
        refine hR.mono ?_
        rintro e4 W4 ⟨rfl, hJ4, hk4⟩
        have hr4 := hk4.same _ _ hr3 rfl
        have hb4 := hk4.same _ _ hb3 rfl
        gi_wp2
        go_roundw
        case rel => exact ⟨seen.push e.born, ss ++ [⟨xa, xl, xi⟩], ks', hr4, hb4, HK3.out, HP3.out, hJ4⟩
        case measure =>
          rw [iterLeft_eq hb4 hr4, HME.out, ← HL2.out]
          have := congrArg List.length HK3.out
          simp only [List.length_map] at this
          omega
def Key.cells (k : Key) : List Value := [.int .u32 k.a, .int .i64 k.l, .int .u32 k.id]
def apKey_assign : Code := (Code.region 2 #[{ dst := some 5, op := Op.alloc 80, type := 0, pos := "iter.go:51", after := #[], guard := none }, { dst := none, op := Op.store 80 (Operand.tmp 5) (Operand.tmp 7), type := 0, pos := "iter.go:51", after := #[{ on := 0, ground := Ground.data }, { on := 0, ground := Ground.phase }], guard := none }] false)
def apKey_body : Code := (Code.block 1 (Code.region 3 #[{ dst := some 8, op := Op.load 105 (Operand.tmp 2), type := 105, pos := "iter.go:52", after := #[], guard := none }, { dst := some 9, op := Op.load 80 (Operand.tmp 5), type := 80, pos := "iter.go:52", after := #[], guard := none }, { dst := some 10, op := Op.buildSlice 105 1 #[(0, Operand.tmp 9)], type := 105, pos := "iter.go:52", after := #[{ on := 1, ground := Ground.data }], guard := none },
  { dst := some 11, op := Op.call { callee := Callee.builtin Builtin.append, args := #[Operand.tmp 8, Operand.tmp 10], argTypes := #[105, 105] }, type := 105, pos := "iter.go:52", after := #[{ on := 0, ground := Ground.data }, { on := 2, ground := Ground.data }], guard := none },
  { dst := none, op := Op.store 105 (Operand.tmp 2) (Operand.tmp 11), type := 0, pos := "iter.go:52", after := #[{ on := 3, ground := Ground.data }, { on := 3, ground := Ground.chain }, { on := 0, ground := Ground.phase }, { on := 1, ground := Ground.phase }, { on := 2, ground := Ground.phase }, { on := 3, ground := Ground.phase }], guard := none }] false))
def apKey_rec (fn : FuncId) (sv : Value) (Bs D : Nat) (st : LoopState) (pend : Option Code) : Loop :=
  { state := st, pending := pend, fn, tmps := #[.slice none 0 0, sv, .pointer (some ⟨Bs, 0, none⟩), undef, .slice none 0 0, undef, sv, undef, undef, undef, undef, undef, undef], params := #[7], assign := apKey_assign, body := apKey_body, defers := D }
theorem apKey_info : (Tryz.prog.info? 80).map (fun i => (i.zero, i.size, i.bytes)) = some (some (.agg #[.int .u32 0, .int .i64 0, .int .u32 0]), 3, 24) := by kernel_rfl
set_option maxRecDepth 100000 in
set_option maxHeartbeats 4000000 in
theorem apKey_yield (F : Fence) (m : Nat) (w0 : World) (fn : FuncId) (hfn : F.fn fn) (sv : Value) (Bs l D : Nat) (hBl : Bs ≠ l) (hDl : D ≠ l) (hDB : D ≠ Bs) (h0B : w0.heap.size ≤ Bs) (h0l : w0.heap.size ≤ l)
    (N : Nat) (hN : N ≤ 1000000) (ss : List Key) (x : Key) (W : World) (h : ApAt 105 80 3 Key.cells (apKey_rec fn sv Bs D .ready none) w0 Bs l D ss W) (hlen : ss.length < N) :
    YieldAt F m Tryz.prog l #[Key.val x] W fun e W' => e = .returned (.bool true) ∧ ApAt 105 80 3 Key.cells (apKey_rec fn sv Bs D .ready none) w0 Bs l D (ss ++ [x]) W' ∧ KeepsWalks W W' := by
  have hne : 105 ≠ 80 := by decide
  obtain ⟨i0, hi, hz0, hz1, hz2⟩ := info_parts apKey_info
  refine ⟨fn, #[.slice none 0 0, sv, .pointer (some ⟨Bs, 0, none⟩), undef, .slice none 0 0, undef, sv, Key.val x, undef, undef, undef, undef, undef], apKey_assign, apKey_body, by simpa [apKey_rec] using run_yield (P := Tryz.prog) (args := #[Key.val x]) h.L rfl, roundIn_of_wpIn hfn ?_⟩
  obtain ⟨xa, xl, xi⟩ := x
  simp only [Key.val]
  obtain ⟨WA, hWA⟩ : ∃ WA, W.alloc (.cells #[.int .u32 xa, .int .i64 xl, .int .u32 xi] 80) = WA := ⟨_, rfl⟩
  have hA : ApAt 105 80 3 Key.cells (apKey_rec fn sv Bs D .ready none) w0 Bs l D ss WA := by
    rw [← hWA]
    exact ap_abides _ _ _ _ _ w0 Bs l D w0.heap.size (Nat.le_refl _) ss W _ none h (World.grownBy_alloc W _ none) (fun r e => by cases e)
  have hkA : KeepsWalks W WA := by rw [← hWA]; exact KeepsWalks.alloc _ _
  have kN : Blk WA W.heap.size 80 #[.int .u32 xa, .int .i64 xl, .int .u32 xi] := by rw [← hWA]; exact Blk.new W _ _
  have hlN : l ≠ W.heap.size := Nat.ne_of_lt (lt_of_heap h.L)
  have hbN := h.below.size
  clear h
  have hl : l < WA.heap.size := lt_of_heap hA.L
  have hbr := run_beginRound (P := Tryz.prog) hA.L rfl
  obtain ⟨v, hv, hrow, _⟩ := hA.box
  obtain ⟨W2, hW2⟩ : ∃ W2, WA.putObj l (.loop { apKey_rec fn sv Bs D .ready none with state := .busy }) = W2 := ⟨_, rfl⟩
  rw [hW2] at hbr
  have hg2 : WA.grownBy W2 (some l) := by rw [← hW2]; exact grownBy_putObj_a _ _ _
  have hk2 : KeepsWalks WA W2 := by rw [← hW2]; exact KeepsWalks.putObj _ hA.L rfl
  have hv2 : W2.heap[Bs]? = some (.cells #[v] 105 (0, 0)) := by rw [← hW2]; exact (World.putObj_heap_other hBl).trans hv
  have hK2 : W2.heap[D]? = some (.deferred (some [])) := by rw [← hW2]; exact (World.putObj_heap_other hDl).trans hA.D
  have hL2 : W2.heap[l]? = some (.loop { apKey_rec fn sv Bs D .ready none with state := .busy }) := by rw [← hW2]; exact World.putObj_heap_same hl
  have kN2 : Blk W2 W.heap.size 80 #[.int .u32 xa, .int .i64 xl, .int .u32 xi] := by rw [← hW2]; exact (World.putObj_heap_other (Ne.symm hlN)).trans kN
  have hrow2 : W2.ownsRow w0.heap.size 80 3 v ss.length (ss.flatMap Key.cells) := hrow.kept hg2 (ownsRow_ne_a hrow hA.L (fun cur e => by first | cases e | exact hne (Obj.cells.inj e).2.1))
  have hb2 : Below w0.heap.size w0 W2 := hA.below.grown hg2 hA.below.size (fun k e => by cases e; exact h0l)
  obtain ⟨hc2, hf2⟩ := cell_of_box_a hv2
  have hBlt : Bs < W2.heap.size := lt_of_heap hv2
  have hl2 : l < W2.heap.size := lt_of_heap hL2
  have hDlt : D < W2.heap.size := lt_of_heap hK2
  have ne_of : ∀ {j : Nat} {o : Obj}, W2.heap[j]? = some o → (∀ cur, o ≠ .cells cur 80 (0, 0)) → some j ≠ v.ownBlock := fun hj hno => by
    rcases ownsRow_ne_a hrow2 hj hno with e | e
    · rw [e]; simp
    · exact fun e' => e e'.symm
  have hkk := (hkA.trans hk2).trans (KeepsWalks.alloc W2 (.cells #[.int .u32 xa, .int .i64 xl, .int .u32 xi] 80))
  have HWA := Lib.hid hWA
  clear hW2 hWA hA hrow hv hkA hk2 hg2 kN
  unfold apKey_assign
  gi_wp2_with gi_round_op_a
  rw [HWA.out]
  refine ⟨W2, hbr, ?_⟩
  unfold apKey_body
  have n0 := kN2.cell 0
  have n1 := kN2.cell 1
  have n2 := kN2.cell 2
  have n3 := kN2.cell 3
  simp only [List.getElem?_toArray, List.getElem?_cons_zero, List.getElem?_cons_succ, List.getElem?_nil] at n0 n1 n2 n3
  have hNlt := kN2.lt
  gi_wp2_with (first
    | (gi_at_builtin; refine wpListIn_append_own _ rfl _ _ 105 rfl w0.heap.size 80 i0 (.agg #[.int .u32 0, .int .i64 0, .int .u32 0]) 3 24 Tryz.underlying105 hi hz0 hz1 hz2 rfl (by decide) _ _ _ rfl (hrow2.alloc _) ⟨W2.heap.size, 0, none⟩ 1 1 (#[.int .u32 xa, .int .i64 xl, .int .u32 xi]).toList rfl rfl (cells_new _ _ _) (by simp [Value.oneCell']) (by unfold maxLen; omega) (by omega) (by have := hb2.size; simp; omega) ?_; intro v' w3 hown' hg3 hnil3
       have hv3 : w3.heap[Bs]? = some (.cells #[v] 105 (0, 0)) := (hg3.block Bs (by simp; omega) (ne_of hv2 (fun cur e => by first | cases e | exact hne (Obj.cells.inj e).2.1))).trans ((Below.heap_alloc _ _ Bs hBlt).trans hv2)
       obtain ⟨hc3, hf3⟩ := cell_of_box_a hv3
       obtain ⟨g', cap', cur', rfl, hbase', hgb', hr1, hr2, hr3, hr4⟩ : ∃ g' cap' cur', v' = .slice (some ⟨g', 0, none⟩) (ss.length + 1) cap' ∧ w0.heap.size ≤ g' ∧ w3.heap[g']? = some (.cells cur' 80 (0, 0)) ∧ ss.length + 1 ≤ cap' ∧ cap' ≤ maxLen ∧ cur'.size = cap' * 3 ∧ cur'.toList.take ((ss.length + 1) * 3) = ss.flatMap Key.cells ++ (#[.int .u32 xa, .int .i64 xl, .int .u32 xi]).toList := by
         rcases hown'.2 with ⟨_, h0⟩ | h'
         · exact absurd h0 (by omega)
         · exact h'
       go_frame)
    | gi_round_op_a)
  have hg3' : (W2.alloc (.cells #[.int .u32 xa, .int .i64 xl, .int .u32 xi] 80)).grownBy w3 v.ownBlock := hg3
  have hL3 : w3.heap[l]? = some (.loop { apKey_rec fn sv Bs D .ready none with state := .busy }) := (hg3'.block l (by simp; omega) (ne_of hL2 (fun cur e => by first | cases e | exact hne (Obj.cells.inj e).2.1))).trans ((Below.heap_alloc _ _ l hl2).trans hL2)
  have hK3 : w3.heap[D]? = some (.deferred (some [])) := (hg3'.block D (by simp; omega) (ne_of hK2 (fun cur e => by first | cases e | exact hne (Obj.cells.inj e).2.1))).trans ((Below.heap_alloc _ _ D hDlt).trans hK2)
  obtain ⟨w4, hw4⟩ : ∃ w4, w3.setCell ⟨Bs, 0, none⟩ (.slice (some ⟨g', 0, none⟩) (ss.length + 1) cap') = w4 := ⟨_, rfl⟩
  rw [hw4]
  have hg4 : w3.grownBy w4 (some Bs) := by rw [← hw4]; exact grownBy_setCell0_a _ _ _
  have hv4 : w4.heap[Bs]? = some (.cells #[.slice (some ⟨g', 0, none⟩) (ss.length + 1) cap'] 105 (0, 0)) := by rw [← hw4]; exact heap_setCell_box_a _ hv3
  have hL4 : w4.heap[l]? = some (.loop { apKey_rec fn sv Bs D .ready none with state := .busy }) := (hg4.block l (lt_of_heap hL3) (fun e => hBl (by cases e; rfl))).trans hL3
  have hK4 : w4.heap[D]? = some (.deferred (some [])) := (hg4.block D (lt_of_heap hK3) (fun e => hDB (by cases e; rfl))).trans hK3
  have hrow4 := hown'.kept hg4 (ownsRow_ne_a hown' hv3 (fun cur e => by first | cases e | exact hne (Obj.cells.inj e).2.1))
  have hl4 : l < w4.heap.size := lt_of_heap hL4
  have hb3 : Below w0.heap.size w0 w3 := (hb2.alloc hb2.size _).grown hg3' (by have := hb2.size; simp; omega) (fun k e => (hrow2.lt k e).1)
  have hb4 : Below w0.heap.size w0 w4 := hb3.grown hg4 hb3.size (fun k e => by cases e; exact h0B)
  have hk4 : KeepsWalks W w4 := (hkk.trans (KeepsWalks.of_grownBy hg3' (ownsRow_not_walk_a (hrow2.alloc _)))).trans (by rw [← hw4]; exact KeepsWalks.setCell _ _ _)
  clear hw4
  refine ⟨_, _, run_endRound none hL4, rfl, ⟨⟨_, (World.putObj_heap_other hBl).trans hv4, ?_, by simp⟩, World.putObj_heap_same hl4, (World.putObj_heap_other hDl).trans hK4, hb4.grown (grownBy_putObj_a _ _ _) hb4.size (fun k e => by cases e; exact h0l)⟩, hk4.trans (KeepsWalks.putObj _ hL4 rfl)⟩
  have := hrow4.kept (grownBy_putObj_a w4 l (.loop { { apKey_rec fn sv Bs D .ready none with state := .busy } with state := if (none : Option Code).isNone then .ready else .done, pending := none })) (ownsRow_ne_a hrow4 hL4 (fun cur e => by first | cases e | exact hne (Obj.cells.inj e).2.1))
  simpa [Key.cells] using this
set_option maxRecDepth 100000 in
set_option maxHeartbeats 4000000 in
theorem apKey_in (F : Fence) (n : Nat) (h11 : F.fn 84) (hro : F.round = none) (hn : 2 ≤ n) (g : Nat) (lb : Array Value) (hFg : F.fn g) (eg : ∀ args w, (callFunc g args).run Tryz.prog w = .ok (.enter g args) w)
    (S : List Key → Prop) (N : Nat) (hN : N ≤ 1000000) (w : World) (hseq : SeqGives F (n - 1) Tryz.prog g lb Key.val S N w) :
    CallsIn F n Tryz.prog 84 #[.slice none 0 0, .func (.func g) #[] lb] w fun e w' => ∃ (v : Value) (ss : List Key), e = .returned v ∧ S ss ∧ w'.ownsRow w.heap.size 80 3 v ss.length (ss.flatMap Key.cells) ∧ (v = .slice none 0 0 ↔ ss = []) ∧ Below w.heap.size w w' := by
  have h1 : 1 ≤ n := by omega
  have hne : 105 ≠ 80 := by decide
  refine callsIn_of_wp_marks Tryz.func84 rfl h11 ?_ hro
  simp only [Tryz.ntmps84, List.size_toArray, List.length_cons, List.length_nil, Nat.reduceAdd, Nat.reduceSub, Array.replicate_succ, Array.replicate_zero, List.push_toArray, List.append_toArray, List.nil_append, List.cons_append]
  gi_wp2
  refine wpIn_rangeFunc ?_
  intro fn hfn
  rw [hro]
  obtain ⟨W0, hW0⟩ : ∃ W0, w.alloc (.cells #[.slice none 0 0] 105) = W0 := ⟨_, rfl⟩
  have hs0 : W0.heap.size = w.heap.size + 1 := by rw [← hW0]; simp
  have hv0 : W0.heap[w.heap.size]? = some (.cells #[.slice none 0 0] 105 (0, 0)) := by rw [← hW0]; exact heap_new w _
  have hb0 : Below w.heap.size w W0 := by rw [← hW0]; exact (Below.refl _ w).alloc (Nat.le_refl _) _
  rw [hW0]
  obtain ⟨W1, hW1⟩ : ∃ W1, (W0.alloc (.deferred (some []))).alloc (.loop (apKey_rec fn (.func (.func g) #[] lb) w.heap.size W0.heap.size .ready none)) = W1 := ⟨_, rfl⟩
  have hold : ∀ k, k < W0.heap.size → W1.heap[k]? = W0.heap[k]? := fun k hk => by
    rw [← hW1]; exact (Below.heap_alloc _ _ k (by simp; omega)).trans (Below.heap_alloc _ _ k hk)
  have hb1 : Below w.heap.size w W1 := by rw [← hW1]; exact (hb0.alloc hb0.size _).alloc (by have := hb0.size; simp; omega) _
  have hs1 : W1.heap.size = W0.heap.size + 2 := by rw [← hW1]; simp
  have hM : ApAt 105 80 3 Key.cells (apKey_rec fn (.func (.func g) #[] lb) w.heap.size W0.heap.size .ready none) w w.heap.size (W0.heap.size + 1) W0.heap.size ([] : List Key) W1 :=
    ⟨⟨_, (hold w.heap.size (by omega)).trans hv0, ⟨rfl, .inl ⟨rfl, rfl⟩⟩, by simp⟩,
     by rw [← hW1]; have := heap_new (W0.alloc (.deferred (some []))) (.loop (apKey_rec fn (.func (.func g) #[] lb) w.heap.size W0.heap.size .ready none)); rwa [World.size_alloc] at this,
     by rw [← hW1]; exact (Below.heap_alloc _ _ _ (by simp)).trans (heap_new W0 _), hb1⟩
  refine ⟨W0.heap.size + 1, [{ target := .collected W0.heap.size, args := #[] }], W1, { target := .fn (.func g) lb, args := #[.func (.yield (W0.heap.size + 1)) #[] #[]] }, W1, g,
    #[.func (.yield (W0.heap.size + 1)) #[] #[]] ++ lb, W1, ?_, ?_, ?_, ?_, fun _ => h1, ?_⟩
  · rw [← hW1]; exact run_enterLoop_outer _ _ _ _ _
  · simp [resolve, go_sem]
  · intro f' hf'; simp [Target.leads] at hf'; subst hf'; exact hFg
  · simp [invoke, go_sem, eg]
  · refine (hseq (W0.heap.size + 1) (ApAt 105 80 3 Key.cells (apKey_rec fn (.func (.func g) #[] lb) w.heap.size W0.heap.size .ready none) w w.heap.size (W0.heap.size + 1) W0.heap.size) W1 hb1 (ap_abides _ _ _ _ _ _ _ _ _ _ hb1.size)
      (fun pre x W hJ hl => apKey_yield F (n - 1 - 1) w fn hfn _ w.heap.size (W0.heap.size + 1) W0.heap.size (by omega) (by omega) (by omega) (Nat.le_refl _) (by omega) N hN pre x W hJ hl) hM).mono ?_
    rintro e W2 ⟨⟨v0, rfl⟩, ss, hS, h2⟩
    obtain ⟨v, hv, hrow, hnil⟩ := h2.box
    have hend := run_endLoop (P := Tryz.prog) h2.L (by simp [apKey_rec])
    obtain ⟨W3, hW3⟩ : ∃ W3, W2.putObj (W0.heap.size + 1) (.loop { apKey_rec fn (.func (.func g) #[] lb) w.heap.size W0.heap.size .ready none with state := .exhausted }) = W3 := ⟨_, rfl⟩
    rw [hW3] at hend
    have hg3 : W2.grownBy W3 (some (W0.heap.size + 1)) := by rw [← hW3]; exact grownBy_putObj_a _ _ _
    have hv3 : W3.heap[w.heap.size]? = some (.cells #[v] 105 (0, 0)) := by rw [← hW3]; exact (World.putObj_heap_other (by omega)).trans hv
    have hK3 : W3.heap[W0.heap.size]? = some (.deferred (some [])) := by rw [← hW3]; exact (World.putObj_heap_other (by omega)).trans h2.D
    have hrow3 := hrow.kept hg3 (ownsRow_ne_a hrow h2.L (fun cur e => by first | cases e | exact hne (Obj.cells.inj e).2.1))
    have hb3 : Below w.heap.size w W3 := h2.below.grown hg3 h2.below.size (fun k e => by cases e; omega)
    obtain ⟨hc3, hf3⟩ := cell_of_box_a hv3
    clear hW3
    refine ⟨none, W3, hend, ?_⟩
    gi_wp2
    rw [← hs0]
    refine ⟨by simp, .inl ⟨_, _, rfl, run_takeDeferred hK3, ?_⟩⟩
    exact ⟨_, results_tmp rfl _ _ _, v, ss, rfl, hS, hrow3.kept (grownBy_putObj_a _ _ _) (ownsRow_ne_a hrow3 hK3 (fun cur e => by first | cases e | exact hne (Obj.cells.inj e).2.1)), hnil, hb3.grown (grownBy_putObj_a _ _ _) hb3.size (fun k e => by cases e; omega)⟩
set_option maxHeartbeats 1000000 in
theorem apKey_collect (F : Fence) (n : Nat) (h8 : F.fn 77) (h11 : F.fn 84) (hro : F.round = none) (hn : 3 ≤ n) (g : Nat) (lb : Array Value) (hFg : F.fn g) (eg : ∀ args w, (callFunc g args).run Tryz.prog w = .ok (.enter g args) w)
    (S : List Key → Prop) (N : Nat) (hN : N ≤ 1000000) (w : World) (hseq : SeqGives F (n - 1 - 1) Tryz.prog g lb Key.val S N w) :
    CallsIn F n Tryz.prog 77 #[.func (.func g) #[] lb] w fun e w' => ∃ (v : Value) (ss : List Key), e = .returned v ∧ S ss ∧ w'.ownsRow w.heap.size 80 3 v ss.length (ss.flatMap Key.cells) ∧ (v = .slice none 0 0 ↔ ss = []) ∧ Below w.heap.size w w' := by
  have h1 : 1 ≤ n := by omega
  refine callsIn_of_wp Tryz.func77 rfl h8 ?_ hro
  simp only [Tryz.ntmps77, List.size_toArray, List.length_cons, List.length_nil, Nat.reduceAdd, Nat.reduceSub, Array.replicate_succ, Array.replicate_zero, List.push_toArray, List.append_toArray, List.nil_append, List.cons_append]
  gi_wp2_with (gi_at_call 84; refine (apKey_in F (n - 1) h11 hro (by omega) g lb hFg eg S N hN _ hseq).mono ?_; rintro e w' ⟨v, ss, rfl, hS, hrow, hnil, hb⟩)
  go_ret
  exact ⟨v, ss, rfl, hS, hrow, hnil, hb⟩
end Go.Proofs.YtnfaeafplaeehaaGreat
end
section
set_option linter.unusedVariables false
set_option linter.unusedSimpArgs false
namespace Go.Proofs.YtnfaeafplaeehaaGreat
open Go.RowKit Go.ChangeMaps
/-! A map's entries while one walks over them. -/
theorem entry_of {α β : Type} {ek : α → Value} {ev : β → Value} {es : List MapEntry} {m : List (α × β)} (h : es.map (fun e => (e.key, e.val)) = m.map (fun x => (ek x.1, ev x.2))) {e : MapEntry} (he : e ∈ es) : ∃ x ∈ m, e.key = ek x.1 ∧ e.val = ev x.2 := by
  have : (e.key, e.val) ∈ m.map (fun x => (ek x.1, ev x.2)) := h ▸ List.mem_map_of_mem (f := fun e : MapEntry => (e.key, e.val)) he
  obtain ⟨x, hx, h2⟩ := List.mem_map.1 this
  simp only [Prod.mk.injEq] at h2
  exact ⟨x, hx, h2.1.symm, h2.2.symm⟩
theorem entry_to {α β : Type} {ek : α → Value} {ev : β → Value} {es : List MapEntry} {m : List (α × β)} (h : es.map (fun e => (e.key, e.val)) = m.map (fun x => (ek x.1, ev x.2))) {x : α × β} (hx : x ∈ m) : ∃ e ∈ es, e.key = ek x.1 ∧ e.val = ev x.2 := by
  have : (ek x.1, ev x.2) ∈ es.map (fun e => (e.key, e.val)) := h ▸ List.mem_map_of_mem (f := fun x : α × β => (ek x.1, ev x.2)) hx
  obtain ⟨e, he, h2⟩ := List.mem_map.1 this
  simp only [Prod.mk.injEq] at h2
  exact ⟨e, he, h2.1, h2.2⟩
theorem born_eq : ∀ {l : List MapEntry}, (l.map (·.born)).Nodup → ∀ {x y : MapEntry}, x ∈ l → y ∈ l → x.born = y.born → x = y
  | [], _, x, y, hx, _, _ => by simp at hx
  | a :: l, hn, x, y, hx, hy, h => by
    simp only [List.map_cons, List.nodup_cons] at hn
    rcases List.mem_cons.1 hx with rfl | hx1
    · rcases List.mem_cons.1 hy with rfl | hy1
      · rfl
      · exact absurd (h ▸ List.mem_map_of_mem (f := MapEntry.born) hy1) hn.1
    · rcases List.mem_cons.1 hy with rfl | hy1
      · exact absurd (h ▸ List.mem_map_of_mem (f := MapEntry.born) hx1) hn.1
      · exact born_eq hn.2 hx1 hy1 h
theorem keys_eq {α β : Type} : ∀ {m : List (α × β)}, (m.map (·.1)).Nodup → ∀ {x y : α × β}, x ∈ m → y ∈ m → x.1 = y.1 → x = y
  | [], _, x, y, hx, _, _ => by simp at hx
  | a :: l, hn, x, y, hx, hy, h => by
    simp only [List.map_cons, List.nodup_cons] at hn
    rcases List.mem_cons.1 hx with rfl | hx1
    · rcases List.mem_cons.1 hy with rfl | hy1
      · rfl
      · exact absurd (h ▸ List.mem_map_of_mem (f := Prod.fst) hy1) hn.1
    · rcases List.mem_cons.1 hy with rfl | hy1
      · exact absurd (h ▸ List.mem_map_of_mem (f := Prod.fst) hx1) hn.1
      · exact keys_eq hn.2 hx1 hy1 h
end Go.Proofs.YtnfaeafplaeehaaGreat
end
