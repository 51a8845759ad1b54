/- own texts of this claim, one behind the other: see the remarks within -/
import Derived.Test.YtnfaeafplaeehaaGreatKeyCmp
import Derived.Shelf.SlSortCmp.NoneTotal
import Derived.Test.YtnfaeafplaeehaaGreatMrgB
import Derived.Test.YtnfaeafplaeehaaGreatMrgG
import Derived.BigQuiet
section
set_option linter.unusedVariables false
set_option linter.unusedSimpArgs false
namespace Go.Proofs.YtnfaeafplaeehaaGreat
open Go.RowKit Go.Sort Go.Lib Go.Shelf
/-! slices.SortedFunc(maps.Keys(m), cmp), and the caller that joins the two. -/
theorem pcmp_lt (a l c m : Int) : decide (pcmp a l c m < 0) = decide (a < c ∨ (a = c ∧ l < m)) := by
  unfold pcmp aorI acmpI
  congr 1
  refine propext ?_
  split <;> split <;> (try split) <;> (try split) <;> omega
def pfxCf (x y : Pfx) : Int := pcmp x.a x.l y.a y.l
theorem pfxLt (x y : Pfx) : ltOf pfxCf x y = decide (x.a < y.a ∨ (x.a = y.a ∧ x.l < y.l)) := pcmp_lt _ _ _ _
theorem pfxSWO : SWO (ltOf pfxCf) where
  irrefl x := by rw [pfxLt]; simp
  trans x y z h1 h2 := by rw [pfxLt] at *; simp at *; omega
  ntrans x y z h1 h2 := by rw [pfxLt] at *; simp at *; omega
theorem sPfx_gives (F : Fence) (n : Nat) (hF : F.fn 74) (hro : F.round = none) (hn : 1 ≤ n) (Bm b : Nat) (m : List (Pfx × Bool)) (w : World) (hB : Bm < w.heap.size) (hm : w.cell? ⟨Bm, 0, none⟩ = some (.map (some b))) (hown : MapAt w b Pfx.val Value.bool m) :
    SeqGives F n Tryz.prog 74 #[.pointer (some ⟨Bm, 0, none⟩)] Pfx.val (fun ss => ss.Perm (m.map (·.1))) m.length w := by
  intro l J W hW hJ hY h0
  have hc : W.cell? ⟨Bm, 0, none⟩ = some (.map (some b)) := (hW.cell (show (⟨Bm, 0, none⟩ : Addr).block < w.heap.size from hB)).trans hm
  refine (keysPfx_in F n hF hro hn l Bm b m J hY W hJ hc (hown.below hW) h0).mono ?_
  rintro e W' ⟨he, ss, hs, hJs⟩
  exact ⟨he, ss, hs, hJs⟩
theorem sPfx_cmps (blk off size : Nat) (w : World) : CmpLays Tryz.prog 50 #[] Pfx.cells 2 pfxCf blk off size w :=
  fun _ _ _ _ x y => addr_Compare_grow x.a x.l y.a y.l _
set_option maxHeartbeats 1000000 in
theorem sPfx_func (Bm b : Nat) (m : List (Pfx × Bool)) (w : World) (hB : Bm < w.heap.size) (hm : w.cell? ⟨Bm, 0, none⟩ = some (.map (some b))) (hown : MapAt w b Pfx.val Value.bool m) (hN : m.length ≤ 1000000) :
    Calls Tryz.prog 62 #[.func (.func 74) #[] #[.pointer (some ⟨Bm, 0, none⟩)], .func (.func 50) #[] #[]] w fun e w' => ∃ (ad : Option Addr) (c : Nat) (ss : List Pfx), e = .returned (.slice ad ss.length c) ∧ ss.Perm (m.map (·.1)) ∧ ss.Pairwise (fun x y => ltOf pfxCf y x = false) ∧ Row w' 2 ad ss.length (ss.flatMap Pfx.cells) ∧ Below w.heap.size w w' ∧ ∀ b off, ad = some ⟨b, off, none⟩ → w.heap.size ≤ b ∧ ∃ cur, w'.heap[b]? = some (.cells cur 36 (0, 0)) := by
  have e1 : ∀ args w, (callFunc 74 args).run Tryz.prog w = .ok (.enter 74 args) w := enters_of Tryz.func74 (by kernel_rfl) rfl
  have eC : ∀ args w, (callFunc 50 args).run Tryz.prog w = .ok (.enter 50 args) w := enters_of Tryz.func50 (by kernel_rfl) rfl
  have hcol := callsIn_wide.1 (apPfx_collect Fence.wide 6 trivial trivial rfl (by omega) 74 #[.pointer (some ⟨Bm, 0, none⟩)] trivial e1 (fun ss => ss.Perm (m.map (·.1))) m.length hN w (sPfx_gives Fence.wide 4 trivial rfl (by omega) Bm b m w hB hm hown))
  have hsort := fun blk cap ss W hH hblk hsz => AnyQ.slices_SortFunc Tryz.sortPfx 2 Tryz.isAgg36 Tryz.sizeOf36 Pfx.cells (fun _ => rfl) (fun x v hv => by simp [Pfx.cells] at hv; rcases hv with rfl | rfl | rfl <;> rfl) pfxCf pfxSWO 50 #[] blk 0 cap ss W eC (sPfx_cmps blk 0 ss.size W) hH hblk hsz
  have hnone := fun cap W => AnyF.slices_SortFunc_none (ρ := Tryz.sortPfx_ren) { Tryz.sortPfx with } none cap (.func (.func 50) #[] #[]) W
  change ∀ blk cap ss W, _ → _ → _ → Calls _ 73 _ _ _ at hsort
  change ∀ cap W, Calls _ 73 _ _ _ at hnone
  go_enter Tryz.func62, Tryz.ntmps62
  go_wp2_with (go_at_call 72; refine hcol.mono ?_)
  rintro e w1 ⟨v, ss, rfl, hS, ⟨hl, hrow⟩, hnil, hb⟩
  have hle : ss.length ≤ 1000000 := by have := hS.length_eq; simp at this; omega
  rcases hrow with ⟨rfl, h0⟩ | ⟨g, cap, cur, rfl, hg, hh, hcap, hmax, hcs, htk⟩
  · obtain rfl : ss = [] := List.eq_nil_of_length_eq_zero h0
    go_wp2_with (go_at_call 73; refine (hnone _ _).mono ?_; rintro e w2 ⟨rfl, rfl⟩)
    go_ret
    exact ⟨none, 0, [], rfl, hS, List.Pairwise.nil, ⟨rfl, Nat.zero_le _, fun h => absurd h (by simp)⟩, hb, fun b off h => by cases h⟩
  · have hgl := lt_of_heap hh
    have hlen : ∀ x, (Pfx.cells x).length = 2 := fun _ => rfl
    have hH : HoldsK Pfx.cells 2 w1 g 0 ss.toArray := holdsK_of_row Pfx.cells 2 hlen (by decide) hh ss htk
    have hs := hsort g cap ss.toArray w1 hH hgl (by simp; omega)
    simp only [List.size_toArray] at hs
    clear hcol hsort hnone
    go_wp2_with (go_at_call 73; refine hs.mono ?_)
    rintro e w2 ⟨rfl, d', q, os, hp, hsd, rfl⟩
    obtain ⟨p1, p2, p3⟩ := sorted_list (ltOf pfxCf) ss d' (by simpa using hp) (by simpa using hsd)
    go_wp2
    go_ret
    refine ⟨some ⟨g, 0, none⟩, cap, d'.toList, by simp [p3], p1.trans hS, p2, ?_, hb.trans (sortWorldK_below Pfx.cells 2 w.heap.size hgl hg d' os), fun b off h => by cases h; exact ⟨hg, sortWorldK_blk Pfx.cells 2 hh d' os⟩⟩
    have := row_of_holdsK Pfx.cells 2 hlen (by decide) (W := sortWorldK Pfx.cells 2 w1 g 0 q d' os) (gb := g) (Nat.lt_of_lt_of_le hgl (sortWorldK_below Pfx.cells 2 w.heap.size hgl hg d' os).size) d' (by omega) (sortWorldK_cell Pfx.cells 2 hgl ss.toArray d' os hH (by simpa using p3))
    simpa using this
theorem sPfx_keys (mb : Option Nat) (w : World) : Calls Tryz.prog 63 #[.map mb] w fun e w' => e = .returned (.func (.func 74) #[] #[.pointer (some ⟨w.heap.size, 0, none⟩)]) ∧ w' = w.alloc (.cells #[.map mb] 66) := by
  go_enter Tryz.func63, Tryz.ntmps63
  go_wp2
  go_ret
  exact ⟨rfl, rfl⟩
theorem sPfx_all (b : Nat) (m : List (Pfx × Bool)) (w : World) (hown : MapAt w b Pfx.val Value.bool m) (hN : m.length ≤ 1000000) :
    Calls Tryz.prog 49 #[.map (some b), .func (.func 50) #[] #[]] w fun e w' => ∃ (ad : Option Addr) (c : Nat) (ss : List Pfx), e = .returned (.slice ad ss.length c) ∧ ss.Perm (m.map (·.1)) ∧ ss.Pairwise (fun x y => ltOf pfxCf y x = false) ∧ Row w' 2 ad ss.length (ss.flatMap Pfx.cells) ∧ Below w.heap.size w w' ∧ ∀ b off, ad = some ⟨b, off, none⟩ → w.heap.size ≤ b ∧ ∃ cur, w'.heap[b]? = some (.cells cur 36 (0, 0)) := by
  have hb := hown.lt
  have hc := sPfx_func w.heap.size b m (w.alloc (.cells #[.map (some b)] 66)) (by simp) (by simp) (hown.alloc _) hN
  go_enter Tryz.func49, Tryz.ntmps49
  go_wp2_with (first
    | (go_at_call 63; refine (sPfx_keys _ _).mono ?_; rintro e w1 ⟨rfl, rfl⟩)
    | (go_at_call 62; refine hc.mono ?_; rintro e w1 ⟨ad, c, ss, rfl, h1, h2, h3, h4, h5⟩))
  go_ret
  exact ⟨ad, c, ss, rfl, h1, h2, h3, ((Below.refl _ w).alloc (Nat.le_refl _) _).trans (h4.mono (by simp)), fun b off h => ⟨by have := (h5 b off h).1; simp at this; omega, (h5 b off h).2⟩⟩
theorem sKey_gives (F : Fence) (n : Nat) (hF : F.fn 79) (hro : F.round = none) (hn : 1 ≤ n) (Bm b : Nat) (m : List (Key × Dst)) (w : World) (hB : Bm < w.heap.size) (hm : w.cell? ⟨Bm, 0, none⟩ = some (.map (some b))) (hown : MapAt w b Key.val dstV m) :
    SeqGives F n Tryz.prog 79 #[.pointer (some ⟨Bm, 0, none⟩)] Key.val (fun ss => ss.Perm (m.map (·.1))) m.length w := by
  intro l J W hW hJ hY h0
  have hc : W.cell? ⟨Bm, 0, none⟩ = some (.map (some b)) := (hW.cell (show (⟨Bm, 0, none⟩ : Addr).block < w.heap.size from hB)).trans hm
  refine (keysKey_in F n hF hro hn l Bm b m J hY W hJ hc (hown.below hW) h0).mono ?_
  rintro e W' ⟨he, ss, hs, hJs⟩
  exact ⟨he, ss, hs, hJs⟩
theorem sKey_cmps (blk off size : Nat) (w : World) : CmpLays Tryz.prog 53 #[] Key.cells 3 kcmp blk off size w :=
  fun _ _ _ _ x y => state_compare_grow x y _
set_option maxHeartbeats 1000000 in
theorem sKey_func (Bm b : Nat) (m : List (Key × Dst)) (w : World) (hB : Bm < w.heap.size) (hm : w.cell? ⟨Bm, 0, none⟩ = some (.map (some b))) (hown : MapAt w b Key.val dstV m) (hN : m.length ≤ 1000000) :
    Calls Tryz.prog 67 #[.func (.func 79) #[] #[.pointer (some ⟨Bm, 0, none⟩)], .func (.func 53) #[] #[]] w fun e w' => ∃ (ad : Option Addr) (c : Nat) (ss : List Key), e = .returned (.slice ad ss.length c) ∧ ss.Perm (m.map (·.1)) ∧ ss.Pairwise (fun x y => ltOf kcmp y x = false) ∧ Row w' 3 ad ss.length (ss.flatMap Key.cells) ∧ Below w.heap.size w w' ∧ ∀ b off, ad = some ⟨b, off, none⟩ → w.heap.size ≤ b ∧ ∃ cur, w'.heap[b]? = some (.cells cur 80 (0, 0)) := by
  have e1 : ∀ args w, (callFunc 79 args).run Tryz.prog w = .ok (.enter 79 args) w := enters_of Tryz.func79 (by kernel_rfl) rfl
  have eC : ∀ args w, (callFunc 53 args).run Tryz.prog w = .ok (.enter 53 args) w := enters_of Tryz.func53 (by kernel_rfl) rfl
  have hcol := callsIn_wide.1 (apKey_collect Fence.wide 6 trivial trivial rfl (by omega) 79 #[.pointer (some ⟨Bm, 0, none⟩)] trivial e1 (fun ss => ss.Perm (m.map (·.1))) m.length hN w (sKey_gives Fence.wide 4 trivial rfl (by omega) Bm b m w hB hm hown))
  have hsort := fun blk cap ss W hH hblk hsz => AnyQ.slices_SortFunc Tryz.sortKey 3 Tryz.isAgg80 Tryz.sizeOf80 Key.cells (fun _ => rfl) (fun x v hv => by simp [Key.cells] at hv; rcases hv with rfl | rfl | rfl <;> rfl) kcmp keySWO 53 #[] blk 0 cap ss W eC (sKey_cmps blk 0 ss.size W) hH hblk hsz
  have hnone := fun cap W => AnyF.slices_SortFunc_none (ρ := Tryz.sortKey_ren) { Tryz.sortKey with } none cap (.func (.func 53) #[] #[]) W
  change ∀ blk cap ss W, _ → _ → _ → Calls _ 78 _ _ _ at hsort
  change ∀ cap W, Calls _ 78 _ _ _ at hnone
  go_enter Tryz.func67, Tryz.ntmps67
  go_wp2_with (go_at_call 77; refine hcol.mono ?_)
  rintro e w1 ⟨v, ss, rfl, hS, ⟨hl, hrow⟩, hnil, hb⟩
  have hle : ss.length ≤ 1000000 := by have := hS.length_eq; simp at this; omega
  rcases hrow with ⟨rfl, h0⟩ | ⟨g, cap, cur, rfl, hg, hh, hcap, hmax, hcs, htk⟩
  · obtain rfl : ss = [] := List.eq_nil_of_length_eq_zero h0
    go_wp2_with (go_at_call 78; refine (hnone _ _).mono ?_; rintro e w2 ⟨rfl, rfl⟩)
    go_ret
    exact ⟨none, 0, [], rfl, hS, List.Pairwise.nil, ⟨rfl, Nat.zero_le _, fun h => absurd h (by simp)⟩, hb, fun b off h => by cases h⟩
  · have hgl := lt_of_heap hh
    have hlen : ∀ x, (Key.cells x).length = 3 := fun _ => rfl
    have hH : HoldsK Key.cells 3 w1 g 0 ss.toArray := holdsK_of_row Key.cells 3 hlen (by decide) hh ss htk
    have hs := hsort g cap ss.toArray w1 hH hgl (by simp; omega)
    simp only [List.size_toArray] at hs
    clear hcol hsort hnone
    go_wp2_with (go_at_call 78; refine hs.mono ?_)
    rintro e w2 ⟨rfl, d', q, os, hp, hsd, rfl⟩
    obtain ⟨p1, p2, p3⟩ := sorted_list (ltOf kcmp) ss d' (by simpa using hp) (by simpa using hsd)
    go_wp2
    go_ret
    refine ⟨some ⟨g, 0, none⟩, cap, d'.toList, by simp [p3], p1.trans hS, p2, ?_, hb.trans (sortWorldK_below Key.cells 3 w.heap.size hgl hg d' os), fun b off h => by cases h; exact ⟨hg, sortWorldK_blk Key.cells 3 hh d' os⟩⟩
    have := row_of_holdsK Key.cells 3 hlen (by decide) (W := sortWorldK Key.cells 3 w1 g 0 q d' os) (gb := g) (Nat.lt_of_lt_of_le hgl (sortWorldK_below Key.cells 3 w.heap.size hgl hg d' os).size) d' (by omega) (sortWorldK_cell Key.cells 3 hgl ss.toArray d' os hH (by simpa using p3))
    simpa using this
theorem sKey_keys (mb : Option Nat) (w : World) : Calls Tryz.prog 68 #[.map mb] w fun e w' => e = .returned (.func (.func 79) #[] #[.pointer (some ⟨w.heap.size, 0, none⟩)]) ∧ w' = w.alloc (.cells #[.map mb] 67) := by
  go_enter Tryz.func68, Tryz.ntmps68
  go_wp2
  go_ret
  exact ⟨rfl, rfl⟩
theorem sKey_all (b : Nat) (m : List (Key × Dst)) (w : World) (hown : MapAt w b Key.val dstV m) (hN : m.length ≤ 1000000) :
    Calls Tryz.prog 52 #[.map (some b), .func (.func 53) #[] #[]] w fun e w' => ∃ (ad : Option Addr) (c : Nat) (ss : List Key), e = .returned (.slice ad ss.length c) ∧ ss.Perm (m.map (·.1)) ∧ ss.Pairwise (fun x y => ltOf kcmp y x = false) ∧ Row w' 3 ad ss.length (ss.flatMap Key.cells) ∧ Below w.heap.size w w' ∧ ∀ b off, ad = some ⟨b, off, none⟩ → w.heap.size ≤ b ∧ ∃ cur, w'.heap[b]? = some (.cells cur 80 (0, 0)) := by
  have hb := hown.lt
  have hc := sKey_func w.heap.size b m (w.alloc (.cells #[.map (some b)] 67)) (by simp) (by simp) (hown.alloc _) hN
  go_enter Tryz.func52, Tryz.ntmps52
  go_wp2_with (first
    | (go_at_call 68; refine (sKey_keys _ _).mono ?_; rintro e w1 ⟨rfl, rfl⟩)
    | (go_at_call 67; refine hc.mono ?_; rintro e w1 ⟨ad, c, ss, rfl, h1, h2, h3, h4, h5⟩))
  go_ret
  exact ⟨ad, c, ss, rfl, h1, h2, h3, ((Below.refl _ w).alloc (Nat.le_refl _) _).trans (h4.mono (by simp)), fun b off h => ⟨by have := (h5 b off h).1; simp at this; omega, (h5 b off h).2⟩⟩
end Go.Proofs.YtnfaeafplaeehaaGreat
end
section
set_option linter.unusedVariables false
set_option linter.unusedSimpArgs false
namespace Go.Proofs.YtnfaeafplaeehaaGreat
open Go.RowKit Go.Sort Go.Lib Go.Shelf
/-! What a model shows of a state: the closures that the iterators call. -/
theorem state_ID (σ : St) (s g1 g2 : Nat) (w : World) (h : StAt 75 w s g1 g2 σ) :
    Calls Tryz.prog 33 #[.pointer (some ⟨s, 0, none⟩)] w fun e w' => e = .returned (.int .u32 σ.id) ∧ w' = w := by
  obtain ⟨hB, hm1, hm2, hs1, hs2, h12⟩ := h
  have b0 := hB.cell 0
  have b1 := hB.cell 1
  have b2 := hB.cell 2
  have b3 := hB.cell 3
  have bf0 := hB.frozen 0
  have bf1 := hB.frozen 1
  have bf2 := hB.frozen 2
  have bf3 := hB.frozen 3
  simp only [List.getElem?_toArray, List.getElem?_cons_zero, List.getElem?_cons_succ] at b0 b1 b2 b3
  go_enter Tryz.func33, Tryz.ntmps33
  go_wp2
  go_ret
  exact ⟨rfl, rfl⟩
theorem bool_zero (w : World) : (zeroValue 4).run Tryz.prog w = .ok (.bool false) w := by kernel_rfl
theorem look_own {w : World} {b : Nat} {m : List (Pfx × Bool)} (h : MapAt w b Pfx.val Value.bool m) (k : Pfx) : (Instr.lookup 66 (.map (some b)) (.agg #[.int .u32 k.a, .int .i64 k.l]) true).run Tryz.prog w = .ok (.tuple #[.bool ((getM m k).getD false), .bool (getM m k).isSome]) w := by
  cases hg : getM m k with
  | none => exact run_lookup_none pfx_keys Tryz.underlying66 h k hg true _ bool_zero
  | some v => exact run_lookup_some pfx_keys Tryz.underlying66 h k v hg true
theorem state_Own (σ : St) (k : Pfx) (s g1 g2 : Nat) (w : World) (h : StAt 75 w s g1 g2 σ) :
    Calls Tryz.prog 35 #[.pointer (some ⟨s, 0, none⟩), .agg #[.int .u32 k.a, .int .i64 k.l]] w fun e w' => e = .returned (.tuple #[.bool ((getM σ.own k).getD false), .bool (getM σ.own k).isSome]) ∧ Below w.heap.size w w' := by
  obtain ⟨hB, hm1, hm2, hs1, hs2, h12⟩ := h
  obtain ⟨id, lease, own, fl⟩ := σ
  dsimp only at hB hm1 hm2 ⊢
  have hl := fun (w' : World) (hw : w'.heap[g1]? = w.heap[g1]?) => look_own (hm1.same hw) k
  obtain ⟨a, l⟩ := k
  simp only at hl ⊢
  have hlt := hB.lt
  have hb0 := (Below.refl w.heap.size w).alloc (Nat.le_refl _) (.cells #[.int .u32 a, .int .i64 l] 36)
  have kB := hB.alloc (.cells #[.int .u32 a, .int .i64 l] 36)
  have kY := Blk.new w 36 #[.int .u32 a, .int .i64 l]
  have hM := fun (w' : World) (hw : Below (w.alloc (.cells #[.int .u32 a, .int .i64 l] 36)).heap.size (w.alloc (.cells #[.int .u32 a, .int .i64 l] 36)) w') => hl w' ((hw.block g1 (by have := hm1.lt; simp; omega)).trans (Below.heap_alloc _ _ _ hm1.lt))
  generalize hv : (getM own (⟨a, l⟩ : Pfx)).getD false = v at hM
  generalize hi : (getM own (⟨a, l⟩ : Pfx)).isSome = i at hM
  have HV := Lib.hid hv
  have HI := Lib.hid hi
  clear hv hi hl
  go_enter Tryz.func35, Tryz.ntmps35
  go_wp2_with fail
  generalize w.alloc (.cells #[.int .u32 a, .int .i64 l] 36) = W at hb0 kB kY hM ⊢
  have hlB := kB.lt
  have hlY := kY.lt
  have b0 := kB.cell 0
  have b1 := kB.cell 1
  have b2 := kB.cell 2
  have b3 := kB.cell 3
  have bf0 := kB.frozen 0
  have bf1 := kB.frozen 1
  have bf2 := kB.frozen 2
  have bf3 := kB.frozen 3
  simp only [List.getElem?_toArray, List.getElem?_cons_zero, List.getElem?_cons_succ] at b0 b1 b2 b3
  have y0 := kY.cell 0
  have y1 := kY.cell 1
  simp only [List.getElem?_toArray, List.getElem?_cons_zero, List.getElem?_cons_succ] at y0 y1
  refine draw_start [] Later (by kernel_rfl) ?_
  refine draw_chunk (n := 19) (by kernel_rfl) (fun _ _ _ _ _ h => h) [0, 1, 2, 3, 4, 5, 6, 7, 8, 9, 10] [] _ #[true, true, true, true, true, true, true, true, true, true, true] (by kernel_rfl) 0 _ ?_ _ rfl ?_ ?_
  rotate_left
  · intro w' hw'
    have hc' : ∀ b o, b < W.heap.size → w'.cell? ⟨b, o, none⟩ = W.cell? ⟨b, o, none⟩ := (bcell hw').1
    have hlk := hM w' (undrew hw')
    iterate 11
      refine ci_step (v := ?_) rfl (by kernel_rfl) ?_ ?_
      rotate_left
      · first | (go_simp; done) | (go_simp; with_reducible rfl)
      try simp only [Act.put, List.setIfInBounds_toArray, List.set_cons_zero, List.set_cons_succ]
    refine ci_end ?_
    rfl
  refine draw_done (by kernel_rfl) ?_ _
  go_wp2
  refine bodyPost_ret (v := .tuple #[.bool v, .bool i]) (by simp [results, Tryz.results35, go_sem]) rfl ⟨rfl, Below.drew hb0⟩
theorem Blk.ne {w : World} {g k : Nat} {t u : TypeId} {cs ds : Array Value} (h : Blk w g t cs) (h2 : Blk w k u ds) (ht : t ≠ u) : g ≠ k := by
  rintro rfl
  have := h.symm.trans h2
  simp at this
  exact ht this.2
theorem MapAt.ne {α β : Type} {w : World} {g k : Nat} {u : TypeId} {ds : Array Value} {ek : α → Value} {ev : β → Value} {m : List (α × β)} (h : MapAt w g ek ev m) (h2 : Blk w k u ds) : g ≠ k := by
  rintro rfl
  obtain ⟨es, c, h, _⟩ := h
  have := h.symm.trans h2
  simp at this
theorem shows1 (σ τ : St) (x : Pfx) (on : Bool) (la ll : Int) (n m h1 h2 s g1 g2 bm bs bo bn bl : Nat) (W : World) (hM : StAt 69 W m h1 h2 σ) (hS : StAt 75 W s g1 g2 τ)
    (kbm : Blk W bm 32 #[.pointer (some ⟨m, 0, none⟩)]) (kbs : Blk W bs 43 #[.pointer (some ⟨s, 0, none⟩)])
    (kbo : Blk W bo 4 #[.bool true]) (kbn : Blk W bn 3 #[.int .i64 n]) (kbl : Blk W bl 36 #[.int .u32 la, .int .i64 ll])
    (hx : getM σ.own x = some on) (hx2 : getM τ.own x = some on) (hn : n = 0 ∨ lessB la ll x.a x.l = true) (hn2 : n < 1000000) :
    Calls Tryz.prog 34 #[.agg #[.int .u32 x.a, .int .i64 x.l], .bool on, .pointer (some ⟨bm, 0, none⟩), .pointer (some ⟨bs, 0, none⟩), .pointer (some ⟨bo, 0, none⟩), .pointer (some ⟨bn, 0, none⟩), .pointer (some ⟨bl, 0, none⟩)] W fun e W' => e = .returned (.bool true) ∧ Blk W' bo 4 #[.bool true] ∧ Blk W' bn 3 #[.int .i64 (n + 1 : Nat)] ∧ Blk W' bl 36 #[.int .u32 x.a, .int .i64 x.l] ∧ Kept [bo, bn, bl] W W' := by
  obtain ⟨xa, xl⟩ := x
  simp only at hn ⊢
  have n1 : bo ≠ bn := kbo.ne kbn (by decide)
  have n2 : bo ≠ bl := kbo.ne kbl (by decide)
  have n3 : bn ≠ bl := kbn.ne kbl (by decide)
  have n4 : W.heap.size ≠ bo := by have := kbo.lt; omega
  have n5 : W.heap.size ≠ bn := by have := kbn.lt; omega
  have n6 : W.heap.size ≠ bl := by have := kbl.lt; omega
  have n7 := n1.symm
  have n8 := n2.symm
  have n9 := n3.symm
  have hb0 := (Below.refl W.heap.size W).alloc (Nat.le_refl _) (.cells #[.int .u32 xa, .int .i64 xl] 36)
  have hK := Kept.of_below (S := [bo, bn, bl]) hb0
  have kx := Blk.new W 36 #[.int .u32 xa, .int .i64 xl]
  replace kbm := kbm.below' hb0
  replace kbs := kbs.below' hb0
  replace kbo := kbo.below' hb0
  replace kbn := kbn.below' hb0
  replace kbl := kbl.below' hb0
  replace hS := hS.below hb0
  have kM := hM.1.below' hb0
  have hm1 := hM.2.1.below hb0
  have hL := fun (w' : World) (hw : Below (W.alloc (.cells #[.int .u32 xa, .int .i64 xl] 36)).heap.size (W.alloc (.cells #[.int .u32 xa, .int .i64 xl] 36)) w') => look_own (hm1.same (hw.block h1 hm1.lt)) ⟨xa, xl⟩
  simp only [hx, Option.getD_some, Option.isSome_some] at hL
  have HX := Lib.hid hx2
  clear hx hx2 hm1 hM hb0
  by_cases h0 : n = 0
  · subst h0
    go_enter Tryz.func34, Tryz.ntmps34
    go_wp2_with fail
    generalize W.alloc (.cells #[.int .u32 xa, .int .i64 xl] 36) = W1 at *
    have e1 := kbm.lt
    have e2 := kbs.lt
    have e3 := kbo.lt
    have e4 := kbn.lt
    have e5 := kbl.lt
    have e6 := kx.lt
    have e7 := kM.lt
    have c1 := kbm.cell 0
    have c2 := kbs.cell 0
    have c3 := kbo.cell 0
    have c4 := kbn.cell 0
    simp only [List.getElem?_toArray, List.getElem?_cons_zero, List.getElem?_cons_succ] at c1 c2 c3 c4
    have l0 := kbl.cell 0
    have l1 := kbl.cell 1
    simp only [List.getElem?_toArray, List.getElem?_cons_zero, List.getElem?_cons_succ] at l0 l1
    have x0 := kx.cell 0
    have x1 := kx.cell 1
    simp only [List.getElem?_toArray, List.getElem?_cons_zero, List.getElem?_cons_succ] at x0 x1
    have m0 := kM.cell 0
    have m1 := kM.cell 1
    have m2 := kM.cell 2
    have m3 := kM.cell 3
    have mf0 := kM.frozen 0
    have mf1 := kM.frozen 1
    have mf2 := kM.frozen 2
    have mf3 := kM.frozen 3
    simp only [List.getElem?_toArray, List.getElem?_cons_zero, List.getElem?_cons_succ] at m0 m1 m2 m3
    refine draw_start [] Later (by kernel_rfl) ?_
    refine draw_chunk (n := 58) (by kernel_rfl) (fun _ _ _ _ _ h => h) [0, 1, 2, 3, 4, 5, 6, 7, 8, 9, 10] [] _ #[true, true, true, true, true, true, true, true, true, true, true] (by kernel_rfl) 0 _ ?_ _ rfl ?_ ?_
    rotate_left
    · intro w' hw'
      have hc' : ∀ b o, b < W1.heap.size → w'.cell? ⟨b, o, none⟩ = W1.cell? ⟨b, o, none⟩ := (bcell hw').1
      have hlk := hL w' (undrew hw')
      iterate 11
        refine ci_step (v := ?_) rfl (by kernel_rfl) ?_ ?_
        rotate_left
        · first | (go_simp; done) | (go_simp; with_reducible rfl)
        try simp only [Act.put, List.setIfInBounds_toArray, List.set_cons_zero, List.set_cons_succ]
      refine ci_end ?_
      rfl
    refine draw_done (by kernel_rfl) ?_ _
    go_wp2_with fail
    refine (state_Own τ ⟨xa, xl⟩ s g1 g2 W1.drew hS).mono ?_
    rintro e w2 ⟨rfl, hb2⟩
    rw [HX.out]
    simp only [Option.getD_some, Option.isSome_some]
    replace kbo := kbo.drew.below' hb2
    replace kbn := kbn.drew.below' hb2
    replace kbl := kbl.drew.below' hb2
    replace kx := kx.drew.below' hb2
    replace hK := (kept_drew hK).trans (Kept.of_below (S := [bo, bn, bl]) hb2)
    clear hb2 c1 c2 c3 c4 l0 l1 x0 x1 m0 m1 m2 m3 e1 e2 e3 e4 e5 e6 e7 hL
    have c3 := kbo.cell 0
    have c4 := kbn.cell 0
    simp only [List.getElem?_toArray, List.getElem?_cons_zero, List.getElem?_cons_succ] at c3 c4
    have l0 := kbl.cell 0
    have l1 := kbl.cell 1
    simp only [List.getElem?_toArray, List.getElem?_cons_zero, List.getElem?_cons_succ] at l0 l1
    have x0 := kx.cell 0
    have x1 := kx.cell 1
    simp only [List.getElem?_toArray, List.getElem?_cons_zero, List.getElem?_cons_succ] at x0 x1
    have f1 := kbo.frozen 0
    have f2 := kbn.frozen 0
    have f3 := kbl.frozen 0
    have f4 := kbl.frozen 1
    go_wp2
    go_ret
    refine ⟨rfl, ?_, ?_, ?_, ?_⟩
    · simpa using (((kbo.set 0 (.bool true)).other (a := ⟨bl, 0, none⟩) n2 (.int .u32 xa)).other (a := ⟨bl, 1, none⟩) n2 (.int .i64 xl)).other (a := ⟨bn, 0, none⟩) n1 (.int .i64 1)
    · simpa using (((kbn.other (a := ⟨bo, 0, none⟩) n7 (.bool true)).other (a := ⟨bl, 0, none⟩) n3 (.int .u32 xa)).other (a := ⟨bl, 1, none⟩) n3 (.int .i64 xl)).set 0 (.int .i64 1)
    · simpa using (((kbl.other (a := ⟨bo, 0, none⟩) n8 (.bool true)).set 0 (.int .u32 xa)).set 1 (.int .i64 xl)).other (a := ⟨bn, 0, none⟩) n9 (.int .i64 1)
    · exact kept_set (kept_set (kept_set (kept_set hK _ _ (.inl (by simp))) _ _ (.inl (by simp))) _ _ (.inl (by simp))) _ _ (.inl (by simp))
  · have hless := hn.resolve_left h0
    have hne : ((n : Int) == 0) = false := by simpa using h0
    clear hn
    go_enter Tryz.func34, Tryz.ntmps34
    go_wp2_with fail
    generalize W.alloc (.cells #[.int .u32 xa, .int .i64 xl] 36) = W1 at *
    have e1 := kbm.lt
    have e2 := kbs.lt
    have e3 := kbo.lt
    have e4 := kbn.lt
    have e5 := kbl.lt
    have e6 := kx.lt
    have e7 := kM.lt
    have c1 := kbm.cell 0
    have c2 := kbs.cell 0
    have c3 := kbo.cell 0
    have c4 := kbn.cell 0
    simp only [List.getElem?_toArray, List.getElem?_cons_zero, List.getElem?_cons_succ] at c1 c2 c3 c4
    have l0 := kbl.cell 0
    have l1 := kbl.cell 1
    simp only [List.getElem?_toArray, List.getElem?_cons_zero, List.getElem?_cons_succ] at l0 l1
    have x0 := kx.cell 0
    have x1 := kx.cell 1
    simp only [List.getElem?_toArray, List.getElem?_cons_zero, List.getElem?_cons_succ] at x0 x1
    have m0 := kM.cell 0
    have m1 := kM.cell 1
    have m2 := kM.cell 2
    have m3 := kM.cell 3
    have mf0 := kM.frozen 0
    have mf1 := kM.frozen 1
    have mf2 := kM.frozen 2
    have mf3 := kM.frozen 3
    simp only [List.getElem?_toArray, List.getElem?_cons_zero, List.getElem?_cons_succ] at m0 m1 m2 m3
    refine draw_start [] Later (by kernel_rfl) ?_
    refine draw_chunk (n := 58) (by kernel_rfl) (fun _ _ _ _ _ h => h) [0, 1, 2, 3, 4, 5, 6, 7, 8, 9, 10] [] _ #[true, true, true, true, true, true, true, true, true, true, true] (by kernel_rfl) 0 _ ?_ _ rfl ?_ ?_
    rotate_left
    · intro w' hw'
      have hc' : ∀ b o, b < W1.heap.size → w'.cell? ⟨b, o, none⟩ = W1.cell? ⟨b, o, none⟩ := (bcell hw').1
      have hlk := hL w' (undrew hw')
      iterate 11
        refine ci_step (v := ?_) rfl (by kernel_rfl) ?_ ?_
        rotate_left
        · first | (go_simp; done) | (go_simp; with_reducible rfl)
        try simp only [Act.put, List.setIfInBounds_toArray, List.set_cons_zero, List.set_cons_succ]
      refine ci_end ?_
      rfl
    refine draw_done (by kernel_rfl) ?_ _
    go_wp2_with fail
    refine (state_Own τ ⟨xa, xl⟩ s g1 g2 W1.drew hS).mono ?_
    rintro e w2 ⟨rfl, hb2⟩
    rw [HX.out]
    simp only [Option.getD_some, Option.isSome_some]
    replace kbo := kbo.drew.below' hb2
    replace kbn := kbn.drew.below' hb2
    replace kbl := kbl.drew.below' hb2
    replace kx := kx.drew.below' hb2
    replace hK := (kept_drew hK).trans (Kept.of_below (S := [bo, bn, bl]) hb2)
    clear hb2 c1 c2 c3 c4 l0 l1 x0 x1 m0 m1 m2 m3 e1 e2 e3 e4 e5 e6 e7 hL
    have c3 := kbo.cell 0
    have c4 := kbn.cell 0
    simp only [List.getElem?_toArray, List.getElem?_cons_zero, List.getElem?_cons_succ] at c3 c4
    have l0 := kbl.cell 0
    have l1 := kbl.cell 1
    simp only [List.getElem?_toArray, List.getElem?_cons_zero, List.getElem?_cons_succ] at l0 l1
    have x0 := kx.cell 0
    have x1 := kx.cell 1
    simp only [List.getElem?_toArray, List.getElem?_cons_zero, List.getElem?_cons_succ] at x0 x1
    go_wp2_with fail
    refine (law02_Less la ll xa xl _).mono ?_
    rintro e w3 ⟨rfl, hb3⟩
    rw [hless]
    replace kbo := kbo.below' hb3
    replace kbn := kbn.below' hb3
    replace kbl := kbl.below' hb3
    replace kx := kx.below' hb3
    replace hK := hK.trans (Kept.of_below (S := [bo, bn, bl]) hb3)
    clear hb3 c3 c4 l0 l1 x0 x1
    have c3 := kbo.cell 0
    have c4 := kbn.cell 0
    simp only [List.getElem?_toArray, List.getElem?_cons_zero, List.getElem?_cons_succ] at c3 c4
    have l0 := kbl.cell 0
    have l1 := kbl.cell 1
    simp only [List.getElem?_toArray, List.getElem?_cons_zero, List.getElem?_cons_succ] at l0 l1
    have x0 := kx.cell 0
    have x1 := kx.cell 1
    simp only [List.getElem?_toArray, List.getElem?_cons_zero, List.getElem?_cons_succ] at x0 x1
    have hwr : IntKind.i64.wrap ((n : Int) + 1) = (n : Int) + 1 := by rw [IntKind.wrap_i64]; omega
    have f1 := kbo.frozen 0
    have f2 := kbn.frozen 0
    have f3 := kbl.frozen 0
    have f4 := kbl.frozen 1
    go_wp2
    go_ret
    refine ⟨rfl, ?_, ?_, ?_, ?_⟩
    · simpa using (((kbo.set 0 (.bool true)).other (a := ⟨bl, 0, none⟩) n2 (.int .u32 xa)).other (a := ⟨bl, 1, none⟩) n2 (.int .i64 xl)).other (a := ⟨bn, 0, none⟩) n1 (.int .i64 ((n : Int) + 1))
    · simpa using (((kbn.other (a := ⟨bo, 0, none⟩) n7 (.bool true)).other (a := ⟨bl, 0, none⟩) n3 (.int .u32 xa)).other (a := ⟨bl, 1, none⟩) n3 (.int .i64 xl)).set 0 (.int .i64 ((n : Int) + 1))
    · simpa using (((kbl.other (a := ⟨bo, 0, none⟩) n8 (.bool true)).set 0 (.int .u32 xa)).set 1 (.int .i64 xl)).other (a := ⟨bn, 0, none⟩) n9 (.int .i64 ((n : Int) + 1))
    · exact kept_set (kept_set (kept_set (kept_set hK _ _ (.inl (by simp))) _ _ (.inl (by simp))) _ _ (.inl (by simp))) _ _ (.inl (by simp))
end Go.Proofs.YtnfaeafplaeehaaGreat
end
section
set_option linter.unusedVariables false
set_option linter.unusedSimpArgs false
namespace Go.Proofs.YtnfaeafplaeehaaGreat
open Go.RowKit Go.Sort Go.Lib Go.Shelf
set_option maxHeartbeats 4000000 in
theorem shows2 (σ τ : St) (x : Key) (d : Dst) (la ll li : Int) (n m h1 h2 s g1 g2 bm bs bo bn bl : Nat) (W : World) (hM : StAt 69 W m h1 h2 σ) (hS : StAt 75 W s g1 g2 τ)
    (kbm : Blk W bm 32 #[.pointer (some ⟨m, 0, none⟩)]) (kbs : Blk W bs 43 #[.pointer (some ⟨s, 0, none⟩)])
    (kbo : Blk W bo 4 #[.bool true]) (kbn : Blk W bn 3 #[.int .i64 n]) (kbl : Blk W bl 80 #[.int .u32 la, .int .i64 ll, .int .u32 li])
    (hx : getM σ.fl x = some d) (hx2 : getM τ.fl x = some d) (hn : n = 0 ∨ lessB la ll x.a x.l = true ∨ (lessB la ll x.a x.l = false ∧ la = x.a ∧ ll = x.l ∧ li < x.id)) (hn2 : n < 1000000) :
    Calls Tryz.prog 37 #[.agg #[.int .u32 x.a, .int .i64 x.l, .int .u32 x.id], .agg #[.int .u32 d.1, .int .u16 d.2], .pointer (some ⟨bm, 0, none⟩), .pointer (some ⟨bs, 0, none⟩), .pointer (some ⟨bn, 0, none⟩), .pointer (some ⟨bl, 0, none⟩), .pointer (some ⟨bo, 0, none⟩)] W fun e W' => e = .returned (.bool true) ∧ Blk W' bo 4 #[.bool true] ∧ Blk W' bn 3 #[.int .i64 (n + 1 : Nat)] ∧ Blk W' bl 80 #[.int .u32 x.a, .int .i64 x.l, .int .u32 x.id] ∧ Kept [bo, bn, bl] W W' := by
  obtain ⟨xa, xl, xi⟩ := x
  obtain ⟨ds, dm⟩ := d
  simp only at hn ⊢
  have n1 : bo ≠ bn := kbo.ne kbn (by decide)
  have n2 : bo ≠ bl := kbo.ne kbl (by decide)
  have n3 : bn ≠ bl := kbn.ne kbl (by decide)
  have n4 : W.heap.size ≠ bo := by have := kbo.lt; omega
  have n5 : W.heap.size ≠ bn := by have := kbn.lt; omega
  have n6 : W.heap.size ≠ bl := by have := kbl.lt; omega
  have n7 := n1.symm
  have n8 := n2.symm
  have n9 := n3.symm
  have hb0 := ((Below.refl W.heap.size W).alloc (Nat.le_refl _) (.cells #[.int .u32 xa, .int .i64 xl, .int .u32 xi] 80)).alloc (by simp) (.cells #[.int .u32 ds, .int .u16 dm] 39)
  have kK := Kept.of_below (S := [bo, bn, bl]) hb0
  have kx := (Blk.new W 80 #[.int .u32 xa, .int .i64 xl, .int .u32 xi]).alloc (.cells #[.int .u32 ds, .int .u16 dm] 39)
  have kd := Blk.new (W.alloc (.cells #[.int .u32 xa, .int .i64 xl, .int .u32 xi] 80)) 39 #[.int .u32 ds, .int .u16 dm]
  simp only [World.size_alloc] at kd
  replace kbm := kbm.below' hb0
  replace kbs := kbs.below' hb0
  replace kbo := kbo.below' hb0
  replace kbn := kbn.below' hb0
  replace kbl := kbl.below' hb0
  replace hS := hS.below hb0
  have kM := hM.1.below' hb0
  have hm2 := hM.2.2.1.below hb0
  have hL := fun (w' : World) (hw : Below ((W.alloc (.cells #[.int .u32 xa, .int .i64 xl, .int .u32 xi] 80)).alloc (.cells #[.int .u32 ds, .int .u16 dm] 39)).heap.size ((W.alloc (.cells #[.int .u32 xa, .int .i64 xl, .int .u32 xi] 80)).alloc (.cells #[.int .u32 ds, .int .u16 dm] 39)).drew w') => run_lookup_some key_keys Tryz.underlying67 (hm2.same ((undrew hw).block h2 hm2.lt)) ⟨xa, xl, xi⟩ (ds, dm) hx true
  simp only [Key.val, dstV, if_true] at hL
  have HX := Lib.hid hx2
  clear hx hx2 hm2 hM hb0
  by_cases h0 : n = 0
  · subst h0
    clear hn
    go_enter Tryz.func37, Tryz.ntmps37
    go_wp2_with fail
    generalize (W.alloc (.cells #[.int .u32 xa, .int .i64 xl, .int .u32 xi] 80)).alloc (.cells #[.int .u32 ds, .int .u16 dm] 39) = W1 at *
    have e1 := kbm.lt
    have e2 := kbs.lt
    have e3 := kbo.lt
    have e4 := kbn.lt
    have e5 := kbl.lt
    have e6 := kx.lt
    have e7 := kM.lt
    have e8 := kd.lt
    have c1 := kbm.cell 0
    have c2 := kbs.cell 0
    simp only [List.getElem?_toArray, List.getElem?_cons_zero, List.getElem?_cons_succ] at c1 c2
    have x0 := kx.cell 0
    have x1 := kx.cell 1
    have x2 := kx.cell 2
    simp only [List.getElem?_toArray, List.getElem?_cons_zero, List.getElem?_cons_succ] at x0 x1 x2
    have m0 := kM.cell 0
    have m1 := kM.cell 1
    have m2 := kM.cell 2
    have m3 := kM.cell 3
    have mf0 := kM.frozen 0
    have mf1 := kM.frozen 1
    have mf2 := kM.frozen 2
    have mf3 := kM.frozen 3
    simp only [List.getElem?_toArray, List.getElem?_cons_zero, List.getElem?_cons_succ] at m0 m1 m2 m3
    refine draw_start [] (Below W1.heap.size) (by kernel_rfl) ?_
    refine draw_chunk (n := 76) (by kernel_rfl) (fun _ _ _ _ _ h => h) [0, 1, 2, 3, 4, 5, 6, 7, 8] [] _ #[true, true, true, true, true, true, true, true, true, false, false, false] (by kernel_rfl) 3 _ ?_ _ rfl ?_ ?_
    rotate_left
    · intro w' hw'
      have hc' : ∀ b o, b < W1.heap.size → w'.cell? ⟨b, o, none⟩ = W1.cell? ⟨b, o, none⟩ := fun b o h => hw'.cell (p := ⟨b, o, none⟩) h
      have hlk := hL w' hw'
      iterate 9
        refine ci_step (v := ?_) rfl (by kernel_rfl) ?_ ?_
        rotate_left
        · first | (go_simp; done) | (go_simp; with_reducible rfl)
        try simp only [Act.put, List.setIfInBounds_toArray, List.set_cons_zero, List.set_cons_succ]
      refine ci_end ?_
      rfl
    refine draw_eff (i := 9) rfl (by kernel_rfl) (listed' := #[true, true, true, true, true, true, true, true, true, true, false, false]) rfl (fun K hK => ?_)
    replace hK := Lib.hid hK
    go_wp2_with fail
    refine hK.out _ _ ⟨fun _ => below_dd ((Below.refl _ W1).alloc (Nat.le_refl _) _), ?_⟩
    clear hK
    refine draw_eff (i := 10) rfl (by kernel_rfl) (listed' := #[true, true, true, true, true, true, true, true, true, true, true, false]) rfl (fun K hK => ?_)
    replace hK := Lib.hid hK
    go_wp2_with fail
    refine hK.out _ _ ⟨fun _ => below_dd (below_two ((Below.refl _ W1).alloc (Nat.le_refl _) _) ((Below.refl _ W1).alloc (Nat.le_refl _) _) (by simp)), ?_⟩
    clear hK
    refine draw_chunk (n := 76) (by kernel_rfl) (fun _ _ _ _ _ h => h) [11] [] _ #[true, true, true, true, true, true, true, true, true, true, true, true] (by kernel_rfl) 0 _ ?_ _ rfl ?_ ?_
    rotate_left
    · intro w' hw'
      have hc' : ∀ b o, b < W1.heap.size → w'.cell? ⟨b, o, none⟩ = ((W1.alloc (.cells #[.int .u32 ds, .int .u16 dm] 39)).drew).cell? ⟨b, o, none⟩ := fun b o h => hw'.cell (p := ⟨b, o, none⟩) h
      refine ci_step (i := 11) (v := ?_) rfl (by kernel_rfl) ?_ ?_
      rotate_left
      · first | (go_simp; done) | (go_simp; with_reducible rfl)
      skip
      try simp only [Act.put, List.setIfInBounds_toArray, List.set_cons_zero, List.set_cons_succ]
      refine ci_end ?_
      rfl
    refine draw_done (by kernel_rfl) ?_ _
    have hbA := Below.drew ((Below.refl W1.heap.size W1).alloc (Nat.le_refl _) (.cells #[.int .u32 ds, .int .u16 dm] 39))
    have kf := (Blk.new W1 39 #[.int .u32 ds, .int .u16 dm]).drew
    have p1 : W1.heap.size ≠ bo := by omega
    have p2 : W1.heap.size ≠ bn := by omega
    have p3 : W1.heap.size ≠ bl := by omega
    clear e1 e2 e3 e4 e5 e6 e7 e8 c1 c2 x0 x1 x2 m0 m1 m2 m3 mf0 mf1 mf2 mf3 hL
    replace kbo := kbo.below' hbA
    replace kbn := kbn.below' hbA
    replace kbl := kbl.below' hbA
    replace kbs := kbs.below' hbA
    replace kK := kK.trans (Kept.of_below (S := [bo, bn, bl]) hbA)
    replace kx := kx.below' hbA
    replace kd := kd.below' hbA
    replace hS := hS.below hbA
    generalize (W1.alloc (.cells #[.int .u32 ds, .int .u16 dm] 39)).drew = W2 at *
    generalize W1.heap.size = q at *
    have e2 := kbs.lt
    have c2 := kbs.cell 0
    simp only [List.getElem?_toArray, List.getElem?_cons_zero, List.getElem?_cons_succ] at c2
    have x0 := kx.cell 0
    have x1 := kx.cell 1
    have x2 := kx.cell 2
    simp only [List.getElem?_toArray, List.getElem?_cons_zero, List.getElem?_cons_succ] at x0 x1 x2
    have e6 := kx.lt
    go_wp2_with fail
    refine (state_Floor τ ⟨xa, xl, xi⟩ s g1 g2 _ hS).mono ?_
    rintro e w3 ⟨rfl, hb3⟩
    rw [show getD0 τ.fl (⟨xa, xl, xi⟩ : Key) = (ds, dm) by simp [getD0, HX.out], HX.out]
    simp only [Option.isSome_some]
    clear x0 x1 x2 e2 e6 c2
    replace kbo := kbo.below' hb3
    replace kbn := kbn.below' hb3
    replace kbl := kbl.below' hb3
    replace kK := kK.trans (Kept.of_below (S := [bo, bn, bl]) hb3)
    replace kx := kx.below' hb3
    replace kd := kd.below' hb3
    replace kf := kf.below' hb3
    have e3 := kbo.lt
    have e4 := kbn.lt
    have e5 := kbl.lt
    have e6 := kx.lt
    have e8 := kd.lt
    have e9 := kf.lt
    have c3 := kbo.cell 0
    have c4 := kbn.cell 0
    simp only [List.getElem?_toArray, List.getElem?_cons_zero, List.getElem?_cons_succ] at c3 c4
    have l0 := kbl.cell 0
    have l1 := kbl.cell 1
    have l2 := kbl.cell 2
    simp only [List.getElem?_toArray, List.getElem?_cons_zero, List.getElem?_cons_succ] at l0 l1 l2
    have x0 := kx.cell 0
    have x1 := kx.cell 1
    have x2 := kx.cell 2
    simp only [List.getElem?_toArray, List.getElem?_cons_zero, List.getElem?_cons_succ] at x0 x1 x2
    have d0 := kd.cell 0
    have d1 := kd.cell 1
    simp only [List.getElem?_toArray, List.getElem?_cons_zero, List.getElem?_cons_succ] at d0 d1
    have f0 := kf.cell 0
    have f1 := kf.cell 1
    simp only [List.getElem?_toArray, List.getElem?_cons_zero, List.getElem?_cons_succ] at f0 f1
    have y1 := kbo.frozen 0
    have y2 := kbn.frozen 0
    have y3 := kbl.frozen 0
    have y4 := kbl.frozen 1
    have y5 := kbl.frozen 2
    go_wp2
    go_ret
    refine ⟨rfl, ?_, ?_, ?_, ?_⟩
    · simpa using (((((kbo.set 0 (.bool true)).other (a := ⟨bl, 0, none⟩) n2 (.int .u32 xa)).other (a := ⟨bl, 1, none⟩) n2 (.int .i64 xl)).other (a := ⟨bl, 2, none⟩) n2 (.int .u32 xi)).other (a := ⟨bn, 0, none⟩) n1 (.int .i64 1)).alloc (.cells #[.int .u32 ds, .int .u16 dm] 39)
    · simpa using (((((kbn.other (a := ⟨bo, 0, none⟩) n7 (.bool true)).other (a := ⟨bl, 0, none⟩) n3 (.int .u32 xa)).other (a := ⟨bl, 1, none⟩) n3 (.int .i64 xl)).other (a := ⟨bl, 2, none⟩) n3 (.int .u32 xi)).set 0 (.int .i64 1)).alloc (.cells #[.int .u32 ds, .int .u16 dm] 39)
    · simpa using (((((kbl.other (a := ⟨bo, 0, none⟩) n8 (.bool true)).set 0 (.int .u32 xa)).set 1 (.int .i64 xl)).set 2 (.int .u32 xi)).other (a := ⟨bn, 0, none⟩) n9 (.int .i64 1)).alloc (.cells #[.int .u32 ds, .int .u16 dm] 39)
    · exact kept_alloc (kept_set (kept_set (kept_set (kept_set (kept_set kK _ _ (.inl (by simp))) _ _ (.inl (by simp))) _ _ (.inl (by simp))) _ _ (.inl (by simp))) _ _ (.inl (by simp))) _
  have hne : ((n : Int) == 0) = false := by simpa using h0
  have hwr : IntKind.i64.wrap ((n : Int) + 1) = (n : Int) + 1 := by rw [IntKind.wrap_i64]; omega
  rcases hn.resolve_left h0 with hless | ⟨hless, ha, hl, hi⟩
  · clear hn
    go_enter Tryz.func37, Tryz.ntmps37
    go_wp2_with fail
    generalize (W.alloc (.cells #[.int .u32 xa, .int .i64 xl, .int .u32 xi] 80)).alloc (.cells #[.int .u32 ds, .int .u16 dm] 39) = W1 at *
    have e1 := kbm.lt
    have e2 := kbs.lt
    have e3 := kbo.lt
    have e4 := kbn.lt
    have e5 := kbl.lt
    have e6 := kx.lt
    have e7 := kM.lt
    have e8 := kd.lt
    have c1 := kbm.cell 0
    have c2 := kbs.cell 0
    simp only [List.getElem?_toArray, List.getElem?_cons_zero, List.getElem?_cons_succ] at c1 c2
    have x0 := kx.cell 0
    have x1 := kx.cell 1
    have x2 := kx.cell 2
    simp only [List.getElem?_toArray, List.getElem?_cons_zero, List.getElem?_cons_succ] at x0 x1 x2
    have m0 := kM.cell 0
    have m1 := kM.cell 1
    have m2 := kM.cell 2
    have m3 := kM.cell 3
    have mf0 := kM.frozen 0
    have mf1 := kM.frozen 1
    have mf2 := kM.frozen 2
    have mf3 := kM.frozen 3
    simp only [List.getElem?_toArray, List.getElem?_cons_zero, List.getElem?_cons_succ] at m0 m1 m2 m3
    refine draw_start [] (Below W1.heap.size) (by kernel_rfl) ?_
    refine draw_chunk (n := 76) (by kernel_rfl) (fun _ _ _ _ _ h => h) [0, 1, 2, 3, 4, 5, 6, 7, 8] [] _ #[true, true, true, true, true, true, true, true, true, false, false, false] (by kernel_rfl) 3 _ ?_ _ rfl ?_ ?_
    rotate_left
    · intro w' hw'
      have hc' : ∀ b o, b < W1.heap.size → w'.cell? ⟨b, o, none⟩ = W1.cell? ⟨b, o, none⟩ := fun b o h => hw'.cell (p := ⟨b, o, none⟩) h
      have hlk := hL w' hw'
      iterate 9
        refine ci_step (v := ?_) rfl (by kernel_rfl) ?_ ?_
        rotate_left
        · first | (go_simp; done) | (go_simp; with_reducible rfl)
        try simp only [Act.put, List.setIfInBounds_toArray, List.set_cons_zero, List.set_cons_succ]
      refine ci_end ?_
      rfl
    refine draw_eff (i := 9) rfl (by kernel_rfl) (listed' := #[true, true, true, true, true, true, true, true, true, true, false, false]) rfl (fun K hK => ?_)
    replace hK := Lib.hid hK
    go_wp2_with fail
    refine hK.out _ _ ⟨fun _ => below_dd ((Below.refl _ W1).alloc (Nat.le_refl _) _), ?_⟩
    clear hK
    refine draw_eff (i := 10) rfl (by kernel_rfl) (listed' := #[true, true, true, true, true, true, true, true, true, true, true, false]) rfl (fun K hK => ?_)
    replace hK := Lib.hid hK
    go_wp2_with fail
    refine hK.out _ _ ⟨fun _ => below_dd (below_two ((Below.refl _ W1).alloc (Nat.le_refl _) _) ((Below.refl _ W1).alloc (Nat.le_refl _) _) (by simp)), ?_⟩
    clear hK
    refine draw_chunk (n := 76) (by kernel_rfl) (fun _ _ _ _ _ h => h) [11] [] _ #[true, true, true, true, true, true, true, true, true, true, true, true] (by kernel_rfl) 0 _ ?_ _ rfl ?_ ?_
    rotate_left
    · intro w' hw'
      have hc' : ∀ b o, b < W1.heap.size → w'.cell? ⟨b, o, none⟩ = ((W1.alloc (.cells #[.int .u32 ds, .int .u16 dm] 39)).drew).cell? ⟨b, o, none⟩ := fun b o h => hw'.cell (p := ⟨b, o, none⟩) h
      refine ci_step (i := 11) (v := ?_) rfl (by kernel_rfl) ?_ ?_
      rotate_left
      · first | (go_simp; done) | (go_simp; with_reducible rfl)
      skip
      try simp only [Act.put, List.setIfInBounds_toArray, List.set_cons_zero, List.set_cons_succ]
      refine ci_end ?_
      rfl
    refine draw_done (by kernel_rfl) ?_ _
    have hbA := Below.drew ((Below.refl W1.heap.size W1).alloc (Nat.le_refl _) (.cells #[.int .u32 ds, .int .u16 dm] 39))
    have kf := (Blk.new W1 39 #[.int .u32 ds, .int .u16 dm]).drew
    have p1 : W1.heap.size ≠ bo := by omega
    have p2 : W1.heap.size ≠ bn := by omega
    have p3 : W1.heap.size ≠ bl := by omega
    clear e1 e2 e3 e4 e5 e6 e7 e8 c1 c2 x0 x1 x2 m0 m1 m2 m3 mf0 mf1 mf2 mf3 hL
    replace kbo := kbo.below' hbA
    replace kbn := kbn.below' hbA
    replace kbl := kbl.below' hbA
    replace kbs := kbs.below' hbA
    replace kK := kK.trans (Kept.of_below (S := [bo, bn, bl]) hbA)
    replace kx := kx.below' hbA
    replace kd := kd.below' hbA
    replace hS := hS.below hbA
    generalize (W1.alloc (.cells #[.int .u32 ds, .int .u16 dm] 39)).drew = W2 at *
    generalize W1.heap.size = q at *
    have e2 := kbs.lt
    have c2 := kbs.cell 0
    simp only [List.getElem?_toArray, List.getElem?_cons_zero, List.getElem?_cons_succ] at c2
    have x0 := kx.cell 0
    have x1 := kx.cell 1
    have x2 := kx.cell 2
    simp only [List.getElem?_toArray, List.getElem?_cons_zero, List.getElem?_cons_succ] at x0 x1 x2
    have e6 := kx.lt
    go_wp2_with fail
    refine (state_Floor τ ⟨xa, xl, xi⟩ s g1 g2 _ hS).mono ?_
    rintro e w3 ⟨rfl, hb3⟩
    rw [show getD0 τ.fl (⟨xa, xl, xi⟩ : Key) = (ds, dm) by simp [getD0, HX.out], HX.out]
    simp only [Option.isSome_some]
    clear x0 x1 x2 e2 e6 c2
    replace kbo := kbo.below' hb3
    replace kbn := kbn.below' hb3
    replace kbl := kbl.below' hb3
    replace kK := kK.trans (Kept.of_below (S := [bo, bn, bl]) hb3)
    replace kx := kx.below' hb3
    replace kd := kd.below' hb3
    replace kf := kf.below' hb3
    have e3 := kbo.lt
    have e4 := kbn.lt
    have e5 := kbl.lt
    have e6 := kx.lt
    have e8 := kd.lt
    have e9 := kf.lt
    have c3 := kbo.cell 0
    have c4 := kbn.cell 0
    simp only [List.getElem?_toArray, List.getElem?_cons_zero, List.getElem?_cons_succ] at c3 c4
    have l0 := kbl.cell 0
    have l1 := kbl.cell 1
    have l2 := kbl.cell 2
    simp only [List.getElem?_toArray, List.getElem?_cons_zero, List.getElem?_cons_succ] at l0 l1 l2
    have x0 := kx.cell 0
    have x1 := kx.cell 1
    have x2 := kx.cell 2
    simp only [List.getElem?_toArray, List.getElem?_cons_zero, List.getElem?_cons_succ] at x0 x1 x2
    have d0 := kd.cell 0
    have d1 := kd.cell 1
    simp only [List.getElem?_toArray, List.getElem?_cons_zero, List.getElem?_cons_succ] at d0 d1
    have f0 := kf.cell 0
    have f1 := kf.cell 1
    simp only [List.getElem?_toArray, List.getElem?_cons_zero, List.getElem?_cons_succ] at f0 f1
    go_wp2_with fail
    have hbB := (Below.refl w3.heap.size w3).alloc (Nat.le_refl _) (.cells #[.int .u32 ds, .int .u16 dm] 39)
    have kg := Blk.new w3 39 #[.int .u32 ds, .int .u16 dm]
    have p4 : w3.heap.size ≠ bo := by omega
    have p5 : w3.heap.size ≠ bn := by omega
    have p6 : w3.heap.size ≠ bl := by omega
    clear c3 c4 l0 l1 l2 x0 x1 x2 d0 d1 f0 f1 e3 e4 e5 e6 e8 e9
    replace kbo := kbo.below' hbB
    replace kbn := kbn.below' hbB
    replace kbl := kbl.below' hbB
    replace kK := kK.trans (Kept.of_below (S := [bo, bn, bl]) hbB)
    replace kx := kx.below' hbB
    replace kd := kd.below' hbB
    replace kf := kf.below' hbB
    clear hbB
    generalize w3.alloc (.cells #[.int .u32 ds, .int .u16 dm] 39) = W3 at *
    generalize w3.heap.size = r at *
    refine (law02_Less _ _ _ _ _).mono ?_
    rintro e w4 ⟨rfl, hb4⟩
    replace kbo := kbo.below' hb4
    replace kbn := kbn.below' hb4
    replace kbl := kbl.below' hb4
    replace kK := kK.trans (Kept.of_below (S := [bo, bn, bl]) hb4)
    replace kx := kx.below' hb4
    replace kd := kd.below' hb4
    replace kf := kf.below' hb4
    replace kg := kg.below' hb4
    have e3 := kbo.lt
    have e4 := kbn.lt
    have e5 := kbl.lt
    have e6 := kx.lt
    have e8 := kd.lt
    have e9 := kf.lt
    have c3 := kbo.cell 0
    have c4 := kbn.cell 0
    simp only [List.getElem?_toArray, List.getElem?_cons_zero, List.getElem?_cons_succ] at c3 c4
    have l0 := kbl.cell 0
    have l1 := kbl.cell 1
    have l2 := kbl.cell 2
    simp only [List.getElem?_toArray, List.getElem?_cons_zero, List.getElem?_cons_succ] at l0 l1 l2
    have x0 := kx.cell 0
    have x1 := kx.cell 1
    have x2 := kx.cell 2
    simp only [List.getElem?_toArray, List.getElem?_cons_zero, List.getElem?_cons_succ] at x0 x1 x2
    have d0 := kd.cell 0
    have d1 := kd.cell 1
    simp only [List.getElem?_toArray, List.getElem?_cons_zero, List.getElem?_cons_succ] at d0 d1
    have f0 := kf.cell 0
    have f1 := kf.cell 1
    simp only [List.getElem?_toArray, List.getElem?_cons_zero, List.getElem?_cons_succ] at f0 f1
    have g0 := kg.cell 0
    have g1 := kg.cell 1
    simp only [List.getElem?_toArray, List.getElem?_cons_zero, List.getElem?_cons_succ] at g0 g1
    have e10 := kg.lt
    clear hb4
    rw [hless]
    have y1 := kbo.frozen 0
    have y2 := kbn.frozen 0
    have y3 := kbl.frozen 0
    have y4 := kbl.frozen 1
    have y5 := kbl.frozen 2
    go_wp2
    go_ret
    refine ⟨rfl, ?_, ?_, ?_, ?_⟩
    · simpa using ((((kbo.set 0 (.bool true)).other (a := ⟨bl, 0, none⟩) n2 (.int .u32 xa)).other (a := ⟨bl, 1, none⟩) n2 (.int .i64 xl)).other (a := ⟨bl, 2, none⟩) n2 (.int .u32 xi)).other (a := ⟨bn, 0, none⟩) n1 (.int .i64 ((n : Int) + 1))
    · simpa using ((((kbn.other (a := ⟨bo, 0, none⟩) n7 (.bool true)).other (a := ⟨bl, 0, none⟩) n3 (.int .u32 xa)).other (a := ⟨bl, 1, none⟩) n3 (.int .i64 xl)).other (a := ⟨bl, 2, none⟩) n3 (.int .u32 xi)).set 0 (.int .i64 ((n : Int) + 1))
    · simpa using ((((kbl.other (a := ⟨bo, 0, none⟩) n8 (.bool true)).set 0 (.int .u32 xa)).set 1 (.int .i64 xl)).set 2 (.int .u32 xi)).other (a := ⟨bn, 0, none⟩) n9 (.int .i64 ((n : Int) + 1))
    · exact kept_set (kept_set (kept_set (kept_set (kept_set kK _ _ (.inl (by simp))) _ _ (.inl (by simp))) _ _ (.inl (by simp))) _ _ (.inl (by simp))) _ _ (.inl (by simp))
  · clear hn
    have ha' := ha.symm
    have hl' := hl.symm
    clear ha hl
    subst ha' hl'
    have hib : decide (li < xi) = true := decide_eq_true hi
    go_enter Tryz.func37, Tryz.ntmps37
    go_wp2_with fail
    generalize (W.alloc (.cells #[.int .u32 xa, .int .i64 xl, .int .u32 xi] 80)).alloc (.cells #[.int .u32 ds, .int .u16 dm] 39) = W1 at *
    have e1 := kbm.lt
    have e2 := kbs.lt
    have e3 := kbo.lt
    have e4 := kbn.lt
    have e5 := kbl.lt
    have e6 := kx.lt
    have e7 := kM.lt
    have e8 := kd.lt
    have c1 := kbm.cell 0
    have c2 := kbs.cell 0
    simp only [List.getElem?_toArray, List.getElem?_cons_zero, List.getElem?_cons_succ] at c1 c2
    have x0 := kx.cell 0
    have x1 := kx.cell 1
    have x2 := kx.cell 2
    simp only [List.getElem?_toArray, List.getElem?_cons_zero, List.getElem?_cons_succ] at x0 x1 x2
    have m0 := kM.cell 0
    have m1 := kM.cell 1
    have m2 := kM.cell 2
    have m3 := kM.cell 3
    have mf0 := kM.frozen 0
    have mf1 := kM.frozen 1
    have mf2 := kM.frozen 2
    have mf3 := kM.frozen 3
    simp only [List.getElem?_toArray, List.getElem?_cons_zero, List.getElem?_cons_succ] at m0 m1 m2 m3
    refine draw_start [] (Below W1.heap.size) (by kernel_rfl) ?_
    refine draw_chunk (n := 76) (by kernel_rfl) (fun _ _ _ _ _ h => h) [0, 1, 2, 3, 4, 5, 6, 7, 8] [] _ #[true, true, true, true, true, true, true, true, true, false, false, false] (by kernel_rfl) 3 _ ?_ _ rfl ?_ ?_
    rotate_left
    · intro w' hw'
      have hc' : ∀ b o, b < W1.heap.size → w'.cell? ⟨b, o, none⟩ = W1.cell? ⟨b, o, none⟩ := fun b o h => hw'.cell (p := ⟨b, o, none⟩) h
      have hlk := hL w' hw'
      iterate 9
        refine ci_step (v := ?_) rfl (by kernel_rfl) ?_ ?_
        rotate_left
        · first | (go_simp; done) | (go_simp; with_reducible rfl)
        try simp only [Act.put, List.setIfInBounds_toArray, List.set_cons_zero, List.set_cons_succ]
      refine ci_end ?_
      rfl
    refine draw_eff (i := 9) rfl (by kernel_rfl) (listed' := #[true, true, true, true, true, true, true, true, true, true, false, false]) rfl (fun K hK => ?_)
    replace hK := Lib.hid hK
    go_wp2_with fail
    refine hK.out _ _ ⟨fun _ => below_dd ((Below.refl _ W1).alloc (Nat.le_refl _) _), ?_⟩
    clear hK
    refine draw_eff (i := 10) rfl (by kernel_rfl) (listed' := #[true, true, true, true, true, true, true, true, true, true, true, false]) rfl (fun K hK => ?_)
    replace hK := Lib.hid hK
    go_wp2_with fail
    refine hK.out _ _ ⟨fun _ => below_dd (below_two ((Below.refl _ W1).alloc (Nat.le_refl _) _) ((Below.refl _ W1).alloc (Nat.le_refl _) _) (by simp)), ?_⟩
    clear hK
    refine draw_chunk (n := 76) (by kernel_rfl) (fun _ _ _ _ _ h => h) [11] [] _ #[true, true, true, true, true, true, true, true, true, true, true, true] (by kernel_rfl) 0 _ ?_ _ rfl ?_ ?_
    rotate_left
    · intro w' hw'
      have hc' : ∀ b o, b < W1.heap.size → w'.cell? ⟨b, o, none⟩ = ((W1.alloc (.cells #[.int .u32 ds, .int .u16 dm] 39)).drew).cell? ⟨b, o, none⟩ := fun b o h => hw'.cell (p := ⟨b, o, none⟩) h
      refine ci_step (i := 11) (v := ?_) rfl (by kernel_rfl) ?_ ?_
      rotate_left
      · first | (go_simp; done) | (go_simp; with_reducible rfl)
      skip
      try simp only [Act.put, List.setIfInBounds_toArray, List.set_cons_zero, List.set_cons_succ]
      refine ci_end ?_
      rfl
    refine draw_done (by kernel_rfl) ?_ _
    have hbA := Below.drew ((Below.refl W1.heap.size W1).alloc (Nat.le_refl _) (.cells #[.int .u32 ds, .int .u16 dm] 39))
    have kf := (Blk.new W1 39 #[.int .u32 ds, .int .u16 dm]).drew
    have p1 : W1.heap.size ≠ bo := by omega
    have p2 : W1.heap.size ≠ bn := by omega
    have p3 : W1.heap.size ≠ bl := by omega
    clear e1 e2 e3 e4 e5 e6 e7 e8 c1 c2 x0 x1 x2 m0 m1 m2 m3 mf0 mf1 mf2 mf3 hL
    replace kbo := kbo.below' hbA
    replace kbn := kbn.below' hbA
    replace kbl := kbl.below' hbA
    replace kbs := kbs.below' hbA
    replace kK := kK.trans (Kept.of_below (S := [bo, bn, bl]) hbA)
    replace kx := kx.below' hbA
    replace kd := kd.below' hbA
    replace hS := hS.below hbA
    generalize (W1.alloc (.cells #[.int .u32 ds, .int .u16 dm] 39)).drew = W2 at *
    generalize W1.heap.size = q at *
    have e2 := kbs.lt
    have c2 := kbs.cell 0
    simp only [List.getElem?_toArray, List.getElem?_cons_zero, List.getElem?_cons_succ] at c2
    have x0 := kx.cell 0
    have x1 := kx.cell 1
    have x2 := kx.cell 2
    simp only [List.getElem?_toArray, List.getElem?_cons_zero, List.getElem?_cons_succ] at x0 x1 x2
    have e6 := kx.lt
    go_wp2_with fail
    refine (state_Floor τ ⟨xa, xl, xi⟩ s g1 g2 _ hS).mono ?_
    rintro e w3 ⟨rfl, hb3⟩
    rw [show getD0 τ.fl (⟨xa, xl, xi⟩ : Key) = (ds, dm) by simp [getD0, HX.out], HX.out]
    simp only [Option.isSome_some]
    clear x0 x1 x2 e2 e6 c2
    replace kbo := kbo.below' hb3
    replace kbn := kbn.below' hb3
    replace kbl := kbl.below' hb3
    replace kK := kK.trans (Kept.of_below (S := [bo, bn, bl]) hb3)
    replace kx := kx.below' hb3
    replace kd := kd.below' hb3
    replace kf := kf.below' hb3
    have e3 := kbo.lt
    have e4 := kbn.lt
    have e5 := kbl.lt
    have e6 := kx.lt
    have e8 := kd.lt
    have e9 := kf.lt
    have c3 := kbo.cell 0
    have c4 := kbn.cell 0
    simp only [List.getElem?_toArray, List.getElem?_cons_zero, List.getElem?_cons_succ] at c3 c4
    have l0 := kbl.cell 0
    have l1 := kbl.cell 1
    have l2 := kbl.cell 2
    simp only [List.getElem?_toArray, List.getElem?_cons_zero, List.getElem?_cons_succ] at l0 l1 l2
    have x0 := kx.cell 0
    have x1 := kx.cell 1
    have x2 := kx.cell 2
    simp only [List.getElem?_toArray, List.getElem?_cons_zero, List.getElem?_cons_succ] at x0 x1 x2
    have d0 := kd.cell 0
    have d1 := kd.cell 1
    simp only [List.getElem?_toArray, List.getElem?_cons_zero, List.getElem?_cons_succ] at d0 d1
    have f0 := kf.cell 0
    have f1 := kf.cell 1
    simp only [List.getElem?_toArray, List.getElem?_cons_zero, List.getElem?_cons_succ] at f0 f1
    go_wp2_with fail
    have hbB := (Below.refl w3.heap.size w3).alloc (Nat.le_refl _) (.cells #[.int .u32 ds, .int .u16 dm] 39)
    have kg := Blk.new w3 39 #[.int .u32 ds, .int .u16 dm]
    have p4 : w3.heap.size ≠ bo := by omega
    have p5 : w3.heap.size ≠ bn := by omega
    have p6 : w3.heap.size ≠ bl := by omega
    clear c3 c4 l0 l1 l2 x0 x1 x2 d0 d1 f0 f1 e3 e4 e5 e6 e8 e9
    replace kbo := kbo.below' hbB
    replace kbn := kbn.below' hbB
    replace kbl := kbl.below' hbB
    replace kK := kK.trans (Kept.of_below (S := [bo, bn, bl]) hbB)
    replace kx := kx.below' hbB
    replace kd := kd.below' hbB
    replace kf := kf.below' hbB
    clear hbB
    generalize w3.alloc (.cells #[.int .u32 ds, .int .u16 dm] 39) = W3 at *
    generalize w3.heap.size = r at *
    refine (law02_Less _ _ _ _ _).mono ?_
    rintro e w4 ⟨rfl, hb4⟩
    replace kbo := kbo.below' hb4
    replace kbn := kbn.below' hb4
    replace kbl := kbl.below' hb4
    replace kK := kK.trans (Kept.of_below (S := [bo, bn, bl]) hb4)
    replace kx := kx.below' hb4
    replace kd := kd.below' hb4
    replace kf := kf.below' hb4
    replace kg := kg.below' hb4
    have e3 := kbo.lt
    have e4 := kbn.lt
    have e5 := kbl.lt
    have e6 := kx.lt
    have e8 := kd.lt
    have e9 := kf.lt
    have c3 := kbo.cell 0
    have c4 := kbn.cell 0
    simp only [List.getElem?_toArray, List.getElem?_cons_zero, List.getElem?_cons_succ] at c3 c4
    have l0 := kbl.cell 0
    have l1 := kbl.cell 1
    have l2 := kbl.cell 2
    simp only [List.getElem?_toArray, List.getElem?_cons_zero, List.getElem?_cons_succ] at l0 l1 l2
    have x0 := kx.cell 0
    have x1 := kx.cell 1
    have x2 := kx.cell 2
    simp only [List.getElem?_toArray, List.getElem?_cons_zero, List.getElem?_cons_succ] at x0 x1 x2
    have d0 := kd.cell 0
    have d1 := kd.cell 1
    simp only [List.getElem?_toArray, List.getElem?_cons_zero, List.getElem?_cons_succ] at d0 d1
    have f0 := kf.cell 0
    have f1 := kf.cell 1
    simp only [List.getElem?_toArray, List.getElem?_cons_zero, List.getElem?_cons_succ] at f0 f1
    have g0 := kg.cell 0
    have g1 := kg.cell 1
    simp only [List.getElem?_toArray, List.getElem?_cons_zero, List.getElem?_cons_succ] at g0 g1
    have e10 := kg.lt
    clear hb4
    rw [hless]
    have y1 := kbo.frozen 0
    have y2 := kbn.frozen 0
    have y3 := kbl.frozen 0
    have y4 := kbl.frozen 1
    have y5 := kbl.frozen 2
    go_wp2
    go_ret
    refine ⟨rfl, ?_, ?_, ?_, ?_⟩
    · simpa using ((((kbo.set 0 (.bool true)).other (a := ⟨bl, 0, none⟩) n2 (.int .u32 xa)).other (a := ⟨bl, 1, none⟩) n2 (.int .i64 xl)).other (a := ⟨bl, 2, none⟩) n2 (.int .u32 xi)).other (a := ⟨bn, 0, none⟩) n1 (.int .i64 ((n : Int) + 1))
    · simpa using ((((kbn.other (a := ⟨bo, 0, none⟩) n7 (.bool true)).other (a := ⟨bl, 0, none⟩) n3 (.int .u32 xa)).other (a := ⟨bl, 1, none⟩) n3 (.int .i64 xl)).other (a := ⟨bl, 2, none⟩) n3 (.int .u32 xi)).set 0 (.int .i64 ((n : Int) + 1))
    · simpa using ((((kbl.other (a := ⟨bo, 0, none⟩) n8 (.bool true)).set 0 (.int .u32 xa)).set 1 (.int .i64 xl)).set 2 (.int .u32 xi)).other (a := ⟨bn, 0, none⟩) n9 (.int .i64 ((n : Int) + 1))
    · exact kept_set (kept_set (kept_set (kept_set (kept_set kK _ _ (.inl (by simp))) _ _ (.inl (by simp))) _ _ (.inl (by simp))) _ _ (.inl (by simp))) _ _ (.inl (by simp))
end Go.Proofs.YtnfaeafplaeehaaGreat
end
section
set_option linter.unusedVariables false
set_option linter.unusedSimpArgs false
namespace Go.Proofs.YtnfaeafplaeehaaGreat
open Go.RowKit Go.Sort Go.Lib Go.Shelf
/-! The iterators over a state, with the model's closures as what they call. -/
theorem pfx_rise (ss : List Pfx) (h : ss.Pairwise fun x y => ltOf pfxCf y x = false) (hn : ss.Nodup) (k : Nat) (hk : k < ss.length) :
    k = 0 ∨ lessB ((ss.take k).getLast?.getD ⟨0, 0⟩).a ((ss.take k).getLast?.getD ⟨0, 0⟩).l ss[k].a ss[k].l = true := by
  cases k with
  | zero => exact .inl rfl
  | succ k =>
    refine .inr ?_
    have h1 : (ss.take (k + 1)).getLast?.getD ⟨0, 0⟩ = ss[k] := by
      rw [List.take_succ_eq_append_getElem (show k < ss.length by omega), List.getLast?_concat, Option.getD_some]
    rw [h1]
    have h2 := List.pairwise_iff_getElem.1 h k (k + 1) (by omega) hk (by omega)
    have h3 : ss[k] ≠ ss[k + 1] := List.pairwise_iff_getElem.1 hn k (k + 1) (by omega) hk (by omega)
    rw [pfxLt] at h2
    generalize ss[k] = x at *
    generalize ss[k + 1] = y at *
    obtain ⟨a, l⟩ := x
    obtain ⟨b, m⟩ := y
    simp only [ne_eq, Pfx.mk.injEq, lessB, decide_eq_true_eq, decide_eq_false_iff_not] at *
    omega
theorem key_rise (ss : List Key) (h : ss.Pairwise fun x y => ltOf kcmp y x = false) (hn : ss.Nodup) (k : Nat) (hk : k < ss.length) :
    k = 0 ∨ lessB ((ss.take k).getLast?.getD ⟨0, 0, 0⟩).a ((ss.take k).getLast?.getD ⟨0, 0, 0⟩).l ss[k].a ss[k].l = true ∨ (lessB ((ss.take k).getLast?.getD ⟨0, 0, 0⟩).a ((ss.take k).getLast?.getD ⟨0, 0, 0⟩).l ss[k].a ss[k].l = false ∧ ((ss.take k).getLast?.getD ⟨0, 0, 0⟩).a = ss[k].a ∧ ((ss.take k).getLast?.getD ⟨0, 0, 0⟩).l = ss[k].l ∧ ((ss.take k).getLast?.getD ⟨0, 0, 0⟩).id < ss[k].id) := by
  cases k with
  | zero => exact .inl rfl
  | succ k =>
    refine .inr ?_
    have h1 : (ss.take (k + 1)).getLast?.getD ⟨0, 0, 0⟩ = ss[k] := by
      rw [List.take_succ_eq_append_getElem (show k < ss.length by omega), List.getLast?_concat, Option.getD_some]
    rw [h1]
    have h2 := List.pairwise_iff_getElem.1 h k (k + 1) (by omega) hk (by omega)
    have h3 : ss[k] ≠ ss[k + 1] := List.pairwise_iff_getElem.1 hn k (k + 1) (by omega) hk (by omega)
    rw [keyLt] at h2
    generalize ss[k] = x at *
    generalize ss[k + 1] = y at *
    obtain ⟨a, l, i⟩ := x
    obtain ⟨b, m, j⟩ := y
    simp only [ne_eq, Key.mk.injEq, lessB, decide_eq_true_eq, decide_eq_false_iff_not] at *
    omega
theorem getM_memO {α β : Type} [DecidableEq α] (m : List (α × β)) (k : α) (h : k ∈ m.map (·.1)) : ∃ v, getM m k = some v := by
  induction m with
  | nil => simp at h
  | cons e m ih =>
    by_cases he : k = e.1
    · exact ⟨e.2, by unfold getM; rw [List.find?_cons_of_pos (by simpa using he)]; rfl⟩
    · have : k ∈ m.map (·.1) := by
        rcases List.mem_cons.1 h with h | h
        · exact absurd h he
        · exact h
      obtain ⟨v, hv⟩ := ih this
      exact ⟨v, by unfold getM at *; rw [List.find?_cons_of_neg (by simpa using he)]; exact hv⟩
theorem last_take {α : Type} (ss : List α) (d : α) (k : Nat) (hk : k < ss.length) : (ss.take (k + 1)).getLast?.getD d = ss[k] := by
  rw [List.take_succ_eq_append_getElem hk, List.getLast?_concat, Option.getD_some]
theorem three_off {w : World} {k bo bn bl : Nat} {t t1 t2 t3 : TypeId} {cs c1 c2 c3 : Array Value} (h : Blk w k t cs) (k1 : Blk w bo t1 c1) (k2 : Blk w bn t2 c2) (k3 : Blk w bl t3 c3) (n1 : t ≠ t1) (n2 : t ≠ t2) (n3 : t ≠ t3) : k ∉ [bo, bn, bl] := by
  simp only [List.mem_cons, List.not_mem_nil, or_false, not_or]
  exact ⟨h.ne k1 n1, h.ne k2 n2, h.ne k3 n3⟩
theorem map_off {α β : Type} {w : World} {k bo bn bl : Nat} {t1 t2 t3 : TypeId} {c1 c2 c3 : Array Value} {ek : α → Value} {ev : β → Value} {m : List (α × β)} (h : MapAt w k ek ev m) (k1 : Blk w bo t1 c1) (k2 : Blk w bn t2 c2) (k3 : Blk w bl t3 c3) : k ∉ [bo, bn, bl] := by
  simp only [List.mem_cons, List.not_mem_nil, or_false, not_or]
  exact ⟨h.ne k1, h.ne k2, h.ne k3⟩
theorem StAt.off {T t1 t2 t3 : TypeId} {w : World} {s g1 g2 bo bn bl : Nat} {σ : St} {c1 c2 c3 : Array Value} (h : StAt T w s g1 g2 σ) (k1 : Blk w bo t1 c1) (k2 : Blk w bn t2 c2) (k3 : Blk w bl t3 c3) (n1 : T ≠ t1) (n2 : T ≠ t2) (n3 : T ≠ t3) : s ∉ [bo, bn, bl] ∧ g1 ∉ [bo, bn, bl] ∧ g2 ∉ [bo, bn, bl] :=
  ⟨three_off h.1 k1 k2 k3 n1 n2 n3, map_off h.2.1 k1 k2 k3, map_off h.2.2.1 k1 k2 k3⟩
set_option maxHeartbeats 4000000 in
theorem owns1 (σ τ : St) (heq : ∀ k, getM σ.own k = getM τ.own k) (m h1 h2 s g1 g2 bm bs bo bn bl bx : Nat) (w : World) (hM : StAt 69 w m h1 h2 σ) (hS : StAt 75 w s g1 g2 τ)
    (kbm : Blk w bm 32 #[.pointer (some ⟨m, 0, none⟩)]) (kbs : Blk w bs 43 #[.pointer (some ⟨s, 0, none⟩)]) (kbx : Blk w bx 43 #[.pointer (some ⟨s, 0, none⟩)])
    (kbo : Blk w bo 4 #[.bool true]) (kbn : Blk w bn 3 #[.int .i64 (0 : Nat)]) (kbl : Blk w bl 36 #[.int .u32 0, .int .i64 0])
    (hnd : (τ.own.map (·.1)).Nodup) (hN : τ.own.length < 1000000) :
    Calls Tryz.prog 48 #[.func (.func 34) #[] #[.pointer (some ⟨bm, 0, none⟩), .pointer (some ⟨bs, 0, none⟩), .pointer (some ⟨bo, 0, none⟩), .pointer (some ⟨bn, 0, none⟩), .pointer (some ⟨bl, 0, none⟩)], .pointer (some ⟨bx, 0, none⟩)] w fun e w' => e = .returned (.tuple #[]) ∧ Blk w' bo 4 #[.bool true] ∧ Blk w' bn 3 #[.int .i64 τ.own.length] ∧ Kept [bo, bn, bl] w w' := by
  have c1 := kbx.cell 0
  simp only [List.getElem?_toArray, List.getElem?_cons_zero] at c1
  have hSB := hS.1
  have s0 := hSB.cell 0
  have s1 := hSB.cell 1
  have s2 := hSB.cell 2
  have s3 := hSB.cell 3
  have sf0 := hSB.frozen 0
  have sf1 := hSB.frozen 1
  have sf2 := hSB.frozen 2
  have sf3 := hSB.frozen 3
  simp only [List.getElem?_toArray, List.getElem?_cons_zero, List.getElem?_cons_succ] at s0 s1 s2 s3
  have q1 := kbo.lt
  have q2 := kbn.lt
  have q3 := kbl.lt
  obtain ⟨oM1, oM2, oM3⟩ := hM.off kbo kbn kbl (by decide) (by decide) (by decide)
  obtain ⟨oS1, oS2, oS3⟩ := hS.off kbo kbn kbl (by decide) (by decide) (by decide)
  have ox := three_off kbx kbo kbn kbl (by decide) (by decide) (by decide)
  have om := three_off kbm kbo kbn kbl (by decide) (by decide) (by decide)
  have os := three_off kbs kbo kbn kbl (by decide) (by decide) (by decide)
  go_enter Tryz.func48, Tryz.ntmps48
  go_wp2_with fail
  refine (sPfx_all g1 τ.own _ hS.2.1 (Nat.le_of_lt hN)).mono ?_
  rintro e w1 ⟨ad, c, ss, rfl, hp, hs, hr, hb1, hfr⟩
  have hlen : ss.length = τ.own.length := by have := hp.length_eq; simpa using this
  have hsn : ss.Nodup := hp.nodup_iff.2 hnd
  have hfr' : ∀ b off, ad = some ⟨b, off, none⟩ → b ∉ [bo, bn, bl] := fun b off h => by
    have := (hfr b off h).1
    simp only [List.mem_cons, List.not_mem_nil, or_false, not_or]
    omega
  have hmax := hr.2.1
  have hk0 : Kept [bo, bn, bl] w w1 := Kept.of_below hb1
  replace hM := hM.below hb1
  replace hS := hS.below hb1
  replace kbm := kbm.below' hb1
  replace kbs := kbs.below' hb1
  replace kbx := kbx.below' hb1
  replace kbo := kbo.below' hb1
  replace kbn := kbn.below' hb1
  replace kbl := kbl.below' hb1
  clear hb1 hfr c1 s0 s1 s2 s3 sf0 sf1 sf2 sf3 hSB q1 q2 q3
  go_wp2
  go_loopw [11] (fun i wr => ∃ k : Nat, k ≤ ss.length ∧ i = .int .i64 k ∧ Blk wr bo 4 #[.bool true] ∧ Blk wr bn 3 #[.int .i64 k] ∧ Blk wr bl 36 #[.int .u32 ((ss.take k).getLast?.getD ⟨0, 0⟩).a, .int .i64 ((ss.take k).getLast?.getD ⟨0, 0⟩).l] ∧ Kept [bo, bn, bl] w1 wr) (fun i _ => ss.length - (intOf i).toNat)
  case atStart => exact ⟨0, Nat.zero_le _, rfl, kbo, kbn, kbl, Kept.refl _ _⟩
  case round =>
    clear kbo kbn kbl
    obtain ⟨k, hk, rfl, kbo, kbn, kbl, hw⟩ := hrel
    by_cases hlt : k < ss.length
    · obtain ⟨b, off, rfl, hbl, hcell⟩ := (hw.row hr hfr').2.2 (by omega)
      have e0 := hcell (k * 2 + 0) _ ((flat_get Pfx.cells 2 (fun _ => rfl) ss k 0 hlt (by omega)).trans rfl)
      have e1 := hcell (k * 2 + 1) _ ((flat_get Pfx.cells 2 (fun _ => rfl) ss k 1 hlt (by omega)).trans rfl)
      have HL := Lib.hid (last_take ss ⟨0, 0⟩ k hlt)
      have hrise := pfx_rise ss hs hsn k hlt
      obtain ⟨on, hon⟩ := getM_memO τ.own ss[k] (hp.mem_iff.1 (List.getElem_mem hlt))
      generalize ss[k] = x at *
      obtain ⟨xa, xl⟩ := x
      simp only [← Nat.add_assoc, Nat.add_zero] at e0 e1
      clear hcell
      go_wp2_with fail
      replace hM := hM.kept hw oM1 oM2 oM3
      replace hS := hS.kept hw oS1 oS2 oS3
      replace kbm := hw.blk kbm om
      replace kbs := hw.blk kbs os
      replace kbx := hw.blk kbx ox
      have hbA := (Below.refl wr.heap.size wr).alloc (Nat.le_refl _) (.cells #[.int .u32 xa, .int .i64 xl] 36)
      have kx := Blk.new wr 36 #[.int .u32 xa, .int .i64 xl]
      replace hw := hw.trans (Kept.of_below (S := [bo, bn, bl]) hbA)
      replace hM := hM.below hbA
      replace hS := hS.below hbA
      replace kbm := kbm.below' hbA
      replace kbs := kbs.below' hbA
      replace kbx := kbx.below' hbA
      replace kbo := kbo.below' hbA
      replace kbn := kbn.below' hbA
      replace kbl := kbl.below' hbA
      clear hbA e0 e1 hbl hr hfr'
      generalize wr.alloc (.cells #[.int .u32 xa, .int .i64 xl] 36) = W at *
      generalize wr.heap.size = q at *
      have hSB := hS.1
      have hm1 := hS.2.1
      have v1 := hSB.lt
      have v2 := kx.lt
      have v3 := kbx.lt
      have c1 := kbx.cell 0
      simp only [List.getElem?_toArray, List.getElem?_cons_zero] at c1
      have s0 := hSB.cell 0
      have s1 := hSB.cell 1
      have s2 := hSB.cell 2
      have s3 := hSB.cell 3
      have sf0 := hSB.frozen 0
      have sf1 := hSB.frozen 1
      have sf2 := hSB.frozen 2
      have sf3 := hSB.frozen 3
      simp only [List.getElem?_toArray, List.getElem?_cons_zero, List.getElem?_cons_succ] at s0 s1 s2 s3
      have x0 := kx.cell 0
      have x1 := kx.cell 1
      simp only [List.getElem?_toArray, List.getElem?_cons_zero, List.getElem?_cons_succ] at x0 x1
      refine draw_start [8] Later (by kernel_rfl) ?_
      refine draw_chunk (n := 26) (by kernel_rfl) (fun _ _ _ _ _ h => h) [0, 1, 2, 3, 4, 5, 6, 7] [] _ #[true, true, true, true, true, true, true, true, false, false] (by kernel_rfl) 2 _ ?_ _ rfl ?_ ?_
      rotate_left
      · intro w' hw'
        have hc' : ∀ b o, b < W.heap.size → w'.cell? ⟨b, o, none⟩ = W.cell? ⟨b, o, none⟩ := (bcell hw').1
        have hlk := run_lookup_some pfx_keys Tryz.underlying66 (hm1.same ((undrew hw').block g1 hm1.lt)) ⟨xa, xl⟩ on hon false; simp only [Pfx.val] at hlk
        iterate 8
          refine ci_step (v := ?_) rfl (by kernel_rfl) ?_ ?_
          rotate_left
          · first | (go_simp; done) | (go_simp; with_reducible rfl)
          try simp only [Act.put, List.setIfInBounds_toArray, List.set_cons_zero, List.set_cons_succ]
        refine ci_end ?_
        rfl
      refine draw_eff (i := 8) rfl (by kernel_rfl) (listed' := #[true, true, true, true, true, true, true, true, true, false]) rfl (fun K hK => ?_)
      replace hK := Lib.hid hK
      go_wp2_with fail
      refine (shows1 σ τ ⟨xa, xl⟩ on _ _ k m h1 h2 s g1 g2 bm bs bo bn bl W.drew hM hS kbm kbs kbo kbn kbl ((heq _).trans hon) hon hrise (by omega)).mono ?_
      rintro e w2 ⟨rfl, kbo, kbn, kbl, hk2⟩
      go_wp2_with fail
      refine hK.out _ _ ⟨fun h => absurd (by decide) h, ?_⟩
      clear hK
      refine draw_chunk (n := 26) (by kernel_rfl) (fun _ _ _ _ _ h => h) [9] [] _ #[true, true, true, true, true, true, true, true, true, true] (by kernel_rfl) 0 _ ?_ _ rfl ?_ ?_
      rotate_left
      · intro w' hw'
        have hc' : ∀ b o, b < w2.heap.size → w'.cell? ⟨b, o, none⟩ = w2.cell? ⟨b, o, none⟩ := (bcell hw').1
        refine ci_step (i := 9) (v := ?_) rfl (by kernel_rfl) ?_ ?_
        rotate_left
        · first | (go_simp; done) | (go_simp; with_reducible rfl)
        skip
        try simp only [Act.put, List.setIfInBounds_toArray, List.set_cons_zero, List.set_cons_succ]
        refine ci_end ?_
        rfl
      refine draw_done (by kernel_rfl) ?_ _
      go_wp2
      go_roundw
      case rel =>
        refine ⟨k + 1, by omega, by go_num, kbo, kbn, ?_, (kept_drew hw).trans hk2⟩
        rw [HL.out]
        exact kbl
      case measure => simp [intOf]; omega
    · obtain rfl : k = ss.length := by omega
      go_wp2
      refine bodyPost_end (results_none rfl _ _ _) rfl ⟨rfl, kbo, ?_, hk0.trans hw⟩
      rw [hlen] at kbn
      exact kbn
set_option maxHeartbeats 4000000 in
theorem floors1 (σ τ : St) (heq : ∀ k, getM σ.fl k = getM τ.fl k) (m h1 h2 s g1 g2 bm bs bo bn bl bx : Nat) (w : World) (hM : StAt 69 w m h1 h2 σ) (hS : StAt 75 w s g1 g2 τ)
    (kbm : Blk w bm 32 #[.pointer (some ⟨m, 0, none⟩)]) (kbs : Blk w bs 43 #[.pointer (some ⟨s, 0, none⟩)]) (kbx : Blk w bx 43 #[.pointer (some ⟨s, 0, none⟩)])
    (kbo : Blk w bo 4 #[.bool true]) (kbn : Blk w bn 3 #[.int .i64 (0 : Nat)]) (kbl : Blk w bl 80 #[.int .u32 0, .int .i64 0, .int .u32 0])
    (hnd : (τ.fl.map (·.1)).Nodup) (hN : τ.fl.length < 1000000) :
    Calls Tryz.prog 51 #[.func (.func 37) #[] #[.pointer (some ⟨bm, 0, none⟩), .pointer (some ⟨bs, 0, none⟩), .pointer (some ⟨bn, 0, none⟩), .pointer (some ⟨bl, 0, none⟩), .pointer (some ⟨bo, 0, none⟩)], .pointer (some ⟨bx, 0, none⟩)] w fun e w' => e = .returned (.tuple #[]) ∧ Blk w' bo 4 #[.bool true] ∧ Blk w' bn 3 #[.int .i64 τ.fl.length] ∧ Kept [bo, bn, bl] w w' := by
  have c1 := kbx.cell 0
  simp only [List.getElem?_toArray, List.getElem?_cons_zero] at c1
  have hSB := hS.1
  have s0 := hSB.cell 0
  have s1 := hSB.cell 1
  have s2 := hSB.cell 2
  have s3 := hSB.cell 3
  have sf0 := hSB.frozen 0
  have sf1 := hSB.frozen 1
  have sf2 := hSB.frozen 2
  have sf3 := hSB.frozen 3
  simp only [List.getElem?_toArray, List.getElem?_cons_zero, List.getElem?_cons_succ] at s0 s1 s2 s3
  have q1 := kbo.lt
  have q2 := kbn.lt
  have q3 := kbl.lt
  obtain ⟨oM1, oM2, oM3⟩ := hM.off kbo kbn kbl (by decide) (by decide) (by decide)
  obtain ⟨oS1, oS2, oS3⟩ := hS.off kbo kbn kbl (by decide) (by decide) (by decide)
  have ox := three_off kbx kbo kbn kbl (by decide) (by decide) (by decide)
  have om := three_off kbm kbo kbn kbl (by decide) (by decide) (by decide)
  have os := three_off kbs kbo kbn kbl (by decide) (by decide) (by decide)
  go_enter Tryz.func51, Tryz.ntmps51
  go_wp2_with fail
  refine (sKey_all g2 τ.fl _ hS.2.2.1 (Nat.le_of_lt hN)).mono ?_
  rintro e w1 ⟨ad, c, ss, rfl, hp, hs, hr, hb1, hfr⟩
  have hlen : ss.length = τ.fl.length := by have := hp.length_eq; simpa using this
  have hsn : ss.Nodup := hp.nodup_iff.2 hnd
  have hfr' : ∀ b off, ad = some ⟨b, off, none⟩ → b ∉ [bo, bn, bl] := fun b off h => by
    have := (hfr b off h).1
    simp only [List.mem_cons, List.not_mem_nil, or_false, not_or]
    omega
  have hmax := hr.2.1
  have hk0 : Kept [bo, bn, bl] w w1 := Kept.of_below hb1
  replace hM := hM.below hb1
  replace hS := hS.below hb1
  replace kbm := kbm.below' hb1
  replace kbs := kbs.below' hb1
  replace kbx := kbx.below' hb1
  replace kbo := kbo.below' hb1
  replace kbn := kbn.below' hb1
  replace kbl := kbl.below' hb1
  clear hb1 hfr c1 s0 s1 s2 s3 sf0 sf1 sf2 sf3 hSB q1 q2 q3
  go_wp2
  go_loopw [11] (fun i wr => ∃ k : Nat, k ≤ ss.length ∧ i = .int .i64 k ∧ Blk wr bo 4 #[.bool true] ∧ Blk wr bn 3 #[.int .i64 k] ∧ Blk wr bl 80 #[.int .u32 ((ss.take k).getLast?.getD ⟨0, 0, 0⟩).a, .int .i64 ((ss.take k).getLast?.getD ⟨0, 0, 0⟩).l, .int .u32 ((ss.take k).getLast?.getD ⟨0, 0, 0⟩).id] ∧ Kept [bo, bn, bl] w1 wr) (fun i _ => ss.length - (intOf i).toNat)
  case atStart => exact ⟨0, Nat.zero_le _, rfl, kbo, kbn, kbl, Kept.refl _ _⟩
  case round =>
    clear kbo kbn kbl
    obtain ⟨k, hk, rfl, kbo, kbn, kbl, hw⟩ := hrel
    by_cases hlt : k < ss.length
    · obtain ⟨b, off, rfl, hbl, hcell⟩ := (hw.row hr hfr').2.2 (by omega)
      have e0 := hcell (k * 3 + 0) _ ((flat_get Key.cells 3 (fun _ => rfl) ss k 0 hlt (by omega)).trans rfl)
      have e1 := hcell (k * 3 + 1) _ ((flat_get Key.cells 3 (fun _ => rfl) ss k 1 hlt (by omega)).trans rfl)
      have e2 := hcell (k * 3 + 2) _ ((flat_get Key.cells 3 (fun _ => rfl) ss k 2 hlt (by omega)).trans rfl)
      have HL := Lib.hid (last_take ss ⟨0, 0, 0⟩ k hlt)
      have hrise := key_rise ss hs hsn k hlt
      obtain ⟨⟨ds, dm⟩, hon⟩ := getM_memO τ.fl ss[k] (hp.mem_iff.1 (List.getElem_mem hlt))
      generalize ss[k] = x at *
      obtain ⟨xa, xl, xi⟩ := x
      simp only [← Nat.add_assoc, Nat.add_zero] at e0 e1 e2
      clear hcell
      go_wp2_with fail
      replace hM := hM.kept hw oM1 oM2 oM3
      replace hS := hS.kept hw oS1 oS2 oS3
      replace kbm := hw.blk kbm om
      replace kbs := hw.blk kbs os
      replace kbx := hw.blk kbx ox
      have hbA := (Below.refl wr.heap.size wr).alloc (Nat.le_refl _) (.cells #[.int .u32 xa, .int .i64 xl, .int .u32 xi] 80)
      have kx := Blk.new wr 80 #[.int .u32 xa, .int .i64 xl, .int .u32 xi]
      replace hw := hw.trans (Kept.of_below (S := [bo, bn, bl]) hbA)
      replace hM := hM.below hbA
      replace hS := hS.below hbA
      replace kbm := kbm.below' hbA
      replace kbs := kbs.below' hbA
      replace kbx := kbx.below' hbA
      replace kbo := kbo.below' hbA
      replace kbn := kbn.below' hbA
      replace kbl := kbl.below' hbA
      clear hbA e0 e1 e2 hbl hr hfr'
      generalize wr.alloc (.cells #[.int .u32 xa, .int .i64 xl, .int .u32 xi] 80) = W at *
      generalize wr.heap.size = q at *
      have hSB := hS.1
      have hm1 := hS.2.2.1
      have v1 := hSB.lt
      have v2 := kx.lt
      have v3 := kbx.lt
      have c1 := kbx.cell 0
      simp only [List.getElem?_toArray, List.getElem?_cons_zero] at c1
      have s0 := hSB.cell 0
      have s1 := hSB.cell 1
      have s2 := hSB.cell 2
      have s3 := hSB.cell 3
      have sf0 := hSB.frozen 0
      have sf1 := hSB.frozen 1
      have sf2 := hSB.frozen 2
      have sf3 := hSB.frozen 3
      simp only [List.getElem?_toArray, List.getElem?_cons_zero, List.getElem?_cons_succ] at s0 s1 s2 s3
      have x0 := kx.cell 0
      have x1 := kx.cell 1
      have x2 := kx.cell 2
      simp only [List.getElem?_toArray, List.getElem?_cons_zero, List.getElem?_cons_succ] at x0 x1 x2
      refine draw_start [8] Later (by kernel_rfl) ?_
      refine draw_chunk (n := 26) (by kernel_rfl) (fun _ _ _ _ _ h => h) [0, 1, 2, 3, 4, 5, 6, 7] [] _ #[true, true, true, true, true, true, true, true, false, false] (by kernel_rfl) 2 _ ?_ _ rfl ?_ ?_
      rotate_left
      · intro w' hw'
        have hc' : ∀ b o, b < W.heap.size → w'.cell? ⟨b, o, none⟩ = W.cell? ⟨b, o, none⟩ := (bcell hw').1
        have hlk := run_lookup_some key_keys Tryz.underlying67 (hm1.same ((undrew hw').block g2 hm1.lt)) ⟨xa, xl, xi⟩ (ds, dm) hon false; simp only [Key.val, dstV] at hlk
        iterate 8
          refine ci_step (v := ?_) rfl (by kernel_rfl) ?_ ?_
          rotate_left
          · first | (go_simp; done) | (go_simp; with_reducible rfl)
          try simp only [Act.put, List.setIfInBounds_toArray, List.set_cons_zero, List.set_cons_succ]
        refine ci_end ?_
        rfl
      refine draw_eff (i := 8) rfl (by kernel_rfl) (listed' := #[true, true, true, true, true, true, true, true, true, false]) rfl (fun K hK => ?_)
      replace hK := Lib.hid hK
      go_wp2_with fail
      refine (shows2 σ τ ⟨xa, xl, xi⟩ (ds, dm) _ _ _ k m h1 h2 s g1 g2 bm bs bo bn bl W.drew hM hS kbm kbs kbo kbn kbl ((heq _).trans hon) hon hrise (by omega)).mono ?_
      rintro e w2 ⟨rfl, kbo, kbn, kbl, hk2⟩
      go_wp2_with fail
      refine hK.out _ _ ⟨fun h => absurd (by decide) h, ?_⟩
      clear hK
      refine draw_chunk (n := 26) (by kernel_rfl) (fun _ _ _ _ _ h => h) [9] [] _ #[true, true, true, true, true, true, true, true, true, true] (by kernel_rfl) 0 _ ?_ _ rfl ?_ ?_
      rotate_left
      · intro w' hw'
        have hc' : ∀ b o, b < w2.heap.size → w'.cell? ⟨b, o, none⟩ = w2.cell? ⟨b, o, none⟩ := (bcell hw').1
        refine ci_step (i := 9) (v := ?_) rfl (by kernel_rfl) ?_ ?_
        rotate_left
        · first | (go_simp; done) | (go_simp; with_reducible rfl)
        skip
        try simp only [Act.put, List.setIfInBounds_toArray, List.set_cons_zero, List.set_cons_succ]
        refine ci_end ?_
        rfl
      refine draw_done (by kernel_rfl) ?_ _
      go_wp2
      go_roundw
      case rel =>
        refine ⟨k + 1, by omega, by go_num, kbo, kbn, ?_, (kept_drew hw).trans hk2⟩
        rw [HL.out]
        exact kbl
      case measure => simp [intOf]; omega
    · obtain rfl : k = ss.length := by omega
      go_wp2
      refine bodyPost_end (results_none rfl _ _ _) rfl ⟨rfl, kbo, ?_, hk0.trans hw⟩
      rw [hlen] at kbn
      exact kbn
end Go.Proofs.YtnfaeafplaeehaaGreat
end
section
set_option linter.unusedVariables false
set_option linter.unusedSimpArgs false
namespace Go.Proofs.YtnfaeafplaeehaaGreat
open Go.RowKit Go.Sort Go.Lib Go.Shelf
theorem state_Owns (s : Nat) (w : World) : Calls Tryz.prog 28 #[.pointer (some ⟨s, 0, none⟩)] w fun e w' => e = .returned (.func (.func 48) #[] #[.pointer (some ⟨w.heap.size, 0, none⟩)]) ∧ w' = w.alloc (.cells #[.pointer (some ⟨s, 0, none⟩)] 43) := by
  go_enter Tryz.func28, Tryz.ntmps28
  go_wp2
  go_ret
  exact ⟨rfl, rfl⟩
theorem state_Floors (s : Nat) (w : World) : Calls Tryz.prog 29 #[.pointer (some ⟨s, 0, none⟩)] w fun e w' => e = .returned (.func (.func 51) #[] #[.pointer (some ⟨w.heap.size, 0, none⟩)]) ∧ w' = w.alloc (.cells #[.pointer (some ⟨s, 0, none⟩)] 43) := by
  go_enter Tryz.func29, Tryz.ntmps29
  go_wp2
  go_ret
  exact ⟨rfl, rfl⟩
theorem MapAt.size {α β : Type} {w : World} {b : Nat} {ek : α → Value} {ev : β → Value} {m : List (α × β)} (h : MapAt w b ek ev m) : ∃ es c, w.heap[b]? = some (.map es c) ∧ es.size = m.length := by
  obtain ⟨es, c, h1, h2, _⟩ := h
  exact ⟨es, c, h1, by have := congrArg List.length h2; simpa using this⟩
theorem MapAt.len {α β : Type} {w : World} {b : Nat} {ek : α → Value} {ev : β → Value} {m : List (α × β)} (h : MapAt w b ek ev m) {P : Program} {t k e : TypeId} (ht : P.underlying t = some (.map k e)) (ty : TypeId) : (Builtin.len_ #[t] ty #[.map (some b)]).run P w = .ok (.int .i64 m.length) w := by
  obtain ⟨es, c, h1, h2⟩ := h.size
  simp [Builtin.len_, run_underlying ht, getObj, Sem.run, h1, h2, goInt]
set_option maxHeartbeats 8000000 in
theorem model_Shows2 (σ τ : St) (hid : τ.id = σ.id) (hle : τ.lease = σ.lease) (q1 : ∀ k, getM σ.own k = getM τ.own k) (q2 : ∀ k, getM σ.fl k = getM τ.fl k) (l1 : τ.own.length = σ.own.length) (l2 : τ.fl.length = σ.fl.length) (m h1 h2 s g1 g2 : Nat) (w : World) (hM : StAt 69 w m h1 h2 σ) (hS : StAt 75 w s g1 g2 τ)
    (hn1 : (τ.own.map (·.1)).Nodup) (hN1 : τ.own.length < 1000000) (hn2 : (τ.fl.map (·.1)).Nodup) (hN2 : τ.fl.length < 1000000) :
    Calls Tryz.prog 12 #[.pointer (some ⟨m, 0, none⟩), .pointer (some ⟨s, 0, none⟩)] w fun e w' => e = .returned (.bool true) ∧ Below w.heap.size w w' := by
  have d1 : (τ.id != σ.id) = false := by rw [hid]; simp
  have d2 : (τ.lease != σ.lease) = false := by rw [hle]; simp
  have d3 : ((τ.own.length : Int) != (σ.own.length : Int)) = false := by rw [l1]; simp
  have d4 : ((τ.fl.length : Int) == (σ.fl.length : Int)) = true := by rw [l2]; simp
  have HL1 := Lib.hid l1
  have HL2 := Lib.hid l2
  clear hid hle l1 l2
  go_enter Tryz.func12, Tryz.ntmps12
  have hb0 := ((Below.refl w.heap.size w).alloc (Nat.le_refl _) (.cells #[.pointer (some ⟨m, 0, none⟩)] 32)).alloc (by simp) (.cells #[.pointer (some ⟨s, 0, none⟩)] 43)
  have kbm := (Blk.new w 32 #[.pointer (some ⟨m, 0, none⟩)]).alloc (.cells #[.pointer (some ⟨s, 0, none⟩)] 43)
  have kbs := Blk.new (w.alloc (.cells #[.pointer (some ⟨m, 0, none⟩)] 32)) 43 #[.pointer (some ⟨s, 0, none⟩)]
  simp only [World.size_alloc] at kbs
  replace hM := hM.below hb0
  replace hS := hS.below hb0
  go_wp2_with fail
  generalize hW : (w.alloc (.cells #[.pointer (some ⟨m, 0, none⟩)] 32)).alloc (.cells #[.pointer (some ⟨s, 0, none⟩)] 43) = W at *
  have hgB : w.heap.size < W.heap.size := by rw [← hW]; simp; omega
  have e1 := kbm.lt
  have e2 := kbs.lt
  have c1 := kbm.cell 0
  have c2 := kbs.cell 0
  simp only [List.getElem?_toArray, List.getElem?_cons_zero, List.getElem?_cons_succ] at c1 c2
  have hMB := hM.1
  have e3 := hMB.lt
  have m0 := hMB.cell 0
  have m1 := hMB.cell 1
  have m2 := hMB.cell 2
  have m3 := hMB.cell 3
  have mf0 := hMB.frozen 0
  have mf1 := hMB.frozen 1
  have mf2 := hMB.frozen 2
  have mf3 := hMB.frozen 3
  simp only [List.getElem?_toArray, List.getElem?_cons_zero, List.getElem?_cons_succ] at m0 m1 m2 m3
  clear hW
  go_quiet ((first | (go_at_call 33; exact Calls.quiet_of_same (state_ID τ s g1 g2 _ hS)) | (go_at_call 19; exact Calls.quiet_of_same (state_Lease τ s g1 g2 _ hS))))
  rename_i nq
  have hb1 : Below w.heap.size w (W.drewN nq) := below_drewN hb0 nq
  replace hM : StAt 69 (W.drewN nq) m h1 h2 σ := hM
  replace hS : StAt 75 (W.drewN nq) s g1 g2 τ := hS
  replace kbm := kbm.drewN nq
  replace kbs := kbs.drewN nq
  clear hb0 c1 c2 m0 m1 m2 m3 mf0 mf1 mf2 mf3 hMB e1 e2 e3 hgB
  generalize W.drewN nq = V at *
  clear nq
  have r1 := (Below.refl V.heap.size V).alloc (Nat.le_refl _) (.cells #[.int .i64 0] 3)
  have r2 := r1.alloc (by simp) (.cells #[.bool true] 4)
  have r3 := r2.alloc (by simp; omega) (.cells #[.int .u32 0, .int .i64 0] 36)
  have r4 := r3.alloc (by simp; omega) (.cells #[.pointer (some ⟨s, 0, none⟩)] 43)
  have kbn := (((Blk.new V 3 #[.int .i64 0]).alloc (.cells #[.bool true] 4)).alloc (.cells #[.int .u32 0, .int .i64 0] 36)).alloc (.cells #[.pointer (some ⟨s, 0, none⟩)] 43)
  have kbo := ((Blk.new (V.alloc (.cells #[.int .i64 0] 3)) 4 #[.bool true]).alloc (.cells #[.int .u32 0, .int .i64 0] 36)).alloc (.cells #[.pointer (some ⟨s, 0, none⟩)] 43)
  have kbl := (Blk.new ((V.alloc (.cells #[.int .i64 0] 3)).alloc (.cells #[.bool true] 4)) 36 #[.int .u32 0, .int .i64 0]).alloc (.cells #[.pointer (some ⟨s, 0, none⟩)] 43)
  have kbx := Blk.new (((V.alloc (.cells #[.int .i64 0] 3)).alloc (.cells #[.bool true] 4)).alloc (.cells #[.int .u32 0, .int .i64 0] 36)) 43 #[.pointer (some ⟨s, 0, none⟩)]
  simp only [World.size_alloc] at kbo kbl kbx
  have c2 := (((kbs.alloc (.cells #[.int .i64 0] 3)).alloc (.cells #[.bool true] 4)).alloc (.cells #[.int .u32 0, .int .i64 0] 36)).cell 0
  simp only [List.getElem?_toArray, List.getElem?_cons_zero, List.getElem?_cons_succ] at c2
  have hs1 := hb1.size
  replace hM := hM.below r4
  replace hS := hS.below r4
  replace kbm := kbm.below' r4
  replace kbs := kbs.below' r4
  have hb4 := below_step hb1 hb1.size r4
  clear hb1 r1 r2 r3 r4
  go_wp2_with (go_at_call 28; refine (state_Owns s _).mono ?_; rintro e w1 ⟨rfl, rfl⟩)
  generalize (((V.alloc (.cells #[.int .i64 0] 3)).alloc (.cells #[.bool true] 4)).alloc (.cells #[.int .u32 0, .int .i64 0] 36)).alloc (.cells #[.pointer (some ⟨s, 0, none⟩)] 43) = V4 at *
  clear c2
  refine (owns1 σ τ q1 m h1 h2 s g1 g2 _ _ _ _ _ _ V4 hM hS kbm kbs kbx kbo kbn kbl hn1 hN1).mono ?_
  rintro e V5 ⟨rfl, kbo5, kbn5, hk5⟩
  obtain ⟨oM1, oM2, oM3⟩ := hM.off kbo kbn kbl (by decide) (by decide) (by decide)
  obtain ⟨oS1, oS2, oS3⟩ := hS.off kbo kbn kbl (by decide) (by decide) (by decide)
  have om := three_off kbm kbo kbn kbl (by decide) (by decide) (by decide)
  have os := three_off kbs kbo kbn kbl (by decide) (by decide) (by decide)
  replace hM := hM.kept hk5 oM1 oM2 oM3
  replace hS := hS.kept hk5 oS1 oS2 oS3
  replace kbm := hk5.blk kbm om
  replace kbs := hk5.blk kbs os
  have hb5 : Below w.heap.size w V5 := hk5.below hb4 hb4.size (by simp; omega)
  clear hk5 hb4 kbo kbn kbl kbx oM1 oM2 oM3 oS1 oS2 oS3 om os
  have hMB := hM.1
  have c1 := kbm.cell 0
  have c3 := kbo5.cell 0
  have c4 := kbn5.cell 0
  simp only [List.getElem?_toArray, List.getElem?_cons_zero, List.getElem?_cons_succ] at c1 c3 c4
  have m0 := hMB.cell 0
  have m1 := hMB.cell 1
  have m2 := hMB.cell 2
  have m3 := hMB.cell 3
  have mf0 := hMB.frozen 0
  have mf1 := hMB.frozen 1
  have mf2 := hMB.frozen 2
  have mf3 := hMB.frozen 3
  simp only [List.getElem?_toArray, List.getElem?_cons_zero, List.getElem?_cons_succ] at m0 m1 m2 m3
  obtain ⟨es, cl, he1, he2⟩ := hM.2.1.size
  have e1 := kbm.lt
  have e3 := kbo5.lt
  have e4 := kbn5.lt
  have e5 := hMB.lt
  have e6 := hM.2.1.lt
  go_wp2_with fail
  refine draw_start [] Later (by kernel_rfl) ?_
  refine draw_chunk (n := 56) (by kernel_rfl) (fun _ _ _ _ _ h => h) [0, 1, 2, 3, 4, 5, 6, 7, 8, 9, 10] [] _ #[true, true, true, true, true, true, true, true, true, true, true] (by kernel_rfl) 0 _ ?_ _ rfl ?_ ?_
  rotate_left
  · intro w' hw'
    have hc' : ∀ b o, b < V5.heap.size → w'.cell? ⟨b, o, none⟩ = V5.cell? ⟨b, o, none⟩ := (bcell hw').1
    have hln := (hM.2.1.same ((undrew hw').block h1 e6)).len Tryz.underlying66 3
    iterate 11
      refine ci_step (v := ?_) rfl (by kernel_rfl) ?_ ?_
      rotate_left
      · first | (go_simp; done) | (go_simp; with_reducible rfl)
      try simp only [Act.put, List.setIfInBounds_toArray, List.set_cons_zero, List.set_cons_succ]
    refine ci_end ?_
    rfl
  refine draw_done (by kernel_rfl) ?_ _
  clear c1 c3 mf0 mf1 mf2 mf3 m0 m1 m2 m3 es cl he1 he2 e1 e3 e5 e6 hMB
  have y1 := kbn5.frozen 0
  have c2 := ((kbs.other (a := ⟨V.heap.size, 0, none⟩) (kbs.ne kbn5 (by decide)) (.int .i64 0)).alloc (.cells #[.int .u32 0, .int .i64 0, .int .u32 0] 80)).cell 0
  simp only [List.getElem?_toArray, List.getElem?_cons_zero, List.getElem?_cons_succ] at c2
  go_wp2_with (go_at_call 29; refine (state_Floors s _).mono ?_; rintro e w1 ⟨rfl, rfl⟩)
  have hk6 : Kept [V.heap.size] V5 (((V5.setCell ⟨V.heap.size, 0, none⟩ (.int .i64 0)).alloc (.cells #[.int .u32 0, .int .i64 0, .int .u32 0] 80)).alloc (.cells #[.pointer (some ⟨s, 0, none⟩)] 43)).drew := kept_drew (kept_alloc (kept_alloc (kept_set (Kept.refl _ _) _ _ (.inl (by simp))) _) _)
  have kbn6 := (((kbn5.set 0 (.int .i64 0)).alloc (.cells #[.int .u32 0, .int .i64 0, .int .u32 0] 80)).alloc (.cells #[.pointer (some ⟨s, 0, none⟩)] 43)).drew
  simp only [List.setIfInBounds_toArray, List.set_cons_zero] at kbn6
  have kbl6 := ((Blk.new (V5.setCell ⟨V.heap.size, 0, none⟩ (.int .i64 0)) 80 #[.int .u32 0, .int .i64 0, .int .u32 0]).alloc (.cells #[.pointer (some ⟨s, 0, none⟩)] 43)).drew
  have kbx6 := (Blk.new ((V5.setCell ⟨V.heap.size, 0, none⟩ (.int .i64 0)).alloc (.cells #[.int .u32 0, .int .i64 0, .int .u32 0] 80)) 43 #[.pointer (some ⟨s, 0, none⟩)]).drew
  have hsz5 : (V5.setCell ⟨V.heap.size, 0, none⟩ (.int .i64 0)).heap.size = V5.heap.size := by simp [World.setCell]
  simp only [World.size_alloc, hsz5] at kbl6 kbx6
  have hb6 := hk6.below hb5 hb5.size (by simp; omega)
  have oo : ∀ {k t cs}, Blk V5 k t cs → t ≠ 3 → k ∉ [V.heap.size] := fun h ht => by simpa using h.ne kbn5 ht
  replace kbo5 := hk6.blk kbo5 (oo kbo5 (by decide))
  replace kbm := hk6.blk kbm (oo kbm (by decide))
  replace kbs := hk6.blk kbs (oo kbs (by decide))
  replace hM := hM.kept hk6 (oo hM.1 (by decide)) (by simpa using hM.2.1.ne kbn5) (by simpa using hM.2.2.1.ne kbn5)
  replace hS := hS.kept hk6 (oo hS.1 (by decide)) (by simpa using hS.2.1.ne kbn5) (by simpa using hS.2.2.1.ne kbn5)
  have hge : w.heap.size ≤ V5.heap.size := hb5.size
  clear hk6 hb5 kbn5 c4 e4 y1 c2 oo hsz5
  generalize (((V5.setCell ⟨V.heap.size, 0, none⟩ (.int .i64 0)).alloc (.cells #[.int .u32 0, .int .i64 0, .int .u32 0] 80)).alloc (.cells #[.pointer (some ⟨s, 0, none⟩)] 43)).drew = V6 at *
  refine (floors1 σ τ q2 m h1 h2 s g1 g2 _ _ _ _ _ _ V6 hM hS kbm kbs kbx6 kbo5 kbn6 kbl6 hn2 hN2).mono ?_
  rintro e V7 ⟨rfl, kbo7, kbn7, hk7⟩
  obtain ⟨oM1, oM2, oM3⟩ := hM.off kbo5 kbn6 kbl6 (by decide) (by decide) (by decide)
  have om := three_off kbm kbo5 kbn6 kbl6 (by decide) (by decide) (by decide)
  replace hM := hM.kept hk7 oM1 oM2 oM3
  replace kbm := hk7.blk kbm om
  have hb7 : Below w.heap.size w V7 := hk7.below hb6 hb6.size (by simp; omega)
  clear hk7 hb6 kbo5 kbn6 kbl6 kbx6 oM1 oM2 oM3 om hS kbs
  have hMB := hM.1
  have c1 := kbm.cell 0
  have c3 := kbo7.cell 0
  have c4 := kbn7.cell 0
  simp only [List.getElem?_toArray, List.getElem?_cons_zero, List.getElem?_cons_succ] at c1 c3 c4
  have m0 := hMB.cell 0
  have m1 := hMB.cell 1
  have m2 := hMB.cell 2
  have m3 := hMB.cell 3
  have mf0 := hMB.frozen 0
  have mf1 := hMB.frozen 1
  have mf2 := hMB.frozen 2
  have mf3 := hMB.frozen 3
  simp only [List.getElem?_toArray, List.getElem?_cons_zero, List.getElem?_cons_succ] at m0 m1 m2 m3
  have e1 := kbm.lt
  have e3 := kbo7.lt
  have e4 := kbn7.lt
  have e5 := hMB.lt
  have e6 := hM.2.2.1.lt
  go_wp2_with fail
  refine draw_start [] Later (by kernel_rfl) ?_
  refine draw_chunk (n := 56) (by kernel_rfl) (fun _ _ _ _ _ h => h) [0, 1, 2, 3, 4, 5, 6, 7, 8, 9, 10] [] _ #[true, true, true, true, true, true, true, true, true, true, true] (by kernel_rfl) 0 _ ?_ _ rfl ?_ ?_
  rotate_left
  · intro w' hw'
    have hc' : ∀ b o, b < V7.heap.size → w'.cell? ⟨b, o, none⟩ = V7.cell? ⟨b, o, none⟩ := (bcell hw').1
    have hln := (hM.2.2.1.same ((undrew hw').block h2 e6)).len Tryz.underlying67 3
    iterate 11
      refine ci_step (v := ?_) rfl (by kernel_rfl) ?_ ?_
      rotate_left
      · first | (go_simp; done) | (go_simp; with_reducible rfl)
      try simp only [Act.put, List.setIfInBounds_toArray, List.set_cons_zero, List.set_cons_succ]
    refine ci_end ?_
    rfl
  refine draw_done (by kernel_rfl) ?_ _
  go_wp2
  go_ret
  exact ⟨rfl, Below.drew hb7⟩
theorem model_Shows (σ : St) (m h1 h2 s g1 g2 : Nat) (w : World) (hM : StAt 69 w m h1 h2 σ) (hS : StAt 75 w s g1 g2 σ)
    (hn1 : (σ.own.map (·.1)).Nodup) (hN1 : σ.own.length < 1000000) (hn2 : (σ.fl.map (·.1)).Nodup) (hN2 : σ.fl.length < 1000000) :
    Calls Tryz.prog 12 #[.pointer (some ⟨m, 0, none⟩), .pointer (some ⟨s, 0, none⟩)] w fun e w' => e = .returned (.bool true) ∧ Below w.heap.size w w' :=
  model_Shows2 σ σ rfl rfl (fun _ => rfl) (fun _ => rfl) rfl rfl m h1 h2 s g1 g2 w hM hS hn1 hN1 hn2 hN2
end Go.Proofs.YtnfaeafplaeehaaGreat
end
