import Derived.Test.YtnfaeafplaeehaaKeyCmp
import Derived.Shelf.SlSortCmp.NoneTotal
set_option linter.unusedVariables false
set_option linter.unusedSimpArgs false
namespace Go.Proofs.Ytnfaeafplaeehaa
open Go.RowKit Go.Sort Go.Lib Go.Shelf
/-! slices.SortedFunc(maps.Keys(m), cmp), and the caller that joins the two. -/
theorem pcmp_lt (a l c m : Int) : decide (pcmp a l c m < 0) = decide (a < c ∨ (a = c ∧ l < m)) := by
  unfold pcmp aorI acmpI
  congr 1
  refine propext ?_
  split <;> split <;> (try split) <;> (try split) <;> omega
def pfxCf (x y : Pfx) : Int := pcmp x.a x.l y.a y.l
theorem pfxLt (x y : Pfx) : ltOf pfxCf x y = decide (x.a < y.a ∨ (x.a = y.a ∧ x.l < y.l)) := pcmp_lt _ _ _ _
theorem pfxSWO : SWO (ltOf pfxCf) where
  irrefl x := by rw [pfxLt]; simp
  trans x y z h1 h2 := by rw [pfxLt] at *; simp at *; omega
  ntrans x y z h1 h2 := by rw [pfxLt] at *; simp at *; omega
theorem sPfx_gives (F : Fence) (n : Nat) (hF : F.fn 149) (hro : F.round = none) (hn : 1 ≤ n) (Bm b : Nat) (m : List (Pfx × Bool)) (w : World) (hB : Bm < w.heap.size) (hm : w.cell? ⟨Bm, 0, none⟩ = some (.map (some b))) (hown : MapAt w b Pfx.val Value.bool m) :
    SeqGives F n Try.prog 149 #[.pointer (some ⟨Bm, 0, none⟩)] Pfx.val (fun ss => ss.Perm (m.map (·.1))) m.length w := by
  intro l J W hW hJ hY h0
  have hc : W.cell? ⟨Bm, 0, none⟩ = some (.map (some b)) := (hW.cell (show (⟨Bm, 0, none⟩ : Addr).block < w.heap.size from hB)).trans hm
  refine (keysPfx_in F n hF hro hn l Bm b m J hY W hJ hc (hown.below hW) h0).mono ?_
  rintro e W' ⟨he, ss, hs, hJs⟩
  exact ⟨he, ss, hs, hJs⟩
theorem sPfx_cmps (blk off size : Nat) (w : World) : CmpLays Try.prog 70 #[] Pfx.cells 2 pfxCf blk off size w :=
  fun _ _ _ _ x y => addr_Compare_grow x.a x.l y.a y.l _
set_option maxHeartbeats 1000000 in
theorem sPfx_func (Bm b : Nat) (m : List (Pfx × Bool)) (w : World) (hB : Bm < w.heap.size) (hm : w.cell? ⟨Bm, 0, none⟩ = some (.map (some b))) (hown : MapAt w b Pfx.val Value.bool m) (hN : m.length ≤ 1000000) :
    Calls Try.prog 120 #[.func (.func 149) #[] #[.pointer (some ⟨Bm, 0, none⟩)], .func (.func 70) #[] #[]] w fun e w' => ∃ (ad : Option Addr) (c : Nat) (ss : List Pfx), e = .returned (.slice ad ss.length c) ∧ ss.Perm (m.map (·.1)) ∧ ss.Pairwise (fun x y => ltOf pfxCf y x = false) ∧ Row w' 2 ad ss.length (ss.flatMap Pfx.cells) ∧ Below w.heap.size w w' ∧ ∀ b off, ad = some ⟨b, off, none⟩ → w.heap.size ≤ b ∧ ∃ cur, w'.heap[b]? = some (.cells cur 25 (0, 0)) := by
  have e1 : ∀ args w, (callFunc 149 args).run Try.prog w = .ok (.enter 149 args) w := enters_of Try.func149 (by kernel_rfl) rfl
  have eC : ∀ args w, (callFunc 70 args).run Try.prog w = .ok (.enter 70 args) w := enters_of Try.func70 (by kernel_rfl) rfl
  have hcol := callsIn_wide.1 (apPfx_collect Fence.wide 6 trivial trivial rfl (by omega) 149 #[.pointer (some ⟨Bm, 0, none⟩)] trivial e1 (fun ss => ss.Perm (m.map (·.1))) m.length hN w (sPfx_gives Fence.wide 4 trivial rfl (by omega) Bm b m w hB hm hown))
  have hsort := fun blk cap ss W hH hblk hsz => AnyQ.slices_SortFunc Try.sortPfx 2 Try.isAgg25 Try.sizeOf25 Pfx.cells (fun _ => rfl) (fun x v hv => by simp [Pfx.cells] at hv; rcases hv with rfl | rfl | rfl <;> rfl) pfxCf pfxSWO 70 #[] blk 0 cap ss W eC (sPfx_cmps blk 0 ss.size W) hH hblk hsz
  have hnone := fun cap W => AnyF.slices_SortFunc_none (ρ := Try.sortPfx_ren) { Try.sortPfx with } none cap (.func (.func 70) #[] #[]) W
  change ∀ blk cap ss W, _ → _ → _ → Calls _ 148 _ _ _ at hsort
  change ∀ cap W, Calls _ 148 _ _ _ at hnone
  go_enter Try.func120, Try.ntmps120
  go_wp2_with (go_at_call 147; refine hcol.mono ?_)
  rintro e w1 ⟨v, ss, rfl, hS, ⟨hl, hrow⟩, hnil, hb⟩
  have hle : ss.length ≤ 1000000 := by have := hS.length_eq; simp at this; omega
  rcases hrow with ⟨rfl, h0⟩ | ⟨g, cap, cur, rfl, hg, hh, hcap, hmax, hcs, htk⟩
  · obtain rfl : ss = [] := List.eq_nil_of_length_eq_zero h0
    go_wp2_with (go_at_call 148; refine (hnone _ _).mono ?_; rintro e w2 ⟨rfl, rfl⟩)
    go_ret
    exact ⟨none, 0, [], rfl, hS, List.Pairwise.nil, ⟨rfl, Nat.zero_le _, fun h => absurd h (by simp)⟩, hb, fun b off h => by cases h⟩
  · have hgl := lt_of_heap hh
    have hlen : ∀ x, (Pfx.cells x).length = 2 := fun _ => rfl
    have hH : HoldsK Pfx.cells 2 w1 g 0 ss.toArray := holdsK_of_row Pfx.cells 2 hlen (by decide) hh ss htk
    have hs := hsort g cap ss.toArray w1 hH hgl (by simp; omega)
    simp only [List.size_toArray] at hs
    clear hcol hsort hnone
    go_wp2_with (go_at_call 148; refine hs.mono ?_)
    rintro e w2 ⟨rfl, d', q, os, hp, hsd, rfl⟩
    obtain ⟨p1, p2, p3⟩ := sorted_list (ltOf pfxCf) ss d' (by simpa using hp) (by simpa using hsd)
    go_wp2
    go_ret
    refine ⟨some ⟨g, 0, none⟩, cap, d'.toList, by simp [p3], p1.trans hS, p2, ?_, hb.trans (sortWorldK_below Pfx.cells 2 w.heap.size hgl hg d' os), fun b off h => by cases h; exact ⟨hg, sortWorldK_blk Pfx.cells 2 hh d' os⟩⟩
    have := row_of_holdsK Pfx.cells 2 hlen (by decide) (W := sortWorldK Pfx.cells 2 w1 g 0 q d' os) (gb := g) (Nat.lt_of_lt_of_le hgl (sortWorldK_below Pfx.cells 2 w.heap.size hgl hg d' os).size) d' (by omega) (sortWorldK_cell Pfx.cells 2 hgl ss.toArray d' os hH (by simpa using p3))
    simpa using this
theorem sPfx_keys (mb : Option Nat) (w : World) : Calls Try.prog 121 #[.map mb] w fun e w' => e = .returned (.func (.func 149) #[] #[.pointer (some ⟨w.heap.size, 0, none⟩)]) ∧ w' = w.alloc (.cells #[.map mb] 42) := by
  go_enter Try.func121, Try.ntmps121
  go_wp2
  go_ret
  exact ⟨rfl, rfl⟩
theorem sPfx_all (b : Nat) (m : List (Pfx × Bool)) (w : World) (hown : MapAt w b Pfx.val Value.bool m) (hN : m.length ≤ 1000000) :
    Calls Try.prog 102 #[.map (some b), .func (.func 70) #[] #[]] w fun e w' => ∃ (ad : Option Addr) (c : Nat) (ss : List Pfx), e = .returned (.slice ad ss.length c) ∧ ss.Perm (m.map (·.1)) ∧ ss.Pairwise (fun x y => ltOf pfxCf y x = false) ∧ Row w' 2 ad ss.length (ss.flatMap Pfx.cells) ∧ Below w.heap.size w w' ∧ ∀ b off, ad = some ⟨b, off, none⟩ → w.heap.size ≤ b ∧ ∃ cur, w'.heap[b]? = some (.cells cur 25 (0, 0)) := by
  have hb := hown.lt
  have hc := sPfx_func w.heap.size b m (w.alloc (.cells #[.map (some b)] 42)) (by simp) (by simp) (hown.alloc _) hN
  go_enter Try.func102, Try.ntmps102
  go_wp2_with (first
    | (go_at_call 121; refine (sPfx_keys _ _).mono ?_; rintro e w1 ⟨rfl, rfl⟩)
    | (go_at_call 120; refine hc.mono ?_; rintro e w1 ⟨ad, c, ss, rfl, h1, h2, h3, h4, h5⟩))
  go_ret
  exact ⟨ad, c, ss, rfl, h1, h2, h3, ((Below.refl _ w).alloc (Nat.le_refl _) _).trans (h4.mono (by simp)), fun b off h => ⟨by have := (h5 b off h).1; simp at this; omega, (h5 b off h).2⟩⟩
theorem sKey_gives (F : Fence) (n : Nat) (hF : F.fn 152) (hro : F.round = none) (hn : 1 ≤ n) (Bm b : Nat) (m : List (Key × Dst)) (w : World) (hB : Bm < w.heap.size) (hm : w.cell? ⟨Bm, 0, none⟩ = some (.map (some b))) (hown : MapAt w b Key.val dstV m) :
    SeqGives F n Try.prog 152 #[.pointer (some ⟨Bm, 0, none⟩)] Key.val (fun ss => ss.Perm (m.map (·.1))) m.length w := by
  intro l J W hW hJ hY h0
  have hc : W.cell? ⟨Bm, 0, none⟩ = some (.map (some b)) := (hW.cell (show (⟨Bm, 0, none⟩ : Addr).block < w.heap.size from hB)).trans hm
  refine (keysKey_in F n hF hro hn l Bm b m J hY W hJ hc (hown.below hW) h0).mono ?_
  rintro e W' ⟨he, ss, hs, hJs⟩
  exact ⟨he, ss, hs, hJs⟩
theorem sKey_cmps (blk off size : Nat) (w : World) : CmpLays Try.prog 105 #[] Key.cells 3 kcmp blk off size w :=
  fun _ _ _ _ x y => state_compare_grow x y _
set_option maxHeartbeats 1000000 in
theorem sKey_func (Bm b : Nat) (m : List (Key × Dst)) (w : World) (hB : Bm < w.heap.size) (hm : w.cell? ⟨Bm, 0, none⟩ = some (.map (some b))) (hown : MapAt w b Key.val dstV m) (hN : m.length ≤ 1000000) :
    Calls Try.prog 122 #[.func (.func 152) #[] #[.pointer (some ⟨Bm, 0, none⟩)], .func (.func 105) #[] #[]] w fun e w' => ∃ (ad : Option Addr) (c : Nat) (ss : List Key), e = .returned (.slice ad ss.length c) ∧ ss.Perm (m.map (·.1)) ∧ ss.Pairwise (fun x y => ltOf kcmp y x = false) ∧ Row w' 3 ad ss.length (ss.flatMap Key.cells) ∧ Below w.heap.size w w' ∧ ∀ b off, ad = some ⟨b, off, none⟩ → w.heap.size ≤ b ∧ ∃ cur, w'.heap[b]? = some (.cells cur 27 (0, 0)) := by
  have e1 : ∀ args w, (callFunc 152 args).run Try.prog w = .ok (.enter 152 args) w := enters_of Try.func152 (by kernel_rfl) rfl
  have eC : ∀ args w, (callFunc 105 args).run Try.prog w = .ok (.enter 105 args) w := enters_of Try.func105 (by kernel_rfl) rfl
  have hcol := callsIn_wide.1 (apKey_collect Fence.wide 6 trivial trivial rfl (by omega) 152 #[.pointer (some ⟨Bm, 0, none⟩)] trivial e1 (fun ss => ss.Perm (m.map (·.1))) m.length hN w (sKey_gives Fence.wide 4 trivial rfl (by omega) Bm b m w hB hm hown))
  have hsort := fun blk cap ss W hH hblk hsz => AnyQ.slices_SortFunc Try.sortKey 3 Try.isAgg27 Try.sizeOf27 Key.cells (fun _ => rfl) (fun x v hv => by simp [Key.cells] at hv; rcases hv with rfl | rfl | rfl <;> rfl) kcmp keySWO 105 #[] blk 0 cap ss W eC (sKey_cmps blk 0 ss.size W) hH hblk hsz
  have hnone := fun cap W => AnyF.slices_SortFunc_none (ρ := Try.sortKey_ren) { Try.sortKey with } none cap (.func (.func 105) #[] #[]) W
  change ∀ blk cap ss W, _ → _ → _ → Calls _ 151 _ _ _ at hsort
  change ∀ cap W, Calls _ 151 _ _ _ at hnone
  go_enter Try.func122, Try.ntmps122
  go_wp2_with (go_at_call 150; refine hcol.mono ?_)
  rintro e w1 ⟨v, ss, rfl, hS, ⟨hl, hrow⟩, hnil, hb⟩
  have hle : ss.length ≤ 1000000 := by have := hS.length_eq; simp at this; omega
  rcases hrow with ⟨rfl, h0⟩ | ⟨g, cap, cur, rfl, hg, hh, hcap, hmax, hcs, htk⟩
  · obtain rfl : ss = [] := List.eq_nil_of_length_eq_zero h0
    go_wp2_with (go_at_call 151; refine (hnone _ _).mono ?_; rintro e w2 ⟨rfl, rfl⟩)
    go_ret
    exact ⟨none, 0, [], rfl, hS, List.Pairwise.nil, ⟨rfl, Nat.zero_le _, fun h => absurd h (by simp)⟩, hb, fun b off h => by cases h⟩
  · have hgl := lt_of_heap hh
    have hlen : ∀ x, (Key.cells x).length = 3 := fun _ => rfl
    have hH : HoldsK Key.cells 3 w1 g 0 ss.toArray := holdsK_of_row Key.cells 3 hlen (by decide) hh ss htk
    have hs := hsort g cap ss.toArray w1 hH hgl (by simp; omega)
    simp only [List.size_toArray] at hs
    clear hcol hsort hnone
    go_wp2_with (go_at_call 151; refine hs.mono ?_)
    rintro e w2 ⟨rfl, d', q, os, hp, hsd, rfl⟩
    obtain ⟨p1, p2, p3⟩ := sorted_list (ltOf kcmp) ss d' (by simpa using hp) (by simpa using hsd)
    go_wp2
    go_ret
    refine ⟨some ⟨g, 0, none⟩, cap, d'.toList, by simp [p3], p1.trans hS, p2, ?_, hb.trans (sortWorldK_below Key.cells 3 w.heap.size hgl hg d' os), fun b off h => by cases h; exact ⟨hg, sortWorldK_blk Key.cells 3 hh d' os⟩⟩
    have := row_of_holdsK Key.cells 3 hlen (by decide) (W := sortWorldK Key.cells 3 w1 g 0 q d' os) (gb := g) (Nat.lt_of_lt_of_le hgl (sortWorldK_below Key.cells 3 w.heap.size hgl hg d' os).size) d' (by omega) (sortWorldK_cell Key.cells 3 hgl ss.toArray d' os hH (by simpa using p3))
    simpa using this
theorem sKey_keys (mb : Option Nat) (w : World) : Calls Try.prog 123 #[.map mb] w fun e w' => e = .returned (.func (.func 152) #[] #[.pointer (some ⟨w.heap.size, 0, none⟩)]) ∧ w' = w.alloc (.cells #[.map mb] 43) := by
  go_enter Try.func123, Try.ntmps123
  go_wp2
  go_ret
  exact ⟨rfl, rfl⟩
theorem sKey_all (b : Nat) (m : List (Key × Dst)) (w : World) (hown : MapAt w b Key.val dstV m) (hN : m.length ≤ 1000000) :
    Calls Try.prog 104 #[.map (some b), .func (.func 105) #[] #[]] w fun e w' => ∃ (ad : Option Addr) (c : Nat) (ss : List Key), e = .returned (.slice ad ss.length c) ∧ ss.Perm (m.map (·.1)) ∧ ss.Pairwise (fun x y => ltOf kcmp y x = false) ∧ Row w' 3 ad ss.length (ss.flatMap Key.cells) ∧ Below w.heap.size w w' ∧ ∀ b off, ad = some ⟨b, off, none⟩ → w.heap.size ≤ b ∧ ∃ cur, w'.heap[b]? = some (.cells cur 27 (0, 0)) := by
  have hb := hown.lt
  have hc := sKey_func w.heap.size b m (w.alloc (.cells #[.map (some b)] 43)) (by simp) (by simp) (hown.alloc _) hN
  go_enter Try.func104, Try.ntmps104
  go_wp2_with (first
    | (go_at_call 123; refine (sKey_keys _ _).mono ?_; rintro e w1 ⟨rfl, rfl⟩)
    | (go_at_call 122; refine hc.mono ?_; rintro e w1 ⟨ad, c, ss, rfl, h1, h2, h3, h4, h5⟩))
  go_ret
  exact ⟨ad, c, ss, rfl, h1, h2, h3, ((Below.refl _ w).alloc (Nat.le_refl _) _).trans (h4.mono (by simp)), fun b off h => ⟨by have := (h5 b off h).1; simp at this; omega, (h5 b off h).2⟩⟩
end Go.Proofs.Ytnfaeafplaeehaa
