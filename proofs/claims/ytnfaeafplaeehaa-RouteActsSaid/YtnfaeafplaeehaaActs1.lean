import Derived.Test.YtnfaeafplaeehaaPick09W
import Derived.Test.YtnfaeafplaeehaaEarlyW
import Derived.Test.YtnfaeafplaeehaaLess
set_option linter.unusedVariables false
set_option linter.unusedSimpArgs false
namespace Go.Proofs.Ytnfaeafplaeehaa
open Go.RowKit
/-! RouteActs' function: what is yielded was seen, and comes in order. -/
def seenB (sn : List (Pfx × Bool)) (x : Pfx) : Bool := (getM sn x).getD false
def goodR (sn : List (Pfx × Bool)) : List Pfx → Bool
  | [] => true
  | [x] => seenB sn x
  | x :: y :: r => goodR sn (y :: r) && (seenB sn x && lessB y.a y.l x.a x.l)
theorem goodR_snoc (sn : List (Pfx × Bool)) (pre : List Pfx) (x : Pfx) : goodR sn (pre ++ [x]).reverse = (goodR sn pre.reverse && (seenB sn x && (decide (pre.length = 0) || lessB (pre.getLast?.getD ⟨0, 0⟩).a (pre.getLast?.getD ⟨0, 0⟩).l x.a x.l))) := by
  rw [List.reverse_append, List.reverse_singleton, List.singleton_append]
  rcases pre.eq_nil_or_concat with rfl | ⟨r, y, rfl⟩
  · simp [goodR]
  · simp [goodR]
theorem goodR_true (sn : List (Pfx × Bool)) : ∀ r : List Pfx, (∀ x ∈ r, seenB sn x = true) → r.Pairwise (fun x y => pLt y x) → goodR sn r = true
  | [], _, _ => rfl
  | [x], h, _ => h x (by simp)
  | x :: y :: r, h, hp => by
    obtain ⟨h1, h2⟩ := List.pairwise_cons.1 hp
    unfold goodR
    rw [goodR_true sn (y :: r) (fun z hz => h z (List.mem_cons_of_mem _ hz)) h2, h x (by simp), Bool.true_and, Bool.true_and]
    exact decide_eq_true (h1 y (by simp))
structure Walk3 (bg bs bn bl gs : Nat) (sn : List (Pfx × Bool)) (W : World) (pre : List Pfx) : Prop where
  g : Blk W bg 4 #[.bool (goodR sn pre.reverse)]
  s : Blk W bs 42 #[.map (some gs)]
  n : Blk W bn 3 #[.int .i64 pre.length]
  l : Blk W bl 25 #[.int .u32 (pre.getLast?.getD ⟨0, 0⟩).a, .int .i64 (pre.getLast?.getD ⟨0, 0⟩).l]
  m : MapAt W gs Pfx.val (fun b : Bool => Value.bool b) sn
theorem Walk3.below {bg bs bn bl gs : Nat} {sn : List (Pfx × Bool)} {W W' : World} {pre : List Pfx} (h : Walk3 bg bs bn bl gs sn W pre) (hb : Below W.heap.size W W') : Walk3 bg bs bn bl gs sn W' pre :=
  ⟨h.g.below' hb, h.s.below' hb, h.n.below' hb, h.l.below' hb, h.m.below hb⟩
theorem bool_zero09 (w : World) : (zeroValue 4).run Try.prog w = .ok (.bool false) w := by kernel_rfl
theorem seen_look (sn : List (Pfx × Bool)) (x : Pfx) (g : Nat) (W : World) (hW : MapAt W g Pfx.val (fun b : Bool => Value.bool b) sn) : (Instr.lookup 42 (.map (some g)) x.val false).run Try.prog W = .ok (.bool (seenB sn x)) W := by
  unfold seenB
  cases hg : getM sn x with
  | some r => exact run_lookup_some pfx_keys Try.underlying42 hW x r hg false
  | none => exact run_lookup_none pfx_keys Try.underlying42 hW x hg false (.bool false) bool_zero09
set_option maxRecDepth 100000 in
set_option maxHeartbeats 4000000 in
theorem acts1 (bg bs bn bl gs : Nat) (sn : List (Pfx × Bool)) (pre : List Pfx) (x : Pfx) (W : World) (h : Walk3 bg bs bn bl gs sn W pre) (hN : pre.length < 1000000) :
    Calls Try.prog 50 (#[x.val] ++ #[.pointer (some ⟨bg, 0, none⟩), .pointer (some ⟨bs, 0, none⟩), .pointer (some ⟨bn, 0, none⟩), .pointer (some ⟨bl, 0, none⟩)]) W fun e W' => e = .returned (.bool true) ∧ Walk3 bg bs bn bl gs sn W' (pre ++ [x]) ∧ Kept [bg, bn, bl] W W' := by
  have HG := Lib.hid (goodR_snoc sn pre x)
  have HL := Lib.hid (show (pre ++ [x]).getLast?.getD ⟨0, 0⟩ = x by simp)
  obtain ⟨kg, ks, kn, kl, hm⟩ := h
  have hlk := seen_look sn x gs
  obtain ⟨xa, xl⟩ := x
  simp only [Pfx.val] at hlk ⊢
  have kx := Blk.new W 25 #[.int .u32 xa, .int .i64 xl]
  have hbA := (Below.refl W.heap.size W).alloc (Nat.le_refl _) (.cells #[.int .u32 xa, .int .i64 xl] 25)
  have hk0 := Kept.of_below (S := [bg, bn, bl]) hbA
  have hnl := kn.nE kl (by decide)
  have hgl := kg.nE kl (by decide)
  have hgn := kg.nE kn (by decide)
  have hsl := ks.nE kl (by decide)
  have hsn := ks.nE kn (by decide)
  have hsg := ks.nE kg (by decide)
  have ne1 : ¬ W.heap.size = bl := Nat.ne_of_gt kl.lt
  have ne2 : ¬ W.heap.size = bg := Nat.ne_of_gt kg.lt
  have ne3 : ¬ W.heap.size = bn := Nat.ne_of_gt kn.lt
  have ne4 : ¬ bn = bg := hgn.symm
  have ne5 : ¬ bl = bg := hgl.symm
  have ne6 : ¬ bn = bl := hnl
  replace kg := kg.below' hbA
  replace ks := ks.below' hbA
  replace kn := kn.below' hbA
  replace kl := kl.below' hbA
  replace hm := hm.below hbA
  clear hbA
  go_enter Try.func50, Try.ntmps50
  have g1 := kg.lt
  have s1 := ks.lt
  have n1 := kn.lt
  have l1 := kl.lt
  have x1 := kx.lt
  have g0 := kg.cell 0
  have gf := kg.frozen 0
  have s0 := ks.cell 0
  have n0 := kn.cell 0
  have nf := kn.frozen 0
  have l0 := kl.cell 0
  have l2 := kl.cell 1
  have lf0 := kl.frozen 0
  have lf1 := kl.frozen 1
  have x0 := kx.cell 0
  have x2 := kx.cell 1
  simp only [List.getElem?_toArray, List.getElem?_cons_zero, List.getElem?_cons_succ] at g0 s0 n0 l0 l2 x0 x2
  have hlk1 := hlk _ hm
  clear hlk
  generalize goodR sn pre.reverse = gd at *
  generalize seenB sn ⟨xa, xl⟩ = sb at *
  cases gd with
  | false =>
    go_wp2
    go_ret
    refine ⟨rfl, ⟨?_, (((ks.other (a := ⟨bg, 0, none⟩) hsg _).other (a := ⟨bl, 0, none⟩) hsl _).other (a := ⟨bl, 1, none⟩) hsl _).other (a := ⟨bn, 0, none⟩) hsn _, ?_, ?_, (((hm.setCell _ _).setCell _ _).setCell _ _).setCell _ _⟩, hk0.trans (kept_set (kept_set (kept_set (kept_set (Kept.refl _ _) _ _ (.inl (by simp))) _ _ (.inl (by simp))) _ _ (.inl (by simp))) _ _ (.inl (by simp)))⟩
    · rw [HG.out]
      have := (((kg.set 0 (.bool (false))).other (a := ⟨bl, 0, none⟩) hgl (.int .u32 xa)).other (a := ⟨bl, 1, none⟩) hgl (.int .i64 xl)).other (a := ⟨bn, 0, none⟩) hgn (.int .i64 ((pre.length : Int) + 1))
      simpa using this
    · have := ((((kn.other (a := ⟨bg, 0, none⟩) hgn.symm (.bool (false))).other (a := ⟨bl, 0, none⟩) hnl (.int .u32 xa)).other (a := ⟨bl, 1, none⟩) hnl (.int .i64 xl))).set 0 (.int .i64 ((pre.length : Int) + 1))
      simpa using this
    · rw [HL.out]
      have := ((((kl.other (a := ⟨bg, 0, none⟩) hgl.symm (.bool (false)))).set 0 (.int .u32 xa)).set 1 (.int .i64 xl)).other (a := ⟨bn, 0, none⟩) hnl.symm (.int .i64 ((pre.length : Int) + 1))
      simpa using this
  | true =>
    cases sb with
    | false =>
      go_wp2
      go_ret
      refine ⟨rfl, ⟨?_, (((ks.other (a := ⟨bg, 0, none⟩) hsg _).other (a := ⟨bl, 0, none⟩) hsl _).other (a := ⟨bl, 1, none⟩) hsl _).other (a := ⟨bn, 0, none⟩) hsn _, ?_, ?_, (((hm.setCell _ _).setCell _ _).setCell _ _).setCell _ _⟩, hk0.trans (kept_set (kept_set (kept_set (kept_set (Kept.refl _ _) _ _ (.inl (by simp))) _ _ (.inl (by simp))) _ _ (.inl (by simp))) _ _ (.inl (by simp)))⟩
      · rw [HG.out]
        have := (((kg.set 0 (.bool (false))).other (a := ⟨bl, 0, none⟩) hgl (.int .u32 xa)).other (a := ⟨bl, 1, none⟩) hgl (.int .i64 xl)).other (a := ⟨bn, 0, none⟩) hgn (.int .i64 ((pre.length : Int) + 1))
        simpa using this
      · have := ((((kn.other (a := ⟨bg, 0, none⟩) hgn.symm (.bool (false))).other (a := ⟨bl, 0, none⟩) hnl (.int .u32 xa)).other (a := ⟨bl, 1, none⟩) hnl (.int .i64 xl))).set 0 (.int .i64 ((pre.length : Int) + 1))
        simpa using this
      · rw [HL.out]
        have := ((((kl.other (a := ⟨bg, 0, none⟩) hgl.symm (.bool (false)))).set 0 (.int .u32 xa)).set 1 (.int .i64 xl)).other (a := ⟨bn, 0, none⟩) hnl.symm (.int .i64 ((pre.length : Int) + 1))
        simpa using this
    | true =>
      by_cases h0 : pre.length = 0
      · have h0' : ((pre.length : Int) == 0) = true := beq_iff_eq.2 (by omega)
        rw [decide_eq_true h0] at HG
        have H0 := Lib.hid h0
        clear h0
        go_wp2
        go_ret
        refine ⟨rfl, ⟨?_, (((ks.other (a := ⟨bg, 0, none⟩) hsg _).other (a := ⟨bl, 0, none⟩) hsl _).other (a := ⟨bl, 1, none⟩) hsl _).other (a := ⟨bn, 0, none⟩) hsn _, ?_, ?_, (((hm.setCell _ _).setCell _ _).setCell _ _).setCell _ _⟩, hk0.trans (kept_set (kept_set (kept_set (kept_set (Kept.refl _ _) _ _ (.inl (by simp))) _ _ (.inl (by simp))) _ _ (.inl (by simp))) _ _ (.inl (by simp)))⟩
        · rw [HG.out]
          have := (((kg.set 0 (.bool (true))).other (a := ⟨bl, 0, none⟩) hgl (.int .u32 xa)).other (a := ⟨bl, 1, none⟩) hgl (.int .i64 xl)).other (a := ⟨bn, 0, none⟩) hgn (.int .i64 ((pre.length : Int) + 1))
          simpa using this
        · have := ((((kn.other (a := ⟨bg, 0, none⟩) hgn.symm (.bool (true))).other (a := ⟨bl, 0, none⟩) hnl (.int .u32 xa)).other (a := ⟨bl, 1, none⟩) hnl (.int .i64 xl))).set 0 (.int .i64 ((pre.length : Int) + 1))
          simpa using this
        · rw [HL.out]
          have := ((((kl.other (a := ⟨bg, 0, none⟩) hgl.symm (.bool (true)))).set 0 (.int .u32 xa)).set 1 (.int .i64 xl)).other (a := ⟨bn, 0, none⟩) hnl.symm (.int .i64 ((pre.length : Int) + 1))
          simpa using this
      · have h0' : ((pre.length : Int) == 0) = false := beq_eq_false_iff_ne.2 (by omega)
        rw [decide_eq_false h0] at HG
        clear h0
        generalize (pre.getLast?.getD ⟨0, 0⟩).a = la at *
        generalize (pre.getLast?.getD ⟨0, 0⟩).l = ll at *
        go_wp2_with fail
        refine (law02_Less la ll xa xl _).mono ?_
        rintro e w2 ⟨rfl, hb2⟩
        generalize lessB la ll xa xl = lv at *
        generalize W.alloc (.cells #[.int .u32 xa, .int .i64 xl] 25) = V at *
        replace kg := kg.below' hb2
        replace ks := ks.below' hb2
        replace kn := kn.below' hb2
        replace kl := kl.below' hb2
        replace kx := kx.below' hb2
        replace hm := hm.below hb2
        replace hk0 := hk0.trans (Kept.of_below hb2)
        clear hb2 g1 s1 n1 l1 x1 g0 gf s0 n0 nf l0 l2 lf0 lf1 x0 x2 hlk1
        generalize W.heap.size = q at *
        have g1 := kg.lt
        have s1 := ks.lt
        have n1 := kn.lt
        have l1 := kl.lt
        have x1 := kx.lt
        have g0 := kg.cell 0
        have gf := kg.frozen 0
        have s0 := ks.cell 0
        have n0 := kn.cell 0
        have nf := kn.frozen 0
        have l0 := kl.cell 0
        have l2 := kl.cell 1
        have lf0 := kl.frozen 0
        have lf1 := kl.frozen 1
        have x0 := kx.cell 0
        have x2 := kx.cell 1
        simp only [List.getElem?_toArray, List.getElem?_cons_zero, List.getElem?_cons_succ] at g0 s0 n0 l0 l2 x0 x2
        go_wp2
        go_ret
        refine ⟨rfl, ⟨?_, (((ks.other (a := ⟨bg, 0, none⟩) hsg _).other (a := ⟨bl, 0, none⟩) hsl _).other (a := ⟨bl, 1, none⟩) hsl _).other (a := ⟨bn, 0, none⟩) hsn _, ?_, ?_, (((hm.setCell _ _).setCell _ _).setCell _ _).setCell _ _⟩, hk0.trans (kept_set (kept_set (kept_set (kept_set (Kept.refl _ _) _ _ (.inl (by simp))) _ _ (.inl (by simp))) _ _ (.inl (by simp))) _ _ (.inl (by simp)))⟩
        · rw [HG.out]
          have := (((kg.set 0 (.bool (lv))).other (a := ⟨bl, 0, none⟩) hgl (.int .u32 xa)).other (a := ⟨bl, 1, none⟩) hgl (.int .i64 xl)).other (a := ⟨bn, 0, none⟩) hgn (.int .i64 ((pre.length : Int) + 1))
          simpa using this
        · have := ((((kn.other (a := ⟨bg, 0, none⟩) hgn.symm (.bool (lv))).other (a := ⟨bl, 0, none⟩) hnl (.int .u32 xa)).other (a := ⟨bl, 1, none⟩) hnl (.int .i64 xl))).set 0 (.int .i64 ((pre.length : Int) + 1))
          simpa using this
        · rw [HL.out]
          have := ((((kl.other (a := ⟨bg, 0, none⟩) hgl.symm (.bool (lv)))).set 0 (.int .u32 xa)).set 1 (.int .i64 xl)).other (a := ⟨bn, 0, none⟩) hnl.symm (.int .i64 ((pre.length : Int) + 1))
          simpa using this
end Go.Proofs.Ytnfaeafplaeehaa
