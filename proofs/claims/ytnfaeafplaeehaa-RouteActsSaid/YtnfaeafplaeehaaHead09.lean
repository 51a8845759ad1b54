import Derived.Test.YtnfaeafplaeehaaPick
set_option linter.unusedVariables false
set_option linter.unusedSimpArgs false
namespace Go.Proofs.Ytnfaeafplaeehaa
open Go.RowKit
/-! The law's costs, and its head. -/
def costF (list : List Int) (i : Int) : Int := if i < 0 ∨ (list.length : Int) ≤ i then 0 else list.getD i.toNat 0
theorem Row.at1 {w : World} {A : Option Addr} {n : Nat} {cs : List Value} (h : Row w 1 A n cs) (i : Nat) (hi : i < n) : ∃ b off, A = some ⟨b, off, none⟩ ∧ b < w.heap.size ∧ w.cell? ⟨b, off + i, none⟩ = cs[i]? := by
  obtain ⟨h1, h2, h3⟩ := h
  obtain ⟨b, off, e, hb, hc⟩ := h3 (by omega)
  have hl : i < cs.length := by omega
  exact ⟨b, off, e, hb, by rw [hc i cs[i] (List.getElem?_eq_getElem hl), List.getElem?_eq_getElem hl]⟩
theorem law09_cost (list : List Int) (A : Option Addr) (c : Nat) (most i : Int) (w : World) (h : Row w 1 A list.length (list.map (Value.int .i64))) :
    Calls Try.prog 48 #[.agg #[.slice A list.length c, .int .u32 most], .int .i64 i] w fun e w' => e = .returned (.int .i64 (costF list i)) ∧ Below w.heap.size w w' := by
  have hb := (Below.refl w.heap.size w).alloc (Nat.le_refl _) (.cells #[.slice A list.length c, .int .u32 most] 94)
  by_cases h0 : i < 0
  · have hF := Lib.hid (show costF list i = 0 by unfold costF; rw [if_pos (.inl h0)])
    go_enter Try.func48, Try.ntmps48
    go_wp2
    go_ret
    exact ⟨by rw [hF.out]; rfl, hb⟩
  · by_cases h1 : (list.length : Int) ≤ i
    · have hF := Lib.hid (show costF list i = 0 by unfold costF; rw [if_pos (.inr h1)])
      go_enter Try.func48, Try.ntmps48
      go_wp2
      go_ret
      exact ⟨by rw [hF.out]; rfl, hb⟩
    · obtain ⟨k, rfl⟩ : ∃ k : Nat, i = k := ⟨i.toNat, by omega⟩
      have hk : k < list.length := by omega
      have hF := Lib.hid (show costF list k = list[k] by unfold costF; rw [if_neg (by omega)]; simp [hk])
      obtain ⟨b, off, rfl, hbl, hc⟩ := h.at1 k hk
      rw [List.getElem?_map, List.getElem?_eq_getElem hk, Option.map_some] at hc
      generalize list[k] = v at *
      clear h
      have hn : ¬ (list.length : Int) ≤ (k : Int) := h1
      go_enter Try.func48, Try.ntmps48
      go_wp2
      go_ret
      exact ⟨by rw [hF.out]; rfl, hb⟩
theorem law09_may (A : Option Addr) (n c : Nat) (most : Int) (r : Rt) (w : World) :
    Calls Try.prog 49 #[.agg #[.slice A n c, .int .u32 most], r.val] w fun e w' => e = .returned (.bool (decide (r.id ≤ most))) ∧ Below w.heap.size w w' := by
  obtain ⟨rn, ri, rs, rm, rx⟩ := r
  simp only [Rt.val]
  have hb := ((Below.refl w.heap.size w).alloc (Nat.le_refl _) (.cells #[.slice A n c, .int .u32 most] 94)).alloc (by simp) (.cells #[.int .i64 rn, .int .u32 ri, .int .u32 rs, .int .u16 rm, .int .i64 rx] 68)
  go_enter Try.func49, Try.ntmps49
  go_wp2
  go_ret
  exact ⟨rfl, hb⟩
theorem law09_Pick_of (m : List (RKey × Rt)) (a l : Int) (t g : Nat) (w : World) (h : TbAt w t g m) (hmm : ∀ e ∈ m, 0 ≤ e.2.m ∧ e.2.m ≤ 65535) (list : List Int) (A : Option Addr) (c : Nat) (most : Int) (hr : Row w 1 A list.length (list.map (Value.int .i64))) :
    Calls Try.prog 47 #[.pointer (some ⟨t, 0, none⟩), .agg #[.int .u32 a, .int .i64 l], .func (.func 48) #[.agg #[.slice A list.length c, .int .u32 most]] #[], .func (.func 49) #[.agg #[.slice A list.length c, .int .u32 most]] #[]] w
      fun e w' => e = .returned (.tuple #[(pickN m a l (costF list) (fun r => decide (r.id ≤ most)) 9).1.val, .bool (pickN m a l (costF list) (fun r => decide (r.id ≤ most)) 9).2.2]) ∧ Below w.heap.size w w' :=
  table_Pick m a l t g w h hmm _ _ _ _ _ _ (enters_of Try.func48 (by kernel_rfl) rfl) (enters_of Try.func49 (by kernel_rfl) rfl) (costF list) (fun r => decide (r.id ≤ most)) (fun W => Row W 1 A list.length (list.map (Value.int .i64))) (fun _ _ h hb => h.below hb) hr
    (fun i W hW => law09_cost list A c most i W hW) (fun r W _ => law09_may A list.length c most r W)
def hm0 : List (RKey × Rt) := [(⟨167772160, 8, 2⟩, ⟨2, 0, 0, 5, 0⟩), (⟨167772160, 8, 1⟩, ⟨1, 0, 0, 4, 0⟩)]
theorem head_pick : pickN hm0 167772160 8 (costF [0, 3, 1]) (fun r => decide (r.id ≤ 9)) 9 = (⟨2, 0, 0, 5, 0⟩, 6, true) := by decide
set_option maxHeartbeats 2000000 in
theorem law09_head (w : World) : Calls Try.prog 30 #[] w fun e w' => e = .returned (.bool true) ∧ Below w.heap.size w w' := by
  go_enter Try.func30, Try.ntmps30
  go_wp2_with fail
  refine (table_New w).mono ?_
  rintro e w1 ⟨hb, t, g, rfl, hT, ht, hg⟩
  go_wp2_with fail
  have hgl := hT.2.1.lt
  have hbA := (Below.refl w1.heap.size w1).alloc (Nat.le_refl _) (.cells #[.int .u32 167772160, .int .i64 8] 25)
  have kP := Blk.new w1 25 #[.int .u32 167772160, .int .i64 8]
  replace hT := hT.below hbA
  replace hb := hb.trans (hbA.mono hb.size)
  have hgp := Lib.hid (show w1.heap.size ∉ [g] by simp; omega)
  clear hbA
  generalize w1.alloc (.cells #[.int .u32 167772160, .int .i64 8] 25) = W at *
  generalize w1.heap.size = q at *
  refine (table_Set [] 167772160 8 ⟨2, 0, 0, 5, 0⟩ t g W hT).mono ?_
  rintro e w2 ⟨rfl, hT, hk⟩
  replace kP := hk.blk kP hgp.out
  replace hb := hk.below hb hb.size (by simpa using hg)
  clear hk
  have p0 := kP.cell 0
  have p1 := kP.cell 1
  simp only [List.getElem?_toArray, List.getElem?_cons_zero, List.getElem?_cons_succ] at p0 p1
  have p2 := kP.lt
  go_wp2_with fail
  refine (table_Set _ 167772160 8 ⟨1, 0, 0, 4, 0⟩ t g w2 hT).mono ?_
  rintro e w3 ⟨rfl, hT, hk⟩
  replace kP := hk.blk kP hgp.out
  replace hb := hk.below hb hb.size (by simpa using hg)
  clear hk p0 p1 p2
  have hm : updM (updM [] ⟨167772160, 8, 2⟩ ⟨2, 0, 0, 5, 0⟩) ⟨167772160, 8, 1⟩ ⟨1, 0, 0, 4, 0⟩ = hm0 := rfl
  rw [hm] at hT
  clear hm
  have hbA := ((Below.refl w3.heap.size w3).alloc (Nat.le_refl _) (.cells #[.int .i64 0, .int .i64 3, .int .i64 1] 3)).alloc (by simp) (.cells #[.slice (some ⟨w3.heap.size, 0, none⟩) 3 3, .int .u32 9] 94)
  have hrow : Row ((w3.alloc (.cells #[.int .i64 0, .int .i64 3, .int .i64 1] 3)).alloc (.cells #[.slice (some ⟨w3.heap.size, 0, none⟩) 3 3, .int .u32 9] 94)) 1 (some ⟨w3.heap.size, 0, none⟩) ([0, 3, 1] : List Int).length (([0, 3, 1] : List Int).map (Value.int .i64)) := by
    refine ⟨rfl, by decide, fun _ => ⟨_, _, rfl, by simp; omega, fun j u hj => ?_⟩⟩
    have kc := (Blk.new w3 3 #[.int .i64 0, .int .i64 3, .int .i64 1]).alloc (.cells #[.slice (some ⟨w3.heap.size, 0, none⟩) 3 3, .int .u32 9] 94)
    rw [kc.cell (0 + j), ← hj]
    simp
  replace hT := hT.below hbA
  replace kP := kP.below' hbA
  replace hb := hb.trans (hbA.mono hb.size)
  have hP := law09_Pick_of hm0 167772160 8 t g _ hT (by unfold hm0; simp) [0, 3, 1] _ 3 9 hrow
  rw [head_pick] at hP
  simp only [Rt.val, List.length_cons, List.length_nil, Nat.zero_add, Nat.reduceAdd] at hP
  have p0 := kP.cell 0
  have p1 := kP.cell 1
  simp only [List.getElem?_toArray, List.getElem?_cons_zero, List.getElem?_cons_succ] at p0 p1
  have p2 := kP.lt
  go_wp2_with fail
  refine hP.mono ?_
  rintro e w4 ⟨rfl, hb4⟩
  replace hT := hT.below hb4
  replace hb := hb.trans (hb4.mono hb.size)
  clear hbA hrow kP p0 p1 p2 hP hb4
  have hbB := (Below.refl w4.heap.size w4).alloc (Nat.le_refl _) (.cells #[.int .i64 2, .int .u32 0, .int .u32 0, .int .u16 5, .int .i64 0] 68)
  replace hT := hT.below hbB
  replace hb := hb.trans (hbB.mono hb.size)
  go_wp2_with fail
  refine (table_Len _ _ _ _ hT).mono ?_
  rintro e w5 ⟨rfl, rfl⟩
  go_wp2
  go_ret
  exact ⟨rfl, hb⟩
end Go.Proofs.Ytnfaeafplaeehaa
