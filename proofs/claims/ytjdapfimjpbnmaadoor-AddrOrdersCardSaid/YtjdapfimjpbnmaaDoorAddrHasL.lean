import Derived.Test.YtjdapfimjpbnmaaDoorAddrHead
import Derived.Test.YtjdapfimjpbnmaaDoorLaw02Has
set_option linter.unusedVariables false
set_option linter.unusedSimpArgs false
namespace Go.Proofs.YtjdapfimjpbnmaaDoor
open Go.RowKit
theorem AddrHas_all (a l x : Int) (w : World) (ht : Tabs w) (ha : 0 ≤ a ∧ a ≤ 4294967295) (hx : 0 ≤ x ∧ x ≤ 4294967295) :
    Calls Tryd.prog 3 #[.agg #[.int .u32 a, .int .i64 l], .int .u32 x] w fun e w' => e = .returned (.bool true) ∧ Below w.heap.size w w' := by
  have kP := Blk.new w 24 #[.int .u32 a, .int .i64 l]
  have hb0 := (Below.refl w.heap.size w).alloc (Nat.le_refl _) (.cells #[.int .u32 a, .int .i64 l] 24)
  go_enter Tryd.func3, Tryd.ntmps3
  go_wp2_with fail
  refine (law02_head _ (ht.below hb0)).mono ?_
  rintro e w2 ⟨rfl, hb2⟩
  replace kP := kP.below' hb2
  replace hb0 := Go.Proofs.YtjdapfimjpbnmaaDoor.below_step hb0 hb0.size hb2
  clear hb2
  generalize w.heap.size = g at kP ⊢
  have hlt := kP.lt
  have p0 := kP.cell 0
  have p1 := kP.cell 1
  simp only [List.getElem?_toArray, List.getElem?_cons_zero, List.getElem?_cons_succ] at p0 p1
  go_wp2_with fail
  refine draw_start [] Later (by kernel_rfl) ?_
  refine draw_chunk (n := 21) (by kernel_rfl) (fun _ _ _ _ _ h => h) [0, 2] [] _ #[true, false, true, false, false, false, false, false, false, false, false, false, false, false, false] (by kernel_rfl) 13 _ ?_ _ rfl ?_ ?_
  rotate_left
  · intro w' hw'
    have hc' : ∀ b o, b < w2.heap.size → w'.cell? ⟨b, o, none⟩ = w2.cell? ⟨b, o, none⟩ := (bcell hw').1
    have y0 := (hc' g 0 hlt).trans p0; have y1 := (hc' g 1 hlt).trans p1
    refine ci_step (i := 0) (v := ?_) rfl (by kernel_rfl) ?_ ?_
    rotate_left
    · first | (go_simp; done) | (go_simp; with_reducible rfl)
    skip
    try simp only [Act.put, List.setIfInBounds_toArray, List.set_cons_zero, List.set_cons_succ]
    refine ci_step (i := 2) (v := ?_) rfl (by kernel_rfl) ?_ ?_
    rotate_left
    · first | (go_simp; done) | (go_simp; with_reducible rfl)
    skip
    try simp only [Act.put, List.setIfInBounds_toArray, List.set_cons_zero, List.set_cons_succ]
    refine ci_end ?_
    rfl
  refine draw_eff (i := 1) rfl (by kernel_rfl) (listed' := #[true, true, true, false, false, false, false, false, false, false, false, false, false, false, false]) rfl (fun K hK => ?_)
  replace hK := Lib.hid hK
  go_wp2_with fail
  refine (addr_Right a l _ ha).mono ?_
  rintro e w3 ⟨rfl, hb3⟩
  go_wp2_with fail
  refine hK.out _ _ ⟨fun _ => hb3, ?_⟩
  clear hK p0 p1 hlt
  replace kP := kP.drew.below' hb3
  replace hb0 := Go.Proofs.YtjdapfimjpbnmaaDoor.below_step (Below.drew hb0) hb0.size hb3
  clear hb3
  have hlt := kP.lt
  have p0 := kP.cell 0
  have p1 := kP.cell 1
  simp only [List.getElem?_toArray, List.getElem?_cons_zero, List.getElem?_cons_succ] at p0 p1
  refine draw_eff (i := 3) rfl (by kernel_rfl) (listed' := #[true, true, true, true, false, false, false, false, false, false, false, false, false, false, false]) rfl (fun K hK => ?_)
  replace hK := Lib.hid hK
  go_wp2_with fail
  refine (law02_Right a l _ ha).mono ?_
  rintro e w4 ⟨rfl, hb3⟩
  go_wp2_with fail
  refine hK.out _ _ ⟨fun _ => hb3, ?_⟩
  clear hK p0 p1 hlt
  replace kP := kP.below' hb3
  replace hb0 := Go.Proofs.YtjdapfimjpbnmaaDoor.below_step hb0 hb0.size hb3
  clear hb3
  have hlt := kP.lt
  have p0 := kP.cell 0
  have p1 := kP.cell 1
  simp only [List.getElem?_toArray, List.getElem?_cons_zero, List.getElem?_cons_succ] at p0 p1
  refine draw_chunk (n := 21) (by kernel_rfl) (fun _ _ _ _ _ h => h) [4, 5, 6, 7, 9, 10] [] _ #[true, true, true, true, true, true, true, true, false, true, true, false, false, false, false] (by kernel_rfl) 5 _ ?_ _ rfl ?_ ?_
  rotate_left
  · intro w' hw'
    have hc' : ∀ b o, b < w4.heap.size → w'.cell? ⟨b, o, none⟩ = w4.cell? ⟨b, o, none⟩ := (bcell hw').1
    have y0 := (hc' g 0 hlt).trans p0; have y1 := (hc' g 1 hlt).trans p1
    refine ci_step (i := 4) (v := ?_) rfl (by kernel_rfl) ?_ ?_
    rotate_left
    · first | (go_simp; done) | (go_simp; with_reducible rfl)
    skip
    try simp only [Act.put, List.setIfInBounds_toArray, List.set_cons_zero, List.set_cons_succ]
    refine ci_step (i := 5) (v := ?_) rfl (by kernel_rfl) ?_ ?_
    rotate_left
    · first | (go_simp; done) | (go_simp; with_reducible rfl)
    skip
    try simp only [Act.put, List.setIfInBounds_toArray, List.set_cons_zero, List.set_cons_succ]
    refine ci_step (i := 6) (v := ?_) rfl (by kernel_rfl) ?_ ?_
    rotate_left
    · first | (go_simp; done) | (go_simp; with_reducible rfl)
    skip
    try simp only [Act.put, List.setIfInBounds_toArray, List.set_cons_zero, List.set_cons_succ]
    refine ci_step (i := 7) (v := ?_) rfl (by kernel_rfl) ?_ ?_
    rotate_left
    · first | (go_simp; done) | (go_simp; with_reducible rfl)
    skip
    try simp only [Act.put, List.setIfInBounds_toArray, List.set_cons_zero, List.set_cons_succ]
    refine ci_step (i := 9) (v := ?_) rfl (by kernel_rfl) ?_ ?_
    rotate_left
    · first | (go_simp; done) | (go_simp; with_reducible rfl)
    skip
    try simp only [Act.put, List.setIfInBounds_toArray, List.set_cons_zero, List.set_cons_succ]
    refine ci_step (i := 10) (v := ?_) rfl (by kernel_rfl) ?_ ?_
    rotate_left
    · first | (go_simp; done) | (go_simp; with_reducible rfl)
    skip
    try simp only [Act.put, List.setIfInBounds_toArray, List.set_cons_zero, List.set_cons_succ]
    refine ci_end ?_
    rfl
  refine draw_eff (i := 8) rfl (by kernel_rfl) (listed' := #[true, true, true, true, true, true, true, true, true, true, true, false, false, false, false]) rfl (fun K hK => ?_)
  replace hK := Lib.hid hK
  go_wp2_with fail
  refine (addr_Has a l x _ ha hx).mono ?_
  rintro e w5 ⟨rfl, hb3⟩
  go_wp2_with fail
  refine hK.out _ _ ⟨fun _ => hb3, ?_⟩
  clear hK p0 p1 hlt
  replace kP := kP.below' hb3
  replace hb0 := Go.Proofs.YtjdapfimjpbnmaaDoor.below_step hb0 hb0.size hb3
  clear hb3
  have hlt := kP.lt
  have p0 := kP.cell 0
  have p1 := kP.cell 1
  simp only [List.getElem?_toArray, List.getElem?_cons_zero, List.getElem?_cons_succ] at p0 p1
  refine draw_eff (i := 11) rfl (by kernel_rfl) (listed' := #[true, true, true, true, true, true, true, true, true, true, true, true, false, false, false]) rfl (fun K hK => ?_)
  replace hK := Lib.hid hK
  go_wp2_with fail
  refine (law02_Has a l x _ ha hx).mono ?_
  rintro e w6 ⟨rfl, hb3⟩
  go_wp2_with fail
  refine hK.out _ _ ⟨fun _ => hb3, ?_⟩
  clear hK p0 p1 hlt
  replace kP := kP.below' hb3
  replace hb0 := Go.Proofs.YtjdapfimjpbnmaaDoor.below_step hb0 hb0.size hb3
  clear hb3
  have hlt := kP.lt
  have p0 := kP.cell 0
  have p1 := kP.cell 1
  simp only [List.getElem?_toArray, List.getElem?_cons_zero, List.getElem?_cons_succ] at p0 p1
  refine draw_chunk (n := 21) (by kernel_rfl) (fun _ _ _ _ _ h => h) [12, 13, 14] [] _ #[true, true, true, true, true, true, true, true, true, true, true, true, true, true, true] (by kernel_rfl) 0 _ ?_ _ rfl ?_ ?_
  rotate_left
  · intro w' hw'
    have hc' : ∀ b o, b < w6.heap.size → w'.cell? ⟨b, o, none⟩ = w6.cell? ⟨b, o, none⟩ := (bcell hw').1
    refine ci_step (i := 12) (v := ?_) rfl (by kernel_rfl) ?_ ?_
    rotate_left
    · first | (go_simp; done) | (go_simp; with_reducible rfl)
    skip
    try simp only [Act.put, List.setIfInBounds_toArray, List.set_cons_zero, List.set_cons_succ]
    refine ci_step (i := 13) (v := ?_) rfl (by kernel_rfl) ?_ ?_
    rotate_left
    · first | (go_simp; done) | (go_simp; with_reducible rfl)
    skip
    try simp only [Act.put, List.setIfInBounds_toArray, List.set_cons_zero, List.set_cons_succ]
    refine ci_step (i := 14) (v := ?_) rfl (by kernel_rfl) ?_ ?_
    rotate_left
    · first | (go_simp; done) | (go_simp; with_reducible rfl)
    skip
    try simp only [Act.put, List.setIfInBounds_toArray, List.set_cons_zero, List.set_cons_succ]
    refine ci_end ?_
    rfl
  refine draw_done (by kernel_rfl) ?_ _
  go_wp2
  go_ret
  exact ⟨by simp, hb0⟩
end Go.Proofs.YtjdapfimjpbnmaaDoor
