import Derived.Test.YtjdapfimjpbnmaaDoorAddr
set_option linter.unusedVariables false
set_option linter.unusedSimpArgs false
namespace Go.Proofs.YtjdapfimjpbnmaaDoor
open Go.RowKit

theorem addr_Has (a l x : Int) (w : World) (ha : 0 ≤ a ∧ a ≤ 4294967295) (hx : 0 ≤ x ∧ x ≤ 4294967295) : Calls Tryd.prog 10 #[.agg #[.int .u32 a, .int .i64 l], .int .u32 x] w
    fun e w' => e = .returned (.bool (hasB a l x)) ∧ Below w.heap.size w w' := by
  obtain ⟨a0, a1⟩ := ha
  cases hr : rightB a l with
  | true =>
    have hr' := hr
    simp only [rightB, decide_eq_true_eq] at hr'
    obtain ⟨h0, h1, -⟩ := hr'
    have HM := Lib.hid (show hasB a l x = (Go.bits .and .u32 x (maskI l) == a) by rw [hasB, hr, and_mask x l hx h0 h1, inB, Bool.true_and, Bool.eq_iff_iff]; simp)
    have HR := Lib.hid hr
    clear hr
    go_enter Tryd.func10, Tryd.ntmps10
    go_wp2_with fail
    have hA0 : (w.alloc (.cells #[.int .u32 a, .int .i64 l] 24)).cell? ⟨w.heap.size, 0, none⟩ = some (.int .u32 a) := by go_simp
    have hA1 : (w.alloc (.cells #[.int .u32 a, .int .i64 l] 24)).cell? ⟨w.heap.size, 1, none⟩ = some (.int .i64 l) := by go_simp
    have hS : w.heap.size < (w.alloc (.cells #[.int .u32 a, .int .i64 l] 24)).heap.size := by simp
    have hb : Below w.heap.size w (w.alloc (.cells #[.int .u32 a, .int .i64 l] 24)) := (Below.refl _ _).alloc (Nat.le_refl _) _
    generalize (w.alloc (.cells #[.int .u32 a, .int .i64 l] 24)) = W at *
    generalize hg : w.heap.size = g at *
    replace hg := Lib.hid hg
    go_region_held3 (fun w' => w'.cell? ⟨g, 0, none⟩ = some (.int .u32 a) ∧ w'.cell? ⟨g, 1, none⟩ = some (.int .i64 l))
      (first
        | go_keep
        | (go_split_ands
           refine ⟨?_, ?_⟩
           all_goals (rw [hc1 _ _ (by show _ < W.heap.size; omega)]; assumption)))
      ((first
        | (go_at_call 8; refine (addr_Right _ _ _ ?_).mono ?_; exact ⟨a0, a1⟩; rintro e w1 ⟨rfl, hb1⟩; rw [HR.out]; have hc1 := (bcell hb1).1)
        | (go_at_call 17; refine (addr_mask _ _ ?_ ?_).mono ?_; exact h0; exact h1; rintro e w2 ⟨rfl, rfl⟩)))
    go_wp2
    go_ret
    exact ⟨by rw [HM.out]; rfl, below_step (B := w.heap.size) (by rw [hg.out]; exact hb.drew) (by rw [hg.out]; show _ ≤ W.heap.size; omega) hb1⟩
  | false =>
    have HM := Lib.hid (show hasB a l x = false by rw [hasB, hr]; rfl)
    have HR := Lib.hid hr
    clear hr
    go_enter Tryd.func10, Tryd.ntmps10
    go_wp2_with fail
    have hA0 : (w.alloc (.cells #[.int .u32 a, .int .i64 l] 24)).cell? ⟨w.heap.size, 0, none⟩ = some (.int .u32 a) := by go_simp
    have hA1 : (w.alloc (.cells #[.int .u32 a, .int .i64 l] 24)).cell? ⟨w.heap.size, 1, none⟩ = some (.int .i64 l) := by go_simp
    have hS : w.heap.size < (w.alloc (.cells #[.int .u32 a, .int .i64 l] 24)).heap.size := by simp
    have hb : Below w.heap.size w (w.alloc (.cells #[.int .u32 a, .int .i64 l] 24)) := (Below.refl _ _).alloc (Nat.le_refl _) _
    generalize (w.alloc (.cells #[.int .u32 a, .int .i64 l] 24)) = W at *
    generalize hg : w.heap.size = g at *
    replace hg := Lib.hid hg
    refine draw_start [] Later (by kernel_rfl) ?_
    refine draw_chunk (n := 17) (by kernel_rfl) (fun _ _ _ _ _ h => h) [0] [] _ #[true, false, false, false, false, false, false, false, false, false, false, false, false] (by kernel_rfl) 12 _ ?_ _ rfl ?_ ?_
    rotate_left
    · intro w' hw'
      have hc' : ∀ b o, b < W.heap.size → w'.cell? ⟨b, o, none⟩ = W.cell? ⟨b, o, none⟩ := (bcell hw').1
      refine ci_step (i := 0) (v := ?_) rfl (by kernel_rfl) ?_ ?_
      rotate_left
      · first | (go_simp; done) | (go_simp; with_reducible rfl)
      skip
      try simp only [Act.put, List.setIfInBounds_toArray, List.set_cons_zero, List.set_cons_succ]
      refine ci_end ?_
      rfl
    refine draw_eff (i := 1) rfl (by kernel_rfl) (listed' := #[true, true, false, false, false, false, false, false, false, false, false, false, false]) rfl (fun K hK => ?_)
    replace hK := Lib.hid hK
    go_wp2_with fail
    refine (addr_Right _ _ _ ⟨a0, a1⟩).mono ?_
    rintro e w1 ⟨rfl, hb1⟩
    rw [HR.out]
    go_wp2_with fail
    refine hK.out _ _ ⟨fun _ => hb1, ?_⟩
    clear hK
    refine draw_chunk (n := 17) (by kernel_rfl) (fun _ _ _ _ _ h => h) [2, 3, 4, 5, 6, 7, 8, 9, 10, 11, 12] [] _ #[true, true, true, true, true, true, true, true, true, true, true, true, true] (by kernel_rfl) 0 _ ?_ _ rfl ?_ ?_
    rotate_left
    · intro w' hw'
      have hc' : ∀ b o, b < w1.heap.size → w'.cell? ⟨b, o, none⟩ = w1.cell? ⟨b, o, none⟩ := (bcell hw').1
      refine ci_step (i := 2) (v := ?_) rfl (by kernel_rfl) ?_ ?_
      rotate_left
      · first | (go_simp; done) | (go_simp; with_reducible rfl)
      skip
      try simp only [Act.put, List.setIfInBounds_toArray, List.set_cons_zero, List.set_cons_succ]
      refine ci_off (i := 3) rfl (by kernel_rfl) ?_
      try simp only [Act.put, List.setIfInBounds_toArray, List.set_cons_zero, List.set_cons_succ]
      refine ci_off (i := 4) rfl (by kernel_rfl) ?_
      try simp only [Act.put, List.setIfInBounds_toArray, List.set_cons_zero, List.set_cons_succ]
      refine ci_off (i := 5) rfl (by kernel_rfl) ?_
      try simp only [Act.put, List.setIfInBounds_toArray, List.set_cons_zero, List.set_cons_succ]
      refine ci_off (i := 6) rfl (by kernel_rfl) ?_
      try simp only [Act.put, List.setIfInBounds_toArray, List.set_cons_zero, List.set_cons_succ]
      refine ci_off (i := 7) rfl (by kernel_rfl) ?_
      try simp only [Act.put, List.setIfInBounds_toArray, List.set_cons_zero, List.set_cons_succ]
      refine ci_off (i := 8) rfl (by kernel_rfl) ?_
      try simp only [Act.put, List.setIfInBounds_toArray, List.set_cons_zero, List.set_cons_succ]
      refine ci_off (i := 9) rfl (by kernel_rfl) ?_
      try simp only [Act.put, List.setIfInBounds_toArray, List.set_cons_zero, List.set_cons_succ]
      refine ci_off (i := 10) rfl (by kernel_rfl) ?_
      try simp only [Act.put, List.setIfInBounds_toArray, List.set_cons_zero, List.set_cons_succ]
      refine ci_step (i := 11) (v := ?_) rfl (by kernel_rfl) ?_ ?_
      rotate_left
      · first | (go_simp; done) | (go_simp; with_reducible rfl)
      skip
      try simp only [Act.put, List.setIfInBounds_toArray, List.set_cons_zero, List.set_cons_succ]
      refine ci_step (i := 12) (v := ?_) rfl (by kernel_rfl) ?_ ?_
      rotate_left
      · first | (go_simp; done) | (go_simp; with_reducible rfl)
      skip
      try simp only [Act.put, List.setIfInBounds_toArray, List.set_cons_zero, List.set_cons_succ]
      refine ci_end ?_
      rfl
    refine draw_done (by kernel_rfl) ?_ _
    go_wp2
    go_ret
    exact ⟨by rw [HM.out]; rfl, below_step (B := w.heap.size) (by rw [hg.out]; exact hb.drew) (by rw [hg.out]; show _ ≤ W.heap.size; omega) hb1⟩
end Go.Proofs.YtjdapfimjpbnmaaDoor
