import Derived.Test.YtjdapfimjpbnmaaDoorLaw02
set_option linter.unusedVariables false
set_option linter.unusedSimpArgs false
namespace Go.Proofs.YtjdapfimjpbnmaaDoor
open Go.RowKit

theorem law02_Has (a l x : Int) (w : World) (ha : 0 ≤ a ∧ a ≤ 4294967295) (hx : 0 ≤ x ∧ x ≤ 4294967295) : Calls Tryd.prog 11 #[.agg #[.int .u32 a, .int .i64 l], .int .u32 x] w
    fun e w' => e = .returned (.bool (hasB a l x)) ∧ Below w.heap.size w w' := by
  cases hr : rightB a l with
  | false =>
    have HM := Lib.hid (show hasB a l x = false by rw [hasB, hr]; rfl)
    have HR := Lib.hid hr
    clear hr
    go_enter Tryd.func11, Tryd.ntmps11
    go_wp2_with fail
    refine (law02_Right _ _ _ ha).mono ?_
    rintro e w1 ⟨rfl, hb1⟩
    rw [HR.out]
    go_wp2
    go_ret
    exact ⟨by rw [HM.out]; rfl, below_step ((Below.refl _ _).alloc (Nat.le_refl _) _) (by simp) hb1⟩
  | true =>
    have hr' := hr
    simp only [rightB, decide_eq_true_eq] at hr'
    obtain ⟨h0, h1, -⟩ := hr'
    have HR := Lib.hid hr
    clear hr
    go_enter Tryd.func11, Tryd.ntmps11
    go_wp2_with fail
    refine (law02_Right _ _ _ ha).mono ?_
    rintro e w1 ⟨rfl, hb1⟩
    rw [HR.out]
    have hB := (Blk.new w 24 #[.int .u32 a, .int .i64 l]).below' hb1
    have hw1 : Below w.heap.size w w1 := below_step ((Below.refl _ _).alloc (Nat.le_refl _) _) (by simp) hb1
    clear hb1
    go_wp2
    go_loopw [5] (fun i wr => ∃ k : Nat, k ≤ l.toNat ∧ i = .int .i64 k ∧ Hid (sameB a x k) ∧ Blk wr w.heap.size 24 #[.int .u32 a, .int .i64 l] ∧ Below w.heap.size w wr) (fun i _ => l.toNat - (intOf i).toNat)
    case atStart => exact ⟨0, Nat.zero_le _, rfl, same_start a x ha hx, hB, hw1⟩
    case round =>
      obtain ⟨k, hk, rfl, hsame, hBr, hwr⟩ := hrel
      clear hB
      have c0 := hBr.cell 0
      have c1 := hBr.cell 1
      have hS := hBr.lt
      simp at c0 c1
      have hk4 : (0 : Int) ≤ k := by omega
      have hk5 : (k : Int) ≤ l := by omega
      by_cases hlt : (k : Int) < l
      · have hk3 : (k : Int) ≤ 31 := by omega
        go_wp2_with fail
        refine draw_start [] Later (by kernel_rfl) ?_
        refine draw_chunk (n := 23) (by kernel_rfl) (fun _ _ _ _ _ h => h) [0, 1, 3, 4, 5] [] _ #[true, true, false, true, true, true, false, false] (by kernel_rfl) 3 _ ?_ _ rfl ?_ ?_
        rotate_left
        · intro w' hw'
          have hc' : ∀ b o, b < wr.heap.size → w'.cell? ⟨b, o, none⟩ = wr.cell? ⟨b, o, none⟩ := (bcell hw').1
          refine ci_step (i := 0) (v := ?_) rfl (by kernel_rfl) ?_ ?_
          rotate_left
          · first | (go_simp; done) | (go_simp; with_reducible rfl)
          skip
          try simp only [Act.put, List.setIfInBounds_toArray, List.set_cons_zero, List.set_cons_succ]
          refine ci_step (i := 1) (v := ?_) rfl (by kernel_rfl) ?_ ?_
          rotate_left
          · first | (go_simp; done) | (go_simp; with_reducible rfl)
          skip
          try simp only [Act.put, List.setIfInBounds_toArray, List.set_cons_zero, List.set_cons_succ]
          refine ci_step (i := 3) (v := ?_) rfl (by kernel_rfl) ?_ ?_
          rotate_left
          · first | (go_simp; done) | (go_simp; with_reducible rfl)
          skip
          try simp only [Act.put, List.setIfInBounds_toArray, List.set_cons_zero, List.set_cons_succ]
          refine ci_step (i := 4) (v := ?_) rfl (by kernel_rfl) ?_ ?_
          rotate_left
          · first | (go_simp; done) | (go_simp; with_reducible rfl)
          skip
          try simp only [Act.put, List.setIfInBounds_toArray, List.set_cons_zero, List.set_cons_succ]
          refine ci_step (i := 5) (v := ?_) rfl (by kernel_rfl) ?_ ?_
          rotate_left
          · first | (go_simp; done) | (go_simp; with_reducible rfl)
          skip
          try simp only [Act.put, List.setIfInBounds_toArray, List.set_cons_zero, List.set_cons_succ]
          refine ci_end ?_
          rfl
        refine draw_eff (i := 2) rfl (by kernel_rfl) (listed' := #[true, true, true, true, true, true, false, false]) rfl (fun K hK => ?_)
        replace hK := Lib.hid hK
        go_wp2_with fail
        refine (law02_bit _ _ _ hk4 hk3 hx).mono ?_
        rintro e w' ⟨rfl, rfl⟩
        rw [Int.toNat_natCast]
        go_wp2_with fail
        refine hK.out _ _ ⟨fun _ => Later.refl _, ?_⟩
        clear hK
        refine draw_eff (i := 6) rfl (by kernel_rfl) (listed' := #[true, true, true, true, true, true, true, false]) rfl (fun K hK => ?_)
        replace hK := Lib.hid hK
        go_wp2_with fail
        refine (law02_bit _ _ _ hk4 hk3 ha).mono ?_
        rintro e w' ⟨rfl, rfl⟩
        rw [Int.toNat_natCast]
        go_wp2_with fail
        refine hK.out _ _ ⟨fun _ => Later.refl _, ?_⟩
        clear hK
        refine draw_chunk (n := 23) (by kernel_rfl) (fun _ _ _ _ _ h => h) [7] [] _ #[true, true, true, true, true, true, true, true] (by kernel_rfl) 0 _ ?_ _ rfl ?_ ?_
        rotate_left
        · intro w' hw'
          have hc' : ∀ b o, b < wr.heap.size → w'.cell? ⟨b, o, none⟩ = wr.cell? ⟨b, o, none⟩ := (bcell hw').1
          refine ci_step (i := 7) (v := ?_) rfl (by kernel_rfl) ?_ ?_
          rotate_left
          · first | (go_simp; done) | (go_simp; with_reducible rfl)
          skip
          try simp only [Act.put, List.setIfInBounds_toArray, List.set_cons_zero, List.set_cons_succ]
          refine ci_end ?_
          rfl
        refine draw_done (by kernel_rfl) ?_ _
        by_cases hb : bitB x k = bitB a k
        · have HR2 := Lib.hid (same_step a x k (by omega) hsame.out hb)
          have hb' : (!(bitB x k == bitB a k)) = false := by simpa using hb
          clear hb
          simp only [hb']
          go_wp2
          go_roundw
          case rel => exact ⟨k + 1, by omega, by go_num, HR2.out, hBr.drew, hwr.drew⟩
          case measure => simp [intOf]; omega
        · have HR2 := Lib.hid (has_no a l x ha hx h0 h1 HR.out k (by omega) hb)
          have hb' : (!(bitB x k == bitB a k)) = true := by simpa using hb
          clear hb
          simp only [hb']
          go_wp2
          go_ret
          exact ⟨by rw [HR2.out]; rfl, hwr.drew⟩
      · have hkl : k = l.toNat := by omega
        have HR2 := Lib.hid (has_end a l x ha hx h0 h1 HR.out (hkl ▸ hsame.out))
        clear hkl
        go_wp2
        go_ret
        exact ⟨by rw [HR2.out]; rfl, hwr⟩
end Go.Proofs.YtjdapfimjpbnmaaDoor
