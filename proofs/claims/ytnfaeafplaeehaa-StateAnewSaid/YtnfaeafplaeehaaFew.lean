import Derived.Test.YtnfaeafplaeehaaLaw05
set_option linter.unusedVariables false
set_option linter.unusedSimpArgs false
namespace Go.Proofs.Ytnfaeafplaeehaa
open Go.RowKit

def fewB (l : List Rec) : Bool := l.all recRightB && decide (l.length ≤ 60)
theorem all_take (l : List Rec) (k : Nat) (hk : k < l.length) (h : (l.take k).all recRightB = true) (hr : recRightB l[k] = true) : (l.take (k + 1)).all recRightB = true := by
  rw [List.take_succ_eq_append_getElem hk, List.all_append, h]
  simp [hr]
theorem few_no (l : List Rec) (k : Nat) (hk : k < l.length) (hr : recRightB l[k] = false) : fewB l = false := by
  unfold fewB
  have : l.all recRightB = false := by
    rw [List.all_eq_false]
    exact ⟨l[k], List.getElem_mem hk, by simp [hr]⟩
  rw [this, Bool.false_and]
set_option maxHeartbeats 4000000 in
theorem law06_few (l : List Rec) (A : Option Addr) (c : Nat) (w : World) (hr : Row w 9 A l.length (recs l)) (ho : RecsOk l) :
    Calls Try.prog 13 #[.slice A l.length c] w fun e w' => e = .returned (.bool (fewB l)) ∧ Below w.heap.size w w' := by
  have hn := hr.2.1
  go_enter Try.func13, Try.ntmps13
  go_wp2
  go_loopw [7] (fun i wr => ∃ k : Nat, k ≤ l.length ∧ i = .int .i64 k ∧ Hid ((l.take k).all recRightB = true) ∧ Below w.heap.size w wr) (fun i _ => l.length - (intOf i).toNat)
  case atStart => exact ⟨0, Nat.zero_le _, rfl, rfl, Below.refl _ _⟩
  case round =>
    obtain ⟨k, hk, rfl, hall, hw⟩ := hrel
    by_cases hlt : k < l.length
    · obtain ⟨b, off, rfl, hbl, hcell⟩ := (hr.below hw).2.2 (by omega)
      have e0 := hcell (k * 9 + 0) _ (recs_get l k 0 hlt (by omega))
      have e1 := hcell (k * 9 + 1) _ (recs_get l k 1 hlt (by omega))
      have e2 := hcell (k * 9 + 2) _ (recs_get l k 2 hlt (by omega))
      have e3 := hcell (k * 9 + 3) _ (recs_get l k 3 hlt (by omega))
      have e4 := hcell (k * 9 + 4) _ (recs_get l k 4 hlt (by omega))
      have e5 := hcell (k * 9 + 5) _ (recs_get l k 5 hlt (by omega))
      have e6 := hcell (k * 9 + 6) _ (recs_get l k 6 hlt (by omega))
      have e7 := hcell (k * 9 + 7) _ (recs_get l k 7 hlt (by omega))
      have e8 := hcell (k * 9 + 8) _ (recs_get l k 8 hlt (by omega))
      have hok := ho l[k] (List.getElem_mem hlt)
      have HT := Lib.hid (all_take l k hlt hall.out)
      have HN := Lib.hid (few_no l k hlt)
      generalize l[k] = r at *
      obtain ⟨kind, gen, lsn, rid, a, ln, on, rs, rm⟩ := r
      simp only [Rec.cells, List.getElem?_cons_zero, List.getElem?_cons_succ, ← Nat.add_assoc, Nat.add_zero] at e0 e1 e2 e3 e4 e5 e6 e7 e8
      clear hcell
      go_wp2_with fail
      refine (law05_Right ⟨kind, gen, lsn, rid, a, ln, on, rs, rm⟩ _ hok).mono ?_
      rintro e w2 ⟨rfl, hb2⟩
      have kw : Below w.heap.size w w2 := below_step (hw.alloc hw.size _) (by have := hw.size; simp; omega) hb2
      clear hb2 e0 e1 e2 e3 e4 e5 e6 e7 e8
      cases hR : recRightB ⟨kind, gen, lsn, rid, a, ln, on, rs, rm⟩ with
      | true =>
        replace HT := Lib.hid (HT.out hR)
        go_wp2
        go_roundw
        case rel => exact ⟨k + 1, by omega, by go_num, HT.out, kw⟩
        case measure => simp [intOf]; omega
      | false =>
        replace HN := Lib.hid (HN.out hR)
        go_wp2
        go_ret
        exact ⟨by rw [HN.out]; rfl, kw⟩
    · obtain rfl : k = l.length := by omega
      have h1 := hall.out
      rw [List.take_length] at h1
      have HF := Lib.hid (show fewB l = decide ((l.length : Int) ≤ 60) by unfold fewB; rw [h1, Bool.true_and]; congr 1; simp; omega)
      clear h1 hall
      go_wp2
      go_ret
      exact ⟨by rw [HF.out]; rfl, hw⟩
end Go.Proofs.Ytnfaeafplaeehaa
