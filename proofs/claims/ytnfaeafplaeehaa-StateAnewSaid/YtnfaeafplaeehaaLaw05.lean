import Derived.Test.YtnfaeafplaeehaaRecType
import Derived.Test.YtnfaeafplaeehaaRegion
import Derived.Test.YtnfaeafplaeehaaLaw02
set_option linter.unusedVariables false
set_option linter.unusedSimpArgs false
namespace Go.Proofs.Ytnfaeafplaeehaa
open Go.RowKit

/-- Can a record be written? -/
def recRightB (r : Rec) : Bool := rightB r.a r.l && !decide (r.s > 1073741824) && !(r.m == 65535) &&
  (if r.kind = 1 then decide (r.id > 0) && (r.a == 0 && r.l == 0) && !r.on && (r.s == 0 && r.m == 0) else if r.kind = 2 then (r.id == 0) && (r.s == 0 && r.m == 0) else if r.kind = 3 then (r.id == 0) && (r.a == 0 && r.l == 0) && !r.on && (r.m == 0) else if r.kind = 4 then decide (r.id > 0) && !r.on else false)

set_option maxHeartbeats 4000000 in
theorem law05_Right (r : Rec) (w : World) (ho : r.ok) : Calls Try.prog 53 #[r.val] w fun e w' => e = .returned (.bool (recRightB r)) ∧ Below w.heap.size w w' := by
  obtain ⟨kind, gen, lsn, rid, a, l, on, rs, rm⟩ := r
  have kR := Blk.new w 39 (Rec.arr ⟨kind, gen, lsn, rid, a, l, on, rs, rm⟩)
  have hb0 : Below w.heap.size w (w.alloc (.cells (Rec.arr ⟨kind, gen, lsn, rid, a, l, on, rs, rm⟩) 39)) := (Below.refl _ _).alloc (Nat.le_refl _) _
  simp only [Rec.arr, Rec.val] at kR hb0 ⊢
  cases hr : rightB a l with
  | false =>
    have HF := Lib.hid (show recRightB ⟨kind, gen, lsn, rid, a, l, on, rs, rm⟩ = false by simp [recRightB, hr])
    go_enter Try.func53, Try.ntmps53
    go_wp2_with fail
    refine (law02_Right _ _ _ ho.2.2.2.2.1).mono ?_
    rintro e w1 ⟨rfl, hb1⟩
    rw [hr]
    have hb := below_step hb0 hb0.size hb1
    replace kR := kR.below' hb1
    clear hb1
    have r0 := kR.cell 0
    have r3 := kR.cell 3
    have r4 := kR.cell 4
    have r5 := kR.cell 5
    have r6 := kR.cell 6
    have r7 := kR.cell 7
    have r8 := kR.cell 8
    simp only [List.getElem?_toArray, List.getElem?_cons_zero, List.getElem?_cons_succ] at r0 r3 r4 r5 r6 r7 r8
    go_wp2
    go_ret
    exact ⟨by rw [HF.out]; rfl, hb⟩
  | true =>
    go_enter Try.func53, Try.ntmps53
    go_wp2_with fail
    refine (law02_Right _ _ _ ho.2.2.2.2.1).mono ?_
    rintro e w1 ⟨rfl, hb1⟩
    rw [hr]
    have hb := below_step hb0 hb0.size hb1
    replace kR := kR.below' hb1
    clear hb1
    have r0 := kR.cell 0
    have r3 := kR.cell 3
    have r4 := kR.cell 4
    have r5 := kR.cell 5
    have r6 := kR.cell 6
    have r7 := kR.cell 7
    have r8 := kR.cell 8
    simp only [List.getElem?_toArray, List.getElem?_cons_zero, List.getElem?_cons_succ] at r0 r3 r4 r5 r6 r7 r8
    go_wp2
    all_goals
      go_ret
      refine ⟨?_, hb⟩
      clear hb hb0 ho r0 r3 r4 r5 r6 r7 r8 kR
      try simp_all [recRightB]
    · intro h
      exfalso
      omega
    all_goals
      intros
      exfalso
      omega
end Go.Proofs.Ytnfaeafplaeehaa
