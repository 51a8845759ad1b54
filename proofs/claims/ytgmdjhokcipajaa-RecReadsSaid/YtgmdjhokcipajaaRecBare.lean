import Derived.Test.YtgmdjhokcipajaaRecType
import Derived.Test.YtgmdjhokcipajaaRegion
set_option linter.unusedVariables false
set_option linter.unusedSimpArgs false
namespace Go.Proofs.Ytgmdjhokcipajaa
open Go.RowKit

def Rec.bare (r : Rec) : Rec :=
  if r.kind = 1 then ⟨1, r.gen, r.lsn, r.id, 0, 0, false, 0, 0⟩ else if r.kind = 2 then ⟨2, r.gen, r.lsn, 0, r.a, r.l, r.on, 0, 0⟩ else if r.kind = 3 then ⟨3, r.gen, r.lsn, 0, 0, 0, false, r.s, 0⟩
  else if r.kind = 4 then ⟨4, r.gen, r.lsn, r.id, r.a, r.l, false, r.s, r.m⟩ else ⟨r.kind, r.gen, r.lsn, 0, 0, 0, false, 0, 0⟩
set_option maxHeartbeats 4000000 in
theorem rec_bare (r : Rec) (w : World) : Calls Try.prog 49 #[r.val] w fun e w' => e = .returned r.bare.val ∧ Below w.heap.size w w' := by
  obtain ⟨kind, gen, lsn, rid, a, l, on, rs, rm⟩ := r
  simp only [Rec.val]
  by_cases k1 : kind = 1
  · subst k1
    have HF := Lib.hid (show (Rec.mk 1 gen lsn rid a l on rs rm).bare.arr = Rec.arr ⟨1, gen, lsn, rid, 0, 0, false, 0, 0⟩ from rfl)
    simp only [Rec.arr]
    go_enter Try.func49, Try.ntmps49
    go_wp2
    refine bodyPost_ret (v := .agg (Rec.arr ⟨1, gen, lsn, rid, 0, 0, false, 0, 0⟩)) (by simp [results, Try.results49, go_sem, Rec.arr]) rfl ⟨congrArg (fun x => Ending.returned (Value.agg x)) HF.out.symm, ?_⟩
    first | exact (((Below.refl _ _).alloc (Nat.le_refl _) _).alloc (by simp) _).alloc (by simp; omega) _ | exact Below.drew ((((Below.refl _ _).alloc (Nat.le_refl _) _).alloc (by simp) _).alloc (by simp; omega) _)
  by_cases k2 : kind = 2
  · subst k2
    have HF := Lib.hid (show (Rec.mk 2 gen lsn rid a l on rs rm).bare.arr = Rec.arr ⟨2, gen, lsn, 0, a, l, on, 0, 0⟩ from rfl)
    simp only [Rec.arr]
    go_enter Try.func49, Try.ntmps49
    go_wp2_with fail
    refine draw_start [] (Below (w.heap.size + 1)) (by kernel_rfl) ?_
    refine draw_chunk (n := 45) (by kernel_rfl) (fun _ _ _ _ _ h => h) [0, 1, 2, 3, 4] [] _ #[true, true, true, true, true, false, false, false] (by kernel_rfl) 3 _ ?_ _ rfl ?_ ?_
    rotate_left
    · intro w' hw'
      have hc' : ∀ b o, b < (w.heap.size + 1) → w'.cell? ⟨b, o, none⟩ = ((((w.alloc (.cells #[.int .i64 2, .int .u32 gen, .int .u32 lsn, .int .u32 rid, .int .u32 a, .int .i64 l, .bool on, .int .u32 rs, .int .u16 rm] 50)).alloc (.cells #[.int .i64 0, .int .u32 0, .int .u32 0, .int .u32 0, .int .u32 0, .int .i64 0, .bool false, .int .u32 0, .int .u16 0] 50)).alloc (.cells #[.int .i64 2, .int .u32 gen, .int .u32 lsn, .int .u32 0, .int .u32 0, .int .i64 0, .bool false, .int .u32 0, .int .u16 0] 50)).drew).cell? ⟨b, o, none⟩ := fun b o h => hw'.cell (p := ⟨b, o, none⟩) h
      refine ci_step (i := 0) (v := ?_) rfl (by kernel_rfl) ?_ ?_
      rotate_left
      · first | (go_simp; done) | (go_simp; with_reducible rfl)
      skip
      try simp only [Act.put, List.setIfInBounds_toArray, List.set_cons_zero, List.set_cons_succ]
      refine ci_step (i := 1) (v := ?_) rfl (by kernel_rfl) ?_ ?_
      rotate_left
      · first | (go_simp; done) | (go_simp; with_reducible rfl)
      skip
      try simp only [Act.put, List.setIfInBounds_toArray, List.set_cons_zero, List.set_cons_succ]
      refine ci_step (i := 2) (v := ?_) rfl (by kernel_rfl) ?_ ?_
      rotate_left
      · first | (go_simp; done) | (go_simp; with_reducible rfl)
      skip
      try simp only [Act.put, List.setIfInBounds_toArray, List.set_cons_zero, List.set_cons_succ]
      refine ci_step (i := 3) (v := ?_) rfl (by kernel_rfl) ?_ ?_
      rotate_left
      · first | (go_simp; done) | (go_simp; with_reducible rfl)
      skip
      try simp only [Act.put, List.setIfInBounds_toArray, List.set_cons_zero, List.set_cons_succ]
      refine ci_step (i := 4) (v := ?_) rfl (by kernel_rfl) ?_ ?_
      rotate_left
      · first | (go_simp; done) | (go_simp; with_reducible rfl)
      skip
      try simp only [Act.put, List.setIfInBounds_toArray, List.set_cons_zero, List.set_cons_succ]
      refine ci_end ?_
      rfl
    refine draw_eff (i := 5) rfl (by kernel_rfl) (listed' := #[true, true, true, true, true, true, false, false]) rfl (fun K hK => ?_)
    replace hK := Lib.hid hK
    go_wp2_with fail
    refine hK.out _ _ ⟨fun _ => below_dd (below_two (W := w.alloc (.cells #[.int .i64 2, .int .u32 gen, .int .u32 lsn, .int .u32 rid, .int .u32 a, .int .i64 l, .bool on, .int .u32 rs, .int .u16 rm] 50)) (((Below.refl _ _).alloc (by simp) _).alloc (by simp) _) (((Below.refl _ _).alloc (by simp) _).alloc (by simp) _) (by simp)), ?_⟩
    clear hK
    refine draw_chunk (n := 45) (by kernel_rfl) (fun _ _ _ _ _ h => h) [6] [] _ #[true, true, true, true, true, true, true, false] (by kernel_rfl) 1 _ ?_ _ rfl ?_ ?_
    rotate_left
    · intro w' hw'
      have hc' : ∀ b o, b < (w.heap.size + 1) → w'.cell? ⟨b, o, none⟩ = ((((w.alloc (.cells #[.int .i64 2, .int .u32 gen, .int .u32 lsn, .int .u32 rid, .int .u32 a, .int .i64 l, .bool on, .int .u32 rs, .int .u16 rm] 50)).alloc (.cells #[.int .i64 0, .int .u32 0, .int .u32 0, .int .u32 0, .int .u32 0, .int .i64 0, .bool false, .int .u32 0, .int .u16 0] 50)).alloc (.cells #[.int .i64 2, .int .u32 gen, .int .u32 lsn, .int .u32 0, .int .u32 a, .int .i64 l, .bool false, .int .u32 0, .int .u16 0] 50)).drew).cell? ⟨b, o, none⟩ := fun b o h => hw'.cell (p := ⟨b, o, none⟩) h
      refine ci_step (i := 6) (v := ?_) rfl (by kernel_rfl) ?_ ?_
      rotate_left
      · first | (go_simp; done) | (go_simp; with_reducible rfl)
      skip
      try simp only [Act.put, List.setIfInBounds_toArray, List.set_cons_zero, List.set_cons_succ]
      refine ci_end ?_
      rfl
    refine draw_eff (i := 7) rfl (by kernel_rfl) (listed' := #[true, true, true, true, true, true, true, true]) rfl (fun K hK => ?_)
    replace hK := Lib.hid hK
    go_wp2_with fail
    refine hK.out _ _ ⟨fun _ => below_dd (below_two (W := w.alloc (.cells #[.int .i64 2, .int .u32 gen, .int .u32 lsn, .int .u32 rid, .int .u32 a, .int .i64 l, .bool on, .int .u32 rs, .int .u16 rm] 50)) (((Below.refl _ _).alloc (by simp) _).alloc (by simp) _) (((Below.refl _ _).alloc (by simp) _).alloc (by simp) _) (by simp)), ?_⟩
    clear hK
    refine draw_done (by kernel_rfl) ?_ _
    go_wp2
    refine bodyPost_ret (v := .agg (Rec.arr ⟨2, gen, lsn, 0, a, l, on, 0, 0⟩)) (by simp [results, Try.results49, go_sem, Rec.arr]) rfl ⟨congrArg (fun x => Ending.returned (Value.agg x)) HF.out.symm, ?_⟩
    first | exact (((Below.refl _ _).alloc (Nat.le_refl _) _).alloc (by simp) _).alloc (by simp; omega) _ | exact Below.drew ((((Below.refl _ _).alloc (Nat.le_refl _) _).alloc (by simp) _).alloc (by simp; omega) _)
  by_cases k3 : kind = 3
  · subst k3
    have HF := Lib.hid (show (Rec.mk 3 gen lsn rid a l on rs rm).bare.arr = Rec.arr ⟨3, gen, lsn, 0, 0, 0, false, rs, 0⟩ from rfl)
    simp only [Rec.arr]
    go_enter Try.func49, Try.ntmps49
    go_wp2
    refine bodyPost_ret (v := .agg (Rec.arr ⟨3, gen, lsn, 0, 0, 0, false, rs, 0⟩)) (by simp [results, Try.results49, go_sem, Rec.arr]) rfl ⟨congrArg (fun x => Ending.returned (Value.agg x)) HF.out.symm, ?_⟩
    first | exact (((Below.refl _ _).alloc (Nat.le_refl _) _).alloc (by simp) _).alloc (by simp; omega) _ | exact Below.drew ((((Below.refl _ _).alloc (Nat.le_refl _) _).alloc (by simp) _).alloc (by simp; omega) _)
  by_cases k4 : kind = 4
  · subst k4
    have HF := Lib.hid (show (Rec.mk 4 gen lsn rid a l on rs rm).bare.arr = Rec.arr ⟨4, gen, lsn, rid, a, l, false, rs, rm⟩ from rfl)
    simp only [Rec.arr]
    go_enter Try.func49, Try.ntmps49
    go_wp2_with fail
    refine draw_start [] (Below (w.heap.size + 1)) (by kernel_rfl) ?_
    refine draw_chunk (n := 45) (by kernel_rfl) (fun _ _ _ _ _ h => h) [0, 1, 2, 3, 4, 5, 6] [] _ #[true, true, true, true, true, true, true, false, false, false, false, false] (by kernel_rfl) 5 _ ?_ _ rfl ?_ ?_
    rotate_left
    · intro w' hw'
      have hc' : ∀ b o, b < (w.heap.size + 1) → w'.cell? ⟨b, o, none⟩ = ((((w.alloc (.cells #[.int .i64 4, .int .u32 gen, .int .u32 lsn, .int .u32 rid, .int .u32 a, .int .i64 l, .bool on, .int .u32 rs, .int .u16 rm] 50)).alloc (.cells #[.int .i64 0, .int .u32 0, .int .u32 0, .int .u32 0, .int .u32 0, .int .i64 0, .bool false, .int .u32 0, .int .u16 0] 50)).alloc (.cells #[.int .i64 4, .int .u32 gen, .int .u32 lsn, .int .u32 0, .int .u32 0, .int .i64 0, .bool false, .int .u32 0, .int .u16 0] 50)).drew).cell? ⟨b, o, none⟩ := fun b o h => hw'.cell (p := ⟨b, o, none⟩) h
      refine ci_step (i := 0) (v := ?_) rfl (by kernel_rfl) ?_ ?_
      rotate_left
      · first | (go_simp; done) | (go_simp; with_reducible rfl)
      skip
      try simp only [Act.put, List.setIfInBounds_toArray, List.set_cons_zero, List.set_cons_succ]
      refine ci_step (i := 1) (v := ?_) rfl (by kernel_rfl) ?_ ?_
      rotate_left
      · first | (go_simp; done) | (go_simp; with_reducible rfl)
      skip
      try simp only [Act.put, List.setIfInBounds_toArray, List.set_cons_zero, List.set_cons_succ]
      refine ci_step (i := 2) (v := ?_) rfl (by kernel_rfl) ?_ ?_
      rotate_left
      · first | (go_simp; done) | (go_simp; with_reducible rfl)
      skip
      try simp only [Act.put, List.setIfInBounds_toArray, List.set_cons_zero, List.set_cons_succ]
      refine ci_step (i := 3) (v := ?_) rfl (by kernel_rfl) ?_ ?_
      rotate_left
      · first | (go_simp; done) | (go_simp; with_reducible rfl)
      skip
      try simp only [Act.put, List.setIfInBounds_toArray, List.set_cons_zero, List.set_cons_succ]
      refine ci_step (i := 4) (v := ?_) rfl (by kernel_rfl) ?_ ?_
      rotate_left
      · first | (go_simp; done) | (go_simp; with_reducible rfl)
      skip
      try simp only [Act.put, List.setIfInBounds_toArray, List.set_cons_zero, List.set_cons_succ]
      refine ci_step (i := 5) (v := ?_) rfl (by kernel_rfl) ?_ ?_
      rotate_left
      · first | (go_simp; done) | (go_simp; with_reducible rfl)
      skip
      try simp only [Act.put, List.setIfInBounds_toArray, List.set_cons_zero, List.set_cons_succ]
      refine ci_step (i := 6) (v := ?_) rfl (by kernel_rfl) ?_ ?_
      rotate_left
      · first | (go_simp; done) | (go_simp; with_reducible rfl)
      skip
      try simp only [Act.put, List.setIfInBounds_toArray, List.set_cons_zero, List.set_cons_succ]
      refine ci_end ?_
      rfl
    refine draw_eff (i := 7) rfl (by kernel_rfl) (listed' := #[true, true, true, true, true, true, true, true, false, false, false, false]) rfl (fun K hK => ?_)
    replace hK := Lib.hid hK
    go_wp2_with fail
    refine hK.out _ _ ⟨fun _ => below_dd (below_two (W := w.alloc (.cells #[.int .i64 4, .int .u32 gen, .int .u32 lsn, .int .u32 rid, .int .u32 a, .int .i64 l, .bool on, .int .u32 rs, .int .u16 rm] 50)) (((Below.refl _ _).alloc (by simp) _).alloc (by simp) _) (((Below.refl _ _).alloc (by simp) _).alloc (by simp) _) (by simp)), ?_⟩
    clear hK
    refine draw_chunk (n := 45) (by kernel_rfl) (fun _ _ _ _ _ h => h) [8] [] _ #[true, true, true, true, true, true, true, true, true, false, false, false] (by kernel_rfl) 3 _ ?_ _ rfl ?_ ?_
    rotate_left
    · intro w' hw'
      have hc' : ∀ b o, b < (w.heap.size + 1) → w'.cell? ⟨b, o, none⟩ = ((((w.alloc (.cells #[.int .i64 4, .int .u32 gen, .int .u32 lsn, .int .u32 rid, .int .u32 a, .int .i64 l, .bool on, .int .u32 rs, .int .u16 rm] 50)).alloc (.cells #[.int .i64 0, .int .u32 0, .int .u32 0, .int .u32 0, .int .u32 0, .int .i64 0, .bool false, .int .u32 0, .int .u16 0] 50)).alloc (.cells #[.int .i64 4, .int .u32 gen, .int .u32 lsn, .int .u32 rid, .int .u32 0, .int .i64 0, .bool false, .int .u32 0, .int .u16 0] 50)).drew).cell? ⟨b, o, none⟩ := fun b o h => hw'.cell (p := ⟨b, o, none⟩) h
      refine ci_step (i := 8) (v := ?_) rfl (by kernel_rfl) ?_ ?_
      rotate_left
      · first | (go_simp; done) | (go_simp; with_reducible rfl)
      skip
      try simp only [Act.put, List.setIfInBounds_toArray, List.set_cons_zero, List.set_cons_succ]
      refine ci_end ?_
      rfl
    refine draw_eff (i := 9) rfl (by kernel_rfl) (listed' := #[true, true, true, true, true, true, true, true, true, true, false, false]) rfl (fun K hK => ?_)
    replace hK := Lib.hid hK
    go_wp2_with fail
    refine hK.out _ _ ⟨fun _ => below_dd (below_two (W := w.alloc (.cells #[.int .i64 4, .int .u32 gen, .int .u32 lsn, .int .u32 rid, .int .u32 a, .int .i64 l, .bool on, .int .u32 rs, .int .u16 rm] 50)) (((Below.refl _ _).alloc (by simp) _).alloc (by simp) _) (((Below.refl _ _).alloc (by simp) _).alloc (by simp) _) (by simp)), ?_⟩
    clear hK
    refine draw_chunk (n := 45) (by kernel_rfl) (fun _ _ _ _ _ h => h) [10] [] _ #[true, true, true, true, true, true, true, true, true, true, true, false] (by kernel_rfl) 1 _ ?_ _ rfl ?_ ?_
    rotate_left
    · intro w' hw'
      have hc' : ∀ b o, b < (w.heap.size + 1) → w'.cell? ⟨b, o, none⟩ = ((((w.alloc (.cells #[.int .i64 4, .int .u32 gen, .int .u32 lsn, .int .u32 rid, .int .u32 a, .int .i64 l, .bool on, .int .u32 rs, .int .u16 rm] 50)).alloc (.cells #[.int .i64 0, .int .u32 0, .int .u32 0, .int .u32 0, .int .u32 0, .int .i64 0, .bool false, .int .u32 0, .int .u16 0] 50)).alloc (.cells #[.int .i64 4, .int .u32 gen, .int .u32 lsn, .int .u32 rid, .int .u32 a, .int .i64 l, .bool false, .int .u32 0, .int .u16 0] 50)).drew).cell? ⟨b, o, none⟩ := fun b o h => hw'.cell (p := ⟨b, o, none⟩) h
      refine ci_step (i := 10) (v := ?_) rfl (by kernel_rfl) ?_ ?_
      rotate_left
      · first | (go_simp; done) | (go_simp; with_reducible rfl)
      skip
      try simp only [Act.put, List.setIfInBounds_toArray, List.set_cons_zero, List.set_cons_succ]
      refine ci_end ?_
      rfl
    refine draw_eff (i := 11) rfl (by kernel_rfl) (listed' := #[true, true, true, true, true, true, true, true, true, true, true, true]) rfl (fun K hK => ?_)
    replace hK := Lib.hid hK
    go_wp2_with fail
    refine hK.out _ _ ⟨fun _ => below_dd (below_two (W := w.alloc (.cells #[.int .i64 4, .int .u32 gen, .int .u32 lsn, .int .u32 rid, .int .u32 a, .int .i64 l, .bool on, .int .u32 rs, .int .u16 rm] 50)) (((Below.refl _ _).alloc (by simp) _).alloc (by simp) _) (((Below.refl _ _).alloc (by simp) _).alloc (by simp) _) (by simp)), ?_⟩
    clear hK
    refine draw_done (by kernel_rfl) ?_ _
    go_wp2
    refine bodyPost_ret (v := .agg (Rec.arr ⟨4, gen, lsn, rid, a, l, false, rs, rm⟩)) (by simp [results, Try.results49, go_sem, Rec.arr]) rfl ⟨congrArg (fun x => Ending.returned (Value.agg x)) HF.out.symm, ?_⟩
    first | exact (((Below.refl _ _).alloc (Nat.le_refl _) _).alloc (by simp) _).alloc (by simp; omega) _ | exact Below.drew ((((Below.refl _ _).alloc (Nat.le_refl _) _).alloc (by simp) _).alloc (by simp; omega) _)
  · have k1' : (kind == 1) = false := by simpa using k1
    have k2' : (kind == 2) = false := by simpa using k2
    have k3' : (kind == 3) = false := by simpa using k3
    have k4' : (kind == 4) = false := by simpa using k4
    have HF := Lib.hid (show (Rec.mk kind gen lsn rid a l on rs rm).bare.arr = Rec.arr ⟨kind, gen, lsn, 0, 0, 0, false, 0, 0⟩ by simp [Rec.bare, k1, k2, k3, k4])
    clear k1 k2 k3 k4
    simp only [Rec.arr]
    go_enter Try.func49, Try.ntmps49
    go_wp2
    refine bodyPost_ret (v := .agg (Rec.arr ⟨kind, gen, lsn, 0, 0, 0, false, 0, 0⟩)) (by simp [results, Try.results49, go_sem, Rec.arr]) rfl ⟨congrArg (fun x => Ending.returned (Value.agg x)) HF.out.symm, ?_⟩
    first | exact (((Below.refl _ _).alloc (Nat.le_refl _) _).alloc (by simp) _).alloc (by simp; omega) _ | exact Below.drew ((((Below.refl _ _).alloc (Nat.le_refl _) _).alloc (by simp) _).alloc (by simp; omega) _)
end Go.Proofs.Ytgmdjhokcipajaa
