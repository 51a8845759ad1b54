import Derived.Test.YtnfaeafplaeehaaGreatMrgH
set_option linter.unusedVariables false
set_option linter.unusedSimpArgs false
namespace Go.Proofs.YtnfaeafplaeehaaGreat
open Go.RowKit
/-! A new disk. -/
def zsec : Sec := List.replicate 48 0
theorem info_sec : (Tryz.prog.info? 90).map (fun i => (i.zero, i.size, i.bytes)) = some (some (.agg (u8s zsec).toArray), 48, 48) := by kernel_rfl
theorem made_zeros (z : List Value) (v : Value) (hz : ∀ x ∈ z, x = v) (h0 : 0 < z.length) (n : Nat) : (madeCells z.toArray n) = (List.replicate n v).toArray := by
  refine Array.ext (by simp [madeCells]) fun k h1 h2 => ?_
  simp only [madeCells, Array.getElem_map, Array.getElem_range, List.size_toArray, List.getElem_toArray, List.getElem_replicate]
  have hm := Nat.mod_lt k h0
  rw [getElem!_pos _ _ (by simpa using hm)]
  exact hz _ (by simp)
theorem flat_zeros : ∀ n : Nat, (List.replicate n zsec).flatMap u8s = List.replicate (n * 48) (.int .u8 0)
  | 0 => rfl
  | n + 1 => by rw [List.replicate_succ, List.flatMap_cons, flat_zeros n, Nat.add_mul, Nat.add_comm, ← List.replicate_append_replicate]; rfl
theorem run_makeSecs (n : Nat) (hn : n ≤ 512) (w : World) : (Instr.makeSlice 57 (.int .i64 (n : Int)) (.int .i64 (n : Int))).run Tryz.prog w = .ok (.slice (some ⟨w.heap.size, 0, none⟩) n n) (w.alloc (.cells ((List.replicate n zsec).flatMap u8s).toArray 90)) := by
  obtain ⟨i, hi, hzz⟩ := Option.map_eq_some_iff.1 info_sec
  simp only [Prod.mk.injEq] at hzz
  obtain ⟨hz, hs, hb⟩ := hzz
  have := run_make (P := Tryz.prog) w 57 90 i _ Tryz.underlying57 hi hz .i64 .i64 n n (by omega) (Int.le_refl _) (by rw [hb]; omega) (by omega)
  rw [hs] at this
  simp only [Int.toNat_natCast, Value.cells] at this
  rw [made_zeros (u8s zsec) (.int .u8 0) (fun x hx => by simp [u8s, zsec] at hx; exact hx) (by simp [u8s, zsec]), ← flat_zeros] at this
  exact this
theorem disk_new_end (n : Nat) (hn : n ≤ 512) (w : World) (W : World) (h : W = ((w.alloc (.cells ((List.replicate n zsec).flatMap u8s).toArray 90)).alloc (.map #[] 0)).alloc (.cells #[.slice (some ⟨w.heap.size, 0, none⟩) n n, .map (some (w.heap.size + 1)), .int .i64 (-1)] 60)) :
    DiskAt W (w.heap.size + 2) (w.heap.size + 1) w.heap.size (List.replicate n zsec) [] (-1) ∧ Below w.heap.size w W := by
  subst h
  refine ⟨⟨?_, ?_, ?_, ?_, by simp, by simp, by simp; omega⟩, (((Below.refl _ _).alloc (Nat.le_refl _) _).alloc (by simp) _).alloc (by simp; omega) _⟩
  · have := Blk.new ((w.alloc (.cells ((List.replicate n zsec).flatMap u8s).toArray 90)).alloc (.map #[] 0)) 60 #[.slice (some ⟨w.heap.size, 0, none⟩) n n, .map (some (w.heap.size + 1)), .int .i64 (-1)]
    simpa using this
  · exact ((Blk.new w _ _).alloc _).alloc _
  · refine ⟨#[], 0, ?_, by simp, by simp, by simp⟩
    have := heap_new (w.alloc (.cells ((List.replicate n zsec).flatMap u8s).toArray 90)) (.map #[] 0)
    simp only [World.size_alloc] at this
    exact (Below.heap_alloc _ _ _ (by simp)).trans this
  · intro x hx
    rw [(List.mem_replicate.1 hx).2]
    rfl
set_option maxRecDepth 100000 in
theorem disk_New (n : Int) (w : World) : Calls Tryz.prog 5 #[.int .i64 n] w fun e w' => ∃ d g bs, e = .returned (.pointer (some ⟨d, 0, none⟩)) ∧ DiskAt w' d g bs (List.replicate (max 1 (min n 512)).toNat zsec) [] (-1) ∧ (w.heap.size ≤ d ∧ w.heap.size ≤ g ∧ w.heap.size ≤ bs) ∧ Below w.heap.size w w' := by
  obtain ⟨k, hk, hk5⟩ : ∃ k : Nat, (k : Int) = max 1 (min n 512) ∧ k ≤ 512 := ⟨(max 1 (min n 512)).toNat, by omega, by omega⟩
  have hmk := run_makeSecs k hk5 w
  have he := disk_new_end k hk5 w
  rw [show (max 1 (min n 512)).toNat = k by omega]
  go_enter Tryz.func5, Tryz.ntmps5
  go_wp2
  all_goals first | rw [show (512 : Int) = k by omega] | rw [show n = k by omega] | rw [show (1 : Int) = k by omega]
  all_goals rw [hmk]
  all_goals go_wp2
  all_goals exact bodyPost_ret (by simp [results, Tryz.results5, go_sem]) rfl ⟨w.heap.size + 2, w.heap.size + 1, w.heap.size, rfl, (he _ rfl).1, by omega, (he _ rfl).2⟩
theorem run_zero_sec (w : World) : (zeroValue 90).run Tryz.prog w = .ok (secV zsec) w := Tryz.zeroValue90 w
theorem zsec_len : zsec.length = 48 := rfl
theorem zsec_eq : zsec = List.replicate 48 0 := rfl
attribute [irreducible] zsec
end Go.Proofs.YtnfaeafplaeehaaGreat
