import Derived.Test.YtgmdjhokcipajaaDist
import Derived.Test.YtgmdjhokcipajaaOpen
set_option linter.unusedVariables false
set_option linter.unusedSimpArgs false
namespace Go.Proofs.Ytgmdjhokcipajaa
open Go.RowKit Go.ChangeShapes Go.WideShapes

def betterB (s1 m1 s2 m2 : Int) : Bool := decide (s2 < s1 ∨ s1 = s2 ∧ m1 < m2)
def lawBeyondM (m c : Int) : Int := beyondM m c

theorem law03_Better (s1 m1 s2 m2 : Int) (w : World) : Calls Try.prog 21 #[.agg #[.int .u32 s1, .int .u16 m1], .agg #[.int .u32 s2, .int .u16 m2]] w
    fun e w' => e = .returned (.bool (betterB s1 m1 s2 m2)) ∧ Below w.heap.size w w' := by
  by_cases h1 : s2 < s1
  · have HB := Lib.hid (show betterB s1 m1 s2 m2 = true by simp [betterB, h1])
    go_enter Try.func21, Try.ntmps21
    go_wp2
    go_ret
    exact ⟨by rw [HB.out]; simp, ((Below.refl _ _).alloc (Nat.le_refl _) _).alloc (by simp) _⟩
  · by_cases h2 : s1 = s2
    · subst h2
      have HB := Lib.hid (show betterB s1 m1 s1 m2 = decide (m1 < m2) by simp [betterB])
      go_enter Try.func21, Try.ntmps21
      go_wp2
      all_goals
        go_ret
        exact ⟨by rw [HB.out]; simp, ((Below.refl _ _).alloc (Nat.le_refl _) _).alloc (by simp) _⟩
    · have HB := Lib.hid (show betterB s1 m1 s2 m2 = false by simp [betterB]; omega)
      have h3 : (s1 == s2) = false := by simpa using h2
      clear h2
      go_enter Try.func21, Try.ntmps21
      go_wp2
      go_ret
      exact ⟨by rw [HB.out]; simp, ((Below.refl _ _).alloc (Nat.le_refl _) _).alloc (by simp) _⟩

theorem field_Metric (a b : Value) (w : World) : (Instr.field 39 (.agg #[a, b]) 1).run Try.prog w = .ok b w := by kernel_rfl
theorem law03_head (w : World) : Calls Try.prog 20 #[] w fun e w' => e = .returned (.bool true) ∧ Below w.heap.size w w' := by
  have hfd := field_Metric
  go_enter Try.func20, Try.ntmps20
  go_wp2_with fail
  refine (dist_Compare _ _ _ _ _).mono ?_
  rintro e w1 ⟨rfl, hb1⟩
  rw [show distCmp 2 9 1 3 = 1 from by decide]
  obtain ⟨hc1, hf1⟩ := bcell hb1
  have hz1 : w.heap.size + 1 + 1 < w1.heap.size := by have := hb1.size; simp at this; omega
  have hz1a : w.heap.size + 1 < w1.heap.size := by omega
  have hz1b : w.heap.size < w1.heap.size := by omega
  go_wp2_with fail
  refine (dist_Compare _ _ _ _ _).mono ?_
  rintro e w2 ⟨rfl, hb2⟩
  rw [show distCmp 2 3 2 9 = 1 from by decide]
  obtain ⟨hc2, hf2⟩ := bcell hb2
  have hz2 : w.heap.size + 1 + 1 < w2.heap.size := by have := hb2.size; omega
  have hz2a : w.heap.size + 1 < w2.heap.size := by omega
  have hz2b : w.heap.size < w2.heap.size := by omega
  go_wp2_with fail
  refine (dist_Compare _ _ _ _ _).mono ?_
  rintro e w3 ⟨rfl, hb3⟩
  rw [show distCmp 1 3 2 3 = -1 from by decide]
  obtain ⟨hc3, hf3⟩ := bcell hb3
  go_wp2_with fail
  refine (dist_Beyond _ _ _ _ (by omega)).mono ?_
  rintro e w4 ⟨rfl, hb4⟩
  rw [show beyondM 9 2 = 11 from by decide]
  go_wp2
  go_ret
  refine ⟨rfl, ?_⟩
  refine below_step (below_step (below_step (below_step ((((Below.refl _ _).alloc (Nat.le_refl _) _).alloc (by simp) _).alloc (by simp; omega) _) ?_ hb1) (by omega) hb2) (by have := hb3.size; omega) hb3) (by have := hb3.size; omega) hb4
  simp; omega
end Go.Proofs.Ytgmdjhokcipajaa
