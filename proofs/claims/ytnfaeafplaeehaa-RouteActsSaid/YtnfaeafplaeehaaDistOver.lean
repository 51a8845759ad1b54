import Derived.Test.YtnfaeafplaeehaaLaw03
set_option linter.unusedVariables false
set_option linter.unusedSimpArgs false
namespace Go.Proofs.Ytnfaeafplaeehaa
open Go.RowKit Go.ChangeShapes Go.WideShapes

theorem law03_Beyond (s m c : Int) (w : World) (hm : 0 ≤ m ∧ m ≤ 65535) : Calls Try.prog 79 #[.agg #[.int .u32 s, .int .u16 m], .int .i64 c] w
    fun e w' => e = .returned (.agg #[.int .u32 s, .int .u16 (beyondM m c)]) ∧ Below w.heap.size w w' := by
  obtain ⟨hm0, hm1⟩ := hm
  by_cases c1 : c < 1
  · have HB := Lib.hid (beyondM_eq m c 1 (by unfold clampC; rw [if_pos c1]))
    by_cases h : 65535 < m + 1
    · go_enter Try.func79, Try.ntmps79
      go_wp2
      exact bodyPost_ret (v := .agg #[.int .u32 s, .int .u16 65535]) (by simp [results, Try.results79, go_sem]) rfl
        ⟨by rw [HB.out, if_pos (by omega)], ((Below.refl _ _).alloc (Nat.le_refl _) _).alloc (by simp) _⟩
    · go_enter Try.func79, Try.ntmps79
      go_wp2
      exact bodyPost_ret (v := .agg #[.int .u32 s, .int .u16 (m + 1)]) (by simp [results, Try.results79, go_sem]) rfl
        ⟨by rw [HB.out, show (if 65535 ≤ m + 1 then 65535 else m + 1) = m + 1 by split <;> omega], ((Below.refl _ _).alloc (Nat.le_refl _) _).alloc (by simp) _⟩
  · by_cases c2 : 1000 < c
    · have HB := Lib.hid (beyondM_eq m c 1000 (by unfold clampC; rw [if_neg c1, if_pos c2]))
      by_cases h : 65535 < m + 1000
      · go_enter Try.func79, Try.ntmps79
        go_wp2
        exact bodyPost_ret (v := .agg #[.int .u32 s, .int .u16 65535]) (by simp [results, Try.results79, go_sem]) rfl
          ⟨by rw [HB.out, if_pos (by omega)], ((Below.refl _ _).alloc (Nat.le_refl _) _).alloc (by simp) _⟩
      · go_enter Try.func79, Try.ntmps79
        go_wp2
        exact bodyPost_ret (v := .agg #[.int .u32 s, .int .u16 (m + 1000)]) (by simp [results, Try.results79, go_sem]) rfl
          ⟨by rw [HB.out, show (if 65535 ≤ m + 1000 then 65535 else m + 1000) = m + 1000 by split <;> omega], ((Below.refl _ _).alloc (Nat.le_refl _) _).alloc (by simp) _⟩
    · have HB := Lib.hid (beyondM_eq m c c (by unfold clampC; rw [if_neg c1, if_neg c2]))
      have c3 : 1 ≤ c := by omega
      by_cases h : 65535 < m + c
      · go_enter Try.func79, Try.ntmps79
        go_wp2
        exact bodyPost_ret (v := .agg #[.int .u32 s, .int .u16 65535]) (by simp [results, Try.results79, go_sem]) rfl
          ⟨by rw [HB.out, if_pos (by omega)], ((Below.refl _ _).alloc (Nat.le_refl _) _).alloc (by simp) _⟩
      · go_enter Try.func79, Try.ntmps79
        go_wp2
        exact bodyPost_ret (v := .agg #[.int .u32 s, .int .u16 (m + c)]) (by simp [results, Try.results79, go_sem]) rfl
          ⟨by rw [HB.out, show (if 65535 ≤ m + c then 65535 else m + c) = m + c by split <;> omega], ((Below.refl _ _).alloc (Nat.le_refl _) _).alloc (by simp) _⟩

end Go.Proofs.Ytnfaeafplaeehaa
