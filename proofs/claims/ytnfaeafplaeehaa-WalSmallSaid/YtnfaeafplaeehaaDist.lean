import Derived.Test.YtnfaeafplaeehaaOwnA
import Derived.Deep.RegionHeld3
set_option linter.unusedVariables false
set_option linter.unusedSimpArgs false
namespace Go.Proofs.Ytnfaeafplaeehaa
open Go.RowKit

def cmpI (a b : Int) : Int := if a < b then -1 else if a > b then 1 else 0
def orI (a b : Int) : Int := if a ≠ 0 then a else b
def distCmp (s1 m1 s2 m2 : Int) : Int := orI (cmpI s1 s2) (cmpI m2 m1)

theorem isNaN_u32 (a : Int) (w : World) : Calls Try.prog 112 #[.int .u32 a] w fun e w' => e = .returned (.bool false) ∧ w' = w := by
  go_enter Try.func112, Try.ntmps112
  go_wp2
  go_ret
  exact ⟨by simp, rfl⟩
theorem isNaN_u16 (a : Int) (w : World) : Calls Try.prog 113 #[.int .u16 a] w fun e w' => e = .returned (.bool false) ∧ w' = w := by
  go_enter Try.func113, Try.ntmps113
  go_wp2
  go_ret
  exact ⟨by simp, rfl⟩

theorem cmp_u32 (a b : Int) (w : World) : Calls Try.prog 92 #[.int .u32 a, .int .u32 b] w fun e w' => e = .returned (.int .i64 (cmpI a b)) ∧ w' = w := by
  by_cases h1 : a < b
  · go_enter Try.func92, Try.ntmps92
    go_wp2_with (go_at_call 112; refine (isNaN_u32 _ _).mono ?_; rintro e w' ⟨rfl, rfl⟩)
    go_ret
    exact ⟨by simp [cmpI, h1], rfl⟩
  · by_cases h2 : b < a
    · go_enter Try.func92, Try.ntmps92
      go_wp2_with (go_at_call 112; refine (isNaN_u32 _ _).mono ?_; rintro e w' ⟨rfl, rfl⟩)
      go_ret
      exact ⟨by simp [cmpI, h1, h2], rfl⟩
    · go_enter Try.func92, Try.ntmps92
      go_wp2_with (go_at_call 112; refine (isNaN_u32 _ _).mono ?_; rintro e w' ⟨rfl, rfl⟩)
      go_ret
      exact ⟨congrArg (fun x => Ending.returned (.int .i64 x)) (show (0 : Int) = cmpI a b by unfold cmpI; rw [if_neg (by omega), if_neg (by omega)]), rfl⟩
theorem cmp_u16 (a b : Int) (w : World) : Calls Try.prog 93 #[.int .u16 a, .int .u16 b] w fun e w' => e = .returned (.int .i64 (cmpI a b)) ∧ w' = w := by
  by_cases h1 : a < b
  · go_enter Try.func93, Try.ntmps93
    go_wp2_with (go_at_call 113; refine (isNaN_u16 _ _).mono ?_; rintro e w' ⟨rfl, rfl⟩)
    go_ret
    exact ⟨by simp [cmpI, h1], rfl⟩
  · by_cases h2 : b < a
    · go_enter Try.func93, Try.ntmps93
      go_wp2_with (go_at_call 113; refine (isNaN_u16 _ _).mono ?_; rintro e w' ⟨rfl, rfl⟩)
      go_ret
      exact ⟨by simp [cmpI, h1, h2], rfl⟩
    · go_enter Try.func93, Try.ntmps93
      go_wp2_with (go_at_call 113; refine (isNaN_u16 _ _).mono ?_; rintro e w' ⟨rfl, rfl⟩)
      go_ret
      exact ⟨congrArg (fun x => Ending.returned (.int .i64 x)) (show (0 : Int) = cmpI a b by unfold cmpI; rw [if_neg (by omega), if_neg (by omega)]), rfl⟩

/-- 'cmp.Or' of two numbers that lie in one block. -/
theorem or_two (a b : Int) (g : Nat) (w : World) (h0 : w.cell? ⟨g, 0, none⟩ = some (.int .i64 a)) (h1 : w.cell? ⟨g, 1, none⟩ = some (.int .i64 b)) :
    Calls Try.prog 91 #[.slice (some ⟨g, 0, none⟩) 2 2] w fun e w' => e = .returned (.int .i64 (orI a b)) ∧ w' = w := by
  by_cases ha : a = 0
  · subst ha
    go_enter Try.func91, Try.ntmps91
    go_wp2
    go_loop [8] (fun i => i = .int .i64 0 ∨ i = .int .i64 1 ∨ i = .int .i64 2 ∧ b = 0) (fun i => (2 - intOf i).toNat)
    case atStart => exact .inl rfl
    case round =>
      rcases hrel with rfl | rfl | ⟨rfl, hb⟩
      · go_wp2
        go_round
        case rel => exact .inr (.inl rfl)
        case measure => simp [intOf]
      · by_cases hb : b = 0
        · subst hb
          go_wp2
          go_round
          case rel => exact .inr (.inr ⟨rfl, trivial⟩)
          case measure => simp [intOf]
        · have hb' : (b != 0) = true := by simpa using hb
          go_wp2
          go_ret
          exact ⟨by simp [orI], rfl⟩
      · have HB := Lib.hid hb
        clear hb
        go_wp2
        go_ret
        exact ⟨by rw [HB.out]; simp [orI], rfl⟩
  · have ha' : (a != 0) = true := by simpa using ha
    go_enter Try.func91, Try.ntmps91
    go_wp2
    go_loop [8] (fun i => i = .int .i64 0) (fun i => (2 - intOf i).toNat)
    case atStart => rfl
    case round =>
      subst hrel
      go_wp2
      go_ret
      exact ⟨by simp [orI, ha], rfl⟩

theorem dist_Compare (s1 m1 s2 m2 : Int) (w : World) :
    Calls Try.prog 59 #[.agg #[.int .u32 s1, .int .u16 m1], .agg #[.int .u32 s2, .int .u16 m2]] w
      fun e w' => e = .returned (.int .i64 (distCmp s1 m1 s2 m2)) ∧ Below w.heap.size w w' := by
  go_enter Try.func59, Try.ntmps59
  go_wp2_with fail
  go_region_held3 (fun w' => w'.cell? ⟨w.heap.size, 0, none⟩ = some (.int .u32 s1) ∧ w'.cell? ⟨w.heap.size, 1, none⟩ = some (.int .u16 m1) ∧ w'.cell? ⟨w.heap.size + 1, 0, none⟩ = some (.int .u32 s2) ∧ w'.cell? ⟨w.heap.size + 1, 1, none⟩ = some (.int .u16 m2))
    (go_keep)
    ((first | (go_at_call 92; refine (cmp_u32 _ _ _).mono ?_; rintro e w' ⟨rfl, rfl⟩) | (go_at_call 93; refine (cmp_u16 _ _ _).mono ?_; rintro e w' ⟨rfl, rfl⟩) | (go_at_call 91; refine (or_two (cmpI s1 s2) (cmpI m2 m1) _ _ ?_ ?_).mono ?_; go_simp; go_simp; rintro e w' ⟨rfl, rfl⟩)))
  go_wp2
  go_ret
  exact ⟨rfl, (((Below.refl _ _).alloc (Nat.le_refl _) _).alloc (by simp) _).alloc (by simp; omega) _ |>.drew⟩

def clampC (c : Int) : Int := if c < 1 then 1 else if 1000 < c then 1000 else c
def beyondM (m c : Int) : Int := if 65535 ≤ m + clampC c then 65535 else m + clampC c
theorem clampC_bd (c : Int) : 1 ≤ clampC c ∧ clampC c ≤ 1000 := by
  unfold clampC
  by_cases h : c < 1
  · rw [if_pos h]; omega
  · by_cases h' : 1000 < c
    · rw [if_neg h, if_pos h']; omega
    · rw [if_neg h, if_neg h']; omega

theorem dist_Lost (s m : Int) (w : World) : Calls Try.prog 60 #[.agg #[.int .u32 s, .int .u16 m]] w
    fun e w' => e = .returned (.bool (m == 65535)) ∧ Below w.heap.size w w' := by
  go_enter Try.func60, Try.ntmps60
  go_wp2
  go_ret
  exact ⟨rfl, (Below.refl _ _).alloc (Nat.le_refl _) _⟩

theorem beyondM_eq (m c y : Int) (hy : clampC c = y) : beyondM m c = if 65535 ≤ m + y then 65535 else m + y := by subst hy; rfl
theorem dist_Beyond (s m c : Int) (w : World) (hm : 0 ≤ m ∧ m ≤ 65535) : Calls Try.prog 80 #[.agg #[.int .u32 s, .int .u16 m], .int .i64 c] w
    fun e w' => e = .returned (.agg #[.int .u32 s, .int .u16 (beyondM m c)]) ∧ Below w.heap.size w w' := by
  obtain ⟨hm0, hm1⟩ := hm
  by_cases c1 : c < 1
  · have HB := Lib.hid (beyondM_eq m c 1 (by unfold clampC; rw [if_pos c1]))
    by_cases h : 65535 ≤ m + 1
    · go_enter Try.func80, Try.ntmps80
      go_wp2
      exact bodyPost_ret (v := .agg #[.int .u32 s, .int .u16 65535]) (by simp [results, Try.results80, go_sem]) rfl
        ⟨by rw [HB.out, if_pos h], ((Below.refl _ _).alloc (Nat.le_refl _) _).alloc (by simp) _⟩
    · go_enter Try.func80, Try.ntmps80
      go_wp2
      exact bodyPost_ret (v := .agg #[.int .u32 s, .int .u16 (m + 1)]) (by simp [results, Try.results80, go_sem]) rfl
        ⟨by rw [HB.out, if_neg (by omega)], ((Below.refl _ _).alloc (Nat.le_refl _) _).alloc (by simp) _⟩
  · by_cases c2 : 1000 < c
    · have HB := Lib.hid (beyondM_eq m c 1000 (by unfold clampC; rw [if_neg c1, if_pos c2]))
      by_cases h : 65535 ≤ m + 1000
      · go_enter Try.func80, Try.ntmps80
        go_wp2
        exact bodyPost_ret (v := .agg #[.int .u32 s, .int .u16 65535]) (by simp [results, Try.results80, go_sem]) rfl
          ⟨by rw [HB.out, if_pos h], ((Below.refl _ _).alloc (Nat.le_refl _) _).alloc (by simp) _⟩
      · go_enter Try.func80, Try.ntmps80
        go_wp2
        exact bodyPost_ret (v := .agg #[.int .u32 s, .int .u16 (m + 1000)]) (by simp [results, Try.results80, go_sem]) rfl
          ⟨by rw [HB.out, if_neg (by omega)], ((Below.refl _ _).alloc (Nat.le_refl _) _).alloc (by simp) _⟩
    · have HB := Lib.hid (beyondM_eq m c c (by unfold clampC; rw [if_neg c1, if_neg c2]))
      by_cases c3 : c = 1
      · subst c3
        by_cases h : 65535 ≤ m + 1
        · go_enter Try.func80, Try.ntmps80
          go_wp2
          exact bodyPost_ret (v := .agg #[.int .u32 s, .int .u16 65535]) (by simp [results, Try.results80, go_sem]) rfl
            ⟨by rw [HB.out, if_pos h], ((Below.refl _ _).alloc (Nat.le_refl _) _).alloc (by simp) _⟩
        · go_enter Try.func80, Try.ntmps80
          go_wp2
          exact bodyPost_ret (v := .agg #[.int .u32 s, .int .u16 (m + 1)]) (by simp [results, Try.results80, go_sem]) rfl
            ⟨by rw [HB.out, if_neg (by omega)], ((Below.refl _ _).alloc (Nat.le_refl _) _).alloc (by simp) _⟩
      · have c4 : 1 < c := by omega
        by_cases h : 65535 ≤ m + c
        · go_enter Try.func80, Try.ntmps80
          go_wp2
          exact bodyPost_ret (v := .agg #[.int .u32 s, .int .u16 65535]) (by simp [results, Try.results80, go_sem]) rfl
            ⟨by rw [HB.out, if_pos h], ((Below.refl _ _).alloc (Nat.le_refl _) _).alloc (by simp) _⟩
        · go_enter Try.func80, Try.ntmps80
          go_wp2
          exact bodyPost_ret (v := .agg #[.int .u32 s, .int .u16 (m + c)]) (by simp [results, Try.results80, go_sem]) rfl
            ⟨by rw [HB.out, if_neg (by omega)], ((Below.refl _ _).alloc (Nat.le_refl _) _).alloc (by simp) _⟩
end Go.Proofs.Ytnfaeafplaeehaa
