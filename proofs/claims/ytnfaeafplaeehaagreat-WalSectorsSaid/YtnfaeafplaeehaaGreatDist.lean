import Derived.Test.YtnfaeafplaeehaaGreatMrgA
import Derived.Deep.RegionHeld3
set_option linter.unusedVariables false
set_option linter.unusedSimpArgs false
namespace Go.Proofs.YtnfaeafplaeehaaGreat
open Go.RowKit

def cmpI (a b : Int) : Int := if a < b then -1 else if a > b then 1 else 0
def orI (a b : Int) : Int := if a ≠ 0 then a else b
def distCmp (s1 m1 s2 m2 : Int) : Int := orI (cmpI s1 s2) (cmpI m2 m1)

theorem isNaN_u32 (a : Int) (w : World) : Calls Tryz.prog 75 #[.int .u32 a] w fun e w' => e = .returned (.bool false) ∧ w' = w := by
  go_enter Tryz.func75, Tryz.ntmps75
  go_wp2
  go_ret
  exact ⟨by simp, rfl⟩
theorem isNaN_u16 (a : Int) (w : World) : Calls Tryz.prog 80 #[.int .u16 a] w fun e w' => e = .returned (.bool false) ∧ w' = w := by
  go_enter Tryz.func80, Tryz.ntmps80
  go_wp2
  go_ret
  exact ⟨by simp, rfl⟩

theorem cmp_u32 (a b : Int) (w : World) : Calls Tryz.prog 65 #[.int .u32 a, .int .u32 b] w fun e w' => e = .returned (.int .i64 (cmpI a b)) ∧ w' = w := by
  by_cases h1 : a < b
  · go_enter Tryz.func65, Tryz.ntmps65
    go_wp2_with (go_at_call 75; refine (isNaN_u32 _ _).mono ?_; rintro e w' ⟨rfl, rfl⟩)
    go_ret
    exact ⟨by simp [cmpI, h1], rfl⟩
  · by_cases h2 : b < a
    · go_enter Tryz.func65, Tryz.ntmps65
      go_wp2_with (go_at_call 75; refine (isNaN_u32 _ _).mono ?_; rintro e w' ⟨rfl, rfl⟩)
      go_ret
      exact ⟨by simp [cmpI, h1, h2], rfl⟩
    · go_enter Tryz.func65, Tryz.ntmps65
      go_wp2_with (go_at_call 75; refine (isNaN_u32 _ _).mono ?_; rintro e w' ⟨rfl, rfl⟩)
      go_ret
      exact ⟨congrArg (fun x => Ending.returned (.int .i64 x)) (show (0 : Int) = cmpI a b by unfold cmpI; rw [if_neg (by omega), if_neg (by omega)]), rfl⟩
theorem cmp_u16 (a b : Int) (w : World) : Calls Tryz.prog 70 #[.int .u16 a, .int .u16 b] w fun e w' => e = .returned (.int .i64 (cmpI a b)) ∧ w' = w := by
  by_cases h1 : a < b
  · go_enter Tryz.func70, Tryz.ntmps70
    go_wp2_with (go_at_call 80; refine (isNaN_u16 _ _).mono ?_; rintro e w' ⟨rfl, rfl⟩)
    go_ret
    exact ⟨by simp [cmpI, h1], rfl⟩
  · by_cases h2 : b < a
    · go_enter Tryz.func70, Tryz.ntmps70
      go_wp2_with (go_at_call 80; refine (isNaN_u16 _ _).mono ?_; rintro e w' ⟨rfl, rfl⟩)
      go_ret
      exact ⟨by simp [cmpI, h1, h2], rfl⟩
    · go_enter Tryz.func70, Tryz.ntmps70
      go_wp2_with (go_at_call 80; refine (isNaN_u16 _ _).mono ?_; rintro e w' ⟨rfl, rfl⟩)
      go_ret
      exact ⟨congrArg (fun x => Ending.returned (.int .i64 x)) (show (0 : Int) = cmpI a b by unfold cmpI; rw [if_neg (by omega), if_neg (by omega)]), rfl⟩

/-- 'cmp.Or' of two numbers that lie in one block. -/
theorem or_two (a b : Int) (g : Nat) (w : World) (h0 : w.cell? ⟨g, 0, none⟩ = some (.int .i64 a)) (h1 : w.cell? ⟨g, 1, none⟩ = some (.int .i64 b)) :
    Calls Tryz.prog 64 #[.slice (some ⟨g, 0, none⟩) 2 2] w fun e w' => e = .returned (.int .i64 (orI a b)) ∧ w' = w := by
  by_cases ha : a = 0
  · subst ha
    go_enter Tryz.func64, Tryz.ntmps64
    go_wp2
    go_loop [8] (fun i => i = .int .i64 0 ∨ i = .int .i64 1 ∨ i = .int .i64 2 ∧ b = 0) (fun i => (2 - intOf i).toNat)
    case atStart => exact .inl rfl
    case round =>
      rcases hrel with rfl | rfl | ⟨rfl, hb⟩
      · go_wp2
        go_round
        case rel => exact .inr (.inl rfl)
        case measure => simp [intOf]
      · by_cases hb : b = 0
        · subst hb
          go_wp2
          go_round
          case rel => exact .inr (.inr ⟨rfl, trivial⟩)
          case measure => simp [intOf]
        · have hb' : (b != 0) = true := by simpa using hb
          go_wp2
          go_ret
          exact ⟨by simp [orI], rfl⟩
      · have HB := Lib.hid hb
        clear hb
        go_wp2
        go_ret
        exact ⟨by rw [HB.out]; simp [orI], rfl⟩
  · have ha' : (a != 0) = true := by simpa using ha
    go_enter Tryz.func64, Tryz.ntmps64
    go_wp2
    go_loop [8] (fun i => i = .int .i64 0) (fun i => (2 - intOf i).toNat)
    case atStart => rfl
    case round =>
      subst hrel
      go_wp2
      go_ret
      exact ⟨by simp [orI, ha], rfl⟩

theorem dist_Compare (s1 m1 s2 m2 : Int) (w : World) :
    Calls Tryz.prog 58 #[.agg #[.int .u32 s1, .int .u16 m1], .agg #[.int .u32 s2, .int .u16 m2]] w
      fun e w' => e = .returned (.int .i64 (distCmp s1 m1 s2 m2)) ∧ Below w.heap.size w w' := by
  go_enter Tryz.func58, Tryz.ntmps58
  go_wp2_with fail
  go_region_held3 (fun w' => w'.cell? ⟨w.heap.size, 0, none⟩ = some (.int .u32 s1) ∧ w'.cell? ⟨w.heap.size, 1, none⟩ = some (.int .u16 m1) ∧ w'.cell? ⟨w.heap.size + 1, 0, none⟩ = some (.int .u32 s2) ∧ w'.cell? ⟨w.heap.size + 1, 1, none⟩ = some (.int .u16 m2))
    (go_keep)
    ((first | (go_at_call 65; refine (cmp_u32 _ _ _).mono ?_; rintro e w' ⟨rfl, rfl⟩) | (go_at_call 70; refine (cmp_u16 _ _ _).mono ?_; rintro e w' ⟨rfl, rfl⟩) | (go_at_call 64; refine (or_two (cmpI s1 s2) (cmpI m2 m1) _ _ ?_ ?_).mono ?_; go_simp; go_simp; rintro e w' ⟨rfl, rfl⟩)))
  go_wp2
  go_ret
  exact ⟨rfl, (((Below.refl _ _).alloc (Nat.le_refl _) _).alloc (by simp) _).alloc (by simp; omega) _ |>.drew⟩

def clampC (c : Int) : Int := if c < 1 then 1 else if 1000 < c then 1000 else c
def beyondM (m c : Int) : Int := if 65535 ≤ m + clampC c then 65535 else m + clampC c
theorem clampC_bd (c : Int) : 1 ≤ clampC c ∧ clampC c ≤ 1000 := by
  unfold clampC
  by_cases h : c < 1
  · rw [if_pos h]; omega
  · by_cases h' : 1000 < c
    · rw [if_neg h, if_pos h']; omega
    · rw [if_neg h, if_neg h']; omega

theorem dist_Lost (s m : Int) (w : World) : Calls Tryz.prog 56 #[.agg #[.int .u32 s, .int .u16 m]] w
    fun e w' => e = .returned (.bool (m == 65535)) ∧ Below w.heap.size w w' := by
  go_enter Tryz.func56, Tryz.ntmps56
  go_wp2
  go_ret
  exact ⟨rfl, (Below.refl _ _).alloc (Nat.le_refl _) _⟩

theorem beyondM_eq (m c y : Int) (hy : clampC c = y) : beyondM m c = if 65535 ≤ m + y then 65535 else m + y := by subst hy; rfl
end Go.Proofs.YtnfaeafplaeehaaGreat
