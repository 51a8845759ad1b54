import Derived.Test.YtnfaeafplaeehaaGreatMrgA
import Derived.Test.YtnfaeafplaeehaaGreatMrgC
import Derived.Laws.StructEq
import Derived.BigQuiet
set_option linter.unusedVariables false
set_option linter.unusedSimpArgs false
namespace Go.Proofs.YtnfaeafplaeehaaGreat
open Go.RowKit
/-! '==' of two structs. -/
attribute [-go_sem] Go.run_equalIn_agg
def recEqB (r q : Rec) : Bool := decide (r = q)
def pfxEqB (a l b m : Int) : Bool := decide (a = b ∧ l = m)
def dstEqB (a l b m : Int) : Bool := decide (a = b ∧ l = m)
theorem fields_eq {P : Program} {t : TypeId} {fs : Array Field} (h : P.underlying t = some (.struct fs)) : P.fieldsOf t = fs := by simp [Program.fieldsOf, h]
theorem run_pfxEq (n : Nat) (a l b m : Int) (w : World) : (Op.equalIn (n + 2) 36 (.agg #[.int .u32 a, .int .i64 l]) (.agg #[.int .u32 b, .int .i64 m])).run Tryz.prog w = .ok (pfxEqB a l b m) w := by
  have hf := fields_eq Tryz.underlying36
  rw [show n + 2 = (n + 1) + 1 from rfl, run_equalIn_agg w (n + 1) _ _ _ (by rw [hf]; exact Tryz.underlying36) (by kernel_rfl), hf]
  by_cases h1 : a = b
  · by_cases h2 : l = m
    · simp [Op.eqFields, go_sem, h1, h2, pfxEqB]
    · have h2' : (l == m) = false := by simpa using h2
      simp [Op.eqFields, go_sem, h1, h2, h2', pfxEqB]
  · have h1' : (a == b) = false := by simpa using h1
    simp [Op.eqFields, go_sem, h1, h1', pfxEqB]
theorem run_dstEq (n : Nat) (a l b m : Int) (w : World) : (Op.equalIn (n + 2) 39 (.agg #[.int .u32 a, .int .u16 l]) (.agg #[.int .u32 b, .int .u16 m])).run Tryz.prog w = .ok (dstEqB a l b m) w := by
  have hf := fields_eq Tryz.underlying39
  rw [show n + 2 = (n + 1) + 1 from rfl, run_equalIn_agg w (n + 1) _ _ _ (by rw [hf]; exact Tryz.underlying39) (by kernel_rfl), hf]
  by_cases h1 : a = b
  · by_cases h2 : l = m
    · simp [Op.eqFields, go_sem, h1, h2, dstEqB]
    · have h2' : (l == m) = false := by simpa using h2
      simp [Op.eqFields, go_sem, h1, h2, h2', dstEqB]
  · have h1' : (a == b) = false := by simpa using h1
    simp [Op.eqFields, go_sem, h1, h1', dstEqB]
theorem run_recEq (n : Nat) (k g l i a p s m k' g' l' i' a' p' s' m' : Int) (o o' : Bool) (w : World) : (Op.equalIn (n + 3) 41 (.agg #[.int .i64 k, .int .u32 g, .int .u32 l, .int .u32 i, .int .u32 a, .int .i64 p, .bool o, .int .u32 s, .int .u16 m])
    (.agg #[.int .i64 k', .int .u32 g', .int .u32 l', .int .u32 i', .int .u32 a', .int .i64 p', .bool o', .int .u32 s', .int .u16 m'])).run Tryz.prog w = .ok (recEqB ⟨k, g, l, i, a, p, o, s, m⟩ ⟨k', g', l', i', a', p', o', s', m'⟩) w := by
  have hf := fields_eq Tryz.underlying41
  have hp := run_pfxEq n a p a' p' w
  have hd := run_dstEq n s m s' m' w
  have hR : recEqB ⟨k, g, l, i, a, p, o, s, m⟩ ⟨k', g', l', i', a', p', o', s', m'⟩ = ((k == k') && ((g == g') && ((l == l') && ((i == i') && (pfxEqB a p a' p' && ((o == o') && dstEqB s m s' m')))))) := by
    unfold recEqB pfxEqB dstEqB
    rw [Bool.eq_iff_iff]
    simp [and_assoc]
  rw [hR, show n + 3 = (n + 2) + 1 from rfl, run_equalIn_agg w (n + 2) _ _ _ (by rw [hf]; exact Tryz.underlying41) (by kernel_rfl), hf]
  cases h1 : (k == k') with
  | false => simp [Op.eqFields, go_sem, h1]
  | true =>
    cases h2 : (g == g') with
    | false => simp [Op.eqFields, go_sem, h1, h2]
    | true =>
      cases h3 : (l == l') with
      | false => simp [Op.eqFields, go_sem, h1, h2, h3]
      | true =>
        cases h4 : (i == i') with
        | false => simp [Op.eqFields, go_sem, h1, h2, h3, h4]
        | true =>
          cases h5 : pfxEqB a p a' p' with
          | false => simp [Op.eqFields, go_sem, h1, h2, h3, h4, hp, h5]
          | true =>
            cases h6 : (o == o') with
            | false => simp [Op.eqFields, go_sem, h1, h2, h3, h4, hp, h5, h6]
            | true =>
              cases h7 : dstEqB s m s' m' with
              | false => simp [Op.eqFields, go_sem, h1, h2, h3, h4, hp, h5, h6, hd, h7]
              | true => simp [Op.eqFields, go_sem, h1, h2, h3, h4, hp, h5, h6, hd, h7]
@[go_sem] theorem run_pfxEq' (a l b m : Int) (w : World) : (Op.equalIn 10000 36 (.agg #[.int .u32 a, .int .i64 l]) (.agg #[.int .u32 b, .int .i64 m])).run Tryz.prog w = .ok (pfxEqB a l b m) w := run_pfxEq 9998 a l b m w
@[go_sem] theorem run_dstEq' (a l b m : Int) (w : World) : (Op.equalIn 10000 39 (.agg #[.int .u32 a, .int .u16 l]) (.agg #[.int .u32 b, .int .u16 m])).run Tryz.prog w = .ok (dstEqB a l b m) w := run_dstEq 9998 a l b m w
@[go_sem] theorem run_recEq' (k g l i a p s m k' g' l' i' a' p' s' m' : Int) (o o' : Bool) (w : World) : (Op.equalIn 10000 41 (.agg #[.int .i64 k, .int .u32 g, .int .u32 l, .int .u32 i, .int .u32 a, .int .i64 p, .bool o, .int .u32 s, .int .u16 m])
    (.agg #[.int .i64 k', .int .u32 g', .int .u32 l', .int .u32 i', .int .u32 a', .int .i64 p', .bool o', .int .u32 s', .int .u16 m'])).run Tryz.prog w = .ok (recEqB ⟨k, g, l, i, a, p, o, s, m⟩ ⟨k', g', l', i', a', p', o', s', m'⟩) w := run_recEq 9997 k g l i a p s m k' g' l' i' a' p' s' m' o o' w
end Go.Proofs.YtnfaeafplaeehaaGreat
