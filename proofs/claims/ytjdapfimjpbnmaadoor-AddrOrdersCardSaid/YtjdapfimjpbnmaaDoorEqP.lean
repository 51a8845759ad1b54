import Derived.Test.YtjdapfimjpbnmaaDoorBase
import Derived.Laws.StructEq
import Derived.BigQuiet
set_option linter.unusedVariables false
set_option linter.unusedSimpArgs false
namespace Go.Proofs.YtjdapfimjpbnmaaDoor
open Go.RowKit
/-! '==' of two structs. -/
attribute [-go_sem] Go.run_equalIn_agg
def pfxEqB (a l b m : Int) : Bool := decide (a = b ∧ l = m)
theorem fields_eq {P : Program} {t : TypeId} {fs : Array Field} (h : P.underlying t = some (.struct fs)) : P.fieldsOf t = fs := by simp [Program.fieldsOf, h]
theorem run_pfxEq (n : Nat) (a l b m : Int) (w : World) : (Op.equalIn (n + 2) 24 (.agg #[.int .u32 a, .int .i64 l]) (.agg #[.int .u32 b, .int .i64 m])).run Tryd.prog w = .ok (pfxEqB a l b m) w := by
  have hf := fields_eq Tryd.underlying24
  rw [show n + 2 = (n + 1) + 1 from rfl, run_equalIn_agg w (n + 1) _ _ _ (by rw [hf]; exact Tryd.underlying24) (by kernel_rfl), hf]
  by_cases h1 : a = b
  · by_cases h2 : l = m
    · simp [Op.eqFields, go_sem, h1, h2, pfxEqB]
    · have h2' : (l == m) = false := by simpa using h2
      simp [Op.eqFields, go_sem, h1, h2, h2', pfxEqB]
  · have h1' : (a == b) = false := by simpa using h1
    simp [Op.eqFields, go_sem, h1, h1', pfxEqB]
@[go_sem] theorem run_pfxEq' (a l b m : Int) (w : World) : (Op.equalIn 10000 24 (.agg #[.int .u32 a, .int .i64 l]) (.agg #[.int .u32 b, .int .i64 m])).run Tryd.prog w = .ok (pfxEqB a l b m) w := run_pfxEq 9998 a l b m w
end Go.Proofs.YtjdapfimjpbnmaaDoor
