import Derived.Test.YtnfaeafplaeehaaState
set_option linter.unusedVariables false
set_option linter.unusedSimpArgs false
namespace Go.Proofs.Ytnfaeafplaeehaa
/-! The table's keys and ways. -/
structure RKey where
  a : Int
  l : Int
  n : Int
  deriving DecidableEq
def RKey.val (k : RKey) : Value := .agg #[.int .u32 k.a, .int .i64 k.l, .int .i64 k.n]
def RKey.cells (k : RKey) : List Value := [.int .u32 k.a, .int .i64 k.l, .int .i64 k.n]
structure Rt where
  n : Int
  id : Int
  s : Int
  m : Int
  x : Int
  deriving DecidableEq
def Rt.val (r : Rt) : Value := .agg #[.int .i64 r.n, .int .u32 r.id, .int .u32 r.s, .int .u16 r.m, .int .i64 r.x]
end Go.Proofs.Ytnfaeafplaeehaa
