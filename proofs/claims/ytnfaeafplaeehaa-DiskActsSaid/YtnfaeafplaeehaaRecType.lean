import Derived.Test.YtnfaeafplaeehaaBase
set_option linter.unusedVariables false
namespace Go.Proofs.Ytnfaeafplaeehaa
open Go.RowKit

/-- A 'rec.Rec'. -/
structure Rec where
  kind : Int
  gen : Int
  lsn : Int
  id : Int
  a : Int
  l : Int
  on : Bool
  s : Int
  m : Int
  deriving DecidableEq
def Rec.cells (r : Rec) : List Value := [.int .i64 r.kind, .int .u32 r.gen, .int .u32 r.lsn, .int .u32 r.id, .int .u32 r.a, .int .i64 r.l, .bool r.on, .int .u32 r.s, .int .u16 r.m]
def Rec.arr (r : Rec) : Array Value := #[.int .i64 r.kind, .int .u32 r.gen, .int .u32 r.lsn, .int .u32 r.id, .int .u32 r.a, .int .i64 r.l, .bool r.on, .int .u32 r.s, .int .u16 r.m]
def Rec.val (r : Rec) : Value := .agg r.arr
def Rec.ok (r : Rec) : Prop := (-9223372036854775808 ≤ r.kind ∧ r.kind ≤ 9223372036854775807) ∧ (0 ≤ r.gen ∧ r.gen ≤ 4294967295) ∧ (0 ≤ r.lsn ∧ r.lsn ≤ 4294967295) ∧ (0 ≤ r.id ∧ r.id ≤ 4294967295) ∧ (0 ≤ r.a ∧ r.a ≤ 4294967295) ∧ (-9223372036854775808 ≤ r.l ∧ r.l ≤ 9223372036854775807) ∧ (0 ≤ r.s ∧ r.s ≤ 4294967295) ∧ 0 ≤ r.m ∧ r.m ≤ 65535
def RecsOk (l : List Rec) : Prop := ∀ r ∈ l, r.ok
def recs (l : List Rec) : List Value := l.flatMap Rec.cells
theorem recs_get (l : List Rec) (k j : Nat) (hk : k < l.length) (hj : j < 9) : (recs l)[k * 9 + j]? = l[k].cells[j]? := flat_get Rec.cells 9 (fun _ => rfl) l k j hk hj
end Go.Proofs.Ytnfaeafplaeehaa
