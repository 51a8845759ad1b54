import Derived.Test.YtnfaeafplaeehaaGreatMrgA
import Derived.Great.BuildSlice
set_option linter.unusedVariables false
set_option linter.unusedSimpArgs false
namespace Go.Proofs.YtnfaeafplaeehaaGreat
open Go.RowKit
/-! A slice literal of one struct: the walk's own simp is slow there in functions with many slots. -/
theorem wpList_build1 {P : Program} {ops : Array Oper} {rest : List Oper} {o : Oper} {a : Act} {w : World} {Q : Exit → Act → World → Prop} (hg : o.guard = none) (t e : TypeId) (x : Operand) (ho : o.op = .buildSlice t 1 #[(0, x)]) (cs : Array Value)
    (hu : P.underlying t = some (.slice e)) (hx : a.eval x = .agg cs) (ie : TypeInfo) (z : Value) (hie : P.info? e = some ie) (hz : ie.zero = some z) (hsmall : ¬ 1 * ie.size > 2 ^ 24) (hpos : ¬ 1 * ie.size = 0)
    (hf : Instr.fill (fun i => some (i * ie.size, ie.size)) ((Array.range (1 * ie.size)).map (z.cells[· % z.cells.size]!)) [(0, .agg cs)] = some cs)
    (h : wpList P ops Q rest (a.put o.dst (.slice (some ⟨w.heap.size, 0, none⟩) 1 1)) (w.alloc (.cells cs e))) : wpList P ops Q (o :: rest) a w := by
  refine wpList_buildSlice hg t e 1 #[(0, x)] ho cs ie z hu hie hz hsmall hpos ?_ h
  simpa [hx] using hf
end Go.Proofs.YtnfaeafplaeehaaGreat
