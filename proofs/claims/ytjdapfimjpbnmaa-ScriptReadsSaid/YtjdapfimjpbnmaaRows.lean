/-
  No cell of these rows narrows 'for every input' (looked for: loops, veiled, ifaces, maps, wideKeys, modest, calm, conditions, laid).
  DERIVED. THE GIVEN ROWS OF THIS SEAT. 7 by the template 'for every input the law returns true; each argument reads behind the call as it read before'; 0 by the template 'total and deterministic' (their statements: YtjdapfimjpbnmaaTotals.lean).
  GIVEN WITH THE SEED: the statements are not yours to turn. If you find one false, say at which input.
  Laid BY PROGRAM, IN A SANDBOX (cutbox-rows.mjs): the forced cells as the released guide's own fill.sh prints them over the translation c192978627cafd83… (all of the seat's roots in one cut). By AI agents, Wed Nov 11 2026. No macro, syntax, notation, axiom, sorry.
-/
import Derived.Test.YtjdapfimjpbnmaaChecked
import GoSem.Claim
import GoSem.ClaimJoined
import GoSem.ClaimMapViews
import Derived.JoinedTies
import Derived.KernelRfl
namespace Go.Proofs.Ytjdapfimjpbnmaa
/- THE CELL 'sum', in the pinned program and in every row, IS THE sha256 OF THE DUMP (.gsa) THAT YtjdapfimjpbnmaaProg.lean LOADS. Nothing in Lean hashes anything: it is a label: what it is worth is what the hold of that sum in a sandbox is worth. -/
noncomputable def Try.pinned : Pinned := { name := "ytjdapfimjpbnmaa", sum := "c192978627cafd83c5dd85dac12fc4f6d7b456cdf719dacef7e11b99a952eb93", checked := Try.checked }
namespace Rows
def none {H : Type} : Left H := { results := [], args := [] }

/-- 'wayfarerlaw14.ScriptBytes': WHATEVER THE INPUT: true; the input reads as it did. -/
def scriptBytesSpec : ChangeSpec := { name := "scriptBytes", fn := fun _ => fun
  | [d1, d2, d3] => { results := [.lit (.bool true)], args := [d1, d2, d3] }
  | _ => none }
def scriptBytesRow : OpenClaim := { program := "ytjdapfimjpbnmaa", sum := "c192978627cafd83c5dd85dac12fc4f6d7b456cdf719dacef7e11b99a952eb93", func := "wayfarer/wayfarerlaw14.ScriptBytes", spec := "scriptBytes", apart := false }
def ScriptBytesSaid : Prop := scriptBytesRow.holds Try.pinned (OpenSpec.ofChange scriptBytesSpec)

/-- ITS FALSE NEIGHBOUR: 'it returns false'. Refute it at one input. -/
def scriptBytesWrong : ChangeSpec := { name := "scriptBytes", fn := fun _ => fun
  | [d1, d2, d3] => { results := [.lit (.bool false)], args := [d1, d2, d3] }
  | _ => none }
def ScriptBytesWrongFalsely : Prop := scriptBytesRow.holds Try.pinned (OpenSpec.ofChange scriptBytesWrong)

/-- 'wayfarerlaw14.ScriptReads': WHATEVER THE INPUT: true; the input reads as it did. -/
def scriptReadsSpec : ChangeSpec := { name := "scriptReads", fn := fun _ => fun
  | [d] => { results := [.lit (.bool true)], args := [d] }
  | _ => none }
def scriptReadsRow : OpenClaim := { program := "ytjdapfimjpbnmaa", sum := "c192978627cafd83c5dd85dac12fc4f6d7b456cdf719dacef7e11b99a952eb93", func := "wayfarer/wayfarerlaw14.ScriptReads", spec := "scriptReads", unfollowed := true, recurses := true, apart := false }
def ScriptReadsSaid : Prop := scriptReadsRow.holds Try.pinned (OpenSpec.ofChange scriptReadsSpec)

/-- ITS FALSE NEIGHBOUR: 'it returns false'. Refute it at one input. -/
def scriptReadsWrong : ChangeSpec := { name := "scriptReads", fn := fun _ => fun
  | [d] => { results := [.lit (.bool false)], args := [d] }
  | _ => none }
def ScriptReadsWrongFalsely : Prop := scriptReadsRow.holds Try.pinned (OpenSpec.ofChange scriptReadsWrong)

/-- 'wayfarerlaw14.ScriptMany': WHATEVER THE INPUT: true; the input reads as it did. -/
def scriptManySpec : ChangeSpec := { name := "scriptMany", fn := fun _ => fun
  | [d] => { results := [.lit (.bool true)], args := [d] }
  | _ => none }
def scriptManyRow : OpenClaim := { program := "ytjdapfimjpbnmaa", sum := "c192978627cafd83c5dd85dac12fc4f6d7b456cdf719dacef7e11b99a952eb93", func := "wayfarer/wayfarerlaw14.ScriptMany", spec := "scriptMany", apart := false }
def ScriptManySaid : Prop := scriptManyRow.holds Try.pinned (OpenSpec.ofChange scriptManySpec)

/-- ITS FALSE NEIGHBOUR: 'it returns false'. Refute it at one input. -/
def scriptManyWrong : ChangeSpec := { name := "scriptMany", fn := fun _ => fun
  | [d] => { results := [.lit (.bool false)], args := [d] }
  | _ => none }
def ScriptManyWrongFalsely : Prop := scriptManyRow.holds Try.pinned (OpenSpec.ofChange scriptManyWrong)

/-- 'wayfarerlaw14.ScriptPicks': WHATEVER THE INPUT: true; the input reads as it did. -/
def scriptPicksSpec : ChangeSpec := { name := "scriptPicks", fn := fun _ => fun
  | [d] => { results := [.lit (.bool true)], args := [d] }
  | _ => none }
def scriptPicksRow : OpenClaim := { program := "ytjdapfimjpbnmaa", sum := "c192978627cafd83c5dd85dac12fc4f6d7b456cdf719dacef7e11b99a952eb93", func := "wayfarer/wayfarerlaw14.ScriptPicks", spec := "scriptPicks", apart := false }
def ScriptPicksSaid : Prop := scriptPicksRow.holds Try.pinned (OpenSpec.ofChange scriptPicksSpec)

/-- ITS FALSE NEIGHBOUR: 'it returns false'. Refute it at one input. -/
def scriptPicksWrong : ChangeSpec := { name := "scriptPicks", fn := fun _ => fun
  | [d] => { results := [.lit (.bool false)], args := [d] }
  | _ => none }
def ScriptPicksWrongFalsely : Prop := scriptPicksRow.holds Try.pinned (OpenSpec.ofChange scriptPicksWrong)

/-- 'wayfarerlaw10.FibSorts': WHATEVER THE INPUT: true; the input reads as it did. -/
def fibSortsSpec : ChangeSpec := { name := "fibSorts", fn := fun _ => fun
  | [d1, d2] => { results := [.lit (.bool true)], args := [d1, d2] }
  | _ => none }
def fibSortsRow : OpenClaim := { program := "ytjdapfimjpbnmaa", sum := "c192978627cafd83c5dd85dac12fc4f6d7b456cdf719dacef7e11b99a952eb93", func := "wayfarer/wayfarerlaw10.FibSorts", spec := "fibSorts", unfollowed := true, recurses := true, apart := false }
def FibSortsSaid : Prop := fibSortsRow.holds Try.pinned (OpenSpec.ofChange fibSortsSpec)

/-- ITS FALSE NEIGHBOUR: 'it returns false'. Refute it at one input. -/
def fibSortsWrong : ChangeSpec := { name := "fibSorts", fn := fun _ => fun
  | [d1, d2] => { results := [.lit (.bool false)], args := [d1, d2] }
  | _ => none }
def FibSortsWrongFalsely : Prop := fibSortsRow.holds Try.pinned (OpenSpec.ofChange fibSortsWrong)

/-- 'wayfarerlaw13.LoopWalks': WHATEVER THE INPUT: true; the input reads as it did. -/
def loopWalksSpec : ChangeSpec := { name := "loopWalks", fn := fun _ => fun
  | [d1, d2, d3, d4] => { results := [.lit (.bool true)], args := [d1, d2, d3, d4] }
  | _ => none }
def loopWalksRow : OpenClaim := { program := "ytjdapfimjpbnmaa", sum := "c192978627cafd83c5dd85dac12fc4f6d7b456cdf719dacef7e11b99a952eb93", func := "wayfarer/wayfarerlaw13.LoopWalks", spec := "loopWalks", unfollowed := true, recurses := true, apart := false }
def LoopWalksSaid : Prop := loopWalksRow.holds Try.pinned (OpenSpec.ofChange loopWalksSpec)

/-- ITS FALSE NEIGHBOUR: 'it returns false'. Refute it at one input. -/
def loopWalksWrong : ChangeSpec := { name := "loopWalks", fn := fun _ => fun
  | [d1, d2, d3, d4] => { results := [.lit (.bool false)], args := [d1, d2, d3, d4] }
  | _ => none }
def LoopWalksWrongFalsely : Prop := loopWalksRow.holds Try.pinned (OpenSpec.ofChange loopWalksWrong)

/-- 'wayfarerlaw13.LoopAround': WHATEVER THE INPUT: true; the input reads as it did. -/
def loopAroundSpec : ChangeSpec := { name := "loopAround", fn := fun _ => fun
  | [d1, d2, d3] => { results := [.lit (.bool true)], args := [d1, d2, d3] }
  | _ => none }
def loopAroundRow : OpenClaim := { program := "ytjdapfimjpbnmaa", sum := "c192978627cafd83c5dd85dac12fc4f6d7b456cdf719dacef7e11b99a952eb93", func := "wayfarer/wayfarerlaw13.LoopAround", spec := "loopAround", unfollowed := true, recurses := true, apart := false }
def LoopAroundSaid : Prop := loopAroundRow.holds Try.pinned (OpenSpec.ofChange loopAroundSpec)

/-- ITS FALSE NEIGHBOUR: 'it returns false'. Refute it at one input. -/
def loopAroundWrong : ChangeSpec := { name := "loopAround", fn := fun _ => fun
  | [d1, d2, d3] => { results := [.lit (.bool false)], args := [d1, d2, d3] }
  | _ => none }
def LoopAroundWrongFalsely : Prop := loopAroundRow.holds Try.pinned (OpenSpec.ofChange loopAroundWrong)

/- THE SECOND FORM. 'bulk': how many values and letters a reading holds, each counted each time it is reached (what is shared counts as often as it is met; a slice's spare places count too). A statement '..UptoSaid' is the law's where the arguments, and the package variables that the reading takes, are together of bulk at most 1048576: NARROWER than '..Said'. Prove '..Said' where nothing that the law and all that it calls make is longer than what came in: it says more and counts as full. Else prove '..UptoSaid'. A law counts once. -/
mutual
def uptoBulk {H : Type} : DataW H → Nat
  | .lit (.string bytes) => bytes.length + 1
  | .lit _ => 1
  | .nil => 1
  | .ptr d => uptoBulk d + 1
  | .slice elems spare => uptoBulkAll elems + uptoBulkAll spare + 1
  | .agg parts => uptoBulkAll parts + 1
  | .iface _ d => uptoBulk d + 1
  | .map entries => uptoBulkEntries entries + 1
  | .held _ => 1
def uptoBulkAll {H : Type} : List (DataW H) → Nat
  | [] => 0
  | d :: r => uptoBulk d + uptoBulkAll r
def uptoBulkEntries {H : Type} : List (Lit × DataW H) → Nat
  | [] => 0
  | x :: r => uptoBulkEntry x + uptoBulkEntries r
def uptoBulkEntry {H : Type} : Lit × DataW H → Nat
  | (.string bytes, d) => bytes.length + uptoBulk d + 1
  | (_, d) => uptoBulk d + 1
 end
def uptoSmall : (H : Type) → List (DataW H) → Bool := fun _ ds => decide (uptoBulkAll ds ≤ 1048576)
def OpenSpec.upto (s : _root_.Go.ChangeSpec) : _root_.Go.OpenSpec := { _root_.Go.OpenSpec.ofChange s with cond := some uptoSmall }

/-- 'wayfarerlaw14.ScriptBytes', WHERE WHAT IT READS IS OF BULK AT MOST 1048576: true; the input reads as it did. -/
def scriptBytesUptoRow : OpenClaim := { program := "ytjdapfimjpbnmaa", sum := "c192978627cafd83c5dd85dac12fc4f6d7b456cdf719dacef7e11b99a952eb93", func := "wayfarer/wayfarerlaw14.ScriptBytes", spec := "scriptBytes", apart := false, narrowed := true }
def ScriptBytesUptoSaid : Prop := scriptBytesUptoRow.holds Try.pinned (OpenSpec.upto scriptBytesSpec)

/-- 'wayfarerlaw14.ScriptReads', WHERE WHAT IT READS IS OF BULK AT MOST 1048576: true; the input reads as it did. -/
def scriptReadsUptoRow : OpenClaim := { program := "ytjdapfimjpbnmaa", sum := "c192978627cafd83c5dd85dac12fc4f6d7b456cdf719dacef7e11b99a952eb93", func := "wayfarer/wayfarerlaw14.ScriptReads", spec := "scriptReads", unfollowed := true, recurses := true, apart := false, narrowed := true }
def ScriptReadsUptoSaid : Prop := scriptReadsUptoRow.holds Try.pinned (OpenSpec.upto scriptReadsSpec)

/-- 'wayfarerlaw14.ScriptMany', WHERE WHAT IT READS IS OF BULK AT MOST 1048576: true; the input reads as it did. -/
def scriptManyUptoRow : OpenClaim := { program := "ytjdapfimjpbnmaa", sum := "c192978627cafd83c5dd85dac12fc4f6d7b456cdf719dacef7e11b99a952eb93", func := "wayfarer/wayfarerlaw14.ScriptMany", spec := "scriptMany", apart := false, narrowed := true }
def ScriptManyUptoSaid : Prop := scriptManyUptoRow.holds Try.pinned (OpenSpec.upto scriptManySpec)

/-- 'wayfarerlaw14.ScriptPicks', WHERE WHAT IT READS IS OF BULK AT MOST 1048576: true; the input reads as it did. -/
def scriptPicksUptoRow : OpenClaim := { program := "ytjdapfimjpbnmaa", sum := "c192978627cafd83c5dd85dac12fc4f6d7b456cdf719dacef7e11b99a952eb93", func := "wayfarer/wayfarerlaw14.ScriptPicks", spec := "scriptPicks", apart := false, narrowed := true }
def ScriptPicksUptoSaid : Prop := scriptPicksUptoRow.holds Try.pinned (OpenSpec.upto scriptPicksSpec)

/-- 'wayfarerlaw10.FibSorts', WHERE WHAT IT READS IS OF BULK AT MOST 1048576: true; the input reads as it did. -/
def fibSortsUptoRow : OpenClaim := { program := "ytjdapfimjpbnmaa", sum := "c192978627cafd83c5dd85dac12fc4f6d7b456cdf719dacef7e11b99a952eb93", func := "wayfarer/wayfarerlaw10.FibSorts", spec := "fibSorts", unfollowed := true, recurses := true, apart := false, narrowed := true }
def FibSortsUptoSaid : Prop := fibSortsUptoRow.holds Try.pinned (OpenSpec.upto fibSortsSpec)

/-- 'wayfarerlaw13.LoopWalks', WHERE WHAT IT READS IS OF BULK AT MOST 1048576: true; the input reads as it did. -/
def loopWalksUptoRow : OpenClaim := { program := "ytjdapfimjpbnmaa", sum := "c192978627cafd83c5dd85dac12fc4f6d7b456cdf719dacef7e11b99a952eb93", func := "wayfarer/wayfarerlaw13.LoopWalks", spec := "loopWalks", unfollowed := true, recurses := true, apart := false, narrowed := true }
def LoopWalksUptoSaid : Prop := loopWalksUptoRow.holds Try.pinned (OpenSpec.upto loopWalksSpec)

/-- 'wayfarerlaw13.LoopAround', WHERE WHAT IT READS IS OF BULK AT MOST 1048576: true; the input reads as it did. -/
def loopAroundUptoRow : OpenClaim := { program := "ytjdapfimjpbnmaa", sum := "c192978627cafd83c5dd85dac12fc4f6d7b456cdf719dacef7e11b99a952eb93", func := "wayfarer/wayfarerlaw13.LoopAround", spec := "loopAround", unfollowed := true, recurses := true, apart := false, narrowed := true }
def LoopAroundUptoSaid : Prop := loopAroundUptoRow.holds Try.pinned (OpenSpec.upto loopAroundSpec)

end Rows
end Go.Proofs.Ytjdapfimjpbnmaa
