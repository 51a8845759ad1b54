/-
  No cell of these rows narrows 'for every input' (looked for: loops, veiled, ifaces, maps, wideKeys, modest, calm, conditions, laid).
  DERIVED. THE GIVEN ROWS OF THIS SEAT. 9 by the template 'for every input the law returns true; each argument reads behind the call as it read before'; 0 by the template 'total and deterministic' (their statements: YtnfaeafplaeehaaTotals.lean).
  GIVEN WITH THE SEED: the statements are not yours to turn. If you find one false, say at which input.
  Laid BY PROGRAM, IN A SANDBOX (cutbox-rows.mjs): the forced cells as the released guide's own fill.sh prints them over the translation 8d959d28db52c136… (all of the seat's roots in one cut). By AI agents, Wed Nov 11 2026. No macro, syntax, notation, axiom, sorry.
-/
import Derived.Test.YtnfaeafplaeehaaChecked
import GoSem.Claim
import GoSem.ClaimJoined
import GoSem.ClaimMapViews
import Derived.JoinedTies
import Derived.KernelRfl
namespace Go.Proofs.Ytnfaeafplaeehaa
/- THE CELL 'sum', in the pinned program and in every row, IS THE sha256 OF THE DUMP (.gsa) THAT YtnfaeafplaeehaaProg.lean LOADS. Nothing in Lean hashes anything: it is a label: what it is worth is what the hold of that sum in a sandbox is worth. -/
noncomputable def Try.pinned : Pinned := { name := "ytnfaeafplaeehaa", sum := "8d959d28db52c1369c9ebcf44f311c919ef009eb76e43c617e0cd34cffb56fce", checked := Try.checked }
namespace Rows
def none {H : Type} : Left H := { results := [], args := [] }

/-- 'wayfarerlaw06.StateAllows': WHATEVER THE INPUT: true; the input reads as it did. -/
def stateAllowsSpec : ChangeSpec := { name := "stateAllows", fn := fun _ => fun
  | [d1, d2, d3] => { results := [.lit (.bool true)], args := [d1, d2, d3] }
  | _ => none }
def stateAllowsRow : OpenClaim := { program := "ytnfaeafplaeehaa", sum := "8d959d28db52c1369c9ebcf44f311c919ef009eb76e43c617e0cd34cffb56fce", func := "wayfarer/wayfarerlaw06.StateAllows", spec := "stateAllows", unfollowed := true, recurses := true, plainKeys := false, apart := false }
def StateAllowsSaid : Prop := stateAllowsRow.holds Try.pinned (OpenSpec.ofChange stateAllowsSpec)

/-- ITS FALSE NEIGHBOUR: 'it returns false'. Refute it at one input. -/
def stateAllowsWrong : ChangeSpec := { name := "stateAllows", fn := fun _ => fun
  | [d1, d2, d3] => { results := [.lit (.bool false)], args := [d1, d2, d3] }
  | _ => none }
def StateAllowsWrongFalsely : Prop := stateAllowsRow.holds Try.pinned (OpenSpec.ofChange stateAllowsWrong)

/-- 'wayfarerlaw06.StateGrows': WHATEVER THE INPUT: true; the input reads as it did. -/
def stateGrowsSpec : ChangeSpec := { name := "stateGrows", fn := fun _ => fun
  | [d1, d2, d3] => { results := [.lit (.bool true)], args := [d1, d2, d3] }
  | _ => none }
def stateGrowsRow : OpenClaim := { program := "ytnfaeafplaeehaa", sum := "8d959d28db52c1369c9ebcf44f311c919ef009eb76e43c617e0cd34cffb56fce", func := "wayfarer/wayfarerlaw06.StateGrows", spec := "stateGrows", unfollowed := true, recurses := true, plainKeys := false, apart := false }
def StateGrowsSaid : Prop := stateGrowsRow.holds Try.pinned (OpenSpec.ofChange stateGrowsSpec)

/-- ITS FALSE NEIGHBOUR: 'it returns false'. Refute it at one input. -/
def stateGrowsWrong : ChangeSpec := { name := "stateGrows", fn := fun _ => fun
  | [d1, d2, d3] => { results := [.lit (.bool false)], args := [d1, d2, d3] }
  | _ => none }
def StateGrowsWrongFalsely : Prop := stateGrowsRow.holds Try.pinned (OpenSpec.ofChange stateGrowsWrong)

/-- 'wayfarerlaw04.DiskSafe': WHATEVER THE INPUT: true; the input reads as it did. -/
def diskSafeSpec : ChangeSpec := { name := "diskSafe", fn := fun _ => fun
  | [d1, d2, d3] => { results := [.lit (.bool true)], args := [d1, d2, d3] }
  | _ => none }
def diskSafeRow : OpenClaim := { program := "ytnfaeafplaeehaa", sum := "8d959d28db52c1369c9ebcf44f311c919ef009eb76e43c617e0cd34cffb56fce", func := "wayfarer/wayfarerlaw04.DiskSafe", spec := "diskSafe", unfollowed := true, recurses := true, plainKeys := false, apart := false }
def DiskSafeSaid : Prop := diskSafeRow.holds Try.pinned (OpenSpec.ofChange diskSafeSpec)

/-- ITS FALSE NEIGHBOUR: 'it returns false'. Refute it at one input. -/
def diskSafeWrong : ChangeSpec := { name := "diskSafe", fn := fun _ => fun
  | [d1, d2, d3] => { results := [.lit (.bool false)], args := [d1, d2, d3] }
  | _ => none }
def DiskSafeWrongFalsely : Prop := diskSafeRow.holds Try.pinned (OpenSpec.ofChange diskSafeWrong)

/-- 'wayfarerlaw09.RouteEarly': WHATEVER THE INPUT: true; the input reads as it did. -/
def routeEarlySpec : ChangeSpec := { name := "routeEarly", fn := fun _ => fun
  | [d1, d2] => { results := [.lit (.bool true)], args := [d1, d2] }
  | _ => none }
def routeEarlyRow : OpenClaim := { program := "ytnfaeafplaeehaa", sum := "8d959d28db52c1369c9ebcf44f311c919ef009eb76e43c617e0cd34cffb56fce", func := "wayfarer/wayfarerlaw09.RouteEarly", spec := "routeEarly", unfollowed := true, recurses := true, plainKeys := false, apart := false }
def RouteEarlySaid : Prop := routeEarlyRow.holds Try.pinned (OpenSpec.ofChange routeEarlySpec)

/-- ITS FALSE NEIGHBOUR: 'it returns false'. Refute it at one input. -/
def routeEarlyWrong : ChangeSpec := { name := "routeEarly", fn := fun _ => fun
  | [d1, d2] => { results := [.lit (.bool false)], args := [d1, d2] }
  | _ => none }
def RouteEarlyWrongFalsely : Prop := routeEarlyRow.holds Try.pinned (OpenSpec.ofChange routeEarlyWrong)

/-- 'wayfarerlaw04.DiskActs': WHATEVER THE INPUT: true; the input reads as it did. -/
def diskActsSpec : ChangeSpec := { name := "diskActs", fn := fun _ => fun
  | [d1, d2] => { results := [.lit (.bool true)], args := [d1, d2] }
  | _ => none }
def diskActsRow : OpenClaim := { program := "ytnfaeafplaeehaa", sum := "8d959d28db52c1369c9ebcf44f311c919ef009eb76e43c617e0cd34cffb56fce", func := "wayfarer/wayfarerlaw04.DiskActs", spec := "diskActs", unfollowed := true, recurses := true, plainKeys := false, apart := false }
def DiskActsSaid : Prop := diskActsRow.holds Try.pinned (OpenSpec.ofChange diskActsSpec)

/-- ITS FALSE NEIGHBOUR: 'it returns false'. Refute it at one input. -/
def diskActsWrong : ChangeSpec := { name := "diskActs", fn := fun _ => fun
  | [d1, d2] => { results := [.lit (.bool false)], args := [d1, d2] }
  | _ => none }
def DiskActsWrongFalsely : Prop := diskActsRow.holds Try.pinned (OpenSpec.ofChange diskActsWrong)

/-- 'wayfarerlaw06.StateApplies': WHATEVER THE INPUT: true; the input reads as it did. -/
def stateAppliesSpec : ChangeSpec := { name := "stateApplies", fn := fun _ => fun
  | [d1, d2] => { results := [.lit (.bool true)], args := [d1, d2] }
  | _ => none }
def stateAppliesRow : OpenClaim := { program := "ytnfaeafplaeehaa", sum := "8d959d28db52c1369c9ebcf44f311c919ef009eb76e43c617e0cd34cffb56fce", func := "wayfarer/wayfarerlaw06.StateApplies", spec := "stateApplies", unfollowed := true, recurses := true, plainKeys := false, apart := false }
def StateAppliesSaid : Prop := stateAppliesRow.holds Try.pinned (OpenSpec.ofChange stateAppliesSpec)

/-- ITS FALSE NEIGHBOUR: 'it returns false'. Refute it at one input. -/
def stateAppliesWrong : ChangeSpec := { name := "stateApplies", fn := fun _ => fun
  | [d1, d2] => { results := [.lit (.bool false)], args := [d1, d2] }
  | _ => none }
def StateAppliesWrongFalsely : Prop := stateAppliesRow.holds Try.pinned (OpenSpec.ofChange stateAppliesWrong)

/-- 'wayfarerlaw09.RouteActs': WHATEVER THE INPUT: true; the input reads as it did. -/
def routeActsSpec : ChangeSpec := { name := "routeActs", fn := fun _ => fun
  | [d1, d2, d3] => { results := [.lit (.bool true)], args := [d1, d2, d3] }
  | _ => none }
def routeActsRow : OpenClaim := { program := "ytnfaeafplaeehaa", sum := "8d959d28db52c1369c9ebcf44f311c919ef009eb76e43c617e0cd34cffb56fce", func := "wayfarer/wayfarerlaw09.RouteActs", spec := "routeActs", unfollowed := true, recurses := true, plainKeys := false, apart := false }
def RouteActsSaid : Prop := routeActsRow.holds Try.pinned (OpenSpec.ofChange routeActsSpec)

/-- ITS FALSE NEIGHBOUR: 'it returns false'. Refute it at one input. -/
def routeActsWrong : ChangeSpec := { name := "routeActs", fn := fun _ => fun
  | [d1, d2, d3] => { results := [.lit (.bool false)], args := [d1, d2, d3] }
  | _ => none }
def RouteActsWrongFalsely : Prop := routeActsRow.holds Try.pinned (OpenSpec.ofChange routeActsWrong)

/-- 'wayfarerlaw06.StateAnew': WHATEVER THE INPUT: true; the input reads as it did. -/
def stateAnewSpec : ChangeSpec := { name := "stateAnew", fn := fun _ => fun
  | [d1, d2, d3] => { results := [.lit (.bool true)], args := [d1, d2, d3] }
  | _ => none }
def stateAnewRow : OpenClaim := { program := "ytnfaeafplaeehaa", sum := "8d959d28db52c1369c9ebcf44f311c919ef009eb76e43c617e0cd34cffb56fce", func := "wayfarer/wayfarerlaw06.StateAnew", spec := "stateAnew", unfollowed := true, recurses := true, plainKeys := false, apart := false }
def StateAnewSaid : Prop := stateAnewRow.holds Try.pinned (OpenSpec.ofChange stateAnewSpec)

/-- ITS FALSE NEIGHBOUR: 'it returns false'. Refute it at one input. -/
def stateAnewWrong : ChangeSpec := { name := "stateAnew", fn := fun _ => fun
  | [d1, d2, d3] => { results := [.lit (.bool false)], args := [d1, d2, d3] }
  | _ => none }
def StateAnewWrongFalsely : Prop := stateAnewRow.holds Try.pinned (OpenSpec.ofChange stateAnewWrong)

/-- 'wayfarerlaw07.WalSmall': WHATEVER THE INPUT: true; the input reads as it did. -/
def walSmallSpec : ChangeSpec := { name := "walSmall", fn := fun _ => fun
  | [d1, d2] => { results := [.lit (.bool true)], args := [d1, d2] }
  | _ => none }
def walSmallRow : OpenClaim := { program := "ytnfaeafplaeehaa", sum := "8d959d28db52c1369c9ebcf44f311c919ef009eb76e43c617e0cd34cffb56fce", func := "wayfarer/wayfarerlaw07.WalSmall", spec := "walSmall", unfollowed := true, recurses := true, plainKeys := false, apart := false }
def WalSmallSaid : Prop := walSmallRow.holds Try.pinned (OpenSpec.ofChange walSmallSpec)

/-- ITS FALSE NEIGHBOUR: 'it returns false'. Refute it at one input. -/
def walSmallWrong : ChangeSpec := { name := "walSmall", fn := fun _ => fun
  | [d1, d2] => { results := [.lit (.bool false)], args := [d1, d2] }
  | _ => none }
def WalSmallWrongFalsely : Prop := walSmallRow.holds Try.pinned (OpenSpec.ofChange walSmallWrong)

/- THE SECOND FORM. 'bulk': how many values and letters a reading holds, each counted each time it is reached (what is shared counts as often as it is met; a slice's spare places count too). A statement '..UptoSaid' is the law's where the arguments, and the package variables that the reading takes, are together of bulk at most 1048576: NARROWER than '..Said'. Prove '..Said' where nothing that the law and all that it calls make is longer than what came in: it says more and counts as full. Else prove '..UptoSaid'. A law counts once. -/
mutual
def uptoBulk {H : Type} : DataW H → Nat
  | .lit (.string bytes) => bytes.length + 1
  | .lit _ => 1
  | .nil => 1
  | .ptr d => uptoBulk d + 1
  | .slice elems spare => uptoBulkAll elems + uptoBulkAll spare + 1
  | .agg parts => uptoBulkAll parts + 1
  | .iface _ d => uptoBulk d + 1
  | .map entries => uptoBulkEntries entries + 1
  | .held _ => 1
def uptoBulkAll {H : Type} : List (DataW H) → Nat
  | [] => 0
  | d :: r => uptoBulk d + uptoBulkAll r
def uptoBulkEntries {H : Type} : List (Lit × DataW H) → Nat
  | [] => 0
  | x :: r => uptoBulkEntry x + uptoBulkEntries r
def uptoBulkEntry {H : Type} : Lit × DataW H → Nat
  | (.string bytes, d) => bytes.length + uptoBulk d + 1
  | (_, d) => uptoBulk d + 1
 end
def uptoSmall : (H : Type) → List (DataW H) → Bool := fun _ ds => decide (uptoBulkAll ds ≤ 1048576)
def OpenSpec.upto (s : _root_.Go.ChangeSpec) : _root_.Go.OpenSpec := { _root_.Go.OpenSpec.ofChange s with cond := some uptoSmall }

/-- 'wayfarerlaw06.StateAllows', WHERE WHAT IT READS IS OF BULK AT MOST 1048576: true; the input reads as it did. -/
def stateAllowsUptoRow : OpenClaim := { program := "ytnfaeafplaeehaa", sum := "8d959d28db52c1369c9ebcf44f311c919ef009eb76e43c617e0cd34cffb56fce", func := "wayfarer/wayfarerlaw06.StateAllows", spec := "stateAllows", unfollowed := true, recurses := true, plainKeys := false, apart := false, narrowed := true }
def StateAllowsUptoSaid : Prop := stateAllowsUptoRow.holds Try.pinned (OpenSpec.upto stateAllowsSpec)

/-- 'wayfarerlaw06.StateGrows', WHERE WHAT IT READS IS OF BULK AT MOST 1048576: true; the input reads as it did. -/
def stateGrowsUptoRow : OpenClaim := { program := "ytnfaeafplaeehaa", sum := "8d959d28db52c1369c9ebcf44f311c919ef009eb76e43c617e0cd34cffb56fce", func := "wayfarer/wayfarerlaw06.StateGrows", spec := "stateGrows", unfollowed := true, recurses := true, plainKeys := false, apart := false, narrowed := true }
def StateGrowsUptoSaid : Prop := stateGrowsUptoRow.holds Try.pinned (OpenSpec.upto stateGrowsSpec)

/-- 'wayfarerlaw04.DiskSafe', WHERE WHAT IT READS IS OF BULK AT MOST 1048576: true; the input reads as it did. -/
def diskSafeUptoRow : OpenClaim := { program := "ytnfaeafplaeehaa", sum := "8d959d28db52c1369c9ebcf44f311c919ef009eb76e43c617e0cd34cffb56fce", func := "wayfarer/wayfarerlaw04.DiskSafe", spec := "diskSafe", unfollowed := true, recurses := true, plainKeys := false, apart := false, narrowed := true }
def DiskSafeUptoSaid : Prop := diskSafeUptoRow.holds Try.pinned (OpenSpec.upto diskSafeSpec)

/-- 'wayfarerlaw09.RouteEarly', WHERE WHAT IT READS IS OF BULK AT MOST 1048576: true; the input reads as it did. -/
def routeEarlyUptoRow : OpenClaim := { program := "ytnfaeafplaeehaa", sum := "8d959d28db52c1369c9ebcf44f311c919ef009eb76e43c617e0cd34cffb56fce", func := "wayfarer/wayfarerlaw09.RouteEarly", spec := "routeEarly", unfollowed := true, recurses := true, plainKeys := false, apart := false, narrowed := true }
def RouteEarlyUptoSaid : Prop := routeEarlyUptoRow.holds Try.pinned (OpenSpec.upto routeEarlySpec)

/-- 'wayfarerlaw04.DiskActs', WHERE WHAT IT READS IS OF BULK AT MOST 1048576: true; the input reads as it did. -/
def diskActsUptoRow : OpenClaim := { program := "ytnfaeafplaeehaa", sum := "8d959d28db52c1369c9ebcf44f311c919ef009eb76e43c617e0cd34cffb56fce", func := "wayfarer/wayfarerlaw04.DiskActs", spec := "diskActs", unfollowed := true, recurses := true, plainKeys := false, apart := false, narrowed := true }
def DiskActsUptoSaid : Prop := diskActsUptoRow.holds Try.pinned (OpenSpec.upto diskActsSpec)

/-- 'wayfarerlaw06.StateApplies', WHERE WHAT IT READS IS OF BULK AT MOST 1048576: true; the input reads as it did. -/
def stateAppliesUptoRow : OpenClaim := { program := "ytnfaeafplaeehaa", sum := "8d959d28db52c1369c9ebcf44f311c919ef009eb76e43c617e0cd34cffb56fce", func := "wayfarer/wayfarerlaw06.StateApplies", spec := "stateApplies", unfollowed := true, recurses := true, plainKeys := false, apart := false, narrowed := true }
def StateAppliesUptoSaid : Prop := stateAppliesUptoRow.holds Try.pinned (OpenSpec.upto stateAppliesSpec)

/-- 'wayfarerlaw09.RouteActs', WHERE WHAT IT READS IS OF BULK AT MOST 1048576: true; the input reads as it did. -/
def routeActsUptoRow : OpenClaim := { program := "ytnfaeafplaeehaa", sum := "8d959d28db52c1369c9ebcf44f311c919ef009eb76e43c617e0cd34cffb56fce", func := "wayfarer/wayfarerlaw09.RouteActs", spec := "routeActs", unfollowed := true, recurses := true, plainKeys := false, apart := false, narrowed := true }
def RouteActsUptoSaid : Prop := routeActsUptoRow.holds Try.pinned (OpenSpec.upto routeActsSpec)

/-- 'wayfarerlaw06.StateAnew', WHERE WHAT IT READS IS OF BULK AT MOST 1048576: true; the input reads as it did. -/
def stateAnewUptoRow : OpenClaim := { program := "ytnfaeafplaeehaa", sum := "8d959d28db52c1369c9ebcf44f311c919ef009eb76e43c617e0cd34cffb56fce", func := "wayfarer/wayfarerlaw06.StateAnew", spec := "stateAnew", unfollowed := true, recurses := true, plainKeys := false, apart := false, narrowed := true }
def StateAnewUptoSaid : Prop := stateAnewUptoRow.holds Try.pinned (OpenSpec.upto stateAnewSpec)

/-- 'wayfarerlaw07.WalSmall', WHERE WHAT IT READS IS OF BULK AT MOST 1048576: true; the input reads as it did. -/
def walSmallUptoRow : OpenClaim := { program := "ytnfaeafplaeehaa", sum := "8d959d28db52c1369c9ebcf44f311c919ef009eb76e43c617e0cd34cffb56fce", func := "wayfarer/wayfarerlaw07.WalSmall", spec := "walSmall", unfollowed := true, recurses := true, plainKeys := false, apart := false, narrowed := true }
def WalSmallUptoSaid : Prop := walSmallUptoRow.holds Try.pinned (OpenSpec.upto walSmallSpec)

end Rows
end Go.Proofs.Ytnfaeafplaeehaa
