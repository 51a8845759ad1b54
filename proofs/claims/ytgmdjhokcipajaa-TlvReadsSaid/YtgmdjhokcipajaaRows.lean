/-
  No cell of these rows narrows 'for every input' (looked for: loops, veiled, ifaces, maps, wideKeys, modest, calm, conditions, laid).
  DERIVED. THE GIVEN ROWS OF THIS SEAT. 11 by the template 'for every input the law returns true; each argument reads behind the call as it read before'; 0 by the template 'total and deterministic' (their statements: YtgmdjhokcipajaaTotals.lean).
  GIVEN WITH THE SEED: the statements are not yours to turn. If you find one false, say at which input.
  Laid BY PROGRAM, IN A SANDBOX (cutbox-rows.mjs): the forced cells as the released guide's own fill.sh prints them over the translation 86425c7604559720… (all of the seat's roots in one cut). By AI agents, Wed Nov 11 2026. No macro, syntax, notation, axiom, sorry.
-/
import Derived.Test.YtgmdjhokcipajaaChecked
import GoSem.Claim
import GoSem.ClaimJoined
import GoSem.ClaimMapViews
import Derived.JoinedTies
import Derived.KernelRfl
namespace Go.Proofs.Ytgmdjhokcipajaa
/- THE CELL 'sum', in the pinned program and in every row, IS THE sha256 OF THE DUMP (.gsa) THAT YtgmdjhokcipajaaProg.lean LOADS. Nothing in Lean hashes anything: it is a label: what it is worth is what the hold of that sum in a sandbox is worth. -/
noncomputable def Try.pinned : Pinned := { name := "ytgmdjhokcipajaa", sum := "86425c76045597209c34b60c9810307973993fc6c0c50e53050eeefe7f0f815a", checked := Try.checked }
namespace Rows
def none {H : Type} : Left H := { results := [], args := [] }

/-- 'wayfarerlaw01.SumBits': WHATEVER THE INPUT: true; the input reads as it did. -/
def sumBitsSpec : ChangeSpec := { name := "sumBits", fn := fun _ => fun
  | [d] => { results := [.lit (.bool true)], args := [d] }
  | _ => none }
def sumBitsRow : OpenClaim := { program := "ytgmdjhokcipajaa", sum := "86425c76045597209c34b60c9810307973993fc6c0c50e53050eeefe7f0f815a", func := "wayfarer/wayfarerlaw01.SumBits", spec := "sumBits", apart := false }
def SumBitsSaid : Prop := sumBitsRow.holds Try.pinned (OpenSpec.ofChange sumBitsSpec)

/-- ITS FALSE NEIGHBOUR: 'it returns false'. Refute it at one input. -/
def sumBitsWrong : ChangeSpec := { name := "sumBits", fn := fun _ => fun
  | [d] => { results := [.lit (.bool false)], args := [d] }
  | _ => none }
def SumBitsWrongFalsely : Prop := sumBitsRow.holds Try.pinned (OpenSpec.ofChange sumBitsWrong)

/-- 'wayfarerlaw10.FibLookups': WHATEVER THE INPUT: true; the input reads as it did. -/
def fibLookupsSpec : ChangeSpec := { name := "fibLookups", fn := fun _ => fun
  | [d1, d2] => { results := [.lit (.bool true)], args := [d1, d2] }
  | _ => none }
def fibLookupsRow : OpenClaim := { program := "ytgmdjhokcipajaa", sum := "86425c76045597209c34b60c9810307973993fc6c0c50e53050eeefe7f0f815a", func := "wayfarer/wayfarerlaw10.FibLookups", spec := "fibLookups", apart := false }
def FibLookupsSaid : Prop := fibLookupsRow.holds Try.pinned (OpenSpec.ofChange fibLookupsSpec)

/-- ITS FALSE NEIGHBOUR: 'it returns false'. Refute it at one input. -/
def fibLookupsWrong : ChangeSpec := { name := "fibLookups", fn := fun _ => fun
  | [d1, d2] => { results := [.lit (.bool false)], args := [d1, d2] }
  | _ => none }
def FibLookupsWrongFalsely : Prop := fibLookupsRow.holds Try.pinned (OpenSpec.ofChange fibLookupsWrong)

/-- 'wayfarerlaw03.DistOrders': WHATEVER THE INPUT: true; the input reads as it did. -/
def distOrdersSpec : ChangeSpec := { name := "distOrders", fn := fun _ => fun
  | [d1, d2, d3] => { results := [.lit (.bool true)], args := [d1, d2, d3] }
  | _ => none }
def distOrdersRow : OpenClaim := { program := "ytgmdjhokcipajaa", sum := "86425c76045597209c34b60c9810307973993fc6c0c50e53050eeefe7f0f815a", func := "wayfarer/wayfarerlaw03.DistOrders", spec := "distOrders", apart := false }
def DistOrdersSaid : Prop := distOrdersRow.holds Try.pinned (OpenSpec.ofChange distOrdersSpec)

/-- ITS FALSE NEIGHBOUR: 'it returns false'. Refute it at one input. -/
def distOrdersWrong : ChangeSpec := { name := "distOrders", fn := fun _ => fun
  | [d1, d2, d3] => { results := [.lit (.bool false)], args := [d1, d2, d3] }
  | _ => none }
def DistOrdersWrongFalsely : Prop := distOrdersRow.holds Try.pinned (OpenSpec.ofChange distOrdersWrong)

/-- 'wayfarerlaw03.DistLinks': WHATEVER THE INPUT: true; the input reads as it did. -/
def distLinksSpec : ChangeSpec := { name := "distLinks", fn := fun _ => fun
  | [d1, d2, d3] => { results := [.lit (.bool true)], args := [d1, d2, d3] }
  | _ => none }
def distLinksRow : OpenClaim := { program := "ytgmdjhokcipajaa", sum := "86425c76045597209c34b60c9810307973993fc6c0c50e53050eeefe7f0f815a", func := "wayfarer/wayfarerlaw03.DistLinks", spec := "distLinks", apart := false }
def DistLinksSaid : Prop := distLinksRow.holds Try.pinned (OpenSpec.ofChange distLinksSpec)

/-- ITS FALSE NEIGHBOUR: 'it returns false'. Refute it at one input. -/
def distLinksWrong : ChangeSpec := { name := "distLinks", fn := fun _ => fun
  | [d1, d2, d3] => { results := [.lit (.bool false)], args := [d1, d2, d3] }
  | _ => none }
def DistLinksWrongFalsely : Prop := distLinksRow.holds Try.pinned (OpenSpec.ofChange distLinksWrong)

/-- 'wayfarerlaw03.DistPaths': WHATEVER THE INPUT: true; the input reads as it did. -/
def distPathsSpec : ChangeSpec := { name := "distPaths", fn := fun _ => fun
  | [d1, d2] => { results := [.lit (.bool true)], args := [d1, d2] }
  | _ => none }
def distPathsRow : OpenClaim := { program := "ytgmdjhokcipajaa", sum := "86425c76045597209c34b60c9810307973993fc6c0c50e53050eeefe7f0f815a", func := "wayfarer/wayfarerlaw03.DistPaths", spec := "distPaths", apart := false }
def DistPathsSaid : Prop := distPathsRow.holds Try.pinned (OpenSpec.ofChange distPathsSpec)

/-- ITS FALSE NEIGHBOUR: 'it returns false'. Refute it at one input. -/
def distPathsWrong : ChangeSpec := { name := "distPaths", fn := fun _ => fun
  | [d1, d2] => { results := [.lit (.bool false)], args := [d1, d2] }
  | _ => none }
def DistPathsWrongFalsely : Prop := distPathsRow.holds Try.pinned (OpenSpec.ofChange distPathsWrong)

/-- 'wayfarerlaw05.RecSectors': WHATEVER THE INPUT: true; the input reads as it did. -/
def recSectorsSpec : ChangeSpec := { name := "recSectors", fn := fun _ => fun
  | [d] => { results := [.lit (.bool true)], args := [d] }
  | _ => none }
def recSectorsRow : OpenClaim := { program := "ytgmdjhokcipajaa", sum := "86425c76045597209c34b60c9810307973993fc6c0c50e53050eeefe7f0f815a", func := "wayfarer/wayfarerlaw05.RecSectors", spec := "recSectors", apart := false }
def RecSectorsSaid : Prop := recSectorsRow.holds Try.pinned (OpenSpec.ofChange recSectorsSpec)

/-- ITS FALSE NEIGHBOUR: 'it returns false'. Refute it at one input. -/
def recSectorsWrong : ChangeSpec := { name := "recSectors", fn := fun _ => fun
  | [d] => { results := [.lit (.bool false)], args := [d] }
  | _ => none }
def RecSectorsWrongFalsely : Prop := recSectorsRow.holds Try.pinned (OpenSpec.ofChange recSectorsWrong)

/-- 'wayfarerlaw05.RecReads': WHATEVER THE INPUT: true; the input reads as it did. -/
def recReadsSpec : ChangeSpec := { name := "recReads", fn := fun _ => fun
  | [d1, d2] => { results := [.lit (.bool true)], args := [d1, d2] }
  | _ => none }
def recReadsRow : OpenClaim := { program := "ytgmdjhokcipajaa", sum := "86425c76045597209c34b60c9810307973993fc6c0c50e53050eeefe7f0f815a", func := "wayfarer/wayfarerlaw05.RecReads", spec := "recReads", unfollowed := true, recurses := true, apart := false }
def RecReadsSaid : Prop := recReadsRow.holds Try.pinned (OpenSpec.ofChange recReadsSpec)

/-- ITS FALSE NEIGHBOUR: 'it returns false'. Refute it at one input. -/
def recReadsWrong : ChangeSpec := { name := "recReads", fn := fun _ => fun
  | [d1, d2] => { results := [.lit (.bool false)], args := [d1, d2] }
  | _ => none }
def RecReadsWrongFalsely : Prop := recReadsRow.holds Try.pinned (OpenSpec.ofChange recReadsWrong)

/-- 'wayfarerlaw08.TlvTells': WHATEVER THE INPUT: true; the input reads as it did. -/
def tlvTellsSpec : ChangeSpec := { name := "tlvTells", fn := fun _ => fun
  | [d1, d2] => { results := [.lit (.bool true)], args := [d1, d2] }
  | _ => none }
def tlvTellsRow : OpenClaim := { program := "ytgmdjhokcipajaa", sum := "86425c76045597209c34b60c9810307973993fc6c0c50e53050eeefe7f0f815a", func := "wayfarer/wayfarerlaw08.TlvTells", spec := "tlvTells", apart := false }
def TlvTellsSaid : Prop := tlvTellsRow.holds Try.pinned (OpenSpec.ofChange tlvTellsSpec)

/-- ITS FALSE NEIGHBOUR: 'it returns false'. Refute it at one input. -/
def tlvTellsWrong : ChangeSpec := { name := "tlvTells", fn := fun _ => fun
  | [d1, d2] => { results := [.lit (.bool false)], args := [d1, d2] }
  | _ => none }
def TlvTellsWrongFalsely : Prop := tlvTellsRow.holds Try.pinned (OpenSpec.ofChange tlvTellsWrong)

/-- 'wayfarerlaw08.TlvReads': WHATEVER THE INPUT: true; the input reads as it did. -/
def tlvReadsSpec : ChangeSpec := { name := "tlvReads", fn := fun _ => fun
  | [d] => { results := [.lit (.bool true)], args := [d] }
  | _ => none }
def tlvReadsRow : OpenClaim := { program := "ytgmdjhokcipajaa", sum := "86425c76045597209c34b60c9810307973993fc6c0c50e53050eeefe7f0f815a", func := "wayfarer/wayfarerlaw08.TlvReads", spec := "tlvReads", apart := false }
def TlvReadsSaid : Prop := tlvReadsRow.holds Try.pinned (OpenSpec.ofChange tlvReadsSpec)

/-- ITS FALSE NEIGHBOUR: 'it returns false'. Refute it at one input. -/
def tlvReadsWrong : ChangeSpec := { name := "tlvReads", fn := fun _ => fun
  | [d] => { results := [.lit (.bool false)], args := [d] }
  | _ => none }
def TlvReadsWrongFalsely : Prop := tlvReadsRow.holds Try.pinned (OpenSpec.ofChange tlvReadsWrong)

/-- 'wayfarerlaw08.TlvCuts': WHATEVER THE INPUT: true; the input reads as it did. -/
def tlvCutsSpec : ChangeSpec := { name := "tlvCuts", fn := fun _ => fun
  | [d1, d2, d3] => { results := [.lit (.bool true)], args := [d1, d2, d3] }
  | _ => none }
def tlvCutsRow : OpenClaim := { program := "ytgmdjhokcipajaa", sum := "86425c76045597209c34b60c9810307973993fc6c0c50e53050eeefe7f0f815a", func := "wayfarer/wayfarerlaw08.TlvCuts", spec := "tlvCuts", apart := false }
def TlvCutsSaid : Prop := tlvCutsRow.holds Try.pinned (OpenSpec.ofChange tlvCutsSpec)

/-- ITS FALSE NEIGHBOUR: 'it returns false'. Refute it at one input. -/
def tlvCutsWrong : ChangeSpec := { name := "tlvCuts", fn := fun _ => fun
  | [d1, d2, d3] => { results := [.lit (.bool false)], args := [d1, d2, d3] }
  | _ => none }
def TlvCutsWrongFalsely : Prop := tlvCutsRow.holds Try.pinned (OpenSpec.ofChange tlvCutsWrong)

/-- 'wayfarerlaw08.TlvPads': WHATEVER THE INPUT: true; the input reads as it did. -/
def tlvPadsSpec : ChangeSpec := { name := "tlvPads", fn := fun _ => fun
  | [d1, d2, d3, d4] => { results := [.lit (.bool true)], args := [d1, d2, d3, d4] }
  | _ => none }
def tlvPadsRow : OpenClaim := { program := "ytgmdjhokcipajaa", sum := "86425c76045597209c34b60c9810307973993fc6c0c50e53050eeefe7f0f815a", func := "wayfarer/wayfarerlaw08.TlvPads", spec := "tlvPads", apart := false }
def TlvPadsSaid : Prop := tlvPadsRow.holds Try.pinned (OpenSpec.ofChange tlvPadsSpec)

/-- ITS FALSE NEIGHBOUR: 'it returns false'. Refute it at one input. -/
def tlvPadsWrong : ChangeSpec := { name := "tlvPads", fn := fun _ => fun
  | [d1, d2, d3, d4] => { results := [.lit (.bool false)], args := [d1, d2, d3, d4] }
  | _ => none }
def TlvPadsWrongFalsely : Prop := tlvPadsRow.holds Try.pinned (OpenSpec.ofChange tlvPadsWrong)

/- THE SECOND FORM. 'bulk': how many values and letters a reading holds, each counted each time it is reached (what is shared counts as often as it is met; a slice's spare places count too). A statement '..UptoSaid' is the law's where the arguments, and the package variables that the reading takes, are together of bulk at most 1048576: NARROWER than '..Said'. Prove '..Said' where nothing that the law and all that it calls make is longer than what came in: it says more and counts as full. Else prove '..UptoSaid'. A law counts once. -/
mutual
def uptoBulk {H : Type} : DataW H → Nat
  | .lit (.string bytes) => bytes.length + 1
  | .lit _ => 1
  | .nil => 1
  | .ptr d => uptoBulk d + 1
  | .slice elems spare => uptoBulkAll elems + uptoBulkAll spare + 1
  | .agg parts => uptoBulkAll parts + 1
  | .iface _ d => uptoBulk d + 1
  | .map entries => uptoBulkEntries entries + 1
  | .held _ => 1
def uptoBulkAll {H : Type} : List (DataW H) → Nat
  | [] => 0
  | d :: r => uptoBulk d + uptoBulkAll r
def uptoBulkEntries {H : Type} : List (Lit × DataW H) → Nat
  | [] => 0
  | x :: r => uptoBulkEntry x + uptoBulkEntries r
def uptoBulkEntry {H : Type} : Lit × DataW H → Nat
  | (.string bytes, d) => bytes.length + uptoBulk d + 1
  | (_, d) => uptoBulk d + 1
 end
def uptoSmall : (H : Type) → List (DataW H) → Bool := fun _ ds => decide (uptoBulkAll ds ≤ 1048576)
def OpenSpec.upto (s : _root_.Go.ChangeSpec) : _root_.Go.OpenSpec := { _root_.Go.OpenSpec.ofChange s with cond := some uptoSmall }

/-- 'wayfarerlaw01.SumBits', WHERE WHAT IT READS IS OF BULK AT MOST 1048576: true; the input reads as it did. -/
def sumBitsUptoRow : OpenClaim := { program := "ytgmdjhokcipajaa", sum := "86425c76045597209c34b60c9810307973993fc6c0c50e53050eeefe7f0f815a", func := "wayfarer/wayfarerlaw01.SumBits", spec := "sumBits", apart := false, narrowed := true }
def SumBitsUptoSaid : Prop := sumBitsUptoRow.holds Try.pinned (OpenSpec.upto sumBitsSpec)

/-- 'wayfarerlaw10.FibLookups', WHERE WHAT IT READS IS OF BULK AT MOST 1048576: true; the input reads as it did. -/
def fibLookupsUptoRow : OpenClaim := { program := "ytgmdjhokcipajaa", sum := "86425c76045597209c34b60c9810307973993fc6c0c50e53050eeefe7f0f815a", func := "wayfarer/wayfarerlaw10.FibLookups", spec := "fibLookups", apart := false, narrowed := true }
def FibLookupsUptoSaid : Prop := fibLookupsUptoRow.holds Try.pinned (OpenSpec.upto fibLookupsSpec)

/-- 'wayfarerlaw03.DistOrders', WHERE WHAT IT READS IS OF BULK AT MOST 1048576: true; the input reads as it did. -/
def distOrdersUptoRow : OpenClaim := { program := "ytgmdjhokcipajaa", sum := "86425c76045597209c34b60c9810307973993fc6c0c50e53050eeefe7f0f815a", func := "wayfarer/wayfarerlaw03.DistOrders", spec := "distOrders", apart := false, narrowed := true }
def DistOrdersUptoSaid : Prop := distOrdersUptoRow.holds Try.pinned (OpenSpec.upto distOrdersSpec)

/-- 'wayfarerlaw03.DistLinks', WHERE WHAT IT READS IS OF BULK AT MOST 1048576: true; the input reads as it did. -/
def distLinksUptoRow : OpenClaim := { program := "ytgmdjhokcipajaa", sum := "86425c76045597209c34b60c9810307973993fc6c0c50e53050eeefe7f0f815a", func := "wayfarer/wayfarerlaw03.DistLinks", spec := "distLinks", apart := false, narrowed := true }
def DistLinksUptoSaid : Prop := distLinksUptoRow.holds Try.pinned (OpenSpec.upto distLinksSpec)

/-- 'wayfarerlaw03.DistPaths', WHERE WHAT IT READS IS OF BULK AT MOST 1048576: true; the input reads as it did. -/
def distPathsUptoRow : OpenClaim := { program := "ytgmdjhokcipajaa", sum := "86425c76045597209c34b60c9810307973993fc6c0c50e53050eeefe7f0f815a", func := "wayfarer/wayfarerlaw03.DistPaths", spec := "distPaths", apart := false, narrowed := true }
def DistPathsUptoSaid : Prop := distPathsUptoRow.holds Try.pinned (OpenSpec.upto distPathsSpec)

/-- 'wayfarerlaw05.RecSectors', WHERE WHAT IT READS IS OF BULK AT MOST 1048576: true; the input reads as it did. -/
def recSectorsUptoRow : OpenClaim := { program := "ytgmdjhokcipajaa", sum := "86425c76045597209c34b60c9810307973993fc6c0c50e53050eeefe7f0f815a", func := "wayfarer/wayfarerlaw05.RecSectors", spec := "recSectors", apart := false, narrowed := true }
def RecSectorsUptoSaid : Prop := recSectorsUptoRow.holds Try.pinned (OpenSpec.upto recSectorsSpec)

/-- 'wayfarerlaw05.RecReads', WHERE WHAT IT READS IS OF BULK AT MOST 1048576: true; the input reads as it did. -/
def recReadsUptoRow : OpenClaim := { program := "ytgmdjhokcipajaa", sum := "86425c76045597209c34b60c9810307973993fc6c0c50e53050eeefe7f0f815a", func := "wayfarer/wayfarerlaw05.RecReads", spec := "recReads", unfollowed := true, recurses := true, apart := false, narrowed := true }
def RecReadsUptoSaid : Prop := recReadsUptoRow.holds Try.pinned (OpenSpec.upto recReadsSpec)

/-- 'wayfarerlaw08.TlvTells', WHERE WHAT IT READS IS OF BULK AT MOST 1048576: true; the input reads as it did. -/
def tlvTellsUptoRow : OpenClaim := { program := "ytgmdjhokcipajaa", sum := "86425c76045597209c34b60c9810307973993fc6c0c50e53050eeefe7f0f815a", func := "wayfarer/wayfarerlaw08.TlvTells", spec := "tlvTells", apart := false, narrowed := true }
def TlvTellsUptoSaid : Prop := tlvTellsUptoRow.holds Try.pinned (OpenSpec.upto tlvTellsSpec)

/-- 'wayfarerlaw08.TlvReads', WHERE WHAT IT READS IS OF BULK AT MOST 1048576: true; the input reads as it did. -/
def tlvReadsUptoRow : OpenClaim := { program := "ytgmdjhokcipajaa", sum := "86425c76045597209c34b60c9810307973993fc6c0c50e53050eeefe7f0f815a", func := "wayfarer/wayfarerlaw08.TlvReads", spec := "tlvReads", apart := false, narrowed := true }
def TlvReadsUptoSaid : Prop := tlvReadsUptoRow.holds Try.pinned (OpenSpec.upto tlvReadsSpec)

/-- 'wayfarerlaw08.TlvCuts', WHERE WHAT IT READS IS OF BULK AT MOST 1048576: true; the input reads as it did. -/
def tlvCutsUptoRow : OpenClaim := { program := "ytgmdjhokcipajaa", sum := "86425c76045597209c34b60c9810307973993fc6c0c50e53050eeefe7f0f815a", func := "wayfarer/wayfarerlaw08.TlvCuts", spec := "tlvCuts", apart := false, narrowed := true }
def TlvCutsUptoSaid : Prop := tlvCutsUptoRow.holds Try.pinned (OpenSpec.upto tlvCutsSpec)

/-- 'wayfarerlaw08.TlvPads', WHERE WHAT IT READS IS OF BULK AT MOST 1048576: true; the input reads as it did. -/
def tlvPadsUptoRow : OpenClaim := { program := "ytgmdjhokcipajaa", sum := "86425c76045597209c34b60c9810307973993fc6c0c50e53050eeefe7f0f815a", func := "wayfarer/wayfarerlaw08.TlvPads", spec := "tlvPads", apart := false, narrowed := true }
def TlvPadsUptoSaid : Prop := tlvPadsUptoRow.holds Try.pinned (OpenSpec.upto tlvPadsSpec)

end Rows
end Go.Proofs.Ytgmdjhokcipajaa
