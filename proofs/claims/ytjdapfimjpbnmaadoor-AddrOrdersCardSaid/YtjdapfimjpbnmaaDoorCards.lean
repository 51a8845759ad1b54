/-
  DERIVED. GIVEN WITH THE SEED: THE CARDS: each row of YtjdapfimjpbnmaaDoorRows.lean that lists a variable, with what it lists TIED to the program's text (the seventh form; the later family's looks); each row that meets fmt, with fmt's text TOLD by the authors' own Lean function (tested against real Go, not proved from fmt's source: count such statements apart). THE CARD IS WHAT COUNTS. Prove the row's statement (the work); the ties are given (YtjdapfimjpbnmaaDoorTie.lean); close each card by the builder's one call (the guide's Derived/Test/ToyasCard.lean, 'card_holds'). Laid BY PROGRAM, IN A SANDBOX (cutbox-door.mjs). By AI agents, Wed Nov 11 2026. No macro, syntax, notation, axiom, sorry.
-/
import Derived.Test.YtjdapfimjpbnmaaDoorRows
import GoSem.ClaimSeven
namespace Go.Proofs.YtjdapfimjpbnmaaDoor
namespace Rows

/-- THE TIED CARD OF 'wayfarerlaw02.AddrHas'. -/
def addrHasCard : Claim7 := { stood := { row := addrHasRow, standIns := [], harness := (true, "da1ca4d8859678844ed0c51ebae97dac5d95e2decaa12dafe5fa77c98ce43e15"), looks := true }, kinds := [], alts := [], laidByText := true, laidKinds := [.data, .data, .data, .data, .sentinel, .sentinel, .pinned], laidTests := true, laidLooks := .later }
def AddrHasCardSaid : Prop := Claim7.holds Tryd.pinned (.plain (OpenSpec.ofChange addrHasSpec)) addrHasCard

/-- THE TIED CARD OF 'wayfarerlaw02.AddrTexts'. -/
def addrTextsCard : Claim7 := { stood := { row := addrTextsRow, standIns := [], harness := (true, "da1ca4d8859678844ed0c51ebae97dac5d95e2decaa12dafe5fa77c98ce43e15"), looks := true }, kinds := [], alts := [], laidByText := true, laidKinds := [.data, .data, .data, .data, .sentinel, .sentinel, .pinned], laidTests := true, laidLooks := .later }
def AddrTextsCardSaid : Prop := Claim7.holds Tryd.pinned (.plain (OpenSpec.ofChange addrTextsSpec)) addrTextsCard

/-- THE TIED CARD OF 'wayfarerlaw02.AddrParses'. -/
def addrParsesCard : Claim7 := { stood := { row := addrParsesRow, standIns := [], harness := (true, "da1ca4d8859678844ed0c51ebae97dac5d95e2decaa12dafe5fa77c98ce43e15"), looks := true }, kinds := [], alts := [], laidByText := true, laidKinds := [.data, .data, .data, .data, .sentinel, .sentinel, .pinned], laidTests := true, laidLooks := .later }
def AddrParsesCardSaid : Prop := Claim7.holds Tryd.pinned (.plain (OpenSpec.ofChange addrParsesSpec)) addrParsesCard

/-- THE TIED CARD OF 'wayfarerlaw02.AddrOrders'. -/
def addrOrdersCard : Claim7 := { stood := { row := addrOrdersRow, standIns := [], harness := (true, "da1ca4d8859678844ed0c51ebae97dac5d95e2decaa12dafe5fa77c98ce43e15"), looks := true }, kinds := [], alts := [], laidByText := true, laidKinds := [.data, .data, .data, .data, .sentinel, .sentinel, .pinned], laidTests := true, laidLooks := .later }
def AddrOrdersCardSaid : Prop := Claim7.holds Tryd.pinned (.plain (OpenSpec.ofChange addrOrdersSpec)) addrOrdersCard

/-- THE SECOND FORM's CARD OF 'wayfarerlaw02.AddrHas'. -/
def addrHasUptoCard : Claim7 := { stood := { row := addrHasUptoRow, standIns := [], harness := (true, "da1ca4d8859678844ed0c51ebae97dac5d95e2decaa12dafe5fa77c98ce43e15"), looks := true }, kinds := [], alts := [], laidByText := true, laidKinds := [.data, .data, .data, .data, .sentinel, .sentinel, .pinned], laidTests := true, laidLooks := .later }
def AddrHasUptoCardSaid : Prop := Claim7.holds Tryd.pinned (.plain (OpenSpec.upto addrHasSpec)) addrHasUptoCard

/-- THE SECOND FORM's CARD OF 'wayfarerlaw02.AddrTexts'. -/
def addrTextsUptoCard : Claim7 := { stood := { row := addrTextsUptoRow, standIns := [], harness := (true, "da1ca4d8859678844ed0c51ebae97dac5d95e2decaa12dafe5fa77c98ce43e15"), looks := true }, kinds := [], alts := [], laidByText := true, laidKinds := [.data, .data, .data, .data, .sentinel, .sentinel, .pinned], laidTests := true, laidLooks := .later }
def AddrTextsUptoCardSaid : Prop := Claim7.holds Tryd.pinned (.plain (OpenSpec.upto addrTextsSpec)) addrTextsUptoCard

/-- THE SECOND FORM's CARD OF 'wayfarerlaw02.AddrParses'. -/
def addrParsesUptoCard : Claim7 := { stood := { row := addrParsesUptoRow, standIns := [], harness := (true, "da1ca4d8859678844ed0c51ebae97dac5d95e2decaa12dafe5fa77c98ce43e15"), looks := true }, kinds := [], alts := [], laidByText := true, laidKinds := [.data, .data, .data, .data, .sentinel, .sentinel, .pinned], laidTests := true, laidLooks := .later }
def AddrParsesUptoCardSaid : Prop := Claim7.holds Tryd.pinned (.plain (OpenSpec.upto addrParsesSpec)) addrParsesUptoCard

/-- THE SECOND FORM's CARD OF 'wayfarerlaw02.AddrOrders'. -/
def addrOrdersUptoCard : Claim7 := { stood := { row := addrOrdersUptoRow, standIns := [], harness := (true, "da1ca4d8859678844ed0c51ebae97dac5d95e2decaa12dafe5fa77c98ce43e15"), looks := true }, kinds := [], alts := [], laidByText := true, laidKinds := [.data, .data, .data, .data, .sentinel, .sentinel, .pinned], laidTests := true, laidLooks := .later }
def AddrOrdersUptoCardSaid : Prop := Claim7.holds Tryd.pinned (.plain (OpenSpec.upto addrOrdersSpec)) addrOrdersUptoCard
end Rows
end Go.Proofs.YtjdapfimjpbnmaaDoor
