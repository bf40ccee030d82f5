/-
  DERIVED. GIVEN WITH THE SEED: THE CARDS: each row of YtipokgedmfnlaaaGreatDoorRows.lean that lists a variable, with what it lists TIED to the program's text (the seventh form; the later family's looks); each row that meets fmt, with fmt's text TOLD by the authors' own Lean function (tested against real Go, not proved from fmt's source: count such statements apart). THE CARD IS WHAT COUNTS. Prove the row's statement (the work); the ties are given (YtipokgedmfnlaaaGreatDoorTie.lean); close each card by the builder's one call (the guide's Derived/Test/ToyasCard.lean, 'card_holds'). Laid BY PROGRAM, IN A SANDBOX (cutbox-door.mjs). By AI agents, Wed Nov 11 2026. No macro, syntax, notation, axiom, sorry.
-/
import Derived.Test.YtipokgedmfnlaaaGreatDoorRows
import GoSem.ClaimSeven
namespace Go.Proofs.YtipokgedmfnlaaaGreatDoor
namespace Rows

/-- THE TIED CARD OF 'umlautlaw23.ExecClasses'. -/
def execClassesCard : Claim7 := { stood := { row := execClassesRow, standIns := [], harness := (true, "b26c85b323089ed9ee57108e3203fb21bf333092d8f9eb805f92bfb6c01f4da6"), looks := true }, kinds := [], alts := [], laidByText := true, laidKinds := [.data, .pinned], laidTests := true, laidLooks := .later }
def ExecClassesCardSaid : Prop := Claim7.holds Tryz.pinned (.plain (OpenSpec.ofChange execClassesSpec)) execClassesCard

/-- THE TIED CARD OF 'umlautlaw23.ExecGroups'. -/
def execGroupsCard : Claim7 := { stood := { row := execGroupsRow, standIns := [], harness := (true, "b26c85b323089ed9ee57108e3203fb21bf333092d8f9eb805f92bfb6c01f4da6"), looks := true }, kinds := [], alts := [], laidByText := true, laidKinds := [.data, .pinned], laidTests := true, laidLooks := .later }
def ExecGroupsCardSaid : Prop := Claim7.holds Tryz.pinned (.plain (OpenSpec.ofChange execGroupsSpec)) execGroupsCard

/-- THE TIED CARD OF 'umlautlaw10.RegPlays'. -/
def regPlaysCard : Claim7 := { stood := { row := regPlaysRow, standIns := [], harness := (true, "b26c85b323089ed9ee57108e3203fb21bf333092d8f9eb805f92bfb6c01f4da6"), looks := true }, kinds := [], alts := [], laidByText := true, laidKinds := [.data, .pinned], laidTests := true, laidLooks := .later }
def RegPlaysCardSaid : Prop := Claim7.holds Tryz.pinned (.plain (OpenSpec.ofChange regPlaysSpec)) regPlaysCard

/-- THE TIED CARD OF 'umlautlaw11.ValCompares'. -/
def valComparesCard : Claim7 := { stood := { row := valComparesRow, standIns := [], harness := (true, "b26c85b323089ed9ee57108e3203fb21bf333092d8f9eb805f92bfb6c01f4da6"), looks := true }, kinds := [], alts := [], laidByText := true, laidKinds := [.data, .data, .data, .data, .pinned], laidTests := true, laidLooks := .later }
def ValComparesCardSaid : Prop := Claim7.holds Tryz.pinned (.plain (OpenSpec.ofChange valComparesSpec)) valComparesCard

/-- THE TIED CARD OF 'umlautlaw11.ValChains'. -/
def valChainsCard : Claim7 := { stood := { row := valChainsRow, standIns := [], harness := (true, "b26c85b323089ed9ee57108e3203fb21bf333092d8f9eb805f92bfb6c01f4da6"), looks := true }, kinds := [], alts := [], laidByText := true, laidKinds := [.data, .data, .data, .data, .pinned], laidTests := true, laidLooks := .later }
def ValChainsCardSaid : Prop := Claim7.holds Tryz.pinned (.plain (OpenSpec.ofChange valChainsSpec)) valChainsCard

/-- THE TIED CARD OF 'umlautlaw23.ExecStable'. -/
def execStableCard : Claim7 := { stood := { row := execStableRow, standIns := [], harness := (true, "b26c85b323089ed9ee57108e3203fb21bf333092d8f9eb805f92bfb6c01f4da6"), looks := true }, kinds := [], alts := [], laidByText := true, laidKinds := [.data, .pinned], laidTests := true, laidLooks := .later }
def ExecStableCardSaid : Prop := Claim7.holds Tryz.pinned (.plain (OpenSpec.ofChange execStableSpec)) execStableCard

/-- THE TIED CARD OF 'umlautlaw23.ExecOrders'. -/
def execOrdersCard : Claim7 := { stood := { row := execOrdersRow, standIns := [], harness := (true, "b26c85b323089ed9ee57108e3203fb21bf333092d8f9eb805f92bfb6c01f4da6"), looks := true }, kinds := [], alts := [], laidByText := true, laidKinds := [.data, .pinned], laidTests := true, laidLooks := .later }
def ExecOrdersCardSaid : Prop := Claim7.holds Tryz.pinned (.plain (OpenSpec.ofChange execOrdersSpec)) execOrdersCard

/-- THE SECOND FORM's CARD OF 'umlautlaw23.ExecClasses'. -/
def execClassesUptoCard : Claim7 := { stood := { row := execClassesUptoRow, standIns := [], harness := (true, "b26c85b323089ed9ee57108e3203fb21bf333092d8f9eb805f92bfb6c01f4da6"), looks := true }, kinds := [], alts := [], laidByText := true, laidKinds := [.data, .pinned], laidTests := true, laidLooks := .later }
def ExecClassesUptoCardSaid : Prop := Claim7.holds Tryz.pinned (.plain (OpenSpec.upto execClassesSpec)) execClassesUptoCard

/-- THE SECOND FORM's CARD OF 'umlautlaw23.ExecGroups'. -/
def execGroupsUptoCard : Claim7 := { stood := { row := execGroupsUptoRow, standIns := [], harness := (true, "b26c85b323089ed9ee57108e3203fb21bf333092d8f9eb805f92bfb6c01f4da6"), looks := true }, kinds := [], alts := [], laidByText := true, laidKinds := [.data, .pinned], laidTests := true, laidLooks := .later }
def ExecGroupsUptoCardSaid : Prop := Claim7.holds Tryz.pinned (.plain (OpenSpec.upto execGroupsSpec)) execGroupsUptoCard

/-- THE SECOND FORM's CARD OF 'umlautlaw10.RegPlays'. -/
def regPlaysUptoCard : Claim7 := { stood := { row := regPlaysUptoRow, standIns := [], harness := (true, "b26c85b323089ed9ee57108e3203fb21bf333092d8f9eb805f92bfb6c01f4da6"), looks := true }, kinds := [], alts := [], laidByText := true, laidKinds := [.data, .pinned], laidTests := true, laidLooks := .later }
def RegPlaysUptoCardSaid : Prop := Claim7.holds Tryz.pinned (.plain (OpenSpec.upto regPlaysSpec)) regPlaysUptoCard

/-- THE SECOND FORM's CARD OF 'umlautlaw11.ValCompares'. -/
def valComparesUptoCard : Claim7 := { stood := { row := valComparesUptoRow, standIns := [], harness := (true, "b26c85b323089ed9ee57108e3203fb21bf333092d8f9eb805f92bfb6c01f4da6"), looks := true }, kinds := [], alts := [], laidByText := true, laidKinds := [.data, .data, .data, .data, .pinned], laidTests := true, laidLooks := .later }
def ValComparesUptoCardSaid : Prop := Claim7.holds Tryz.pinned (.plain (OpenSpec.upto valComparesSpec)) valComparesUptoCard

/-- THE SECOND FORM's CARD OF 'umlautlaw11.ValChains'. -/
def valChainsUptoCard : Claim7 := { stood := { row := valChainsUptoRow, standIns := [], harness := (true, "b26c85b323089ed9ee57108e3203fb21bf333092d8f9eb805f92bfb6c01f4da6"), looks := true }, kinds := [], alts := [], laidByText := true, laidKinds := [.data, .data, .data, .data, .pinned], laidTests := true, laidLooks := .later }
def ValChainsUptoCardSaid : Prop := Claim7.holds Tryz.pinned (.plain (OpenSpec.upto valChainsSpec)) valChainsUptoCard

/-- THE SECOND FORM's CARD OF 'umlautlaw23.ExecStable'. -/
def execStableUptoCard : Claim7 := { stood := { row := execStableUptoRow, standIns := [], harness := (true, "b26c85b323089ed9ee57108e3203fb21bf333092d8f9eb805f92bfb6c01f4da6"), looks := true }, kinds := [], alts := [], laidByText := true, laidKinds := [.data, .pinned], laidTests := true, laidLooks := .later }
def ExecStableUptoCardSaid : Prop := Claim7.holds Tryz.pinned (.plain (OpenSpec.upto execStableSpec)) execStableUptoCard

/-- THE SECOND FORM's CARD OF 'umlautlaw23.ExecOrders'. -/
def execOrdersUptoCard : Claim7 := { stood := { row := execOrdersUptoRow, standIns := [], harness := (true, "b26c85b323089ed9ee57108e3203fb21bf333092d8f9eb805f92bfb6c01f4da6"), looks := true }, kinds := [], alts := [], laidByText := true, laidKinds := [.data, .pinned], laidTests := true, laidLooks := .later }
def ExecOrdersUptoCardSaid : Prop := Claim7.holds Tryz.pinned (.plain (OpenSpec.upto execOrdersSpec)) execOrdersUptoCard
end Rows
end Go.Proofs.YtipokgedmfnlaaaGreatDoor
