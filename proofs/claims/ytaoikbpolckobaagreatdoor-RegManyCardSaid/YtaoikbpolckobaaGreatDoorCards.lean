/-
  DERIVED. GIVEN WITH THE SEED: THE CARDS: each row of YtaoikbpolckobaaGreatDoorRows.lean that lists a variable, with what it lists TIED to the program's text (the seventh form; the later family's looks); each row that meets fmt, with fmt's text TOLD by the authors' own Lean function (tested against real Go, not proved from fmt's source: count such statements apart). THE CARD IS WHAT COUNTS. Prove the row's statement (the work); the ties are given (YtaoikbpolckobaaGreatDoorTie.lean); close each card by the builder's one call (the guide's Derived/Test/ToyasCard.lean, 'card_holds'). Laid BY PROGRAM, IN A SANDBOX (cutbox-door.mjs). By AI agents, Wed Nov 11 2026. No macro, syntax, notation, axiom, sorry.
-/
import Derived.Test.YtaoikbpolckobaaGreatDoorRows
import GoSem.ClaimSeven
namespace Go.Proofs.YtaoikbpolckobaaGreatDoor
namespace Rows

/-- THE TIED CARD OF 'umlautlaw20.BindRanks'. -/
def bindRanksCard : Claim7 := { stood := { row := bindRanksRow, standIns := [], harness := (true, "2986ec00543b5df19acfde85e81da538441f4b3ae46529d959e8c2ccec1c7480"), looks := true }, kinds := [], alts := [], laidByText := true, laidKinds := [.data, .pinned], laidTests := true, laidLooks := .later }
def BindRanksCardSaid : Prop := Claim7.holds Tryz.pinned (.plain (OpenSpec.ofChange bindRanksSpec)) bindRanksCard

/-- THE TIED CARD OF 'umlautlaw20.BindCombines'. -/
def bindCombinesCard : Claim7 := { stood := { row := bindCombinesRow, standIns := [], harness := (true, "2986ec00543b5df19acfde85e81da538441f4b3ae46529d959e8c2ccec1c7480"), looks := true }, kinds := [], alts := [], laidByText := true, laidKinds := [.data, .pinned], laidTests := true, laidLooks := .later }
def BindCombinesCardSaid : Prop := Claim7.holds Tryz.pinned (.plain (OpenSpec.ofChange bindCombinesSpec)) bindCombinesCard

/-- THE TIED CARD OF 'umlautlaw20.BindNames'. -/
def bindNamesCard : Claim7 := { stood := { row := bindNamesRow, standIns := [], harness := (true, "2986ec00543b5df19acfde85e81da538441f4b3ae46529d959e8c2ccec1c7480"), looks := true }, kinds := [], alts := [], laidByText := true, laidKinds := [.data, .pinned], laidTests := true, laidLooks := .later }
def BindNamesCardSaid : Prop := Claim7.holds Tryz.pinned (.plain (OpenSpec.ofChange bindNamesSpec)) bindNamesCard

/-- THE TIED CARD OF 'umlautlaw23.ExecClasses'. -/
def execClassesCard : Claim7 := { stood := { row := execClassesRow, standIns := [], harness := (true, "2986ec00543b5df19acfde85e81da538441f4b3ae46529d959e8c2ccec1c7480"), looks := true }, kinds := [], alts := [], laidByText := true, laidKinds := [.data, .pinned], laidTests := true, laidLooks := .later }
def ExecClassesCardSaid : Prop := Claim7.holds Tryz.pinned (.plain (OpenSpec.ofChange execClassesSpec)) execClassesCard

/-- THE TIED CARD OF 'umlautlaw23.ExecGroups'. -/
def execGroupsCard : Claim7 := { stood := { row := execGroupsRow, standIns := [], harness := (true, "2986ec00543b5df19acfde85e81da538441f4b3ae46529d959e8c2ccec1c7480"), looks := true }, kinds := [], alts := [], laidByText := true, laidKinds := [.data, .pinned], laidTests := true, laidLooks := .later }
def ExecGroupsCardSaid : Prop := Claim7.holds Tryz.pinned (.plain (OpenSpec.ofChange execGroupsSpec)) execGroupsCard

/-- THE TIED CARD OF 'umlautlaw10.RegMany'. -/
def regManyCard : Claim7 := { stood := { row := regManyRow, standIns := [], harness := (true, "2986ec00543b5df19acfde85e81da538441f4b3ae46529d959e8c2ccec1c7480"), looks := true }, kinds := [], alts := [], laidByText := true, laidKinds := [.data, .pinned], laidTests := true, laidLooks := .later }
def RegManyCardSaid : Prop := Claim7.holds Tryz.pinned (.plain (OpenSpec.ofChange regManySpec)) regManyCard

/-- THE TIED CARD OF 'umlautlaw10.RegPlays'. -/
def regPlaysCard : Claim7 := { stood := { row := regPlaysRow, standIns := [], harness := (true, "2986ec00543b5df19acfde85e81da538441f4b3ae46529d959e8c2ccec1c7480"), looks := true }, kinds := [], alts := [], laidByText := true, laidKinds := [.data, .pinned], laidTests := true, laidLooks := .later }
def RegPlaysCardSaid : Prop := Claim7.holds Tryz.pinned (.plain (OpenSpec.ofChange regPlaysSpec)) regPlaysCard

/-- THE TIED CARD OF 'umlautlaw11.ValMakes'. -/
def valMakesCard : Claim7 := { stood := { row := valMakesRow, standIns := [], harness := (true, "2986ec00543b5df19acfde85e81da538441f4b3ae46529d959e8c2ccec1c7480"), looks := true }, kinds := [], alts := [], laidByText := true, laidKinds := [.data, .data, .data, .data, .pinned], laidTests := true, laidLooks := .later }
def ValMakesCardSaid : Prop := Claim7.holds Tryz.pinned (.plain (OpenSpec.ofChange valMakesSpec)) valMakesCard

/-- THE TIED CARD OF 'umlautlaw11.ValCompares'. -/
def valComparesCard : Claim7 := { stood := { row := valComparesRow, standIns := [], harness := (true, "2986ec00543b5df19acfde85e81da538441f4b3ae46529d959e8c2ccec1c7480"), looks := true }, kinds := [], alts := [], laidByText := true, laidKinds := [.data, .data, .data, .data, .pinned], laidTests := true, laidLooks := .later }
def ValComparesCardSaid : Prop := Claim7.holds Tryz.pinned (.plain (OpenSpec.ofChange valComparesSpec)) valComparesCard

/-- THE TIED CARD OF 'umlautlaw11.ValChains'. -/
def valChainsCard : Claim7 := { stood := { row := valChainsRow, standIns := [], harness := (true, "2986ec00543b5df19acfde85e81da538441f4b3ae46529d959e8c2ccec1c7480"), looks := true }, kinds := [], alts := [], laidByText := true, laidKinds := [.data, .data, .data, .data, .pinned], laidTests := true, laidLooks := .later }
def ValChainsCardSaid : Prop := Claim7.holds Tryz.pinned (.plain (OpenSpec.ofChange valChainsSpec)) valChainsCard

/-- THE TIED CARD OF 'umlautlaw23.ExecStable'. -/
def execStableCard : Claim7 := { stood := { row := execStableRow, standIns := [], harness := (true, "2986ec00543b5df19acfde85e81da538441f4b3ae46529d959e8c2ccec1c7480"), looks := true }, kinds := [], alts := [], laidByText := true, laidKinds := [.data, .pinned], laidTests := true, laidLooks := .later }
def ExecStableCardSaid : Prop := Claim7.holds Tryz.pinned (.plain (OpenSpec.ofChange execStableSpec)) execStableCard

/-- THE TIED CARD OF 'umlautlaw23.ExecOrders'. -/
def execOrdersCard : Claim7 := { stood := { row := execOrdersRow, standIns := [], harness := (true, "2986ec00543b5df19acfde85e81da538441f4b3ae46529d959e8c2ccec1c7480"), looks := true }, kinds := [], alts := [], laidByText := true, laidKinds := [.data, .pinned], laidTests := true, laidLooks := .later }
def ExecOrdersCardSaid : Prop := Claim7.holds Tryz.pinned (.plain (OpenSpec.ofChange execOrdersSpec)) execOrdersCard

/-- THE SECOND FORM's CARD OF 'umlautlaw20.BindRanks'. -/
def bindRanksUptoCard : Claim7 := { stood := { row := bindRanksUptoRow, standIns := [], harness := (true, "2986ec00543b5df19acfde85e81da538441f4b3ae46529d959e8c2ccec1c7480"), looks := true }, kinds := [], alts := [], laidByText := true, laidKinds := [.data, .pinned], laidTests := true, laidLooks := .later }
def BindRanksUptoCardSaid : Prop := Claim7.holds Tryz.pinned (.plain (OpenSpec.upto bindRanksSpec)) bindRanksUptoCard

/-- THE SECOND FORM's CARD OF 'umlautlaw20.BindCombines'. -/
def bindCombinesUptoCard : Claim7 := { stood := { row := bindCombinesUptoRow, standIns := [], harness := (true, "2986ec00543b5df19acfde85e81da538441f4b3ae46529d959e8c2ccec1c7480"), looks := true }, kinds := [], alts := [], laidByText := true, laidKinds := [.data, .pinned], laidTests := true, laidLooks := .later }
def BindCombinesUptoCardSaid : Prop := Claim7.holds Tryz.pinned (.plain (OpenSpec.upto bindCombinesSpec)) bindCombinesUptoCard

/-- THE SECOND FORM's CARD OF 'umlautlaw20.BindNames'. -/
def bindNamesUptoCard : Claim7 := { stood := { row := bindNamesUptoRow, standIns := [], harness := (true, "2986ec00543b5df19acfde85e81da538441f4b3ae46529d959e8c2ccec1c7480"), looks := true }, kinds := [], alts := [], laidByText := true, laidKinds := [.data, .pinned], laidTests := true, laidLooks := .later }
def BindNamesUptoCardSaid : Prop := Claim7.holds Tryz.pinned (.plain (OpenSpec.upto bindNamesSpec)) bindNamesUptoCard

/-- THE SECOND FORM's CARD OF 'umlautlaw23.ExecClasses'. -/
def execClassesUptoCard : Claim7 := { stood := { row := execClassesUptoRow, standIns := [], harness := (true, "2986ec00543b5df19acfde85e81da538441f4b3ae46529d959e8c2ccec1c7480"), looks := true }, kinds := [], alts := [], laidByText := true, laidKinds := [.data, .pinned], laidTests := true, laidLooks := .later }
def ExecClassesUptoCardSaid : Prop := Claim7.holds Tryz.pinned (.plain (OpenSpec.upto execClassesSpec)) execClassesUptoCard

/-- THE SECOND FORM's CARD OF 'umlautlaw23.ExecGroups'. -/
def execGroupsUptoCard : Claim7 := { stood := { row := execGroupsUptoRow, standIns := [], harness := (true, "2986ec00543b5df19acfde85e81da538441f4b3ae46529d959e8c2ccec1c7480"), looks := true }, kinds := [], alts := [], laidByText := true, laidKinds := [.data, .pinned], laidTests := true, laidLooks := .later }
def ExecGroupsUptoCardSaid : Prop := Claim7.holds Tryz.pinned (.plain (OpenSpec.upto execGroupsSpec)) execGroupsUptoCard

/-- THE SECOND FORM's CARD OF 'umlautlaw10.RegMany'. -/
def regManyUptoCard : Claim7 := { stood := { row := regManyUptoRow, standIns := [], harness := (true, "2986ec00543b5df19acfde85e81da538441f4b3ae46529d959e8c2ccec1c7480"), looks := true }, kinds := [], alts := [], laidByText := true, laidKinds := [.data, .pinned], laidTests := true, laidLooks := .later }
def RegManyUptoCardSaid : Prop := Claim7.holds Tryz.pinned (.plain (OpenSpec.upto regManySpec)) regManyUptoCard

/-- THE SECOND FORM's CARD OF 'umlautlaw10.RegPlays'. -/
def regPlaysUptoCard : Claim7 := { stood := { row := regPlaysUptoRow, standIns := [], harness := (true, "2986ec00543b5df19acfde85e81da538441f4b3ae46529d959e8c2ccec1c7480"), looks := true }, kinds := [], alts := [], laidByText := true, laidKinds := [.data, .pinned], laidTests := true, laidLooks := .later }
def RegPlaysUptoCardSaid : Prop := Claim7.holds Tryz.pinned (.plain (OpenSpec.upto regPlaysSpec)) regPlaysUptoCard

/-- THE SECOND FORM's CARD OF 'umlautlaw11.ValMakes'. -/
def valMakesUptoCard : Claim7 := { stood := { row := valMakesUptoRow, standIns := [], harness := (true, "2986ec00543b5df19acfde85e81da538441f4b3ae46529d959e8c2ccec1c7480"), looks := true }, kinds := [], alts := [], laidByText := true, laidKinds := [.data, .data, .data, .data, .pinned], laidTests := true, laidLooks := .later }
def ValMakesUptoCardSaid : Prop := Claim7.holds Tryz.pinned (.plain (OpenSpec.upto valMakesSpec)) valMakesUptoCard

/-- THE SECOND FORM's CARD OF 'umlautlaw11.ValCompares'. -/
def valComparesUptoCard : Claim7 := { stood := { row := valComparesUptoRow, standIns := [], harness := (true, "2986ec00543b5df19acfde85e81da538441f4b3ae46529d959e8c2ccec1c7480"), looks := true }, kinds := [], alts := [], laidByText := true, laidKinds := [.data, .data, .data, .data, .pinned], laidTests := true, laidLooks := .later }
def ValComparesUptoCardSaid : Prop := Claim7.holds Tryz.pinned (.plain (OpenSpec.upto valComparesSpec)) valComparesUptoCard

/-- THE SECOND FORM's CARD OF 'umlautlaw11.ValChains'. -/
def valChainsUptoCard : Claim7 := { stood := { row := valChainsUptoRow, standIns := [], harness := (true, "2986ec00543b5df19acfde85e81da538441f4b3ae46529d959e8c2ccec1c7480"), looks := true }, kinds := [], alts := [], laidByText := true, laidKinds := [.data, .data, .data, .data, .pinned], laidTests := true, laidLooks := .later }
def ValChainsUptoCardSaid : Prop := Claim7.holds Tryz.pinned (.plain (OpenSpec.upto valChainsSpec)) valChainsUptoCard

/-- THE SECOND FORM's CARD OF 'umlautlaw23.ExecStable'. -/
def execStableUptoCard : Claim7 := { stood := { row := execStableUptoRow, standIns := [], harness := (true, "2986ec00543b5df19acfde85e81da538441f4b3ae46529d959e8c2ccec1c7480"), looks := true }, kinds := [], alts := [], laidByText := true, laidKinds := [.data, .pinned], laidTests := true, laidLooks := .later }
def ExecStableUptoCardSaid : Prop := Claim7.holds Tryz.pinned (.plain (OpenSpec.upto execStableSpec)) execStableUptoCard

/-- THE SECOND FORM's CARD OF 'umlautlaw23.ExecOrders'. -/
def execOrdersUptoCard : Claim7 := { stood := { row := execOrdersUptoRow, standIns := [], harness := (true, "2986ec00543b5df19acfde85e81da538441f4b3ae46529d959e8c2ccec1c7480"), looks := true }, kinds := [], alts := [], laidByText := true, laidKinds := [.data, .pinned], laidTests := true, laidLooks := .later }
def ExecOrdersUptoCardSaid : Prop := Claim7.holds Tryz.pinned (.plain (OpenSpec.upto execOrdersSpec)) execOrdersUptoCard
end Rows
end Go.Proofs.YtaoikbpolckobaaGreatDoor
