/-
  DERIVED. GIVEN WITH THE SEED: THE CARDS: each row of YtjjmifidjeaefaaDoorRows.lean that lists a variable, with what it lists TIED to the program's text (the seventh form; the later family's looks); each row that meets fmt, with fmt's text TOLD by the authors' own Lean function (tested against real Go, not proved from fmt's source: count such statements apart). THE CARD IS WHAT COUNTS. Prove the row's statement (the work); the ties are given (YtjjmifidjeaefaaDoorTie.lean); close each card by the builder's one call (the guide's Derived/Test/ToyasCard.lean, 'card_holds'). Laid BY PROGRAM, IN A SANDBOX (cutbox-door.mjs). By AI agents, Wed Nov 11 2026. No macro, syntax, notation, axiom, sorry.
-/
import Derived.Test.YtjjmifidjeaefaaDoorRows
import GoSem.ClaimSeven
namespace Go.Proofs.YtjjmifidjeaefaaDoor
namespace Rows

/-- THE TIED CARD OF 'umlautlaw23.ExecCuts'. -/
def execCutsCard : Claim7 := { stood := { row := execCutsRow, standIns := [], harness := (true, "199bf94ad72305782ee7e690a6456b4714d8dfe645a9c5377b6cf0ec7be9c2fe"), looks := true }, kinds := [], alts := [], laidByText := true, laidKinds := [.data, .pinned], laidTests := true, laidLooks := .later }
def ExecCutsCardSaid : Prop := Claim7.holds Tryd.pinned (.plain (OpenSpec.ofChange execCutsSpec)) execCutsCard

/-- THE TIED CARD OF 'umlautlaw17.LexRemarks'. -/
def lexRemarksCard : Claim7 := { stood := { row := lexRemarksRow, standIns := [], harness := (true, "199bf94ad72305782ee7e690a6456b4714d8dfe645a9c5377b6cf0ec7be9c2fe"), looks := true }, kinds := [], alts := [], laidByText := true, laidKinds := [.data, .data, .data, .data, .sentinel, .sentinel, .pinned, .pinned], laidTests := true, laidLooks := .later }
def LexRemarksCardSaid : Prop := Claim7.holds Tryd.pinned (.plain (OpenSpec.ofChange lexRemarksSpec)) lexRemarksCard

/-- THE TIED CARD OF 'umlautlaw17.LexOps'. -/
def lexOpsCard : Claim7 := { stood := { row := lexOpsRow, standIns := [], harness := (true, "199bf94ad72305782ee7e690a6456b4714d8dfe645a9c5377b6cf0ec7be9c2fe"), looks := true }, kinds := [], alts := [], laidByText := true, laidKinds := [.data, .data, .data, .data, .sentinel, .sentinel, .pinned, .pinned], laidTests := true, laidLooks := .later }
def LexOpsCardSaid : Prop := Claim7.holds Tryd.pinned (.plain (OpenSpec.ofChange lexOpsSpec)) lexOpsCard

/-- THE TIED CARD OF 'umlautlaw17.LexTokens'. -/
def lexTokensCard : Claim7 := { stood := { row := lexTokensRow, standIns := [], harness := (true, "199bf94ad72305782ee7e690a6456b4714d8dfe645a9c5377b6cf0ec7be9c2fe"), looks := true }, kinds := [], alts := [], laidByText := true, laidKinds := [.data, .data, .data, .data, .sentinel, .sentinel, .pinned, .pinned], laidTests := true, laidLooks := .later }
def LexTokensCardSaid : Prop := Claim7.holds Tryd.pinned (.plain (OpenSpec.ofChange lexTokensSpec)) lexTokensCard

/-- THE TIED CARD OF 'umlautlaw17.LexNames'. -/
def lexNamesCard : Claim7 := { stood := { row := lexNamesRow, standIns := [], harness := (true, "199bf94ad72305782ee7e690a6456b4714d8dfe645a9c5377b6cf0ec7be9c2fe"), looks := true }, kinds := [], alts := [], laidByText := true, laidKinds := [.data, .data, .data, .data, .sentinel, .sentinel, .pinned, .pinned], laidTests := true, laidLooks := .later }
def LexNamesCardSaid : Prop := Claim7.holds Tryd.pinned (.plain (OpenSpec.ofChange lexNamesSpec)) lexNamesCard

/-- THE TIED CARD OF 'umlautlaw17.LexTexts'. -/
def lexTextsCard : Claim7 := { stood := { row := lexTextsRow, standIns := [], harness := (true, "199bf94ad72305782ee7e690a6456b4714d8dfe645a9c5377b6cf0ec7be9c2fe"), looks := true }, kinds := [], alts := [], laidByText := true, laidKinds := [.data, .data, .data, .data, .sentinel, .sentinel, .pinned, .pinned], laidTests := true, laidLooks := .later }
def LexTextsCardSaid : Prop := Claim7.holds Tryd.pinned (.plain (OpenSpec.ofChange lexTextsSpec)) lexTextsCard

/-- THE TIED CARD OF 'umlautlaw17.LexInts'. -/
def lexIntsCard : Claim7 := { stood := { row := lexIntsRow, standIns := [], harness := (true, "199bf94ad72305782ee7e690a6456b4714d8dfe645a9c5377b6cf0ec7be9c2fe"), looks := true }, kinds := [], alts := [], laidByText := true, laidKinds := [.data, .data, .data, .data, .sentinel, .sentinel, .pinned, .pinned], laidTests := true, laidLooks := .later }
def LexIntsCardSaid : Prop := Claim7.holds Tryd.pinned (.plain (OpenSpec.ofChange lexIntsSpec)) lexIntsCard

/-- THE SECOND FORM's CARD OF 'umlautlaw23.ExecCuts'. -/
def execCutsUptoCard : Claim7 := { stood := { row := execCutsUptoRow, standIns := [], harness := (true, "199bf94ad72305782ee7e690a6456b4714d8dfe645a9c5377b6cf0ec7be9c2fe"), looks := true }, kinds := [], alts := [], laidByText := true, laidKinds := [.data, .pinned], laidTests := true, laidLooks := .later }
def ExecCutsUptoCardSaid : Prop := Claim7.holds Tryd.pinned (.plain (OpenSpec.upto execCutsSpec)) execCutsUptoCard

/-- THE SECOND FORM's CARD OF 'umlautlaw17.LexRemarks'. -/
def lexRemarksUptoCard : Claim7 := { stood := { row := lexRemarksUptoRow, standIns := [], harness := (true, "199bf94ad72305782ee7e690a6456b4714d8dfe645a9c5377b6cf0ec7be9c2fe"), looks := true }, kinds := [], alts := [], laidByText := true, laidKinds := [.data, .data, .data, .data, .sentinel, .sentinel, .pinned, .pinned], laidTests := true, laidLooks := .later }
def LexRemarksUptoCardSaid : Prop := Claim7.holds Tryd.pinned (.plain (OpenSpec.upto lexRemarksSpec)) lexRemarksUptoCard

/-- THE SECOND FORM's CARD OF 'umlautlaw17.LexOps'. -/
def lexOpsUptoCard : Claim7 := { stood := { row := lexOpsUptoRow, standIns := [], harness := (true, "199bf94ad72305782ee7e690a6456b4714d8dfe645a9c5377b6cf0ec7be9c2fe"), looks := true }, kinds := [], alts := [], laidByText := true, laidKinds := [.data, .data, .data, .data, .sentinel, .sentinel, .pinned, .pinned], laidTests := true, laidLooks := .later }
def LexOpsUptoCardSaid : Prop := Claim7.holds Tryd.pinned (.plain (OpenSpec.upto lexOpsSpec)) lexOpsUptoCard

/-- THE SECOND FORM's CARD OF 'umlautlaw17.LexTokens'. -/
def lexTokensUptoCard : Claim7 := { stood := { row := lexTokensUptoRow, standIns := [], harness := (true, "199bf94ad72305782ee7e690a6456b4714d8dfe645a9c5377b6cf0ec7be9c2fe"), looks := true }, kinds := [], alts := [], laidByText := true, laidKinds := [.data, .data, .data, .data, .sentinel, .sentinel, .pinned, .pinned], laidTests := true, laidLooks := .later }
def LexTokensUptoCardSaid : Prop := Claim7.holds Tryd.pinned (.plain (OpenSpec.upto lexTokensSpec)) lexTokensUptoCard

/-- THE SECOND FORM's CARD OF 'umlautlaw17.LexNames'. -/
def lexNamesUptoCard : Claim7 := { stood := { row := lexNamesUptoRow, standIns := [], harness := (true, "199bf94ad72305782ee7e690a6456b4714d8dfe645a9c5377b6cf0ec7be9c2fe"), looks := true }, kinds := [], alts := [], laidByText := true, laidKinds := [.data, .data, .data, .data, .sentinel, .sentinel, .pinned, .pinned], laidTests := true, laidLooks := .later }
def LexNamesUptoCardSaid : Prop := Claim7.holds Tryd.pinned (.plain (OpenSpec.upto lexNamesSpec)) lexNamesUptoCard

/-- THE SECOND FORM's CARD OF 'umlautlaw17.LexTexts'. -/
def lexTextsUptoCard : Claim7 := { stood := { row := lexTextsUptoRow, standIns := [], harness := (true, "199bf94ad72305782ee7e690a6456b4714d8dfe645a9c5377b6cf0ec7be9c2fe"), looks := true }, kinds := [], alts := [], laidByText := true, laidKinds := [.data, .data, .data, .data, .sentinel, .sentinel, .pinned, .pinned], laidTests := true, laidLooks := .later }
def LexTextsUptoCardSaid : Prop := Claim7.holds Tryd.pinned (.plain (OpenSpec.upto lexTextsSpec)) lexTextsUptoCard

/-- THE SECOND FORM's CARD OF 'umlautlaw17.LexInts'. -/
def lexIntsUptoCard : Claim7 := { stood := { row := lexIntsUptoRow, standIns := [], harness := (true, "199bf94ad72305782ee7e690a6456b4714d8dfe645a9c5377b6cf0ec7be9c2fe"), looks := true }, kinds := [], alts := [], laidByText := true, laidKinds := [.data, .data, .data, .data, .sentinel, .sentinel, .pinned, .pinned], laidTests := true, laidLooks := .later }
def LexIntsUptoCardSaid : Prop := Claim7.holds Tryd.pinned (.plain (OpenSpec.upto lexIntsSpec)) lexIntsUptoCard
end Rows
end Go.Proofs.YtjjmifidjeaefaaDoor
