/-
  DERIVED. GIVEN WITH THE SEED: THE CARDS: each row of YtimeipjcmffadaaGreatDoorRows.lean that lists a variable, with what it lists TIED to the program's text (the seventh form; the later family's looks); each row that meets fmt, with fmt's text TOLD by the authors' own Lean function (tested against real Go, not proved from fmt's source: count such statements apart). THE CARD IS WHAT COUNTS. Prove the row's statement (the work); the ties are given (YtimeipjcmffadaaGreatDoorTie.lean); close each card by the builder's one call (the guide's Derived/Test/ToyasCard.lean, 'card_holds'). Laid BY PROGRAM, IN A SANDBOX (cutbox-door.mjs). By AI agents, Wed Nov 11 2026. No macro, syntax, notation, axiom, sorry.
-/
import Derived.Test.YtimeipjcmffadaaGreatDoorRows
import GoSem.ClaimSeven
namespace Go.Proofs.YtimeipjcmffadaaGreatDoor
namespace Rows

/-- THE TIED CARD OF 'umlautlaw21.EvalForms'. -/
def evalFormsCard : Claim7 := { stood := { row := evalFormsRow, standIns := [], harness := (true, "43902f1e0478b97782ad265a4a04da4488ce883ed880c3df9e9480770b119d23"), looks := true }, kinds := [], alts := [], laidByText := true, laidKinds := [.data, .data, .data, .data, .sentinel, .sentinel, .pinned], laidTests := true, laidLooks := .later }
def EvalFormsCardSaid : Prop := Claim7.holds Tryz.pinned (.plain (OpenSpec.ofChange evalFormsSpec)) evalFormsCard

/-- THE TIED CARD OF 'umlautlaw18.ParseShows'. -/
def parseShowsCard : Claim7 := { stood := { row := parseShowsRow, standIns := [], harness := (true, "43902f1e0478b97782ad265a4a04da4488ce883ed880c3df9e9480770b119d23"), looks := true }, kinds := [], alts := [], laidByText := true, laidKinds := [.data, .data, .data, .data, .sentinel, .sentinel, .pinned, .pinned], laidTests := true, laidLooks := .later }
def ParseShowsCardSaid : Prop := Claim7.holds Tryz.pinned (.plain (OpenSpec.ofChange parseShowsSpec)) parseShowsCard

/-- THE SECOND FORM's CARD OF 'umlautlaw21.EvalForms'. -/
def evalFormsUptoCard : Claim7 := { stood := { row := evalFormsUptoRow, standIns := [], harness := (true, "43902f1e0478b97782ad265a4a04da4488ce883ed880c3df9e9480770b119d23"), looks := true }, kinds := [], alts := [], laidByText := true, laidKinds := [.data, .data, .data, .data, .sentinel, .sentinel, .pinned], laidTests := true, laidLooks := .later }
def EvalFormsUptoCardSaid : Prop := Claim7.holds Tryz.pinned (.plain (OpenSpec.upto evalFormsSpec)) evalFormsUptoCard

/-- THE SECOND FORM's CARD OF 'umlautlaw18.ParseShows'. -/
def parseShowsUptoCard : Claim7 := { stood := { row := parseShowsUptoRow, standIns := [], harness := (true, "43902f1e0478b97782ad265a4a04da4488ce883ed880c3df9e9480770b119d23"), looks := true }, kinds := [], alts := [], laidByText := true, laidKinds := [.data, .data, .data, .data, .sentinel, .sentinel, .pinned, .pinned], laidTests := true, laidLooks := .later }
def ParseShowsUptoCardSaid : Prop := Claim7.holds Tryz.pinned (.plain (OpenSpec.upto parseShowsSpec)) parseShowsUptoCard
end Rows
end Go.Proofs.YtimeipjcmffadaaGreatDoor
