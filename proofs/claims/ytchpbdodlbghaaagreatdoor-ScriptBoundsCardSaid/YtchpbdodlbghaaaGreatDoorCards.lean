/-
  DERIVED. GIVEN WITH THE SEED: THE CARDS: each row of YtchpbdodlbghaaaGreatDoorRows.lean that lists a variable, with what it lists TIED to the program's text (the seventh form; the later family's looks); each row that meets fmt, with fmt's text TOLD by the authors' own Lean function (tested against real Go, not proved from fmt's source: count such statements apart). THE CARD IS WHAT COUNTS. Prove the row's statement (the work); the ties are given (YtchpbdodlbghaaaGreatDoorTie.lean); close each card by the builder's one call (the guide's Derived/Test/ToyasCard.lean, 'card_holds'). Laid BY PROGRAM, IN A SANDBOX (cutbox-door.mjs). By AI agents, Wed Nov 11 2026. No macro, syntax, notation, axiom, sorry.
-/
import Derived.Test.YtchpbdodlbghaaaGreatDoorRows
import GoSem.ClaimSeven
namespace Go.Proofs.YtchpbdodlbghaaaGreatDoor
namespace Rows

/-- THE TIED CARD OF 'umlautlaw25.ScriptBounds'. -/
def scriptBoundsCard : Claim7 := { stood := { row := scriptBoundsRow, standIns := [], harness := (true, "0a9e37caa398ba65c6f8a8118c5e4b3be5e4f3158245e74f08a54a132ad339ba"), looks := true }, kinds := [], alts := [], laidByText := true, laidKinds := [.data, .data, .data, .pinned, .data, .pinned, .sentinel, .sentinel], laidTests := true, laidLooks := .later }
def ScriptBoundsCardSaid : Prop := Claim7.holds Tryz.pinned (.plain (OpenSpec.ofChange scriptBoundsSpec)) scriptBoundsCard

/-- THE SECOND FORM's CARD OF 'umlautlaw25.ScriptBounds'. -/
def scriptBoundsUptoCard : Claim7 := { stood := { row := scriptBoundsUptoRow, standIns := [], harness := (true, "0a9e37caa398ba65c6f8a8118c5e4b3be5e4f3158245e74f08a54a132ad339ba"), looks := true }, kinds := [], alts := [], laidByText := true, laidKinds := [.data, .data, .data, .pinned, .data, .pinned, .sentinel, .sentinel], laidTests := true, laidLooks := .later }
def ScriptBoundsUptoCardSaid : Prop := Claim7.holds Tryz.pinned (.plain (OpenSpec.upto scriptBoundsSpec)) scriptBoundsUptoCard
end Rows
end Go.Proofs.YtchpbdodlbghaaaGreatDoor
