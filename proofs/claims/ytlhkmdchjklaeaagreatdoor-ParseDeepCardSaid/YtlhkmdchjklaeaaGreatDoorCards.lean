/-
  DERIVED. GIVEN WITH THE SEED: THE CARDS: each row of YtlhkmdchjklaeaaGreatDoorRows.lean that lists a variable, with what it lists TIED to the program's text (the seventh form; the later family's looks); each row that meets fmt, with fmt's text TOLD by the authors' own Lean function (tested against real Go, not proved from fmt's source: count such statements apart). THE CARD IS WHAT COUNTS. Prove the row's statement (the work); the ties are given (YtlhkmdchjklaeaaGreatDoorTie.lean); close each card by the builder's one call (the guide's Derived/Test/ToyasCard.lean, 'card_holds'). Laid BY PROGRAM, IN A SANDBOX (cutbox-door.mjs). By AI agents, Wed Nov 11 2026. No macro, syntax, notation, axiom, sorry.
-/
import Derived.Test.YtlhkmdchjklaeaaGreatDoorRows
import GoSem.ClaimSeven
namespace Go.Proofs.YtlhkmdchjklaeaaGreatDoor
namespace Rows

/-- THE TIED CARD OF 'umlautlaw18.ParseChains'. -/
def parseChainsCard : Claim7 := { stood := { row := parseChainsRow, standIns := [], harness := (true, "f6030fa124ee784d914ef994804d22afcd22eae6a9f206b93738608c1bcbb9c7"), looks := true }, kinds := [], alts := [], laidByText := true, laidKinds := [.data, .data, .data, .data, .sentinel, .sentinel, .pinned, .pinned], laidTests := true, laidLooks := .later }
def ParseChainsCardSaid : Prop := Claim7.holds Tryz.pinned (.plain (OpenSpec.ofChange parseChainsSpec)) parseChainsCard

/-- THE TIED CARD OF 'umlautlaw18.ParseDeep'. -/
def parseDeepCard : Claim7 := { stood := { row := parseDeepRow, standIns := [], harness := (true, "f6030fa124ee784d914ef994804d22afcd22eae6a9f206b93738608c1bcbb9c7"), looks := true }, kinds := [], alts := [], laidByText := true, laidKinds := [.data, .data, .data, .data, .sentinel, .sentinel, .pinned, .pinned], laidTests := true, laidLooks := .later }
def ParseDeepCardSaid : Prop := Claim7.holds Tryz.pinned (.plain (OpenSpec.ofChange parseDeepSpec)) parseDeepCard

/-- THE TIED CARD OF 'umlautlaw21.EvalForms'. -/
def evalFormsCard : Claim7 := { stood := { row := evalFormsRow, standIns := [], harness := (true, "f6030fa124ee784d914ef994804d22afcd22eae6a9f206b93738608c1bcbb9c7"), looks := true }, kinds := [], alts := [], laidByText := true, laidKinds := [.data, .data, .data, .data, .sentinel, .sentinel, .pinned], laidTests := true, laidLooks := .later }
def EvalFormsCardSaid : Prop := Claim7.holds Tryz.pinned (.plain (OpenSpec.ofChange evalFormsSpec)) evalFormsCard

/-- THE SECOND FORM's CARD OF 'umlautlaw18.ParseChains'. -/
def parseChainsUptoCard : Claim7 := { stood := { row := parseChainsUptoRow, standIns := [], harness := (true, "f6030fa124ee784d914ef994804d22afcd22eae6a9f206b93738608c1bcbb9c7"), looks := true }, kinds := [], alts := [], laidByText := true, laidKinds := [.data, .data, .data, .data, .sentinel, .sentinel, .pinned, .pinned], laidTests := true, laidLooks := .later }
def ParseChainsUptoCardSaid : Prop := Claim7.holds Tryz.pinned (.plain (OpenSpec.upto parseChainsSpec)) parseChainsUptoCard

/-- THE SECOND FORM's CARD OF 'umlautlaw18.ParseDeep'. -/
def parseDeepUptoCard : Claim7 := { stood := { row := parseDeepUptoRow, standIns := [], harness := (true, "f6030fa124ee784d914ef994804d22afcd22eae6a9f206b93738608c1bcbb9c7"), looks := true }, kinds := [], alts := [], laidByText := true, laidKinds := [.data, .data, .data, .data, .sentinel, .sentinel, .pinned, .pinned], laidTests := true, laidLooks := .later }
def ParseDeepUptoCardSaid : Prop := Claim7.holds Tryz.pinned (.plain (OpenSpec.upto parseDeepSpec)) parseDeepUptoCard

/-- THE SECOND FORM's CARD OF 'umlautlaw21.EvalForms'. -/
def evalFormsUptoCard : Claim7 := { stood := { row := evalFormsUptoRow, standIns := [], harness := (true, "f6030fa124ee784d914ef994804d22afcd22eae6a9f206b93738608c1bcbb9c7"), looks := true }, kinds := [], alts := [], laidByText := true, laidKinds := [.data, .data, .data, .data, .sentinel, .sentinel, .pinned], laidTests := true, laidLooks := .later }
def EvalFormsUptoCardSaid : Prop := Claim7.holds Tryz.pinned (.plain (OpenSpec.upto evalFormsSpec)) evalFormsUptoCard
end Rows
end Go.Proofs.YtlhkmdchjklaeaaGreatDoor
