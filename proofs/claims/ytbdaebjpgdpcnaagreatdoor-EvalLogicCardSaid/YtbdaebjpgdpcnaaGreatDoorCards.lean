/-
  DERIVED. GIVEN WITH THE SEED: THE CARDS: each row of YtbdaebjpgdpcnaaGreatDoorRows.lean that lists a variable, with what it lists TIED to the program's text (the seventh form; the later family's looks); each row that meets fmt, with fmt's text TOLD by the authors' own Lean function (tested against real Go, not proved from fmt's source: count such statements apart). THE CARD IS WHAT COUNTS. Prove the row's statement (the work); the ties are given (YtbdaebjpgdpcnaaGreatDoorTie.lean); close each card by the builder's one call (the guide's Derived/Test/ToyasCard.lean, 'card_holds'). Laid BY PROGRAM, IN A SANDBOX (cutbox-door.mjs). By AI agents, Wed Nov 11 2026. No macro, syntax, notation, axiom, sorry.
-/
import Derived.Test.YtbdaebjpgdpcnaaGreatDoorRows
import GoSem.ClaimSeven
namespace Go.Proofs.YtbdaebjpgdpcnaaGreatDoor
namespace Rows

/-- THE TIED CARD OF 'umlautlaw11.ValPrints'. -/
def valPrintsCard : Claim7 := { stood := { row := valPrintsRow, standIns := [], harness := (true, "7d1ec141c5222bd55c61c0f0913c85c7984a1ecf07d89694e428e27f0f391bbb"), looks := true }, kinds := [], alts := [], laidByText := true, laidKinds := [.data, .data, .data, .data, .sentinel, .sentinel, .pinned], laidTests := true, laidLooks := .later }
def ValPrintsCardSaid : Prop := Claim7.holds Tryz.pinned (.plain (OpenSpec.ofChange valPrintsSpec)) valPrintsCard

/-- THE TIED CARD OF 'umlautlaw21.EvalLogic'. -/
def evalLogicCard : Claim7 := { stood := { row := evalLogicRow, standIns := [], harness := (true, "7d1ec141c5222bd55c61c0f0913c85c7984a1ecf07d89694e428e27f0f391bbb"), looks := true }, kinds := [], alts := [], laidByText := true, laidKinds := [.data, .data, .data, .data, .sentinel, .sentinel, .pinned], laidTests := true, laidLooks := .later }
def EvalLogicCardSaid : Prop := Claim7.holds Tryz.pinned (.plain (OpenSpec.ofChange evalLogicSpec)) evalLogicCard

/-- THE TIED CARD OF 'umlautlaw18.ParseChains'. -/
def parseChainsCard : Claim7 := { stood := { row := parseChainsRow, standIns := [], harness := (true, "7d1ec141c5222bd55c61c0f0913c85c7984a1ecf07d89694e428e27f0f391bbb"), looks := true }, kinds := [], alts := [], laidByText := true, laidKinds := [.data, .data, .data, .data, .sentinel, .sentinel, .pinned, .pinned], laidTests := true, laidLooks := .later }
def ParseChainsCardSaid : Prop := Claim7.holds Tryz.pinned (.plain (OpenSpec.ofChange parseChainsSpec)) parseChainsCard

/-- THE TIED CARD OF 'umlautlaw18.ParseDeep'. -/
def parseDeepCard : Claim7 := { stood := { row := parseDeepRow, standIns := [], harness := (true, "7d1ec141c5222bd55c61c0f0913c85c7984a1ecf07d89694e428e27f0f391bbb"), looks := true }, kinds := [], alts := [], laidByText := true, laidKinds := [.data, .data, .data, .data, .sentinel, .sentinel, .pinned, .pinned], laidTests := true, laidLooks := .later }
def ParseDeepCardSaid : Prop := Claim7.holds Tryz.pinned (.plain (OpenSpec.ofChange parseDeepSpec)) parseDeepCard

/-- THE SECOND FORM's CARD OF 'umlautlaw11.ValPrints'. -/
def valPrintsUptoCard : Claim7 := { stood := { row := valPrintsUptoRow, standIns := [], harness := (true, "7d1ec141c5222bd55c61c0f0913c85c7984a1ecf07d89694e428e27f0f391bbb"), looks := true }, kinds := [], alts := [], laidByText := true, laidKinds := [.data, .data, .data, .data, .sentinel, .sentinel, .pinned], laidTests := true, laidLooks := .later }
def ValPrintsUptoCardSaid : Prop := Claim7.holds Tryz.pinned (.plain (OpenSpec.upto valPrintsSpec)) valPrintsUptoCard

/-- THE SECOND FORM's CARD OF 'umlautlaw21.EvalLogic'. -/
def evalLogicUptoCard : Claim7 := { stood := { row := evalLogicUptoRow, standIns := [], harness := (true, "7d1ec141c5222bd55c61c0f0913c85c7984a1ecf07d89694e428e27f0f391bbb"), looks := true }, kinds := [], alts := [], laidByText := true, laidKinds := [.data, .data, .data, .data, .sentinel, .sentinel, .pinned], laidTests := true, laidLooks := .later }
def EvalLogicUptoCardSaid : Prop := Claim7.holds Tryz.pinned (.plain (OpenSpec.upto evalLogicSpec)) evalLogicUptoCard

/-- THE SECOND FORM's CARD OF 'umlautlaw18.ParseChains'. -/
def parseChainsUptoCard : Claim7 := { stood := { row := parseChainsUptoRow, standIns := [], harness := (true, "7d1ec141c5222bd55c61c0f0913c85c7984a1ecf07d89694e428e27f0f391bbb"), looks := true }, kinds := [], alts := [], laidByText := true, laidKinds := [.data, .data, .data, .data, .sentinel, .sentinel, .pinned, .pinned], laidTests := true, laidLooks := .later }
def ParseChainsUptoCardSaid : Prop := Claim7.holds Tryz.pinned (.plain (OpenSpec.upto parseChainsSpec)) parseChainsUptoCard

/-- THE SECOND FORM's CARD OF 'umlautlaw18.ParseDeep'. -/
def parseDeepUptoCard : Claim7 := { stood := { row := parseDeepUptoRow, standIns := [], harness := (true, "7d1ec141c5222bd55c61c0f0913c85c7984a1ecf07d89694e428e27f0f391bbb"), looks := true }, kinds := [], alts := [], laidByText := true, laidKinds := [.data, .data, .data, .data, .sentinel, .sentinel, .pinned, .pinned], laidTests := true, laidLooks := .later }
def ParseDeepUptoCardSaid : Prop := Claim7.holds Tryz.pinned (.plain (OpenSpec.upto parseDeepSpec)) parseDeepUptoCard
end Rows
end Go.Proofs.YtbdaebjpgdpcnaaGreatDoor
