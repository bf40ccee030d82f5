import Derived.Test.YtchpbdodlbghaaaGreatDoorRows
import Derived.LaidByTextLater
import Derived.SevenTiedAt
namespace Go.Proofs.YtchpbdodlbghaaaGreatDoor
open Go
theorem ti_hd : ∀ os tape, varsDone Tryz.prog 400 (varsId Tryz.prog) os tape = true := fun _ _ => by kernel_rfl
end Go.Proofs.YtchpbdodlbghaaaGreatDoor
