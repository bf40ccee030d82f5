import Derived.Test.YtimeipjcmffadaaGreatDoorParD
import Derived.Test.YtimeipjcmffadaaGreatDoorPsrT
namespace Go.Proofs.YtimeipjcmffadaaGreatDoor
open Go.RowKit Go.Lib
set_option maxRecDepth 100000
def readD (n0 p g cap long:Nat) (T:List Lx.Tok) (r:Tr) (s':PSt) (lo hi:Nat) (v:Value) (w:World):Prop:=n0<=lo/\∃ y:PN,v=y.v/\TrAt (fun g=>lo<=g/\g<hi) w y r/\PsAt w p g cap long T s'
end Go.Proofs.YtimeipjcmffadaaGreatDoor
