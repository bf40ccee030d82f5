/-
  Things that stand within one another: kinds 4 and 5, all numbers up to 40 (by the kernel).
-/
import Derived.Test.YtlhkmdchjklaeaaGreatDoorDeepP
namespace Go.Proofs.YtlhkmdchjklaeaaGreatDoor
set_option maxRecDepth 1000000

theorem deep_4 : chkK 4 1 40 = true := by decide +kernel
theorem deep_5 : chkK 5 1 40 = true := by decide +kernel
end Go.Proofs.YtlhkmdchjklaeaaGreatDoor
