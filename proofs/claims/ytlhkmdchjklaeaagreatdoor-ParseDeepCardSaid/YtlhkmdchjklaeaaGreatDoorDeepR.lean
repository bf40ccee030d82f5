/-
  Things that stand within one another: kinds 2 and 3, all numbers up to 40 (by the kernel).
-/
import Derived.Test.YtlhkmdchjklaeaaGreatDoorDeepP
namespace Go.Proofs.YtlhkmdchjklaeaaGreatDoor
set_option maxRecDepth 1000000

theorem deep_2 : chkK 2 1 40 = true := by decide +kernel
theorem deep_3 : chkK 3 1 40 = true := by decide +kernel
end Go.Proofs.YtlhkmdchjklaeaaGreatDoor
