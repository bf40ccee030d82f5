/-
  Things that stand within one another: kinds 0 and 1, all numbers up to 40 (by the kernel).
-/
import Derived.Test.YtlhkmdchjklaeaaGreatDoorDeepP
namespace Go.Proofs.YtlhkmdchjklaeaaGreatDoor
set_option maxRecDepth 1000000

theorem deep_0 : chkK 0 1 40 = true := by decide +kernel
theorem deep_1 : chkK 1 1 40 = true := by decide +kernel
end Go.Proofs.YtlhkmdchjklaeaaGreatDoor
