/-
  A row of names with ops between: all rows are read and shown again (by the kernel).
-/
import Derived.Test.YtlhkmdchjklaeaaGreatDoorChainsP
namespace Go.Proofs.YtlhkmdchjklaeaaGreatDoor
set_option maxRecDepth 1000000

def chkC (x y n : Nat) : Bool := chkG (chS x y n) fun t => (x != y || (leftC 30 t).1 == n) && kindT (leftC 30 t).2 == 4 && decide ((leftC 30 t).1 ≤ 20)
def chkX (x : Nat) : Bool := (List.range 7).all fun y => (List.range 8).all fun n => chkC x y (n + 2)
theorem chk_0 : chkX 0 = true := by decide +kernel
theorem chk_1 : chkX 1 = true := by decide +kernel
theorem chk_2 : chkX 2 = true := by decide +kernel
theorem chk_3 : chkX 3 = true := by decide +kernel
theorem chk_4 : chkX 4 = true := by decide +kernel
theorem chk_5 : chkX 5 = true := by decide +kernel
theorem chk_6 : chkX 6 = true := by decide +kernel
theorem chk_all (x y n : Nat) (hx : x < 7) (hy : y < 7) (hn : n < 8) : chkC x y (n + 2) = true := by
  have h : chkX x = true := by
    rcases (by omega : x = 0 ∨ x = 1 ∨ x = 2 ∨ x = 3 ∨ x = 4 ∨ x = 5 ∨ x = 6) with rfl | rfl | rfl | rfl | rfl | rfl | rfl
    · exact chk_0
    · exact chk_1
    · exact chk_2
    · exact chk_3
    · exact chk_4
    · exact chk_5
    · exact chk_6
  exact List.all_eq_true.1 (List.all_eq_true.1 h y (List.mem_range.2 hy)) n (List.mem_range.2 hn)
end Go.Proofs.YtlhkmdchjklaeaaGreatDoor
