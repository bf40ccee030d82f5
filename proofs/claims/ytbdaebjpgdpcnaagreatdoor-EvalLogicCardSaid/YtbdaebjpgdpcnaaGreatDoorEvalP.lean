/-
  Nodes that stand alone (eval.alone).
-/
import Derived.Test.YtbdaebjpgdpcnaaGreatDoorEvalL
namespace Go.Proofs.YtbdaebjpgdpcnaaGreatDoor
open Go.RowKit Go.Lib
set_option maxRecDepth 100000

set_option maxHeartbeats 2000000 in
theorem alone_div (s u : ByteArray) (n : Int) (g lc : Nat) (w : World) : Calls Tryz.prog 83 #[ndE 6 10 s u n (some ⟨g, 0, none⟩) 2 lc] w fun e w' => e = .returned (.bool false) ∧ Below w.heap.size w w' := by
  simp only [ndE]
  go_enter Tryz.func83, Tryz.ntmps83
  go_wp2_with fail
  go_returns
  exact ⟨rfl, by go_grown⟩
set_option maxHeartbeats 2000000 in
theorem alone_and (op : Int) (h : op = 18 ∨ op = 19) (s u : ByteArray) (n : Int) (g lc : Nat) (w : World) : Calls Tryz.prog 83 #[ndE 6 op s u n (some ⟨g, 0, none⟩) 2 lc] w fun e w' => e = .returned (.bool true) ∧ Below w.heap.size w w' := by
  simp only [ndE]
  rcases h with rfl | rfl
  all_goals
    go_enter Tryz.func83, Tryz.ntmps83
    go_wp2_with fail
    go_returns
    exact ⟨rfl, by go_grown⟩
set_option maxHeartbeats 2000000 in
theorem alone_num (o : Int) (s u : ByteArray) (n : Int) (w : World) : Calls Tryz.prog 83 #[ndE 2 o s u n none 0 0] w fun e w' => e = .returned (.bool true) ∧ Below w.heap.size w w' := by
  simp only [ndE]
  go_enter Tryz.func83, Tryz.ntmps83
  go_wp2_with fail
  go_returns
  exact ⟨rfl, by go_grown⟩
end Go.Proofs.YtbdaebjpgdpcnaaGreatDoor
