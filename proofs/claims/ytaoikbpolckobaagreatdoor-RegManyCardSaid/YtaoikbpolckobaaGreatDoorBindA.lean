/-
  What two derivations bring together.
-/
import Derived.Test.YtaoikbpolckobaaGreatDoorOwn
import Derived.Test.YtaoikbpolckobaaGreatDoorParZ
import Derived.Test.YtaoikbpolckobaaGreatDoorVal
namespace Go.Proofs.YtaoikbpolckobaaGreatDoor
open Go.RowKit
set_option maxRecDepth 100000

def dV (r : Int) (s : ByteArray) : Value := .agg #[.int .i64 r, .string s]
def combR (r : Int) (s : ByteArray) (r' : Int) (s' : ByteArray) : Value :=
  if r = 3 ∧ r' = 3 ∧ (s.toList == s'.toList) = false then .tuple #[dV 0 ⟨#[]⟩, .int .i64 13] else if r = 1 ∧ r' = 1 ∧ (s.toList == s'.toList) = false then .tuple #[dV 2 ⟨#[]⟩, .int .i64 0] else if r < r' then .tuple #[dV r' s', .int .i64 0] else .tuple #[dV r s, .int .i64 0]
set_option maxHeartbeats 4000000 in
theorem combine_any (r : Int) (s : ByteArray) (r' : Int) (s' : ByteArray) (w : World) :
    Calls Tryz.prog 20 #[dV r s, dV r' s'] w fun e w' => e = .returned (combR r s r' s') ∧ Below w.heap.size w w' := by
  have hV : ∀ r s, dV r s = .agg #[.int .i64 r, .string s] := fun _ _ => rfl
  rw [hV, hV]
  clear hV
  go_enter Tryz.func20, Tryz.ntmps20
  go_wp2_with fail
  have hpe := fun a b c d w => pairEq a b c d w
  go_wp2_with (unfold Oper.upon; simp only [hpe, Result.andThen_ok])
  all_goals
    clear hpe
    go_returns
    refine ⟨?_, by go_grown⟩
    simp only [combR, dV]
    simp_all
    all_goals
      rw [if_neg (by rintro ⟨h1, h2, _⟩; omega), if_neg (by rintro ⟨h1, h2, _⟩; omega)]
      try rw [if_neg (by omega)]
set_option maxHeartbeats 8000000 in
theorem refcombine_any (r : Int) (s : ByteArray) (r' : Int) (s' : ByteArray) (w : World) :
    Calls Tryz.prog 21 #[dV r s, dV r' s'] w fun e w' => e = .returned (combR r s r' s') ∧ Below w.heap.size w w' := by
  have hV : ∀ r s, dV r s = .agg #[.int .i64 r, .string s] := fun _ _ => rfl
  rw [hV, hV]
  clear hV
  go_enter Tryz.func21, Tryz.ntmps21
  go_wp2_with fail
  all_goals
    go_returns
    refine ⟨?_, by go_grown⟩
    simp only [combR, dV]
    simp_all
  all_goals first
    | omega
    | (rw [if_neg (by rintro ⟨h1, h2, _⟩; omega)]; first | rw [if_pos (by omega)] | rw [if_neg (by omega)])
    | (first | rw [if_pos (by omega)] | rw [if_neg (by omega)])
end Go.Proofs.YtaoikbpolckobaaGreatDoor
