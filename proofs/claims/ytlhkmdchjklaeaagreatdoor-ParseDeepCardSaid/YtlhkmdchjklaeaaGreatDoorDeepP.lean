/-
  Things that stand within one another, in plain Lean: their texts; what they are read as.
-/
import Derived.Test.YtlhkmdchjklaeaaGreatDoorPsrP
namespace Go.Proofs.YtlhkmdchjklaeaaGreatDoor
open Go.RowKit Go.Lib
set_option maxRecDepth 1000000

def opnD : Nat → List UInt8
  | 0 => [40, 32]
  | 1 => [102, 32, 40, 32]
  | 2 => [78, 79, 84, 32]
  | 3 => [45, 32]
  | 4 => [67, 65, 83, 84, 32, 40, 32]
  | _ => [49, 32, 73, 78, 32, 40, 32]
def endD : Nat → List UInt8
  | 0 => [32, 41]
  | 1 => [32, 41]
  | 2 => []
  | 3 => []
  | 4 => [32, 65, 83, 32, 73, 78, 84, 32, 41]
  | _ => [32, 41]
def repD (l : List UInt8) : Nat → List UInt8
  | 0 => []
  | n + 1 => repD l n ++ l
def deS (k n : Nat) : List UInt8 := repD (opnD k) n ++ [97] ++ repD (endD k) n
def wantD (k n : Nat) : Int := if n ≤ 24 then 0 else if k = 5 then 24 * ((opnD k).length : Int) + 5 else 24 * ((opnD k).length : Int)
def errD (n : Nat) : Int := if n ≤ 24 then 0 else 21
def chkD (k n : Nat) : Bool := match Lx.lex (deS k n) with
  | .error _ => false
  | .ok T => !T.isEmpty && decide (T.length ≤ 4000) && decide ((deS k n).length ≤ 4000) && match exprF T (deS k n).length 400 with
    | none => false
    | some r => r.2.1 == wantD k n && r.2.2 == errD n
theorem chkD_facts {k n : Nat} (h : chkD k n = true) : ∃ T t, Lx.lex (deS k n) = .ok T ∧ T ≠ [] ∧ T.length ≤ 4000 ∧ (deS k n).length ≤ 4000 ∧ exprF T (deS k n).length 400 = some (t, wantD k n, errD n) := by
  unfold chkD at h
  split at h
  · cases h
  · rename_i T hT
    simp only [Bool.and_eq_true, Bool.not_eq_true', decide_eq_true_eq, List.isEmpty_eq_false_iff] at h
    obtain ⟨⟨⟨h1, h2⟩, h3⟩, h⟩ := h
    split at h
    · cases h
    · rename_i r hr
      obtain ⟨t, a, e⟩ := r
      simp only [Bool.and_eq_true, beq_iff_eq] at h
      obtain ⟨rfl, rfl⟩ := h
      exact ⟨T, t, hT, h1, h2, h3, hr⟩
def chkK (k a b : Nat) : Bool := (List.range b).all fun n => chkD k (n + a)
end Go.Proofs.YtlhkmdchjklaeaaGreatDoor
