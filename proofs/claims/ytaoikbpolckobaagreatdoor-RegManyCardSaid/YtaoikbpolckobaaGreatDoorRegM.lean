/-
  Twelve names of collations, in small letters, with one great one, and all great; the entries that they make.
-/
import Derived.Test.YtaoikbpolckobaaGreatDoorRegE
namespace Go.Proofs.YtaoikbpolckobaaGreatDoor
open Go.RowKit Go.Lib
set_option maxRecDepth 100000

/-- "col" and a letter. -/
def colM (i : Nat) : ByteArray := ⟨#[99, 111, 108, 97 + UInt8.ofNat i]⟩
/-- The bytes that are laid first. -/
def colB (i : Nat) : List Nat := [99, 111, 108, 97 + i]
/-- .. one of them turned great, or none. -/
def colG (i : Nat) (up : Bool) : List Nat := if up then (colB i).set (i % 4) ((colB i).getD (i % 4) 0 - 32) else colB i
def colT (i : Nat) (up : Bool) : List UInt8 := (colG i up).map UInt8.ofNat
/-- .. all of them great. -/
def colU (i : Nat) : ByteArray := ⟨#[67, 79, 76, 65 + UInt8.ofNat i]⟩
theorem colG_ok : ∀ i ∈ List.range 12, ∀ up : Bool, (colG i up).length = 4 ∧ (∀ j ∈ List.range 4, ((colT i up).getD j 0).toNat = (colG i up).getD j 0) ∧ (colT i up).length = 4 ∧ 65 ≤ (colB i).getD (i % 4) 0 ∧ (colB i).getD (i % 4) 0 < 256 ∧ 32 ≤ (colB i).getD (i % 4) 0 := by decide +kernel
theorem colM_inj : ∀ i ∈ List.range 12, ∀ j ∈ List.range 12, colM i = colM j → i = j := by decide +kernel
theorem colM_three : ∀ i ∈ List.range 12, colM i ≠ bB ∧ colM i ≠ bF ∧ colM i ≠ bR := by decide +kernel
theorem col_name (i : Nat) (hi : i < 12) (up : Bool) (w : World) (hG : Glob w) : NameIs w ⟨(colT i up).toArray⟩ (colM i) := by
  match i, hi, up with
  | 0, _, true => exact name_any _ _ w (by decide +kernel) (by decide +kernel) (by decide +kernel) (by decide) (by decide) (by decide) (by decide) (by unfold AllIn; decide) hG.tabs
  | 1, _, true => exact name_any _ _ w (by decide +kernel) (by decide +kernel) (by decide +kernel) (by decide) (by decide) (by decide) (by decide) (by unfold AllIn; decide) hG.tabs
  | 2, _, true => exact name_any _ _ w (by decide +kernel) (by decide +kernel) (by decide +kernel) (by decide) (by decide) (by decide) (by decide) (by unfold AllIn; decide) hG.tabs
  | 3, _, true => exact name_any _ _ w (by decide +kernel) (by decide +kernel) (by decide +kernel) (by decide) (by decide) (by decide) (by decide) (by unfold AllIn; decide) hG.tabs
  | 4, _, true => exact name_any _ _ w (by decide +kernel) (by decide +kernel) (by decide +kernel) (by decide) (by decide) (by decide) (by decide) (by unfold AllIn; decide) hG.tabs
  | 5, _, true => exact name_any _ _ w (by decide +kernel) (by decide +kernel) (by decide +kernel) (by decide) (by decide) (by decide) (by decide) (by unfold AllIn; decide) hG.tabs
  | 6, _, true => exact name_any _ _ w (by decide +kernel) (by decide +kernel) (by decide +kernel) (by decide) (by decide) (by decide) (by decide) (by unfold AllIn; decide) hG.tabs
  | 7, _, true => exact name_any _ _ w (by decide +kernel) (by decide +kernel) (by decide +kernel) (by decide) (by decide) (by decide) (by decide) (by unfold AllIn; decide) hG.tabs
  | 8, _, true => exact name_any _ _ w (by decide +kernel) (by decide +kernel) (by decide +kernel) (by decide) (by decide) (by decide) (by decide) (by unfold AllIn; decide) hG.tabs
  | 9, _, true => exact name_any _ _ w (by decide +kernel) (by decide +kernel) (by decide +kernel) (by decide) (by decide) (by decide) (by decide) (by unfold AllIn; decide) hG.tabs
  | 10, _, true => exact name_any _ _ w (by decide +kernel) (by decide +kernel) (by decide +kernel) (by decide) (by decide) (by decide) (by decide) (by unfold AllIn; decide) hG.tabs
  | 11, _, true => exact name_any _ _ w (by decide +kernel) (by decide +kernel) (by decide +kernel) (by decide) (by decide) (by decide) (by decide) (by unfold AllIn; decide) hG.tabs
  | 0, _, false => exact name_any _ _ w (by decide +kernel) (by decide +kernel) (by decide +kernel) (by decide) (by decide) (by decide) (by decide) (by unfold AllIn; decide) hG.tabs
  | 1, _, false => exact name_any _ _ w (by decide +kernel) (by decide +kernel) (by decide +kernel) (by decide) (by decide) (by decide) (by decide) (by unfold AllIn; decide) hG.tabs
  | 2, _, false => exact name_any _ _ w (by decide +kernel) (by decide +kernel) (by decide +kernel) (by decide) (by decide) (by decide) (by decide) (by unfold AllIn; decide) hG.tabs
  | 3, _, false => exact name_any _ _ w (by decide +kernel) (by decide +kernel) (by decide +kernel) (by decide) (by decide) (by decide) (by decide) (by unfold AllIn; decide) hG.tabs
  | 4, _, false => exact name_any _ _ w (by decide +kernel) (by decide +kernel) (by decide +kernel) (by decide) (by decide) (by decide) (by decide) (by unfold AllIn; decide) hG.tabs
  | 5, _, false => exact name_any _ _ w (by decide +kernel) (by decide +kernel) (by decide +kernel) (by decide) (by decide) (by decide) (by decide) (by unfold AllIn; decide) hG.tabs
  | 6, _, false => exact name_any _ _ w (by decide +kernel) (by decide +kernel) (by decide +kernel) (by decide) (by decide) (by decide) (by decide) (by unfold AllIn; decide) hG.tabs
  | 7, _, false => exact name_any _ _ w (by decide +kernel) (by decide +kernel) (by decide +kernel) (by decide) (by decide) (by decide) (by decide) (by unfold AllIn; decide) hG.tabs
  | 8, _, false => exact name_any _ _ w (by decide +kernel) (by decide +kernel) (by decide +kernel) (by decide) (by decide) (by decide) (by decide) (by unfold AllIn; decide) hG.tabs
  | 9, _, false => exact name_any _ _ w (by decide +kernel) (by decide +kernel) (by decide +kernel) (by decide) (by decide) (by decide) (by decide) (by unfold AllIn; decide) hG.tabs
  | 10, _, false => exact name_any _ _ w (by decide +kernel) (by decide +kernel) (by decide +kernel) (by decide) (by decide) (by decide) (by decide) (by unfold AllIn; decide) hG.tabs
  | 11, _, false => exact name_any _ _ w (by decide +kernel) (by decide +kernel) (by decide +kernel) (by decide) (by decide) (by decide) (by decide) (by unfold AllIn; decide) hG.tabs
theorem colU_name (i : Nat) (hi : i < 8) (w : World) (hG : Glob w) : NameIs w (colU i) (colM i) := by
  match i, hi with
  | 0, _ => exact name_any _ _ w (by decide +kernel) (by decide +kernel) (by decide +kernel) (by decide) (by decide) (by decide) (by decide) (by unfold AllIn; decide) hG.tabs
  | 1, _ => exact name_any _ _ w (by decide +kernel) (by decide +kernel) (by decide +kernel) (by decide) (by decide) (by decide) (by decide) (by unfold AllIn; decide) hG.tabs
  | 2, _ => exact name_any _ _ w (by decide +kernel) (by decide +kernel) (by decide +kernel) (by decide) (by decide) (by decide) (by decide) (by unfold AllIn; decide) hG.tabs
  | 3, _ => exact name_any _ _ w (by decide +kernel) (by decide +kernel) (by decide +kernel) (by decide) (by decide) (by decide) (by decide) (by unfold AllIn; decide) hG.tabs
  | 4, _ => exact name_any _ _ w (by decide +kernel) (by decide +kernel) (by decide +kernel) (by decide) (by decide) (by decide) (by decide) (by unfold AllIn; decide) hG.tabs
  | 5, _ => exact name_any _ _ w (by decide +kernel) (by decide +kernel) (by decide +kernel) (by decide) (by decide) (by decide) (by decide) (by unfold AllIn; decide) hG.tabs
  | 6, _ => exact name_any _ _ w (by decide +kernel) (by decide +kernel) (by decide +kernel) (by decide) (by decide) (by decide) (by decide) (by unfold AllIn; decide) hG.tabs
  | 7, _ => exact name_any _ _ w (by decide +kernel) (by decide +kernel) (by decide +kernel) (by decide) (by decide) (by decide) (by decide) (by unfold AllIn; decide) hG.tabs
/-- The entries of so many collations: their tables stand at these places. -/
def entC (p j : Nat) : Value × Value := (kN (colM j), clV 3 ((j % 3 + 1 : Nat) : Int) (decide (j % 2 = 1)) false (some ⟨p, 0, none⟩))
def entL (ps : List Nat) : List (Value × Value) := ps.zipIdx.map fun x => entC x.1 x.2
theorem entL_snoc (ps : List Nat) (p : Nat) : entL (ps ++ [p]) = entL ps ++ [entC p ps.length] := by simp [entL, List.zipIdx_append]
theorem entL_length (ps : List Nat) : (entL ps).length = ps.length := by simp [entL]
theorem entL_mem {ps : List Nat} {j : Nat} (h : j < ps.length) : ∃ p, entC p j ∈ entL ps := by
  refine ⟨ps[j], List.mem_map.2 ⟨(ps[j], j), ?_, rfl⟩⟩
  rw [List.mem_zipIdx_iff_getElem?]
  simp [h]
theorem entL_key {ps : List Nat} {x : Value × Value} (h : x ∈ entL ps) : ∃ p j, j < ps.length ∧ x = entC p j := by
  obtain ⟨⟨p, j⟩, h1, rfl⟩ := List.mem_map.1 h
  rw [List.mem_zipIdx_iff_getElem?] at h1
  exact ⟨p, j, (List.getElem?_eq_some_iff.1 h1).1, rfl⟩
theorem ent_new {l0 : List (Value × Value)} {ps : List Nat} {i : Nat} (h0 : (l0.map (·.1)).Perm ([bB, bF, bR].map kN)) (hp : ps.length ≤ i) (hi : i < 12) : ∀ x ∈ l0 ++ entL ps, x.1 ≠ kN (colM i) := by
  intro x hx he
  rcases List.mem_append.1 hx with h | h
  · have h1 := h0.mem_iff.1 (List.mem_map.2 ⟨x, h, rfl⟩)
    obtain ⟨s, hs, h2⟩ := List.mem_map.1 h1
    have h3 : s = colM i := kN_inj (h2.trans he)
    obtain ⟨n1, n2, n3⟩ := colM_three i (List.mem_range.2 hi)
    simp only [List.mem_cons, List.not_mem_nil, or_false] at hs
    rcases hs with rfl | rfl | rfl
    · exact n1 h3.symm
    · exact n2 h3.symm
    · exact n3 h3.symm
  · obtain ⟨p, j, hj, rfl⟩ := entL_key h
    have := colM_inj j (List.mem_range.2 (by omega)) i (List.mem_range.2 hi) (kN_inj he)
    omega
end Go.Proofs.YtaoikbpolckobaaGreatDoor
