/-
  Values: which are sound, what they are made of.
-/
import Derived.Test.YtipokgedmfnlaaaGreatDoorProg
import Derived.Test.YtipokgedmfnlaaaGreatDoorPar
namespace Go.Proofs.YtipokgedmfnlaaaGreatDoor
open Go.RowKit
set_option maxRecDepth 100000

theorem ret_b {a b : Bool} (h : a = b) : Ending.returned (.bool a) = .returned (.bool b) := by rw [h]
theorem bcell {W w1 : World} (hb : Below W.heap.size W w1) : (∀ b o, b < W.heap.size → w1.cell? ⟨b, o, none⟩ = W.cell? ⟨b, o, none⟩) ∧ (∀ b o, b < W.heap.size → w1.frozen? ⟨b, o, none⟩ = W.frozen? ⟨b, o, none⟩) :=
  ⟨fun b o h => hb.cell (p := ⟨b, o, none⟩) h, fun b o h => hb.frozen (p := ⟨b, o, none⟩) h⟩
/-- A value of the engine's: its kind, its number, its text. -/
def vV (k n : Int) (s : ByteArray) : Value := .agg #[.int .i64 k, .int .i64 n, .string s]
def emp : ByteArray := ⟨#[]⟩
/-- Is it a sound one? -/
def vOk (k n : Int) (s : ByteArray) : Bool :=
  if k = 0 then n == 0 && s.toList == [] else if k = 1 then (n == 0 || n == 1) && s.toList == [] else if k = 2 then s.toList == [] else k == 3 && n == 0
theorem vOk_eq (k n : Int) (s : ByteArray) : vOk k n s = (decide (0 ≤ k) && decide (k ≤ 3) && (n == 0 || k == 2 || k == 1 && n == 1) && (s.toList == [] || k == 3)) := by
  unfold vOk
  generalize (s.toList == []) = e
  rw [Bool.eq_iff_iff]
  by_cases h0 : k = 0
  · subst h0; cases e <;> simp
  by_cases h1 : k = 1
  · subst h1; cases e <;> simp
  by_cases h2 : k = 2
  · subst h2; cases e <;> simp
  by_cases h3 : k = 3
  · subst h3; cases e <;> simp
  rw [if_neg h0, if_neg h1, if_neg h2]
  simp
  omega
theorem kinds (k : Int) : k = 0 ∨ k = 1 ∨ k = 2 ∨ k = 3 ∨ ((k == 0) = false ∧ (k == 1) = false ∧ (k == 2) = false ∧ (k == 3) = false ∧ (k < 0 ∨ 3 < k)) := by
  simp only [beq_eq_false_iff_ne]
  omega
theorem nums (n : Int) : n = 0 ∨ n = 1 ∨ ((n == 0) = false ∧ (n == 1) = false) := by
  simp only [beq_eq_false_iff_ne]
  omega
set_option maxHeartbeats 4000000 in
theorem valok_any (k n : Int) (s : ByteArray) (w : World) :
    Calls Tryz.prog 112 #[vV k n s] w fun e w' => e = .returned (.bool (vOk k n s)) ∧ Below w.heap.size w w' := by
  unfold vV
  cases hs : s.toList.isEmpty
  all_goals
    rcases kinds k with rfl | rfl | rfl | rfl | ⟨k0, k1, k2, k3, k4⟩
  all_goals
    rcases nums n with rfl | rfl | ⟨n0, n1⟩
  all_goals
    go_enter Tryz.func112, Tryz.ntmps112
    go_wp2_with fail
    go_ret
    refine ⟨ret_b ?_, by go_grown⟩
    first
    | (simp [vOk, *]; done)
    | (simp only [beq_eq_false_iff_ne] at k0 k1 k2 k3; simp [vOk, *]; done)
set_option maxHeartbeats 4000000 in
theorem refok_any (k n : Int) (s : ByteArray) (w : World) :
    Calls Tryz.prog 85 #[vV k n s] w fun e w' => e = .returned (.bool (vOk k n s)) ∧ Below w.heap.size w w' := by
  rw [vOk_eq]
  unfold vV
  cases hs : s.toList.isEmpty
  all_goals
    rcases kinds k with rfl | rfl | rfl | rfl | ⟨k0, k1, k2, k3, k4⟩
  all_goals
    rcases nums n with rfl | rfl | ⟨n0, n1⟩
  all_goals
    try rcases k4 with k4 | k4
  all_goals
    go_enter Tryz.func85, Tryz.ntmps85
    go_wp2_with fail
    go_ret
    refine ⟨ret_b ?_, by go_grown⟩
    first
    | (simp [*]; done)
    | (rw [show decide (0 ≤ k) = false by simp; omega]; simp; done)
    | (rw [show decide (k ≤ 3) = false by simp; omega]; simp; done)
theorem valint_any (n : Int) (w : World) : Calls Tryz.prog 60 #[.int .i64 n] w fun e w' => e = .returned (vV 2 n emp) ∧ Below w.heap.size w w' := by
  go_enter Tryz.func60, Tryz.ntmps60
  go_wp2_with fail
  exact bodyPost_ret (v := vV 2 n emp) (by simp [results, Tryz.results60, go_sem, vV, emp]) rfl ⟨rfl, by go_grown⟩
theorem refint_any (n : Int) (w : World) : Calls Tryz.prog 44 #[.int .i64 n] w fun e w' => e = .returned (vV 2 n emp) ∧ Below w.heap.size w w' := by
  go_enter Tryz.func44, Tryz.ntmps44
  go_wp2_with fail
  exact bodyPost_ret (v := vV 2 n emp) (by simp [results, Tryz.results44, go_sem, vV, emp]) rfl ⟨rfl, by go_grown⟩
theorem valtext_any (s : ByteArray) (w : World) : Calls Tryz.prog 62 #[.string s] w fun e w' => e = .returned (vV 3 0 s) ∧ Below w.heap.size w w' := by
  go_enter Tryz.func62, Tryz.ntmps62
  go_wp2_with fail
  exact bodyPost_ret (v := vV 3 0 s) (by simp [results, Tryz.results62, go_sem, vV]) rfl ⟨rfl, by go_grown⟩
def bN (b : Bool) : Int := if b then 1 else 0
theorem valbool_any (b : Bool) (w : World) : Calls Tryz.prog 64 #[.bool b] w fun e w' => e = .returned (vV 1 (bN b) emp) ∧ Below w.heap.size w w' := by
  cases b
  all_goals
    go_enter Tryz.func64, Tryz.ntmps64
    go_wp2_with fail
  · exact bodyPost_ret (v := vV 1 0 emp) (by simp [results, Tryz.results64, go_sem, vV, emp]) rfl ⟨rfl, by go_grown⟩
  · exact bodyPost_ret (v := vV 1 1 emp) (by simp [results, Tryz.results64, go_sem, vV, emp]) rfl ⟨rfl, by go_grown⟩
theorem valnull_any (w : World) : Calls Tryz.prog 63 #[] w fun e w' => e = .returned (vV 0 0 emp) ∧ Below w.heap.size w w' := by
  go_enter Tryz.func63, Tryz.ntmps63
  go_wp2_with fail
  exact bodyPost_ret (v := vV 0 0 emp) (by simp [results, Tryz.results63, go_sem, vV, emp]) rfl ⟨rfl, by go_grown⟩
theorem blk3 {w : World} {g : Nat} {a b c : Value} {t : TypeId} (h : Blk w g #[a, b, c] t) (a' b' c' : Value) : Blk (((w.setCell ⟨g, 0, none⟩ a').setCell ⟨g, 1, none⟩ b').setCell ⟨g, 2, none⟩ c') g #[a', b', c'] t :=
  ((h.set 0 a').set 1 b').set 2 c'
theorem below3 {w w0 : World} {g B : Nat} (h : Below B w0 w) (hg : B ≤ g) (a' b' c' : Value) : Below B w0 (((w.setCell ⟨g, 0, none⟩ a').setCell ⟨g, 1, none⟩ b').setCell ⟨g, 2, none⟩ c') :=
  ((h.setCell (p := ⟨g, 0, none⟩) hg a').setCell (p := ⟨g, 1, none⟩) hg b').setCell (p := ⟨g, 2, none⟩) hg c'
end Go.Proofs.YtipokgedmfnlaaaGreatDoor
