/-
  Values: which are sound, what they are made of.
-/
import Derived.Test.YtbdaebjpgdpcnaaGreatDoorProg
import Derived.Test.YtbdaebjpgdpcnaaGreatDoorPar
namespace Go.Proofs.YtbdaebjpgdpcnaaGreatDoor
open Go.RowKit
set_option maxRecDepth 100000

theorem ret_b {a b : Bool} (h : a = b) : Ending.returned (.bool a) = .returned (.bool b) := by rw [h]
theorem bcell {W w1 : World} (hb : Below W.heap.size W w1) : (∀ b o, b < W.heap.size → w1.cell? ⟨b, o, none⟩ = W.cell? ⟨b, o, none⟩) ∧ (∀ b o, b < W.heap.size → w1.frozen? ⟨b, o, none⟩ = W.frozen? ⟨b, o, none⟩) :=
  ⟨fun b o h => hb.cell (p := ⟨b, o, none⟩) h, fun b o h => hb.frozen (p := ⟨b, o, none⟩) h⟩
/-- A value of the engine's: its kind, its number, its text. -/
def vV (k n : Int) (s : ByteArray) : Value := .agg #[.int .i64 k, .int .i64 n, .string s]
def emp : ByteArray := ⟨#[]⟩
/-- Is it a sound one? -/
def vOk (k n : Int) (s : ByteArray) : Bool :=
  if k = 0 then n == 0 && s.toList == [] else if k = 1 then (n == 0 || n == 1) && s.toList == [] else if k = 2 then s.toList == [] else k == 3 && n == 0
theorem vOk_eq (k n : Int) (s : ByteArray) : vOk k n s = (decide (0 ≤ k) && decide (k ≤ 3) && (n == 0 || k == 2 || k == 1 && n == 1) && (s.toList == [] || k == 3)) := by
  unfold vOk
  generalize (s.toList == []) = e
  rw [Bool.eq_iff_iff]
  by_cases h0 : k = 0
  · subst h0; cases e <;> simp
  by_cases h1 : k = 1
  · subst h1; cases e <;> simp
  by_cases h2 : k = 2
  · subst h2; cases e <;> simp
  by_cases h3 : k = 3
  · subst h3; cases e <;> simp
  rw [if_neg h0, if_neg h1, if_neg h2]
  simp
  omega
theorem kinds (k : Int) : k = 0 ∨ k = 1 ∨ k = 2 ∨ k = 3 ∨ ((k == 0) = false ∧ (k == 1) = false ∧ (k == 2) = false ∧ (k == 3) = false ∧ (k < 0 ∨ 3 < k)) := by
  simp only [beq_eq_false_iff_ne]
  omega
theorem nums (n : Int) : n = 0 ∨ n = 1 ∨ ((n == 0) = false ∧ (n == 1) = false) := by
  simp only [beq_eq_false_iff_ne]
  omega
set_option maxHeartbeats 4000000 in
theorem valok_any (k n : Int) (s : ByteArray) (w : World) :
    Calls Tryz.prog 59 #[vV k n s] w fun e w' => e = .returned (.bool (vOk k n s)) ∧ Below w.heap.size w w' := by
  unfold vV
  cases hs : s.toList.isEmpty
  all_goals
    rcases kinds k with rfl | rfl | rfl | rfl | ⟨k0, k1, k2, k3, k4⟩
  all_goals
    rcases nums n with rfl | rfl | ⟨n0, n1⟩
  all_goals
    go_enter Tryz.func59, Tryz.ntmps59
    go_wp2_with fail
    go_ret
    refine ⟨ret_b ?_, by go_grown⟩
    first
    | (simp [vOk, *]; done)
    | (simp only [beq_eq_false_iff_ne] at k0 k1 k2 k3; simp [vOk, *]; done)
set_option maxHeartbeats 4000000 in
theorem refok_any (k n : Int) (s : ByteArray) (w : World) :
    Calls Tryz.prog 18 #[vV k n s] w fun e w' => e = .returned (.bool (vOk k n s)) ∧ Below w.heap.size w w' := by
  rw [vOk_eq]
  unfold vV
  cases hs : s.toList.isEmpty
  all_goals
    rcases kinds k with rfl | rfl | rfl | rfl | ⟨k0, k1, k2, k3, k4⟩
  all_goals
    rcases nums n with rfl | rfl | ⟨n0, n1⟩
  all_goals
    try rcases k4 with k4 | k4
  all_goals
    go_enter Tryz.func18, Tryz.ntmps18
    go_wp2_with fail
    go_ret
    refine ⟨ret_b ?_, by go_grown⟩
    first
    | (simp [*]; done)
    | (rw [show decide (0 ≤ k) = false by simp; omega]; simp; done)
    | (rw [show decide (k ≤ 3) = false by simp; omega]; simp; done)
set_option maxHeartbeats 1000000 in
theorem refsame_any (k n : Int) (s : ByteArray) (k' n' : Int) (s' : ByteArray) (w : World) :
    Calls Tryz.prog 14 #[vV k n s, vV k' n' s'] w fun e w' => e = .returned (.bool (k == k' && n == n' && s.toList == s'.toList)) ∧ Below w.heap.size w w' := by
  unfold vV
  cases hk : (k == k')
  all_goals cases hn : (n == n')
  all_goals
    go_enter Tryz.func14, Tryz.ntmps14
    go_wp2_with fail
    go_ret
    refine ⟨ret_b ?_, by go_grown⟩
    simp
theorem valint_any (n : Int) (w : World) : Calls Tryz.prog 27 #[.int .i64 n] w fun e w' => e = .returned (vV 2 n emp) ∧ Below w.heap.size w w' := by
  go_enter Tryz.func27, Tryz.ntmps27
  go_wp2_with fail
  exact bodyPost_ret (v := vV 2 n emp) (by simp [results, Tryz.results27, go_sem, vV, emp]) rfl ⟨rfl, by go_grown⟩
theorem refint_any (n : Int) (w : World) : Calls Tryz.prog 39 #[.int .i64 n] w fun e w' => e = .returned (vV 2 n emp) ∧ Below w.heap.size w w' := by
  go_enter Tryz.func39, Tryz.ntmps39
  go_wp2_with fail
  exact bodyPost_ret (v := vV 2 n emp) (by simp [results, Tryz.results39, go_sem, vV, emp]) rfl ⟨rfl, by go_grown⟩
theorem valtext_any (s : ByteArray) (w : World) : Calls Tryz.prog 28 #[.string s] w fun e w' => e = .returned (vV 3 0 s) ∧ Below w.heap.size w w' := by
  go_enter Tryz.func28, Tryz.ntmps28
  go_wp2_with fail
  exact bodyPost_ret (v := vV 3 0 s) (by simp [results, Tryz.results28, go_sem, vV]) rfl ⟨rfl, by go_grown⟩
theorem reftextv_any (s : ByteArray) (w : World) : Calls Tryz.prog 37 #[.string s] w fun e w' => e = .returned (vV 3 0 s) ∧ Below w.heap.size w w' := by
  go_enter Tryz.func37, Tryz.ntmps37
  go_wp2_with fail
  exact bodyPost_ret (v := vV 3 0 s) (by simp [results, Tryz.results37, go_sem, vV]) rfl ⟨rfl, by go_grown⟩
def bN (b : Bool) : Int := if b then 1 else 0
theorem valbool_any (b : Bool) (w : World) : Calls Tryz.prog 31 #[.bool b] w fun e w' => e = .returned (vV 1 (bN b) emp) ∧ Below w.heap.size w w' := by
  cases b
  all_goals
    go_enter Tryz.func31, Tryz.ntmps31
    go_wp2_with fail
  · exact bodyPost_ret (v := vV 1 0 emp) (by simp [results, Tryz.results31, go_sem, vV, emp]) rfl ⟨rfl, by go_grown⟩
  · exact bodyPost_ret (v := vV 1 1 emp) (by simp [results, Tryz.results31, go_sem, vV, emp]) rfl ⟨rfl, by go_grown⟩
theorem refbool_any (b : Bool) (w : World) : Calls Tryz.prog 36 #[.bool b] w fun e w' => e = .returned (vV 1 (bN b) emp) ∧ Below w.heap.size w w' := by
  cases b
  all_goals
    go_enter Tryz.func36, Tryz.ntmps36
    go_wp2_with fail
  · exact bodyPost_ret (v := vV 1 0 emp) (by simp [results, Tryz.results36, go_sem, vV, emp]) rfl ⟨rfl, by go_grown⟩
  · exact bodyPost_ret (v := vV 1 1 emp) (by simp [results, Tryz.results36, go_sem, vV, emp]) rfl ⟨rfl, by go_grown⟩
theorem valnull_any (w : World) : Calls Tryz.prog 30 #[] w fun e w' => e = .returned (vV 0 0 emp) ∧ Below w.heap.size w w' := by
  go_enter Tryz.func30, Tryz.ntmps30
  go_wp2_with fail
  exact bodyPost_ret (v := vV 0 0 emp) (by simp [results, Tryz.results30, go_sem, vV, emp]) rfl ⟨rfl, by go_grown⟩
theorem blk3 {w : World} {g : Nat} {a b c : Value} {t : TypeId} (h : Blk w g #[a, b, c] t) (a' b' c' : Value) : Blk (((w.setCell ⟨g, 0, none⟩ a').setCell ⟨g, 1, none⟩ b').setCell ⟨g, 2, none⟩ c') g #[a', b', c'] t :=
  ((h.set 0 a').set 1 b').set 2 c'
theorem below3 {w w0 : World} {g B : Nat} (h : Below B w0 w) (hg : B ≤ g) (a' b' c' : Value) : Below B w0 (((w.setCell ⟨g, 0, none⟩ a').setCell ⟨g, 1, none⟩ b').setCell ⟨g, 2, none⟩ c') :=
  ((h.setCell (p := ⟨g, 0, none⟩) hg a').setCell (p := ⟨g, 1, none⟩) hg b').setCell (p := ⟨g, 2, none⟩) hg c'
end Go.Proofs.YtbdaebjpgdpcnaaGreatDoor
