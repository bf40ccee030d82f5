/-
  The parser: all levels together.
-/
import Derived.Test.YtlhkmdchjklaeaaGreatDoorPsrM
namespace Go.Proofs.YtlhkmdchjklaeaaGreatDoor
open Go.RowKit Go.Lib
set_option maxRecDepth 100000

/-- What a level's own function reads. -/
def ownF (rec : Nat → PSt → Option (Tr × PSt)) (T : List Lx.Tok) (long f k : Nat) (s : PSt) : Option (Tr × PSt) :=
  if k = 3 then notF rec T long 3 2 [78, 79, 84] 21 s
  else if k = 4 then testF rec T long 4 s
  else if k = 10 then notF rec T long 10 5 [45] 20 s
  else if k = 11 then collF rec T long f 11 s
  else if k = 12 then plainF rec T long s
  else if 1 ≤ k ∧ k ≤ 9 then rowF rec T f k s else none
/-- What a level reads, in so many steps. -/
def lev (T : List Lx.Tok) (long : Nat) : Nat → Nat → PSt → Option (Tr × PSt)
  | 0, _, _ => none
  | f + 1, k, s => if s.e = 0 then ownF (lev T long f) T long f k s else some (zTr, s)
theorem lev_ok (p g cap long : Nat) (T : List Lx.Tok) : ∀ f, LevOk p g cap long T (lev T long f)
  | 0 => fun k kz s r s' w _ _ hf _ => by cases hf
  | f + 1 => fun k kz s r s' w hkz hk hf h => by
    have ih := lev_ok p g cap long T f
    subst hkz
    rw [lev] at hf
    by_cases he : s.e = 0
    · rw [if_pos he] at hf
      have hb : (s.e == 0) = true := by simpa using he
      unfold ownF at hf
      by_cases k3 : k = 3
      · subst k3
        rw [if_pos rfl] at hf
        exact level_own _ 66 (fun _ => by kernel_rfl) (fun _ _ => by kernel_rfl) p g cap long T s hb r s' w h fun W hW => pnot_any p g cap long T _ ih 3 (by decide) s r s' W hf hW
      rw [if_neg k3] at hf
      by_cases k4 : k = 4
      · subst k4
        rw [if_pos rfl] at hf
        exact level_own _ 67 (fun _ => by kernel_rfl) (fun _ _ => by kernel_rfl) p g cap long T s hb r s' w h fun W hW => ptest_any p g cap long T _ ih 4 (by decide) s r s' W hf hW
      rw [if_neg k4] at hf
      by_cases k10 : k = 10
      · subst k10
        rw [if_pos rfl] at hf
        exact level_own _ 68 (fun _ => by kernel_rfl) (fun _ _ => by kernel_rfl) p g cap long T s hb r s' w h fun W hW => pneg_any p g cap long T _ ih 10 (by decide) s r s' W hf hW
      rw [if_neg k10] at hf
      by_cases k11 : k = 11
      · subst k11
        rw [if_pos rfl] at hf
        exact level_own _ 69 (fun _ => by kernel_rfl) (fun _ _ => by kernel_rfl) p g cap long T s hb r s' w h fun W hW => collate_any p g cap long T _ ih f 11 (by decide) s r s' W hf hW
      rw [if_neg k11] at hf
      by_cases k12 : k = 12
      · subst k12
        rw [if_pos rfl] at hf
        exact level_own _ 70 (fun _ => by kernel_rfl) (fun _ _ => by kernel_rfl) p g cap long T s hb r s' w h fun W hW => plain_any _ p g cap long T _ ih s r s' W hf hW
      rw [if_neg k12] at hf
      by_cases k9 : 1 ≤ k ∧ k ≤ 9
      · rw [if_pos k9] at hf
        have hrow : ∀ W, PsAt W p g cap long T s → Calls Tryz.prog 65 #[.pointer (some ⟨p, 0, none⟩), .int .i64 k] W (LevPost p g cap long T r s' W) := fun W hW => row_any p g cap long T _ ih f k (by omega) s r s' W hf hW
        rcases (by omega : k = 1 ∨ k = 2 ∨ k = 5 ∨ k = 6 ∨ k = 7 ∨ k = 8 ∨ k = 9) with rfl | rfl | rfl | rfl | rfl | rfl | rfl
        all_goals exact level_own _ 65 (fun _ => by kernel_rfl) (fun _ _ => by kernel_rfl) p g cap long T s hb r s' w h hrow
      · rw [if_neg k9] at hf; cases hf
    · rw [if_neg he] at hf
      obtain ⟨rfl, rfl⟩ := Prod.mk.inj (Option.some.inj hf)
      exact level_err _ p g cap long T s (by simpa using he) w h
end Go.Proofs.YtlhkmdchjklaeaaGreatDoor
