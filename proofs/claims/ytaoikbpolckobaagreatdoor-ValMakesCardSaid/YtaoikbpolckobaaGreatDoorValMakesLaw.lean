/-
  The law of making values, walked.
-/
import Derived.Test.YtaoikbpolckobaaGreatDoorValB
namespace Go.Proofs.YtaoikbpolckobaaGreatDoor
open Go.RowKit
set_option maxRecDepth 100000

theorem same_refl (k n : Int) (s : ByteArray) : (k == k && n == n && s.toList == s.toList) = true := by simp
theorem ok_int (n : Int) : vOk 2 n emp = true := by
  unfold vOk
  have : (emp.toList == []) = true := by decide +kernel
  simpa using this
theorem ok_text (s : ByteArray) : vOk 3 0 s = true := by simp [vOk]
theorem ok_bool (b : Bool) : vOk 1 (bN b) emp = true := by cases b <;> decide +kernel
set_option maxHeartbeats 8000000 in
theorem law_makes (n : Int) (s : ByteArray) (b : Bool) (k m : Int) (t : ByteArray) (w : World) (hG : Glob w) :
    Calls Tryz.prog 10 #[.int .i64 n, .string s, .bool b, vV k m t] w fun e w' => e = .returned (.bool true) ∧ Below w.heap.size w w' := by
  rw [show vV k m t = .agg #[.int .i64 k, .int .i64 m, .string t] from rfl]
  go_enter Tryz.func10, Tryz.ntmps10
  go_wp2_with fail
  refine (valint_any n _).mono ?_
  rintro e w1 ⟨rfl, hb1⟩
  have hA := (Blk.new w #[.int .i64 k, .int .i64 m, .string t] 75 rfl).keep hb1
  have HB1 := Lib.hid (show Below w.heap.size w w1 from Below.trans (by go_grown) (hb1.mono (by simp)))
  have HA := Lib.hid hA
  clear hb1 hA
  go_wp2_with fail
  refine (valtext_any s _).mono ?_
  rintro e w2 ⟨rfl, hb2⟩
  have HB2 := Lib.hid (HB1.out.trans (hb2.mono HB1.out.size))
  have HA2 := Lib.hid (HA.out.keep hb2)
  clear hb2
  go_wp2_with fail
  refine (valbool_any b _).mono ?_
  rintro e w3 ⟨rfl, hb3⟩
  have HB3 := Lib.hid (HB2.out.trans (hb3.mono HB2.out.size))
  have HA3 := Lib.hid (HA2.out.keep hb3)
  clear hb3
  simp only [vV]
  go_wp2_with fail
  have h1 := ((Blk.new w3 #[.int .i64 2, .int .i64 n, .string emp] 75 rfl).alloc (.cells #[.int .i64 3, .int .i64 0, .string s] 75)).alloc (.cells #[.int .i64 1, .int .i64 (bN b), .string emp] 75)
  have h2 := (Blk.new (w3.alloc (.cells #[.int .i64 2, .int .i64 n, .string emp] 75)) #[.int .i64 3, .int .i64 0, .string s] 75 (n := w3.heap.size + 1) (by simp)).alloc (.cells #[.int .i64 1, .int .i64 (bN b), .string emp] 75)
  have h3 := Blk.new ((w3.alloc (.cells #[.int .i64 2, .int .i64 n, .string emp] 75)).alloc (.cells #[.int .i64 3, .int .i64 0, .string s] 75)) #[.int .i64 1, .int .i64 (bN b), .string emp] 75 (n := w3.heap.size + 1 + 1) (by simp)
  have h4 := ((HA3.out.alloc (.cells #[.int .i64 2, .int .i64 n, .string emp] 75)).alloc (.cells #[.int .i64 3, .int .i64 0, .string s] 75)).alloc (.cells #[.int .i64 1, .int .i64 (bN b), .string emp] 75)
  have hb0 : Below w.heap.size w (((w3.alloc (.cells #[.int .i64 2, .int .i64 n, .string emp] 75)).alloc (.cells #[.int .i64 3, .int .i64 0, .string s] 75)).alloc (.cells #[.int .i64 1, .int .i64 (bN b), .string emp] 75)) := ((HB3.out.alloc HB3.out.size _).alloc (Nat.le_trans HB3.out.size (by simp)) _).alloc (Nat.le_trans HB3.out.size (by simp; omega)) _
  generalize hr : w3.heap.size = R at h1 h2 h3
  generalize (((w3.alloc (.cells #[.int .i64 2, .int .i64 n, .string emp] 75)).alloc (.cells #[.int .i64 3, .int .i64 0, .string s] 75)).alloc (.cells #[.int .i64 1, .int .i64 (bN b), .string emp] 75)) = W0 at h1 h2 h3 h4 hb0 ⊢
  have HF := Lib.hid (show ∀ W, Ext W0 W → (∀ o, W.cell? ⟨R, o, none⟩ = #[.int .i64 2, .int .i64 n, .string emp][o]?) ∧ (∀ o, W.cell? ⟨R + 1, o, none⟩ = #[.int .i64 3, .int .i64 0, .string s][o]?) ∧ (∀ o, W.cell? ⟨R + 1 + 1, o, none⟩ = #[.int .i64 1, .int .i64 (bN b), .string emp][o]?) ∧ (∀ o, W.cell? ⟨w.heap.size, o, none⟩ = #[.int .i64 k, .int .i64 m, .string t][o]?) from
    fun W hW => ⟨(h1.keep hW).cell, (h2.keep hW).cell, (h3.keep hW).cell, (h4.keep hW).cell⟩)
  have HB0 := Lib.hid hb0
  have HGX := Lib.hid (hG.keep hb0)
  clear h1 h2 h3 h4 hb0 hr
  refine wp_par 44 (fun
      | 0 => fun v _ => v = vV 2 n emp
      | 1 => fun v _ => v = .int .i64 n
      | 2 => fun v _ => v = vV 2 n emp
      | 3 => fun v _ => v = .bool true
      | 4 => fun v _ => v = .bool true
      | 5 => fun v _ => v = vV 3 0 s
      | 6 => fun v _ => v = .string s
      | 7 => fun v _ => v = vV 3 0 s
      | 8 => fun v _ => v = .bool true
      | 9 => fun v _ => v = .bool true
      | 10 => fun v _ => v = .bool true
      | 11 => fun v _ => v = vV 1 (bN b) emp
      | 12 => fun v _ => v = .bool b
      | 13 => fun v _ => v = vV 1 (bN b) emp
      | 14 => fun v _ => v = .bool true
      | 15 => fun v _ => v = .bool true
      | 16 => fun v _ => v = .bool true
      | 17 => fun v _ => v = vV 0 0 emp
      | 18 => fun v _ => v = vV 0 0 emp
      | 19 => fun v _ => v = .bool true
      | 20 => fun v _ => v = .bool true
      | 21 => fun v _ => v = .bool true
      | 22 => fun v _ => v = vV k m t
      | 23 => fun v _ => v = .bool (vOk k m t)
      | 24 => fun v _ => v = vV k m t
      | 25 => fun v _ => v = .bool (vOk k m t)
      | 26 => fun v _ => v = .bool true
      | 27 => fun v _ => v = .bool true
      | 28 => fun v _ => v = .bool true
      | 29 => fun v _ => v = vV 2 n emp
      | 30 => fun v _ => v = .bool true
      | 31 => fun v _ => v = .bool true
      | 32 => fun v _ => v = .bool true
      | 33 => fun v _ => v = vV 3 0 s
      | 34 => fun v _ => v = .bool true
      | 35 => fun v _ => v = .bool true
      | 36 => fun v _ => v = .bool true
      | 37 => fun v _ => v = vV 1 (bN b) emp
      | 38 => fun v _ => v = .bool true
      | 39 => fun v _ => v = .bool true
      | 40 => fun v _ => v = .bool true
      | 41 => fun v _ => v = .bool true
      | 42 => fun v _ => v = .bool true
      | 43 => fun v _ => v = .bool true
      | _ => fun _ _ => True) (by kernel_rfl) (by kernel_rfl) (by kernel_rfl) ?_ ?_
  · simp (maxSteps := 20000000) only [List.take_succ_cons, List.take_zero, ParAll, Act.put, List.setIfInBounds_toArray, List.set_cons_succ, List.set_cons_zero]
    refine ⟨?_, ?_, ?_, ?_, ?_, ?_, ?_, ?_, ?_, ?_, ?_, ?_, ?_, ?_, ?_, ?_, ?_, ?_, ?_, ?_, ?_, ?_, ?_, ?_, ?_, ?_, ?_, ?_, ?_, ?_, ?_, ?_, ?_, ?_, ?_, ?_, ?_, ?_, ?_, ?_, ?_, ?_, ?_, ?_, trivial⟩
    · intro vals W hx hd
      have hW := HF.out W hx
      simp [PDeps, pdeps, Region.binds] at hd
      first
        | refine ParOb.plain rfl ?_
        | refine ParOb.wanted (by simp [Region.wanted, yielded, hd]) ?_
      go_simp
      exact ParPost.same fun _ _ => rfl
    · intro vals W hx hd
      have hW := HF.out W hx
      simp [PDeps, pdeps, Region.binds] at hd
      first
        | refine ParOb.plain rfl ?_
        | refine ParOb.wanted (by simp [Region.wanted, yielded, hd]) ?_
      go_simp
      exact ParPost.same fun _ _ => rfl
    · intro vals W hx hd
      have hW := HF.out W hx
      simp [PDeps, pdeps, Region.binds] at hd
      first
        | refine ParOb.plain rfl ?_
        | refine ParOb.wanted (by simp [Region.wanted, yielded, hd]) ?_
      go_simp
      refine (refint_any n W).mono ?_
      rintro e w2 ⟨rfl, hb2⟩
      exact ⟨_, rfl, hb2, fun _ _ => rfl⟩
    · intro vals W hx hd
      have hW := HF.out W hx
      simp [PDeps, pdeps, Region.binds] at hd
      first
        | refine ParOb.plain rfl ?_
        | refine ParOb.wanted (by simp [Region.wanted, yielded, hd]) ?_
      go_simp
      refine (refsame_any 2 n emp 2 n emp W).mono ?_
      rintro e w2 ⟨rfl, hb2⟩
      exact ⟨_, rfl, hb2, fun _ _ => congrArg Value.bool (same_refl _ _ _)⟩
    · intro vals W hx hd
      have hW := HF.out W hx
      simp [PDeps, pdeps, Region.binds] at hd
      first
        | refine ParOb.plain rfl ?_
        | refine ParOb.wanted (by simp [Region.wanted, yielded, hd]) ?_
      go_simp
      exact ParPost.same fun _ _ => rfl
    · intro vals W hx hd
      have hW := HF.out W hx
      simp [PDeps, pdeps, Region.binds] at hd
      first
        | refine ParOb.plain rfl ?_
        | refine ParOb.wanted (by simp [Region.wanted, yielded, hd]) ?_
      go_simp
      exact ParPost.same fun _ _ => rfl
    · intro vals W hx hd
      have hW := HF.out W hx
      simp [PDeps, pdeps, Region.binds] at hd
      first
        | refine ParOb.plain rfl ?_
        | refine ParOb.wanted (by simp [Region.wanted, yielded, hd]) ?_
      go_simp
      exact ParPost.same fun _ _ => rfl
    · intro vals W hx hd
      have hW := HF.out W hx
      simp [PDeps, pdeps, Region.binds] at hd
      first
        | refine ParOb.plain rfl ?_
        | refine ParOb.wanted (by simp [Region.wanted, yielded, hd]) ?_
      go_simp
      refine (reftextv_any s W).mono ?_
      rintro e w2 ⟨rfl, hb2⟩
      exact ⟨_, rfl, hb2, fun _ _ => rfl⟩
    · intro vals W hx hd
      have hW := HF.out W hx
      simp [PDeps, pdeps, Region.binds] at hd
      first
        | refine ParOb.plain rfl ?_
        | refine ParOb.wanted (by simp [Region.wanted, yielded, hd]) ?_
      go_simp
      refine (refsame_any 3 0 s 3 0 s W).mono ?_
      rintro e w2 ⟨rfl, hb2⟩
      exact ⟨_, rfl, hb2, fun _ _ => congrArg Value.bool (same_refl _ _ _)⟩
    · intro vals W hx hd
      have hW := HF.out W hx
      simp [PDeps, pdeps, Region.binds] at hd
      first
        | refine ParOb.plain rfl ?_
        | refine ParOb.wanted (by simp [Region.wanted, yielded, hd]) ?_
      go_simp
      exact ParPost.same fun _ _ => rfl
    · intro vals W hx hd
      have hW := HF.out W hx
      simp [PDeps, pdeps, Region.binds] at hd
      first
        | refine ParOb.plain rfl ?_
        | refine ParOb.wanted (by simp [Region.wanted, yielded, hd]) ?_
      go_simp
      exact ParPost.same fun _ _ => rfl
    · intro vals W hx hd
      have hW := HF.out W hx
      simp [PDeps, pdeps, Region.binds] at hd
      first
        | refine ParOb.plain rfl ?_
        | refine ParOb.wanted (by simp [Region.wanted, yielded, hd]) ?_
      go_simp
      exact ParPost.same fun _ _ => rfl
    · intro vals W hx hd
      have hW := HF.out W hx
      simp [PDeps, pdeps, Region.binds] at hd
      first
        | refine ParOb.plain rfl ?_
        | refine ParOb.wanted (by simp [Region.wanted, yielded, hd]) ?_
      go_simp
      exact ParPost.same fun _ _ => rfl
    · intro vals W hx hd
      have hW := HF.out W hx
      simp [PDeps, pdeps, Region.binds] at hd
      first
        | refine ParOb.plain rfl ?_
        | refine ParOb.wanted (by simp [Region.wanted, yielded, hd]) ?_
      go_simp
      refine (refbool_any b W).mono ?_
      rintro e w2 ⟨rfl, hb2⟩
      exact ⟨_, rfl, hb2, fun _ _ => rfl⟩
    · intro vals W hx hd
      have hW := HF.out W hx
      simp [PDeps, pdeps, Region.binds] at hd
      first
        | refine ParOb.plain rfl ?_
        | refine ParOb.wanted (by simp [Region.wanted, yielded, hd]) ?_
      go_simp
      refine (refsame_any 1 (bN b) emp 1 (bN b) emp W).mono ?_
      rintro e w2 ⟨rfl, hb2⟩
      exact ⟨_, rfl, hb2, fun _ _ => congrArg Value.bool (same_refl _ _ _)⟩
    · intro vals W hx hd
      have hW := HF.out W hx
      simp [PDeps, pdeps, Region.binds] at hd
      first
        | refine ParOb.plain rfl ?_
        | refine ParOb.wanted (by simp [Region.wanted, yielded, hd]) ?_
      go_simp
      exact ParPost.same fun _ _ => rfl
    · intro vals W hx hd
      have hW := HF.out W hx
      simp [PDeps, pdeps, Region.binds] at hd
      first
        | refine ParOb.plain rfl ?_
        | refine ParOb.wanted (by simp [Region.wanted, yielded, hd]) ?_
      go_simp
      exact ParPost.same fun _ _ => rfl
    · intro vals W hx hd
      have hW := HF.out W hx
      simp [PDeps, pdeps, Region.binds] at hd
      first
        | refine ParOb.plain rfl ?_
        | refine ParOb.wanted (by simp [Region.wanted, yielded, hd]) ?_
      go_simp
      refine (valnull_any W).mono ?_
      rintro e w2 ⟨rfl, hb2⟩
      exact ⟨_, rfl, hb2, fun _ _ => rfl⟩
    · intro vals W hx hd
      have hW := HF.out W hx
      simp [PDeps, pdeps, Region.binds] at hd
      first
        | refine ParOb.plain rfl ?_
        | refine ParOb.wanted (by simp [Region.wanted, yielded, hd]) ?_
      go_simp
      exact ParPost.same fun _ _ => rfl
    · intro vals W hx hd
      have hW := HF.out W hx
      simp [PDeps, pdeps, Region.binds] at hd
      first
        | refine ParOb.plain rfl ?_
        | refine ParOb.wanted (by simp [Region.wanted, yielded, hd]) ?_
      go_simp
      refine (refsame_any 0 0 emp 0 0 emp W).mono ?_
      rintro e w2 ⟨rfl, hb2⟩
      exact ⟨_, rfl, hb2, fun _ _ => congrArg Value.bool (same_refl _ _ _)⟩
    · intro vals W hx hd
      have hW := HF.out W hx
      simp [PDeps, pdeps, Region.binds] at hd
      first
        | refine ParOb.plain rfl ?_
        | refine ParOb.wanted (by simp [Region.wanted, yielded, hd]) ?_
      go_simp
      exact ParPost.same fun _ _ => rfl
    · intro vals W hx hd
      have hW := HF.out W hx
      simp [PDeps, pdeps, Region.binds] at hd
      first
        | refine ParOb.plain rfl ?_
        | refine ParOb.wanted (by simp [Region.wanted, yielded, hd]) ?_
      go_simp
      exact ParPost.same fun _ _ => rfl
    · intro vals W hx hd
      have hW := HF.out W hx
      simp [PDeps, pdeps, Region.binds] at hd
      first
        | refine ParOb.plain rfl ?_
        | refine ParOb.wanted (by simp [Region.wanted, yielded, hd]) ?_
      go_simp
      exact ParPost.same fun _ _ => rfl
    · intro vals W hx hd
      have hW := HF.out W hx
      simp [PDeps, pdeps, Region.binds] at hd
      first
        | refine ParOb.plain rfl ?_
        | refine ParOb.wanted (by simp [Region.wanted, yielded, hd]) ?_
      go_simp
      refine (valok_any k m t W).mono ?_
      rintro e w2 ⟨rfl, hb2⟩
      exact ⟨_, rfl, hb2, fun _ _ => rfl⟩
    · intro vals W hx hd
      have hW := HF.out W hx
      simp [PDeps, pdeps, Region.binds] at hd
      first
        | refine ParOb.plain rfl ?_
        | refine ParOb.wanted (by simp [Region.wanted, yielded, hd]) ?_
      go_simp
      exact ParPost.same fun _ _ => rfl
    · intro vals W hx hd
      have hW := HF.out W hx
      simp [PDeps, pdeps, Region.binds] at hd
      first
        | refine ParOb.plain rfl ?_
        | refine ParOb.wanted (by simp [Region.wanted, yielded, hd]) ?_
      go_simp
      refine (refok_any k m t W).mono ?_
      rintro e w2 ⟨rfl, hb2⟩
      exact ⟨_, rfl, hb2, fun _ _ => rfl⟩
    · intro vals W hx hd
      have hW := HF.out W hx
      simp [PDeps, pdeps, Region.binds] at hd
      first
        | refine ParOb.plain rfl ?_
        | refine ParOb.wanted (by simp [Region.wanted, yielded, hd]) ?_
      have hq := beq_self_eq_true (vOk k m t)
      go_simp
      exact ParPost.same fun _ _ => rfl
    · intro vals W hx hd
      have hW := HF.out W hx
      simp [PDeps, pdeps, Region.binds] at hd
      first
        | refine ParOb.plain rfl ?_
        | refine ParOb.wanted (by simp [Region.wanted, yielded, hd]) ?_
      go_simp
      exact ParPost.same fun _ _ => rfl
    · intro vals W hx hd
      have hW := HF.out W hx
      simp [PDeps, pdeps, Region.binds] at hd
      first
        | refine ParOb.plain rfl ?_
        | refine ParOb.wanted (by simp [Region.wanted, yielded, hd]) ?_
      go_simp
      exact ParPost.same fun _ _ => rfl
    · intro vals W hx hd
      have hW := HF.out W hx
      simp [PDeps, pdeps, Region.binds] at hd
      first
        | refine ParOb.plain rfl ?_
        | refine ParOb.wanted (by simp [Region.wanted, yielded, hd]) ?_
      go_simp
      exact ParPost.same fun _ _ => rfl
    · intro vals W hx hd
      have hW := HF.out W hx
      simp [PDeps, pdeps, Region.binds] at hd
      first
        | refine ParOb.plain rfl ?_
        | refine ParOb.wanted (by simp [Region.wanted, yielded, hd]) ?_
      go_simp
      refine (valok_any 2 n emp W).mono ?_
      rintro e w2 ⟨rfl, hb2⟩
      exact ⟨_, rfl, hb2, fun _ _ => congrArg Value.bool (ok_int n)⟩
    · intro vals W hx hd
      have hW := HF.out W hx
      simp [PDeps, pdeps, Region.binds] at hd
      first
        | refine ParOb.plain rfl ?_
        | refine ParOb.wanted (by simp [Region.wanted, yielded, hd]) ?_
      go_simp
      exact ParPost.same fun _ _ => rfl
    · intro vals W hx hd
      have hW := HF.out W hx
      simp [PDeps, pdeps, Region.binds] at hd
      first
        | refine ParOb.plain rfl ?_
        | refine ParOb.wanted (by simp [Region.wanted, yielded, hd]) ?_
      go_simp
      exact ParPost.same fun _ _ => rfl
    · intro vals W hx hd
      have hW := HF.out W hx
      simp [PDeps, pdeps, Region.binds] at hd
      first
        | refine ParOb.plain rfl ?_
        | refine ParOb.wanted (by simp [Region.wanted, yielded, hd]) ?_
      go_simp
      exact ParPost.same fun _ _ => rfl
    · intro vals W hx hd
      have hW := HF.out W hx
      simp [PDeps, pdeps, Region.binds] at hd
      first
        | refine ParOb.plain rfl ?_
        | refine ParOb.wanted (by simp [Region.wanted, yielded, hd]) ?_
      go_simp
      refine (valok_any 3 0 s W).mono ?_
      rintro e w2 ⟨rfl, hb2⟩
      exact ⟨_, rfl, hb2, fun _ _ => congrArg Value.bool (ok_text s)⟩
    · intro vals W hx hd
      have hW := HF.out W hx
      simp [PDeps, pdeps, Region.binds] at hd
      first
        | refine ParOb.plain rfl ?_
        | refine ParOb.wanted (by simp [Region.wanted, yielded, hd]) ?_
      go_simp
      exact ParPost.same fun _ _ => rfl
    · intro vals W hx hd
      have hW := HF.out W hx
      simp [PDeps, pdeps, Region.binds] at hd
      first
        | refine ParOb.plain rfl ?_
        | refine ParOb.wanted (by simp [Region.wanted, yielded, hd]) ?_
      go_simp
      exact ParPost.same fun _ _ => rfl
    · intro vals W hx hd
      have hW := HF.out W hx
      simp [PDeps, pdeps, Region.binds] at hd
      first
        | refine ParOb.plain rfl ?_
        | refine ParOb.wanted (by simp [Region.wanted, yielded, hd]) ?_
      go_simp
      exact ParPost.same fun _ _ => rfl
    · intro vals W hx hd
      have hW := HF.out W hx
      simp [PDeps, pdeps, Region.binds] at hd
      first
        | refine ParOb.plain rfl ?_
        | refine ParOb.wanted (by simp [Region.wanted, yielded, hd]) ?_
      go_simp
      refine (valok_any 1 (bN b) emp W).mono ?_
      rintro e w2 ⟨rfl, hb2⟩
      exact ⟨_, rfl, hb2, fun _ _ => congrArg Value.bool (ok_bool b)⟩
    · intro vals W hx hd
      have hW := HF.out W hx
      simp [PDeps, pdeps, Region.binds] at hd
      first
        | refine ParOb.plain rfl ?_
        | refine ParOb.wanted (by simp [Region.wanted, yielded, hd]) ?_
      go_simp
      exact ParPost.same fun _ _ => rfl
    · intro vals W hx hd
      have hW := HF.out W hx
      simp [PDeps, pdeps, Region.binds] at hd
      first
        | refine ParOb.plain rfl ?_
        | refine ParOb.wanted (by simp [Region.wanted, yielded, hd]) ?_
      go_simp
      exact ParPost.same fun _ _ => rfl
    · intro vals W hx hd
      have hW := HF.out W hx
      simp [PDeps, pdeps, Region.binds] at hd
      first
        | refine ParOb.plain rfl ?_
        | refine ParOb.wanted (by simp [Region.wanted, yielded, hd]) ?_
      go_simp
      refine (valawake_any W (HGX.out.keep hx)).mono ?_
      rintro e w2 ⟨rfl, hb2⟩
      exact ⟨_, rfl, hb2, fun _ _ => rfl⟩
    · intro vals W hx hd
      have hW := HF.out W hx
      simp [PDeps, pdeps, Region.binds] at hd
      first
        | refine ParOb.plain rfl ?_
        | refine ParOb.wanted (by simp [Region.wanted, yielded, hd]) ?_
      go_simp
      exact ParPost.same fun _ _ => rfl
    · intro vals W hx hd
      have hW := HF.out W hx
      simp [PDeps, pdeps, Region.binds] at hd
      first
        | refine ParOb.plain rfl ?_
        | refine ParOb.wanted (by simp [Region.wanted, yielded, hd]) ?_
      go_simp
      exact ParPost.same fun _ _ => rfl
  intro vals W hx hf
  simp (maxSteps := 20000000) only [ParFacts, List.take_succ_cons, List.take_zero, and_true] at hf
  simp (maxSteps := 20000000) only [List.drop_succ_cons, List.drop_zero, List.take_succ_cons, List.take_zero, ParEnd, Act.put, List.setIfInBounds_toArray, List.set_cons_succ, List.set_cons_zero, hf]
  clear hf
  go_wp2_with fail
  go_ret
  exact ⟨rfl, HB0.out.trans (hx.mono HB0.out.size)⟩
end Go.Proofs.YtaoikbpolckobaaGreatDoor
