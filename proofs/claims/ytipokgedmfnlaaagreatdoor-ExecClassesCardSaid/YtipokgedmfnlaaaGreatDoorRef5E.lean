/-
  The document's tables: how two signs stand (before), whether they are the same (SameInts); slices of entries that read so. The document's tables in plain Lean and in memory: an entry is put in order. append of a slice that reads so to a slice that the call has made: also where it is nil. The document's tables: what 'put' leaves in memory is the list with the entry in order.
-/
import Derived.Test.YtipokgedmfnlaaaGreatDoorCmp
namespace Go.Proofs.YtipokgedmfnlaaaGreatDoor
open Go.RowKit Go.Lib
set_option maxRecDepth 100000

/-- A slice of n elements that reads so, cell by cell. -/
def ReadsN (w : World) (v : Value) (n : Nat) (xs : List Value) : Prop :=
  (v = .slice none 0 0 ∧ n = 0 ∧ xs = []) ∨ ∃ g c, v = .slice (some ⟨g, 0, none⟩) n c ∧ n ≤ c ∧ g < w.heap.size ∧ ∀ (j : Nat) (u : Value), xs[j]? = some u → w.cell? ⟨g, j, none⟩ = some u
theorem ReadsN.ext {w w' : World} {v : Value} {n : Nat} {xs : List Value} (h : ReadsN w v n xs) (hx : Ext w w') : ReadsN w' v n xs := by
  rcases h with h | ⟨g, c, h1, h2, h3, h4⟩
  · exact .inl h
  · exact .inr ⟨g, c, h1, h2, Nat.lt_of_lt_of_le h3 hx.size, fun j u hu => by rw [hx.cell (p := ⟨g, j, none⟩) h3]; exact h4 j u hu⟩
/-- One sign in memory. -/
def SeqAt (w : World) (v : Value) (c : Nat) : Prop := ∃ g k, v = .slice (some ⟨g, 0, none⟩) 1 k ∧ 1 ≤ k ∧ w.cell? ⟨g, 0, none⟩ = some (.int .i64 (c : Int))
theorem SeqAt.ext {w w' : World} {v : Value} {c : Nat} (h : SeqAt w v c) (hx : Ext w w') : SeqAt w' v c := by
  obtain ⟨g, k, h1, h2, h3⟩ := h
  exact ⟨g, k, h1, h2, by rw [hx.cell (p := ⟨g, 0, none⟩) (World.block_lt_of_cell? w _ h3)]; exact h3⟩
set_option maxHeartbeats 2000000 in
theorem before_any (v u : Value) (x c : Nat) (w : World) (hv : SeqAt w v x) (hu : SeqAt w u c) :
    Calls Tryz.prog 134 #[v, u] w fun e w' => e = .returned (.bool (decide (x < c))) ∧ Below w.heap.size w w' := by
  obtain ⟨g, k, rfl, hk, c1⟩ := hv
  obtain ⟨g2, k2, rfl, hk2, c2⟩ := hu
  have hg := World.block_lt_of_cell? w _ c1
  have hg2 := World.block_lt_of_cell? w _ c2
  have HF := Lib.hid (show ∀ W, Ext w W → W.cell? ⟨g, 0, none⟩ = some (.int .i64 (x : Int)) ∧ W.cell? ⟨g2, 0, none⟩ = some (.int .i64 (c : Int)) from
    fun W hW => ⟨by rw [hW.cell (p := ⟨g, 0, none⟩) hg]; exact c1, by rw [hW.cell (p := ⟨g2, 0, none⟩) hg2]; exact c2⟩)
  clear c1 c2
  obtain ⟨X, hX⟩ : ∃ X : Int, X = (x : Int) := ⟨_, rfl⟩
  obtain ⟨C, hC⟩ : ∃ C : Int, C = (c : Int) := ⟨_, rfl⟩
  have hlt : decide (x < c) = decide (X < C) := by rw [hX, hC]; simp
  rw [hlt]
  rw [← hX, ← hC] at HF
  clear hlt hX hC
  by_cases he : X = C
  · subst he
    have hr : decide (X < X) = false := by simp
    rw [hr]
    go_enter Tryz.func134, Tryz.ntmps134
    go_wp2_with fail
    refine wp_par 8 (fun
        | 0 => fun v _ => v = .slice (some ⟨g, 0, none⟩) 1 k
        | 1 => fun v _ => v = .pointer (some ⟨g, 0, none⟩)
        | 2 => fun v _ => v = .int .i64 X
        | 3 => fun v _ => v = .slice (some ⟨g2, 0, none⟩) 1 k2
        | 4 => fun v _ => v = .pointer (some ⟨g2, 0, none⟩)
        | 5 => fun v _ => v = .int .i64 X
        | 6 => fun v _ => v = .bool false
        | 7 => fun v _ => v = .bool false
        | _ => fun _ _ => True) (by kernel_rfl) (by kernel_rfl) (by kernel_rfl) ?_ ?_
    · simp (maxSteps := 20000000) only [List.take_succ_cons, List.take_zero, ParAll, Act.put, List.setIfInBounds_toArray, List.set_cons_succ, List.set_cons_zero]
      refine ⟨?_, ?_, ?_, ?_, ?_, ?_, ?_, ?_, trivial⟩
      · intro vals W hx hd
        have hW := HF.out W hx
        simp [PDeps, pdeps, Region.binds] at hd
        first
          | refine ParOb.plain rfl ?_
          | refine ParOb.wanted (by simp [Region.wanted, yielded, hd]) ?_
        go_simp
        exact ParPost.same fun _ _ => rfl
      · intro vals W hx hd
        have hW := HF.out W hx
        simp [PDeps, pdeps, Region.binds] at hd
        first
          | refine ParOb.plain rfl ?_
          | refine ParOb.wanted (by simp [Region.wanted, yielded, hd]) ?_
        go_simp
        exact ParPost.same fun _ _ => rfl
      · intro vals W hx hd
        have hW := HF.out W hx
        simp [PDeps, pdeps, Region.binds] at hd
        first
          | refine ParOb.plain rfl ?_
          | refine ParOb.wanted (by simp [Region.wanted, yielded, hd]) ?_
        go_simp
        exact ParPost.same fun _ _ => rfl
      · intro vals W hx hd
        have hW := HF.out W hx
        simp [PDeps, pdeps, Region.binds] at hd
        first
          | refine ParOb.plain rfl ?_
          | refine ParOb.wanted (by simp [Region.wanted, yielded, hd]) ?_
        go_simp
        exact ParPost.same fun _ _ => rfl
      · intro vals W hx hd
        have hW := HF.out W hx
        simp [PDeps, pdeps, Region.binds] at hd
        first
          | refine ParOb.plain rfl ?_
          | refine ParOb.wanted (by simp [Region.wanted, yielded, hd]) ?_
        go_simp
        exact ParPost.same fun _ _ => rfl
      · intro vals W hx hd
        have hW := HF.out W hx
        simp [PDeps, pdeps, Region.binds] at hd
        first
          | refine ParOb.plain rfl ?_
          | refine ParOb.wanted (by simp [Region.wanted, yielded, hd]) ?_
        go_simp
        exact ParPost.same fun _ _ => rfl
      · intro vals W hx hd
        have hW := HF.out W hx
        simp [PDeps, pdeps, Region.binds] at hd
        first
          | refine ParOb.plain rfl ?_
          | refine ParOb.wanted (by simp [Region.wanted, yielded, hd]) ?_
        go_simp
        exact ParPost.same fun _ _ => rfl
      · intro vals W hx hd
        have hW := HF.out W hx
        simp [PDeps, pdeps, Region.binds] at hd
        first
          | refine ParOb.plain rfl ?_
          | refine ParOb.wanted (by simp [Region.wanted, yielded, hd]) ?_
        go_simp
        exact ParPost.same fun _ _ => rfl
    intro vals W hx hf
    simp (maxSteps := 20000000) only [ParFacts, List.take_succ_cons, List.take_zero, and_true] at hf
    simp (maxSteps := 20000000) only [List.drop_succ_cons, List.drop_zero, List.take_succ_cons, List.take_zero, ParEnd, Act.put, List.setIfInBounds_toArray, List.set_cons_succ, List.set_cons_zero, hf]
    clear hf
    have HX := Lib.hid hx
    clear hx HF hr
    rename World => W1
    go_wp2_with fail
    go_loopw [4, 5] (fun _ i wr => i = .int .i64 1 ∧ wr = W1) (fun _ _ _ => 0)
    case atStart => exact ⟨rfl, rfl⟩
    case round =>
      obtain ⟨rfl, rfl⟩ := hrel
      go_wp2_with fail
      go_ret
      exact ⟨rfl, HX.out⟩
  · have hne : (X != C) = true := by simp [he]
    go_enter Tryz.func134, Tryz.ntmps134
    go_wp2_with fail
    refine wp_par 8 (fun
        | 0 => fun v _ => v = .slice (some ⟨g, 0, none⟩) 1 k
        | 1 => fun v _ => v = .pointer (some ⟨g, 0, none⟩)
        | 2 => fun v _ => v = .int .i64 X
        | 3 => fun v _ => v = .slice (some ⟨g2, 0, none⟩) 1 k2
        | 4 => fun v _ => v = .pointer (some ⟨g2, 0, none⟩)
        | 5 => fun v _ => v = .int .i64 C
        | 6 => fun v _ => v = .bool true
        | 7 => fun v _ => v = .bool true
        | _ => fun _ _ => True) (by kernel_rfl) (by kernel_rfl) (by kernel_rfl) ?_ ?_
    · simp (maxSteps := 20000000) only [List.take_succ_cons, List.take_zero, ParAll, Act.put, List.setIfInBounds_toArray, List.set_cons_succ, List.set_cons_zero]
      refine ⟨?_, ?_, ?_, ?_, ?_, ?_, ?_, ?_, trivial⟩
      · intro vals W hx hd
        have hW := HF.out W hx
        simp [PDeps, pdeps, Region.binds] at hd
        first
          | refine ParOb.plain rfl ?_
          | refine ParOb.wanted (by simp [Region.wanted, yielded, hd]) ?_
        go_simp
        exact ParPost.same fun _ _ => rfl
      · intro vals W hx hd
        have hW := HF.out W hx
        simp [PDeps, pdeps, Region.binds] at hd
        first
          | refine ParOb.plain rfl ?_
          | refine ParOb.wanted (by simp [Region.wanted, yielded, hd]) ?_
        go_simp
        exact ParPost.same fun _ _ => rfl
      · intro vals W hx hd
        have hW := HF.out W hx
        simp [PDeps, pdeps, Region.binds] at hd
        first
          | refine ParOb.plain rfl ?_
          | refine ParOb.wanted (by simp [Region.wanted, yielded, hd]) ?_
        go_simp
        exact ParPost.same fun _ _ => rfl
      · intro vals W hx hd
        have hW := HF.out W hx
        simp [PDeps, pdeps, Region.binds] at hd
        first
          | refine ParOb.plain rfl ?_
          | refine ParOb.wanted (by simp [Region.wanted, yielded, hd]) ?_
        go_simp
        exact ParPost.same fun _ _ => rfl
      · intro vals W hx hd
        have hW := HF.out W hx
        simp [PDeps, pdeps, Region.binds] at hd
        first
          | refine ParOb.plain rfl ?_
          | refine ParOb.wanted (by simp [Region.wanted, yielded, hd]) ?_
        go_simp
        exact ParPost.same fun _ _ => rfl
      · intro vals W hx hd
        have hW := HF.out W hx
        simp [PDeps, pdeps, Region.binds] at hd
        first
          | refine ParOb.plain rfl ?_
          | refine ParOb.wanted (by simp [Region.wanted, yielded, hd]) ?_
        go_simp
        exact ParPost.same fun _ _ => rfl
      · intro vals W hx hd
        have hW := HF.out W hx
        simp [PDeps, pdeps, Region.binds] at hd
        first
          | refine ParOb.plain rfl ?_
          | refine ParOb.wanted (by simp [Region.wanted, yielded, hd]) ?_
        go_simp
        exact ParPost.same fun _ _ => rfl
      · intro vals W hx hd
        have hW := HF.out W hx
        simp [PDeps, pdeps, Region.binds] at hd
        first
          | refine ParOb.plain rfl ?_
          | refine ParOb.wanted (by simp [Region.wanted, yielded, hd]) ?_
        go_simp
        exact ParPost.same fun _ _ => rfl
    intro vals W hx hf
    simp (maxSteps := 20000000) only [ParFacts, List.take_succ_cons, List.take_zero, and_true] at hf
    simp (maxSteps := 20000000) only [List.drop_succ_cons, List.drop_zero, List.take_succ_cons, List.take_zero, ParEnd, Act.put, List.setIfInBounds_toArray, List.set_cons_succ, List.set_cons_zero, hf]
    clear hf
    rename World => W1
    have HX := Lib.hid hx
    have HF := Lib.hid (show ∀ W, Ext W1 W → W.cell? ⟨g, 0, none⟩ = some (.int .i64 X) ∧ W.cell? ⟨g2, 0, none⟩ = some (.int .i64 C) from fun W hW => HF.out W (Ext.trans HX.out hW))
    clear hx
    go_wp2_with fail
    refine wp_par 8 (fun
        | 0 => fun v _ => v = .slice (some ⟨g, 0, none⟩) 1 k
        | 1 => fun v _ => v = .pointer (some ⟨g, 0, none⟩)
        | 2 => fun v _ => v = .int .i64 X
        | 3 => fun v _ => v = .slice (some ⟨g2, 0, none⟩) 1 k2
        | 4 => fun v _ => v = .pointer (some ⟨g2, 0, none⟩)
        | 5 => fun v _ => v = .int .i64 C
        | 6 => fun v _ => v = .bool (decide (X < C))
        | 7 => fun v _ => v = .bool (decide (X < C))
        | _ => fun _ _ => True) (by kernel_rfl) (by kernel_rfl) (by kernel_rfl) ?_ ?_
    · simp (maxSteps := 20000000) only [List.take_succ_cons, List.take_zero, ParAll, Act.put, List.setIfInBounds_toArray, List.set_cons_succ, List.set_cons_zero]
      refine ⟨?_, ?_, ?_, ?_, ?_, ?_, ?_, ?_, trivial⟩
      · intro vals W hx hd
        have hW := HF.out W hx
        simp [PDeps, pdeps, Region.binds] at hd
        first
          | refine ParOb.plain rfl ?_
          | refine ParOb.wanted (by simp [Region.wanted, yielded, hd]) ?_
        go_simp
        exact ParPost.same fun _ _ => rfl
      · intro vals W hx hd
        have hW := HF.out W hx
        simp [PDeps, pdeps, Region.binds] at hd
        first
          | refine ParOb.plain rfl ?_
          | refine ParOb.wanted (by simp [Region.wanted, yielded, hd]) ?_
        go_simp
        exact ParPost.same fun _ _ => rfl
      · intro vals W hx hd
        have hW := HF.out W hx
        simp [PDeps, pdeps, Region.binds] at hd
        first
          | refine ParOb.plain rfl ?_
          | refine ParOb.wanted (by simp [Region.wanted, yielded, hd]) ?_
        go_simp
        exact ParPost.same fun _ _ => rfl
      · intro vals W hx hd
        have hW := HF.out W hx
        simp [PDeps, pdeps, Region.binds] at hd
        first
          | refine ParOb.plain rfl ?_
          | refine ParOb.wanted (by simp [Region.wanted, yielded, hd]) ?_
        go_simp
        exact ParPost.same fun _ _ => rfl
      · intro vals W hx hd
        have hW := HF.out W hx
        simp [PDeps, pdeps, Region.binds] at hd
        first
          | refine ParOb.plain rfl ?_
          | refine ParOb.wanted (by simp [Region.wanted, yielded, hd]) ?_
        go_simp
        exact ParPost.same fun _ _ => rfl
      · intro vals W hx hd
        have hW := HF.out W hx
        simp [PDeps, pdeps, Region.binds] at hd
        first
          | refine ParOb.plain rfl ?_
          | refine ParOb.wanted (by simp [Region.wanted, yielded, hd]) ?_
        go_simp
        exact ParPost.same fun _ _ => rfl
      · intro vals W hx hd
        have hW := HF.out W hx
        simp [PDeps, pdeps, Region.binds] at hd
        first
          | refine ParOb.plain rfl ?_
          | refine ParOb.wanted (by simp [Region.wanted, yielded, hd]) ?_
        go_simp
        exact ParPost.same fun _ _ => rfl
      · intro vals W hx hd
        have hW := HF.out W hx
        simp [PDeps, pdeps, Region.binds] at hd
        first
          | refine ParOb.plain rfl ?_
          | refine ParOb.wanted (by simp [Region.wanted, yielded, hd]) ?_
        go_simp
        exact ParPost.same fun _ _ => rfl
    intro vals W hx hf
    simp (maxSteps := 20000000) only [ParFacts, List.take_succ_cons, List.take_zero, and_true] at hf
    simp (maxSteps := 20000000) only [List.drop_succ_cons, List.drop_zero, List.take_succ_cons, List.take_zero, ParEnd, Act.put, List.setIfInBounds_toArray, List.set_cons_succ, List.set_cons_zero, hf]
    clear hf
    have HX2 := Lib.hid (Ext.trans HX.out hx)
    clear hx HF
    go_wp2_with fail
    go_ret
    exact ⟨rfl, HX2.out⟩
set_option maxHeartbeats 2000000 in
theorem same_any (v u : Value) (x c : Nat) (w : World) (hv : SeqAt w v x) (hu : SeqAt w u c) :
    Calls Tryz.prog 135 #[v, u] w fun e w' => e = .returned (.bool (decide (x = c))) ∧ Below w.heap.size w w' := by
  obtain ⟨g, k, rfl, hk, c1⟩ := hv
  obtain ⟨g2, k2, rfl, hk2, c2⟩ := hu
  have hg := World.block_lt_of_cell? w _ c1
  have hg2 := World.block_lt_of_cell? w _ c2
  have HF := Lib.hid (show ∀ W, Ext w W → W.cell? ⟨g, 0, none⟩ = some (.int .i64 (x : Int)) ∧ W.cell? ⟨g2, 0, none⟩ = some (.int .i64 (c : Int)) from
    fun W hW => ⟨by rw [hW.cell (p := ⟨g, 0, none⟩) hg]; exact c1, by rw [hW.cell (p := ⟨g2, 0, none⟩) hg2]; exact c2⟩)
  clear c1 c2
  obtain ⟨X, hX⟩ : ∃ X : Int, X = (x : Int) := ⟨_, rfl⟩
  obtain ⟨C, hC⟩ : ∃ C : Int, C = (c : Int) := ⟨_, rfl⟩
  have hlt : decide (x = c) = !(X != C) := by
    subst hX hC
    by_cases h : x = c
    · subst h; simp
    · have h2 : ¬ (x : Int) = (c : Int) := by omega
      simp [h, h2]
  rw [hlt]
  rw [← hX, ← hC] at HF
  clear hlt hX hC
  cases he : (X != C)
  · go_enter Tryz.func135, Tryz.ntmps135
    go_wp2_with fail
    refine wp_loop_rounds 2 ?_
    rw [rounds_succ]
    go_wp2_with fail
    refine wp_par 9 (fun
        | 0 => fun v _ => v = .slice (some ⟨g, 0, none⟩) 1 k
        | 1 => fun v _ => v = .int .i64 0
        | 2 => fun v _ => v = .pointer (some ⟨g, 0, none⟩)
        | 3 => fun v _ => v = .int .i64 X
        | 4 => fun v _ => v = .slice (some ⟨g2, 0, none⟩) 1 k2
        | 5 => fun v _ => v = .int .i64 0
        | 6 => fun v _ => v = .pointer (some ⟨g2, 0, none⟩)
        | 7 => fun v _ => v = .int .i64 C
        | 8 => fun v _ => v = .bool false
        | _ => fun _ _ => True) (by kernel_rfl) (by kernel_rfl) (by kernel_rfl) ?_ ?_
    · simp (maxSteps := 20000000) only [List.take_succ_cons, List.take_zero, ParAll, Act.put, List.setIfInBounds_toArray, List.set_cons_succ, List.set_cons_zero]
      refine ⟨?_, ?_, ?_, ?_, ?_, ?_, ?_, ?_, ?_, trivial⟩
      · intro vals W hx hd
        have hW := HF.out W hx
        simp [PDeps, pdeps, Region.binds] at hd
        first
          | refine ParOb.plain rfl ?_
          | refine ParOb.wanted (by simp [Region.wanted, yielded, hd]) ?_
        go_simp
        exact ParPost.same fun _ _ => rfl
      · intro vals W hx hd
        have hW := HF.out W hx
        simp [PDeps, pdeps, Region.binds] at hd
        first
          | refine ParOb.plain rfl ?_
          | refine ParOb.wanted (by simp [Region.wanted, yielded, hd]) ?_
        go_simp
        exact ParPost.same fun _ _ => rfl
      · intro vals W hx hd
        have hW := HF.out W hx
        simp [PDeps, pdeps, Region.binds] at hd
        first
          | refine ParOb.plain rfl ?_
          | refine ParOb.wanted (by simp [Region.wanted, yielded, hd]) ?_
        go_simp
        exact ParPost.same fun _ _ => rfl
      · intro vals W hx hd
        have hW := HF.out W hx
        simp [PDeps, pdeps, Region.binds] at hd
        first
          | refine ParOb.plain rfl ?_
          | refine ParOb.wanted (by simp [Region.wanted, yielded, hd]) ?_
        go_simp
        exact ParPost.same fun _ _ => rfl
      · intro vals W hx hd
        have hW := HF.out W hx
        simp [PDeps, pdeps, Region.binds] at hd
        first
          | refine ParOb.plain rfl ?_
          | refine ParOb.wanted (by simp [Region.wanted, yielded, hd]) ?_
        go_simp
        exact ParPost.same fun _ _ => rfl
      · intro vals W hx hd
        have hW := HF.out W hx
        simp [PDeps, pdeps, Region.binds] at hd
        first
          | refine ParOb.plain rfl ?_
          | refine ParOb.wanted (by simp [Region.wanted, yielded, hd]) ?_
        go_simp
        exact ParPost.same fun _ _ => rfl
      · intro vals W hx hd
        have hW := HF.out W hx
        simp [PDeps, pdeps, Region.binds] at hd
        first
          | refine ParOb.plain rfl ?_
          | refine ParOb.wanted (by simp [Region.wanted, yielded, hd]) ?_
        go_simp
        exact ParPost.same fun _ _ => rfl
      · intro vals W hx hd
        have hW := HF.out W hx
        simp [PDeps, pdeps, Region.binds] at hd
        first
          | refine ParOb.plain rfl ?_
          | refine ParOb.wanted (by simp [Region.wanted, yielded, hd]) ?_
        go_simp
        exact ParPost.same fun _ _ => rfl
      · intro vals W hx hd
        have hW := HF.out W hx
        simp [PDeps, pdeps, Region.binds] at hd
        first
          | refine ParOb.plain rfl ?_
          | refine ParOb.wanted (by simp [Region.wanted, yielded, hd]) ?_
        go_simp
        exact ParPost.same fun _ _ => rfl
    intro vals W hx hf
    simp (maxSteps := 20000000) only [ParFacts, List.take_succ_cons, List.take_zero, and_true] at hf
    simp (maxSteps := 20000000) only [List.drop_succ_cons, List.drop_zero, List.take_succ_cons, List.take_zero, ParEnd, Act.put, List.setIfInBounds_toArray, List.set_cons_succ, List.set_cons_zero, hf]
    clear hf
    have HX := Lib.hid hx
    clear hx HF
    go_wp2_with fail
    rw [rounds_succ]
    go_wp2_with fail
    go_ret
    exact ⟨rfl, HX.out⟩
  · go_enter Tryz.func135, Tryz.ntmps135
    go_wp2_with fail
    refine wp_loop_rounds 1 ?_
    rw [rounds_succ]
    go_wp2_with fail
    refine wp_par 9 (fun
        | 0 => fun v _ => v = .slice (some ⟨g, 0, none⟩) 1 k
        | 1 => fun v _ => v = .int .i64 0
        | 2 => fun v _ => v = .pointer (some ⟨g, 0, none⟩)
        | 3 => fun v _ => v = .int .i64 X
        | 4 => fun v _ => v = .slice (some ⟨g2, 0, none⟩) 1 k2
        | 5 => fun v _ => v = .int .i64 0
        | 6 => fun v _ => v = .pointer (some ⟨g2, 0, none⟩)
        | 7 => fun v _ => v = .int .i64 C
        | 8 => fun v _ => v = .bool true
        | _ => fun _ _ => True) (by kernel_rfl) (by kernel_rfl) (by kernel_rfl) ?_ ?_
    · simp (maxSteps := 20000000) only [List.take_succ_cons, List.take_zero, ParAll, Act.put, List.setIfInBounds_toArray, List.set_cons_succ, List.set_cons_zero]
      refine ⟨?_, ?_, ?_, ?_, ?_, ?_, ?_, ?_, ?_, trivial⟩
      · intro vals W hx hd
        have hW := HF.out W hx
        simp [PDeps, pdeps, Region.binds] at hd
        first
          | refine ParOb.plain rfl ?_
          | refine ParOb.wanted (by simp [Region.wanted, yielded, hd]) ?_
        go_simp
        exact ParPost.same fun _ _ => rfl
      · intro vals W hx hd
        have hW := HF.out W hx
        simp [PDeps, pdeps, Region.binds] at hd
        first
          | refine ParOb.plain rfl ?_
          | refine ParOb.wanted (by simp [Region.wanted, yielded, hd]) ?_
        go_simp
        exact ParPost.same fun _ _ => rfl
      · intro vals W hx hd
        have hW := HF.out W hx
        simp [PDeps, pdeps, Region.binds] at hd
        first
          | refine ParOb.plain rfl ?_
          | refine ParOb.wanted (by simp [Region.wanted, yielded, hd]) ?_
        go_simp
        exact ParPost.same fun _ _ => rfl
      · intro vals W hx hd
        have hW := HF.out W hx
        simp [PDeps, pdeps, Region.binds] at hd
        first
          | refine ParOb.plain rfl ?_
          | refine ParOb.wanted (by simp [Region.wanted, yielded, hd]) ?_
        go_simp
        exact ParPost.same fun _ _ => rfl
      · intro vals W hx hd
        have hW := HF.out W hx
        simp [PDeps, pdeps, Region.binds] at hd
        first
          | refine ParOb.plain rfl ?_
          | refine ParOb.wanted (by simp [Region.wanted, yielded, hd]) ?_
        go_simp
        exact ParPost.same fun _ _ => rfl
      · intro vals W hx hd
        have hW := HF.out W hx
        simp [PDeps, pdeps, Region.binds] at hd
        first
          | refine ParOb.plain rfl ?_
          | refine ParOb.wanted (by simp [Region.wanted, yielded, hd]) ?_
        go_simp
        exact ParPost.same fun _ _ => rfl
      · intro vals W hx hd
        have hW := HF.out W hx
        simp [PDeps, pdeps, Region.binds] at hd
        first
          | refine ParOb.plain rfl ?_
          | refine ParOb.wanted (by simp [Region.wanted, yielded, hd]) ?_
        go_simp
        exact ParPost.same fun _ _ => rfl
      · intro vals W hx hd
        have hW := HF.out W hx
        simp [PDeps, pdeps, Region.binds] at hd
        first
          | refine ParOb.plain rfl ?_
          | refine ParOb.wanted (by simp [Region.wanted, yielded, hd]) ?_
        go_simp
        exact ParPost.same fun _ _ => rfl
      · intro vals W hx hd
        have hW := HF.out W hx
        simp [PDeps, pdeps, Region.binds] at hd
        first
          | refine ParOb.plain rfl ?_
          | refine ParOb.wanted (by simp [Region.wanted, yielded, hd]) ?_
        go_simp
        exact ParPost.same fun _ _ => rfl
    intro vals W hx hf
    simp (maxSteps := 20000000) only [ParFacts, List.take_succ_cons, List.take_zero, and_true] at hf
    simp (maxSteps := 20000000) only [List.drop_succ_cons, List.drop_zero, List.take_succ_cons, List.take_zero, ParEnd, Act.put, List.setIfInBounds_toArray, List.set_cons_succ, List.set_cons_zero, hf]
    clear hf
    have HX := Lib.hid hx
    clear hx HF
    go_wp2_with fail
    go_ret
    exact ⟨rfl, HX.out⟩
end Go.Proofs.YtipokgedmfnlaaaGreatDoor

namespace Go.Proofs.YtipokgedmfnlaaaGreatDoor
open Go.RowKit Go.Lib
set_option maxRecDepth 100000

/-- An entry is put in order. -/
def insE (c : Nat) (es : List El) : List (Nat × List El) → List (Nat × List El)
  | [] => [(c, es)]
  | y :: L => if y.1 < c then y :: insE c es L else (c, es) :: (if y.1 = c then L else y :: L)
theorem insE_at (c : Nat) (es : List El) : ∀ (L : List (Nat × List El)) (k : Nat), k ≤ L.length → (∀ j (h : j < L.length), j < k → L[j].1 < c) → (∀ h : k < L.length, ¬ L[k].1 < c) →
    insE c es L = L.take k ++ (c, es) :: (if h : k < L.length then (if L[k].1 = c then L.drop (k + 1) else L.drop k) else [])
  | [], k, hk, _, _ => by
    have : k = 0 := by simpa using hk
    subst this
    rfl
  | y :: L, 0, _, _, h3 => by
    have h := h3 (by simp)
    simp only [List.getElem_cons_zero] at h
    rw [insE, if_neg h]
    simp
  | y :: L, k + 1, hk, h2, h3 => by
    have h := h2 0 (by simp) (by omega)
    simp only [List.getElem_cons_zero] at h
    rw [insE, if_pos h, insE_at c es L k (by simpa using hk) (fun j hj hjk => by
      have h := h2 (j + 1) (Nat.succ_lt_succ hj) (by omega)
      rwa [List.getElem_cons_succ] at h) (fun hk2 => by
      have h := h3 (Nat.succ_lt_succ hk2)
      rwa [List.getElem_cons_succ] at h)]
    simp
theorem insE_length (c : Nat) (es : List El) : ∀ L, (insE c es L).length ≤ L.length + 1
  | [] => by simp [insE]
  | y :: L => by
    rw [insE]
    split
    · have := insE_length c es L
      simp
      omega
    · split <;> simp
def cellsR (e : El) : List Value := [.int .i64 (e.p : Int), .int .i64 (e.s : Int), .int .i64 (e.t : Int), .bool e.v]
def flatR (es : List El) : List Value := es.flatMap cellsR
theorem flatR_length (es : List El) : (flatR es).length = es.length * 4 := by
  induction es with
  | nil => rfl
  | cons e es ih =>
    simp [flatR, cellsR] at *
    omega
def ElsR (w : World) (v : Value) (es : List El) : Prop := ReadsN w v es.length (flatR es)
def EntR (w : World) (p : Value × Value) (x : Nat × List El) : Prop := SeqAt w p.1 x.1 ∧ ElsR w p.2 x.2
def flatE (vs : List (Value × Value)) : List Value := vs.flatMap fun p => [p.1, p.2]
theorem flatE_length (vs : List (Value × Value)) : (flatE vs).length = vs.length * 2 := by
  induction vs with
  | nil => rfl
  | cons e es ih =>
    simp [flatE] at *
    omega
theorem flatE_append (a b : List (Value × Value)) : flatE (a ++ b) = flatE a ++ flatE b := by simp [flatE]
theorem flatE_get : ∀ (vs : List (Value × Value)) (j : Nat) (h : j < vs.length), (flatE vs)[j * 2]? = some vs[j].1 ∧ (flatE vs)[j * 2 + 1]? = some vs[j].2
  | [], j, h => absurd h (Nat.not_lt_zero _)
  | d :: ds, 0, _ => by simp [flatE]
  | d :: ds, j + 1, h => by
    have := flatE_get ds j (by simpa using h)
    have e : flatE (d :: ds) = d.1 :: d.2 :: flatE ds := by simp [flatE]
    rw [e, show (j + 1) * 2 = j * 2 + 1 + 1 by omega]
    simpa using this
theorem flatE_drop (vs : List (Value × Value)) (r : Nat) (h : r ≤ vs.length) : flatE (vs.drop r) = (flatE vs).drop (r * 2) := by
  have h1 : flatE vs = flatE (vs.take r) ++ flatE (vs.drop r) := by rw [← flatE_append, List.take_append_drop]
  have h2 : (flatE (vs.take r)).length = r * 2 := by rw [flatE_length, List.length_take]; omega
  rw [h1, List.drop_append_of_le_length (by omega), ← h2, List.drop_length]
  rfl
/-- A slice of entries that reads so. -/
def EntsR (w : World) (v : Value) (L : List (Nat × List El)) : Prop :=
  ∃ vs : List (Value × Value), ReadsN w v L.length (flatE vs) ∧ vs.length = L.length ∧ ∀ (j : Nat) (p : Value × Value) (x : Nat × List El), vs[j]? = some p → L[j]? = some x → EntR w p x
theorem EntR.ext {w w' : World} {p : Value × Value} {x : Nat × List El} (h : EntR w p x) (hx : Ext w w') : EntR w' p x := ⟨h.1.ext hx, h.2.ext hx⟩
theorem EntsR.ext {w w' : World} {v : Value} {L : List (Nat × List El)} (h : EntsR w v L) (hx : Ext w w') : EntsR w' v L := by
  obtain ⟨vs, h1, h2, h3⟩ := h
  exact ⟨vs, h1.ext hx, h2, fun j p x hp hq => (h3 j p x hp hq).ext hx⟩
theorem ReadsN.one {w : World} {v : Value} {n : Nat} {xs : List Value} (h : ReadsN w v n xs) : v.oneCell' = true := by
  rcases h with ⟨rfl, _⟩ | ⟨g, c, rfl, _⟩ <;> rfl
theorem SeqAt.one {w : World} {v : Value} {c : Nat} (h : SeqAt w v c) : v.oneCell' = true := by
  obtain ⟨g, k, rfl, _⟩ := h
  rfl
theorem infoEntry : (Tryz.prog.info? 241).map (fun i => (i.zero, i.size, i.bytes)) = some (some (.agg #[.slice none 0 0, .slice none 0 0]), 2, 48) := by kernel_rfl
theorem infoElR : (Tryz.prog.info? 159).map (fun i => (i.zero, i.size, i.bytes)) = some (some (.agg #[.int .i64 0, .int .i64 0, .int .i64 0, .bool false]), 4, 32) := by kernel_rfl
theorem ownsRow_empty {w : World} {b : Nat} {t : TypeId} {size B : Nat} (hb : Blk w b #[] t) (hB : B ≤ b) : w.ownsRow B t size (.slice (some ⟨b, 0, none⟩) 0 0) 0 [] := by
  refine ⟨by simp, .inr ⟨b, 0, #[], rfl, hB, hb, Nat.le_refl _, by decide, by simp, by simp⟩⟩
end Go.Proofs.YtipokgedmfnlaaaGreatDoor

namespace Go.Proofs.YtipokgedmfnlaaaGreatDoor
open Go.RowKit Go.Lib
set_option maxRecDepth 100000

theorem wpList_app_nil {P : Program} {w : World} {ops : Array Oper} {rest : List Oper} {o : Oper} {a : Act} {Q : Exit → Act → World → Prop} (hgd : o.guard = none) (s x : Operand) (t : TypeId)
    (ho : o.op = .call { callee := .builtin .append, args := #[s, x], argTypes := #[t, t] })
    (e : TypeId) (z : Value) (size bytes : Nat) (ht : P.underlying t = some (.slice e)) (hinfo : (P.info? e).map (fun i => (i.zero, i.size, i.bytes)) = some (some z, size, bytes))
    (b n c : Nat) (hs : a.eval s = .slice (some ⟨b, 0, none⟩) n c) (hx : a.eval x = .slice none 0 0) (hnc : n ≤ c)
    (h : wpList P ops Q rest (a.put o.dst (.slice (some ⟨b, 0, none⟩) n c)) w) :
    wpList P ops Q (o :: rest) a w := by
  obtain ⟨i, hi, hz0, hz1, hz2⟩ := info_parts hinfo
  refine wpList_plain hgd fun K hK => ?_
  have hr : (Builtin.append_ #[t, t] o.type #[.slice (some ⟨b, 0, none⟩) n c, .slice none 0 0]).run P w = .ok (.slice (some ⟨b, 0, none⟩) n c) w := by
    simp [Builtin.append_, run_underlying ht, sizeOf, typeInfo, hi, Builtin.lenOf, Builtin.firstCells, loadCells, storeCells, hnc]
  unfold Oper.wp execOp
  simp only [ho, resolve, invoke, builtin, Sem.run_bind, Sem.run_pure, Result.andThen_ok, List.map_toArray, List.map_cons, List.map_nil, hs, hx, hr]
  exact hK _ _ h
theorem wpList_appN {P : Program} {w : World} {ops : Array Oper} {rest : List Oper} {o : Oper} {a : Act} {Q : Exit → Act → World → Prop} (hgd : o.guard = none) (s x : Operand) (t : TypeId)
    (ho : o.op = .call { callee := .builtin .append, args := #[s, x], argTypes := #[t, t] })
    (base : Nat) (e : TypeId) (z : Value) (size bytes : Nat) (ht : P.underlying t = some (.slice e)) (hinfo : (P.info? e).map (fun i => (i.zero, i.size, i.bytes)) = some (some z, size, bytes))
    (hzs : z.cells.size = size) (hsz : 0 < size)
    (v : Value) (n : Nat) (xs : List Value) (hs : a.eval s = v) (hown : w.ownsRow base e size v n xs)
    (g off m c : Nat) (news : List Value) (hx : a.eval x = .slice (some ⟨g, off, none⟩) m c) (hl : news.length = m * size) (hnews : ∀ (j : Nat) (u : Value), news[j]? = some u → w.cell? ⟨g, off + j, none⟩ = some u) (h1 : ∀ u ∈ news, u.oneCell' = true)
    (h63 : n + m ≤ maxLen) (hbytes : (n + m) * bytes ≤ 140737488355328) (hbase : base ≤ w.heap.size)
    (hv : v ≠ .slice none 0 0)
    (h : ∀ g' c' w', w'.ownsRow base e size (.slice (some ⟨g', 0, none⟩) (n + m) c') (n + m) (xs ++ news) → w.grownBy w' v.ownBlock → wpList P ops Q rest (a.put o.dst (.slice (some ⟨g', 0, none⟩) (n + m) c')) w') :
    wpList P ops Q (o :: rest) a w := by
  obtain ⟨i, hi, hz0, hz1, hz2⟩ := info_parts hinfo
  exact wpList_append_own_at w hgd s x t ho base e i z size bytes ht hi hz0 hz1 hz2 hzs hsz v n xs hs hown ⟨g, off, none⟩ m c news hx hl (fun j u hj => by rw [Addr.add_lit]; exact hnews j u hj) h1 h63 hbytes hbase
    (fun v' w' h2 h3 h4 _ => by
      rcases h2.2 with ⟨e1, _⟩ | ⟨g', c', _, e1, _⟩
      · exact absurd (h4.1 e1).1 hv
      · subst e1
        exact h g' c' w' h2 h3)
theorem wpList_appR {P : Program} {w : World} {ops : Array Oper} {rest : List Oper} {o : Oper} {a : Act} {Q : Exit → Act → World → Prop} (hgd : o.guard = none) (s x : Operand) (t : TypeId)
    (ho : o.op = .call { callee := .builtin .append, args := #[s, x], argTypes := #[t, t] })
    (base : Nat) (e : TypeId) (z : Value) (size bytes : Nat) (ht : P.underlying t = some (.slice e)) (hinfo : (P.info? e).map (fun i => (i.zero, i.size, i.bytes)) = some (some z, size, bytes))
    (hzs : z.cells.size = size) (hsz : 0 < size)
    (b n c : Nat) (xs : List Value) (hs : a.eval s = .slice (some ⟨b, 0, none⟩) n c) (hown : w.ownsRow base e size (.slice (some ⟨b, 0, none⟩) n c) n xs)
    (y : Value) (m : Nat) (news : List Value) (hx : a.eval x = y) (hy : ReadsN w y m news) (hl : news.length = m * size) (h1 : ∀ u ∈ news, u.oneCell' = true)
    (h63 : n + m ≤ maxLen) (hbytes : (n + m) * bytes ≤ 140737488355328) (hbase : base ≤ w.heap.size)
    (h : ∀ g' c' w', w'.ownsRow base e size (.slice (some ⟨g', 0, none⟩) (n + m) c') (n + m) (xs ++ news) → w.grownBy w' (some b) → wpList P ops Q rest (a.put o.dst (.slice (some ⟨g', 0, none⟩) (n + m) c')) w') :
    wpList P ops Q (o :: rest) a w := by
  rcases hy with ⟨rfl, rfl, rfl⟩ | ⟨g, cy, rfl, _, _, hcell⟩
  · have hnc : n ≤ c := by
      obtain ⟨ao, cap, e1, hc⟩ := ownsRow_slice hown
      simp only [Value.slice.injEq] at e1
      omega
    exact wpList_app_nil hgd s x t ho e z size bytes ht hinfo b n c hs hx hnc (h b c w (by simpa using hown) ⟨rfl, rfl, rfl, Nat.le_refl _, fun _ _ _ => rfl⟩)
  · exact wpList_appN hgd s x t ho base e z size bytes ht hinfo hzs hsz _ n xs hs hown g 0 m cy news hx hl (fun j u hj => by rw [Nat.zero_add]; exact hcell j u hj) h1 h63 hbytes hbase (by simp) (fun g' c' w' h2 h3 => h g' c' w' h2 h3)
end Go.Proofs.YtipokgedmfnlaaaGreatDoor

namespace Go.Proofs.YtipokgedmfnlaaaGreatDoor
open Go.RowKit Go.Lib
set_option maxRecDepth 100000

theorem flatR_one (es : List El) : ∀ u ∈ flatR es, u.oneCell' = true := by
  intro u hu
  simp only [flatR, List.mem_flatMap] at hu
  obtain ⟨e, _, hu⟩ := hu
  simp only [cellsR, List.mem_cons, List.not_mem_nil, or_false] at hu
  rcases hu with rfl | rfl | rfl | rfl <;> rfl
theorem own_readsN {w : World} {B size n : Nat} {e : TypeId} {v : Value} {xs : List Value} (h : w.ownsRow B e size v n xs) : ReadsN w v n xs := by
  have hl := h.1
  rcases h.2 with ⟨rfl, rfl⟩ | ⟨g, cap, cur, rfl, hb, hh, hnc, hcm, hcs, htake⟩
  · exact .inl ⟨rfl, rfl, List.eq_nil_of_length_eq_zero (by simpa using hl)⟩
  · refine .inr ⟨g, cap, rfl, hnc, (Array.getElem?_eq_some_iff.1 hh).1, fun j u hu => ?_⟩
    have hj : j < xs.length := (List.getElem?_eq_some_iff.1 hu).1
    rw [h.cellAt j (by omega)]; exact hu
theorem ext_fresh {W W' : World} {o : Obj} (hg : (W.alloc o).grownBy W' (some W.heap.size)) : Ext W W' :=
  show Below W.heap.size W W' from ((Below.refl _ _).alloc (Nat.le_refl _) o).grown hg (by simp) (fun k hk => by cases hk; exact Nat.le_refl _)
theorem ext_own {W0 W W' X : World} {o : Obj} {e : TypeId} {size n : Nat} {v : Value} {xs : List Value} (hx : Ext W0 W) (hr : X.ownsRow W0.heap.size e size v n xs) (hg : (W.alloc o).grownBy W' v.ownBlock) : Ext W0 W' :=
  show Below W0.heap.size W0 W' from ((show Below W0.heap.size W0 W from hx).alloc hx.size o).grown hg (by have := hx.size; simp; omega) (fun k hk => by
    rcases hr.2 with ⟨e, _⟩ | ⟨g', _, _, e, hB, _⟩
    · rw [e] at hk; simp [Value.ownBlock] at hk
    · rw [e] at hk; simp [Value.ownBlock] at hk; omega)
theorem ext_own0 {W0 W W' X : World} {e : TypeId} {size n : Nat} {v : Value} {xs : List Value} (hx : Ext W0 W) (hr : X.ownsRow W0.heap.size e size v n xs) (hg : W.grownBy W' v.ownBlock) : Ext W0 W' :=
  show Below W0.heap.size W0 W' from (show Below W0.heap.size W0 W from hx).grown hg hx.size (fun k hk => by
    rcases hr.2 with ⟨e, _⟩ | ⟨g', _, _, e, hB, _⟩
    · rw [e] at hk; simp [Value.ownBlock] at hk
    · rw [e] at hk; simp [Value.ownBlock] at hk; omega)
theorem own_block_ge {w : World} {B size n g m c : Nat} {e : TypeId} {xs : List Value} (h : w.ownsRow B e size (.slice (some ⟨g, 0, none⟩) m c) n xs) : B ≤ g := by
  rcases h.2 with ⟨h, _⟩ | ⟨g', _, _, h, hB, _⟩
  · cases h
  · simp at h; omega
theorem ReadsN.other {w : World} {v : Value} {n : Nat} {xs : List Value} (h : ReadsN w v n xs) (q : Nat) (x : Value) (hq : ∀ g m c, v = .slice (some ⟨g, 0, none⟩) m c → g ≠ q) : ReadsN (w.setCell ⟨q, 0, none⟩ x) v n xs := by
  rcases h with h | ⟨g, c, rfl, h2, h3, h4⟩
  · exact .inl h
  · have hne := hq g n c rfl
    refine .inr ⟨g, c, rfl, h2, by simpa using h3, fun j u hu => ?_⟩
    have h5 := h4 j u hu
    unfold World.cell? at h5 ⊢
    rw [heap_setCell_other w ⟨q, 0, none⟩ g x hne]
    exact h5
theorem kept_other {w w' : World} {B B2 s1 s2 n1 n2 : Nat} {e1 e2 : TypeId} {v1 v2 : Value} {x1 x2 : List Value} (h1 : w.ownsRow B e1 s1 v1 n1 x1) (h2 : w.ownsRow B2 e2 s2 v2 n2 x2) (hne : e1 ≠ e2) (hg : w.grownBy w' v2.ownBlock) : w'.ownsRow B e1 s1 v1 n1 x1 := by
  cases hv : v1.ownBlock with
  | none => exact h1.kept hg (.inl hv)
  | some g =>
    refine h1.kept hg (.inr fun e => ?_)
    rw [hv] at e
    obtain ⟨c1, k1, _⟩ := ownsRow_heap h1 hv
    obtain ⟨c2, k2, _⟩ := ownsRow_heap h2 (g := g) (by first | exact e.symm | exact e)
    rw [k1] at k2
    injection k2 with k2
    injection k2 with _ k2
    exact hne k2
set_option maxHeartbeats 2000000 in
theorem ents_fin {w W0 w9 : World} {q k R N BA BB ga ka gb kb c : Nat} {L : List (Nat × List El)} {vs : List (Value × Value)} {es : List El} {v9 x : Value}
    (hEnt : ∀ (j : Nat) (p : Value × Value) (x : Nat × List El), vs[j]? = some p → L[j]? = some x → EntR w p x) (hvl : vs.length = L.length) (hqW : q < W0.heap.size) (hqw : w.heap.size ≤ q)
    (hA : w9.ownsRow BA 3 1 (.slice (some ⟨ga, 0, none⟩) (0 + 1) ka) (0 + 1) ([] ++ [.int .i64 (c : Int)])) (hBA : W0.heap.size ≤ BA)
    (hB : w9.ownsRow BB 159 4 (.slice (some ⟨gb, 0, none⟩) (0 + es.length) kb) (0 + es.length) ([] ++ flatR es)) (hBB : W0.heap.size ≤ BB)
    (hx9 : Ext w w9)
    (h9 : w9.ownsRow W0.heap.size 241 2 v9 N (flatE (vs.take k) ++ [.slice (some ⟨ga, 0, none⟩) 1 ka, .slice (some ⟨gb, 0, none⟩) es.length kb] ++ flatE (vs.drop R)))
    (hk : k ≤ L.length) (hR : R ≤ L.length) (hN : N = k + 1 + (L.length - R)) (hins : insE c es L = L.take k ++ (c, es) :: L.drop R) : EntsR (w9.setCell ⟨q, 0, none⟩ x) v9 (insE c es L) := by
  simp only [Nat.zero_add, List.nil_append] at hA hB
  have hlen : (insE c es L).length = N := by rw [hins, List.length_append, List.length_cons, List.length_take, List.length_drop]; omega
  have hxw : Ext w (w9.setCell ⟨q, 0, none⟩ x) := show Below w.heap.size w (w9.setCell ⟨q, 0, none⟩ x) from (show Below w.heap.size w w9 from hx9).setCell hqw _
  refine ⟨vs.take k ++ (.slice (some ⟨ga, 0, none⟩) 1 ka, .slice (some ⟨gb, 0, none⟩) es.length kb) :: vs.drop R, ?_, ?_, ?_⟩
  · rw [hlen]
    have e : flatE (vs.take k ++ (.slice (some ⟨ga, 0, none⟩) 1 ka, .slice (some ⟨gb, 0, none⟩) es.length kb) :: vs.drop R) = flatE (vs.take k) ++ [.slice (some ⟨ga, 0, none⟩) 1 ka, .slice (some ⟨gb, 0, none⟩) es.length kb] ++ flatE (vs.drop R) := by
      simp [flatE]
    rw [e]
    refine (own_readsN h9).other q x fun g m cc hv => ?_
    subst hv
    have := own_block_ge h9
    omega
  · rw [hlen, List.length_append, List.length_cons, List.length_take, List.length_drop]; omega
  · intro j p y hp hy
    rw [hins] at hy
    rcases Nat.lt_trichotomy j k with hj | hj | hj
    · rw [List.getElem?_append_left (by rw [List.length_take]; omega), List.getElem?_take, if_pos hj] at hp hy
      exact (hEnt j p y hp hy).ext hxw
    · subst hj
      rw [List.getElem?_append_right (by rw [List.length_take]; omega), List.length_take, show j - min j vs.length = 0 by omega] at hp
      rw [List.getElem?_append_right (by rw [List.length_take]; omega), List.length_take, show j - min j L.length = 0 by omega] at hy
      obtain rfl := Option.some.inj hp
      obtain rfl := Option.some.inj hy
      have hga := own_block_ge hA
      have hgb := own_block_ge hB
      constructor
      · have hr := (own_readsN hA).other q x (fun g m cc hv => by simp at hv; omega)
        rcases hr with ⟨h, _⟩ | ⟨g, cc, h1, h2, _, h4⟩
        · cases h
        · simp only [Value.slice.injEq, Option.some.injEq, Addr.mk.injEq] at h1
          obtain ⟨⟨rfl, _⟩, _, rfl⟩ := h1
          exact ⟨ga, ka, rfl, h2, h4 0 _ rfl⟩
      · have hr := (own_readsN hB).other q x (fun g m cc hv => by simp at hv; omega)
        exact hr
    · obtain ⟨m, rfl⟩ : ∃ m, j = k + 1 + m := ⟨j - k - 1, by omega⟩
      rw [List.getElem?_append_right (by rw [List.length_take]; omega), List.length_take, show k + 1 + m - min k vs.length = m + 1 by omega, List.getElem?_cons_succ, List.getElem?_drop] at hp
      rw [List.getElem?_append_right (by rw [List.length_take]; omega), List.length_take, show k + 1 + m - min k L.length = m + 1 by omega, List.getElem?_cons_succ, List.getElem?_drop] at hy
      exact (hEnt _ p y hp hy).ext hxw
theorem ret_tab {t : Tmp} {fn : Func} (h : fn.results = #[.cell t 28]) (tmps : Array Value) {w : World} {g : Nat} {cs : Array Value} (hc : cs.size = 1) (hp : tmps.getD t undef = .pointer (some ⟨g, 0, none⟩)) (hg : Blk w g cs 28) :
    (results fn tmps).run Tryz.prog w = .ok (.agg cs) w := by
  have hp' : tmps[t]?.getD undef = .pointer (some ⟨g, 0, none⟩) := by simpa using hp
  have hr := run_loadVar_row w g 28 28 cs (0, 0) _ hg Tryz.underlying28 rfl (by rw [hc]; kernel_rfl)
  simp [results, h, hp', asAddr, hr]
theorem flatE_one {w : World} {L : List (Nat × List El)} {vs : List (Value × Value)} (hEnt : ∀ (j : Nat) (p : Value × Value) (x : Nat × List El), vs[j]? = some p → L[j]? = some x → EntR w p x) (hvl : vs.length = L.length) (R : Nat) : ∀ u ∈ flatE (vs.drop R), u.oneCell' = true := by
  intro u hu
  simp only [flatE, List.mem_flatMap] at hu
  obtain ⟨p, hp, hu⟩ := hu
  obtain ⟨j, hj, rfl⟩ := List.getElem_of_mem (List.mem_of_mem_drop hp)
  have h := hEnt j vs[j] L[j] (List.getElem?_eq_getElem hj) (List.getElem?_eq_getElem (by omega))
  simp only [List.mem_cons, List.not_mem_nil, or_false] at hu
  rcases hu with rfl | rfl
  · exact h.1.one
  · exact ReadsN.one h.2
end Go.Proofs.YtipokgedmfnlaaaGreatDoor
