/-
  The document's lists held against each other (umlautref8.lists); which numbers are signs; elements of a sign that is no entry (umlautref5.Implicit).
-/
import Derived.Test.YtipokgedmfnlaaaGreatDoorDocD
import Derived.Test.YtipokgedmfnlaaaGreatDoorRef5E
namespace Go.Proofs.YtipokgedmfnlaaaGreatDoor
open Go.RowKit Go.Lib
set_option maxRecDepth 100000

set_option maxHeartbeats 4000000 in
theorem listsR_any (v u : Value) (xs ys : List Nat) (w : World) (hv : ReadsL w v (intsV xs)) (hu : ReadsL w u (intsV ys)) (hn : xs.length ≤ 300000) (hm : ys.length ≤ 300000) :
    Calls Tryz.prog 88 #[v, u] w fun e w' => e = .returned (.int .i64 (cmpL xs ys)) ∧ Below w.heap.size w w' := by
  obtain ⟨ao, cap, rfl, hcap, h1⟩ := intsAt hv
  obtain ⟨bo, cap2, rfl, hcap2, h2⟩ := intsAt hu
  have H1 := Lib.hid h1
  have H2 := Lib.hid h2
  have hnI : (xs.length : Int) ≤ 300000 := by omega
  have hmI : (ys.length : Int) ≤ 300000 := by omega
  clear hv hu h1 h2
  go_enter Tryz.func88, Tryz.ntmps88
  go_wp2_with fail
  go_loopw [4, 5] (fun _ i wr => ∃ k : Nat, k ≤ xs.length ∧ k ≤ ys.length ∧ i = .int .i64 k ∧ cmpL xs ys = cmpL (xs.drop k) (ys.drop k) ∧ Ext w wr) (fun _ i _ => xs.length - (intOf i).toNat)
  case atStart => exact ⟨0, Nat.zero_le _, Nat.zero_le _, rfl, rfl, Ext.refl _⟩
  case round =>
    obtain ⟨k, hk, hk2, rfl, hc, hx⟩ := hrel
    have HC := Lib.hid hc
    have HXr := Lib.hid hx
    clear hc hx
    by_cases hlt : k < xs.length
    · have hk' : (k : Int) < xs.length := by omega
      by_cases hlt2 : k < ys.length
      · have hk2' : (k : Int) < ys.length := by omega
        obtain ⟨g, rfl, _⟩ := H1.out wr HXr.out k hlt
        obtain ⟨g2, rfl, _⟩ := H2.out wr HXr.out k hlt2
        have HF := Lib.hid (show ∀ W, Ext wr W → W.cell? ⟨g, k, none⟩ = some (.int .i64 (xs[k] : Int)) ∧ W.cell? ⟨g2, k, none⟩ = some (.int .i64 (ys[k] : Int)) from fun W hW => by
          obtain ⟨g', hg, c1⟩ := H1.out W (Ext.trans HXr.out hW) k hlt
          obtain ⟨g2', hg2, c2⟩ := H2.out W (Ext.trans HXr.out hW) k hlt2
          cases hg
          cases hg2
          exact ⟨c1, c2⟩)
        have hd := cmpL_drop xs ys k hlt hlt2
        rw [← HC.out] at hd
        generalize xs[k] = a at HF hd
        generalize ys[k] = b at HF hd
        obtain ⟨X, hX⟩ : ∃ X : Int, X = (a : Int) := ⟨_, rfl⟩
        obtain ⟨Y, hY⟩ : ∃ Y : Int, Y = (b : Int) := ⟨_, rfl⟩
        rw [← hX, ← hY] at HF
        have hcs : (cmpL xs ys = -1 ∧ X < Y) ∨ (cmpL xs ys = 1 ∧ ¬ X < Y ∧ Y < X) ∨ (cmpL xs ys = cmpL (xs.drop (k + 1)) (ys.drop (k + 1)) ∧ ¬ X < Y ∧ ¬ Y < X) := by
          rcases Nat.lt_trichotomy a b with h | h | h
          · rw [if_pos h] at hd
            exact .inl ⟨hd, by omega⟩
          · rw [if_neg (by omega), if_neg (by omega)] at hd
            exact .inr (.inr ⟨hd, by omega, by omega⟩)
          · rw [if_neg (by omega), if_pos h] at hd
            exact .inr (.inl ⟨hd, by omega, by omega⟩)
        clear hd hX hY
        have HCS := Lib.hid hcs
        clear hcs
        go_wp2_with fail
        refine wp_par 9 (fun
            | 0 => fun v _ => v = .slice (some ⟨g, 0, none⟩) xs.length cap
            | 1 => fun v _ => v = .int .i64 k
            | 2 => fun v _ => v = .pointer (some ⟨g, k, none⟩)
            | 3 => fun v _ => v = .int .i64 X
            | 4 => fun v _ => v = .slice (some ⟨g2, 0, none⟩) ys.length cap2
            | 5 => fun v _ => v = .int .i64 k
            | 6 => fun v _ => v = .pointer (some ⟨g2, k, none⟩)
            | 7 => fun v _ => v = .int .i64 Y
            | 8 => fun v _ => v = .bool (decide (X < Y))
            | _ => fun _ _ => True) (by kernel_rfl) (by kernel_rfl) (by kernel_rfl) ?_ ?_
        · simp (maxSteps := 20000000) only [List.take_succ_cons, List.take_zero, ParAll, Act.put, List.setIfInBounds_toArray, List.set_cons_succ, List.set_cons_zero]
          refine ⟨?_, ?_, ?_, ?_, ?_, ?_, ?_, ?_, ?_, trivial⟩
          · intro vals W hx hd
            have hW := HF.out W hx
            simp [PDeps, pdeps, Region.binds] at hd
            first
              | refine ParOb.plain rfl ?_
              | refine ParOb.wanted (by simp [Region.wanted, yielded, hd]) ?_
            go_simp
            exact ParPost.same fun _ _ => rfl
          · intro vals W hx hd
            have hW := HF.out W hx
            simp [PDeps, pdeps, Region.binds] at hd
            first
              | refine ParOb.plain rfl ?_
              | refine ParOb.wanted (by simp [Region.wanted, yielded, hd]) ?_
            go_simp
            exact ParPost.same fun _ _ => rfl
          · intro vals W hx hd
            have hW := HF.out W hx
            simp [PDeps, pdeps, Region.binds] at hd
            first
              | refine ParOb.plain rfl ?_
              | refine ParOb.wanted (by simp [Region.wanted, yielded, hd]) ?_
            go_simp
            exact ParPost.same fun _ _ => rfl
          · intro vals W hx hd
            have hW := HF.out W hx
            simp [PDeps, pdeps, Region.binds] at hd
            first
              | refine ParOb.plain rfl ?_
              | refine ParOb.wanted (by simp [Region.wanted, yielded, hd]) ?_
            go_simp
            exact ParPost.same fun _ _ => rfl
          · intro vals W hx hd
            have hW := HF.out W hx
            simp [PDeps, pdeps, Region.binds] at hd
            first
              | refine ParOb.plain rfl ?_
              | refine ParOb.wanted (by simp [Region.wanted, yielded, hd]) ?_
            go_simp
            exact ParPost.same fun _ _ => rfl
          · intro vals W hx hd
            have hW := HF.out W hx
            simp [PDeps, pdeps, Region.binds] at hd
            first
              | refine ParOb.plain rfl ?_
              | refine ParOb.wanted (by simp [Region.wanted, yielded, hd]) ?_
            go_simp
            exact ParPost.same fun _ _ => rfl
          · intro vals W hx hd
            have hW := HF.out W hx
            simp [PDeps, pdeps, Region.binds] at hd
            first
              | refine ParOb.plain rfl ?_
              | refine ParOb.wanted (by simp [Region.wanted, yielded, hd]) ?_
            go_simp
            exact ParPost.same fun _ _ => rfl
          · intro vals W hx hd
            have hW := HF.out W hx
            simp [PDeps, pdeps, Region.binds] at hd
            first
              | refine ParOb.plain rfl ?_
              | refine ParOb.wanted (by simp [Region.wanted, yielded, hd]) ?_
            go_simp
            exact ParPost.same fun _ _ => rfl
          · intro vals W hx hd
            have hW := HF.out W hx
            simp [PDeps, pdeps, Region.binds] at hd
            first
              | refine ParOb.plain rfl ?_
              | refine ParOb.wanted (by simp [Region.wanted, yielded, hd]) ?_
            go_simp
            exact ParPost.same fun _ _ => rfl
        intro vals W hx hf
        simp (maxSteps := 20000000) only [ParFacts, List.take_succ_cons, List.take_zero, and_true] at hf
        simp (maxSteps := 20000000) only [List.drop_succ_cons, List.drop_zero, List.take_succ_cons, List.take_zero, ParEnd, Act.put, List.setIfInBounds_toArray, List.set_cons_succ, List.set_cons_zero, hf]
        clear hf
        have HX2 := Lib.hid (Ext.trans HXr.out hx)
        rename World => W2
        have HF2 := Lib.hid (show ∀ W', Ext W2 W' → W'.cell? ⟨g, k, none⟩ = some (.int .i64 X) ∧ W'.cell? ⟨g2, k, none⟩ = some (.int .i64 Y) from fun W' hW => HF.out W' (Ext.trans hx hW))
        clear hx HF
        rcases HCS.out with ⟨h1, h2⟩ | ⟨h1, h2, h3⟩ | ⟨h1, h2, h3⟩
        · have H9 := Lib.hid h1
          clear h1
          go_wp2_with fail
          go_ret
          exact ⟨by rw [H9.out]; rfl, HX2.out⟩
        · have H9 := Lib.hid h1
          clear h1
          go_wp2_with fail
          refine wp_par 9 (fun
              | 0 => fun v _ => v = .slice (some ⟨g, 0, none⟩) xs.length cap
              | 1 => fun v _ => v = .int .i64 k
              | 2 => fun v _ => v = .pointer (some ⟨g, k, none⟩)
              | 3 => fun v _ => v = .int .i64 X
              | 4 => fun v _ => v = .slice (some ⟨g2, 0, none⟩) ys.length cap2
              | 5 => fun v _ => v = .int .i64 k
              | 6 => fun v _ => v = .pointer (some ⟨g2, k, none⟩)
              | 7 => fun v _ => v = .int .i64 Y
              | 8 => fun v _ => v = .bool (decide (Y < X))
              | _ => fun _ _ => True) (by kernel_rfl) (by kernel_rfl) (by kernel_rfl) ?_ ?_
          · simp (maxSteps := 20000000) only [List.take_succ_cons, List.take_zero, ParAll, Act.put, List.setIfInBounds_toArray, List.set_cons_succ, List.set_cons_zero]
            refine ⟨?_, ?_, ?_, ?_, ?_, ?_, ?_, ?_, ?_, trivial⟩
            · intro vals W hx hd
              have hW := HF2.out W hx
              simp [PDeps, pdeps, Region.binds] at hd
              first
                | refine ParOb.plain rfl ?_
                | refine ParOb.wanted (by simp [Region.wanted, yielded, hd]) ?_
              go_simp
              exact ParPost.same fun _ _ => rfl
            · intro vals W hx hd
              have hW := HF2.out W hx
              simp [PDeps, pdeps, Region.binds] at hd
              first
                | refine ParOb.plain rfl ?_
                | refine ParOb.wanted (by simp [Region.wanted, yielded, hd]) ?_
              go_simp
              exact ParPost.same fun _ _ => rfl
            · intro vals W hx hd
              have hW := HF2.out W hx
              simp [PDeps, pdeps, Region.binds] at hd
              first
                | refine ParOb.plain rfl ?_
                | refine ParOb.wanted (by simp [Region.wanted, yielded, hd]) ?_
              go_simp
              exact ParPost.same fun _ _ => rfl
            · intro vals W hx hd
              have hW := HF2.out W hx
              simp [PDeps, pdeps, Region.binds] at hd
              first
                | refine ParOb.plain rfl ?_
                | refine ParOb.wanted (by simp [Region.wanted, yielded, hd]) ?_
              go_simp
              exact ParPost.same fun _ _ => rfl
            · intro vals W hx hd
              have hW := HF2.out W hx
              simp [PDeps, pdeps, Region.binds] at hd
              first
                | refine ParOb.plain rfl ?_
                | refine ParOb.wanted (by simp [Region.wanted, yielded, hd]) ?_
              go_simp
              exact ParPost.same fun _ _ => rfl
            · intro vals W hx hd
              have hW := HF2.out W hx
              simp [PDeps, pdeps, Region.binds] at hd
              first
                | refine ParOb.plain rfl ?_
                | refine ParOb.wanted (by simp [Region.wanted, yielded, hd]) ?_
              go_simp
              exact ParPost.same fun _ _ => rfl
            · intro vals W hx hd
              have hW := HF2.out W hx
              simp [PDeps, pdeps, Region.binds] at hd
              first
                | refine ParOb.plain rfl ?_
                | refine ParOb.wanted (by simp [Region.wanted, yielded, hd]) ?_
              go_simp
              exact ParPost.same fun _ _ => rfl
            · intro vals W hx hd
              have hW := HF2.out W hx
              simp [PDeps, pdeps, Region.binds] at hd
              first
                | refine ParOb.plain rfl ?_
                | refine ParOb.wanted (by simp [Region.wanted, yielded, hd]) ?_
              go_simp
              exact ParPost.same fun _ _ => rfl
            · intro vals W hx hd
              have hW := HF2.out W hx
              simp [PDeps, pdeps, Region.binds] at hd
              first
                | refine ParOb.plain rfl ?_
                | refine ParOb.wanted (by simp [Region.wanted, yielded, hd]) ?_
              go_simp
              exact ParPost.same fun _ _ => rfl
          intro vals W hx hf
          simp (maxSteps := 20000000) only [ParFacts, List.take_succ_cons, List.take_zero, and_true] at hf
          simp (maxSteps := 20000000) only [List.drop_succ_cons, List.drop_zero, List.take_succ_cons, List.take_zero, ParEnd, Act.put, List.setIfInBounds_toArray, List.set_cons_succ, List.set_cons_zero, hf]
          clear hf
          have HX3 := Lib.hid (Ext.trans HX2.out hx)
          clear hx HF2
          go_wp2_with fail
          go_ret
          exact ⟨by rw [H9.out]; rfl, HX3.out⟩
        · have H9 := Lib.hid h1
          clear h1
          go_wp2_with fail
          refine wp_par 9 (fun
              | 0 => fun v _ => v = .slice (some ⟨g, 0, none⟩) xs.length cap
              | 1 => fun v _ => v = .int .i64 k
              | 2 => fun v _ => v = .pointer (some ⟨g, k, none⟩)
              | 3 => fun v _ => v = .int .i64 X
              | 4 => fun v _ => v = .slice (some ⟨g2, 0, none⟩) ys.length cap2
              | 5 => fun v _ => v = .int .i64 k
              | 6 => fun v _ => v = .pointer (some ⟨g2, k, none⟩)
              | 7 => fun v _ => v = .int .i64 Y
              | 8 => fun v _ => v = .bool (decide (Y < X))
              | _ => fun _ _ => True) (by kernel_rfl) (by kernel_rfl) (by kernel_rfl) ?_ ?_
          · simp (maxSteps := 20000000) only [List.take_succ_cons, List.take_zero, ParAll, Act.put, List.setIfInBounds_toArray, List.set_cons_succ, List.set_cons_zero]
            refine ⟨?_, ?_, ?_, ?_, ?_, ?_, ?_, ?_, ?_, trivial⟩
            · intro vals W hx hd
              have hW := HF2.out W hx
              simp [PDeps, pdeps, Region.binds] at hd
              first
                | refine ParOb.plain rfl ?_
                | refine ParOb.wanted (by simp [Region.wanted, yielded, hd]) ?_
              go_simp
              exact ParPost.same fun _ _ => rfl
            · intro vals W hx hd
              have hW := HF2.out W hx
              simp [PDeps, pdeps, Region.binds] at hd
              first
                | refine ParOb.plain rfl ?_
                | refine ParOb.wanted (by simp [Region.wanted, yielded, hd]) ?_
              go_simp
              exact ParPost.same fun _ _ => rfl
            · intro vals W hx hd
              have hW := HF2.out W hx
              simp [PDeps, pdeps, Region.binds] at hd
              first
                | refine ParOb.plain rfl ?_
                | refine ParOb.wanted (by simp [Region.wanted, yielded, hd]) ?_
              go_simp
              exact ParPost.same fun _ _ => rfl
            · intro vals W hx hd
              have hW := HF2.out W hx
              simp [PDeps, pdeps, Region.binds] at hd
              first
                | refine ParOb.plain rfl ?_
                | refine ParOb.wanted (by simp [Region.wanted, yielded, hd]) ?_
              go_simp
              exact ParPost.same fun _ _ => rfl
            · intro vals W hx hd
              have hW := HF2.out W hx
              simp [PDeps, pdeps, Region.binds] at hd
              first
                | refine ParOb.plain rfl ?_
                | refine ParOb.wanted (by simp [Region.wanted, yielded, hd]) ?_
              go_simp
              exact ParPost.same fun _ _ => rfl
            · intro vals W hx hd
              have hW := HF2.out W hx
              simp [PDeps, pdeps, Region.binds] at hd
              first
                | refine ParOb.plain rfl ?_
                | refine ParOb.wanted (by simp [Region.wanted, yielded, hd]) ?_
              go_simp
              exact ParPost.same fun _ _ => rfl
            · intro vals W hx hd
              have hW := HF2.out W hx
              simp [PDeps, pdeps, Region.binds] at hd
              first
                | refine ParOb.plain rfl ?_
                | refine ParOb.wanted (by simp [Region.wanted, yielded, hd]) ?_
              go_simp
              exact ParPost.same fun _ _ => rfl
            · intro vals W hx hd
              have hW := HF2.out W hx
              simp [PDeps, pdeps, Region.binds] at hd
              first
                | refine ParOb.plain rfl ?_
                | refine ParOb.wanted (by simp [Region.wanted, yielded, hd]) ?_
              go_simp
              exact ParPost.same fun _ _ => rfl
            · intro vals W hx hd
              have hW := HF2.out W hx
              simp [PDeps, pdeps, Region.binds] at hd
              first
                | refine ParOb.plain rfl ?_
                | refine ParOb.wanted (by simp [Region.wanted, yielded, hd]) ?_
              go_simp
              exact ParPost.same fun _ _ => rfl
          intro vals W hx hf
          simp (maxSteps := 20000000) only [ParFacts, List.take_succ_cons, List.take_zero, and_true] at hf
          simp (maxSteps := 20000000) only [List.drop_succ_cons, List.drop_zero, List.take_succ_cons, List.take_zero, ParEnd, Act.put, List.setIfInBounds_toArray, List.set_cons_succ, List.set_cons_zero, hf]
          clear hf
          have HX3 := Lib.hid (Ext.trans HX2.out hx)
          clear hx HF2
          go_wp2_with fail
          go_roundw
          case rel => exact ⟨k + 1, by omega, by omega, by go_num, H9.out, HX3.out⟩
          case measure => simp [intOf]; omega
      · obtain rfl : k = ys.length := by omega
        have hr : cmpL xs ys = cmpN xs.length ys.length := by
          rw [HC.out, List.drop_length, List.drop_eq_getElem_cons hlt]
          unfold cmpN
          rw [if_neg (by omega), if_pos hlt]
          rfl
        have HR := Lib.hid hr
        clear hr
        go_wp2_with fail
        refine (sizesR_any xs.length ys.length _).mono ?_
        rintro e w2 ⟨rfl, rfl⟩
        go_wp2_with fail
        go_ret
        exact ⟨by rw [HR.out]; rfl, HXr.out⟩
    · obtain rfl : k = xs.length := by omega
      have hr : cmpL xs ys = cmpN xs.length ys.length := by
        rw [HC.out, List.drop_length]
        by_cases hlt2 : xs.length < ys.length
        · rw [List.drop_eq_getElem_cons hlt2]
          unfold cmpN
          rw [if_pos hlt2]
          rfl
        · have he : ys.length = xs.length := by omega
          rw [← he, List.drop_length]
          unfold cmpN
          rw [if_neg (by omega), if_neg (by omega)]
          rfl
      have HR := Lib.hid hr
      clear hr
      go_wp2_with fail
      refine (sizesR_any xs.length ys.length _).mono ?_
      rintro e w2 ⟨rfl, rfl⟩
      go_wp2_with fail
      go_ret
      exact ⟨by rw [HR.out]; rfl, HXr.out⟩
/-- Every sign of a text is one. -/
theorem isSignR_any (c : Nat) (h : isSign c = true) (w : World) : Calls Tryz.prog 190 #[.int .i64 c] w fun e w' => e = .returned (.bool true) ∧ w = w' := by
  have h' : c < 55296 ∨ 57344 ≤ c ∧ c < 1114112 ∨ 1114240 ≤ c ∧ c ≤ 1114367 := by simpa [isSign, or_assoc] using h
  obtain ⟨X, hX⟩ : ∃ X : Int, X = (c : Int) := ⟨_, rfl⟩
  rw [← hX]
  have d0 : decide ((0 : Int) ≤ X) = true := decide_eq_true (by omega)
  rcases h' with h' | h' | h'
  · have d1 : decide (X ≤ (1114111 : Int)) = true := decide_eq_true (by omega)
    have d2 : decide (X < (55296 : Int)) = true := decide_eq_true (by omega)
    clear hX h h'
    go_enter Tryz.func190, Tryz.ntmps190
    go_wp2_with fail
    go_ret
    exact ⟨rfl, rfl⟩
  · have d1 : decide (X ≤ (1114111 : Int)) = true := decide_eq_true (by omega)
    have d2 : decide ((57343 : Int) < X) = true := decide_eq_true (by omega)
    cases d3 : decide (X < (55296 : Int))
    all_goals
      clear hX h h'
      go_enter Tryz.func190, Tryz.ntmps190
      go_wp2_with fail
      go_ret
      exact ⟨rfl, rfl⟩
  · have d1 : decide (X ≤ (1114111 : Int)) = false := decide_eq_false (by omega)
    have d2 : decide ((1114240 : Int) ≤ X) = true := decide_eq_true (by omega)
    have d3 : decide (X ≤ (1114367 : Int)) = true := decide_eq_true (by omega)
    clear hX h h'
    go_enter Tryz.func190, Tryz.ntmps190
    go_wp2_with fail
    go_ret
    exact ⟨rfl, rfl⟩
end Go.Proofs.YtipokgedmfnlaaaGreatDoor
