/-
  The document's elements at a place of a row of signs (Table.At).
-/
import Derived.Test.YtipokgedmfnlaaaGreatDoorDocF
namespace Go.Proofs.YtipokgedmfnlaaaGreatDoor
open Go.RowKit Go.Lib
set_option maxRecDepth 100000

def isSub (g k n : Nat) (v : Value) (_ : World) : Prop := ∃ c, v = .slice (some ⟨g, k, none⟩) n c ∧ n ≤ c
def foundV (es : List El) (v : Value) (w : World) : Prop := ∃ u, v = .tuple #[u, .bool true] ∧ ElsR w u es
theorem FindV.ext {w w' : World} {v : Value} {o : Option (List El)} (h : FindV w v o) (hx : Ext w w') : FindV w' v o := by
  cases o with
  | none => exact h
  | some es => obtain ⟨u, h1, h2⟩ := h; exact ⟨u, h1, h2.ext hx⟩
theorem ElsR.ext9 {w w' : World} {v : Value} {es : List El} (h : ElsV es v w) (hx : Ext w w') : ElsV es v w' := ReadsN.ext h hx
set_option maxHeartbeats 16000000 in
theorem atR_any (tv sv : Value) (L : List (Nat × List El)) (cs : List Nat) (k : Nat) (hk : k < cs.length) (w : World) (hL : EntsR w tv L) (hn : L.length ≤ 1000) (hv : ReadsL w sv (intsV cs)) (hm : cs.length ≤ 1000000)
    (hs : isSign cs[k] = true) (hc : cs[k] ≤ 1114367) :
    Calls Tryz.prog 186 #[.agg #[tv], sv, .int .i64 (k : Int)] w fun e w' => (∃ u, e = .returned (.tuple #[u, .int .i64 1]) ∧ ElsR w' u ((lookE L cs[k]).getD (implE cs[k]))) ∧ Below w.heap.size w w' := by
  obtain ⟨ao, cap, rfl, hcap, h1⟩ := intsAt hv
  obtain ⟨g, rfl, _⟩ := h1 w (Ext.refl w) k hk
  obtain ⟨tp, tn, tk, rfl⟩ := hL.slice
  have HL := Lib.hid hL
  have HC := Lib.hid (show ∀ W, Ext w W → W.cell? ⟨g, k, none⟩ = some (.int .i64 (cs[k] : Int)) from fun W hW => by
    obtain ⟨g', hg, c1⟩ := h1 W hW k hk
    cases hg
    exact c1)
  have HI := Lib.hid (implicitR_any cs[k] hs hc)
  have hkI : (k : Int) < cs.length := by omega
  have hmI : (cs.length : Int) ≤ 1000000 := by omega
  generalize cs[k] = c at HC HI ⊢
  clear hv h1 hs hc hL
  obtain ⟨es0, hes0⟩ : ∃ es0, es0 = (lookE L c).getD (implE c) := ⟨_, rfl⟩
  rw [← hes0]
  have HS0 := Lib.hid hes0
  clear hes0
  obtain ⟨m, hm0⟩ : ∃ m : Nat, m = cs.length - k := ⟨_, rfl⟩
  have hmm : ((cs.length : Int) - (k : Int)) = (m : Int) := by omega
  have hm1 : 1 ≤ m := by omega
  go_enter Tryz.func186, Tryz.ntmps186
  go_wp2_with fail
  obtain ⟨n0, hn0⟩ : ∃ n0 : Nat, n0 = min 3 (cs.length - k) := ⟨_, rfl⟩
  have hmin : min (3 : Int) ((cs.length - k : Nat) : Int) = (n0 : Int) := by omega
  rw [hmin]
  have hQ : Blk (w.alloc (.cells #[.slice tp tn tk] 28)) w.heap.size #[.slice tp tn tk] 28 := Blk.new w _ _ rfl
  have hx0 : Ext w (w.alloc (.cells #[.slice tp tn tk] 28)) := (Ext.refl w).alloc _
  generalize (w.alloc (.cells #[.slice tp tn tk] 28)) = W0 at hQ hx0 ⊢
  have HQ := Lib.hid hQ
  have HX0 := Lib.hid hx0
  clear hQ hx0 hmin hmm
  generalize w.heap.size = q at HQ ⊢
  go_loopw [6, 7, 8] (fun _ _ i wr => ∃ n : Nat, n ≤ 3 ∧ n ≤ m ∧ i = .int .i64 n ∧ (n = 0 → lookE L c = none) ∧ Ext W0 wr) (fun _ _ i _ => (intOf i).toNat)
  case atStart => exact ⟨n0, by omega, by omega, rfl, fun h => by omega, Ext.refl _⟩
  case round =>
    obtain ⟨n, hn3, hnm, rfl, hz, hx⟩ := hrel
    have HZ := Lib.hid hz
    have HXr := Lib.hid hx
    have HF := Lib.hid (show ∀ W, Ext wr W → W.cell? ⟨q, 0, none⟩ = some (.slice tp tn tk) ∧ W.cell? ⟨q, 1, none⟩ = none from fun W hW => ⟨(HQ.out.keep (Ext.trans hx hW)).cell 0, (HQ.out.keep (Ext.trans hx hW)).cell 1⟩)
    clear hz hx
    by_cases h1 : 1 ≤ n
    · have h1I : (1 : Int) ≤ n := by omega
      have KF := Lib.hid (show ∀ W, Ext wr W → Calls Tryz.prog 191 #[.agg #[.slice tp tn tk], .slice (some ⟨g, k, none⟩) n (cap - k)] W fun e w' => (∃ r, e = .returned r ∧ FindV w' r (oneL (decide (n = 1)) L c)) ∧ Below W.heap.size W w' from fun W hW =>
        findR_any _ _ L c (decide (n = 1)) W (HL.out.ext (Ext.trans HX0.out (Ext.trans HXr.out hW))) hn (by
          by_cases hn1 : n = 1
          · subst hn1
            exact .inl ⟨rfl, g, k, cap - k, rfl, by omega, HC.out W (Ext.trans HX0.out (Ext.trans HXr.out hW))⟩
          · exact .inr ⟨by simpa using hn1, _, n, _, rfl, hn1⟩))
      go_wp2_with fail
      cases ho : oneL (decide (n = 1)) L c with
      | none =>
        rw [ho] at KF
        refine wp_par 13 (fun
            | 0 => fun v _ => v = .agg #[.slice tp tn tk]
            | 1 => fun v _ => v = .slice (some ⟨g, 0, none⟩) cs.length cap
            | 2 => fun v _ => v = .int .i64 (k : Int)
            | 3 => fun v _ => v = .int .i64 (k : Int)
            | 4 => fun v _ => v = .int .i64 (n : Int)
            | 5 => fun v _ => v = .int .i64 ((k + n : Nat) : Int)
            | 6 => fun v _ => v = .slice (some ⟨g, k, none⟩) n (cap - k)
            | 7 => fun v _ => v = .tuple #[.slice none 0 0, .bool false]
            | 8 => fun v _ => v = .tuple #[.slice none 0 0, .bool false]
            | 9 => fun v _ => v = .slice none 0 0
            | 10 => fun v _ => v = .bool false
            | 11 => fun v _ => v = .slice none 0 0
            | 12 => fun v _ => v = .bool false
            | _ => fun _ _ => True) (by kernel_rfl) (by kernel_rfl) (by kernel_rfl) ?_ ?_
        · simp (maxSteps := 20000000) only [List.take_succ_cons, List.take_zero, ParAll, Act.put, List.setIfInBounds_toArray, List.set_cons_succ, List.set_cons_zero]
          refine ⟨?_, ?_, ?_, ?_, ?_, ?_, ?_, ?_, ?_, ?_, ?_, ?_, ?_, trivial⟩
          · intro vals W hx hd
            have hW := HF.out W hx
            simp [PDeps, pdeps, Region.binds] at hd
            first
              | refine ParOb.plain rfl ?_
              | refine ParOb.wanted (by simp [Region.wanted, yielded, hd]) ?_
            go_simp
            exact ParPost.same fun _ _ => rfl
          · intro vals W hx hd
            have hW := HF.out W hx
            simp [PDeps, pdeps, Region.binds] at hd
            first
              | refine ParOb.plain rfl ?_
              | refine ParOb.wanted (by simp [Region.wanted, yielded, hd]) ?_
            go_simp
            exact ParPost.same fun _ _ => rfl
          · intro vals W hx hd
            have hW := HF.out W hx
            simp [PDeps, pdeps, Region.binds] at hd
            first
              | refine ParOb.plain rfl ?_
              | refine ParOb.wanted (by simp [Region.wanted, yielded, hd]) ?_
            go_simp
            exact ParPost.same fun _ _ => rfl
          · intro vals W hx hd
            have hW := HF.out W hx
            simp [PDeps, pdeps, Region.binds] at hd
            first
              | refine ParOb.plain rfl ?_
              | refine ParOb.wanted (by simp [Region.wanted, yielded, hd]) ?_
            go_simp
            exact ParPost.same fun _ _ => rfl
          · intro vals W hx hd
            have hW := HF.out W hx
            simp [PDeps, pdeps, Region.binds] at hd
            first
              | refine ParOb.plain rfl ?_
              | refine ParOb.wanted (by simp [Region.wanted, yielded, hd]) ?_
            go_simp
            exact ParPost.same fun _ _ => rfl
          · intro vals W hx hd
            have hW := HF.out W hx
            simp [PDeps, pdeps, Region.binds] at hd
            first
              | refine ParOb.plain rfl ?_
              | refine ParOb.wanted (by simp [Region.wanted, yielded, hd]) ?_
            have hsum := IntWalk.i64_in ((k : Int) + (n : Int)) (by omega)
            go_simp
            exact ParPost.same fun _ _ => rfl
          · intro vals W hx hd
            have hW := HF.out W hx
            simp [PDeps, pdeps, Region.binds] at hd
            first
              | refine ParOb.plain rfl ?_
              | refine ParOb.wanted (by simp [Region.wanted, yielded, hd]) ?_
            go_simp
            rw [if_pos (by omega), if_pos (by omega), if_neg (by omega), show ((k : Int) + (n : Int)).toNat - k = n by omega]
            exact (ParPost.same (R := fun v _ => v = Value.slice (some ⟨g, k, none⟩) n (cap - k)) fun _ _ => rfl)
          · intro vals W hx hd
            have hW := HF.out W hx
            simp [PDeps, pdeps, Region.binds] at hd
            first
              | refine ParOb.plain rfl ?_
              | refine ParOb.wanted (by simp [Region.wanted, yielded, hd]) ?_
            go_simp
            refine Calls.mono (KF.out W hx) ?_
            rintro e w9 ⟨⟨r, rfl, hr⟩, hb9⟩
            exact ⟨r, rfl, hb9, fun _ _ => hr⟩
          · intro vals W hx hd
            have hW := HF.out W hx
            simp [PDeps, pdeps, Region.binds] at hd
            first
              | refine ParOb.plain rfl ?_
              | refine ParOb.wanted (by simp [Region.wanted, yielded, hd]) ?_
            go_simp
            exact ParPost.same fun _ _ => rfl
          · intro vals W hx hd
            have hW := HF.out W hx
            simp [PDeps, pdeps, Region.binds] at hd
            first
              | refine ParOb.plain rfl ?_
              | refine ParOb.wanted (by simp [Region.wanted, yielded, hd]) ?_
            go_simp
            exact ParPost.same fun _ _ => rfl
          · intro vals W hx hd
            have hW := HF.out W hx
            simp [PDeps, pdeps, Region.binds] at hd
            first
              | refine ParOb.plain rfl ?_
              | refine ParOb.wanted (by simp [Region.wanted, yielded, hd]) ?_
            go_simp
            exact ParPost.same fun _ _ => rfl
          · intro vals W hx hd
            have hW := HF.out W hx
            simp [PDeps, pdeps, Region.binds] at hd
            first
              | refine ParOb.plain rfl ?_
              | refine ParOb.wanted (by simp [Region.wanted, yielded, hd]) ?_
            go_simp
            exact ParPost.same fun _ _ => rfl
          · intro vals W hx hd
            have hW := HF.out W hx
            simp [PDeps, pdeps, Region.binds] at hd
            first
              | refine ParOb.plain rfl ?_
              | refine ParOb.wanted (by simp [Region.wanted, yielded, hd]) ?_
            go_simp
            exact ParPost.same fun _ _ => rfl
        intro vals W hx hf
        simp (maxSteps := 20000000) only [ParFacts, List.take_succ_cons, List.take_zero, and_true] at hf
        simp (maxSteps := 20000000) only [List.drop_succ_cons, List.drop_zero, List.take_succ_cons, List.take_zero, ParEnd, Act.put, List.setIfInBounds_toArray, List.set_cons_succ, List.set_cons_zero, hf]
        clear hf
        have HX2 := Lib.hid (Ext.trans HXr.out hx)
        clear hx HF KF
        have hnz : n - 1 = 0 → lookE L c = none := fun h => by
          have hn1 : n = 1 := by omega
          subst hn1
          exact ho
        have HNZ := Lib.hid hnz
        clear ho hnz
        go_wp2_with fail
        go_roundw
        case rel => exact ⟨n - 1, by omega, by omega, by go_num, HNZ.out, HX2.out⟩
        case measure => simp [intOf]; omega
      | some es =>
        rw [ho] at KF
        refine wp_par 13 (fun
            | 0 => fun v _ => v = .agg #[.slice tp tn tk]
            | 1 => fun v _ => v = .slice (some ⟨g, 0, none⟩) cs.length cap
            | 2 => fun v _ => v = .int .i64 (k : Int)
            | 3 => fun v _ => v = .int .i64 (k : Int)
            | 4 => fun v _ => v = .int .i64 (n : Int)
            | 5 => fun v _ => v = .int .i64 ((k + n : Nat) : Int)
            | 6 => fun v _ => v = .slice (some ⟨g, k, none⟩) n (cap - k)
            | 7 => foundV es
            | 8 => foundV es
            | 9 => ElsV es
            | 10 => fun v _ => v = .bool true
            | 11 => ElsV es
            | 12 => fun v _ => v = .bool true
            | _ => fun _ _ => True) (by kernel_rfl) (by kernel_rfl) (by kernel_rfl) ?_ ?_
        · simp (maxSteps := 20000000) only [List.take_succ_cons, List.take_zero, ParAll, Act.put, List.setIfInBounds_toArray, List.set_cons_succ, List.set_cons_zero]
          refine ⟨?_, ?_, ?_, ?_, ?_, ?_, ?_, ?_, ?_, ?_, ?_, ?_, ?_, trivial⟩
          · intro vals W hx hd
            have hW := HF.out W hx
            simp [PDeps, pdeps, Region.binds] at hd
            first
              | refine ParOb.plain rfl ?_
              | refine ParOb.wanted (by simp [Region.wanted, yielded, hd]) ?_
            go_simp
            exact ParPost.same fun _ _ => rfl
          · intro vals W hx hd
            have hW := HF.out W hx
            simp [PDeps, pdeps, Region.binds] at hd
            first
              | refine ParOb.plain rfl ?_
              | refine ParOb.wanted (by simp [Region.wanted, yielded, hd]) ?_
            go_simp
            exact ParPost.same fun _ _ => rfl
          · intro vals W hx hd
            have hW := HF.out W hx
            simp [PDeps, pdeps, Region.binds] at hd
            first
              | refine ParOb.plain rfl ?_
              | refine ParOb.wanted (by simp [Region.wanted, yielded, hd]) ?_
            go_simp
            exact ParPost.same fun _ _ => rfl
          · intro vals W hx hd
            have hW := HF.out W hx
            simp [PDeps, pdeps, Region.binds] at hd
            first
              | refine ParOb.plain rfl ?_
              | refine ParOb.wanted (by simp [Region.wanted, yielded, hd]) ?_
            go_simp
            exact ParPost.same fun _ _ => rfl
          · intro vals W hx hd
            have hW := HF.out W hx
            simp [PDeps, pdeps, Region.binds] at hd
            first
              | refine ParOb.plain rfl ?_
              | refine ParOb.wanted (by simp [Region.wanted, yielded, hd]) ?_
            go_simp
            exact ParPost.same fun _ _ => rfl
          · intro vals W hx hd
            have hW := HF.out W hx
            simp [PDeps, pdeps, Region.binds] at hd
            first
              | refine ParOb.plain rfl ?_
              | refine ParOb.wanted (by simp [Region.wanted, yielded, hd]) ?_
            have hsum := IntWalk.i64_in ((k : Int) + (n : Int)) (by omega)
            go_simp
            exact ParPost.same fun _ _ => rfl
          · intro vals W hx hd
            have hW := HF.out W hx
            simp [PDeps, pdeps, Region.binds] at hd
            first
              | refine ParOb.plain rfl ?_
              | refine ParOb.wanted (by simp [Region.wanted, yielded, hd]) ?_
            go_simp
            rw [if_pos (by omega), if_pos (by omega), if_neg (by omega), show ((k : Int) + (n : Int)).toNat - k = n by omega]
            exact (ParPost.same (R := fun v _ => v = Value.slice (some ⟨g, k, none⟩) n (cap - k)) fun _ _ => rfl)
          · intro vals W hx hd
            have hW := HF.out W hx
            simp [PDeps, pdeps, Region.binds] at hd
            first
              | refine ParOb.plain rfl ?_
              | refine ParOb.wanted (by simp [Region.wanted, yielded, hd]) ?_
            go_simp
            refine Calls.mono (KF.out W hx) ?_
            rintro e w9 ⟨⟨r, rfl, hr⟩, hb9⟩
            exact ⟨r, rfl, hb9, fun w2 h2 => FindV.ext hr h2⟩
          · intro vals W hx hd
            have hW := HF.out W hx
            simp [PDeps, pdeps, Region.binds] at hd
            first
              | refine ParOb.plain rfl ?_
              | refine ParOb.wanted (by simp [Region.wanted, yielded, hd]) ?_
            obtain ⟨u, h1, h2⟩ := hd
            go_simp
            exact ParPost.same fun w2 h9 => ⟨u, rfl, h2.ext h9⟩
          · intro vals W hx hd
            have hW := HF.out W hx
            simp [PDeps, pdeps, Region.binds] at hd
            first
              | refine ParOb.plain rfl ?_
              | refine ParOb.wanted (by simp [Region.wanted, yielded, hd]) ?_
            obtain ⟨u, h1, h2⟩ := hd
            go_simp
            exact ParPost.same fun w2 h9 => h2.ext h9
          · intro vals W hx hd
            have hW := HF.out W hx
            simp [PDeps, pdeps, Region.binds] at hd
            first
              | refine ParOb.plain rfl ?_
              | refine ParOb.wanted (by simp [Region.wanted, yielded, hd]) ?_
            obtain ⟨u, h1, h2⟩ := hd
            go_simp
            exact ParPost.same fun w2 h9 => rfl
          · intro vals W hx hd
            have hW := HF.out W hx
            simp [PDeps, pdeps, Region.binds] at hd
            first
              | refine ParOb.plain rfl ?_
              | refine ParOb.wanted (by simp [Region.wanted, yielded, hd]) ?_
            go_simp
            exact ParPost.same fun w2 h9 => ElsR.ext9 hd.1 h9
          · intro vals W hx hd
            have hW := HF.out W hx
            simp [PDeps, pdeps, Region.binds] at hd
            first
              | refine ParOb.plain rfl ?_
              | refine ParOb.wanted (by simp [Region.wanted, yielded, hd]) ?_
            go_simp
            exact ParPost.same fun _ _ => rfl
        intro vals W hx hf
        simp (maxSteps := 20000000) only [ParFacts, List.take_succ_cons, List.take_zero, and_true, Nat.reduceAdd] at hf
        obtain ⟨f0, f1, f2, f3, f4, f5, f6, f7, f8, f9, f10, f11, f12⟩ := hf
        simp (maxSteps := 20000000) only [List.drop_succ_cons, List.drop_zero, List.take_succ_cons, List.take_zero, ParEnd, Act.put, List.setIfInBounds_toArray, List.set_cons_succ, List.set_cons_zero, Nat.reduceAdd, f0, f1, f2, f3, f4, f5, f6, f10, f12]
        clear f0 f1 f2 f3 f4 f5 f6 f10 f12
        generalize vals 7 = y7 at f7 ⊢
        generalize vals 8 = y8 at f8 ⊢
        generalize vals 9 = y9 at f9 ⊢
        generalize vals 11 = y11 at f11 ⊢
        have HX2 := Lib.hid (Ext.trans HXr.out hx)
        have hd9 : decide (n = 1) = true := by
          cases h : decide (n = 1)
          · rw [h] at ho
            cases ho
          · rfl
        have hn1 : n = 1 := by simpa using hd9
        subst hn1
        have hlk : lookE L c = some es := ho
        have HE9 := Lib.hid (show ElsR _ _ es from f11)
        clear hx HF KF ho hd9 f7 f8 f9 f11
        have he0 : es0 = es := HS0.out.trans (by rw [hlk]; rfl)
        clear hlk HS0
        subst he0
        go_wp2_with fail
        go_ret2
        exact ⟨⟨y11, rfl, HE9.out⟩, Ext.trans HX0.out HX2.out⟩
    · have h1I : ¬ (1 : Int) ≤ n := by omega
      have hlk := HZ.out (by omega)
      have he0 : es0 = implE c := HS0.out.trans (by rw [hlk]; rfl)
      clear HS0
      subst he0
      have HX9 := Lib.hid (Ext.trans HX0.out HXr.out)
      have hcell := HC.out wr HX9.out
      clear hlk
      go_wp2_with fail
      refine Calls.mono (HI.out wr) ?_
      rintro e w2 ⟨⟨v, rfl, hv⟩, hb2⟩
      have HX3 := Lib.hid (Ext.trans HX9.out hb2)
      have HV3 := Lib.hid hv
      clear hv hb2 hcell
      go_wp2_with fail
      go_ret2
      exact ⟨⟨v, rfl, HV3.out⟩, HX3.out⟩
end Go.Proofs.YtipokgedmfnlaaaGreatDoor
