/-
 The document's order of two rows, and its rows' places in order.
-/
import Derived.Test.YtipokgedmfnlaaaGreatDoorOrd
import Derived.Test.YtipokgedmfnlaaaGreatDoorColls
import Derived.Deep.CutRange
namespace Go.Proofs.YtipokgedmfnlaaaGreatDoor
open Go.RowKit Go.Lib
set_option maxRecDepth 100000

/-- The document's collations in a slice. -/
def CollsRAt (w : World) (v : Value) (n : Nat) (fs : Nat → List UInt8 → List UInt8 → Int) : Prop :=
 ∃ a c, v = .slice a n c ∧ n ≤ c ∧ (0 < n → ∃ g o, a = some ⟨g, o, none⟩ ∧ g < w.heap.size ∧
  ∀ j, j < n → ∃ K lv sh q qn qc, w.cell? ⟨g, o + j * 5, none⟩ = some (.int .i64 K) ∧ w.cell? ⟨g, o + j * 5 + 1, none⟩ = some (.int .i64 lv) ∧ w.cell? ⟨g, o + j * 5 + 2, none⟩ = some (.bool sh) ∧
   w.cell? ⟨g, o + j * 5 + 3, none⟩ = some (.bool false) ∧ w.cell? ⟨g, o + j * 5 + 4, none⟩ = some (.slice q qn qc) ∧ CollInR w #[.int .i64 K, .int .i64 lv, .bool sh, .bool false, .slice q qn qc] (fs j)) ∧ ∀ j, n ≤ j → fs j = collC 1 0 false false
theorem CollsRAt.ext {w w' : World} {v : Value} {n : Nat} {fs : Nat → List UInt8 → List UInt8 → Int} (h : CollsRAt w v n fs) (hx : Ext w w') : CollsRAt w' v n fs := by
 obtain ⟨a, c, h1, h2, h3, h4⟩ := h
 refine ⟨a, c, h1, h2, fun h0 => ?_, h4⟩
 obtain ⟨g, o, e1, e2, e3⟩ := h3 h0
 refine ⟨g, o, e1, Nat.lt_of_lt_of_le e2 hx.size, fun j hj => ?_⟩
 obtain ⟨K, lv, sh, q, qn, qc, f0, f1, f2, f3, f4, f5⟩ := e3 j hj
 exact ⟨K, lv, sh, q, qn, qc, (hx.cell e2).trans f0, (hx.cell e2).trans f1, (hx.cell e2).trans f2, (hx.cell e2).trans f3, (hx.cell e2).trans f4, f5.ext hx⟩
set_option maxHeartbeats 8000000 in
theorem refrows_any (v u cv dv : Value) (X Y : List V3) (n m : Nat) (fs : Nat → List UInt8 → List UInt8 → Int) (ds : Nat → Bool) (w : World)
  (hX : RowAt w v X) (hY : RowAt w u Y) (hC : CollsRAt w cv n fs) (hD : DescAt w dv m ds) (hch : ∀ i, Chain (fs i)) (hlx : X.length ≤ 1000) (hly : Y.length ≤ 1000) (hsx : ∀ x ∈ X, x.s.size ≤ 60) (hsy : ∀ y ∈ Y, y.s.size ≤ 60) :
  Calls Tryz.prog 50 #[v, u, cv, dv] w (OrdOut w (ordL fs ds 0 X Y)) := by
 obtain ⟨a2, c2, rfl, hc2, hx2⟩ := hX
 obtain ⟨a3, c3, rfl, hc3, hx3⟩ := hY
 obtain ⟨a5, c5, rfl, hc5, hx5, hb5⟩ := hC
 obtain ⟨a4, c4, rfl, hc4, hd4, hbeh⟩ := hD
 have HX2 := Lib.hid hx2
 have HX3 := Lib.hid hx3
 have HX5 := Lib.hid hx5
 have HB5 := Lib.hid hb5
 have HD4 := Lib.hid hd4
 have HBeh := Lib.hid hbeh
 have HCH := Lib.hid hch
 have HSX := Lib.hid hsx
 have HSY := Lib.hid hsy
 clear hx2 hx3 hx5 hb5 hd4 hbeh hch hsx hsy hc2 hc3 hc4 hc5
 go_enter Tryz.func50, Tryz.ntmps50
 go_wp2_with fail
 go_loopw [9, 10, 11] (fun i _ _ wr => ∃ k : Nat, k ≤ X.length ∧ k ≤ Y.length ∧ i = .int .i64 k ∧ ordL fs ds 0 X Y = ordL fs ds k (X.drop k) (Y.drop k) ∧ Ext w wr) (fun i _ _ _ => X.length - (intOf i).toNat)
 case atStart => exact ⟨0, Nat.zero_le _, Nat.zero_le _, rfl, rfl, Ext.refl _⟩
 case round =>
  obtain ⟨k, hk1, hk2, rfl, hord, hxr⟩ := hrel
  have HXr := Lib.hid hxr
  have HOrd := Lib.hid hord
  clear hxr hord
  by_cases hltx : k < X.length
  ·have hltI : (k : Int) < (X.length : Int) := by omega
   by_cases hlty : k < Y.length
   ·have hltJ : (k : Int) < (Y.length : Int) := by omega
    go_wp2_with fail
    refine Calls.mono (refbinary_any wr) ?_
    rintro e w1 ⟨rfl, hb1⟩
    have HX1 := Lib.hid (Ext.trans HXr.out hb1)
    clear hb1
    have hB1 := Blk.new w1 #[.int .i64 1, .int .i64 0, .bool false, .bool false, .slice none 0 0] 30 rfl
    have hx2 : Ext w1 (w1.alloc (.cells #[.int .i64 1, .int .i64 0, .bool false, .bool false, .slice none 0 0] 30)) := (Ext.refl w1).alloc _
    go_upto_if 28 with (fail)
    generalize (w1.alloc (.cells #[.int .i64 1, .int .i64 0, .bool false, .bool false, .slice none 0 0] 30)) = W1 at hB1 hx2 ⊢
    obtain ⟨bt, hbt⟩ : ∃ bt, bt = w1.heap.size := ⟨_, rfl⟩
    rw [← hbt] at hB1 ⊢
    have HBt := Lib.hid hbt
    have HB1 := Lib.hid hB1
    have HX2' := Lib.hid hx2
    clear hbt hB1 hx2
    go_cut [10] from 12 to 57 (fun t wx => t = .pointer (some ⟨bt, 0, none⟩) ∧ (∃ K lv sh q qn qc, Blk wx bt #[.int .i64 K, .int .i64 lv, .bool sh, .bool false, .slice q qn qc] 30 ∧ CollInR wx #[.int .i64 K, .int .i64 lv, .bool sh, .bool false, .slice q qn qc] (fs k)) ∧ Ext w1 wx)
    case first =>
     by_cases hkn : k < n
     ·have hknI : (k : Int) < (n : Int) := by omega
      obtain ⟨g, o, rfl, hg, hall⟩ := HX5.out (by omega)
      obtain ⟨K, lv, sh, q, qn, qc, f0, f1, f2, f3, f4, f5⟩ := hall k hkn
      have e := Ext.trans HX1.out HX2'.out
      have k0 := (e.cell (p := ⟨g, o + k * 5, none⟩) hg).trans f0
      have k1 := (e.cell (p := ⟨g, o + k * 5 + 1, none⟩) hg).trans f1
      have k2 := (e.cell (p := ⟨g, o + k * 5 + 2, none⟩) hg).trans f2
      have k3 := (e.cell (p := ⟨g, o + k * 5 + 3, none⟩) hg).trans f3
      have k4 := (e.cell (p := ⟨g, o + k * 5 + 4, none⟩) hg).trans f4
      have hne : g ≠ bt := by
       have := HX1.out.size
       rw [HBt.out]; omega
      have HIn := Lib.hid f5
      obtain ⟨ca, fa⟩ := HB1.out.facts
      clear hall f0 f1 f2 f3 f4 f5 e
      go_wp2_with fail
      go_meet
      case rel =>
       have hX : Ext w1 (((((W1.setCell ⟨bt, 0, none⟩ (.int .i64 K)).setCell ⟨bt, 1, none⟩ (.int .i64 lv)).setCell ⟨bt, 2, none⟩ (.bool sh)).setCell ⟨bt, 3, none⟩ (.bool false)).setCell ⟨bt, 4, none⟩ (.slice q qn qc)) := (((((show Below w1.heap.size w1 W1 from HX2'.out).setCell (by rw [HBt.out]; exact Nat.le_refl _) _).setCell (by rw [HBt.out]; exact Nat.le_refl _) _).setCell (by rw [HBt.out]; exact Nat.le_refl _) _).setCell (by rw [HBt.out]; exact Nat.le_refl _) _).setCell (by rw [HBt.out]; exact Nat.le_refl _) _
       refine ⟨rfl, ⟨K, lv, sh, q, qn, qc, ?_, HIn.out.ext (Ext.trans HX1.out hX)⟩, hX⟩
       exact ((((HB1.out.set 0 (.int .i64 K)).set 1 (.int .i64 lv)).set 2 (.bool sh)).set 3 (.bool false)).set 4 (.slice q qn qc)
     ·have hknI : ¬ (k : Int) < (n : Int) := by omega
      have hf := HB5.out k (by omega)
      go_wp2_with fail
      go_meet
      case rel =>
       refine ⟨rfl, ⟨1, 0, false, none, 0, 0, HB1.out, ?_⟩, HX2'.out⟩
       rw [hf]
       intro a b ha hb2 W hW
       exact cmpR_bin 1 0 false false none 0 0 a b W (by decide) (by decide)
    case rest =>
     obtain ⟨rfl, ⟨K, lv, sh, q, qn, qc, hB, hIn⟩, hx3⟩ := hcut
     obtain ⟨g2, o2, rfl, hg2, hcx⟩ := HX2.out (by omega)
     obtain ⟨g3, o3, rfl, hg3, hcy⟩ := HX3.out (by omega)
     obtain ⟨x0, x1, x2⟩ := hcx k X[k] (List.getElem?_eq_getElem hltx)
     obtain ⟨y0, y1, y2⟩ := hcy k Y[k] (List.getElem?_eq_getElem hlty)
     have hxs := HSX.out X[k] (List.getElem_mem hltx)
     have hys := HSY.out Y[k] (List.getElem_mem hlty)
     have hord := HOrd.out
     rw [ordL_drop fs ds k X Y hltx hlty] at hord
     generalize X[k] = x at x0 x1 x2 hxs hord
     generalize Y[k] = y at y0 y1 y2 hys hord
     have HOrd2 := Lib.hid hord
     have HXc := Lib.hid (Ext.trans HX1.out hx3)
     have HF := Lib.hid (show ∀ W, Ext wc W → W.cell? ⟨g2, o2 + k * 3, none⟩ = some (.int .i64 x.k) ∧ W.cell? ⟨g2, o2 + k * 3 + 1, none⟩ = some (.int .i64 x.n) ∧ W.cell? ⟨g2, o2 + k * 3 + 2, none⟩ = some (.string x.s) ∧
       W.cell? ⟨g3, o3 + k * 3, none⟩ = some (.int .i64 y.k) ∧ W.cell? ⟨g3, o3 + k * 3 + 1, none⟩ = some (.int .i64 y.n) ∧ W.cell? ⟨g3, o3 + k * 3 + 2, none⟩ = some (.string y.s) ∧
       W.cell? ⟨bt, 0, none⟩ = some (.int .i64 K) ∧ W.cell? ⟨bt, 1, none⟩ = some (.int .i64 lv) ∧ W.cell? ⟨bt, 2, none⟩ = some (.bool sh) ∧ W.cell? ⟨bt, 3, none⟩ = some (.bool false) ∧ W.cell? ⟨bt, 4, none⟩ = some (.slice q qn qc) from
      fun W hW => by
       have e := Ext.trans HXc.out hW
       have hb := hB.keep hW
       exact ⟨(e.cell hg2).trans x0, (e.cell hg2).trans x1, (e.cell hg2).trans x2, (e.cell hg3).trans y0, (e.cell hg3).trans y1, (e.cell hg3).trans y2, hb.cell 0, hb.cell 1, hb.cell 2, hb.cell 3, hb.cell 4⟩)
     have KO := Lib.hid (show ∀ W, Ext wc W → Calls Tryz.prog 15 #[.agg #[.int .i64 x.k, .int .i64 x.n, .string x.s], .agg #[.int .i64 y.k, .int .i64 y.n, .string y.s], .agg #[.int .i64 K, .int .i64 lv, .bool sh, .bool false, .slice q qn qc]] W fun e w' => e = .returned (.int .i64 (leK x.k x.n x.s y.k y.n y.s (fs k))) ∧ Below W.heap.size W w' from
      fun W hW => orderR_in x.k x.n x.s y.k y.n y.s K lv sh q qn qc (fs k) W (hIn.ext hW) (by omega) (by omega))
     clear hcx hcy x0 x1 x2 y0 y1 y2 hord hB hIn hx3 hxs hys
     go_wp2_with fail
     refine wp_par 11 (fun
       | 0 => fun v _ => v = .slice (some ⟨g2, o2, none⟩) X.length c2
       | 1 => fun v _ => v = .int .i64 (k : Int)
       | 2 => fun v _ => v = .pointer (some ⟨g2, o2 + k * 3, none⟩)
       | 3 => fun v _ => v = .agg #[.int .i64 x.k, .int .i64 x.n, .string x.s]
       | 4 => fun v _ => v = .slice (some ⟨g3, o3, none⟩) Y.length c3
       | 5 => fun v _ => v = .int .i64 (k : Int)
       | 6 => fun v _ => v = .pointer (some ⟨g3, o3 + k * 3, none⟩)
       | 7 => fun v _ => v = .agg #[.int .i64 y.k, .int .i64 y.n, .string y.s]
       | 8 => fun v _ => v = .agg #[.int .i64 K, .int .i64 lv, .bool sh, .bool false, .slice q qn qc]
       | 9 => fun v _ => v = .int .i64 (leK x.k x.n x.s y.k y.n y.s (fs k))
       | 10 => fun v _ => v = .int .i64 (leK x.k x.n x.s y.k y.n y.s (fs k))
       | _ => fun _ _ => True) (by kernel_rfl) (by kernel_rfl) (by kernel_rfl) ?_ ?_
     ·simp (maxSteps := 20000000) only [List.take_succ_cons, List.take_zero, ParAll, Act.put, List.setIfInBounds_toArray, List.set_cons_succ, List.set_cons_zero]
      refine ⟨?_, ?_, ?_, ?_, ?_, ?_, ?_, ?_, ?_, ?_, ?_, trivial⟩
      iterate 9
       next =>
        intro vals W hx hd
        have hW := HF.out W hx
        simp [PDeps, pdeps, Region.binds] at hd
        first
         | refine ParOb.plain rfl ?_
         | refine ParOb.wanted (by simp [Region.wanted, yielded, hd]) ?_
        go_simp
        exact ParPost.same fun _ _ => rfl
      ·intro vals W hx hd
       have hW := HF.out W hx
       simp [PDeps, pdeps, Region.binds] at hd
       first
        | refine ParOb.plain rfl ?_
        | refine ParOb.wanted (by simp [Region.wanted, yielded, hd]) ?_
       go_simp
       refine Calls.mono (KO.out W hx) ?_
       rintro e w9 ⟨rfl, hb9⟩
       exact ⟨_, rfl, hb9, fun _ _ => rfl⟩
      ·intro vals W hx hd
       have hW := HF.out W hx
       simp [PDeps, pdeps, Region.binds] at hd
       first
        | refine ParOb.plain rfl ?_
        | refine ParOb.wanted (by simp [Region.wanted, yielded, hd]) ?_
       go_simp
       exact ParPost.same fun _ _ => rfl
     intro vals W hx hf
     simp (maxSteps := 20000000) only [ParFacts, List.take_succ_cons, List.take_zero, and_true] at hf
     simp (maxSteps := 20000000) only [List.drop_succ_cons, List.drop_zero, List.take_succ_cons, List.take_zero, ParEnd, Act.put, List.setIfInBounds_toArray, List.set_cons_succ, List.set_cons_zero, hf]
     clear hf
     have HX5' := Lib.hid (Ext.trans HXc.out hx)
     clear hx HF KO
     obtain ⟨v1, v2⟩ := leK_vals (HCH.out k) x.k x.n x.s y.k y.n y.s
     have hst := HOrd2.out
     generalize leK x.k x.n x.s y.k y.n y.s (fs k) = r at hst v1 v2 ⊢
     have hneg : wrap64 (-r) = -r := IntWalk.wrap64_in _ (by omega)
     clear v1 v2 HOrd HOrd2
     cases hz : (r != 0)
     ·have hr0 : r = 0 := by
       have h : r = 0 := by simpa using hz
       omega
      subst hr0
      have HN := Lib.hid (show ordL fs ds 0 X Y = ordL fs ds (k + 1) (X.drop (k + 1)) (Y.drop (k + 1)) from by
       rw [hst]
       cases ds k <;> simp)
      clear hst hz hneg
      go_wp2_with fail
      go_roundw
      case rel => exact ⟨k + 1, by omega, by omega, by go_num, HN.out, HX5'.out⟩
      case measure => simp [intOf]; omega
     ·have hr0 : r ≠ 0 := by
       have h : r ≠ 0 := by simpa using hz
       omega
      by_cases hkm : k < m
      ·have hkmI : (k : Int) < (m : Int) := by omega
       obtain ⟨g4, o4, rfl, hg4, hcd⟩ := HD4.out (by omega)
       have hdk := (HX5'.out.cell (p := ⟨g4, o4 + k, none⟩) hg4).trans (hcd k hkm)
       clear hcd
       cases hds : ds k
       ·rw [hds] at hdk hst
        simp only [Bool.false_eq_true, if_false] at hst
        rw [if_pos (by simpa using hr0)] at hst
        have HN := Lib.hid hst
        clear hst
        go_wp2_with fail
        go_ret
        exact ⟨by rw [HN.out]; rfl, HX5'.out⟩
       ·rw [hds] at hdk hst
        simp only [if_true] at hst
        rw [if_pos (by simpa using hr0)] at hst
        have HN := Lib.hid hst
        clear hst
        go_wp2_with fail
        go_ret
        exact ⟨by rw [HN.out]; exact congrArg (fun z => Ending.returned (.int .i64 z)) hneg, HX5'.out⟩
      ·have hkmI : ¬ (k : Int) < (m : Int) := by omega
       have hds := HBeh.out k (by omega)
       rw [hds] at hst
       simp only [Bool.false_eq_true, if_false] at hst
       rw [if_pos (by simpa using hr0)] at hst
       have HN := Lib.hid hst
       clear hst
       go_wp2_with fail
       go_ret
       exact ⟨by rw [HN.out]; rfl, HX5'.out⟩
   ·have hltJ : ¬ (k : Int) < (Y.length : Int) := by omega
    have HE := Lib.hid (HOrd.out.trans (ordL_end fs ds k X Y (by omega)))
    go_wp2_with fail
    go_ret
    exact ⟨by rw [HE.out]; rfl, HXr.out⟩
  ·have hltI : ¬ (k : Int) < (X.length : Int) := by omega
   have HE := Lib.hid (HOrd.out.trans (ordL_end fs ds k X Y (by omega)))
   go_wp2_with fail
   go_ret
   exact ⟨by rw [HE.out]; rfl, HXr.out⟩
theorem collsAt_own {w : World} {B : Nat} {v : Value} {L : List C5} (ho : w.ownsRow B 25 5 v L.length (flatC L)) (hat : ∀ x ∈ L, x.At w) (hG : ∀ W, Ext w W → Glob W) : CollsAt w v L.length (fsL L) := by
 obtain ⟨ao, cap, hv, hcap⟩ := ownsRow_slice ho
 refine ⟨ao, cap, hv, hcap, fun h0 => ?_, fun j hj => by unfold fsL; rw [List.getElem?_eq_none hj]⟩
 obtain ⟨_, ho⟩ := ho
 rcases ho with ⟨_, h1⟩ | ⟨g, cap', cur, hv', _, hb, hn, _, hs, ht⟩
 ·omega
 ·rw [hv] at hv'
  simp only [Value.slice.injEq] at hv'
  obtain ⟨rfl, _, _⟩ := hv'
  refine ⟨g, 0, rfl, lt_of_block hb, fun j hj => ?_⟩
  have hx := List.getElem?_eq_getElem hj
  have hc : ∀ k, k < 5 → w.cell? ⟨g, 0 + j * 5 + k, none⟩ = L[j].c[k]? := fun k hk => by
   rw [cell_of_row w g _ cur _ (0, 0) hb, ← flatC_get L j L[j] hx k hk, ← ht, List.getElem?_take, if_pos (by omega), Array.getElem?_toList, Nat.zero_add]
  have hA := hat L[j] (List.getElem_mem hj)
  refine ⟨L[j].K, L[j].lv, L[j].sh, L[j].p, by simpa [C5.c] using hc 0 (by omega), by simpa [C5.c] using hc 1 (by omega), by simpa [C5.c] using hc 2 (by omega), by simpa [C5.c] using hc 3 (by omega), by simpa [C5.c] using hc 4 (by omega), ?_⟩
  have : fsL L j = L[j].f := by unfold fsL; rw [hx]
  rw [this]
  exact hA.inC hG
theorem flatCR_length (L : List C5) : (flatCR L).length = L.length * 5 := by
 induction L with
 | nil => rfl
 | cons x L ih => simp [flatCR, C5.r] at *; omega
theorem flatCR_get : ∀ (L : List C5) (j : Nat) (x : C5), L[j]? = some x → ∀ k, k < 5 → (flatCR L)[j * 5 + k]? = x.r[k]?
 | y :: L, 0, x, h, k, hk => by
  obtain rfl : y = x := by simpa using h
  rw [Nat.zero_mul, Nat.zero_add]
  simp only [flatCR, List.flatMap_cons]
  rw [List.getElem?_append_left (by simp [C5.r]; omega)]
 | y :: L, j + 1, x, h, k, hk => by
  have ih := flatCR_get L j x (by simpa using h) k hk
  simp only [flatCR, List.flatMap_cons] at ih ⊢
  rw [List.getElem?_append_right (by simp [C5.r]; omega), ← ih]
  congr 1
  simp [C5.r]; omega
theorem collsRAt_own {w : World} {B : Nat} {v : Value} {L : List C5} (ho : w.ownsRow B 30 5 v L.length (flatCR L)) (hat : ∀ x ∈ L, x.At w) : CollsRAt w v L.length (fsL L) := by
 obtain ⟨ao, cap, hv, hcap⟩ := ownsRow_slice ho
 refine ⟨ao, cap, hv, hcap, fun h0 => ?_, fun j hj => by unfold fsL; rw [List.getElem?_eq_none hj]⟩
 obtain ⟨_, ho⟩ := ho
 rcases ho with ⟨_, h1⟩ | ⟨g, cap', cur, hv', _, hb, hn, _, hs, ht⟩
 ·omega
 ·rw [hv] at hv'
  simp only [Value.slice.injEq] at hv'
  obtain ⟨rfl, _, _⟩ := hv'
  refine ⟨g, 0, rfl, lt_of_block hb, fun j hj => ?_⟩
  have hx := List.getElem?_eq_getElem hj
  have hc : ∀ k, k < 5 → w.cell? ⟨g, 0 + j * 5 + k, none⟩ = L[j].r[k]? := fun k hk => by
   rw [cell_of_row w g _ cur _ (0, 0) hb, ← flatCR_get L j L[j] hx k hk, ← ht, List.getElem?_take, if_pos (by omega), Array.getElem?_toList, Nat.zero_add]
  have hA := hat L[j] (List.getElem_mem hj)
  refine ⟨L[j].K, L[j].lv, L[j].sh, L[j].q, L[j].qn, L[j].qc, by simpa [C5.r] using hc 0 (by omega), by simpa [C5.r] using hc 1 (by omega), by simpa [C5.r] using hc 2 (by omega), by simpa [C5.r] using hc 3 (by omega), by simpa [C5.r] using hc 4 (by omega), ?_⟩
  have : fsL L j = L[j].f := by unfold fsL; rw [hx]
  rw [this]
  exact hA.inR
set_option maxHeartbeats 4000000 in
theorem sameints_any (v u : Value) (xs : List Nat) (w : World) (hv : ReadsL w v (intsV xs)) (hu : ReadsL w u (intsV xs)) (hn : xs.length ≤ 1000000) :
  Calls Tryz.prog 18 #[v, u] w fun e w' => e = .returned (.bool true) ∧ Below w.heap.size w w' := by
 have mixed : Tryz.prog.follows .mixedOrders = true := by kernel_rfl
 obtain ⟨ao, cap, rfl, hcap, h1⟩ := intsAt hv
 obtain ⟨bo, cap2, rfl, hcap2, h2⟩ := intsAt hu
 have H1 := Lib.hid (show ∀ W, Ext w W → ∀ k, k < xs.length → ∃ g, ao = some ⟨g, 0, none⟩ ∧ W.cell? ⟨g, k, none⟩ = some (.int .i64 (xs.getD k 0 : Int)) from fun W hW k hk => by
  obtain ⟨g, e1, e2⟩ := h1 W hW k hk
  exact ⟨g, e1, by simpa [List.getD_eq_getElem?_getD, hk] using e2⟩)
 have H2 := Lib.hid (show ∀ W, Ext w W → ∀ k, k < xs.length → ∃ g, bo = some ⟨g, 0, none⟩ ∧ W.cell? ⟨g, k, none⟩ = some (.int .i64 (xs.getD k 0 : Int)) from fun W hW k hk => by
  obtain ⟨g, e1, e2⟩ := h2 W hW k hk
  exact ⟨g, e1, by simpa [List.getD_eq_getElem?_getD, hk] using e2⟩)
 clear hv hu h1 h2
 generalize xs.length = n at H1 H2 hcap hcap2 hn ⊢
 go_enter Tryz.func18, Tryz.ntmps18
 go_wp2_with fail
 go_loopw [5] (fun i wr => ∃ k : Nat, k ≤ n ∧ i = .int .i64 k ∧ Ext w wr) (fun i _ => n - (intOf i).toNat)
 case atStart => exact ⟨0, Nat.zero_le _, rfl, Ext.refl _⟩
 case round =>
  obtain ⟨k, hk, rfl, hx⟩ := hrel
  have HX := Lib.hid hx
  clear hx
  by_cases hlt : k < n
  ·have hltI : (k : Int) < (n : Int) := by omega
   obtain ⟨g, rfl, c1⟩ := H1.out wr HX.out k hlt
   obtain ⟨g2, rfl, c2⟩ := H2.out wr HX.out k hlt
   generalize xs.getD k 0 = X at c1 c2
   go_wp2_with fail
   go_big_region_o
   go_wp2_with fail
   go_roundw
   case rel => exact ⟨k + 1, by omega, by go_num, ⟨HX.out.os, HX.out.tape, HX.out.output, HX.out.size, HX.out.block⟩⟩
   case measure => simp [intOf]; omega
  ·obtain rfl : k = n := by omega
   have hltI : ¬ (k : Int) < (k : Int) := by omega
   go_wp2_with fail
   go_ret
   exact ⟨rfl, HX.out⟩
section
open Go.ChangeAt Go.ChangeShapes
variable {H : Type} {enc : TypeId × Value → H} {w : World} {base : Nat} {spare : Nat → Bool} {held : Bool}
theorem open_intsAt {r : Reach} {b0 : Nat} {v : Value} {d : DataW H} {ps : List MemPlace} (hval : Value.okWide Tryz.prog w r b0 40 v) (hd : DataW.Trod enc Tryz.prog w base spare held 40 v d ps) :
  ∃ n xs, IntsAt w v n xs := by
 obtain ⟨a, len, cap, rfl⟩ := WideShapes.okWide_slice Tryz.underlying40 hval
 obtain ⟨fuel, hf⟩ := hd
 rcases open_ints Tryz.underlying40 Tryz.underlying3 (by kernel_rfl) hf with ⟨h, _⟩ | ⟨a', len', cap', zs, h, _, hl, _, hz, _, hc, _⟩
 ·simp [Value.cells] at h
  obtain ⟨rfl, rfl, rfl⟩ := h
  exact ⟨0, fun _ => 0, none, 0, rfl, Nat.le_refl _, fun h => absurd h (Nat.lt_irrefl _)⟩
 ·simp [Value.cells] at h
  obtain ⟨rfl, rfl, rfl⟩ := h
  have hzl : len ≤ zs.length := by
   rw [hz]; split <;> omega
  refine ⟨len, fun j => zs.getD j 0, some a', cap, rfl, hl, fun h0 => ?_⟩
  obtain ⟨g, o, sp⟩ := a'
  obtain rfl : sp = none := spot_none (hc 0 (by omega))
  refine ⟨g, o, rfl, World.block_lt_of_cell? w _ (hc 0 (by omega)), fun j hj => ?_⟩
  have := hc j (by omega)
  rw [add_none] at this
  exact this
theorem open_bools {r : Reach} {b0 : Nat} {v : Value} {d : DataW H} {ps : List MemPlace} (hval : Value.okWide Tryz.prog w r b0 88 v) (hd : DataW.Trod enc Tryz.prog w base spare held 88 v d ps) :
  ∃ n ds, DescAt w v n ds := by
 have k1 : Tryz.prog.cellsOf 4 = 1 := by kernel_rfl
 obtain ⟨a, len, cap, rfl⟩ := WideShapes.okWide_slice Tryz.underlying88 hval
 obtain ⟨fuel, hf⟩ := hd
 rcases DataW.trod_slice Tryz.underlying88 hf with ⟨h, _⟩ | ⟨a', len', cap', el, rs, m, _, h, _, hb, hlc, hcm, hlen, hel, _, _⟩
 ·simp [Value.cells] at h
  obtain ⟨rfl, rfl, rfl⟩ := h
  exact ⟨0, fun _ => false, none, 0, rfl, Nat.le_refl _, fun h => absurd h (Nat.lt_irrefl _), fun _ _ => rfl⟩
 ·simp [Value.cells] at h
  obtain ⟨rfl, rfl, rfl⟩ := h
  have each : ∀ i, ∃ b : Bool, (len ≤ i → b = false) ∧ (i < len → w.cell? (a'.add i) = some (.bool b)) := by
   intro i
   by_cases hi : i < len
   ·have h1 := hel i hi
    rw [k1, Nat.mul_one, List.getElem?_eq_getElem (by omega)] at h1
    obtain ⟨ce, hce, hte⟩ := Option.bind_eq_some_iff.1 h1
    obtain ⟨b, rfl, _⟩ := DataW.trod_bool Tryz.underlying4 hte
    exact ⟨b, fun h => by omega, fun _ => cell_of_cells?_one hce⟩
   ·exact ⟨false, fun _ => rfl, fun h => absurd h hi⟩
  obtain ⟨f, hf2⟩ := Classical.axiomOfChoice each
  refine ⟨len, f, some a', cap, rfl, hlc, fun h0 => ?_, fun j hj => (hf2 j).1 hj⟩
  obtain ⟨g, o, sp⟩ := a'
  have h00 := (hf2 0).2 h0
  obtain rfl : sp = none := spot_none h00
  refine ⟨g, o, rfl, World.block_lt_of_cell? w _ h00, fun j hj => ?_⟩
  have := (hf2 j).2 hj
  rw [add_none] at this
  exact this
end
end Go.Proofs.YtipokgedmfnlaaaGreatDoor
