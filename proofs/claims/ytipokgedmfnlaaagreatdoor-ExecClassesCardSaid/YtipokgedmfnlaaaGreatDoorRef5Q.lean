/-
  A great letter with a mark and the small one are put (umlautref5.marked).
-/
import Derived.Test.YtipokgedmfnlaaaGreatDoorRef5C
import Derived.Test.YtipokgedmfnlaaaGreatDoorRef5S
import Derived.Test.YtipokgedmfnlaaaGreatDoorParH
namespace Go.Proofs.YtipokgedmfnlaaaGreatDoor
open Go.RowKit Go.Lib
set_option maxRecDepth 100000

/-- A cell that holds a slice may be written anew: no list of entries reads it. -/
theorem EntsR.set {w : World} {v s x : Value} {q : Nat} {t : TypeId} {L : List (Nat × List El)} (h : EntsR w v L) (hq : Blk w q #[s] t) (hs : ∃ p n c, s = .slice p n c) : EntsR (w.setCell ⟨q, 0, none⟩ x) v L := by
  obtain ⟨ps, ns, cs, rfl⟩ := hs
  obtain ⟨vs, h1, h2, h3⟩ := h
  have hne : ∀ g o, g ≠ q → (w.setCell ⟨q, 0, none⟩ x).cell? ⟨g, o, none⟩ = w.cell? ⟨g, o, none⟩ := fun g o hg => World.cell?_setCell_far w _ _ _ (fun e => hg e.symm)
  have h00 : w.cell? ⟨q, 0, none⟩ = some (.slice ps ns cs) := hq.cell 0
  have h01 : w.cell? ⟨q, 1, none⟩ = none := hq.cell 1
  refine ⟨vs, ?_, h2, fun j p y hp hy => ?_⟩
  · rcases h1 with h1 | ⟨g, c, e1, e2, e3, e4⟩
    · exact .inl h1
    · refine .inr ⟨g, c, e1, e2, by simpa using e3, fun j u hj => ?_⟩
      by_cases hg : g = q
      · subst hg
        have hl : 2 ≤ (flatE vs).length := by
          have : j < (flatE vs).length := (List.getElem?_eq_some_iff.1 hj).1
          rw [flatE_length] at this ⊢
          omega
        have := e4 1 _ (List.getElem?_eq_getElem (by omega))
        rw [h01] at this
        cases this
      · rw [hne _ _ hg]; exact e4 j u hj
  · obtain ⟨⟨g, k, e1, e2, e3⟩, h5⟩ := h3 j p y hp hy
    refine ⟨⟨g, k, e1, e2, ?_⟩, ?_⟩
    · by_cases hg : g = q
      · subst hg
        rw [h00] at e3
        cases e3
      · rw [hne _ _ hg]; exact e3
    · rcases h5 with h5 | ⟨g2, c2, f1, f2, f3, f4⟩
      · exact .inl h5
      · refine .inr ⟨g2, c2, f1, f2, by simpa using f3, fun j2 u hj2 => ?_⟩
        by_cases hg : g2 = q
        · subst hg
          have hl : j2 < (flatR y.2).length := (List.getElem?_eq_some_iff.1 hj2).1
          cases hy2 : y.2 with
          | nil => rw [hy2] at hl; simp [flatR] at hl
          | cons e0 es0 =>
            have h6 := f4 0 (.int .i64 (e0.p : Int)) (by rw [hy2]; simp [flatR, cellsR])
            rw [h00] at h6
            cases h6
        · rw [hne _ _ hg]; exact f4 j2 u hj2

/-- New slices: of one sign, of elements. -/
theorem seq_new {w : World} {c : Nat} {t : TypeId} : SeqAt (w.alloc (.cells #[.int .i64 (c : Int)] t)) (.slice (some ⟨w.heap.size, 0, none⟩) 1 1) c :=
  ⟨_, 1, rfl, Nat.le_refl _, (Blk.new w #[.int .i64 (c : Int)] t rfl).cell 0⟩
theorem seq_newAt {w : World} {c : Nat} {t : TypeId} {n : Nat} (h : n = w.heap.size) : SeqAt (w.alloc (.cells #[.int .i64 (c : Int)] t)) (.slice (some ⟨n, 0, none⟩) 1 1) c := by
  subst h
  exact seq_new
theorem els_new {w : World} (es : List El) {t : TypeId} : ElsR (w.alloc (.cells (flatR es).toArray t)) (.slice (some ⟨w.heap.size, 0, none⟩) es.length es.length) es :=
  .inr ⟨_, es.length, rfl, Nat.le_refl _, by simp, fun j u hu => by
    have := (Blk.new w (flatR es).toArray t rfl).cell j
    rw [this]
    simpa using hu⟩
theorem els_newAt {w : World} (es : List El) {t : TypeId} {n : Nat} (h : n = w.heap.size) : ElsR (w.alloc (.cells (flatR es).toArray t)) (.slice (some ⟨n, 0, none⟩) es.length es.length) es := by
  subst h
  exact els_new es
def SeqV (c : Nat) (v : Value) (w : World) : Prop := SeqAt w v c
def ElsV (es : List El) (v : Value) (w : World) : Prop := ElsR w v es
def TabV (L : List (Nat × List El)) (v : Value) (w : World) : Prop := ∃ s, v = .agg #[s] ∧ EntsR w s L
/-- What a call of 'put' leaves, as a drawn region wants it. -/
theorem tab_put {w w' : World} {L : List (Nat × List El)} {e : Ending} (h : PutR w L e w') : ∃ v, e = .returned v ∧ ParPost (TabV L) w v w' := by
  obtain ⟨⟨v, rfl, hv⟩, hb⟩ := h
  exact ⟨_, rfl, hb, fun w2 h2 => ⟨v, rfl, hv.ext h2⟩⟩
theorem EntsR.slice {w : World} {v : Value} {L : List (Nat × List El)} (h : EntsR w v L) : ∃ p n c, v = .slice p n c := by
  obtain ⟨vs, h1, _⟩ := h
  rcases h1 with ⟨rfl, _⟩ | ⟨g, c, rfl, _⟩
  · exact ⟨_, _, _, rfl⟩
  · exact ⟨_, _, _, rfl⟩
namespace Y
set_option maxHeartbeats 16000000 in
theorem markedR_any (tv : Value) (L : List (Nat × List El)) (c b m s : Nat) (hc : c < 1000) (hb : b < 26) (hm : (m, s) ∈ [(768, 37), (769, 36), (770, 39), (771, 45), (772, 47), (776, 43), (778, 41), (807, 48)]) (w : World) (hL : EntsR w tv L) (hn : L.length ≤ 990) :
    Calls Tryz.prog 83 #[.agg #[tv], .int .i64 (c : Int), .int .i64 (65 + (b : Int)), .int .i64 (m : Int)] w (PutR w (insE (c + 32) [low b 2, mk s] (insE c [low b 8, mk s] L))) := by
  have hcI : (c : Int) < 1000 := by omega
  have hbI : (b : Int) < 26 := by omega
  have HS := Lib.hid hL.slice
  have HLL := Lib.hid hL
  have KG := Lib.hid (letterR_great b hb)
  have KS := Lib.hid (letterR_small b hb)
  have KM := Lib.hid (fun W => markR_any m s W hm)
  generalize low b 8 = E1 at KG ⊢
  generalize low b 2 = E2 at KS ⊢
  generalize mk s = E3 at KM ⊢
  unfold elV at KG KS KM
  clear hL hm
  go_enter Tryz.func83, Tryz.ntmps83
  go_wp2_with fail
  have hQ : Blk ((w.alloc (.cells #[tv] 28)).alloc (.cells #[.slice none 0 0] 28)) w.heap.size #[tv] 28 := (Blk.new w _ _ rfl).alloc _
  have hR : Blk ((w.alloc (.cells #[tv] 28)).alloc (.cells #[.slice none 0 0] 28)) (w.heap.size + 1) #[.slice none 0 0] 28 := Blk.new _ _ _ (by simp)
  have hx0 : Ext w ((w.alloc (.cells #[tv] 28)).alloc (.cells #[.slice none 0 0] 28)) := ((Ext.refl w).alloc _).alloc _
  generalize ((w.alloc (.cells #[tv] 28)).alloc (.cells #[.slice none 0 0] 28)) = W0 at hQ hR hx0 ⊢
  have HF := Lib.hid (show ∀ W, Ext W0 W → W.cell? ⟨w.heap.size, 0, none⟩ = some tv ∧ W.cell? ⟨w.heap.size, 1, none⟩ = none from fun W hW => ⟨by have := (hQ.keep hW).cell 0; simpa using this, by have := (hQ.keep hW).cell 1; simpa using this⟩)
  have HQ := Lib.hid hQ
  have HR := Lib.hid hR
  have HX0 := Lib.hid hx0
  clear hQ hR hx0
  refine wp_parZH [0, 1, 2, 3, 4, 5, 6, 7, 8, 9] 9 9 (fun
      | 0 => fun v _ => v = .agg #[tv]
      | 1 => fun v _ => v = .int .i64 (c : Int)
      | 2 => SeqV c
      | 3 => fun v _ => v = .int .i64 (65 + (b : Int))
      | 4 => fun v _ => v = .agg #[.int .i64 (E1.p : Int), .int .i64 (E1.s : Int), .int .i64 (E1.t : Int), .bool E1.v]
      | 5 => fun v _ => v = .int .i64 (m : Int)
      | 6 => fun v _ => v = .agg #[.int .i64 (E3.p : Int), .int .i64 (E3.s : Int), .int .i64 (E3.t : Int), .bool E3.v]
      | 7 => ElsV [E1, E3]
      | 8 => TabV (insE c [E1, E3] L)
      | _ => fun _ _ => True) (fun
      | _ => undef) (by kernel_rfl) (by kernel_rfl) (by kernel_rfl) ?_ ?_ ?_
  · simp (maxSteps := 20000000) only [permL, permOp, List.filterMap_cons, List.filterMap_nil, List.getElem?_cons_succ, List.getElem?_cons_zero, Option.map_some, Option.map_none, List.take_succ_cons, List.take_zero, ParAll, Act.put, List.setIfInBounds_toArray, List.set_cons_succ, List.set_cons_zero]
    refine ⟨?_, ?_, ?_, ?_, ?_, ?_, ?_, ?_, ?_, trivial⟩
    · intro vals W hx hd
      have hW := HF.out W hx
      simp [PDeps, pdeps, Region.binds, List.idxOf_cons] at hd
      first
        | refine ParOb.plain rfl ?_
        | refine ParOb.wanted (by simp [Region.wanted, yielded, hd]) ?_
      go_simp
      exact ParPost.same fun _ _ => rfl
    · intro vals W hx hd
      have hW := HF.out W hx
      simp [PDeps, pdeps, Region.binds, List.idxOf_cons] at hd
      first
        | refine ParOb.plain rfl ?_
        | refine ParOb.wanted (by simp [Region.wanted, yielded, hd]) ?_
      go_simp
      exact ParPost.same fun _ _ => rfl
    · intro vals W hx hd
      have hW := HF.out W hx
      simp [PDeps, pdeps, Region.binds, List.idxOf_cons] at hd
      first
        | refine ParOb.plain rfl ?_
        | refine ParOb.wanted (by simp [Region.wanted, yielded, hd]) ?_
      go_simp
      exact ⟨(Ext.refl _).alloc _, fun w2 h2 => seq_new.ext h2⟩
    · intro vals W hx hd
      have hW := HF.out W hx
      simp [PDeps, pdeps, Region.binds, List.idxOf_cons] at hd
      first
        | refine ParOb.plain rfl ?_
        | refine ParOb.wanted (by simp [Region.wanted, yielded, hd]) ?_
      go_simp
      exact ParPost.same fun _ _ => rfl
    · intro vals W hx hd
      have hW := HF.out W hx
      simp [PDeps, pdeps, Region.binds, List.idxOf_cons] at hd
      first
        | refine ParOb.plain rfl ?_
        | refine ParOb.wanted (by simp [Region.wanted, yielded, hd]) ?_
      go_simp
      refine (KG.out W).mono ?_
      rintro e w9 ⟨rfl, hb9⟩
      exact ⟨_, rfl, hb9, fun _ _ => rfl⟩
    · intro vals W hx hd
      have hW := HF.out W hx
      simp [PDeps, pdeps, Region.binds, List.idxOf_cons] at hd
      first
        | refine ParOb.plain rfl ?_
        | refine ParOb.wanted (by simp [Region.wanted, yielded, hd]) ?_
      go_simp
      exact ParPost.same fun _ _ => rfl
    · intro vals W hx hd
      have hW := HF.out W hx
      simp [PDeps, pdeps, Region.binds, List.idxOf_cons] at hd
      first
        | refine ParOb.plain rfl ?_
        | refine ParOb.wanted (by simp [Region.wanted, yielded, hd]) ?_
      go_simp
      refine (KM.out W).mono ?_
      rintro e w9 ⟨rfl, hb9⟩
      exact ⟨_, rfl, hb9, fun _ _ => rfl⟩
    · intro vals W hx hd
      have hW := HF.out W hx
      simp [PDeps, pdeps, Region.binds, List.idxOf_cons] at hd
      first
        | refine ParOb.plain rfl ?_
        | refine ParOb.wanted (by simp [Region.wanted, yielded, hd]) ?_
      go_simp
      exact ⟨(Ext.refl _).alloc _, fun w2 h2 => (els_new [E1, E3]).ext h2⟩
    · intro vals W hx hd
      have hW := HF.out W hx
      simp [PDeps, pdeps, Region.binds, List.idxOf_cons] at hd
      first
        | refine ParOb.plain rfl ?_
        | refine ParOb.wanted (by simp [Region.wanted, yielded, hd]) ?_
      go_simp
      refine (putR_any tv _ _ L c [E1, E3] W (HLL.out.ext (Ext.trans HX0.out hx)) hd.2.1 hd.2.2.1 (by omega) (by simp)).mono ?_
      intro e w9 h9
      exact tab_put h9
  · simp (maxSteps := 20000000) only [permL, permOp, List.filterMap_cons, List.filterMap_nil, List.getElem?_cons_succ, List.getElem?_cons_zero, Option.map_some, Option.map_none, List.drop_succ_cons, List.drop_zero, List.take_succ_cons, List.take_zero, Nat.reduceSub, ZAll, ParEnd, Act.put, List.setIfInBounds_toArray, List.set_cons_succ, List.set_cons_zero]
  intro vals W hx hf hz
  simp (maxSteps := 20000000) only [permL, permOp, List.filterMap_cons, List.filterMap_nil, List.getElem?_cons_succ, List.getElem?_cons_zero, Option.map_some, Option.map_none, ParFacts, List.take_succ_cons, List.take_zero, and_true, Nat.reduceAdd] at hf
  obtain ⟨f0, f1, f2, f3, f4, f5, f6, f7, f8⟩ := hf
  clear hz
  simp (maxSteps := 20000000) only [permL, permOp, List.filterMap_cons, List.filterMap_nil, List.getElem?_cons_succ, List.getElem?_cons_zero, Option.map_some, Option.map_none, List.drop_succ_cons, List.drop_zero, List.take_succ_cons, List.take_zero, Nat.reduceSub, ParEnd, ZTail, Act.put, List.setIfInBounds_toArray, List.set_cons_succ, List.set_cons_zero, Nat.reduceAdd, f0, f1, f3, f4, f5, f6]
  clear f0 f1 f3 f4 f5 f6
  generalize vals 2 = y2 at f2 ⊢
  generalize vals 7 = y7 at f7 ⊢
  generalize vals 8 = y8 at f8 ⊢
  obtain ⟨s1, rfl, hs⟩ := f8
  obtain ⟨p1, n1, k1, rfl⟩ := hs.slice
  have HE1 := Lib.hid (hs.set (x := .slice p1 n1 k1) (HQ.out.keep hx) HS.out)
  have HQ1 := Lib.hid ((HQ.out.keep hx).set 0 (.slice p1 n1 k1))
  have HR1 := Lib.hid ((HR.out.keep hx).other (a := ⟨w.heap.size, 0, none⟩) (by simp) (.slice p1 n1 k1))
  have HB1 := Lib.hid ((show Below w.heap.size w W from Ext.trans HX0.out hx).setCell (p := ⟨w.heap.size, 0, none⟩) (Nat.le_refl _) (.slice p1 n1 k1))
  obtain ⟨cq, fq⟩ := (HQ.out.keep hx).facts
  have hql := (HQ.out.keep hx).lt
  clear f2 f7 hs
  refine ⟨?_⟩
  go_simp
  clear cq fq hql hx HF
  generalize W.setCell ⟨w.heap.size, 0, none⟩ (.slice p1 n1 k1) = W1 at HE1 HQ1 HR1 HB1 ⊢
  have HQ2 := Lib.hid (show Blk W1 w.heap.size #[.slice p1 n1 k1] 28 by simpa using HQ1.out)
  have HS1 := Lib.hid HE1.out.slice
  clear HQ1
  repeat (first | go_values | go_skip | go_guarded | go_step | go_upon)
  have HF := Lib.hid (show ∀ W, Ext W1 W → W.cell? ⟨w.heap.size, 0, none⟩ = some (.slice p1 n1 k1) ∧ W.cell? ⟨w.heap.size, 1, none⟩ = none from fun W hW => ⟨by have := (HQ2.out.keep hW).cell 0; simpa using this, by have := (HQ2.out.keep hW).cell 1; simpa using this⟩)
  refine wp_parZH [0, 1, 2, 3, 4, 5, 6, 7, 8, 9, 10, 11] 11 11 (fun
      | 0 => fun v _ => v = .agg #[.slice p1 n1 k1]
      | 1 => fun v _ => v = .int .i64 (c : Int)
      | 2 => fun v _ => v = .int .i64 ((c + 32 : Nat) : Int)
      | 3 => SeqV (c + 32)
      | 4 => fun v _ => v = .int .i64 (65 + (b : Int))
      | 5 => fun v _ => v = .int .i64 (97 + (b : Int))
      | 6 => fun v _ => v = .agg #[.int .i64 (E2.p : Int), .int .i64 (E2.s : Int), .int .i64 (E2.t : Int), .bool E2.v]
      | 7 => fun v _ => v = .int .i64 (m : Int)
      | 8 => fun v _ => v = .agg #[.int .i64 (E3.p : Int), .int .i64 (E3.s : Int), .int .i64 (E3.t : Int), .bool E3.v]
      | 9 => ElsV [E2, E3]
      | 10 => TabV (insE (c + 32) [E2, E3] (insE c [E1, E3] L))
      | _ => fun _ _ => True) (fun
      | _ => undef) (by kernel_rfl) (by kernel_rfl) (by kernel_rfl) ?_ ?_ ?_
  · simp (maxSteps := 20000000) only [permL, permOp, List.filterMap_cons, List.filterMap_nil, List.getElem?_cons_succ, List.getElem?_cons_zero, Option.map_some, Option.map_none, List.take_succ_cons, List.take_zero, ParAll, Act.put, List.setIfInBounds_toArray, List.set_cons_succ, List.set_cons_zero]
    refine ⟨?_, ?_, ?_, ?_, ?_, ?_, ?_, ?_, ?_, ?_, ?_, trivial⟩
    · intro vals W hx hd
      have hW := HF.out W hx
      simp [PDeps, pdeps, Region.binds, List.idxOf_cons] at hd
      first
        | refine ParOb.plain rfl ?_
        | refine ParOb.wanted (by simp [Region.wanted, yielded, hd]) ?_
      go_simp
      exact ParPost.same fun _ _ => rfl
    · intro vals W hx hd
      have hW := HF.out W hx
      simp [PDeps, pdeps, Region.binds, List.idxOf_cons] at hd
      first
        | refine ParOb.plain rfl ?_
        | refine ParOb.wanted (by simp [Region.wanted, yielded, hd]) ?_
      go_simp
      exact ParPost.same fun _ _ => rfl
    · intro vals W hx hd
      have hW := HF.out W hx
      simp [PDeps, pdeps, Region.binds, List.idxOf_cons] at hd
      first
        | refine ParOb.plain rfl ?_
        | refine ParOb.wanted (by simp [Region.wanted, yielded, hd]) ?_
      have hsum := IntWalk.i64_in ((c : Int) + 32) (by omega)
      go_simp
      exact ParPost.same fun _ _ => rfl
    · intro vals W hx hd
      have hW := HF.out W hx
      simp [PDeps, pdeps, Region.binds, List.idxOf_cons] at hd
      first
        | refine ParOb.plain rfl ?_
        | refine ParOb.wanted (by simp [Region.wanted, yielded, hd]) ?_
      go_simp
      exact ⟨(Ext.refl _).alloc _, fun w2 h2 => seq_new.ext h2⟩
    · intro vals W hx hd
      have hW := HF.out W hx
      simp [PDeps, pdeps, Region.binds, List.idxOf_cons] at hd
      first
        | refine ParOb.plain rfl ?_
        | refine ParOb.wanted (by simp [Region.wanted, yielded, hd]) ?_
      go_simp
      exact ParPost.same fun _ _ => rfl
    · intro vals W hx hd
      have hW := HF.out W hx
      simp [PDeps, pdeps, Region.binds, List.idxOf_cons] at hd
      first
        | refine ParOb.plain rfl ?_
        | refine ParOb.wanted (by simp [Region.wanted, yielded, hd]) ?_
      have hsum := IntWalk.i64_in (65 + (b : Int) + 32) (by omega)
      go_simp
      exact ParPost.same fun _ _ => by congr 1; omega
    · intro vals W hx hd
      have hW := HF.out W hx
      simp [PDeps, pdeps, Region.binds, List.idxOf_cons] at hd
      first
        | refine ParOb.plain rfl ?_
        | refine ParOb.wanted (by simp [Region.wanted, yielded, hd]) ?_
      go_simp
      refine (KS.out W).mono ?_
      rintro e w9 ⟨rfl, hb9⟩
      exact ⟨_, rfl, hb9, fun _ _ => rfl⟩
    · intro vals W hx hd
      have hW := HF.out W hx
      simp [PDeps, pdeps, Region.binds, List.idxOf_cons] at hd
      first
        | refine ParOb.plain rfl ?_
        | refine ParOb.wanted (by simp [Region.wanted, yielded, hd]) ?_
      go_simp
      exact ParPost.same fun _ _ => rfl
    · intro vals W hx hd
      have hW := HF.out W hx
      simp [PDeps, pdeps, Region.binds, List.idxOf_cons] at hd
      first
        | refine ParOb.plain rfl ?_
        | refine ParOb.wanted (by simp [Region.wanted, yielded, hd]) ?_
      go_simp
      refine (KM.out W).mono ?_
      rintro e w9 ⟨rfl, hb9⟩
      exact ⟨_, rfl, hb9, fun _ _ => rfl⟩
    · intro vals W hx hd
      have hW := HF.out W hx
      simp [PDeps, pdeps, Region.binds, List.idxOf_cons] at hd
      first
        | refine ParOb.plain rfl ?_
        | refine ParOb.wanted (by simp [Region.wanted, yielded, hd]) ?_
      go_simp
      exact ⟨(Ext.refl _).alloc _, fun w2 h2 => (els_new [E2, E3]).ext h2⟩
    · intro vals W hx hd
      have hW := HF.out W hx
      simp [PDeps, pdeps, Region.binds, List.idxOf_cons] at hd
      first
        | refine ParOb.plain rfl ?_
        | refine ParOb.wanted (by simp [Region.wanted, yielded, hd]) ?_
      go_simp
      refine (putR_any (.slice p1 n1 k1) _ _ (insE c [E1, E3] L) (c + 32) [E2, E3] W (HE1.out.ext hx) hd.2.1 hd.2.2.1 (by have := insE_length c [E1, E3] L; omega) (by simp)).mono ?_
      intro e w9 h9
      exact tab_put h9
  · simp (maxSteps := 20000000) only [permL, permOp, List.filterMap_cons, List.filterMap_nil, List.getElem?_cons_succ, List.getElem?_cons_zero, Option.map_some, Option.map_none, List.drop_succ_cons, List.drop_zero, List.take_succ_cons, List.take_zero, Nat.reduceSub, ZAll, ParEnd, Act.put, List.setIfInBounds_toArray, List.set_cons_succ, List.set_cons_zero]
  intro vals W hx hf hz
  simp (maxSteps := 20000000) only [permL, permOp, List.filterMap_cons, List.filterMap_nil, List.getElem?_cons_succ, List.getElem?_cons_zero, Option.map_some, Option.map_none, ParFacts, List.take_succ_cons, List.take_zero, and_true, Nat.reduceAdd] at hf
  obtain ⟨f0, f1, f2, f3, f4, f5, f6, f7, f8, f9, f10⟩ := hf
  clear hz
  simp (maxSteps := 20000000) only [permL, permOp, List.filterMap_cons, List.filterMap_nil, List.getElem?_cons_succ, List.getElem?_cons_zero, Option.map_some, Option.map_none, List.drop_succ_cons, List.drop_zero, List.take_succ_cons, List.take_zero, Nat.reduceSub, ParEnd, ZTail, Act.put, List.setIfInBounds_toArray, List.set_cons_succ, List.set_cons_zero, Nat.reduceAdd, f0, f1, f2, f4, f5, f6, f7, f8]
  clear f0 f1 f2 f4 f5 f6 f7 f8
  generalize vals 3 = y3 at f3 ⊢
  generalize vals 9 = y9 at f9 ⊢
  generalize vals 10 = y10 at f10 ⊢
  obtain ⟨s2, rfl, hs⟩ := f10
  obtain ⟨p2, n2, k2, rfl⟩ := hs.slice
  have HE2 := Lib.hid (hs.set (x := .slice p2 n2 k2) (HR1.out.keep hx) ⟨_, _, _, rfl⟩)
  have HR2 := Lib.hid (show Blk (W.setCell ⟨w.heap.size + 1, 0, none⟩ (.slice p2 n2 k2)) (w.heap.size + 1) #[.slice p2 n2 k2] 28 by simpa using (HR1.out.keep hx).set 0 (.slice p2 n2 k2))
  have HB2 := Lib.hid ((HB1.out.trans (Below.mono hx HB1.out.size)).setCell (p := ⟨w.heap.size + 1, 0, none⟩) (by simp) (.slice p2 n2 k2))
  obtain ⟨cr, fr⟩ := (HR1.out.keep hx).facts
  have hrl := (HR1.out.keep hx).lt
  clear f3 f9 hs
  refine ⟨?_⟩
  go_simp
  clear cr fr hrl hx HF
  repeat (first | go_values | go_skip | go_guarded | go_step | go_upon)
  refine bodyPost_ret (ret_tab rfl _ rfl rfl HR2.out) rfl ?_
  exact ⟨⟨_, rfl, HE2.out⟩, HB2.out⟩
theorem markedR_at (tv : Value) (L : List (Nat × List El)) (c b m s : Nat) (C B M : Int) (hC : C = (c : Int)) (hB : B = 65 + (b : Int)) (hM : M = (m : Int)) (hc : c < 1000) (hb : b < 26) (hm : (m, s) ∈ [(768, 37), (769, 36), (770, 39), (771, 45), (772, 47), (776, 43), (778, 41), (807, 48)]) (w : World) (hL : EntsR w tv L) (hn : L.length ≤ 990) :
    Calls Tryz.prog 83 #[.agg #[tv], .int .i64 C, .int .i64 B, .int .i64 M] w (PutR w (insE (c + 32) [low b 2, mk s] (insE c [low b 8, mk s] L))) := by
  subst hC hB hM
  exact markedR_any tv L c b m s hc hb hm w hL hn
theorem letterR_at (i : Nat) (C : Int) (hC : C = 97 + (i : Int)) (hi : i < 26) (w : World) : Calls Tryz.prog 81 #[.int .i64 C] w fun e w' => e = .returned (elV (low i 2)) ∧ Below w.heap.size w w' := by
  subst hC
  exact letterR_small i hi w
end Y
/-- An element's own cell may be turned: no list of entries reads just it. -/
theorem EntsR.setEl {w : World} {v x : Value} {q : Nat} {e : El} {t : TypeId} {L : List (Nat × List El)} (h : EntsR w v L) (hq : Blk w q #[.int .i64 (e.p : Int), .int .i64 (e.s : Int), .int .i64 (e.t : Int), .bool e.v] t)
    (hne : ∀ y ∈ L, y.2 ≠ [e]) : EntsR (w.setCell ⟨q, 2, none⟩ x) v L := by
  obtain ⟨vs, h1, h2, h3⟩ := h
  have hfar : ∀ g o, g ≠ q → (w.setCell ⟨q, 2, none⟩ x).cell? ⟨g, o, none⟩ = w.cell? ⟨g, o, none⟩ := fun g o hg => World.cell?_setCell_far w _ _ _ (fun e => hg e.symm)
  have hsame : ∀ o : Nat, o ≠ 2 → (w.setCell ⟨q, 2, none⟩ x).cell? ⟨q, o, none⟩ = w.cell? ⟨q, o, none⟩ := fun o ho => by
    rw [(hq.set 2 x).cell, hq.cell]
    exact Array.getElem?_setIfInBounds_ne (Ne.symm ho)
  have c0 : w.cell? ⟨q, 0, none⟩ = some (.int .i64 (e.p : Int)) := by simpa using hq.cell 0
  have c1 : w.cell? ⟨q, 1, none⟩ = some (.int .i64 (e.s : Int)) := by simpa using hq.cell 1
  have c2 : w.cell? ⟨q, 2, none⟩ = some (.int .i64 (e.t : Int)) := by simpa using hq.cell 2
  have c3 : w.cell? ⟨q, 3, none⟩ = some (.bool e.v) := by simpa using hq.cell 3
  have c4 : w.cell? ⟨q, 4, none⟩ = none := by simpa using hq.cell 4
  refine ⟨vs, ?_, h2, fun j p y hp hy => ?_⟩
  · rcases h1 with h1 | ⟨g, c, e1, e2, e3, e4⟩
    · exact .inl h1
    · refine .inr ⟨g, c, e1, e2, by simpa using e3, fun j u hj => ?_⟩
      by_cases hg : g = q
      · subst hg
        have hl : j < (flatE vs).length := (List.getElem?_eq_some_iff.1 hj).1
        rw [flatE_length] at hl
        have h0 : 0 < vs.length := by omega
        have h5 := e4 _ _ (flatE_get vs 0 h0).1
        rw [show 0 * 2 = 0 from rfl, c0] at h5
        have h6 := (h3 0 vs[0] (L[0]'(by omega)) (List.getElem?_eq_getElem h0) (List.getElem?_eq_getElem (by omega))).1
        obtain ⟨g7, k7, h7, _⟩ := h6
        rw [h7] at h5
        cases h5
      · rw [hfar _ _ hg]; exact e4 j u hj
  · obtain ⟨⟨g, k, e1, e2, e3⟩, h5⟩ := h3 j p y hp hy
    refine ⟨⟨g, k, e1, e2, ?_⟩, ?_⟩
    · by_cases hg : g = q
      · subst hg
        rw [hsame 0 (by decide)]; exact e3
      · rw [hfar _ _ hg]; exact e3
    · rcases h5 with h5 | ⟨g2, k2, f1, f2, f3, f4⟩
      · exact .inl h5
      · refine .inr ⟨g2, k2, f1, f2, by simpa using f3, fun j2 u hj2 => ?_⟩
        by_cases hg : g2 = q
        · subst hg
          exfalso
          have hl : j2 < (flatR y.2).length := (List.getElem?_eq_some_iff.1 hj2).1
          have hmem : y ∈ L := List.mem_of_getElem? hy
          have hn := hne y hmem
          cases hy2 : y.2 with
          | nil => rw [hy2] at hl; simp [flatR] at hl
          | cons e0 es0 =>
            rw [hy2] at f4 hn
            cases es0 with
            | nil =>
              have g0 := f4 0 (.int .i64 (e0.p : Int)) (by simp [flatR, cellsR])
              have g1 := f4 1 (.int .i64 (e0.s : Int)) (by simp [flatR, cellsR])
              have g2 := f4 2 (.int .i64 (e0.t : Int)) (by simp [flatR, cellsR])
              have g3 := f4 3 (.bool e0.v) (by simp [flatR, cellsR])
              rw [c0] at g0
              rw [c1] at g1
              rw [c2] at g2
              rw [c3] at g3
              simp only [Option.some.injEq, Value.int.injEq, Value.bool.injEq, true_and] at g0 g1 g2 g3
              apply hn
              obtain ⟨p0, s0, t0, v0⟩ := e0
              obtain ⟨p9, s9, t9, v9⟩ := e
              simp only at g0 g1 g2 g3
              simp only [List.cons.injEq, El.mk.injEq, and_true]
              refine ⟨by omega, by omega, by omega, g3.symm⟩
            | cons e1 es1 =>
              have g4 := f4 4 (.int .i64 (e1.p : Int)) (by simp [flatR, cellsR])
              rw [c4] at g4
              cases g4
        · rw [hfar _ _ hg]; exact f4 j2 u hj2
end Go.Proofs.YtipokgedmfnlaaaGreatDoor
