/-
 The document's rows' places in order; two such orders are one. The law of rows put in order, walked: as the document says. The law of rows put in order holds: for any rows, any collations, any ways up and down, the call returns true, and the arguments read as they did. No condition; the listed variables of Go's library read as its text lays them (the card ties them).
-/
import Derived.Test.YtipokgedmfnlaaaGreatDoorOrder
import Derived.Test.YtipokgedmfnlaaaGreatDoorDocRows
import Derived.Test.YtipokgedmfnlaaaGreatDoorCuts
import Derived.Test.YtipokgedmfnlaaaGreatDoorBindFrame
namespace Go.Proofs.YtipokgedmfnlaaaGreatDoor
open Go.RowKit Go.Lib
set_option maxRecDepth 100000

/-! ### The plain law -/
theorem LT.irr {cf : Nat → Nat → Int} (hc : Cf cf) (x : Nat) : ¬ LT cf x x := fun h => by
 have := hc.swap x x
 unfold LT at h
 omega
theorem Sor.ne {cf : Nat → Nat → Int} (hc : Cf cf) {d : Nat → Nat} {n : Nat} (h : Sor cf d 0 n) {i j : Nat} (hij : i < j) (hj : j < n) : d i ≠ d j := fun e => by
 have := h i j (Nat.zero_le _) hij hj
 rw [e] at this
 exact LT.irr hc _ this
theorem Sor.onto {cf : Nat → Nat → Int} (hc : Cf cf) {d : Nat → Nat} {n : Nat} (h : Sor cf d 0 n) (hs : ∀ k, k < n → d k < n) (y : Nat) (hy : y < n) : ∃ k, k < n ∧ d k = y := by
 by_cases hm : y ∈ (List.range n).map d
 ·obtain ⟨k, hk, e⟩ := List.mem_map.1 hm
  exact ⟨k, List.mem_range.1 hk, e⟩
 ·exfalso
  have hnd : ((List.range n).map d).Nodup := by
   refine List.pairwise_map.2 (List.pairwise_lt_range.imp_of_mem fun {a b} ha hb hab => ?_)
   exact h.ne hc hab (List.mem_range.1 hb)
  have hnd2 : (y :: (List.range n).map d).Nodup := List.nodup_cons.2 ⟨hm, hnd⟩
  have hsub : (y :: (List.range n).map d) ⊆ List.range n := fun z hz => by
   rcases List.mem_cons.1 hz with rfl | hz
   ·exact List.mem_range.2 hy
   ·obtain ⟨k, hk, rfl⟩ := List.mem_map.1 hz
    exact List.mem_range.2 (hs k (List.mem_range.1 hk))
  have := hnd2.length_le_of_subset hsub
  simp at this
  omega
/-- There is one order only. -/
theorem Sor.uniq {cf : Nat → Nat → Int} (hc : Cf cf) {d d' : Nat → Nat} {n : Nat} (h : Sor cf d 0 n) (hs : ∀ k, k < n → d k < n) (h' : Sor cf d' 0 n) (hs' : ∀ k, k < n → d' k < n) : ∀ k, k < n → d k = d' k := by
 have half : ∀ (d d' : Nat → Nat), Sor cf d 0 n → (∀ k, k < n → d k < n) → Sor cf d' 0 n → (∀ k, k < n → d' k < n) → ∀ k, k < n → (∀ j, j < k → d j = d' j) → d k = d' k ∨ LT cf (d' k) (d k) := fun d d' h hs h' hs' k hk ih => by
  obtain ⟨j, hj, e⟩ := h'.onto hc hs' (d k) (hs k hk)
  by_cases h1 : j < k
  ·exact absurd ((ih j h1).trans e) (h.ne hc h1 hk)
  ·by_cases h2 : j = k
   ·subst h2; exact .inl e.symm
   ·exact .inr (e ▸ h' k j (Nat.zero_le _) (by omega) hj)
 intro k
 induction k using Nat.strongRecOn with
 | ind k ih =>
  intro hk
  rcases half d d' h hs h' hs' k hk (fun j hj => ih j hj (by omega)) with e | e1
  ·exact e
  ·rcases half d' d h' hs' h hs k hk (fun j hj => (ih j hj (by omega)).symm) with e | e2
   ·exact e.symm
   ·exact absurd (hc.trans _ _ _ e1 e2) (LT.irr hc _)
/-- Numbers as an array has them. -/
def arr (e : Nat → Nat) (n : Nat) : List Value := intsV ((List.range n).map e)
def upd (e : Nat → Nat) (j v : Nat) : Nat → Nat := fun k => if k = j then v else e k
theorem arr_length (e : Nat → Nat) (n : Nat) : (arr e n).length = n := by simp [arr, intsV]
theorem arr_get (e : Nat → Nat) (n k : Nat) (hk : k < n) : (arr e n)[k]? = some (.int .i64 (e k : Int)) := by simp [arr, intsV, hk]
theorem arr_ext {e f : Nat → Nat} {n : Nat} (h : ∀ k, k < n → e k = f k) : arr e n = arr f n := by
 unfold arr
 congr 1
 exact List.map_congr_left fun k hk => h k (List.mem_range.1 hk)
theorem arr_snoc (e : Nat → Nat) (n v : Nat) : arr e n ++ [.int .i64 (v : Int)] = arr (upd e n v) (n + 1) := by
 have h1 : arr e n = arr (upd e n v) n := arr_ext fun k hk => by unfold upd; rw [if_neg (by omega)]
 rw [h1]
 simp [arr, List.range_succ, intsV, upd]
theorem arr_set (e : Nat → Nat) (n j v : Nat) : (arr e n).set j (.int .i64 (v : Int)) = arr (upd e j v) n := by
 apply List.ext_getElem?
 intro k
 rw [List.getElem?_set]
 by_cases hk : k < n
 ·rw [arr_get _ _ _ hk, arr_get _ _ _ hk, arr_length]
  unfold upd
  by_cases e : j = k
  ·subst e; simp [hk]
  ·rw [if_neg e, if_neg (fun h => e h.symm)]
 ·rw [List.getElem?_eq_none (by rw [arr_length]; omega), List.getElem?_eq_none (by rw [arr_length]; omega)]
  split
  ·rw [if_neg (by rw [arr_length]; omega)]
  ·rfl
theorem own_store {w : World} {B n cap g j : Nat} {t : TypeId} {xs : List Value} (h : w.ownsRow B t 1 (.slice (some ⟨g, 0, none⟩) n cap) n xs) (_hj : j < n) (v : Value) : (w.setCell ⟨g, j, none⟩ v).ownsRow B t 1 (.slice (some ⟨g, 0, none⟩) n cap) n (xs.set j v) := by
 obtain ⟨hl, h⟩ := h
 refine ⟨by simpa using hl, ?_⟩
 rcases h with ⟨h1, _⟩ | ⟨g', cap', cur, h1, h2, h3, h4, h5, h6, h7⟩
 ·cases h1
 ·simp only [Value.slice.injEq, Option.some.injEq, Addr.mk.injEq, and_true, true_and] at h1
  obtain ⟨rfl, rfl⟩ := h1
  exact .inr ⟨g, cap, cur.setIfInBounds j v, rfl, h2, heap_setCell_same w g j cur t v h3, h4, h5, by simpa using h6, by
   rw [Array.toList_setIfInBounds, ← h7, List.take_set]⟩
theorem own_cell {w : World} {B n cap g : Nat} {t : TypeId} {xs : List Value} (h : w.ownsRow B t 1 (.slice (some ⟨g, 0, none⟩) n cap) n xs) {k : Nat} {u : Value} (hk : xs[k]? = some u) : w.cell? ⟨g, k, none⟩ = some u := by
 obtain ⟨_, h⟩ := h
 rcases h with ⟨h1, _⟩ | ⟨g', cap', cur, h1, h2, h3, h4, h5, h6, h7⟩
 ·cases h1
 ·simp only [Value.slice.injEq, Option.some.injEq, Addr.mk.injEq, and_true, true_and] at h1
  obtain ⟨rfl, rfl⟩ := h1
  rw [cell_of_row w g k cur t (0, 0) h3]
  rw [← h7, List.getElem?_take] at hk
  split at hk
  ·simpa using hk
  ·cases hk
theorem own_free {w : World} {B n cap g : Nat} {t : TypeId} {xs : List Value} (h : w.ownsRow B t 1 (.slice (some ⟨g, 0, none⟩) n cap) n xs) (k : Nat) : w.frozen? ⟨g, k, none⟩ = false := by
 obtain ⟨_, h⟩ := h
 rcases h with ⟨h1, _⟩ | ⟨g', cap', cur, h1, h2, h3, h4, h5, h6, h7⟩
 ·cases h1
 ·simp only [Value.slice.injEq, Option.some.injEq, Addr.mk.injEq, and_true, true_and] at h1
  obtain ⟨rfl, rfl⟩ := h1
  exact frozen_of_row w g k cur t h3
/-- Putting number i into its place: from k on all are a place up. -/
structure Put (cf : Nat → Nat → Int) (d e : Nat → Nat) (i k : Nat) : Prop where
 low : ∀ j, j < k → e j = d j
 up : ∀ j, k ≤ j → j < i → e (j + 1) = d j
 under : ∀ j, k ≤ j → j < i → cf i (d j) < 0
theorem Put.start (cf : Nat → Nat → Int) (d : Nat → Nat) (i v : Nat) : Put cf d (upd d i v) i i :=
 ⟨fun j hj => by unfold upd; rw [if_neg (by omega)], fun j h1 h2 => by omega, fun j h1 h2 => by omega⟩
theorem Put.step {cf : Nat → Nat → Int} {d e : Nat → Nat} {i k : Nat} (h : Put cf d e i (k + 1)) (hk : k < i) (ht : cf i (d k) < 0) : Put cf d (upd e (k + 1) (e k)) i k := by
 refine ⟨fun j hj => ?_, fun j h1 h2 => ?_, fun j h1 h2 => ?_⟩
 ·unfold upd; rw [if_neg (by omega)]; exact h.low j (by omega)
 ·unfold upd
  by_cases q : j = k
  ·subst q; rw [if_pos rfl]; exact h.low j (by omega)
  ·rw [if_neg (by omega)]; exact h.up j (by omega) h2
 ·by_cases q : j = k
  ·subst q; exact ht
  ·exact h.under j (by omega) h2
theorem Put.stop {cf : Nat → Nat → Int} (hc : Cf cf) {d e : Nat → Nat} {i k : Nat} (h : Put cf d e i k) (hk : k ≤ i) (hs : Sor cf d 0 i) (hd : ∀ j, j < i → d j < i) (ht : k = 0 ∨ ¬ cf i (d (k - 1)) < 0) : Sor cf (upd e k i) 0 (i + 1) ∧ ∀ j, j < i + 1 → upd e k i j < i + 1 := by
 have hlow : ∀ j, j < k → LT cf (d j) i := fun j hj => by
  rcases ht with ht | ht
  ·omega
  ·have h1 : LT cf (d (k - 1)) i := hc.back ht (hd (k - 1) (by omega))
   by_cases q : j = k - 1
   ·rw [q]; exact h1
   ·exact hc.trans _ _ _ (hs j (k - 1) (Nat.zero_le _) (by omega) (by omega)) h1
 have val : ∀ j, j < i + 1 → (j < k ∧ upd e k i j = d j) ∨ (j = k ∧ upd e k i j = i) ∨ (k < j ∧ upd e k i j = d (j - 1)) := fun j hj => by
  unfold upd
  by_cases q : j = k
  ·exact .inr (.inl ⟨q, if_pos q⟩)
  ·rw [if_neg q]
   by_cases q2 : j < k
   ·exact .inl ⟨q2, h.low j q2⟩
   ·refine .inr (.inr ⟨by omega, ?_⟩)
    have := h.up (j - 1) (by omega) (by omega)
    rw [Nat.sub_add_cancel (by omega)] at this
    exact this
 refine ⟨fun x y _ hxy hy => ?_, fun j hj => ?_⟩
 ·rcases val x (by omega) with ⟨x1, x2⟩ | ⟨x1, x2⟩ | ⟨x1, x2⟩ <;> rcases val y hy with ⟨y1, y2⟩ | ⟨y1, y2⟩ | ⟨y1, y2⟩ <;> rw [x2, y2]
  ·exact hs x y (Nat.zero_le _) hxy (by omega)
  ·exact hlow x x1
  ·exact hs x (y - 1) (Nat.zero_le _) (by omega) (by omega)
  ·omega
  ·omega
  ·exact .inl (h.under (y - 1) (by omega) (by omega))
  ·omega
  ·omega
  ·exact hs (x - 1) (y - 1) (Nat.zero_le _) (by omega) (by omega)
 ·rcases val j hj with ⟨x1, x2⟩ | ⟨x1, x2⟩ | ⟨x1, x2⟩ <;> rw [x2]
  ·have := hd j (by omega); omega
  ·omega
  ·have := hd (j - 1) (by omega); omega

/-! ### The walk -/
def SortOut (w : World) (n : Nat) (cf : Nat → Nat → Int) (e : Ending) (w' : World) : Prop := (∃ v d, e = .returned v ∧ ReadsL w' v (arr d n) ∧ Sor cf d 0 n ∧ ∀ k, k < n → d k < n) ∧ Below w.heap.size w w'
set_option maxHeartbeats 16000000 in
theorem refsort_any (v cv dv : Value) (R : List (List V3)) (n q m : Nat) (fs : Nat → List UInt8 → List UInt8 → Int) (ds : Nat → Bool) (w : World)
  (hR : RowsAt w v R) (hF : FewR R) (hC : CollsRAt w cv n fs) (hD : DescAt w dv q ds) (hch : ∀ i, Chain (fs i)) (hm : ∀ r ∈ R, r.length = m) :
  Calls Tryz.prog 38 #[v, cv, dv] w (SortOut w R.length (cfR fs ds m R)) := by
 have HR := Lib.hid hR
 have HF := Lib.hid hF
 have HC := Lib.hid hC
 have HD := Lib.hid hD
 have HCH := Lib.hid hch
 have HM := Lib.hid hm
 have HCf := Lib.hid (chain_cfR hch ds m R).cf
 obtain ⟨a1, k1, hv, hk1, _, hcell⟩ := id hR
 obtain ⟨a2, k2, hcv, _⟩ := id hC
 obtain ⟨a3, k3, hdv, _⟩ := id hD
 have hlen : R.length ≤ 30 := hF.1
 have HCell := Lib.hid hcell
 clear hR hF hC hD hch hm hcell
 subst hv hcv hdv
 go_enter Tryz.func38, Tryz.ntmps38
 go_wp2_with fail
 go_loopw [7, 8, 9] (fun o i _ wr => ∃ (k : Nat) (d : Nat → Nat), k ≤ R.length ∧ i = .int .i64 k ∧ wr.ownsRow w.heap.size 3 1 o k (arr d k) ∧ Ext w wr ∧ (k = 0 → o = .slice none 0 0) ∧ Sor (cfR fs ds m R) d 0 k ∧ ∀ j, j < k → d j < k) (fun _ i _ _ => R.length - (intOf i).toNat)
 case atStart => exact ⟨0, fun k => k, Nat.zero_le _, rfl, World.ownsRow_nil _ _ _ _, Ext.refl _, fun _ => rfl, fun i j _ h1 h2 => by omega, fun j h => by omega⟩
 case round =>
  obtain ⟨k, d, hk, rfl, hown, hx, hz, hsor, hsm⟩ := hrel
  have HOw := Lib.hid hown
  have HXr := Lib.hid hx
  have HZ := Lib.hid hz
  have HSor := Lib.hid hsor
  have HSm := Lib.hid hsm
  clear hown hx hz hsor hsm
  by_cases hlt : k < R.length
  ·have hltI : (k : Int) < (R.length : Int) := by omega
   obtain ⟨ao, cap0, ho, hcap0⟩ := ownsRow_slice HOw.out
   subst ho
   obtain ⟨gr, orr, rfl, hgr, hrows⟩ := HCell.out (by omega)
   go_wp2_with (at_builtin; refine wpList_push rfl _ _ _ rfl w.heap.size 3 (.int .i64 0) 1 8 Tryz.underlying40 infoInt1 rfl (by decide) (.slice ao k cap0) k (arr d k) rfl (HOw.out.alloc _) wr.heap.size 3 #[.int .i64 k] rfl (Blk.new _ _ _ rfl) rfl (by simp [Value.oneCell']) (by unfold maxLen; omega) (by omega) (by have := HXr.out.size; simp <;> omega) ?_; intro v5 w5 hown hgr5 hat; have HX5 := Lib.hid (ext_own HXr.out HOw.out hgr5); rw [show arr d k ++ #[Value.int .i64 (k : Int)].toList = arr (upd d k k) (k + 1) from arr_snoc d k k] at hown; obtain ⟨g, cap, rfl⟩ := own_form hown; have HO5 := Lib.hid hown; clear hown hgr5 hat)
   have hkI : (k : Int) ≤ (k : Int) + 1 := by omega
   go_loopw [9] (fun j wr2 => ∃ (p : Nat) (e : Nat → Nat), p ≤ k ∧ j = .int .i64 p ∧ wr2.ownsRow w.heap.size 3 1 (.slice (some ⟨g, 0, none⟩) (k + 1) cap) (k + 1) (arr e (k + 1)) ∧ Ext w wr2 ∧ Put (cfR fs ds m R) d e k p) (fun j _ => (intOf j).toNat)
   case atStart => exact ⟨k, _, Nat.le_refl _, rfl, HO5.out, HX5.out, Put.start _ _ _ _⟩
   case round =>
    obtain ⟨p, e, hp, rfl, ho2, hx2, hput⟩ := hrel
    have HO2 := Lib.hid ho2
    have HX2 := Lib.hid hx2
    have HPut := Lib.hid hput
    clear ho2 hx2 hput
    by_cases hp0 : p = 0
    ·subst hp0
     have hstop := Lib.hid (HPut.out.stop HCf.out hp HSor.out HSm.out (.inl rfl))
     have HF2 := Lib.hid (show ∀ W, Ext wr W → True from fun _ _ => trivial)
     go_wp2_with fail
     refine wp_par 20 (fun
       | 0 => fun v _ => v = .int .i64 0
       | 1 => fun v _ => v = .bool false
       | 2 => fun v _ => v = .bool false
       | 3 => fun v _ => v = undef
       | 4 => fun v _ => v = undef
       | 5 => fun v _ => v = undef
       | 6 => fun v _ => v = undef
       | 7 => fun v _ => v = undef
       | 8 => fun v _ => v = undef
       | 9 => fun v _ => v = undef
       | 10 => fun v _ => v = undef
       | 11 => fun v _ => v = undef
       | 12 => fun v _ => v = undef
       | 13 => fun v _ => v = undef
       | 14 => fun v _ => v = undef
       | 15 => fun v _ => v = undef
       | 16 => fun v _ => v = undef
       | 17 => fun v _ => v = undef
       | 18 => fun v _ => v = undef
       | 19 => fun v _ => v = .bool false
       | _ => fun _ _ => True) (by kernel_rfl) (by kernel_rfl) (by kernel_rfl) ?_ ?_
     ·simp (maxSteps := 20000000) only [List.take_succ_cons, List.take_zero, ParAll, Act.put, List.setIfInBounds_toArray, List.set_cons_succ, List.set_cons_zero]
      refine ⟨?_, ?_, ?_, ?_, ?_, ?_, ?_, ?_, ?_, ?_, ?_, ?_, ?_, ?_, ?_, ?_, ?_, ?_, ?_, ?_, trivial⟩
      iterate 3
       next =>
        intro vals W hx hd
        have hW := HF2.out W hx
        simp [PDeps, pdeps, Region.binds] at hd
        first
         | refine ParOb.plain rfl ?_
         | refine ParOb.wanted (by simp [Region.wanted, yielded, hd]) ?_
        go_simp
        exact ParPost.same fun _ _ => rfl
      iterate 16
       next =>
        intro vals W hx hd
        have hW := HF2.out W hx
        simp [PDeps, pdeps, Region.binds] at hd
        exact ParOb.passed (by simp [Region.wanted, yielded, hd] <;> decide) fun _ _ => rfl
      ·intro vals W hx hd
       have hW := HF2.out W hx
       simp [PDeps, pdeps, Region.binds] at hd
       first
        | refine ParOb.plain rfl ?_
        | refine ParOb.wanted (by simp [Region.wanted, yielded, hd]) ?_
       go_simp
       exact ParPost.same fun _ _ => rfl
     intro vals W hx hf
     simp (maxSteps := 20000000) only [ParFacts, List.take_succ_cons, List.take_zero, and_true] at hf
     simp (maxSteps := 20000000) only [List.drop_succ_cons, List.drop_zero, List.take_succ_cons, List.take_zero, ParEnd, Act.put, List.setIfInBounds_toArray, List.set_cons_succ, List.set_cons_zero, hf]
     clear hf
     have HOe := Lib.hid (ownsRow_ext HO2.out hx)
     have HXe := Lib.hid (Ext.trans HX2.out hx)
     clear hx HF2 hrows
     have HO9 := Lib.hid (show ((W.setCell ⟨g, 0, none⟩ (.int .i64 (k : Int))).ownsRow w.heap.size 3 1 (.slice (some ⟨g, 0, none⟩) (k + 1) cap) (k + 1) (arr (upd e 0 k) (k + 1))) from arr_set e (k + 1) 0 k ▸ own_store HOe.out (by omega) _)
     have HX9 := Lib.hid (show Ext w (W.setCell ⟨g, 0, none⟩ (.int .i64 (k : Int))) from Below.setCell HXe.out (own_block_ge HOe.out) _)
     obtain ⟨u9, hu9⟩ : ∃ u, W.cell? ⟨g, 0, none⟩ = some u := ⟨_, own_cell HOe.out (arr_get e (k + 1) 0 (by omega))⟩
     have fz9 := own_free HOe.out 0
     go_wp2_with fail
     generalize W.setCell ⟨g, 0, none⟩ (.int .i64 (k : Int)) = w9 at HO9 HX9 ⊢
     go_wp2_with fail
     go_roundw
     case rel => exact ⟨k + 1, _, by omega, by go_num, HO9.out, HX9.out, fun h => by omega, hstop.out.1, hstop.out.2⟩
     case measure => simp [intOf]; omega
    ·obtain ⟨kp, rfl⟩ : ∃ q, p = q + 1 := ⟨p - 1, by omega⟩
     have hkp0 : (0 : Int) < (kp : Int) + 1 := by omega
     have wkp : IntKind.i64.wrap (kp : Int) = (kp : Int) := by rw [IntKind.wrap_i64]; omega
     have hDk := HSm.out kp (by omega)
     have hel := HPut.out.low kp (Nat.lt_succ_self _)
     have hstep := Lib.hid (fun ht => HPut.out.step (by omega) ht)
     have hstop := Lib.hid (fun ht => HPut.out.stop HCf.out hp HSor.out HSm.out (.inr ht))
     simp only [Nat.add_sub_cancel] at hstop
     have hcD := fun (W : World) (hW : Ext wr W) => own_cell (ownsRow_ext HO2.out hW) (arr_get e (k + 1) kp (by omega))
     rw [hel] at hcD hstep
     obtain ⟨D, hDe⟩ : ∃ D, D = d kp := ⟨_, rfl⟩
     rw [← hDe] at hDk hcD hstep hstop
     clear hDe hel
     have hDn : D < R.length := by omega
     have hDI : (D : Int) < (R.length : Int) := by omega
     have hkk : (kp : Int) < (k : Int) + 1 := by omega
     obtain ⟨ux, hux, hrx⟩ := hrows k R[k] (List.getElem?_eq_getElem hlt)
     obtain ⟨uy, huy, hry⟩ := hrows D R[D] (List.getElem?_eq_getElem hDn)
     have hZe := cfR_ord fs ds m R HM.out k D hlt hDn
     obtain ⟨f1, f2⟩ := HF.out.2 _ (List.getElem_mem hlt)
     obtain ⟨f3, f4⟩ := HF.out.2 _ (List.getElem_mem hDn)
     have KR := Lib.hid (show ∀ W, Ext wr W → Calls Tryz.prog 50 #[ux, uy, .slice a2 n k2, .slice a3 q k3] W (OrdOut W (cfR fs ds m R k D)) from fun W hW => by
      have ew := Ext.trans HX2.out hW
      rw [hZe]
      exact refrows_any ux uy _ _ R[k] R[D] n q fs ds W (hrx.ext ew) (hry.ext ew) (HC.out.ext ew) (HD.out.ext ew) HCH.out (by omega) (by omega) f2 f4)
     have HF2 := Lib.hid (show ∀ W, Ext wr W → W.cell? ⟨gr, orr + k, none⟩ = some ux ∧ W.cell? ⟨gr, orr + D, none⟩ = some uy ∧ W.cell? ⟨g, kp, none⟩ = some (.int .i64 (D : Int)) from
      fun W hW => ⟨((Ext.trans HX2.out hW).cell hgr).trans hux, ((Ext.trans HX2.out hW).cell hgr).trans huy, hcD W hW⟩)
     generalize cfR fs ds m R k D = Z at KR hstep hstop
     clear hux huy hrx hry hZe f1 f2 f3 f4 hcD hrows
     go_wp2_with fail
     refine wp_par 20 (fun
       | 0 => fun v _ => v = .int .i64 ((kp : Int) + 1)
       | 1 => fun v _ => v = .bool true
       | 2 => fun v _ => v = .bool true
       | 3 => fun v _ => v = .slice (some ⟨gr, orr, none⟩) R.length k1
       | 4 => fun v _ => v = .int .i64 (k : Int)
       | 5 => fun v _ => v = .pointer (some ⟨gr, orr + k, none⟩)
       | 6 => fun v _ => v = ux
       | 7 => fun v _ => v = .slice (some ⟨gr, orr, none⟩) R.length k1
       | 8 => fun v _ => v = .slice (some ⟨g, 0, none⟩) (k + 1) cap
       | 9 => fun v _ => v = .int .i64 ((kp : Int) + 1)
       | 10 => fun v _ => v = .int .i64 (kp : Int)
       | 11 => fun v _ => v = .pointer (some ⟨g, kp, none⟩)
       | 12 => fun v _ => v = .int .i64 (D : Int)
       | 13 => fun v _ => v = .pointer (some ⟨gr, orr + D, none⟩)
       | 14 => fun v _ => v = uy
       | 15 => fun v _ => v = .slice a2 n k2
       | 16 => fun v _ => v = .slice a3 q k3
       | 17 => fun v _ => v = .int .i64 Z
       | 18 => fun v _ => v = .bool (decide (Z < 0))
       | 19 => fun v _ => v = .bool (decide (Z < 0))
       | _ => fun _ _ => True) (by kernel_rfl) (by kernel_rfl) (by kernel_rfl) ?_ ?_
     ·simp (maxSteps := 20000000) only [List.take_succ_cons, List.take_zero, ParAll, Act.put, List.setIfInBounds_toArray, List.set_cons_succ, List.set_cons_zero]
      refine ⟨?_, ?_, ?_, ?_, ?_, ?_, ?_, ?_, ?_, ?_, ?_, ?_, ?_, ?_, ?_, ?_, ?_, ?_, ?_, ?_, trivial⟩
      iterate 17
       next =>
        intro vals W hx hd
        have hW := HF2.out W hx
        simp [PDeps, pdeps, Region.binds] at hd
        first
         | refine ParOb.plain rfl ?_
         | refine ParOb.wanted (by simp [Region.wanted, yielded, hd]) ?_
        go_simp
        exact ParPost.same fun _ _ => rfl
      ·intro vals W hx hd
       have hW := HF2.out W hx
       simp [PDeps, pdeps, Region.binds] at hd
       first
        | refine ParOb.plain rfl ?_
        | refine ParOb.wanted (by simp [Region.wanted, yielded, hd]) ?_
       go_simp
       refine Calls.mono (KR.out W hx) ?_
       rintro e w9 ⟨rfl, hb9⟩
       exact ⟨_, rfl, hb9, fun _ _ => rfl⟩
      iterate 2
       next =>
        intro vals W hx hd
        have hW := HF2.out W hx
        simp [PDeps, pdeps, Region.binds] at hd
        first
         | refine ParOb.plain rfl ?_
         | refine ParOb.wanted (by simp [Region.wanted, yielded, hd]) ?_
        go_simp
        exact ParPost.same fun _ _ => rfl
     intro vals W hx hf
     simp (maxSteps := 20000000) only [ParFacts, List.take_succ_cons, List.take_zero, and_true] at hf
     simp (maxSteps := 20000000) only [List.drop_succ_cons, List.drop_zero, List.take_succ_cons, List.take_zero, ParEnd, Act.put, List.setIfInBounds_toArray, List.set_cons_succ, List.set_cons_zero, hf]
     clear hf
     have hcW := (HF2.out W hx).2.2
     have HOe := Lib.hid (ownsRow_ext HO2.out hx)
     have HXe := Lib.hid (Ext.trans HX2.out hx)
     clear hx HF2 KR
     have hkp1 : (kp : Int) + 1 < (k : Int) + 1 ∨ (kp : Int) + 1 = (k : Int) := by omega
     have hkpI : (kp : Int) < (k : Int) := by omega
     cases hlv : decide (Z < 0)
     ·have hstop := Lib.hid (hstop.out (by have := of_decide_eq_false hlv; omega))
      clear hstep
      have HO9 := Lib.hid (show ((W.setCell ⟨g, kp + 1, none⟩ (.int .i64 (k : Int))).ownsRow w.heap.size 3 1 (.slice (some ⟨g, 0, none⟩) (k + 1) cap) (k + 1) (arr (upd e (kp + 1) k) (k + 1))) from arr_set e (k + 1) (kp + 1) k ▸ own_store HOe.out (by omega) _)
      have HX9 := Lib.hid (show Ext w (W.setCell ⟨g, kp + 1, none⟩ (.int .i64 (k : Int))) from Below.setCell HXe.out (own_block_ge HOe.out) _)
      obtain ⟨u9, hu9⟩ : ∃ u, W.cell? ⟨g, kp + 1, none⟩ = some u := ⟨_, own_cell HOe.out (arr_get e (k + 1) (kp + 1) (by omega))⟩
      have fz9 := own_free HOe.out (kp + 1)
      go_wp2_with fail
      generalize W.setCell ⟨g, kp + 1, none⟩ (.int .i64 (k : Int)) = w9 at HO9 HX9 ⊢
      go_wp2_with fail
      go_roundw
      case rel => exact ⟨k + 1, _, by omega, by go_num, HO9.out, HX9.out, fun h => by omega, hstop.out.1, hstop.out.2⟩
      case measure => simp [intOf]; omega
     ·have hstep := Lib.hid (hstep.out (of_decide_eq_true hlv))
      clear hstop
      have HO9 := Lib.hid (show ((W.setCell ⟨g, kp + 1, none⟩ (.int .i64 (D : Int))).ownsRow w.heap.size 3 1 (.slice (some ⟨g, 0, none⟩) (k + 1) cap) (k + 1) (arr (upd e (kp + 1) D) (k + 1))) from arr_set e (k + 1) (kp + 1) D ▸ own_store HOe.out (by omega) _)
      have HX9 := Lib.hid (show Ext w (W.setCell ⟨g, kp + 1, none⟩ (.int .i64 (D : Int))) from Below.setCell HXe.out (own_block_ge HOe.out) _)
      obtain ⟨u9, hu9⟩ : ∃ u, W.cell? ⟨g, kp + 1, none⟩ = some u := ⟨_, own_cell HOe.out (arr_get e (k + 1) (kp + 1) (by omega))⟩
      have fz9 := own_free HOe.out (kp + 1)
      go_wp2_with fail
      generalize W.setCell ⟨g, kp + 1, none⟩ (.int .i64 (D : Int)) = w9 at HO9 HX9 ⊢
      go_wp2_with fail
      go_roundw
      case rel => exact ⟨kp, _, by omega, by go_num, HO9.out, HX9.out, hstep.out⟩
      case measure => simp [intOf]
  ·obtain rfl : k = R.length := by omega
   have hltI : ¬ (R.length : Int) < (R.length : Int) := by omega
   go_wp2_with fail
   go_ret
   exact ⟨⟨_, d, rfl, ownsRow_reads HOw.out, HSor.out, HSm.out⟩, HXr.out⟩
end Go.Proofs.YtipokgedmfnlaaaGreatDoor

namespace Go.Proofs.YtipokgedmfnlaaaGreatDoor
open Go.RowKit Go.Lib
set_option maxRecDepth 100000

theorem arr_slice {w : World} {v : Value} {d : Nat → Nat} {n : Nat} (h : ReadsL w v (arr d n)) : ∃ ao cap, v = .slice ao n cap := by
 obtain ⟨ao, cap, e, _⟩ := intsAt h
 exact ⟨ao, cap, by rw [e, List.length_map, List.length_range]⟩
set_option maxHeartbeats 16000000 in
theorem law_orders (v cv dv : Value) (R : List (List V3)) (n : Nat) (xs : Nat → Int) (m : Nat) (ds : Nat → Bool) (w : World) (hR : RowsAt w v R) (hI : IntsAt w cv n xs) (hD : DescAt w dv m ds) (hG : Glob w) :
  Calls Tryz.prog 9 #[v, cv, dv] w fun e w' => e = .returned (.bool true) ∧ Below w.heap.size w w' := by
 have mixed : Tryz.prog.follows .mixedOrders = true := by kernel_rfl
 have HR := Lib.hid hR
 have HG := Lib.hid hG
 have HD := Lib.hid hD
 have HI := Lib.hid hI
 obtain ⟨ar, cr, hv, hcr, _, hcell⟩ := id hR
 obtain ⟨ac, cc, hcv, hcc, _⟩ := id hI
 obtain ⟨ad, cd, hdv, hcd, _⟩ := id hD
 have HCell := Lib.hid hcell
 clear hR hG hD hI hcell
 subst hv hcv hdv
 go_enter Tryz.func9, Tryz.ntmps9
 go_wp2_with fail
 refine Calls.mono (colls_any _ n xs w HI.out) ?_
 rintro e w1 ⟨⟨va, vb, L, rfl, ho, hp, hat, hlen⟩, hb1⟩
 obtain ⟨aa, ca, rfl, hca⟩ := ownsRow_slice ho
 obtain ⟨ab, cb, rfl, hcb⟩ := ownsRow_slice hp
 have HX1 := Lib.hid (show Ext w w1 from hb1)
 have HA := Lib.hid (collsAt_own ho hat fun W hW => HG.out.keep (Ext.trans hb1 hW))
 have HB := Lib.hid (collsRAt_own hp hat)
 have HCh := Lib.hid (fsL_chain hat)
 clear ho hp hat hb1 hca hcb hlen
 go_simp
 repeat (first | go_values | go_skip | go_guarded | go_step | go_upon)
 refine Calls.mono (few_any _ R w1 (HR.out.ext HX1.out)) ?_
 rintro e w3 ⟨⟨b, rfl, hfew⟩, rfl⟩
 cases b
 ·clear hfew
  go_wp2_with fail
  refine Calls.mono (awake23 _) ?_
  rintro e w3 ⟨rfl, hb3⟩
  have HX3 := Lib.hid (Ext.trans HX1.out hb3)
  clear hb3
  go_wp2_with fail
  go_ret
  exact ⟨rfl, HX3.out⟩
 have HFew := Lib.hid (hfew rfl)
 clear hfew
 have h30 : R.length ≤ 30 := HFew.out.1
 go_wp2_with fail
 go_loopw [10] (fun i wr => ∃ k : Nat, 1 ≤ k ∧ (k ≤ R.length ∨ R.length = 0) ∧ i = .int .i64 k ∧ (∀ r ∈ R.take k, r.length = (R.getD 0 []).length) ∧ Ext w1 wr) (fun i _ => R.length + 1 - (intOf i).toNat)
 case atStart => exact ⟨1, Nat.le_refl _, by omega, rfl, fun r hr => by
  cases R with
  | nil => simp at hr
  | cons a R => simp at hr; subst hr; rfl, Ext.refl _⟩
 case round =>
  obtain ⟨k, hk1, hk, rfl, hall, hx⟩ := hrel
  have HAll := Lib.hid hall
  have HX := Lib.hid hx
  clear hall hx
  by_cases hlt : k < R.length
  ·have hltI : (k : Int) < (R.length : Int) := by omega
   have h0I : (0 : Int) < (R.length : Int) := by omega
   obtain ⟨g, o, rfl, hg, hcl⟩ := HCell.out (by omega)
   obtain ⟨u, hu, a2, c2, rfl, hc2, _⟩ := hcl k R[k] (List.getElem?_eq_getElem hlt)
   obtain ⟨u0, hu0, a3, c3, rfl, hc3, _⟩ := hcl 0 R[0] (List.getElem?_eq_getElem (by omega))
   have HTk := Lib.hid (show R.take (k + 1) = R.take k ++ [R[k]] by rw [List.take_succ_eq_append_getElem hlt])
   have h00 : R.getD 0 [] = R[0] := by simp [List.getD_eq_getElem?_getD, show 0 < R.length by omega]
   rw [h00] at HAll
   have cu := ((Ext.trans HX1.out HX.out).cell (p := ⟨g, o + k, none⟩) hg).trans hu
   have cu0 := ((Ext.trans HX1.out HX.out).cell (p := ⟨g, o + 0, none⟩) hg).trans hu0
   rw [Nat.add_zero] at cu0
   generalize R[k] = r at cu hc2 HTk
   generalize hr0 : R[0] = r0 at cu0 hc3 HAll h00
   clear hcl hu hu0 hr0
   by_cases h1 : r.length = r0.length
   ·have h1b : ((r.length : Int) != (r0.length : Int)) = false := by rw [bne_eq_false_iff_eq]; omega
    go_wp2_with fail
    go_big_region_o
    go_wp2_with fail
    go_roundw
    case rel => exact ⟨k + 1, by omega, by omega, by go_num, fun y hy => by
     rw [h00]
     rw [HTk.out, List.mem_append, List.mem_singleton] at hy
     rcases hy with hy | rfl
     ·exact HAll.out y hy
     ·exact h1, ⟨HX.out.os, HX.out.tape, HX.out.output, HX.out.size, HX.out.block⟩⟩
    case measure => simp [intOf]; omega
   ·have h1b : ((r.length : Int) != (r0.length : Int)) = true := by rw [bne_iff_ne]; omega
    go_wp2_with fail
    go_big_region_o
    go_wp2_with fail
    refine Calls.mono (awake23 _) ?_
    rintro e w3 ⟨rfl, hb3⟩
    have HX3 := Lib.hid (Ext.trans HX1.out (Ext.trans (show Ext w1 wr.drew from ⟨HX.out.os, HX.out.tape, HX.out.output, HX.out.size, HX.out.block⟩) hb3))
    clear hb3
    go_wp2_with fail
    go_ret
    exact ⟨rfl, HX3.out⟩
  ·have hltI : ¬ (k : Int) < (R.length : Int) := by omega
   have HOne := Lib.hid (show ∀ r ∈ R, r.length = (R.getD 0 []).length from fun r hr => HAll.out r (by rw [List.take_of_length_le (by omega)]; exact hr))
   clear HAll
   have e1 := Ext.trans HX1.out HX.out
   have KO := Lib.hid (order_any _ _ _ R L.length m (R.getD 0 []).length (fsL L) ds wr (HR.out.ext e1) HFew.out (HA.out.ext HX.out) (HD.out.ext e1) HCh.out HOne.out fun W hW => HG.out.keep (Ext.trans e1 hW))
   clear e1
   go_wp2_with fail
   refine Calls.mono KO.out ?_
   rintro e w7 ⟨⟨vo, d, rfl, hrd, hsor, hsm⟩, hb7⟩
   obtain ⟨ao, co, rfl⟩ := arr_slice hrd
   have HX7 := Lib.hid (Ext.trans HX.out hb7)
   have HRd := Lib.hid (show ReadsL w7 _ (arr d R.length) from hrd)
   have HSor := Lib.hid hsor
   have HSm := Lib.hid hsm
   clear hrd hsor hsm hb7 KO
   go_wp2_with fail
   refine Calls.mono (refsort_any _ _ _ R L.length m (R.getD 0 []).length (fsL L) ds w7 (HR.out.ext (Ext.trans HX1.out HX7.out)) HFew.out (HB.out.ext HX7.out) (HD.out.ext (Ext.trans HX1.out HX7.out)) HCh.out HOne.out) ?_
   rintro e w8 ⟨⟨vs, d', rfl, hrd2, hsor2, hsm2⟩, hb8⟩
   have hne := HSor.out.uniq (chain_cfR HCh.out ds _ R).cf HSm.out hsor2 hsm2
   have KS := Lib.hid (sameints_any _ _ _ w8 (show ReadsL w8 _ (arr d' R.length) from arr_ext hne ▸ HRd.out.ext hb8) hrd2 (by simp; omega))
   obtain ⟨aos, cs, rfl⟩ := arr_slice hrd2
   have HX8 := Lib.hid (Ext.trans HX1.out (Ext.trans HX7.out hb8))
   clear hrd2 hsor2 hsm2 hb8 hne
   go_wp2_with fail
   refine Calls.mono KS.out ?_
   rintro e w9 ⟨rfl, hb9⟩
   have HX9 := Lib.hid (Ext.trans HX8.out hb9)
   clear hb9
   go_wp2_with fail
   refine Calls.mono (awake23 _) ?_
   rintro e w10 ⟨rfl, hb10⟩
   have HX10 := Lib.hid (Ext.trans HX9.out hb10)
   clear hb10
   go_wp2_with fail
   go_ret
   exact ⟨rfl, HX10.out⟩
end Go.Proofs.YtipokgedmfnlaaaGreatDoor

namespace Go.Proofs.YtipokgedmfnlaaaGreatDoor.execOrders
open Go.ChangeShapes Go.WideShapes Go.ChangeAt Go.RowKit Go.ChangeMaps bindFrame
set_option maxRecDepth 100000

theorem contract (H : Type) (enc : TypeId × Value → H) (W : World) (base : Nat) (args : Array Value) (ds gs : List (DataW H)) (before : List MemPlace)
  (hval : ∀ (j : Nat) t v, Tryz.f9.params[j]? = some t → args[j]? = some v → Value.okWide Tryz.prog W .any base t v)
  (hW : DataW.Whole enc Tryz.prog Tryz.f9.params.toList Rows.execOrdersSpec.vars false W args.toList ds gs before) (hG : Glob W) :
  Calls Tryz.prog 9 args W fun e W' => ∃ v, e = .returned v ∧ Rows.execOrdersSpec.post enc Tryz.prog Tryz.f9 false true false false W args v W' := by
 have hW' := hW
 obtain ⟨p, q, hA0, hV, rfl, hfz, hnd⟩ := hW
 have hA : DataW.TrodAll enc Tryz.prog W 0 (fun _ => true) true Tryz.f9.params.toList args.toList ds p := hA0
 rw [Tryz.params9] at hA hval
 obtain ⟨rfl, rfl⟩ := trodVars_none hV
 simp only [List.append_nil] at hW'
 have hlt : ∀ x ∈ p, x.block < W.heap.size := fun x hx => by simpa using hW'.lt x hx

 obtain ⟨v0, v1, v2, d0, d1, d2, p0, p1, p2, rfl, rfl, hp, h0, h1, h2⟩ := args3 hA
 have hlaw : Calls Tryz.prog 9 #[v0, v1, v2] W fun e w' => e = .returned (.bool true) ∧ Below W.heap.size W w' := by
  clear hW' hlt hA0 hA hp hfz hnd
  obtain ⟨R0, rr0, ri0⟩ := open_rows (hval 0 22 v0 rfl rfl) h0
  obtain ⟨n1, xs1, ii1⟩ := open_intsAt (hval 1 40 v1 rfl rfl) h1
  obtain ⟨n2, bs2, bb2⟩ := open_bools (hval 2 88 v2 rfl rfl) h2
  exact law_orders v0 v1 v2 R0 n1 xs1 n2 bs2 W rr0 ii1 bb2 hG
 refine hlaw.mono fun e W' ⟨he, hb⟩ => ?_
 subst he
 exact ⟨_, rfl, _, [], _, [], p, [], hW', trodAll_mk1 (shut_bool Tryz.underlying4 _), trodAll_keep laidOut (by kernel_rfl) hA0 hb hlt, rfl, hb.frame _, fun h => by cases h⟩

theorem kIn : (Rows.execOrdersRow.inPlace == Tryz.pinned.checked.prog.inPlace 9) = true := by kernel_rfl
theorem kUn : (Rows.execOrdersRow.unfollowed == Tryz.pinned.checked.prog.unfollowed 9) = true := by kernel_rfl
theorem kRe : (Rows.execOrdersRow.recurses == Tryz.pinned.checked.prog.recurses 9) = true := by kernel_rfl
theorem kNa : (Rows.execOrdersRow.named == Tryz.pinned.checked.prog.varsNamed 9) = true := by kernel_rfl
theorem kGo : false = Rows.execOrdersRow.goesBy Tryz.pinned.checked.prog := by kernel_rfl
theorem joined : joinedFacts Tryz.pinned.checked.prog 9 Tryz.f9 (OpenSpec.ofChange Rows.execOrdersSpec).bare Rows.execOrdersRow = true := by
 unfold joinedFacts
 simp only [Bool.and_eq_true]
 exact ⟨⟨⟨⟨⟨⟨⟨⟨⟨⟨⟨⟨⟨⟨⟨⟨⟨⟨⟨⟨⟨⟨⟨⟨⟨⟨⟨⟨⟨⟨⟨by kernel_rfl, by kernel_rfl⟩, by kernel_rfl⟩, by kernel_rfl⟩, by kernel_rfl⟩, by kernel_rfl⟩, by kernel_rfl⟩, by kernel_rfl⟩, by kernel_rfl⟩, kIn⟩, kUn⟩, kRe⟩, kNa⟩, by kernel_rfl⟩, by kernel_rfl⟩, by kernel_rfl⟩, by kernel_rfl⟩, by kernel_rfl⟩, by kernel_rfl⟩, by kernel_rfl⟩, by kernel_rfl⟩, by kernel_rfl⟩, by kernel_rfl⟩, by kernel_rfl⟩, by kernel_rfl⟩, by kernel_rfl⟩, by kernel_rfl⟩, by kernel_rfl⟩, by kernel_rfl⟩, by kernel_rfl⟩, by kernel_rfl⟩, by kernel_rfl⟩

theorem reads (os : Os) {H : Type} (enc : TypeId × Value → H) : ∃ places, DataW.whole enc Tryz.prog ((World.laidAll Tryz.prog os Rows.execOrdersRow.laid).forCall (fun _ _ => 0) ⟨#[], #[.slice none 0 0, .slice none 0 0, .slice none 0 0], []⟩).memory Tryz.f9.params.toList Rows.execOrdersSpec.vars false (#[.slice none 0 0, .slice none 0 0, .slice none 0 0] : Array Value).toList 8 = some ([.nil, .nil, .nil], [], places) :=
 ⟨[], by kernel_rfl⟩

theorem lifted (os : Os) (started : os.Started) (H : Type) (enc : TypeId × Value → H) (F : Stop.Interp) :
  ReturnsInHanded {} Tryz.checked os 9 .any ((OpenSpec.ofChange Rows.execOrdersSpec).preRow enc Tryz.prog Tryz.f9 Rows.execOrdersRow.domain false Rows.execOrdersRow.laid) (((OpenSpec.ofChange Rows.execOrdersSpec).at F).post enc Tryz.prog Tryz.f9 false true false false) := by
 obtain ⟨places, hx⟩ := reads os enc
 refine returnsInHanded_of_row (C := Tryz.checked) (s := OpenSpec.ofChange Rows.execOrdersSpec) own started (by kernel_rfl) Tryz.func9
  (witness os #[.slice none 0 0, .slice none 0 0, .slice none 0 0] (by kernel_rfl) (OpenSpec.preRow_of_cond 8 hx (by kernel_rfl) (fun k hk => by cases hk) (by kernel_rfl) (laid_met os _))) ?_
 intro W base args ds gs before hval hW _ _ _ hL hsh _
 exact contract H enc W base args ds gs before hval hW (glob_of hL hsh)

theorem said : Rows.ExecOrdersSaid :=
 OpenClaim.holds_of_cond 9 Tryz.f9 rfl rfl rfl rfl rfl rfl rfl ⟨rfl, rfl, rfl, rfl, rfl⟩ rfl rfl rfl rfl rfl (by kernel_rfl) Tryz.func9 joined
  (of_decide_eq_true (by kernel_rfl)) (by unfold Func.isWrapper; first | (rw [if_pos (by decide +kernel)]; kernel_rfl) | (rw [if_neg (by decide +kernel)]; exact ⟨rfl, rfl⟩))
  (fun os started H enc _ F => by rw [OpenClaim.pre_eq_preRow]; exact lifted os started H enc F)

theorem plain (f : FuncId) (fn : Func) (hf : Tryz.pinned.checked.prog.funcNamed Rows.execOrdersRow.func = some f) (hfn : Tryz.pinned.checked.prog.funcs[f]? = some fn) :
  true = Tryz.pinned.checked.prog.looks [] ∧ ∀ (j : Nat) t, fn.params[j]? = some t → Tryz.pinned.checked.prog.wantsStandIn t = false := by
 obtain rfl : f = 9 := Option.some.inj ((show Tryz.prog.funcNamed Rows.execOrdersRow.func = some 9 by kernel_rfl).symm.trans hf) |>.symm
 obtain rfl : fn = Tryz.f9 := (Option.some.inj (Tryz.func9.symm.trans hfn)).symm
 refine ⟨by kernel_rfl, fun j t ht => ?_⟩
 rw [Tryz.params9] at ht
 exact all_of (show #[22, 40, 88].all (fun t => !Tryz.prog.wantsStandIn t) = true by kernel_rfl) (Array.mem_of_getElem? ht)

/-- THE CARD. -/
theorem card : Rows.ExecOrdersCardSaid :=
 Claim7.holds_tied_plain_at .later [] _ _ _ _ said (fun _ h => by cases h) (by kernel_rfl) (fun _ h => by cases h) execOrders_row_tie rfl ⟨rfl, rfl⟩ (by kernel_rfl) rfl plain kGo
end Go.Proofs.YtipokgedmfnlaaaGreatDoor.execOrders
