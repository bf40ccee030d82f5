/-
 The law of rows in order, walked: all of them, each once, none above the next. The law of rows in order holds: for any rows, any kind and level, either way round, the call returns true, and the arguments read as they did. No condition; the listed variables of Go's library read as its text lays them (the card ties them).
-/
import Derived.Test.YtipokgedmfnlaaaGreatDoorOrder
import Derived.Test.YtipokgedmfnlaaaGreatDoorColls
import Derived.Test.YtipokgedmfnlaaaGreatDoorCuts
import Derived.Test.YtipokgedmfnlaaaGreatDoorBindFrame
import Derived.Test.YtipokgedmfnlaaaGreatDoorOrd
namespace Go.Proofs.YtipokgedmfnlaaaGreatDoor
open Go.RowKit Go.Lib
set_option maxRecDepth 100000

/-- The ways of collations in hand. -/
def fsL (L : List C5) (j : Nat) : List UInt8 → List UInt8 → Int := match L[j]? with
 | some x => x.f
 | none => collC 1 0 false false
theorem fsL_chain {L : List C5} {w : World} (h : ∀ x ∈ L, x.At w) (j : Nat) : Chain (fsL L j) := by
 unfold fsL
 split
 ·rename_i x hx
  exact (h x (List.mem_of_getElem? hx)).chain
 ·exact chain_coll _ _ _ _
theorem flatC_length (L : List C5) : (flatC L).length = L.length * 5 := by
 induction L with
 | nil => rfl
 | cons x L ih => simp [flatC, C5.c] at *; omega
theorem flatC_get : ∀ (L : List C5) (j : Nat) (x : C5), L[j]? = some x → ∀ k, k < 5 → (flatC L)[j * 5 + k]? = x.c[k]?
 | y :: L, 0, x, h, k, hk => by
  obtain rfl : y = x := by simpa using h
  rw [Nat.zero_mul, Nat.zero_add]
  simp only [flatC, List.flatMap_cons]
  rw [List.getElem?_append_left (by simp [C5.c]; omega)]
 | y :: L, j + 1, x, h, k, hk => by
  have ih := flatC_get L j x (by simpa using h) k hk
  simp only [flatC, List.flatMap_cons] at ih ⊢
  rw [List.getElem?_append_right (by simp [C5.c]; omega), ← ih]
  congr 1
  simp [C5.c]; omega
theorem collsAt_own {w : World} {B : Nat} {v : Value} {L : List C5} (ho : w.ownsRow B 25 5 v L.length (flatC L)) (hat : ∀ x ∈ L, x.At w) (hG : ∀ W, Ext w W → Glob W) : CollsAt w v L.length (fsL L) := by
 obtain ⟨ao, cap, hv, hcap⟩ := ownsRow_slice ho
 refine ⟨ao, cap, hv, hcap, fun h0 => ?_, fun j hj => by unfold fsL; rw [List.getElem?_eq_none hj]⟩
 obtain ⟨_, ho⟩ := ho
 rcases ho with ⟨_, h1⟩ | ⟨g, cap', cur, hv', _, hb, hn, _, hs, ht⟩
 ·omega
 ·rw [hv] at hv'
  simp only [Value.slice.injEq] at hv'
  obtain ⟨rfl, _, _⟩ := hv'
  refine ⟨g, 0, rfl, lt_of_block hb, fun j hj => ?_⟩
  have hx := List.getElem?_eq_getElem hj
  have hc : ∀ k, k < 5 → w.cell? ⟨g, 0 + j * 5 + k, none⟩ = L[j].c[k]? := fun k hk => by
   rw [cell_of_row w g _ cur _ (0, 0) hb, ← flatC_get L j L[j] hx k hk, ← ht, List.getElem?_take, if_pos (by omega), Array.getElem?_toList, Nat.zero_add]
  have hA := hat L[j] (List.getElem_mem hj)
  refine ⟨L[j].K, L[j].lv, L[j].sh, L[j].p, by simpa [C5.c] using hc 0 (by omega), by simpa [C5.c] using hc 1 (by omega), by simpa [C5.c] using hc 2 (by omega), by simpa [C5.c] using hc 3 (by omega), by simpa [C5.c] using hc 4 (by omega), ?_⟩
  have : fsL L j = L[j].f := by unfold fsL; rw [hx]
  rw [this]
  exact hA.inC hG
/-- Was the place told among the first k? -/
def seenB (d : Nat → Nat) (k j : Nat) : Bool := (List.range k).any fun i => d i == j
theorem seenB_succ (d : Nat → Nat) (k j : Nat) : seenB d (k + 1) j = (seenB d k j || d k == j) := by
 unfold seenB
 rw [List.range_succ, List.any_append]
 simp
theorem Sor.inj {cf : Nat → Nat → Int} (hc : ∀ x, cf x x = 0) {d : Nat → Nat} {n : Nat} (h : Sor cf d 0 n) {i j : Nat} (hij : i < j) (hj : j < n) : d i ≠ d j := fun e => by
 have := h i j (Nat.zero_le _) hij hj
 rw [e] at this
 unfold LT at this
 rw [hc] at this
 omega
theorem Sor.fresh {cf : Nat → Nat → Int} (hc : ∀ x, cf x x = 0) {d : Nat → Nat} {n : Nat} (h : Sor cf d 0 n) {k : Nat} (hk : k < n) : seenB d k (d k) = false := by
 unfold seenB
 rw [List.any_eq_false]
 intro i hi
 have := h.inj hc (List.mem_range.1 hi) hk
 simpa using this
/-- The one column's order. -/
theorem cfR_one (fs : Nat → List UInt8 → List UInt8 → Int) (ds : Nat → Bool) (R : List (List V3)) (a b : Nat) (x y : V3) (ha : R[a]? = some [x]) (hb : R[b]? = some [y]) : cfR fs ds 1 R a b = colK fs ds 0 x y := by
 unfold cfR ordV ordV
 simp only [List.getD_eq_getElem?_getD, ha, hb]
 simp
 exact fun h => h.symm
theorem infoBool : (Tryz.prog.info? 4).map (fun i => (i.zero, i.size, i.bytes)) = some (some (.bool false), 1, 1) := by kernel_rfl
set_option maxHeartbeats 16000000 in
theorem law_stable (v : Value) (R : List (List V3)) (kind level : Int) (desc : Bool) (w : World) (hR : RowsAt w v R) (hG : Glob w) :
  Calls Tryz.prog 8 #[v, .int .i64 kind, .int .i64 level, .bool desc] w fun e w' => e = .returned (.bool true) ∧ Below w.heap.size w w' := by
 have mixed : Tryz.prog.follows .mixedOrders = true := by kernel_rfl
 have HR := Lib.hid hR
 have HG := Lib.hid hG
 obtain ⟨ar, cr, hv, _⟩ := id hR
 clear hR hG
 subst hv
 go_enter Tryz.func8, Tryz.ntmps8
 go_wp2_with fail
 refine Calls.mono (make_k kind level w) ?_
 rintro e w1 ⟨⟨x, rfl, hat, e1, e2, e3⟩, hb1⟩
 clear e1 e2 e3
 obtain ⟨K, lv, sh, p, q, qn, qc, f⟩ := x
 have HAT1 := Lib.hid hat
 have HX1 := Lib.hid (show Ext w w1 from hb1)
 clear hat hb1
 dsimp only [C5.c, C5.r]
 have hA := (Blk.new w1 #[.int .i64 K, .int .i64 lv, .bool sh, .bool false, .pointer p] 25 rfl).alloc (.cells #[.int .i64 K, .int .i64 lv, .bool sh, .bool false, .slice q qn qc] 30)
 have hB := Blk.new (w1.alloc (.cells #[.int .i64 K, .int .i64 lv, .bool sh, .bool false, .pointer p] 25)) #[.int .i64 K, .int .i64 lv, .bool sh, .bool false, .slice q qn qc] 30 (n := w1.heap.size + 1) (by simp)
 have hx2 := ((Ext.refl w1).alloc (.cells #[.int .i64 K, .int .i64 lv, .bool sh, .bool false, .pointer p] 25)).alloc (.cells #[.int .i64 K, .int .i64 lv, .bool sh, .bool false, .slice q qn qc] 30)
 go_simp
 repeat (first | go_values | go_skip | go_guarded | go_step | go_upon)
 have HX2 := Lib.hid (Ext.trans HX1.out hx2)
 have HAT2 := Lib.hid (HAT1.out.ext hx2)
 have HA2 := Lib.hid hA
 have HB2 := Lib.hid hB
 generalize (w1.alloc (.cells #[.int .i64 K, .int .i64 lv, .bool sh, .bool false, .pointer p] 25)).alloc (.cells #[.int .i64 K, .int .i64 lv, .bool sh, .bool false, .slice q qn qc] 30) = W2 at HX2 HAT2 HA2 HB2 ⊢
 clear hA hB hx2 HAT1 HX1
 generalize w1.heap.size = bA at HA2 HB2 ⊢
 have HR2 := Lib.hid (HR.out.ext HX2.out)
 refine Calls.mono (few_any _ R W2 HR2.out) ?_
 rintro e w3 ⟨⟨b, rfl, hfew⟩, rfl⟩
 cases b
 ·clear hfew
  go_wp2_with fail
  refine Calls.mono (awake23 _) ?_
  rintro e w3 ⟨rfl, hb3⟩
  have HX3 := Lib.hid (Ext.trans HX2.out hb3)
  clear hb3
  go_wp2_with fail
  go_ret
  exact ⟨rfl, HX3.out⟩
 have HFew := Lib.hid (hfew rfl)
 clear hfew
 go_wp2_with fail
 obtain ⟨_, _, he, hcr, _, hcell⟩ := id HR2.out
 simp only [Value.slice.injEq] at he
 obtain ⟨rfl, _, rfl⟩ := he
 have HCell := Lib.hid hcell
 clear hcell
 have h30 : R.length ≤ 30 := HFew.out.1
 go_loopw [12] (fun i wr => ∃ k : Nat, k ≤ R.length ∧ i = .int .i64 k ∧ (∀ r ∈ R.take k, r.length = 1) ∧ wr = W2) (fun i _ => R.length - (intOf i).toNat)
 case atStart => exact ⟨0, Nat.zero_le _, rfl, fun r hr => by simp at hr, rfl⟩
 case round =>
  obtain ⟨k, hk, rfl, hall, hwr⟩ := hrel
  obtain rfl := hwr.symm
  have HAll := Lib.hid hall
  clear hall
  by_cases hlt : k < R.length
  ·have hltI : (k : Int) < (R.length : Int) := by omega
   obtain ⟨g, o, rfl, hg, hcl⟩ := HCell.out (by omega)
   obtain ⟨u, hu, a2, c2, rfl, hc2, hc3⟩ := hcl k R[k] (List.getElem?_eq_getElem hlt)
   have HTk := Lib.hid (show R.take (k + 1) = R.take k ++ [R[k]] by rw [List.take_succ_eq_append_getElem hlt])
   generalize R[k] = r at hu hc2 hc3 HTk
   clear hcl hc3
   by_cases h1 : r.length = 1
   ·have h1b : ((r.length : Int) != 1) = false := by rw [bne_eq_false_iff_eq]; omega
    go_wp2_with fail
    go_roundw
    case rel => exact ⟨k + 1, by omega, by go_num, fun y hy => by
     rw [HTk.out, List.mem_append, List.mem_singleton] at hy
     rcases hy with hy | rfl
     ·exact HAll.out y hy
     ·exact h1, trivial⟩
    case measure => simp [intOf]; omega
   ·have h1b : ((r.length : Int) != 1) = true := by rw [bne_iff_ne]; omega
    go_wp2_with fail
    refine Calls.mono (awake23 _) ?_
    rintro e w3 ⟨rfl, hb3⟩
    have HX3 := Lib.hid (Ext.trans HX2.out hb3)
    clear hb3
    go_wp2_with fail
    go_ret
    exact ⟨rfl, HX3.out⟩
  ·have hltI : ¬ (k : Int) < (R.length : Int) := by omega
   have HOne := Lib.hid (show ∀ r ∈ R, r.length = 1 from fun r hr => HAll.out r (by rw [List.take_of_length_le (by omega)]; exact hr))
   clear HAll
   go_wp2_with fail
   refine Calls.mono (colls_any _ 1 (fun _ => 0) _ ⟨_, _, rfl, Nat.le_refl _, fun _ => ⟨_, _, rfl, by simp, fun j hj => ?_⟩⟩) ?_
   ·obtain rfl : j = 0 := by omega
    exact (Blk.new _ _ _ rfl).cell 0
   rintro e w4 ⟨⟨va, vb, L, rfl, ho, hp, hatL, hlen⟩, hb4⟩
   obtain ⟨y, rfl⟩ : ∃ y, L = [y] := by
    match L, hlen with
    | [y], _ => exact ⟨y, rfl⟩
   have ho1 : w4.ownsRow (W2.heap.size + 1) 25 5 va 1 y.c := by simpa [flatC] using ho
   have hlo := loose_C (L := [y]) (w := w4) (v := va) ho (fun h => by cases h) (fun z hz => by
    obtain rfl : z = y := by simpa using hz
    exact (hatL z (by simp)).k13.2)
   obtain ⟨_, ho1⟩ := ho1
   rcases ho1 with ⟨_, h1⟩ | ⟨g, cap, cur, rfl, hge, hblk, hn1, _, hcs, _⟩
   ·omega
   have hLoose := hlo g rfl
   have hx4 : Ext W2 w4 := Ext.trans ((Ext.refl W2).alloc (.cells #[.int .i64 0] 3)) hb4
   have HX4 := Lib.hid hx4
   have HA4 := Lib.hid (HA2.out.keep hx4)
   have HB4 := Lib.hid (HB2.out.keep hx4)
   have HAT4 := Lib.hid (HAT2.out.ext hx4)
   have HG4 := Lib.hid (show Blk w4 g cur 25 from hblk)
   have HLo := Lib.hid hLoose
   have hu : ∀ k, k < 5 → ∃ u, w4.cell? ⟨g, k, none⟩ = some u := fun k hk => ⟨_, (HG4.out.cell k).trans (Array.getElem?_eq_getElem (by omega))⟩
   obtain ⟨u0, hu0⟩ := hu 0 (by omega)
   obtain ⟨u1, hu1⟩ := hu 1 (by omega)
   obtain ⟨u2, hu2⟩ := hu 2 (by omega)
   obtain ⟨u3, hu3⟩ := hu 3 (by omega)
   obtain ⟨u4, hu4⟩ := hu 4 (by omega)
   have hfz := HG4.out.free
   obtain ⟨cA, fA⟩ := HA4.out.facts
   clear ho hp hatL hlen hb4 hlo hLoose hblk hx4 hu
   dsimp only [List.length_singleton]
   go_simp
   repeat (first | go_values | go_skip | go_guarded | go_step | go_upon)
   -- PART2
   have hb5 := ((((HG4.out.set 0 (.int .i64 K)).set 1 (.int .i64 lv)).set 2 (.bool sh)).set 3 (.bool false)).set 4 (.pointer p)
   have hx5 : Ext W2 (((((w4.setCell ⟨g, 0, none⟩ (.int .i64 K)).setCell ⟨g, 1, none⟩ (.int .i64 lv)).setCell ⟨g, 2, none⟩ (.bool sh)).setCell ⟨g, 3, none⟩ (.bool false)).setCell ⟨g, 4, none⟩ (.pointer p)) := (((((show Below W2.heap.size W2 w4 from HX4.out).setCell (by show W2.heap.size ≤ g; omega) _).setCell (by show W2.heap.size ≤ g; omega) _).setCell (by show W2.heap.size ≤ g; omega) _).setCell (by show W2.heap.size ≤ g; omega) _).setCell (by show W2.heap.size ≤ g; omega) _
   have hat5 : (⟨K, lv, sh, p, q, qn, qc, f⟩ : C5).At (((((w4.setCell ⟨g, 0, none⟩ (.int .i64 K)).setCell ⟨g, 1, none⟩ (.int .i64 lv)).setCell ⟨g, 2, none⟩ (.bool sh)).setCell ⟨g, 3, none⟩ (.bool false)).setCell ⟨g, 4, none⟩ (.pointer p)) := HAT4.out.agree (by simp) fun i hi => by
    by_cases e : i = g
    ·subst e; exact .inr HLo.out
    ·refine .inl ?_
     rw [heap_setCell_other _ _ _ _ e, heap_setCell_other _ _ _ _ e, heap_setCell_other _ _ _ _ e, heap_setCell_other _ _ _ _ e, heap_setCell_other _ _ _ _ e]
   have hs5 : w4.heap.size = (((((w4.setCell ⟨g, 0, none⟩ (.int .i64 K)).setCell ⟨g, 1, none⟩ (.int .i64 lv)).setCell ⟨g, 2, none⟩ (.bool sh)).setCell ⟨g, 3, none⟩ (.bool false)).setCell ⟨g, 4, none⟩ (.pointer p)).heap.size := by simp
   rw [hs5]
   generalize ((((w4.setCell ⟨g, 0, none⟩ (.int .i64 K)).setCell ⟨g, 1, none⟩ (.int .i64 lv)).setCell ⟨g, 2, none⟩ (.bool sh)).setCell ⟨g, 3, none⟩ (.bool false)).setCell ⟨g, 4, none⟩ (.pointer p) = W5 at hb5 hx5 hat5 ⊢
   have hown5 : CollsAt W5 (.slice (some ⟨g, 0, none⟩) 1 cap) 1 (fsL [⟨K, lv, sh, p, q, qn, qc, f⟩]) := by
    refine ⟨_, _, rfl, hn1, fun _ => ⟨g, 0, rfl, hb5.lt, fun j hj => ?_⟩, fun j hj => by unfold fsL; rw [List.getElem?_eq_none hj]⟩
    obtain rfl : j = 0 := by omega
    have hsz : 5 ≤ cur.size := by omega
    refine ⟨K, lv, sh, p, ?_, ?_, ?_, ?_, ?_, hat5.inC fun W hW => HG.out.keep (Ext.trans HX2.out (Ext.trans hx5 hW))⟩
    all_goals
     rw [hb5.cell]
     simp [Array.getElem?_setIfInBounds]
     first | done | omega | (intro e; rw [e] at hsz; simp at hsz; done)
   have hdesc : DescAt (W5.alloc (.cells #[.bool desc] 4)) (.slice (some ⟨W5.heap.size, 0, none⟩) 1 1) 1 (fun j => if j = 0 then desc else false) := by
    refine ⟨_, _, rfl, Nat.le_refl _, fun _ => ⟨_, 0, rfl, by simp, fun j hj => ?_⟩, fun j hj => if_neg (by omega)⟩
    obtain rfl : j = 0 := by omega
    exact (Blk.new W5 _ _ rfl).cell 0
   have hxd := (Ext.refl W5).alloc (.cells #[.bool desc] 4)
   have hxd2 : Ext W2 (W5.alloc (.cells #[.bool desc] 4)) := Ext.trans hx5 hxd
   have hch : ∀ i, Chain (fsL [⟨K, lv, sh, p, q, qn, qc, f⟩] i) := fsL_chain (w := W5) fun z hz => by
    obtain rfl : z = ⟨K, lv, sh, p, q, qn, qc, f⟩ := by simpa using hz
    exact hat5
   have HCh := Lib.hid hch
   refine Calls.mono (order_any _ _ _ R 1 1 1 _ _ _ (HR2.out.ext hxd2) HFew.out (hown5.ext hxd) hdesc hch HOne.out fun W hW => HG.out.keep (Ext.trans HX2.out (Ext.trans hxd2 hW))) ?_
   rintro e w7 ⟨⟨vo, d, rfl, hrd, hsor, hsm⟩, hb7⟩
   obtain ⟨ao, capo, rfl, hcapo, hcl⟩ := intsAt hrd
   have HX7 := Lib.hid (Ext.trans hxd2 hb7)
   have HB7 := Lib.hid ((HB2.out.keep hxd2).keep hb7)
   have HAT7 := Lib.hid ((hat5.ext hxd).ext hb7)
   have HL7 := Lib.hid (show ∀ W, Ext w7 W → ∀ k, k < R.length → ∃ g, ao = some ⟨g, 0, none⟩ ∧ W.cell? ⟨g, k, none⟩ = some (.int .i64 (d k : Int)) from fun W hW k hk => by
    obtain ⟨g, h1, h2⟩ := hcl W hW k (by simpa using hk)
    exact ⟨g, h1, by simpa using h2⟩)
   have HSor := Lib.hid hsor
   have HSm := Lib.hid hsm
   rw [List.length_map, List.length_range] at hcapo ⊢
   clear hb5 hx5 hat5 hs5 hown5 hdesc hxd hxd2 hch hrd hsor hsm hcl hb7 hu0 hu1 hu2 hu3 hu4 hfz cA fA HA4 HB4 HAT4 HG4 HLo HX4
   obtain ⟨iB, hiB, hz0, hz1, hz2⟩ := info_parts infoBool
   go_wp2_with (at_make; refine wpList_make_full _ rfl _ _ 88 rfl w7.heap.size 4 iB (.bool false) 1 Tryz.underlying88 hiB hz0 hz1 .i64 .i64 _ _ R.length rfl rfl rfl rfl (by rw [hz2]; omega) (by unfold maxLen; omega) (Nat.le_refl _) ?_; intro w8 hown hgr)
   have hb8 : Ext w7 w8 := ⟨hgr.os, hgr.tape, hgr.output, hgr.size, fun i hi => hgr.block i hi (by simp)⟩
   obtain ⟨_, hown⟩ := hown
   rcases hown with ⟨h1, _⟩ | ⟨gs, cps, cur2, hvs, _, hblk2, _, _, hcs2, htk2⟩
   ·cases h1
   simp only [Value.slice.injEq, Option.some.injEq, Addr.mk.injEq, and_true, true_and] at hvs
   obtain ⟨rfl, rfl⟩ := hvs
   have hS8 : Blk w8 w7.heap.size cur2 4 := hblk2
   have hf8 : ∀ j, j < R.length → cur2[j]? = some (.bool (seenB d 0 j)) := fun j hj => by
    have h1 := congrArg (fun l : List Value => l[j]?) htk2
    simp only [show (Value.bool false).cells = #[.bool false] from rfl, toList_madeCells_one, Nat.mul_one] at h1
    rw [List.getElem?_take, if_pos hj, Array.getElem?_toList] at h1
    rw [h1, List.getElem?_replicate, if_pos hj]
    rfl
   have hz8 : cur2.size = R.length := by rw [hcs2]; omega
   have HS8 := Lib.hid hS8
   have HF8 := Lib.hid hf8
   have HX8 := Lib.hid hb8
   clear hgr hb8 hblk2 hcs2 htk2 hS8 hf8 hiB hz0 hz1 hz2
   generalize hsb : w7.heap.size = sb at HS8 ⊢
   have HSb := Lib.hid hsb
   clear hsb
   go_wp2_with fail
   go_loopw [18, 19] (fun i _ wz => ∃ (k : Nat) (cs : Array Value), k ≤ R.length ∧ i = .int .i64 k ∧ Ext w7 wz ∧ Blk wz sb cs 4 ∧ cs.size = R.length ∧ ∀ j, j < R.length → cs[j]? = some (.bool (seenB d k j))) (fun i _ _ => R.length - (intOf i).toNat)
   case atStart => exact ⟨0, cur2, Nat.zero_le _, rfl, HX8.out, HS8.out, hz8, HF8.out⟩
   case round =>
    obtain ⟨k, cs, hk, rfl, hx, hS, hcz, hf⟩ := hrel
    have HX := Lib.hid hx
    have HS := Lib.hid hS
    have HF := Lib.hid hf
    clear hx hS hf HS8 HF8 HX8 hz8
    by_cases hlt : k < R.length
    ·have hltI : (k : Int) < (R.length : Int) := by omega
     obtain ⟨go, rfl, hck⟩ := HL7.out wr HX.out k hlt
     have hDn := HSm.out k hlt
     have hfr := HSor.out.fresh (fun x => (chain_cfR HCh.out _ 1 R).refl x) hlt
     have hsD := (HS.out.cell (d k)).trans (HF.out (d k) hDn)
     rw [hfr] at hsD
     have hfS := HS.out.free (d k)
     have HS' := Lib.hid (HS.out.set (d k) (.bool true))
     have HXs := Lib.hid (show Ext w7 (wr.setCell ⟨sb, d k, none⟩ (.bool true)) from Below.setCell HX.out (by rw [HSb.out]; exact Nat.le_refl _) _)
     have HF' := Lib.hid (show ∀ j, j < R.length → (cs.setIfInBounds (d k) (.bool true))[j]? = some (.bool (seenB d (k + 1) j)) from fun j hj => by
      rw [seenB_succ, Array.getElem?_setIfInBounds]
      by_cases e : d k = j
      ·subst e
       rw [if_pos rfl, if_pos (by omega)]
       simp
      ·rw [if_neg e, HF.out j hj]
       simp [e])
     have hcz' : (cs.setIfInBounds (d k) (.bool true)).size = R.length := by simpa using hcz
     clear hfr
     obtain ⟨D, hDe⟩ : ∃ D, D = d k := ⟨_, rfl⟩
     rw [← hDe] at hck hDn hsD hfS HS' HXs HF' hcz'
     have HDe := Lib.hid hDe
     clear hDe
     have hDI : (D : Int) < (R.length : Int) := by omega
     have hDI2 : ¬ (D : Int) < 0 := by omega
     by_cases hk0 : k = 0
     ·subst hk0
      go_wp2_with fail
      generalize wr.setCell ⟨sb, D, none⟩ (.bool true) = w9 at HS' HXs ⊢
      go_wp2_with fail
      go_roundw
      case rel => exact ⟨1, _, by omega, by go_num, HXs.out, HS'.out, hcz', HF'.out⟩
      case measure => simp [intOf]; omega
     ·obtain ⟨kp, rfl⟩ : ∃ q, k = q + 1 := ⟨k - 1, by omega⟩
      have hk0b : ((kp : Int) + 1 == 0) = false := by rw [beq_eq_false_iff_ne]; omega
      have hkpI : (kp : Int) + 1 < (R.length : Int) := by omega
      have hkpI2 : (kp : Int) < (R.length : Int) := by omega
      have wkp : IntKind.i64.wrap (kp : Int) = (kp : Int) := by rw [IntKind.wrap_i64]; omega
      have hD'n := HSm.out kp (by omega)
      have hLT := HSor.out kp (kp + 1) (Nat.zero_le _) (Nat.lt_succ_self _) hlt
      rw [← HDe.out] at hLT
      obtain ⟨D', hDe'⟩ : ∃ D', D' = d kp := ⟨_, rfl⟩
      rw [← hDe'] at hD'n hLT
      have HDe' := Lib.hid hDe'
      clear hDe'
      have hD'I : (D' : Int) < (R.length : Int) := by omega
      obtain ⟨gr, orr, rfl, hgr, hrows⟩ := HCell.out (by omega)
      obtain ⟨X, hX⟩ : ∃ X, R[D']? = some [X] := by
       obtain ⟨X, hX⟩ := List.length_eq_one_iff.1 (HOne.out R[D'] (List.getElem_mem hD'n))
       exact ⟨X, by rw [List.getElem?_eq_getElem hD'n, hX]⟩
      obtain ⟨Y, hY⟩ : ∃ Y, R[D]? = some [Y] := by
       obtain ⟨Y, hY⟩ := List.length_eq_one_iff.1 (HOne.out R[D] (List.getElem_mem hDn))
       exact ⟨Y, by rw [List.getElem?_eq_getElem hDn, hY]⟩
      have hXs := (HFew.out.2 _ (List.mem_of_getElem? hX)).2 X (by simp)
      have hYs := (HFew.out.2 _ (List.mem_of_getElem? hY)).2 Y (by simp)
      rw [cfR_one _ _ R D' D X Y hX hY |> fun e => (by unfold LT; rw [e] : LT (cfR (fsL [⟨K, lv, sh, p, q, qn, qc, f⟩]) (fun j => if j = 0 then desc else false) 1 R) D' D ↔ _)] at hLT
      obtain ⟨ux, hux, a2, c2, rfl, hc2, hx3⟩ := hrows D' _ hX
      obtain ⟨uy, huy, a3, c3, rfl, hc3, hy3⟩ := hrows D _ hY
      obtain ⟨g2, o2, rfl, hg2, hcx⟩ := hx3 (by simp)
      obtain ⟨g3, o3, rfl, hg3, hcy⟩ := hy3 (by simp)
      obtain ⟨x0, x1, x2⟩ := hcx 0 X rfl
      obtain ⟨y0, y1, y2⟩ := hcy 0 Y rfl
      simp only [Nat.zero_mul, Nat.add_zero] at x0 x1 x2 y0 y1 y2
      go_wp2_with fail
      generalize wr.setCell ⟨sb, D, none⟩ (.bool true) = w9 at HS' HXs ⊢
      have HFp := Lib.hid (show ∀ W, Ext w9 W → W.cell? ⟨go, kp, none⟩ = some (.int .i64 (D' : Int)) ∧ W.cell? ⟨go, kp + 1, none⟩ = some (.int .i64 (D : Int)) from fun W hW => ⟨by
       obtain ⟨g', e1, e2⟩ := HL7.out W (Ext.trans HXs.out hW) kp (by omega)
       obtain rfl : go = g' := by simpa using e1
       rw [HDe'.out]; exact e2, by
       obtain ⟨g', e1, e2⟩ := HL7.out W (Ext.trans HXs.out hW) (kp + 1) hlt
       obtain rfl : go = g' := by simpa using e1
       rw [HDe.out]; exact e2⟩)
      have HF9 := Lib.hid (show ∀ W, Ext w9 W → W.cell? ⟨go, kp, none⟩ = some (.int .i64 (D' : Int)) ∧ W.cell? ⟨go, kp + 1, none⟩ = some (.int .i64 (D : Int)) ∧ W.cell? ⟨gr, orr + D', none⟩ = some (.slice (some ⟨g2, o2, none⟩) 1 c2) ∧ W.cell? ⟨gr, orr + D, none⟩ = some (.slice (some ⟨g3, o3, none⟩) 1 c3) ∧
        W.cell? ⟨g2, o2, none⟩ = some (.int .i64 X.k) ∧ W.cell? ⟨g2, o2 + 1, none⟩ = some (.int .i64 X.n) ∧ W.cell? ⟨g2, o2 + 2, none⟩ = some (.string X.s) ∧ W.cell? ⟨g3, o3, none⟩ = some (.int .i64 Y.k) ∧ W.cell? ⟨g3, o3 + 1, none⟩ = some (.int .i64 Y.n) ∧ W.cell? ⟨g3, o3 + 2, none⟩ = some (.string Y.s) ∧
        W.cell? ⟨bA + 1, 0, none⟩ = some (.int .i64 K) ∧ W.cell? ⟨bA + 1, 1, none⟩ = some (.int .i64 lv) ∧ W.cell? ⟨bA + 1, 2, none⟩ = some (.bool sh) ∧ W.cell? ⟨bA + 1, 3, none⟩ = some (.bool false) ∧ W.cell? ⟨bA + 1, 4, none⟩ = some (.slice q qn qc) from fun W hW => by
       have e := Ext.trans HX7.out (Ext.trans HXs.out hW)
       have hB := HB7.out.keep (Ext.trans HXs.out hW)
       exact ⟨(HFp.out W hW).1, (HFp.out W hW).2, (e.cell hgr).trans hux, (e.cell hgr).trans huy, (e.cell hg2).trans x0, (e.cell hg2).trans x1, (e.cell hg2).trans x2, (e.cell hg3).trans y0, (e.cell hg3).trans y1, (e.cell hg3).trans y2,
        hB.cell 0, hB.cell 1, hB.cell 2, hB.cell 3, hB.cell 4⟩)
      have KO := Lib.hid (show ∀ W, Ext w9 W → Calls Tryz.prog 15 #[.agg #[.int .i64 X.k, .int .i64 X.n, .string X.s], .agg #[.int .i64 Y.k, .int .i64 Y.n, .string Y.s], .agg #[.int .i64 K, .int .i64 lv, .bool sh, .bool false, .slice q qn qc]] W fun e w' => e = .returned (.int .i64 (leK X.k X.n X.s Y.k Y.n Y.s f)) ∧ Below W.heap.size W w' from
       fun W hW => orderR_in X.k X.n X.s Y.k Y.n Y.s K lv sh q qn qc f W ((HAT7.out.inR).ext (Ext.trans HXs.out hW)) (by omega) (by omega))
      have hch0 := leK_vals HAT7.out.chain X.k X.n X.s Y.k Y.n Y.s
      have hcol : colK (fsL [⟨K, lv, sh, p, q, qn, qc, f⟩]) (fun j => if j = 0 then desc else false) 0 X Y = if desc then -leK X.k X.n X.s Y.k Y.n Y.s f else leK X.k X.n X.s Y.k Y.n Y.s f := rfl
      rw [hcol] at hLT
      generalize leK X.k X.n X.s Y.k Y.n Y.s f = Z at KO hch0 hLT
      have hneg : wrap64 (-Z) = -Z := IntWalk.wrap64_in _ (by omega)
      clear hcol hux huy hx3 hy3 hcx hcy x0 x1 x2 y0 y1 y2 hrows hck hsD hfS
      go_wp2_with fail
      refine wp_par 22 (fun
        | 0 => fun v _ => v = .slice (some ⟨gr, orr, none⟩) R.length cr
        | 1 => fun v _ => v = .slice (some ⟨go, 0, none⟩) R.length capo
        | 2 => fun v _ => v = .int .i64 ((kp : Int) + 1)
        | 3 => fun v _ => v = .int .i64 (kp : Int)
        | 4 => fun v _ => v = .pointer (some ⟨go, kp, none⟩)
        | 5 => fun v _ => v = .int .i64 (D' : Int)
        | 6 => fun v _ => v = .pointer (some ⟨gr, orr + D', none⟩)
        | 7 => fun v _ => v = .slice (some ⟨g2, o2, none⟩) 1 c2
        | 8 => fun v _ => v = .pointer (some ⟨g2, o2, none⟩)
        | 9 => fun v _ => v = .agg #[.int .i64 X.k, .int .i64 X.n, .string X.s]
        | 10 => fun v _ => v = .slice (some ⟨gr, orr, none⟩) R.length cr
        | 11 => fun v _ => v = .slice (some ⟨go, 0, none⟩) R.length capo
        | 12 => fun v _ => v = .int .i64 ((kp : Int) + 1)
        | 13 => fun v _ => v = .pointer (some ⟨go, kp + 1, none⟩)
        | 14 => fun v _ => v = .int .i64 (D : Int)
        | 15 => fun v _ => v = .pointer (some ⟨gr, orr + D, none⟩)
        | 16 => fun v _ => v = .slice (some ⟨g3, o3, none⟩) 1 c3
        | 17 => fun v _ => v = .pointer (some ⟨g3, o3, none⟩)
        | 18 => fun v _ => v = .agg #[.int .i64 Y.k, .int .i64 Y.n, .string Y.s]
        | 19 => fun v _ => v = .agg #[.int .i64 K, .int .i64 lv, .bool sh, .bool false, .slice q qn qc]
        | 20 => fun v _ => v = .int .i64 Z
        | 21 => fun v _ => v = .int .i64 Z
        | _ => fun _ _ => True) (by kernel_rfl) (by kernel_rfl) (by kernel_rfl) ?_ ?_
      ·simp (maxSteps := 20000000) only [List.take_succ_cons, List.take_zero, ParAll, Act.put, List.setIfInBounds_toArray, List.set_cons_succ, List.set_cons_zero]
       refine ⟨?_, ?_, ?_, ?_, ?_, ?_, ?_, ?_, ?_, ?_, ?_, ?_, ?_, ?_, ?_, ?_, ?_, ?_, ?_, ?_, ?_, ?_, trivial⟩
       iterate 20
        next =>
         intro vals W hx hd
         have hW := HF9.out W hx
         simp [PDeps, pdeps, Region.binds] at hd
         first
          | refine ParOb.plain rfl ?_
          | refine ParOb.wanted (by simp [Region.wanted, yielded, hd]) ?_
         go_simp
         exact ParPost.same fun _ _ => rfl
       ·intro vals W hx hd
        have hW := HF9.out W hx
        simp [PDeps, pdeps, Region.binds] at hd
        first
         | refine ParOb.plain rfl ?_
         | refine ParOb.wanted (by simp [Region.wanted, yielded, hd]) ?_
        go_simp
        refine Calls.mono (KO.out W hx) ?_
        rintro e w10 ⟨rfl, hb10⟩
        exact ⟨_, rfl, hb10, fun _ _ => rfl⟩
       ·intro vals W hx hd
        have hW := HF9.out W hx
        simp [PDeps, pdeps, Region.binds] at hd
        first
         | refine ParOb.plain rfl ?_
         | refine ParOb.wanted (by simp [Region.wanted, yielded, hd]) ?_
        go_simp
        exact ParPost.same fun _ _ => rfl
      intro vals W hx hf
      simp (maxSteps := 20000000) only [ParFacts, List.take_succ_cons, List.take_zero, and_true] at hf
      simp (maxSteps := 20000000) only [List.drop_succ_cons, List.drop_zero, List.take_succ_cons, List.take_zero, ParEnd, Act.put, List.setIfInBounds_toArray, List.set_cons_succ, List.set_cons_zero, hf]
      clear hf
      have HX10 := Lib.hid (Ext.trans HXs.out hx)
      have HS10 := Lib.hid (HS'.out.keep hx)
      have HFp := Lib.hid (fun W2 h2 => HFp.out W2 (Ext.trans hx h2))
      clear hx HF9 KO
      cases desc
      ·simp only [Bool.false_eq_true, if_false] at hLT
       go_upto_region 25 with (fail)
       by_cases hneg : Z < 0
       ·have q1 : ¬ (0 : Int) < Z := by omega
        have q2 : (Z == 0) = false := by rw [beq_eq_false_iff_ne]; omega
        go_big_region_o
        go_wp2_with fail
        go_roundw
        case rel => exact ⟨kp + 1 + 1, _, by omega, by go_num, ⟨HX10.out.os, HX10.out.tape, HX10.out.output, HX10.out.size, HX10.out.block⟩, HS10.out.drew, hcz', HF'.out⟩
        case measure => simp [intOf]; omega
       ·have q0 : Z = 0 := by omega
        have q3 : D' < D := by omega
        have q4 : ¬ (D : Int) < (D' : Int) := by omega
        subst q0
        have c1 := (HFp.out W (Ext.refl _)).1
        have c2 := (HFp.out W (Ext.refl _)).2
        go_big_region_o
        go_wp2_with fail
        go_roundw
        case rel => exact ⟨kp + 1 + 1, _, by omega, by go_num, ⟨HX10.out.os, HX10.out.tape, HX10.out.output, HX10.out.size, HX10.out.block⟩, HS10.out.drew, hcz', HF'.out⟩
        case measure => simp [intOf]; omega
      ·simp only [if_true] at hLT
       go_upto_region 25 with (fail)
       clear hneg hch0
       generalize -Z = c at hLT ⊢
       by_cases hneg : c < 0
       ·have q1 : ¬ (0 : Int) < c := by omega
        have q2 : (c == 0) = false := by rw [beq_eq_false_iff_ne]; omega
        go_big_region_o
        go_wp2_with fail
        go_roundw
        case rel => exact ⟨kp + 1 + 1, _, by omega, by go_num, ⟨HX10.out.os, HX10.out.tape, HX10.out.output, HX10.out.size, HX10.out.block⟩, HS10.out.drew, hcz', HF'.out⟩
        case measure => simp [intOf]; omega
       ·have q0 : c = 0 := by omega
        have q3 : D' < D := by omega
        have q4 : ¬ (D : Int) < (D' : Int) := by omega
        subst q0
        have c1 := (HFp.out W (Ext.refl _)).1
        have c2 := (HFp.out W (Ext.refl _)).2
        go_big_region_o
        go_wp2_with fail
        go_roundw
        case rel => exact ⟨kp + 1 + 1, _, by omega, by go_num, ⟨HX10.out.os, HX10.out.tape, HX10.out.output, HX10.out.size, HX10.out.block⟩, HS10.out.drew, hcz', HF'.out⟩
        case measure => simp [intOf]; omega
    ·have hltI : ¬ (k : Int) < (R.length : Int) := by omega
     go_wp2_with fail
     refine Calls.mono (awake23 _) ?_
     rintro e w9 ⟨rfl, hb9⟩
     have HX9 := Lib.hid (Ext.trans HX2.out (Ext.trans HX7.out (Ext.trans HX.out hb9)))
     clear hb9
     go_wp2_with fail
     go_ret
     exact ⟨rfl, HX9.out⟩
end Go.Proofs.YtipokgedmfnlaaaGreatDoor

namespace Go.Proofs.YtipokgedmfnlaaaGreatDoor.execStable
open Go.ChangeShapes Go.WideShapes Go.ChangeAt Go.RowKit Go.ChangeMaps bindFrame
set_option maxRecDepth 100000

theorem contract (H : Type) (enc : TypeId × Value → H) (W : World) (base : Nat) (args : Array Value) (ds gs : List (DataW H)) (before : List MemPlace)
  (hval : ∀ (j : Nat) t v, Tryz.f8.params[j]? = some t → args[j]? = some v → Value.okWide Tryz.prog W .any base t v)
  (hW : DataW.Whole enc Tryz.prog Tryz.f8.params.toList Rows.execStableSpec.vars false W args.toList ds gs before) (hG : Glob W) :
  Calls Tryz.prog 8 args W fun e W' => ∃ v, e = .returned v ∧ Rows.execStableSpec.post enc Tryz.prog Tryz.f8 false true false false W args v W' := by
 have hW' := hW
 obtain ⟨p, q, hA0, hV, rfl, hfz, hnd⟩ := hW
 have hA : DataW.TrodAll enc Tryz.prog W 0 (fun _ => true) true Tryz.f8.params.toList args.toList ds p := hA0
 rw [Tryz.params8] at hA hval
 obtain ⟨rfl, rfl⟩ := trodVars_none hV
 simp only [List.append_nil] at hW'
 have hlt : ∀ x ∈ p, x.block < W.heap.size := fun x hx => by simpa using hW'.lt x hx

 obtain ⟨v0, v1, v2, v3, d0, d1, d2, d3, p0, p1, p2, p3, rfl, rfl, hp, h0, h1, h2, h3⟩ := args4 hA
 have hlaw : Calls Tryz.prog 8 #[v0, v1, v2, v3] W fun e w' => e = .returned (.bool true) ∧ Below W.heap.size W w' := by
  clear hW' hlt hA0 hA hp hfz hnd
  obtain ⟨R0, rr0, ri0⟩ := open_rows (hval 0 22 v0 rfl rfl) h0
  obtain ⟨x1, rfl, rfl, rfl, w1⟩ := open_int Tryz.underlying3 (hval 1 3 v1 rfl rfl) h1
  obtain ⟨x2, rfl, rfl, rfl, w2⟩ := open_int Tryz.underlying3 (hval 2 3 v2 rfl rfl) h2
  obtain ⟨x3, rfl, rfl, rfl⟩ := open_bool Tryz.underlying4 (hval 3 4 v3 rfl rfl) h3
  exact law_stable v0 R0 x1 x2 x3 W rr0 hG
 refine hlaw.mono fun e W' ⟨he, hb⟩ => ?_
 subst he
 exact ⟨_, rfl, _, [], _, [], p, [], hW', trodAll_mk1 (shut_bool Tryz.underlying4 _), trodAll_keep laidOut (by kernel_rfl) hA0 hb hlt, rfl, hb.frame _, fun h => by cases h⟩

theorem kIn : (Rows.execStableRow.inPlace == Tryz.pinned.checked.prog.inPlace 8) = true := by kernel_rfl
theorem kUn : (Rows.execStableRow.unfollowed == Tryz.pinned.checked.prog.unfollowed 8) = true := by kernel_rfl
theorem kRe : (Rows.execStableRow.recurses == Tryz.pinned.checked.prog.recurses 8) = true := by kernel_rfl
theorem kNa : (Rows.execStableRow.named == Tryz.pinned.checked.prog.varsNamed 8) = true := by kernel_rfl
theorem kGo : false = Rows.execStableRow.goesBy Tryz.pinned.checked.prog := by kernel_rfl
theorem joined : joinedFacts Tryz.pinned.checked.prog 8 Tryz.f8 (OpenSpec.ofChange Rows.execStableSpec).bare Rows.execStableRow = true := by
 unfold joinedFacts
 simp only [Bool.and_eq_true]
 exact ⟨⟨⟨⟨⟨⟨⟨⟨⟨⟨⟨⟨⟨⟨⟨⟨⟨⟨⟨⟨⟨⟨⟨⟨⟨⟨⟨⟨⟨⟨⟨by kernel_rfl, by kernel_rfl⟩, by kernel_rfl⟩, by kernel_rfl⟩, by kernel_rfl⟩, by kernel_rfl⟩, by kernel_rfl⟩, by kernel_rfl⟩, by kernel_rfl⟩, kIn⟩, kUn⟩, kRe⟩, kNa⟩, by kernel_rfl⟩, by kernel_rfl⟩, by kernel_rfl⟩, by kernel_rfl⟩, by kernel_rfl⟩, by kernel_rfl⟩, by kernel_rfl⟩, by kernel_rfl⟩, by kernel_rfl⟩, by kernel_rfl⟩, by kernel_rfl⟩, by kernel_rfl⟩, by kernel_rfl⟩, by kernel_rfl⟩, by kernel_rfl⟩, by kernel_rfl⟩, by kernel_rfl⟩, by kernel_rfl⟩, by kernel_rfl⟩

theorem reads (os : Os) {H : Type} (enc : TypeId × Value → H) : ∃ places, DataW.whole enc Tryz.prog ((World.laidAll Tryz.prog os Rows.execStableRow.laid).forCall (fun _ _ => 0) ⟨#[], #[.slice none 0 0, .int .i64 0, .int .i64 0, .bool false], []⟩).memory Tryz.f8.params.toList Rows.execStableSpec.vars false (#[.slice none 0 0, .int .i64 0, .int .i64 0, .bool false] : Array Value).toList 8 = some ([.nil, .lit (.int .i64 0), .lit (.int .i64 0), .lit (.bool false)], [], places) :=
 ⟨[], by kernel_rfl⟩

theorem lifted (os : Os) (started : os.Started) (H : Type) (enc : TypeId × Value → H) (F : Stop.Interp) :
  ReturnsInHanded {} Tryz.checked os 8 .any ((OpenSpec.ofChange Rows.execStableSpec).preRow enc Tryz.prog Tryz.f8 Rows.execStableRow.domain false Rows.execStableRow.laid) (((OpenSpec.ofChange Rows.execStableSpec).at F).post enc Tryz.prog Tryz.f8 false true false false) := by
 obtain ⟨places, hx⟩ := reads os enc
 refine returnsInHanded_of_row (C := Tryz.checked) (s := OpenSpec.ofChange Rows.execStableSpec) own started (by kernel_rfl) Tryz.func8
  (witness os #[.slice none 0 0, .int .i64 0, .int .i64 0, .bool false] (by kernel_rfl) (OpenSpec.preRow_of_cond 8 hx (by kernel_rfl) (fun k hk => by cases hk) (by kernel_rfl) (laid_met os _))) ?_
 intro W base args ds gs before hval hW _ _ _ hL hsh _
 exact contract H enc W base args ds gs before hval hW (glob_of hL hsh)

theorem said : Rows.ExecStableSaid :=
 OpenClaim.holds_of_cond 8 Tryz.f8 rfl rfl rfl rfl rfl rfl rfl ⟨rfl, rfl, rfl, rfl, rfl⟩ rfl rfl rfl rfl rfl (by kernel_rfl) Tryz.func8 joined
  (of_decide_eq_true (by kernel_rfl)) (by unfold Func.isWrapper; first | (rw [if_pos (by decide +kernel)]; kernel_rfl) | (rw [if_neg (by decide +kernel)]; exact ⟨rfl, rfl⟩))
  (fun os started H enc _ F => by rw [OpenClaim.pre_eq_preRow]; exact lifted os started H enc F)

theorem plain (f : FuncId) (fn : Func) (hf : Tryz.pinned.checked.prog.funcNamed Rows.execStableRow.func = some f) (hfn : Tryz.pinned.checked.prog.funcs[f]? = some fn) :
  true = Tryz.pinned.checked.prog.looks [] ∧ ∀ (j : Nat) t, fn.params[j]? = some t → Tryz.pinned.checked.prog.wantsStandIn t = false := by
 obtain rfl : f = 8 := Option.some.inj ((show Tryz.prog.funcNamed Rows.execStableRow.func = some 8 by kernel_rfl).symm.trans hf) |>.symm
 obtain rfl : fn = Tryz.f8 := (Option.some.inj (Tryz.func8.symm.trans hfn)).symm
 refine ⟨by kernel_rfl, fun j t ht => ?_⟩
 rw [Tryz.params8] at ht
 exact all_of (show #[22, 3, 3, 4].all (fun t => !Tryz.prog.wantsStandIn t) = true by kernel_rfl) (Array.mem_of_getElem? ht)

/-- THE CARD. -/
theorem card : Rows.ExecStableCardSaid :=
 Claim7.holds_tied_plain_at .later [] _ _ _ _ said (fun _ h => by cases h) (by kernel_rfl) (fun _ h => by cases h) execStable_row_tie rfl ⟨rfl, rfl⟩ (by kernel_rfl) rfl plain kGo
end Go.Proofs.YtipokgedmfnlaaaGreatDoor.execStable
