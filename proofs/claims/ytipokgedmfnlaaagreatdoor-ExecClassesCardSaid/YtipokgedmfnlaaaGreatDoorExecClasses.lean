/-
 The law of classes of rows: groups part all rows, each into one; two rows are in one group just if each of their values is the same. The law holds: for any rows, any kind and level, the call returns true, and the arguments read as they did. No condition; the listed variables of Go's library read as its text lays them (the card ties them).
-/
import Derived.Test.YtipokgedmfnlaaaGreatDoorKey2
import Derived.Test.YtipokgedmfnlaaaGreatDoorBindFrame
namespace Go.Proofs.YtipokgedmfnlaaaGreatDoor
open Go.RowKit Go.Lib
set_option maxRecDepth 100000

theorem gst_step (K : Nat → K5) (k : Nat) : (∃ p l, (gst K k).2[p]? = some l ∧ (gst K k).1[p]? = some (K k) ∧ (gst K (k + 1)).1 = (gst K k).1 ∧ (gst K (k + 1)).2 = (gst K k).2.set p (l ++ [k])) ∨
  (K k ∉ (gst K k).1 ∧ (gst K (k + 1)).1 = (gst K k).1 ++ [K k] ∧ (gst K (k + 1)).2 = (gst K k).2 ++ [[k]]) := by
 have hlen := (gst_ok K k).2.1
 by_cases hm : K k ∈ (gst K k).1
 ·left
  have hp := List.idxOf_lt_length_of_mem hm
  refine ⟨(gst K k).1.idxOf (K k), (gst K k).2[(gst K k).1.idxOf (K k)]'(by omega), List.getElem?_eq_getElem (by omega), ?_, ?_, ?_⟩
  ·rw [List.getElem?_eq_getElem hp, List.getElem_idxOf hp]
  ·simp only [gst, gstep, if_pos hm]
  ·simp only [gst, gstep, if_pos hm, List.getD_eq_getElem?_getD]
   rw [List.getElem?_eq_getElem (by omega)]
   rfl
 ·right
  exact ⟨hm, by simp only [gst, gstep, if_neg hm], by simp only [gst, gstep, if_neg hm]⟩
/-- Each group's numbers rise, are below k, and have the group's key. -/
theorem gst_mem (K : Nat → K5) : ∀ (k n : Nat) (l : List Nat), (gst K k).2[n]? = some l → l.Pairwise (· < ·) ∧ ∀ x ∈ l, x < k ∧ (gst K k).1[n]? = some (K x)
 | 0, n, l, h => by simp [gst] at h
 | k + 1, n, l, h => by
  have hlen := (gst_ok K k).2.1
  rcases gst_step K k with ⟨p, l0, h1, h2, h3, h4⟩ | ⟨h1, h3, h4⟩
  ·rw [h4, List.getElem?_set] at h
   rw [h3]
   split at h
   ·rename_i he
    subst he
    split at h
    ·obtain rfl : l0 ++ [k] = l := by simpa using h
     obtain ⟨q1, q2⟩ := gst_mem K k p l0 h1
     refine ⟨List.pairwise_append.2 ⟨q1, List.pairwise_singleton _ _, fun a ha b hb => ?_⟩, fun x hx => ?_⟩
     ·obtain rfl : b = k := by simpa using hb
      exact (q2 a ha).1
     ·rcases List.mem_append.1 hx with hx | hx
      ·exact ⟨by have := (q2 x hx).1; omega, (q2 x hx).2⟩
      ·obtain rfl : x = k := by simpa using hx
       exact ⟨by omega, h2⟩
    ·cases h
   ·obtain ⟨q1, q2⟩ := gst_mem K k n l h
    exact ⟨q1, fun x hx => ⟨by have := (q2 x hx).1; omega, (q2 x hx).2⟩⟩
  ·rw [h4] at h
   rw [h3]
   by_cases hn : n < (gst K k).2.length
   ·rw [List.getElem?_append_left hn] at h
    obtain ⟨q1, q2⟩ := gst_mem K k n l h
    exact ⟨q1, fun x hx => ⟨by have := (q2 x hx).1; omega, by rw [List.getElem?_append_left (by omega)]; exact (q2 x hx).2⟩⟩
   ·rw [List.getElem?_append_right (by omega)] at h
    have h0 : n - (gst K k).2.length = 0 := by
     by_cases h0 : n - (gst K k).2.length = 0
     ·exact h0
     ·rw [List.getElem?_eq_none (by simp; omega)] at h; cases h
    rw [h0] at h
    obtain rfl : [k] = l := by simpa using h
    refine ⟨List.pairwise_singleton _ _, fun x hx => ?_⟩
    obtain rfl : x = k := by simpa using hx
    refine ⟨by omega, ?_⟩
    rw [List.getElem?_append_right (by omega), show n - (gst K x).1.length = 0 by omega]
    rfl
/-- Each number lies in a group. -/
theorem gst_all (K : Nat → K5) : ∀ (k x : Nat), x < k → ∃ (n : Nat) (l : List Nat), (gst K k).2[n]? = some l ∧ x ∈ l
 | 0, x, h => by omega
 | k + 1, x, h => by
  rcases gst_step K k with ⟨p, l0, h1, h2, h3, h4⟩ | ⟨h1, h3, h4⟩
  ·have hp : p < (gst K k).2.length := (List.getElem?_eq_some_iff.1 h1).1
   rw [h4]
   by_cases hx : x = k
   ·exact ⟨p, l0 ++ [k], by rw [List.getElem?_set_self hp], by simp [hx]⟩
   ·obtain ⟨n, l, q1, q2⟩ := gst_all K k x (by omega)
    by_cases hn : p = n
    ·subst hn
     rw [h1] at q1
     obtain rfl : l0 = l := by simpa using q1
     exact ⟨p, l0 ++ [k], by rw [List.getElem?_set_self hp], by simp [q2]⟩
    ·exact ⟨n, l, by rw [List.getElem?_set_ne hn]; exact q1, q2⟩
  ·rw [h4]
   by_cases hx : x = k
   ·exact ⟨(gst K k).2.length, [k], by simp, by simp [hx]⟩
   ·obtain ⟨n, l, q1, q2⟩ := gst_all K k x (by omega)
    have hn : n < (gst K k).2.length := (List.getElem?_eq_some_iff.1 q1).1
    exact ⟨n, l, by rw [List.getElem?_append_left hn]; exact q1, q2⟩
def lens (G : List (List Nat)) : Nat := (G.map List.length).sum
theorem lens_snoc (G : List (List Nat)) (l : List Nat) : lens (G ++ [l]) = lens G + l.length := by simp [lens]
theorem lens_set : ∀ (G : List (List Nat)) (p : Nat) (l : List Nat) (x : Nat), G[p]? = some l → lens (G.set p (l ++ [x])) = lens G + 1
 | [], p, l, x, h => by simp at h
 | a :: G, 0, l, x, h => by
  obtain rfl : a = l := by simpa using h
  simp [lens]; omega
 | a :: G, p + 1, l, x, h => by
  have := lens_set G p l x (by simpa using h)
  simp [lens] at this ⊢; omega
theorem gst_lens (K : Nat → K5) : ∀ k, lens (gst K k).2 = k
 | 0 => rfl
 | k + 1 => by
  have ih := gst_lens K k
  rcases gst_step K k with ⟨p, l0, h1, h2, h3, h4⟩ | ⟨h1, h3, h4⟩
  ·rw [h4, lens_set _ p l0 k h1, ih]
  ·rw [h4, lens_snoc, ih]; rfl
/-- Two numbers are in one group just if their keys are one. -/
theorem gst_same (K : Nat → K5) (m a b x y : Nat) (l l' : List Nat) (h1 : (gst K m).2[a]? = some l) (h2 : (gst K m).2[b]? = some l') (hx : x ∈ l) (hy : y ∈ l') : K x = K y ↔ a = b := by
 have q1 := ((gst_mem K m a l h1).2 x hx).2
 have q2 := ((gst_mem K m b l' h2).2 y hy).2
 constructor
 ·intro h
  rw [← h] at q2
  have hn := (gst_ok K m).1
  have ha : a < (gst K m).1.length := (List.getElem?_eq_some_iff.1 q1).1
  exact (List.getElem?_inj ha hn).1 (q1.trans q2.symm)
 ·intro h
  subst h
  rw [q1] at q2
  exact Option.some.inj q2
theorem idx_nodup : ∀ (T : List K5) (p : Nat) (x : K5), T.Nodup → T[p]? = some x → T.idxOf x = p
 | [], p, x, _, h => by simp at h
 | y :: T, 0, x, _, h => by
  obtain rfl : y = x := by simpa using h
  rw [List.idxOf_cons, beq_self_eq_true y, cond_true]
 | y :: T, p + 1, x, hn, h => by
  have hn2 := List.nodup_cons.1 hn
  have hx : T[p]? = some x := by simpa using h
  have hne : y ≠ x := fun e => hn2.1 (e ▸ List.mem_of_getElem? hx)
  rw [List.idxOf_cons, idx_nodup T p x hn2.2 hx, beq_eq_false_iff_ne.2 hne, cond_false]
/-- The group of each number. -/
theorem cls_facts (K : Nat → K5) (m : Nat) : ∃ P : Nat → Nat, (∀ (n : Nat) (l : List Nat), (gst K m).2[n]? = some l → l.Pairwise (· < ·) ∧ l ≠ [] ∧ ∀ x ∈ l, x < m ∧ P x = n) ∧
  (∀ x, x < m → ∃ (n : Nat) (l : List Nat), (gst K m).2[n]? = some l ∧ x ∈ l) ∧ lens (gst K m).2 = m ∧ ∀ x y, x < m → y < m → (P x = P y ↔ K x = K y) := by
 have hn := (gst_ok K m).1
 have hP : ∀ (n : Nat) (l : List Nat), (gst K m).2[n]? = some l → ∀ x ∈ l, (gst K m).1.idxOf (K x) = n := fun n l h x hx => idx_nodup _ _ _ hn ((gst_mem K m n l h).2 x hx).2
 refine ⟨fun x => (gst K m).1.idxOf (K x), fun n l h => ⟨(gst_mem K m n l h).1, fun e => ?_, fun x hx => ⟨((gst_mem K m n l h).2 x hx).1, hP n l h x hx⟩⟩, fun x hx => gst_all K m x hx, gst_lens K m, fun x y hx hy => ?_⟩
 ·obtain ⟨f, t, h1, _⟩ := gst_first K m n l h
  rw [e] at h1; cases h1
 ·obtain ⟨n, l, h1, h2⟩ := gst_all K m x hx
  obtain ⟨n', l', h1', h2'⟩ := gst_all K m y hy
  show (gst K m).1.idxOf (K x) = (gst K m).1.idxOf (K y) ↔ _
  rw [hP n l h1 x h2, hP n' l' h1' y h2']
  exact (gst_same K m n n' x y l l' h1 h1' h2 h2').symm
theorem lens_take_le (G : List (List Nat)) (k : Nat) : lens (G.take k) ≤ lens G := by
 have h : lens G = lens (G.take k) + lens (G.drop k) := by
  rw [lens, lens, lens, ← List.sum_append, ← List.map_append, List.take_append_drop]
 omega
theorem lens_take_succ (G : List (List Nat)) (k : Nat) (l : List Nat) (h : G[k]? = some l) : lens (G.take (k + 1)) = lens (G.take k) + l.length := by
 have hk := (List.getElem?_eq_some_iff.1 h).1
 have he : G[k] = l := by rw [List.getElem?_eq_getElem hk] at h; exact Option.some.inj h
 rw [List.take_succ_eq_append_getElem hk, lens_snoc, he]
theorem readsLL_at {w : World} {v : Value} {G : List (List Nat)} (h : ReadsLL w v (gcells G)) : ∃ ao cap, v = .slice ao G.length cap ∧ G.length ≤ cap ∧
  ∀ (k : Nat) (l : List Nat), G[k]? = some l → ∃ g u, ao = some ⟨g, 0, none⟩ ∧ g < w.heap.size ∧ w.cell? ⟨g, k, none⟩ = some u ∧ ReadsL w u (intsV l) := by
 obtain ⟨vs, h1, h2, h3⟩ := h
 rw [gcells_length] at h2
 rcases h1 with ⟨rfl, h0⟩ | ⟨g, c, rfl, hc, hcell⟩
 ·subst h0
  simp at h2
  have : G = [] := List.eq_nil_of_length_eq_zero h2.symm
  subst this
  exact ⟨none, 0, rfl, Nat.le_refl _, fun k l h => by simp at h⟩
 ·refine ⟨some ⟨g, 0, none⟩, c, by rw [h2], by omega, fun k l hl => ?_⟩
  have hk : k < vs.length := by have := (List.getElem?_eq_some_iff.1 hl).1; omega
  have hv := List.getElem?_eq_getElem hk
  have hcl := hcell k _ hv
  exact ⟨g, vs[k], rfl, World.block_lt_of_cell? w _ hcl, hcl, h3 k _ (intsV l) hv (by simp [gcells, hl, intsV])⟩
/-- Two rows of two values have one key just if each of their values is the same. -/
theorem keys_two {w : World} {v : Value} {x : C5} (hC : CollsW w v [x]) {X0 X1 Y0 Y1 : V3} (h0 : InV X0) (h1 : InV X1) (h2 : InV Y0) (h3 : InV Y1) :
  keyK [x] [X0, X1] = keyK [x] [Y0, Y1] ↔ leK X0.k X0.n X0.s Y0.k Y0.n Y0.s x.f = 0 ∧ leK X1.k X1.n X1.s Y1.k Y1.n Y1.s (collC 1 0 false false) = 0 := by
 have hk := keyK_iff hC (X := [X0, X1]) (Y := [Y0, Y1]) rfl (by simp) (fun y hy => by
  simp at hy
  rcases hy with rfl | rfl
  ·exact h0
  ·exact h1) (fun y hy => by
  simp at hy
  rcases hy with rfl | rfl
  ·exact h2
  ·exact h3)
 rw [hk, ordL_zero]
 constructor
 ·intro h
  exact ⟨h 0 X0 Y0 rfl rfl, h 1 X1 Y1 rfl rfl⟩
 ·rintro ⟨q0, q1⟩ j a b ha hb
  have hj : j = 0 ∨ j = 1 := by
   have := (List.getElem?_eq_some_iff.1 ha).1
   simp at this; omega
  rcases hj with rfl | rfl
  ·obtain rfl : X0 = a := by simpa using ha
   obtain rfl : Y0 = b := by simpa using hb
   exact q0
  ·obtain rfl : X1 = a := by simpa using ha
   obtain rfl : Y1 = b := by simpa using hb
   exact q1
theorem infoIntC : (Tryz.prog.info? 3).map (fun i => (i.zero, i.size, i.bytes)) = some (some (.int .i64 0), 1, 8) := by kernel_rfl
end Go.Proofs.YtipokgedmfnlaaaGreatDoor

namespace Go.Proofs.YtipokgedmfnlaaaGreatDoor
open Go.RowKit Go.Lib
set_option maxRecDepth 100000

set_option maxHeartbeats 16000000 in
theorem law_classes (v : Value) (R : List (List V3)) (kind level : Int) (w : World) (hR : RowsAt w v R) (hV : ∀ r ∈ R, ∀ y ∈ r, InV y) (hG : Glob w) :
  Calls Tryz.prog 3 #[v, .int .i64 kind, .int .i64 level] w fun e w' => e = .returned (.bool true) ∧ Below w.heap.size w w' := by
 have mixed : Tryz.prog.follows .mixedOrders = true := by kernel_rfl
 have HR := Lib.hid hR
 have HG := Lib.hid hG
 have HV := Lib.hid hV
 obtain ⟨ar, cr, hv, _⟩ := id hR
 clear hR hG hV
 subst hv
 go_enter Tryz.func3, Tryz.ntmps3
 go_wp2_with fail
 refine Calls.mono (make_k kind level w) ?_
 rintro e w1 ⟨⟨x, rfl, hat, e1, e2, e3⟩, hb1⟩
 clear e1 e2 e3
 obtain ⟨K, lv, sh, p, q, qn, qc, f⟩ := x
 have HAT1 := Lib.hid hat
 have HX1 := Lib.hid (show Ext w w1 from hb1)
 clear hat hb1
 dsimp only [C5.c, C5.r]
 have hA := (Blk.new w1 #[.int .i64 K, .int .i64 lv, .bool sh, .bool false, .pointer p] 25 rfl).alloc (.cells #[.int .i64 K, .int .i64 lv, .bool sh, .bool false, .slice q qn qc] 30)
 have hB := Blk.new (w1.alloc (.cells #[.int .i64 K, .int .i64 lv, .bool sh, .bool false, .pointer p] 25)) #[.int .i64 K, .int .i64 lv, .bool sh, .bool false, .slice q qn qc] 30 (n := w1.heap.size + 1) (by simp)
 have hx2 := ((Ext.refl w1).alloc (.cells #[.int .i64 K, .int .i64 lv, .bool sh, .bool false, .pointer p] 25)).alloc (.cells #[.int .i64 K, .int .i64 lv, .bool sh, .bool false, .slice q qn qc] 30)
 go_simp
 repeat (first | go_values | go_skip | go_guarded | go_step | go_upon)
 have HX2 := Lib.hid (Ext.trans HX1.out hx2)
 have HAT2 := Lib.hid (HAT1.out.ext hx2)
 have HA2 := Lib.hid hA
 have HB2 := Lib.hid hB
 generalize (w1.alloc (.cells #[.int .i64 K, .int .i64 lv, .bool sh, .bool false, .pointer p] 25)).alloc (.cells #[.int .i64 K, .int .i64 lv, .bool sh, .bool false, .slice q qn qc] 30) = W2 at HX2 HAT2 HA2 HB2 ⊢
 clear hA hB hx2 HAT1 HX1
 generalize w1.heap.size = bA at HA2 HB2 ⊢
 have HR2 := Lib.hid (HR.out.ext HX2.out)
 refine Calls.mono (few_any _ R W2 HR2.out) ?_
 rintro e w3 ⟨⟨b, rfl, hfew⟩, rfl⟩
 cases b
 ·clear hfew
  go_wp2_with fail
  refine Calls.mono (awake23 _) ?_
  rintro e w3 ⟨rfl, hb3⟩
  have HX3 := Lib.hid (Ext.trans HX2.out hb3)
  clear hb3
  go_wp2_with fail
  go_ret
  exact ⟨rfl, HX3.out⟩
 have HFew := Lib.hid (hfew rfl)
 clear hfew
 go_wp2_with fail
 obtain ⟨_, _, he, hcr, _, hcell⟩ := id HR2.out
 simp only [Value.slice.injEq] at he
 obtain ⟨rfl, _, rfl⟩ := he
 have HCell := Lib.hid hcell
 clear hcell
 have h30 : R.length ≤ 30 := HFew.out.1
 go_loopw [10] (fun i wr => ∃ k : Nat, k ≤ R.length ∧ i = .int .i64 k ∧ (∀ r ∈ R.take k, r.length = 2) ∧ wr = W2) (fun i _ => R.length - (intOf i).toNat)
 case atStart => exact ⟨0, Nat.zero_le _, rfl, fun r hr => by simp at hr, rfl⟩
 case round =>
  obtain ⟨k, hk, rfl, hall, hwr⟩ := hrel
  obtain rfl := hwr.symm
  have HAll := Lib.hid hall
  clear hall
  by_cases hlt : k < R.length
  ·have hltI : (k : Int) < (R.length : Int) := by omega
   obtain ⟨g, o, rfl, hg, hcl⟩ := HCell.out (by omega)
   obtain ⟨u, hu, a2, c2, rfl, hc2, hc3⟩ := hcl k R[k] (List.getElem?_eq_getElem hlt)
   have HTk := Lib.hid (show R.take (k + 1) = R.take k ++ [R[k]] by rw [List.take_succ_eq_append_getElem hlt])
   generalize R[k] = r at hu hc2 hc3 HTk
   clear hcl hc3
   by_cases h1 : r.length = 2
   ·have h1b : ((r.length : Int) != 2) = false := by rw [bne_eq_false_iff_eq]; omega
    go_wp2_with fail
    go_roundw
    case rel => exact ⟨k + 1, by omega, by go_num, fun y hy => by
     rw [HTk.out, List.mem_append, List.mem_singleton] at hy
     rcases hy with hy | rfl
     ·exact HAll.out y hy
     ·exact h1, trivial⟩
    case measure => simp [intOf]; omega
   ·have h1b : ((r.length : Int) != 2) = true := by rw [bne_iff_ne]; omega
    go_wp2_with fail
    refine Calls.mono (awake23 _) ?_
    rintro e w3 ⟨rfl, hb3⟩
    have HX3 := Lib.hid (Ext.trans HX2.out hb3)
    clear hb3
    go_wp2_with fail
    go_ret
    exact ⟨rfl, HX3.out⟩
  ·have hltI : ¬ (k : Int) < (R.length : Int) := by omega
   have HOne := Lib.hid (show ∀ r ∈ R, r.length = 2 from fun r hr => HAll.out r (by rw [List.take_of_length_le (by omega)]; exact hr))
   clear HAll
   go_wp2_with fail
   refine Calls.mono (colls_any _ 1 (fun _ => 0) _ ⟨_, _, rfl, Nat.le_refl _, fun _ => ⟨_, _, rfl, by simp, fun j hj => ?_⟩⟩) ?_
   ·obtain rfl : j = 0 := by omega
    exact (Blk.new _ _ _ rfl).cell 0
   rintro e w4 ⟨⟨va, vb, L, rfl, ho, hp, hatL, hlen⟩, hb4⟩
   obtain ⟨y, rfl⟩ : ∃ y, L = [y] := by
    match L, hlen with
    | [y], _ => exact ⟨y, rfl⟩
   have ho1 : w4.ownsRow (W2.heap.size + 1) 25 5 va 1 y.c := by simpa [flatC] using ho
   have hlo := loose_C (L := [y]) (w := w4) (v := va) ho (fun h => by cases h) (fun z hz => by
    obtain rfl : z = y := by simpa using hz
    exact (hatL z (by simp)).k13.2)
   obtain ⟨_, ho1⟩ := ho1
   rcases ho1 with ⟨_, h1⟩ | ⟨g, cap, cur, rfl, hge, hblk, hn1, _, hcs, _⟩
   ·omega
   have hLoose := hlo g rfl
   have hx4 : Ext W2 w4 := Ext.trans ((Ext.refl W2).alloc (.cells #[.int .i64 0] 3)) hb4
   have HX4 := Lib.hid hx4
   have HA4 := Lib.hid (HA2.out.keep hx4)
   have HB4 := Lib.hid (HB2.out.keep hx4)
   have HAT4 := Lib.hid (HAT2.out.ext hx4)
   have HG4 := Lib.hid (show Blk w4 g cur 25 from hblk)
   have HLo := Lib.hid hLoose
   have hu : ∀ k, k < 5 → ∃ u, w4.cell? ⟨g, k, none⟩ = some u := fun k hk => ⟨_, (HG4.out.cell k).trans (Array.getElem?_eq_getElem (by omega))⟩
   obtain ⟨u0, hu0⟩ := hu 0 (by omega)
   obtain ⟨u1, hu1⟩ := hu 1 (by omega)
   obtain ⟨u2, hu2⟩ := hu 2 (by omega)
   obtain ⟨u3, hu3⟩ := hu 3 (by omega)
   obtain ⟨u4, hu4⟩ := hu 4 (by omega)
   have hfz := HG4.out.free
   obtain ⟨cA, fA⟩ := HA4.out.facts
   clear ho hp hatL hlen hb4 hlo hLoose hblk hx4 hu
   dsimp only [List.length_singleton]
   go_simp
   repeat (first | go_values | go_skip | go_guarded | go_step | go_upon)
   -- PART2
   have hb5 := ((((HG4.out.set 0 (.int .i64 K)).set 1 (.int .i64 lv)).set 2 (.bool sh)).set 3 (.bool false)).set 4 (.pointer p)
   have hx5 : Ext W2 (((((w4.setCell ⟨g, 0, none⟩ (.int .i64 K)).setCell ⟨g, 1, none⟩ (.int .i64 lv)).setCell ⟨g, 2, none⟩ (.bool sh)).setCell ⟨g, 3, none⟩ (.bool false)).setCell ⟨g, 4, none⟩ (.pointer p)) := (((((show Below W2.heap.size W2 w4 from HX4.out).setCell (by show W2.heap.size ≤ g; omega) _).setCell (by show W2.heap.size ≤ g; omega) _).setCell (by show W2.heap.size ≤ g; omega) _).setCell (by show W2.heap.size ≤ g; omega) _).setCell (by show W2.heap.size ≤ g; omega) _
   have hat5 : (⟨K, lv, sh, p, q, qn, qc, f⟩ : C5).At (((((w4.setCell ⟨g, 0, none⟩ (.int .i64 K)).setCell ⟨g, 1, none⟩ (.int .i64 lv)).setCell ⟨g, 2, none⟩ (.bool sh)).setCell ⟨g, 3, none⟩ (.bool false)).setCell ⟨g, 4, none⟩ (.pointer p)) := HAT4.out.agree (by simp) fun i hi => by
    by_cases e : i = g
    ·subst e; exact .inr HLo.out
    ·refine .inl ?_
     rw [heap_setCell_other _ _ _ _ e, heap_setCell_other _ _ _ _ e, heap_setCell_other _ _ _ _ e, heap_setCell_other _ _ _ _ e, heap_setCell_other _ _ _ _ e]
   have hs5 : w4.heap.size = (((((w4.setCell ⟨g, 0, none⟩ (.int .i64 K)).setCell ⟨g, 1, none⟩ (.int .i64 lv)).setCell ⟨g, 2, none⟩ (.bool sh)).setCell ⟨g, 3, none⟩ (.bool false)).setCell ⟨g, 4, none⟩ (.pointer p)).heap.size := by simp
   clear hs5
   generalize ((((w4.setCell ⟨g, 0, none⟩ (.int .i64 K)).setCell ⟨g, 1, none⟩ (.int .i64 lv)).setCell ⟨g, 2, none⟩ (.bool sh)).setCell ⟨g, 3, none⟩ (.bool false)).setCell ⟨g, 4, none⟩ (.pointer p) = W5 at hb5 hx5 hat5 ⊢
   have hown5 : CollsW W5 (.slice (some ⟨g, 0, none⟩) 1 cap) [⟨K, lv, sh, p, q, qn, qc, f⟩] := by
    refine ⟨⟨_, _, rfl, hn1, fun _ => ⟨g, 0, rfl, hb5.lt, fun j x hj k hk => ?_⟩⟩, fun z hz => by
     obtain rfl : z = _ := by simpa using hz
     exact hat5⟩
    have hj0 : j = 0 := by
     have := (List.getElem?_eq_some_iff.1 hj).1
     simp at this; omega
    subst hj0
    obtain rfl : (⟨K, lv, sh, p, q, qn, qc, f⟩ : C5) = x := by simpa using hj
    have hsz : 5 ≤ cur.size := by omega
    rw [hb5.cell]
    have : k = 0 ∨ k = 1 ∨ k = 2 ∨ k = 3 ∨ k = 4 := by omega
    rcases this with rfl | rfl | rfl | rfl | rfl
    all_goals
     simp [Array.getElem?_setIfInBounds, C5.c]
     first | done | omega | (intro e; rw [e] at hsz; simp at hsz; done)
   refine Calls.mono (groups5_any _ _ R [⟨K, lv, sh, p, q, qn, qc, f⟩] W5 (HR2.out.ext hx5) HFew.out hown5 fun W hW => HG.out.keep (Ext.trans HX2.out (Ext.trans hx5 hW))) ?_
   rintro e w7 ⟨vg, rfl, hrg, hb7⟩
   obtain ⟨ag, cg, rfl, hcg, hallg⟩ := readsLL_at hrg
   have HAg := Lib.hid hallg
   have HX7 := Lib.hid (Ext.trans hx5 hb7)
   have HB7 := Lib.hid ((HB2.out.keep hx5).keep hb7)
   have HAT7 := Lib.hid ((hat5.ext hb7))
   have HOwn := Lib.hid hown5
   obtain ⟨P, hP1, hP2, hP3, hP4⟩ := cls_facts (keyN [⟨K, lv, sh, p, q, qn, qc, f⟩] R) R.length
   have HP1 := Lib.hid hP1
   have HP2 := Lib.hid hP2
   have HP3 := Lib.hid hP3
   have HP4 := Lib.hid hP4
   have hGl := (gst_ok (keyN [⟨K, lv, sh, p, q, qn, qc, f⟩] R) R.length).2.2.1
   rw [(gst_ok (keyN [⟨K, lv, sh, p, q, qn, qc, f⟩] R) R.length).2.1] at hGl
   clear hb5 hx5 hat5 hown5 hrg hallg hb7 hP1 hP2 hP3 hP4 hu0 hu1 hu2 hu3 hu4 hfz cA fA HA4 HB4 HAT4 HG4 HLo HX4
   generalize (gst (keyN [⟨K, lv, sh, p, q, qn, qc, f⟩] R) R.length).2 = G at HAg HP1 HP2 HP3 hGl hcg ⊢
   obtain ⟨iB, hiB, hz0, hz1, hz2⟩ := info_parts infoIntC
   go_wp2_with (at_make; refine wpList_make_full _ rfl _ _ 40 rfl w7.heap.size 3 iB (.int .i64 0) 1 Tryz.underlying40 hiB hz0 hz1 .i64 .i64 _ _ R.length rfl rfl rfl rfl (by rw [hz2]; omega) (by unfold maxLen; omega) (Nat.le_refl _) ?_; intro w8 hown hgr)
   have hb8 : Ext w7 w8 := ⟨hgr.os, hgr.tape, hgr.output, hgr.size, fun i hi => hgr.block i hi (by simp)⟩
   obtain ⟨_, hown⟩ := hown
   rcases hown with ⟨h1, _⟩ | ⟨gs, cps, cur2, hvs, _, hblk2, _, _, hcs2, htk2⟩
   ·cases h1
   simp only [Value.slice.injEq, Option.some.injEq, Addr.mk.injEq, and_true, true_and] at hvs
   obtain ⟨rfl, rfl⟩ := hvs
   have hz8 : cur2.size = R.length := by rw [hcs2]; omega
   have HS8 := Lib.hid (show Blk w8 w7.heap.size cur2 3 from hblk2)
   have HX8 := Lib.hid hb8
   clear hgr hb8 hblk2 hcs2 htk2 hiB hz0 hz1 hz2
   generalize hsb : w7.heap.size = sb at HS8 ⊢
   have HSb := Lib.hid hsb
   clear hsb
   go_wp2_with fail
   go_loopw [16, 17, 18] (fun nn i _ wz => ∃ (a : Nat) (cs : Array Value), a ≤ G.length ∧ i = .int .i64 a ∧ nn = .int .i64 ((lens (G.take a) : Nat) : Int) ∧ Ext w7 wz ∧ Blk wz sb cs 3 ∧ cs.size = R.length ∧ ∀ (a' : Nat) (l : List Nat), a' < a → G[a']? = some l → ∀ x ∈ l, cs[x]? = some (.int .i64 (P x : Int))) (fun _ i _ _ => G.length - (intOf i).toNat)
   case atStart => exact ⟨0, cur2, Nat.zero_le _, rfl, by simp [lens], HX8.out, HS8.out, hz8, fun a' l h => by omega⟩
   case round =>
    obtain ⟨a, cs, ha, rfl, hn, hx, hS, hcz, hf⟩ := hrel
    obtain ⟨N, hN⟩ : ∃ N : Nat, N = lens (G.take a) := ⟨_, rfl⟩
    rw [← hN] at hn
    subst hn
    have HX := Lib.hid hx
    have HS := Lib.hid hS
    have HF := Lib.hid hf
    have HN := Lib.hid hN
    clear hx hS hf hN HS8 HX8 hz8
    by_cases hlt : a < G.length
    ·have hltI : (a : Int) < (G.length : Int) := by omega
     have hga := List.getElem?_eq_getElem hlt
     generalize G[a] = l at hga
     have HGa := Lib.hid hga
     obtain ⟨hrise, hne, hmem⟩ := HP1.out a l hga
     have hlb : N + l.length ≤ R.length := by
      have h1 := lens_take_succ G a l hga
      have h2 := lens_take_le G (a + 1)
      rw [HP3.out] at h2
      rw [h1, ← HN.out] at h2
      exact h2
     have HNs := Lib.hid (show N + l.length = lens (G.take (a + 1)) by rw [lens_take_succ G a l hga, HN.out])
     obtain ⟨g1, u, rfl, hg1, hcu, hru⟩ := HAg.out a l hga
     rcases hru with ⟨_, h0⟩ | ⟨g2, c2, rfl, hc2, hcell2⟩
     ·exact absurd (by simpa [intsV] using h0) hne
     rw [intsV_length] at hc2 hcu
     have HC := Lib.hid (show ∀ W, Ext w7 W → W.cell? ⟨g1, a, none⟩ = some (.slice (some ⟨g2, 0, none⟩) l.length c2) ∧ ∀ (b x : Nat), l[b]? = some x → W.cell? ⟨g2, b, none⟩ = some (.int .i64 (x : Int)) from fun W hW =>
      ⟨(hW.cell (p := ⟨g1, a, none⟩) hg1).trans hcu, fun b x hb => by
       have h1 := hcell2 b (.int .i64 (x : Int)) (by simp [intsV, hb])
       exact (hW.cell (p := ⟨g2, b, none⟩) (World.block_lt_of_cell? w7 _ h1)).trans h1⟩)
     have HRise := Lib.hid hrise
     have HMem := Lib.hid hmem
     clear hga hcu hcell2 hrise hne hmem
     go_wp2_with fail
     go_loopw [16, 18] (fun nn k wz => ∃ (b M : Nat) (cs : Array Value), b ≤ l.length ∧ k = .int .i64 b ∧ M = N + b ∧ nn = .int .i64 (M : Int) ∧ Ext w7 wz ∧ Blk wz sb cs 3 ∧ cs.size = R.length ∧ ∀ (x : Nat), ((∃ (a' : Nat) (l' : List Nat), a' < a ∧ G[a']? = some l' ∧ x ∈ l') ∨ x ∈ l.take b) → cs[x]? = some (.int .i64 (P x : Int))) (fun _ k _ => l.length - (intOf k).toNat)
     case atStart => exact ⟨0, N, cs, Nat.zero_le _, rfl, rfl, rfl, HX.out, HS.out, hcz, fun x h => by
      rcases h with ⟨a', l', h1, h2, h3⟩ | h
      ·exact HF.out a' l' h1 h2 x h3
      ·simp at h⟩
     case round =>
      obtain ⟨b, M, cs2, hb, rfl, hM, rfl, hx, hS, hcz2, hf⟩ := hrel
      have HX2' := Lib.hid hx
      have HS2' := Lib.hid hS
      have HF2' := Lib.hid hf
      clear hx hS hf
      have hM30 : M ≤ 30 := by omega
      have HM := Lib.hid hM
      clear hM
      by_cases hlt2 : b < l.length
      ·have hlt2I : (b : Int) < (l.length : Int) := by omega
       obtain ⟨x, hxe⟩ : ∃ x, l[b]? = some x := ⟨_, List.getElem?_eq_getElem hlt2⟩
       obtain ⟨hxm, hxP⟩ := HMem.out x (List.mem_of_getElem? hxe)
       have hxI : (x : Int) < (R.length : Int) := by omega
       have hxI2 : ¬ (R.length : Int) ≤ (x : Int) := by omega
       have hxI0 : ¬ (x : Int) < 0 := by omega
       have hxN : ¬ R.length ≤ x := by omega
       have HDone := Lib.hid (show ∀ y, ((∃ (a' : Nat) (l' : List Nat), a' < a ∧ G[a']? = some l' ∧ y ∈ l') ∨ y ∈ l.take (b + 1)) → (cs2.setIfInBounds x (.int .i64 (a : Int)))[y]? = some (.int .i64 (P y : Int)) from fun y hy => by
        rw [Array.getElem?_setIfInBounds]
        by_cases e : x = y
        ·subst e
         rw [if_pos rfl, if_pos (by omega), hxP]
        ·rw [if_neg e]
         refine HF2'.out y ?_
         rcases hy with hy | hy
         ·exact .inl hy
         ·rw [List.take_add_one, hxe] at hy
          rcases List.mem_append.1 hy with hy | hy
          ·exact .inr hy
          ·have hy2 : y = x := by simpa using hy
           exact absurd hy2.symm e)
       have c1 := (HC.out wr HX2'.out).1
       rcases b with _ | b'
       ·have hk0 : ¬ (0 : Int) < ((0 : Nat) : Int) := by omega
        have HFc := Lib.hid (show ∀ W, Ext wr W → W.cell? ⟨g1, a, none⟩ = some (.slice (some ⟨g2, 0, none⟩) l.length c2) ∧ W.cell? ⟨g2, 0, none⟩ = some (.int .i64 (x : Int)) from fun W hW => ⟨(HC.out W (Ext.trans HX2'.out hW)).1, (HC.out W (Ext.trans HX2'.out hW)).2 _ x hxe⟩)
        go_wp2_with fail
        refine wp_par 42 (fun
          | 0 => fun v _ => v = .slice (some ⟨g1, 0, none⟩) G.length cg
          | 1 => fun v _ => v = .int .i64 (a : Int)
          | 2 => fun v _ => v = .pointer (some ⟨g1, a, none⟩)
          | 3 => fun v _ => v = .slice (some ⟨g2, 0, none⟩) l.length c2
          | 4 => fun v _ => v = .int .i64 (0 : Int)
          | 5 => fun v _ => v = .pointer (some ⟨g2, 0, none⟩)
          | 6 => fun v _ => v = .int .i64 (x : Int)
          | 7 => fun v _ => v = .bool false
          | 8 => fun v _ => v = .bool false
          | 9 => fun v _ => v = .slice (some ⟨g1, 0, none⟩) G.length cg
          | 10 => fun v _ => v = .int .i64 (a : Int)
          | 11 => fun v _ => v = .pointer (some ⟨g1, a, none⟩)
          | 12 => fun v _ => v = .slice (some ⟨g2, 0, none⟩) l.length c2
          | 13 => fun v _ => v = .int .i64 (0 : Int)
          | 14 => fun v _ => v = .pointer (some ⟨g2, 0, none⟩)
          | 15 => fun v _ => v = .int .i64 (x : Int)
          | 16 => fun v _ => v = .slice ar R.length cr
          | 17 => fun v _ => v = .int .i64 (R.length : Int)
          | 18 => fun v _ => v = .bool false
          | 19 => fun v _ => v = .bool false
          | 20 => fun v _ => v = .bool false
          | 21 => fun v _ => v = .int .i64 (0 : Int)
          | 22 => fun v _ => v = .bool false
          | 23 => fun v _ => v = .bool false
          | 24 => fun v _ => v = undef
          | 25 => fun v _ => v = undef
          | 26 => fun v _ => v = undef
          | 27 => fun v _ => v = undef
          | 28 => fun v _ => v = undef
          | 29 => fun v _ => v = undef
          | 30 => fun v _ => v = undef
          | 31 => fun v _ => v = undef
          | 32 => fun v _ => v = undef
          | 33 => fun v _ => v = undef
          | 34 => fun v _ => v = undef
          | 35 => fun v _ => v = undef
          | 36 => fun v _ => v = undef
          | 37 => fun v _ => v = undef
          | 38 => fun v _ => v = undef
          | 39 => fun v _ => v = undef
          | 40 => fun v _ => v = .bool false
          | 41 => fun v _ => v = .bool false
          | _ => fun _ _ => True) (by kernel_rfl) (by kernel_rfl) (by kernel_rfl) ?_ ?_
        ·simp (maxSteps := 20000000) only [List.take_succ_cons, List.take_zero, ParAll, Act.put, List.setIfInBounds_toArray, List.set_cons_succ, List.set_cons_zero]
         refine ⟨?_, ?_, ?_, ?_, ?_, ?_, ?_, ?_, ?_, ?_, ?_, ?_, ?_, ?_, ?_, ?_, ?_, ?_, ?_, ?_, ?_, ?_, ?_, ?_, ?_, ?_, ?_, ?_, ?_, ?_, ?_, ?_, ?_, ?_, ?_, ?_, ?_, ?_, ?_, ?_, ?_, ?_, trivial⟩
         iterate 24
          next =>
           intro vals W hx hd
           have hW := HFc.out W hx
           simp [PDeps, pdeps, Region.binds] at hd
           first
            | refine ParOb.plain rfl ?_
            | refine ParOb.wanted (by simp [Region.wanted, yielded, hd]) ?_
           go_simp
           exact ParPost.same fun _ _ => rfl
         iterate 16
          next =>
           intro vals W hx hd
           have hW := HFc.out W hx
           simp [PDeps, pdeps, Region.binds] at hd
           exact ParOb.passed (by simp [Region.wanted, yielded, hd] <;> decide) fun _ _ => rfl
         iterate 2
          next =>
           intro vals W hx hd
           have hW := HFc.out W hx
           simp [PDeps, pdeps, Region.binds] at hd
           first
            | refine ParOb.plain rfl ?_
            | refine ParOb.wanted (by simp [Region.wanted, yielded, hd]) ?_
           go_simp
           exact ParPost.same fun _ _ => rfl
        intro vals W hx hf
        simp (maxSteps := 20000000) only [ParFacts, List.take_succ_cons, List.take_zero, and_true] at hf
        simp (maxSteps := 20000000) only [List.drop_succ_cons, List.drop_zero, List.take_succ_cons, List.take_zero, ParEnd, Act.put, List.setIfInBounds_toArray, List.set_cons_succ, List.set_cons_zero, hf]
        clear hf
        have HXd := Lib.hid (show Ext w7 W from Ext.trans HX2'.out hx)
        have HSd := Lib.hid (HS2'.out.keep hx)
        have d1 := (HC.out W HXd.out).1
        have d2 := (HC.out W HXd.out).2 _ x hxe
        have d3 := (HSd.out.cell x).trans (Array.getElem?_eq_getElem (by omega))
        have d4 := HSd.out.free x
        have HS' := Lib.hid (HSd.out.set x (.int .i64 (a : Int)))
        have HXs := Lib.hid (show Ext w7 (W.setCell ⟨sb, x, none⟩ (.int .i64 (a : Int))) from Below.setCell HXd.out (by rw [HSb.out]; exact Nat.le_refl _) _)
        clear hx HFc
        go_wp2_with fail
        generalize W.setCell ⟨sb, x, none⟩ (.int .i64 (a : Int)) = w10 at HS' HXs ⊢
        go_wp2_with fail
        go_roundw
        case rel => exact ⟨1, M + 1, _, by omega, by go_num, by rw [HM.out], by go_num, HXs.out, HS'.out, by simpa using hcz2, HDone.out⟩
        case measure => simp [intOf]; omega
       ·obtain ⟨y, hye⟩ : ∃ y, l[b']? = some y := ⟨_, List.getElem?_eq_getElem (by omega)⟩
        have hyx : y < x := by
         have h1 := List.pairwise_iff_getElem.1 HRise.out b' (b' + 1) (by omega) hlt2 (by omega)
         rw [List.getElem?_eq_getElem (by omega)] at hye hxe
         obtain rfl := Option.some.inj hye
         obtain rfl := Option.some.inj hxe
         exact h1
        have hyxI : ¬ (x : Int) ≤ (y : Int) := by omega
        have hyxN : ¬ x ≤ y := by omega
        have hk0 : (0 : Int) < (b' : Int) + 1 := by omega
        have hk00 : (0 : Int) ≤ (b' : Int) + 1 := by omega
        have hkp : (b' : Int) + 1 < (l.length : Int) := by omega
        have hkp2 : (b' : Int) < (l.length : Int) := by omega
        have wkp : IntKind.i64.wrap (b' : Int) = (b' : Int) := by rw [IntKind.wrap_i64]; omega
        have HFc := Lib.hid (show ∀ W, Ext wr W → W.cell? ⟨g1, a, none⟩ = some (.slice (some ⟨g2, 0, none⟩) l.length c2) ∧ W.cell? ⟨g2, b' + 1, none⟩ = some (.int .i64 (x : Int)) ∧ W.cell? ⟨g2, b', none⟩ = some (.int .i64 (y : Int)) from fun W hW => ⟨(HC.out W (Ext.trans HX2'.out hW)).1, (HC.out W (Ext.trans HX2'.out hW)).2 _ x hxe, (HC.out W (Ext.trans HX2'.out hW)).2 b' y hye⟩)
        go_wp2_with fail
        refine wp_par 42 (fun
          | 0 => fun v _ => v = .slice (some ⟨g1, 0, none⟩) G.length cg
          | 1 => fun v _ => v = .int .i64 (a : Int)
          | 2 => fun v _ => v = .pointer (some ⟨g1, a, none⟩)
          | 3 => fun v _ => v = .slice (some ⟨g2, 0, none⟩) l.length c2
          | 4 => fun v _ => v = .int .i64 ((b' : Int) + 1 : Int)
          | 5 => fun v _ => v = .pointer (some ⟨g2, b' + 1, none⟩)
          | 6 => fun v _ => v = .int .i64 (x : Int)
          | 7 => fun v _ => v = .bool false
          | 8 => fun v _ => v = .bool false
          | 9 => fun v _ => v = .slice (some ⟨g1, 0, none⟩) G.length cg
          | 10 => fun v _ => v = .int .i64 (a : Int)
          | 11 => fun v _ => v = .pointer (some ⟨g1, a, none⟩)
          | 12 => fun v _ => v = .slice (some ⟨g2, 0, none⟩) l.length c2
          | 13 => fun v _ => v = .int .i64 ((b' : Int) + 1 : Int)
          | 14 => fun v _ => v = .pointer (some ⟨g2, b' + 1, none⟩)
          | 15 => fun v _ => v = .int .i64 (x : Int)
          | 16 => fun v _ => v = .slice ar R.length cr
          | 17 => fun v _ => v = .int .i64 (R.length : Int)
          | 18 => fun v _ => v = .bool false
          | 19 => fun v _ => v = .bool false
          | 20 => fun v _ => v = .bool false
          | 21 => fun v _ => v = .int .i64 ((b' : Int) + 1 : Int)
          | 22 => fun v _ => v = .bool true
          | 23 => fun v _ => v = .bool true
          | 24 => fun v _ => v = .slice (some ⟨g1, 0, none⟩) G.length cg
          | 25 => fun v _ => v = .int .i64 (a : Int)
          | 26 => fun v _ => v = .pointer (some ⟨g1, a, none⟩)
          | 27 => fun v _ => v = .slice (some ⟨g2, 0, none⟩) l.length c2
          | 28 => fun v _ => v = .int .i64 ((b' : Int) + 1 : Int)
          | 29 => fun v _ => v = .pointer (some ⟨g2, b' + 1, none⟩)
          | 30 => fun v _ => v = .int .i64 (x : Int)
          | 31 => fun v _ => v = .slice (some ⟨g1, 0, none⟩) G.length cg
          | 32 => fun v _ => v = .int .i64 (a : Int)
          | 33 => fun v _ => v = .pointer (some ⟨g1, a, none⟩)
          | 34 => fun v _ => v = .slice (some ⟨g2, 0, none⟩) l.length c2
          | 35 => fun v _ => v = .int .i64 ((b' : Int) + 1 : Int)
          | 36 => fun v _ => v = .int .i64 (b' : Int)
          | 37 => fun v _ => v = .pointer (some ⟨g2, b', none⟩)
          | 38 => fun v _ => v = .int .i64 (y : Int)
          | 39 => fun v _ => v = .bool false
          | 40 => fun v _ => v = .bool false
          | 41 => fun v _ => v = .bool false
          | _ => fun _ _ => True) (by kernel_rfl) (by kernel_rfl) (by kernel_rfl) ?_ ?_
        ·simp (maxSteps := 20000000) only [List.take_succ_cons, List.take_zero, ParAll, Act.put, List.setIfInBounds_toArray, List.set_cons_succ, List.set_cons_zero]
         refine ⟨?_, ?_, ?_, ?_, ?_, ?_, ?_, ?_, ?_, ?_, ?_, ?_, ?_, ?_, ?_, ?_, ?_, ?_, ?_, ?_, ?_, ?_, ?_, ?_, ?_, ?_, ?_, ?_, ?_, ?_, ?_, ?_, ?_, ?_, ?_, ?_, ?_, ?_, ?_, ?_, ?_, ?_, trivial⟩
         iterate 42
          next =>
           intro vals W hx hd
           have hW := HFc.out W hx
           simp [PDeps, pdeps, Region.binds] at hd
           first
            | refine ParOb.plain rfl ?_
            | refine ParOb.wanted (by simp [Region.wanted, yielded, hd]) ?_
           go_simp
           exact ParPost.same fun _ _ => rfl
        intro vals W hx hf
        simp (maxSteps := 20000000) only [ParFacts, List.take_succ_cons, List.take_zero, and_true] at hf
        simp (maxSteps := 20000000) only [List.drop_succ_cons, List.drop_zero, List.take_succ_cons, List.take_zero, ParEnd, Act.put, List.setIfInBounds_toArray, List.set_cons_succ, List.set_cons_zero, hf]
        clear hf
        have HXd := Lib.hid (show Ext w7 W from Ext.trans HX2'.out hx)
        have HSd := Lib.hid (HS2'.out.keep hx)
        have d1 := (HC.out W HXd.out).1
        have d2 := (HC.out W HXd.out).2 _ x hxe
        have d3 := (HSd.out.cell x).trans (Array.getElem?_eq_getElem (by omega))
        have d4 := HSd.out.free x
        have HS' := Lib.hid (HSd.out.set x (.int .i64 (a : Int)))
        have HXs := Lib.hid (show Ext w7 (W.setCell ⟨sb, x, none⟩ (.int .i64 (a : Int))) from Below.setCell HXd.out (by rw [HSb.out]; exact Nat.le_refl _) _)
        clear hx HFc
        go_wp2_with fail
        generalize W.setCell ⟨sb, x, none⟩ (.int .i64 (a : Int)) = w10 at HS' HXs ⊢
        go_wp2_with fail
        go_roundw
        case rel => exact ⟨b' + 1 + 1, M + 1, _, by omega, by go_num, by rw [HM.out]; omega, by go_num, HXs.out, HS'.out, by simpa using hcz2, HDone.out⟩
        case measure => simp [intOf]; omega
      ·obtain rfl : b = l.length := by omega
       have hlt2I : ¬ (l.length : Int) < (l.length : Int) := by omega
       have c1 := (HC.out wr HX2'.out).1
       go_wp2_with fail
       go_roundw
       case rel => exact ⟨a + 1, cs2, by omega, by go_num, by rw [← HNs.out, HM.out], HX2'.out, HS2'.out, hcz2, fun a' l' h1 h2 x h3 => HF2'.out x (by
        by_cases e : a' = a
        ·subst e
         rw [HGa.out] at h2
         obtain rfl := Option.some.inj h2
         exact .inr (by rw [List.take_of_length_le (Nat.le_refl _)]; exact h3)
        ·exact .inl ⟨a', l', by omega, h2, h3⟩)⟩
       case measure => simp [intOf]; omega
    ·obtain rfl : a = G.length := by omega
     have hltI : ¬ (G.length : Int) < (G.length : Int) := by omega
     have hNR : N = R.length := by rw [HN.out, List.take_of_length_le (Nat.le_refl _), HP3.out]
     subst hNR
     have hNb : ((R.length : Int) != (R.length : Int)) = false := by simp
     have HCs := Lib.hid (show ∀ W, Ext wr W → ∀ x, x < R.length → W.cell? ⟨sb, x, none⟩ = some (.int .i64 (P x : Int)) from fun W hW x hx => by
      obtain ⟨n, l, h1, h2⟩ := HP2.out x hx
      have h3 := HF.out n l (List.getElem?_eq_some_iff.1 h1).1 h1 x h2
      exact ((HS.out.keep hW).cell x).trans h3)
     clear HF HS HN HAg
     go_wp2_with fail
     have HXw := Lib.hid (Ext.trans HX2.out (Ext.trans HX7.out HX.out))
     have HBw := Lib.hid (HB7.out.keep HX.out)
     have HATw := Lib.hid (HAT7.out.ext HX.out)
     have HX27 := Lib.hid (Ext.trans HX7.out HX.out)
     clear HX HX7 HB7 HAT7 HAT2 HA2 HB2 HR2
     generalize hwr : wr = W8 at *
     clear hwr
     go_loopw [19, 20, 21] (fun i _ _ wz => ∃ a : Nat, a ≤ R.length ∧ i = .int .i64 a ∧ Ext W8 wz) (fun i _ _ _ => R.length - (intOf i).toNat)
     case atStart => exact ⟨0, Nat.zero_le _, rfl, Ext.refl _⟩
     case round =>
      obtain ⟨a, ha, rfl, hx⟩ := hrel
      have HX := Lib.hid hx
      clear hx
      by_cases hlt : a < R.length
      ·have hltI : (a : Int) < (R.length : Int) := by omega
       go_wp2_with fail
       go_loopw [20, 21] (fun j _ wz => ∃ b : Nat, b ≤ a ∧ j = .int .i64 b ∧ Ext W8 wz) (fun j _ _ => a - (intOf j).toNat)
       case atStart => exact ⟨0, Nat.zero_le _, rfl, HX.out⟩
       case round =>
        obtain ⟨b, hb, rfl, hx⟩ := hrel
        have HXb := Lib.hid hx
        clear hx
        by_cases hlt2 : b < a
        ·have hlt2I : (b : Int) < (a : Int) := by omega
         have hbI : (b : Int) < (R.length : Int) := by omega
         obtain ⟨gr, orr, rfl, hgr, hrows⟩ := HCell.out (by omega)
         obtain ⟨X0, X1, hX⟩ : ∃ X0 X1, R[a]? = some [X0, X1] := by
          have h1 := HOne.out R[a] (List.getElem_mem hlt)
          match hr : R[a], h1 with
          | [X0, X1], _ => exact ⟨X0, X1, by rw [List.getElem?_eq_getElem hlt, hr]⟩
         obtain ⟨Y0, Y1, hY⟩ : ∃ Y0 Y1, R[b]? = some [Y0, Y1] := by
          have h1 := HOne.out R[b] (List.getElem_mem (by omega))
          match hr : R[b], h1 with
          | [Y0, Y1], _ => exact ⟨Y0, Y1, by rw [List.getElem?_eq_getElem (by omega), hr]⟩
         have mX := List.mem_of_getElem? hX
         have mY := List.mem_of_getElem? hY
         have sX0 := (HFew.out.2 _ mX).2 X0 (by simp)
         have sX1 := (HFew.out.2 _ mX).2 X1 (by simp)
         have sY0 := (HFew.out.2 _ mY).2 Y0 (by simp)
         have sY1 := (HFew.out.2 _ mY).2 Y1 (by simp)
         have hsame : P a = P b ↔ leK X0.k X0.n X0.s Y0.k Y0.n Y0.s f = 0 ∧ leK X1.k X1.n X1.s Y1.k Y1.n Y1.s (collC 1 0 false false) = 0 := by
          rw [HP4.out a b hlt (by omega)]
          unfold keyN
          simp only [List.getD_eq_getElem?_getD, hX, hY, Option.getD_some]
          exact keys_two HOwn.out (HV.out _ mX X0 (by simp)) (HV.out _ mX X1 (by simp)) (HV.out _ mY Y0 (by simp)) (HV.out _ mY Y1 (by simp))
         obtain ⟨ux, hux, a2, c2, rfl, hc2, hx3⟩ := hrows a _ hX
         obtain ⟨uy, huy, a3, c3, rfl, hc3, hy3⟩ := hrows b _ hY
         obtain ⟨g2, o2, rfl, hg2, hcx⟩ := hx3 (by simp)
         obtain ⟨g3, o3, rfl, hg3, hcy⟩ := hy3 (by simp)
         obtain ⟨x0, x1, x2⟩ := hcx 0 X0 rfl
         obtain ⟨y0, y1, y2⟩ := hcy 0 Y0 rfl
         obtain ⟨x3, x4, x5⟩ := hcx 1 X1 rfl
         obtain ⟨y3, y4, y5⟩ := hcy 1 Y1 rfl
         simp only [Nat.zero_mul, Nat.add_zero, Nat.one_mul] at x0 x1 x2 y0 y1 y2 x3 x4 x5 y3 y4 y5
         have HF9 := Lib.hid (show ∀ W, Ext wr W → W.cell? ⟨gr, orr + a, none⟩ = some (.slice (some ⟨g2, o2, none⟩) 2 c2) ∧ W.cell? ⟨gr, orr + b, none⟩ = some (.slice (some ⟨g3, o3, none⟩) 2 c3) ∧
           W.cell? ⟨g2, o2, none⟩ = some (.int .i64 X0.k) ∧ W.cell? ⟨g2, o2 + 1, none⟩ = some (.int .i64 X0.n) ∧ W.cell? ⟨g2, o2 + 2, none⟩ = some (.string X0.s) ∧ W.cell? ⟨g3, o3, none⟩ = some (.int .i64 Y0.k) ∧ W.cell? ⟨g3, o3 + 1, none⟩ = some (.int .i64 Y0.n) ∧ W.cell? ⟨g3, o3 + 2, none⟩ = some (.string Y0.s) ∧
           W.cell? ⟨g2, o2 + 3, none⟩ = some (.int .i64 X1.k) ∧ W.cell? ⟨g2, o2 + 3 + 1, none⟩ = some (.int .i64 X1.n) ∧ W.cell? ⟨g2, o2 + 3 + 2, none⟩ = some (.string X1.s) ∧ W.cell? ⟨g3, o3 + 3, none⟩ = some (.int .i64 Y1.k) ∧ W.cell? ⟨g3, o3 + 3 + 1, none⟩ = some (.int .i64 Y1.n) ∧ W.cell? ⟨g3, o3 + 3 + 2, none⟩ = some (.string Y1.s) ∧
           W.cell? ⟨bA + 1, 0, none⟩ = some (.int .i64 K) ∧ W.cell? ⟨bA + 1, 1, none⟩ = some (.int .i64 lv) ∧ W.cell? ⟨bA + 1, 2, none⟩ = some (.bool sh) ∧ W.cell? ⟨bA + 1, 3, none⟩ = some (.bool false) ∧ W.cell? ⟨bA + 1, 4, none⟩ = some (.slice q qn qc) from fun W hW => by
          have e := Ext.trans HX27.out (Ext.trans HXb.out hW)
          have hB := HBw.out.keep (Ext.trans HXb.out hW)
          exact ⟨(e.cell hgr).trans hux, (e.cell hgr).trans huy, (e.cell hg2).trans x0, (e.cell hg2).trans x1, (e.cell hg2).trans x2, (e.cell hg3).trans y0, (e.cell hg3).trans y1, (e.cell hg3).trans y2,
           (e.cell hg2).trans x3, (e.cell hg2).trans x4, (e.cell hg2).trans x5, (e.cell hg3).trans y3, (e.cell hg3).trans y4, (e.cell hg3).trans y5, hB.cell 0, hB.cell 1, hB.cell 2, hB.cell 3, hB.cell 4⟩)
         have KO := Lib.hid (show ∀ W, Ext wr W → Calls Tryz.prog 15 #[.agg #[.int .i64 X0.k, .int .i64 X0.n, .string X0.s], .agg #[.int .i64 Y0.k, .int .i64 Y0.n, .string Y0.s], .agg #[.int .i64 K, .int .i64 lv, .bool sh, .bool false, .slice q qn qc]] W fun e w' => e = .returned (.int .i64 (leK X0.k X0.n X0.s Y0.k Y0.n Y0.s f)) ∧ Below W.heap.size W w' from
          fun W hW => orderR_in X0.k X0.n X0.s Y0.k Y0.n Y0.s K lv sh q qn qc f W ((HATw.out.inR).ext (Ext.trans HXb.out hW)) (by omega) (by omega))
         have KB := Lib.hid (show ∀ W, Ext wr W → Calls Tryz.prog 15 #[.agg #[.int .i64 X1.k, .int .i64 X1.n, .string X1.s], .agg #[.int .i64 Y1.k, .int .i64 Y1.n, .string Y1.s], .agg #[.int .i64 1, .int .i64 0, .bool false, .bool false, .slice none 0 0]] W fun e w' => e = .returned (.int .i64 (leK X1.k X1.n X1.s Y1.k Y1.n Y1.s (collC 1 0 false false))) ∧ Below W.heap.size W w' from
          fun W hW => orderR_in X1.k X1.n X1.s Y1.k Y1.n Y1.s 1 0 false none 0 0 (collC 1 0 false false) W ((bin5_at W).inR) (by omega) (by omega))
         have HCp := Lib.hid (show ∀ W, Ext wr W → W.cell? ⟨sb, a, none⟩ = some (.int .i64 (P a : Int)) ∧ W.cell? ⟨sb, b, none⟩ = some (.int .i64 (P b : Int)) from fun W hW => ⟨HCs.out W (Ext.trans HXb.out hW) a hlt, HCs.out W (Ext.trans HXb.out hW) b (by omega)⟩)
         have hpp : (P a : Int) = (P b : Int) ↔ P a = P b := by omega
         rw [← hpp] at hsame
         generalize leK X0.k X0.n X0.s Y0.k Y0.n Y0.s f = Z at KO hsame
         generalize leK X1.k X1.n X1.s Y1.k Y1.n Y1.s (collC 1 0 false false) = Z1 at KB hsame
         generalize (P a : Int) = pa at HCp hsame
         generalize (P b : Int) = pb at HCp hsame
         clear hpp hux huy hx3 hy3 hcx hcy x0 x1 x2 y0 y1 y2 x3 x4 x5 y3 y4 y5 hrows mX mY
         go_wp2_with fail
         by_cases hZ : Z = 0
         ·subst hZ
          have hE : (pa == pb) = (Z1 == 0) := by
           rw [Bool.eq_iff_iff, beq_iff_eq, beq_iff_eq, hsame]
           simp
          refine wp_par 33 (fun
            | 0 => fun v _ => v = .slice (some ⟨gr, orr, none⟩) R.length cr
            | 1 => fun v _ => v = .int .i64 (a : Int)
            | 2 => fun v _ => v = .pointer (some ⟨gr, orr + a, none⟩)
            | 3 => fun v _ => v = .slice (some ⟨g2, o2, none⟩) 2 c2
            | 4 => fun v _ => v = .pointer (some ⟨g2, o2, none⟩)
            | 5 => fun v _ => v = .agg #[.int .i64 X0.k, .int .i64 X0.n, .string X0.s]
            | 6 => fun v _ => v = .slice (some ⟨gr, orr, none⟩) R.length cr
            | 7 => fun v _ => v = .int .i64 (b : Int)
            | 8 => fun v _ => v = .pointer (some ⟨gr, orr + b, none⟩)
            | 9 => fun v _ => v = .slice (some ⟨g3, o3, none⟩) 2 c3
            | 10 => fun v _ => v = .pointer (some ⟨g3, o3, none⟩)
            | 11 => fun v _ => v = .agg #[.int .i64 Y0.k, .int .i64 Y0.n, .string Y0.s]
            | 12 => fun v _ => v = .agg #[.int .i64 K, .int .i64 lv, .bool sh, .bool false, .slice q qn qc]
            | 13 => fun v _ => v = .int .i64 0
            | 14 => fun v _ => v = .bool true
            | 15 => fun v _ => v = .bool true
            | 16 => fun v _ => v = .slice (some ⟨gr, orr, none⟩) R.length cr
            | 17 => fun v _ => v = .int .i64 (a : Int)
            | 18 => fun v _ => v = .pointer (some ⟨gr, orr + a, none⟩)
            | 19 => fun v _ => v = .slice (some ⟨g2, o2, none⟩) 2 c2
            | 20 => fun v _ => v = .pointer (some ⟨g2, o2 + 3, none⟩)
            | 21 => fun v _ => v = .agg #[.int .i64 X1.k, .int .i64 X1.n, .string X1.s]
            | 22 => fun v _ => v = .slice (some ⟨gr, orr, none⟩) R.length cr
            | 23 => fun v _ => v = .int .i64 (b : Int)
            | 24 => fun v _ => v = .pointer (some ⟨gr, orr + b, none⟩)
            | 25 => fun v _ => v = .slice (some ⟨g3, o3, none⟩) 2 c3
            | 26 => fun v _ => v = .pointer (some ⟨g3, o3 + 3, none⟩)
            | 27 => fun v _ => v = .agg #[.int .i64 Y1.k, .int .i64 Y1.n, .string Y1.s]
            | 28 => fun v _ => v = .agg #[.int .i64 1, .int .i64 0, .bool false, .bool false, .slice none 0 0]
            | 29 => fun v _ => v = .int .i64 Z1
            | 30 => fun v _ => v = .bool (Z1 == 0)
            | 31 => fun v _ => v = .bool (Z1 == 0)
            | 32 => fun v _ => v = .bool (Z1 == 0)
            | _ => fun _ _ => True) (by kernel_rfl) (by kernel_rfl) (by kernel_rfl) ?_ ?_
          ·simp (maxSteps := 20000000) only [List.take_succ_cons, List.take_zero, ParAll, Act.put, List.setIfInBounds_toArray, List.set_cons_succ, List.set_cons_zero]
           refine ⟨?_, ?_, ?_, ?_, ?_, ?_, ?_, ?_, ?_, ?_, ?_, ?_, ?_, ?_, ?_, ?_, ?_, ?_, ?_, ?_, ?_, ?_, ?_, ?_, ?_, ?_, ?_, ?_, ?_, ?_, ?_, ?_, ?_, trivial⟩
           iterate 13
            next =>
             intro vals W hx hd
             have hW := HF9.out W hx
             simp [PDeps, pdeps, Region.binds] at hd
             first
              | refine ParOb.plain rfl ?_
              | refine ParOb.wanted (by simp [Region.wanted, yielded, hd]) ?_
             go_simp
             exact ParPost.same fun _ _ => rfl
           ·intro vals W hx hd
            have hW := HF9.out W hx
            simp [PDeps, pdeps, Region.binds] at hd
            first
             | refine ParOb.plain rfl ?_
             | refine ParOb.wanted (by simp [Region.wanted, yielded, hd]) ?_
            go_simp
            refine Calls.mono (KO.out W hx) ?_
            rintro e w10 ⟨rfl, hb10⟩
            exact ⟨_, rfl, hb10, fun _ _ => rfl⟩
           iterate 14
            next =>
             intro vals W hx hd
             have hW := HF9.out W hx
             simp [PDeps, pdeps, Region.binds] at hd
             first
              | refine ParOb.plain rfl ?_
              | refine ParOb.wanted (by simp [Region.wanted, yielded, hd]) ?_
             go_simp
             exact ParPost.same fun _ _ => rfl
           ·intro vals W hx hd
            have hW := HF9.out W hx
            simp [PDeps, pdeps, Region.binds] at hd
            first
             | refine ParOb.plain rfl ?_
             | refine ParOb.wanted (by simp [Region.wanted, yielded, hd]) ?_
            go_simp
            refine Calls.mono (refbinary_any W) ?_
            rintro e w10 ⟨rfl, hb10⟩
            exact ⟨_, rfl, hb10, fun _ _ => rfl⟩
           ·intro vals W hx hd
            have hW := HF9.out W hx
            simp [PDeps, pdeps, Region.binds] at hd
            first
             | refine ParOb.plain rfl ?_
             | refine ParOb.wanted (by simp [Region.wanted, yielded, hd]) ?_
            go_simp
            refine Calls.mono (KB.out W hx) ?_
            rintro e w10 ⟨rfl, hb10⟩
            exact ⟨_, rfl, hb10, fun _ _ => rfl⟩
           iterate 3
            next =>
             intro vals W hx hd
             have hW := HF9.out W hx
             simp [PDeps, pdeps, Region.binds] at hd
             first
              | refine ParOb.plain rfl ?_
              | refine ParOb.wanted (by simp [Region.wanted, yielded, hd]) ?_
             go_simp
             exact ParPost.same fun _ _ => rfl
          intro vals W hx hf
          simp (maxSteps := 20000000) only [ParFacts, List.take_succ_cons, List.take_zero, and_true] at hf
          simp (maxSteps := 20000000) only [List.drop_succ_cons, List.drop_zero, List.take_succ_cons, List.take_zero, ParEnd, Act.put, List.setIfInBounds_toArray, List.set_cons_succ, List.set_cons_zero, hf]
          clear hf
          have HXc := Lib.hid (Ext.trans HXb.out hx)
          have d1 := (HCp.out W hx).1
          have d2 := (HCp.out W hx).2
          clear hx HF9 KO KB HCp hsame
          generalize (Z1 == 0) = q1 at hE ⊢
          go_upto_region 33 with (fail)
          go_big_region_o
          go_wp2_with fail
          go_roundw
          case rel => exact ⟨b + 1, by omega, by go_num, ⟨HXc.out.os, HXc.out.tape, HXc.out.output, HXc.out.size, HXc.out.block⟩⟩
          case measure => simp [intOf]; omega
         ·have hZb : (Z == 0) = false := by rw [beq_eq_false_iff_ne]; exact hZ
          have hE : (pa == pb) = false := by
           rw [beq_eq_false_iff_ne]
           exact fun e => hZ (hsame.1 e).1
          refine wp_par 33 (fun
            | 0 => fun v _ => v = .slice (some ⟨gr, orr, none⟩) R.length cr
            | 1 => fun v _ => v = .int .i64 (a : Int)
            | 2 => fun v _ => v = .pointer (some ⟨gr, orr + a, none⟩)
            | 3 => fun v _ => v = .slice (some ⟨g2, o2, none⟩) 2 c2
            | 4 => fun v _ => v = .pointer (some ⟨g2, o2, none⟩)
            | 5 => fun v _ => v = .agg #[.int .i64 X0.k, .int .i64 X0.n, .string X0.s]
            | 6 => fun v _ => v = .slice (some ⟨gr, orr, none⟩) R.length cr
            | 7 => fun v _ => v = .int .i64 (b : Int)
            | 8 => fun v _ => v = .pointer (some ⟨gr, orr + b, none⟩)
            | 9 => fun v _ => v = .slice (some ⟨g3, o3, none⟩) 2 c3
            | 10 => fun v _ => v = .pointer (some ⟨g3, o3, none⟩)
            | 11 => fun v _ => v = .agg #[.int .i64 Y0.k, .int .i64 Y0.n, .string Y0.s]
            | 12 => fun v _ => v = .agg #[.int .i64 K, .int .i64 lv, .bool sh, .bool false, .slice q qn qc]
            | 13 => fun v _ => v = .int .i64 Z
            | 14 => fun v _ => v = .bool false
            | 15 => fun v _ => v = .bool false
            | 16 => fun v _ => v = undef
            | 17 => fun v _ => v = undef
            | 18 => fun v _ => v = undef
            | 19 => fun v _ => v = undef
            | 20 => fun v _ => v = undef
            | 21 => fun v _ => v = undef
            | 22 => fun v _ => v = undef
            | 23 => fun v _ => v = undef
            | 24 => fun v _ => v = undef
            | 25 => fun v _ => v = undef
            | 26 => fun v _ => v = undef
            | 27 => fun v _ => v = undef
            | 28 => fun v _ => v = undef
            | 29 => fun v _ => v = undef
            | 30 => fun v _ => v = undef
            | 31 => fun v _ => v = .bool false
            | 32 => fun v _ => v = .bool false
            | _ => fun _ _ => True) (by kernel_rfl) (by kernel_rfl) (by kernel_rfl) ?_ ?_
          ·simp (maxSteps := 20000000) only [List.take_succ_cons, List.take_zero, ParAll, Act.put, List.setIfInBounds_toArray, List.set_cons_succ, List.set_cons_zero]
           refine ⟨?_, ?_, ?_, ?_, ?_, ?_, ?_, ?_, ?_, ?_, ?_, ?_, ?_, ?_, ?_, ?_, ?_, ?_, ?_, ?_, ?_, ?_, ?_, ?_, ?_, ?_, ?_, ?_, ?_, ?_, ?_, ?_, ?_, trivial⟩
           iterate 13
            next =>
             intro vals W hx hd
             have hW := HF9.out W hx
             simp [PDeps, pdeps, Region.binds] at hd
             first
              | refine ParOb.plain rfl ?_
              | refine ParOb.wanted (by simp [Region.wanted, yielded, hd]) ?_
             go_simp
             exact ParPost.same fun _ _ => rfl
           ·intro vals W hx hd
            have hW := HF9.out W hx
            simp [PDeps, pdeps, Region.binds] at hd
            first
             | refine ParOb.plain rfl ?_
             | refine ParOb.wanted (by simp [Region.wanted, yielded, hd]) ?_
            go_simp
            refine Calls.mono (KO.out W hx) ?_
            rintro e w10 ⟨rfl, hb10⟩
            exact ⟨_, rfl, hb10, fun _ _ => rfl⟩
           iterate 2
            next =>
             intro vals W hx hd
             have hW := HF9.out W hx
             simp [PDeps, pdeps, Region.binds] at hd
             first
              | refine ParOb.plain rfl ?_
              | refine ParOb.wanted (by simp [Region.wanted, yielded, hd]) ?_
             go_simp
             exact ParPost.same fun _ _ => rfl
           iterate 15
            next =>
             intro vals W hx hd
             have hW := HF9.out W hx
             simp [PDeps, pdeps, Region.binds] at hd
             exact ParOb.passed (by simp [Region.wanted, yielded, hd] <;> decide) fun _ _ => rfl
           iterate 2
            next =>
             intro vals W hx hd
             have hW := HF9.out W hx
             simp [PDeps, pdeps, Region.binds] at hd
             first
              | refine ParOb.plain rfl ?_
              | refine ParOb.wanted (by simp [Region.wanted, yielded, hd]) ?_
             go_simp
             exact ParPost.same fun _ _ => rfl
          intro vals W hx hf
          simp (maxSteps := 20000000) only [ParFacts, List.take_succ_cons, List.take_zero, and_true] at hf
          simp (maxSteps := 20000000) only [List.drop_succ_cons, List.drop_zero, List.take_succ_cons, List.take_zero, ParEnd, Act.put, List.setIfInBounds_toArray, List.set_cons_succ, List.set_cons_zero, hf]
          clear hf
          have HXc := Lib.hid (Ext.trans HXb.out hx)
          have d1 := (HCp.out W hx).1
          have d2 := (HCp.out W hx).2
          clear hx HF9 KO KB HCp hsame
          go_upto_region 33 with (fail)
          go_big_region_o
          go_wp2_with fail
          go_roundw
          case rel => exact ⟨b + 1, by omega, by go_num, ⟨HXc.out.os, HXc.out.tape, HXc.out.output, HXc.out.size, HXc.out.block⟩⟩
          case measure => simp [intOf]; omega
        ·obtain rfl : b = a := by omega
         have hlt2I : ¬ (b : Int) < (b : Int) := by omega
         go_wp2_with fail
         go_roundw
         case rel => exact ⟨b + 1, by omega, by go_num, HXb.out⟩
         case measure => simp [intOf]; omega
      ·obtain rfl : a = R.length := by omega
       have hltI : ¬ (R.length : Int) < (R.length : Int) := by omega
       go_wp2_with fail
       refine Calls.mono (awake23 _) ?_
       rintro e w9 ⟨rfl, hb9⟩
       have HX9 := Lib.hid (Ext.trans HXw.out (Ext.trans HX.out hb9))
       clear hb9
       go_wp2_with fail
       go_ret
       exact ⟨rfl, HX9.out⟩
end Go.Proofs.YtipokgedmfnlaaaGreatDoor

namespace Go.Proofs.YtipokgedmfnlaaaGreatDoor.execClasses
open Go.ChangeShapes Go.WideShapes Go.ChangeAt Go.RowKit Go.ChangeMaps bindFrame
set_option maxRecDepth 100000

theorem contract (H : Type) (enc : TypeId × Value → H) (W : World) (base : Nat) (args : Array Value) (ds gs : List (DataW H)) (before : List MemPlace)
  (hval : ∀ (j : Nat) t v, Tryz.f3.params[j]? = some t → args[j]? = some v → Value.okWide Tryz.prog W .any base t v)
  (hW : DataW.Whole enc Tryz.prog Tryz.f3.params.toList Rows.execClassesSpec.vars false W args.toList ds gs before) (hG : Glob W) :
  Calls Tryz.prog 3 args W fun e W' => ∃ v, e = .returned v ∧ Rows.execClassesSpec.post enc Tryz.prog Tryz.f3 false true false false W args v W' := by
 have hW' := hW
 obtain ⟨p, q, hA0, hV, rfl, hfz, hnd⟩ := hW
 have hA : DataW.TrodAll enc Tryz.prog W 0 (fun _ => true) true Tryz.f3.params.toList args.toList ds p := hA0
 rw [Tryz.params3] at hA hval
 obtain ⟨rfl, rfl⟩ := trodVars_none hV
 simp only [List.append_nil] at hW'
 have hlt : ∀ x ∈ p, x.block < W.heap.size := fun x hx => by simpa using hW'.lt x hx

 obtain ⟨v0, v1, v2, d0, d1, d2, p0, p1, p2, rfl, rfl, hp, h0, h1, h2⟩ := args3 hA
 have hlaw : Calls Tryz.prog 3 #[v0, v1, v2] W fun e w' => e = .returned (.bool true) ∧ Below W.heap.size W w' := by
  clear hW' hlt hA0 hA hp hfz hnd
  obtain ⟨R0, rr0, ri0⟩ := open_rows (hval 0 22 v0 rfl rfl) h0
  obtain ⟨x1, rfl, rfl, rfl, w1⟩ := open_int Tryz.underlying3 (hval 1 3 v1 rfl rfl) h1
  obtain ⟨x2, rfl, rfl, rfl, w2⟩ := open_int Tryz.underlying3 (hval 2 3 v2 rfl rfl) h2
  exact law_classes v0 R0 x1 x2 W rr0 ri0 hG
 refine hlaw.mono fun e W' ⟨he, hb⟩ => ?_
 subst he
 exact ⟨_, rfl, _, [], _, [], p, [], hW', trodAll_mk1 (shut_bool Tryz.underlying4 _), trodAll_keep laidOut (by kernel_rfl) hA0 hb hlt, rfl, hb.frame _, fun h => by cases h⟩

theorem kIn : (Rows.execClassesRow.inPlace == Tryz.pinned.checked.prog.inPlace 3) = true := by kernel_rfl
theorem kUn : (Rows.execClassesRow.unfollowed == Tryz.pinned.checked.prog.unfollowed 3) = true := by kernel_rfl
theorem kRe : (Rows.execClassesRow.recurses == Tryz.pinned.checked.prog.recurses 3) = true := by kernel_rfl
theorem kNa : (Rows.execClassesRow.named == Tryz.pinned.checked.prog.varsNamed 3) = true := by kernel_rfl
theorem kGo : false = Rows.execClassesRow.goesBy Tryz.pinned.checked.prog := by kernel_rfl
theorem joined : joinedFacts Tryz.pinned.checked.prog 3 Tryz.f3 (OpenSpec.ofChange Rows.execClassesSpec).bare Rows.execClassesRow = true := by
 unfold joinedFacts
 simp only [Bool.and_eq_true]
 exact ⟨⟨⟨⟨⟨⟨⟨⟨⟨⟨⟨⟨⟨⟨⟨⟨⟨⟨⟨⟨⟨⟨⟨⟨⟨⟨⟨⟨⟨⟨⟨by kernel_rfl, by kernel_rfl⟩, by kernel_rfl⟩, by kernel_rfl⟩, by kernel_rfl⟩, by kernel_rfl⟩, by kernel_rfl⟩, by kernel_rfl⟩, by kernel_rfl⟩, kIn⟩, kUn⟩, kRe⟩, kNa⟩, by kernel_rfl⟩, by kernel_rfl⟩, by kernel_rfl⟩, by kernel_rfl⟩, by kernel_rfl⟩, by kernel_rfl⟩, by kernel_rfl⟩, by kernel_rfl⟩, by kernel_rfl⟩, by kernel_rfl⟩, by kernel_rfl⟩, by kernel_rfl⟩, by kernel_rfl⟩, by kernel_rfl⟩, by kernel_rfl⟩, by kernel_rfl⟩, by kernel_rfl⟩, by kernel_rfl⟩, by kernel_rfl⟩

theorem reads (os : Os) {H : Type} (enc : TypeId × Value → H) : ∃ places, DataW.whole enc Tryz.prog ((World.laidAll Tryz.prog os Rows.execClassesRow.laid).forCall (fun _ _ => 0) ⟨#[], #[.slice none 0 0, .int .i64 0, .int .i64 0], []⟩).memory Tryz.f3.params.toList Rows.execClassesSpec.vars false (#[.slice none 0 0, .int .i64 0, .int .i64 0] : Array Value).toList 8 = some ([.nil, .lit (.int .i64 0), .lit (.int .i64 0)], [], places) :=
 ⟨[], by kernel_rfl⟩

theorem lifted (os : Os) (started : os.Started) (H : Type) (enc : TypeId × Value → H) (F : Stop.Interp) :
  ReturnsInHanded {} Tryz.checked os 3 .any ((OpenSpec.ofChange Rows.execClassesSpec).preRow enc Tryz.prog Tryz.f3 Rows.execClassesRow.domain false Rows.execClassesRow.laid) (((OpenSpec.ofChange Rows.execClassesSpec).at F).post enc Tryz.prog Tryz.f3 false true false false) := by
 obtain ⟨places, hx⟩ := reads os enc
 refine returnsInHanded_of_row (C := Tryz.checked) (s := OpenSpec.ofChange Rows.execClassesSpec) own started (by kernel_rfl) Tryz.func3
  (witness os #[.slice none 0 0, .int .i64 0, .int .i64 0] (by kernel_rfl) (OpenSpec.preRow_of_cond 8 hx (by kernel_rfl) (fun k hk => by cases hk) (by kernel_rfl) (laid_met os _))) ?_
 intro W base args ds gs before hval hW _ _ _ hL hsh _
 exact contract H enc W base args ds gs before hval hW (glob_of hL hsh)

theorem said : Rows.ExecClassesSaid :=
 OpenClaim.holds_of_cond 3 Tryz.f3 rfl rfl rfl rfl rfl rfl rfl ⟨rfl, rfl, rfl, rfl, rfl⟩ rfl rfl rfl rfl rfl (by kernel_rfl) Tryz.func3 joined
  (of_decide_eq_true (by kernel_rfl)) (by unfold Func.isWrapper; first | (rw [if_pos (by decide +kernel)]; kernel_rfl) | (rw [if_neg (by decide +kernel)]; exact ⟨rfl, rfl⟩))
  (fun os started H enc _ F => by rw [OpenClaim.pre_eq_preRow]; exact lifted os started H enc F)

theorem plain (f : FuncId) (fn : Func) (hf : Tryz.pinned.checked.prog.funcNamed Rows.execClassesRow.func = some f) (hfn : Tryz.pinned.checked.prog.funcs[f]? = some fn) :
  true = Tryz.pinned.checked.prog.looks [] ∧ ∀ (j : Nat) t, fn.params[j]? = some t → Tryz.pinned.checked.prog.wantsStandIn t = false := by
 obtain rfl : f = 3 := Option.some.inj ((show Tryz.prog.funcNamed Rows.execClassesRow.func = some 3 by kernel_rfl).symm.trans hf) |>.symm
 obtain rfl : fn = Tryz.f3 := (Option.some.inj (Tryz.func3.symm.trans hfn)).symm
 refine ⟨by kernel_rfl, fun j t ht => ?_⟩
 rw [Tryz.params3] at ht
 exact all_of (show #[22, 3, 3].all (fun t => !Tryz.prog.wantsStandIn t) = true by kernel_rfl) (Array.mem_of_getElem? ht)

/-- THE CARD. -/
theorem card : Rows.ExecClassesCardSaid :=
 Claim7.holds_tied_plain_at .later [] _ _ _ _ said (fun _ h => by cases h) (by kernel_rfl) (fun _ h => by cases h) execClasses_row_tie rfl ⟨rfl, rfl⟩ (by kernel_rfl) rfl plain kGo
end Go.Proofs.YtipokgedmfnlaaaGreatDoor.execClasses
