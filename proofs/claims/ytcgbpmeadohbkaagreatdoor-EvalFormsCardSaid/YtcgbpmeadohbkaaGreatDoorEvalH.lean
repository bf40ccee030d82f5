import Derived.Test.YtcgbpmeadohbkaaGreatDoorEvalP
namespace Go.Proofs.YtcgbpmeadohbkaaGreatDoor
open Go.RowKit Go.Lib
set_option maxRecDepth 100000
theorem evaltruth_any (t : Nat) (ht : t < 3) (w : World) : Calls Tryz.prog 178 #[trV t] w fun e w' => e = .returned (.bool true) ∧ Below w.heap.size w w' := by
 have h : t = 0 ∨ t = 1 ∨ t = 2 := by omega
 rw [trV_eq t ht]
 rcases h with rfl | rfl | rfl
 ·rw [show trK 0 = 1 from rfl]
  go_enter Tryz.func178, Tryz.ntmps178
  go_wp2_with fail
  go_ret
  exact ⟨rfl, by go_grown⟩
 ·rw [show trK 1 = 1 from rfl]
  go_enter Tryz.func178, Tryz.ntmps178
  go_wp2_with fail
  go_ret
  exact ⟨rfl, by go_grown⟩
 ·rw [show trK 2 = 0 from rfl]
  go_enter Tryz.func178, Tryz.ntmps178
  go_wp2_with fail
  go_ret
  exact ⟨rfl, by go_grown⟩
def newVa (B : Nat) (v : Value) (w : World) : Prop := ∃ g cs, v = .pointer (some ⟨g, 0, none⟩) ∧ B ≤ g ∧ Blk w g cs 69 ∧ cs.size = 3
def storedV (B : Nat) (V : Array Value) (ds : List Value) (_ : Value) (w : World) : Prop := ∃ g, ds.head? = some (.pointer (some ⟨g, 0, none⟩)) ∧ B ≤ g ∧ Blk w g V 69
def shT (op : Int) (a b : Nat) : Nat := if op = 18 then andT a b else orT a b
theorem shT_lt (op : Int) (a b : Nat) : shT op a b < 3 := by unfold shT; split <;> first | exact andT_lt _ _ | exact orT_lt _ _
set_option maxHeartbeats 16000000 in
theorem short_any (oo : Int) (hop : oo = 18 ∨ oo = 19) (s u : ByteArray) (n : Int) (g lc : Nat) (x y : N6) (a b : Nat) (ha : a < 3) (hb : b < 3) (ra : Option Addr) (rn rc : Nat) (aa : Option Addr) (an ac : Nat) (q : Option Addr) (by_ : Int) (w : World)
 (hN : NdAt w g [x, y]) (hX : Ev w (evV ra rn rc aa an ac q by_) x (tr3 a) 0) (hY : ¬ ((oo = 18 ∧ a = 0) ∨ (oo = 19 ∧ a = 1)) → Ev w (evV ra rn rc aa an ac q by_) y (tr3 b) 0) :
 Calls Tryz.prog 177 #[evV ra rn rc aa an ac q by_, ndE 6 oo s u n (some ⟨g, 0, none⟩) 2 lc] w fun e w' => e = .returned (.tuple #[trV (shT oo a b), .int .i64 0]) ∧ Below w.heap.size w w' := by
 have mixed : Tryz.prog.follows .mixedOrders = true := by kernel_rfl
 obtain ⟨xk, xo, xs, xt, xn, xla, xln, xlc⟩ := x
 obtain ⟨yk, yo, ys, yt, yn, yla, yln, ylc⟩ := y
 have HNd := Lib.hid hN
 have HXe := Lib.hid hX
 have HYi := Lib.hid hY
 have KTA := Lib.hid (evaltruth_any a ha)
 have KTB := Lib.hid (evaltruth_any b hb)
 have KAN := Lib.hid (and_any a b ha hb)
 have KOR := Lib.hid (Y.or_any a b ha hb)
 rw [trV_eq _ (andT_lt a b), trV_eq a ha, trV_eq b hb] at KAN
 rw [trV_eq _ (orT_lt a b), trV_eq a ha, trV_eq b hb] at KOR
 rw [trV_eq a ha] at KTA
 rw [trV_eq b hb] at KTB
 rw [trV_eq _ (shT_lt oo a b)]
 obtain ⟨rk, hrk⟩ : ∃ z, z = trK (shT oo a b) := ⟨_, rfl⟩
 obtain ⟨rn', hrn⟩ : ∃ z, z = trN (shT oo a b) := ⟨_, rfl⟩
 rw [← hrk, ← hrn]
 have HRK := Lib.hid hrk
 have HRN := Lib.hid hrn
 have hca : a = 0 ∨ a = 1 ∨ a = 2 := by omega
 have hcb : b = 0 ∨ b = 1 ∨ b = 2 := by omega
 have HCA := Lib.hid hca
 have HCB := Lib.hid hcb
 clear hN hX hY hrk hrn hca hcb ha hb
 simp only [evV, ndE, Ev, N6.v, tr3, vV, emp] at HXe HYi ⊢
 obtain ⟨kk, hkk⟩ : ∃ z : Int, z = 6 := ⟨_, rfl⟩
 obtain ⟨ll, hll⟩ : ∃ z : Nat, z = 2 := ⟨_, rfl⟩
 have HE0 := Lib.hid (((Blk.new w #[.slice ra rn rc, .slice aa an ac, .pointer q, .int .i64 by_] 74 rfl).alloc (.cells #[.int .i64 kk, .int .i64 oo, .string s, .string u, .int .i64 n, .slice (some ⟨g, 0, none⟩) ll lc] 24)).alloc (.cells #[.int .i64 0, .int .i64 0, .string ⟨#[]⟩] 69))
 have HN0 := Lib.hid ((Blk.new (w.alloc (.cells #[.slice ra rn rc, .slice aa an ac, .pointer q, .int .i64 by_] 74)) #[.int .i64 kk, .int .i64 oo, .string s, .string u, .int .i64 n, .slice (some ⟨g, 0, none⟩) ll lc] 24 (n := w.heap.size + 1) (by simp)).alloc (.cells #[.int .i64 0, .int .i64 0, .string ⟨#[]⟩] 69))
 have HR0 := Lib.hid (Blk.new ((w.alloc (.cells #[.slice ra rn rc, .slice aa an ac, .pointer q, .int .i64 by_] 74)).alloc (.cells #[.int .i64 kk, .int .i64 oo, .string s, .string u, .int .i64 n, .slice (some ⟨g, 0, none⟩) ll lc] 24)) #[.int .i64 0, .int .i64 0, .string ⟨#[]⟩] 69 (n := w.heap.size + 1 + 1) (by simp))
 have HX0 := Lib.hid (show Below w.heap.size w (((w.alloc (.cells #[.slice ra rn rc, .slice aa an ac, .pointer q, .int .i64 by_] 74)).alloc (.cells #[.int .i64 kk, .int .i64 oo, .string s, .string u, .int .i64 n, .slice (some ⟨g, 0, none⟩) ll lc] 24)).alloc (.cells #[.int .i64 0, .int .i64 0, .string ⟨#[]⟩] 69)) by go_grown)
 subst hkk hll
 go_enter Tryz.func177, Tryz.ntmps177
 go_wp2_with fail
 generalize (((w.alloc (.cells #[.slice ra rn rc, .slice aa an ac, .pointer q, .int .i64 by_] 74)).alloc (.cells #[.int .i64 6, .int .i64 oo, .string s, .string u, .int .i64 n, .slice (some ⟨g, 0, none⟩) 2 lc] 24)).alloc (.cells #[.int .i64 0, .int .i64 0, .string ⟨#[]⟩] 69)) = W0 at HE0 HN0 HR0 HX0 ⊢
 have HF0 := Lib.hid (show ∀ W, LeW (W0.heap.size ≤ ·) #[.int .i64 (trK a), .int .i64 (trN a), .string ⟨#[]⟩] W0 W → (∀ j, W.cell? ⟨w.heap.size + 1, j, none⟩ = (#[.int .i64 6, .int .i64 oo, .string s, .string u, .int .i64 n, .slice (some ⟨g, 0, none⟩) 2 lc] : Array Value)[j]?) ∧ (∀ j, W.cell? ⟨w.heap.size, j, none⟩ = (#[.slice ra rn rc, .slice aa an ac, .pointer q, .int .i64 by_] : Array Value)[j]?) ∧ W.cell? ⟨g, 0, none⟩ = some (.int .i64 xk) ∧ W.cell? ⟨g, 1, none⟩ = some (.int .i64 xo) ∧ W.cell? ⟨g, 2, none⟩ = some (.string xs) ∧ W.cell? ⟨g, 3, none⟩ = some (.string xt) ∧ W.cell? ⟨g, 4, none⟩ = some (.int .i64 xn) ∧ W.cell? ⟨g, 5, none⟩ = some (.slice xla xln xlc) from
  fun W hW => by
   have hN := HNd.out.ext (show Ext w W0 from HX0.out)
   have hc := fun o => cell_same (hW.old g hN.1 (Nat.not_le.2 hN.1)) o
   obtain ⟨q0, q1, q2, q3, q4, q5⟩ := hN.2 0 _ rfl
   exact ⟨(hW.blk HN0.out (Nat.not_le.2 HN0.out.lt)).cell, (hW.blk HE0.out (Nat.not_le.2 HE0.out.lt)).cell, (hc _).trans q0, (hc _).trans q1, (hc _).trans q2, (hc _).trans q3, (hc _).trans q4, (hc _).trans q5⟩)
 refine wp_parZG (leW (W0.heap.size ≤ ·) #[.int .i64 (trK a), .int .i64 (trN a), .string ⟨#[]⟩]) [0, 1, 2, 3, 4, 5, 6, 7, 8, 9, 10, 11] 12 12 (fun
  | 0 => fun _ v _ => v = .pointer (some ⟨w.heap.size + 1, 5, none⟩)
  | 1 => fun _ v _ => v = .slice (some ⟨g, 0, none⟩) 2 lc
  | 2 => fun _ v _ => v = .pointer (some ⟨g, 0, none⟩)
  | 3 => fun _ v _ => v = .agg #[.int .i64 xk, .int .i64 xo, .string xs, .string xt, .int .i64 xn, .slice xla xln xlc]
  | 4 => fun _ v _ => v = .agg #[.slice ra rn rc, .slice aa an ac, .pointer q, .int .i64 by_]
  | 5 => fun _ v _ => v = .tuple #[.agg #[.int .i64 (trK a), .int .i64 (trN a), .string ⟨#[]⟩], .int .i64 0]
  | 6 => fun _ v _ => v = .tuple #[.agg #[.int .i64 (trK a), .int .i64 (trN a), .string ⟨#[]⟩], .int .i64 0]
  | 7 => fun _ v _ => v = .agg #[.int .i64 (trK a), .int .i64 (trN a), .string ⟨#[]⟩]
  | 8 => fun _ v _ => v = .int .i64 0
  | 9 => fun _ => newVa W0.heap.size
  | 10 => storedV W0.heap.size #[.int .i64 (trK a), .int .i64 (trN a), .string ⟨#[]⟩]
  | 11 => fun _ v _ => v = .int .i64 0
  | _ => fun _ _ _ => True) (fun
  | _ => undef) (by kernel_rfl) (by kernel_rfl) (by kernel_rfl) ?_ ?_ ?_
 ·simp (maxSteps := 20000000) only [permL, permOp, List.filterMap_cons, List.filterMap_nil, List.getElem?_cons_succ, List.getElem?_cons_zero, Option.map_some, Option.map_none, List.take_succ_cons, List.take_zero, ParAllG, Act.put, List.setIfInBounds_toArray, List.set_cons_succ, List.set_cons_zero]
  refine ⟨?_, ?_, ?_, ?_, ?_, ?_, ?_, ?_, ?_, ?_, ?_, ?_, trivial⟩
  all_goals
   intro vals W hx hd
   have hW := HF0.out W hx
   simp [PDepsG, pdeps, Region.binds, List.idxOf_cons] at hd
   first
    | refine ParObG.plain rfl ?_
    | refine ParObG.wanted (by simp [Region.wanted, yielded, hd]) ?_
  iterate 5
   next =>
    go_simp
    exact ParPostG.same (leW (W0.heap.size ≤ ·) #[.int .i64 (trK a), .int .i64 (trN a), .string ⟨#[]⟩]) fun _ _ => rfl
  ·go_simp
   refine (HXe.out W (Ext.trans (show Ext w W0 from HX0.out) (LeW.below (Below.refl _ _) hx fun i hi => hi))).mono ?_
   rintro e w9 ⟨rfl, hb9⟩
   exact ⟨_, rfl, LeW.ofExt hb9, fun _ _ => rfl⟩
  iterate 3
   next =>
    go_simp
    exact ParPostG.same (leW (W0.heap.size ≤ ·) #[.int .i64 (trK a), .int .i64 (trN a), .string ⟨#[]⟩]) fun _ _ => rfl
  ·go_simp
   exact ⟨LeW.ofExt ((Ext.refl _).alloc _), fun w3 h3 => by
    obtain ⟨cs, h4, h5⟩ := h3.row _ _ (Blk.new W #[.int .i64 0, .int .i64 0, .string ⟨#[]⟩] 69 rfl) rfl
    exact ⟨_, cs, rfl, hx.size, h4, h5⟩⟩
  ·obtain ⟨⟨gc, old, hgv, hge, hgb, hgs⟩, hcv⟩ := hd
   refine yields_storeV (cs := #[.int .i64 (trK a), .int .i64 (trN a), .string ⟨#[]⟩]) rfl (by simpa [Act.eval] using hgv) (by simp [Act.eval, hcv]) hgb hgs rfl (by simp [Value.oneCell']) ?_
   exact ⟨LeW.setRow hgb hge rfl, fun w10 h10 => ⟨gc, by simp [dv, ldeps, pdeps, Region.binds, List.idxOf_cons, hgv], hge, h10.keep gc (setRow_heap W gc old _ _ _ hgb)⟩⟩
  ·go_simp
   exact ParPostG.same (leW (W0.heap.size ≤ ·) #[.int .i64 (trK a), .int .i64 (trN a), .string ⟨#[]⟩]) fun _ _ => rfl
 ·simp (maxSteps := 20000000) only [permL, permOp, List.filterMap_cons, List.filterMap_nil, List.getElem?_cons_succ, List.getElem?_cons_zero, Option.map_some, Option.map_none, List.drop_succ_cons, List.drop_zero, List.take_succ_cons, List.take_zero, Nat.reduceSub, ZAll, ParEnd, Act.put, List.setIfInBounds_toArray, List.set_cons_succ, List.set_cons_zero]
 intro vals W hx hf hz
 simp (maxSteps := 20000000) only [permL, permOp, List.filterMap_cons, List.filterMap_nil, List.getElem?_cons_succ, List.getElem?_cons_zero, Option.map_some, Option.map_none, ParFactsG, List.take_succ_cons, List.take_zero, and_true, Nat.reduceAdd] at hf
 obtain ⟨f0, f1, f2, f3, f4, f5, f6, f7, f8, f9, f10, f11⟩ := hf
 clear hz
 simp (maxSteps := 20000000) only [permL, permOp, List.filterMap_cons, List.filterMap_nil, List.getElem?_cons_succ, List.getElem?_cons_zero, Option.map_some, Option.map_none, List.drop_succ_cons, List.drop_zero, List.take_succ_cons, List.take_zero, Nat.reduceSub, ParEnd, ZTail, Act.put, List.setIfInBounds_toArray, List.set_cons_succ, List.set_cons_zero, Nat.reduceAdd, f0, f1, f2, f3, f4, f5, f6, f7, f8, f11]
 clear f0 f1 f2 f3 f4 f5 f6 f7 f8 f11
 obtain ⟨gA, hds, hgA, hbA⟩ := f10
 simp [dv, ldeps, pdeps, Region.binds, List.idxOf_cons] at hds
 have hxE : Ext W0 W := LeW.below (Below.refl _ _) hx fun i hi => hi
 rw [hds]
 have HA1 := Lib.hid hbA
 have HN1 := Lib.hid (HN0.out.keep hxE)
 have HE1 := Lib.hid (HE0.out.keep hxE)
 have HR1 := Lib.hid (HR0.out.keep hxE)
 have HX1 := Lib.hid (show Below w.heap.size w W from Ext.trans HX0.out hxE)
 have HgA := Lib.hid (show w.heap.size + 1 + 1 < gA from Nat.lt_of_lt_of_le HR0.out.lt hgA)
 clear hx hxE HF0 f9 hds hbA hgA HE0 HN0 HR0 HX0
 rename_i W1
 obtain ⟨cA, fA⟩ := HA1.out.facts
 obtain ⟨cN, fN⟩ := HN1.out.facts
 obtain ⟨cR, fR⟩ := HR1.out.facts
 have hAl := HA1.out.lt
 have hRl := HR1.out.lt
 go_simp
 repeat (first | go_values | go_skip | go_guarded | go_step | go_upon)
 refine Calls.mono (KTA.out _) ?_
 rintro e W2 ⟨rfl, hb2⟩
 have HA2 := Lib.hid (HA1.out.keep hb2)
 have HN2 := Lib.hid (HN1.out.keep hb2)
 have HE2 := Lib.hid (HE1.out.keep hb2)
 have HR2 := Lib.hid (HR1.out.keep hb2)
 have HX2 := Lib.hid (show Below w.heap.size w W2 from HX1.out.trans (hb2.mono HX1.out.size))
 clear hb2 cA fA cN fN cR fR hAl hRl HA1 HN1 HE1 HR1 HX1
 obtain ⟨cA, fA⟩ := HA2.out.facts
 obtain ⟨cN, fN⟩ := HN2.out.facts
 obtain ⟨cR, fR⟩ := HR2.out.facts
 have hAl := HA2.out.lt
 have hNl := HN2.out.lt
 have hRl := HR2.out.lt
 by_cases hret : (oo = 18 ∧ a = 0) ∨ (oo = 19 ∧ a = 1)
 ·have hres : rk = trK a ∧ rn' = trN a := by
   rw [HRK.out, HRN.out]
   have hs : shT oo a b = a := by
    rcases hret with ⟨rfl, rfl⟩ | ⟨rfl, rfl⟩
    ·rw [shT, if_pos rfl, andT, if_pos (.inl rfl)]
    ·rcases HCB.out with rfl | rfl | rfl <;> rfl
   rw [hs]
   exact ⟨rfl, rfl⟩
  have HRes := Lib.hid hres
  have hk1 : (trK a == 1) = true := by rcases hret with ⟨_, rfl⟩ | ⟨_, rfl⟩ <;> rfl
  have hk2 : ((trN a == 1) == (oo == 19)) = true := by rcases hret with ⟨rfl, rfl⟩ | ⟨rfl, rfl⟩ <;> rfl
  clear hres hret
  go_simp
  repeat (first | go_values | go_skip | go_guarded | go_step | go_upon)
  refine bodyPost_ret (ret_vE2 rfl _ rfl rfl (blk3 HR2.out _ _ _)) rfl ?_
  exact ⟨by rw [HRes.out.1, HRes.out.2]; rfl, below3 HX2.out (by omega) _ _ _⟩
 ·have hnot : (trK a == 1) = false ∨ ((trK a == 1) = true ∧ ((trN a == 1) == (oo == 19)) = false) := by
   rcases HCA.out with rfl | rfl | rfl
   ·right
    refine ⟨rfl, ?_⟩
    rcases hop with rfl | rfl
    ·exact absurd (.inl ⟨rfl, rfl⟩) hret
    ·rfl
   ·right
    refine ⟨rfl, ?_⟩
    rcases hop with rfl | rfl
    ·rfl
    ·exact absurd (.inr ⟨rfl, rfl⟩) hret
   ·left; rfl
  have HYe := Lib.hid (HYi.out hret)
  clear hret
  have HN1 := HN2
  have HE1 := HE2
  have HX1 := HX2
  rcases hnot with hk1 | ⟨hk1, hk2⟩
  all_goals
   go_simp
   repeat (first | go_values | go_skip | go_guarded | go_step | go_upon)
   clear cA fA cN fN cR fR hAl hNl hRl
   have HF1 := Lib.hid (show ∀ W, LeW (W2.heap.size ≤ ·) #[.int .i64 (trK b), .int .i64 (trN b), .string ⟨#[]⟩] W2 W → (∀ j, W.cell? ⟨w.heap.size + 1, j, none⟩ = (#[.int .i64 6, .int .i64 oo, .string s, .string u, .int .i64 n, .slice (some ⟨g, 0, none⟩) 2 lc] : Array Value)[j]?) ∧ (∀ j, W.cell? ⟨w.heap.size, j, none⟩ = (#[.slice ra rn rc, .slice aa an ac, .pointer q, .int .i64 by_] : Array Value)[j]?) ∧ W.cell? ⟨g, 6, none⟩ = some (.int .i64 yk) ∧ W.cell? ⟨g, 7, none⟩ = some (.int .i64 yo) ∧ W.cell? ⟨g, 8, none⟩ = some (.string ys) ∧ W.cell? ⟨g, 9, none⟩ = some (.string yt) ∧ W.cell? ⟨g, 10, none⟩ = some (.int .i64 yn) ∧ W.cell? ⟨g, 11, none⟩ = some (.slice yla yln ylc) from
    fun W hW => by
     have hN := HNd.out.ext (show Ext w W2 from HX1.out)
     have hc := fun o => cell_same (hW.old g hN.1 (Nat.not_le.2 hN.1)) o
     obtain ⟨q0, q1, q2, q3, q4, q5⟩ := hN.2 1 _ rfl
     exact ⟨(hW.blk HN1.out (Nat.not_le.2 HN1.out.lt)).cell, (hW.blk HE1.out (Nat.not_le.2 HE1.out.lt)).cell, (hc _).trans q0, (hc _).trans q1, (hc _).trans q2, (hc _).trans q3, (hc _).trans q4, (hc _).trans q5⟩)
   refine wp_parZG (leW (W2.heap.size ≤ ·) #[.int .i64 (trK b), .int .i64 (trN b), .string ⟨#[]⟩]) [0, 1, 2, 3, 4, 5, 6, 7, 8, 9, 10, 11] 12 12 (fun
    | 0 => fun _ v _ => v = .pointer (some ⟨w.heap.size + 1, 5, none⟩)
    | 1 => fun _ v _ => v = .slice (some ⟨g, 0, none⟩) 2 lc
    | 2 => fun _ v _ => v = .pointer (some ⟨g, 6, none⟩)
    | 3 => fun _ v _ => v = .agg #[.int .i64 yk, .int .i64 yo, .string ys, .string yt, .int .i64 yn, .slice yla yln ylc]
    | 4 => fun _ v _ => v = .agg #[.slice ra rn rc, .slice aa an ac, .pointer q, .int .i64 by_]
    | 5 => fun _ v _ => v = .tuple #[.agg #[.int .i64 (trK b), .int .i64 (trN b), .string ⟨#[]⟩], .int .i64 0]
    | 6 => fun _ v _ => v = .tuple #[.agg #[.int .i64 (trK b), .int .i64 (trN b), .string ⟨#[]⟩], .int .i64 0]
    | 7 => fun _ v _ => v = .agg #[.int .i64 (trK b), .int .i64 (trN b), .string ⟨#[]⟩]
    | 8 => fun _ v _ => v = .int .i64 0
    | 9 => fun _ => newVa W2.heap.size
    | 10 => storedV W2.heap.size #[.int .i64 (trK b), .int .i64 (trN b), .string ⟨#[]⟩]
    | 11 => fun _ v _ => v = .int .i64 0
    | _ => fun _ _ _ => True) (fun
    | _ => undef) (by kernel_rfl) (by kernel_rfl) (by kernel_rfl) ?_ ?_ ?_
   ·simp (maxSteps := 20000000) only [permL, permOp, List.filterMap_cons, List.filterMap_nil, List.getElem?_cons_succ, List.getElem?_cons_zero, Option.map_some, Option.map_none, List.take_succ_cons, List.take_zero, ParAllG, Act.put, List.setIfInBounds_toArray, List.set_cons_succ, List.set_cons_zero]
    refine ⟨?_, ?_, ?_, ?_, ?_, ?_, ?_, ?_, ?_, ?_, ?_, ?_, trivial⟩
    all_goals
     intro vals W hx hd
     have hW := HF1.out W hx
     simp [PDepsG, pdeps, Region.binds, List.idxOf_cons] at hd
     first
      | refine ParObG.plain rfl ?_
      | refine ParObG.wanted (by simp [Region.wanted, yielded, hd]) ?_
    iterate 5
     next =>
      go_simp
      exact ParPostG.same (leW (W2.heap.size ≤ ·) #[.int .i64 (trK b), .int .i64 (trN b), .string ⟨#[]⟩]) fun _ _ => rfl
    ·go_simp
     refine (HYe.out W (Ext.trans (show Ext w W2 from HX1.out) (LeW.below (Below.refl _ _) hx fun i hi => hi))).mono ?_
     rintro e w9 ⟨rfl, hb9⟩
     exact ⟨_, rfl, LeW.ofExt hb9, fun _ _ => rfl⟩
    iterate 3
     next =>
      go_simp
      exact ParPostG.same (leW (W2.heap.size ≤ ·) #[.int .i64 (trK b), .int .i64 (trN b), .string ⟨#[]⟩]) fun _ _ => rfl
    ·go_simp
     exact ⟨LeW.ofExt ((Ext.refl _).alloc _), fun w3 h3 => by
      obtain ⟨cs, h4, h5⟩ := h3.row _ _ (Blk.new W #[.int .i64 0, .int .i64 0, .string ⟨#[]⟩] 69 rfl) rfl
      exact ⟨_, cs, rfl, hx.size, h4, h5⟩⟩
    ·obtain ⟨⟨gc, old, hgv, hge, hgb, hgs⟩, hcv⟩ := hd
     refine yields_storeV (cs := #[.int .i64 (trK b), .int .i64 (trN b), .string ⟨#[]⟩]) rfl (by simpa [Act.eval] using hgv) (by simp [Act.eval, hcv]) hgb hgs rfl (by simp [Value.oneCell']) ?_
     exact ⟨LeW.setRow hgb hge rfl, fun w10 h10 => ⟨gc, by simp [dv, ldeps, pdeps, Region.binds, List.idxOf_cons, hgv], hge, h10.keep gc (setRow_heap W gc old _ _ _ hgb)⟩⟩
    ·go_simp
     exact ParPostG.same (leW (W2.heap.size ≤ ·) #[.int .i64 (trK b), .int .i64 (trN b), .string ⟨#[]⟩]) fun _ _ => rfl
   ·simp (maxSteps := 20000000) only [permL, permOp, List.filterMap_cons, List.filterMap_nil, List.getElem?_cons_succ, List.getElem?_cons_zero, Option.map_some, Option.map_none, List.drop_succ_cons, List.drop_zero, List.take_succ_cons, List.take_zero, Nat.reduceSub, ZAll, ParEnd, Act.put, List.setIfInBounds_toArray, List.set_cons_succ, List.set_cons_zero]
   intro vals W hx hf hz
   simp (maxSteps := 20000000) only [permL, permOp, List.filterMap_cons, List.filterMap_nil, List.getElem?_cons_succ, List.getElem?_cons_zero, Option.map_some, Option.map_none, ParFactsG, List.take_succ_cons, List.take_zero, and_true, Nat.reduceAdd] at hf
   obtain ⟨f0, f1, f2, f3, f4, f5, f6, f7, f8, f9, f10, f11⟩ := hf
   clear hz
   simp (maxSteps := 20000000) only [permL, permOp, List.filterMap_cons, List.filterMap_nil, List.getElem?_cons_succ, List.getElem?_cons_zero, Option.map_some, Option.map_none, List.drop_succ_cons, List.drop_zero, List.take_succ_cons, List.take_zero, Nat.reduceSub, ParEnd, ZTail, Act.put, List.setIfInBounds_toArray, List.set_cons_succ, List.set_cons_zero, Nat.reduceAdd, f0, f1, f2, f3, f4, f5, f6, f7, f8, f11]
   clear f0 f1 f2 f3 f4 f5 f6 f7 f8 f11
   obtain ⟨gB, hds, hgB, hbB⟩ := f10
   simp [dv, ldeps, pdeps, Region.binds, List.idxOf_cons] at hds
   have hxE : Ext W2 W := LeW.below (Below.refl _ _) hx fun i hi => hi
   rw [hds]
   have HA3 := Lib.hid (HA2.out.keep hxE)
   have HB3 := Lib.hid hbB
   have HN3 := Lib.hid (HN2.out.keep hxE)
   have HR3 := Lib.hid (HR2.out.keep hxE)
   have HX3 := Lib.hid (show Below w.heap.size w W from Ext.trans HX2.out hxE)
   clear hx hxE HF1 f9 hds hbB hgB HN1 HE1 HX1 HN2 HE2 HR2 HX2 HA2
   obtain ⟨cB, fB⟩ := HB3.out.facts
   have hBl := HB3.out.lt
   go_simp
   repeat (first | go_values | go_skip | go_guarded | go_step | go_upon)
   clear cB fB hBl
   refine Calls.mono (KTB.out _) ?_
   rintro e W4 ⟨rfl, hb4⟩
   have HA4 := Lib.hid (HA3.out.keep hb4)
   have HB4 := Lib.hid (HB3.out.keep hb4)
   have HN4 := Lib.hid (HN3.out.keep hb4)
   have HR4 := Lib.hid (HR3.out.keep hb4)
   have HX4 := Lib.hid (show Below w.heap.size w W4 from HX3.out.trans (hb4.mono HX3.out.size))
   clear hb4 HA3 HB3 HN3 HR3 HX3
   obtain ⟨cA, fA⟩ := HA4.out.facts
   obtain ⟨cB, fB⟩ := HB4.out.facts
   obtain ⟨cN, fN⟩ := HN4.out.facts
   have hAl := HA4.out.lt
   have hBl := HB4.out.lt
   have hNl := HN4.out.lt
   rcases hop with rfl | rfl
   ·have hres : rk = trK (andT a b) ∧ rn' = trN (andT a b) := ⟨HRK.out, HRN.out⟩
    have HRes := Lib.hid hres
    clear hres
    go_simp
    repeat (first | go_values | go_skip | go_guarded | go_step | go_upon)
    refine Calls.mono (KAN.out _) ?_
    rintro e W5 ⟨rfl, hb5⟩
    have HR5 := Lib.hid (HR4.out.keep hb5)
    have HX5 := Lib.hid (show Below w.heap.size w W5 from HX4.out.trans (hb5.mono HX4.out.size))
    clear hb5 cA fA cB fB cN fN hAl hBl hNl
    obtain ⟨cR, fR⟩ := HR5.out.facts
    have hRl := HR5.out.lt
    go_simp
    repeat (first | go_values | go_skip | go_guarded | go_step | go_upon)
    refine bodyPost_ret (ret_vE2 rfl _ rfl rfl (blk3 HR5.out _ _ _)) rfl ?_
    exact ⟨by rw [HRes.out.1, HRes.out.2]; rfl, below3 HX5.out (by omega) _ _ _⟩
   ·have hres : rk = trK (orT a b) ∧ rn' = trN (orT a b) := ⟨HRK.out, HRN.out⟩
    have HRes := Lib.hid hres
    clear hres
    go_simp
    repeat (first | go_values | go_skip | go_guarded | go_step | go_upon)
    refine Calls.mono (KOR.out _) ?_
    rintro e W5 ⟨rfl, hb5⟩
    have HR5 := Lib.hid (HR4.out.keep hb5)
    have HX5 := Lib.hid (show Below w.heap.size w W5 from HX4.out.trans (hb5.mono HX4.out.size))
    clear hb5 cA fA cB fB cN fN hAl hBl hNl
    obtain ⟨cR, fR⟩ := HR5.out.facts
    have hRl := HR5.out.lt
    go_simp
    repeat (first | go_values | go_skip | go_guarded | go_step | go_upon)
    refine bodyPost_ret (ret_vE2 rfl _ rfl rfl (blk3 HR5.out _ _ _)) rfl ?_
    exact ⟨by rw [HRes.out.1, HRes.out.2]; rfl, below3 HX5.out (by omega) _ _ _⟩
end Go.Proofs.YtcgbpmeadohbkaaGreatDoor
