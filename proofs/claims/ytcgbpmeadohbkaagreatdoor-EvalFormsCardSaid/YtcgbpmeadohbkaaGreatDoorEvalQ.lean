import Derived.Test.YtcgbpmeadohbkaaGreatDoorEvalH
import Derived.Test.YtcgbpmeadohbkaaGreatDoorEvalP
namespace Go.Proofs.YtcgbpmeadohbkaaGreatDoor
open Go.RowKit Go.Lib
set_option maxRecDepth 100000
set_option maxHeartbeats 16000000 in
theorem short_err (oo : Int) (s u : ByteArray) (n : Int) (g lc : Nat) (x y : N6) (ra : Option Addr) (rn rc : Nat) (aa : Option Addr) (an ac : Nat) (q : Option Addr) (by_ : Int) (w : World)
 (hN : NdAt w g [x, y]) (hX : Ev w (evV ra rn rc aa an ac q by_) x (0, 0, emp) 18) :
 Calls Tryz.prog 177 #[evV ra rn rc aa an ac q by_, ndE 6 oo s u n (some ⟨g, 0, none⟩) 2 lc] w fun e w' => e = .returned (.tuple #[vV 0 0 emp, .int .i64 18]) ∧ Below w.heap.size w w' := by
 have mixed : Tryz.prog.follows .mixedOrders = true := by kernel_rfl
 obtain ⟨xk, xo, xs, xt, xn, xla, xln, xlc⟩ := x
 have HNd := Lib.hid hN
 have HXe := Lib.hid hX
 have KF := Lib.hid (fun W => fits_err 0 0 emp W)
 clear hN hX
 simp only [evV, ndE, Ev, N6.v, vV, emp] at HXe KF ⊢
 obtain ⟨kk, hkk⟩ : ∃ z : Int, z = 6 := ⟨_, rfl⟩
 obtain ⟨ll, hll⟩ : ∃ z : Nat, z = 2 := ⟨_, rfl⟩
 have HE0 := Lib.hid (((Blk.new w #[.slice ra rn rc, .slice aa an ac, .pointer q, .int .i64 by_] 74 rfl).alloc (.cells #[.int .i64 kk, .int .i64 oo, .string s, .string u, .int .i64 n, .slice (some ⟨g, 0, none⟩) ll lc] 24)).alloc (.cells #[.int .i64 0, .int .i64 0, .string ⟨#[]⟩] 69))
 have HN0 := Lib.hid ((Blk.new (w.alloc (.cells #[.slice ra rn rc, .slice aa an ac, .pointer q, .int .i64 by_] 74)) #[.int .i64 kk, .int .i64 oo, .string s, .string u, .int .i64 n, .slice (some ⟨g, 0, none⟩) ll lc] 24 (n := w.heap.size + 1) (by simp)).alloc (.cells #[.int .i64 0, .int .i64 0, .string ⟨#[]⟩] 69))
 have HR0 := Lib.hid (Blk.new ((w.alloc (.cells #[.slice ra rn rc, .slice aa an ac, .pointer q, .int .i64 by_] 74)).alloc (.cells #[.int .i64 kk, .int .i64 oo, .string s, .string u, .int .i64 n, .slice (some ⟨g, 0, none⟩) ll lc] 24)) #[.int .i64 0, .int .i64 0, .string ⟨#[]⟩] 69 (n := w.heap.size + 1 + 1) (by simp))
 have HX0 := Lib.hid (show Below w.heap.size w (((w.alloc (.cells #[.slice ra rn rc, .slice aa an ac, .pointer q, .int .i64 by_] 74)).alloc (.cells #[.int .i64 kk, .int .i64 oo, .string s, .string u, .int .i64 n, .slice (some ⟨g, 0, none⟩) ll lc] 24)).alloc (.cells #[.int .i64 0, .int .i64 0, .string ⟨#[]⟩] 69)) by go_grown)
 subst hkk hll
 go_enter Tryz.func177, Tryz.ntmps177
 go_wp2_with fail
 generalize (((w.alloc (.cells #[.slice ra rn rc, .slice aa an ac, .pointer q, .int .i64 by_] 74)).alloc (.cells #[.int .i64 6, .int .i64 oo, .string s, .string u, .int .i64 n, .slice (some ⟨g, 0, none⟩) 2 lc] 24)).alloc (.cells #[.int .i64 0, .int .i64 0, .string ⟨#[]⟩] 69)) = W0 at HE0 HN0 HR0 HX0 ⊢
 have HF0 := Lib.hid (show ∀ W, LeW (W0.heap.size ≤ ·) #[.int .i64 0, .int .i64 0, .string ⟨#[]⟩] W0 W → (∀ j, W.cell? ⟨w.heap.size + 1, j, none⟩ = (#[.int .i64 6, .int .i64 oo, .string s, .string u, .int .i64 n, .slice (some ⟨g, 0, none⟩) 2 lc] : Array Value)[j]?) ∧ (∀ j, W.cell? ⟨w.heap.size, j, none⟩ = (#[.slice ra rn rc, .slice aa an ac, .pointer q, .int .i64 by_] : Array Value)[j]?) ∧ W.cell? ⟨g, 0, none⟩ = some (.int .i64 xk) ∧ W.cell? ⟨g, 1, none⟩ = some (.int .i64 xo) ∧ W.cell? ⟨g, 2, none⟩ = some (.string xs) ∧ W.cell? ⟨g, 3, none⟩ = some (.string xt) ∧ W.cell? ⟨g, 4, none⟩ = some (.int .i64 xn) ∧ W.cell? ⟨g, 5, none⟩ = some (.slice xla xln xlc) from
  fun W hW => by
   have hN := HNd.out.ext (show Ext w W0 from HX0.out)
   have hc := fun o => cell_same (hW.old g hN.1 (Nat.not_le.2 hN.1)) o
   obtain ⟨q0, q1, q2, q3, q4, q5⟩ := hN.2 0 _ rfl
   exact ⟨(hW.blk HN0.out (Nat.not_le.2 HN0.out.lt)).cell, (hW.blk HE0.out (Nat.not_le.2 HE0.out.lt)).cell, (hc _).trans q0, (hc _).trans q1, (hc _).trans q2, (hc _).trans q3, (hc _).trans q4, (hc _).trans q5⟩)
 refine wp_parZG (leW (W0.heap.size ≤ ·) #[.int .i64 0, .int .i64 0, .string ⟨#[]⟩]) [0, 1, 2, 3, 4, 5, 6, 7, 8, 9, 10, 11] 12 12 (fun
  | 0 => fun _ v _ => v = .pointer (some ⟨w.heap.size + 1, 5, none⟩)
  | 1 => fun _ v _ => v = .slice (some ⟨g, 0, none⟩) 2 lc
  | 2 => fun _ v _ => v = .pointer (some ⟨g, 0, none⟩)
  | 3 => fun _ v _ => v = .agg #[.int .i64 xk, .int .i64 xo, .string xs, .string xt, .int .i64 xn, .slice xla xln xlc]
  | 4 => fun _ v _ => v = .agg #[.slice ra rn rc, .slice aa an ac, .pointer q, .int .i64 by_]
  | 5 => fun _ v _ => v = .tuple #[.agg #[.int .i64 0, .int .i64 0, .string ⟨#[]⟩], .int .i64 18]
  | 6 => fun _ v _ => v = .tuple #[.agg #[.int .i64 0, .int .i64 0, .string ⟨#[]⟩], .int .i64 18]
  | 7 => fun _ v _ => v = .agg #[.int .i64 0, .int .i64 0, .string ⟨#[]⟩]
  | 8 => fun _ v _ => v = .int .i64 18
  | 9 => fun _ => newVa W0.heap.size
  | 10 => storedV W0.heap.size #[.int .i64 0, .int .i64 0, .string ⟨#[]⟩]
  | 11 => fun _ v _ => v = .int .i64 18
  | _ => fun _ _ _ => True) (fun
  | _ => undef) (by kernel_rfl) (by kernel_rfl) (by kernel_rfl) ?_ ?_ ?_
 ·simp (maxSteps := 20000000) only [permL, permOp, List.filterMap_cons, List.filterMap_nil, List.getElem?_cons_succ, List.getElem?_cons_zero, Option.map_some, Option.map_none, List.take_succ_cons, List.take_zero, ParAllG, Act.put, List.setIfInBounds_toArray, List.set_cons_succ, List.set_cons_zero]
  refine ⟨?_, ?_, ?_, ?_, ?_, ?_, ?_, ?_, ?_, ?_, ?_, ?_, trivial⟩
  all_goals
   intro vals W hx hd
   have hW := HF0.out W hx
   simp [PDepsG, pdeps, Region.binds, List.idxOf_cons] at hd
   first
    | refine ParObG.plain rfl ?_
    | refine ParObG.wanted (by simp [Region.wanted, yielded, hd]) ?_
  iterate 5
   next =>
    go_simp
    exact ParPostG.same (leW (W0.heap.size ≤ ·) #[.int .i64 0, .int .i64 0, .string ⟨#[]⟩]) fun _ _ => rfl
  ·go_simp
   refine (HXe.out W (Ext.trans (show Ext w W0 from HX0.out) (LeW.below (Below.refl _ _) hx fun i hi => hi))).mono ?_
   rintro e w9 ⟨rfl, hb9⟩
   exact ⟨_, rfl, LeW.ofExt hb9, fun _ _ => rfl⟩
  iterate 3
   next =>
    go_simp
    exact ParPostG.same (leW (W0.heap.size ≤ ·) #[.int .i64 0, .int .i64 0, .string ⟨#[]⟩]) fun _ _ => rfl
  ·go_simp
   exact ⟨LeW.ofExt ((Ext.refl _).alloc _), fun w3 h3 => by
    obtain ⟨cs, h4, h5⟩ := h3.row _ _ (Blk.new W #[.int .i64 0, .int .i64 0, .string ⟨#[]⟩] 69 rfl) rfl
    exact ⟨_, cs, rfl, hx.size, h4, h5⟩⟩
  ·obtain ⟨⟨gc, old, hgv, hge, hgb, hgs⟩, hcv⟩ := hd
   refine yields_storeV (cs := #[.int .i64 0, .int .i64 0, .string ⟨#[]⟩]) rfl (by simpa [Act.eval] using hgv) (by simp [Act.eval, hcv]) hgb hgs rfl (by simp [Value.oneCell']) ?_
   exact ⟨LeW.setRow hgb hge rfl, fun w10 h10 => ⟨gc, by simp [dv, ldeps, pdeps, Region.binds, List.idxOf_cons, hgv], hge, h10.keep gc (setRow_heap W gc old _ _ _ hgb)⟩⟩
  ·go_simp
   exact ParPostG.same (leW (W0.heap.size ≤ ·) #[.int .i64 0, .int .i64 0, .string ⟨#[]⟩]) fun _ _ => rfl
 ·simp (maxSteps := 20000000) only [permL, permOp, List.filterMap_cons, List.filterMap_nil, List.getElem?_cons_succ, List.getElem?_cons_zero, Option.map_some, Option.map_none, List.drop_succ_cons, List.drop_zero, List.take_succ_cons, List.take_zero, Nat.reduceSub, ZAll, ParEnd, Act.put, List.setIfInBounds_toArray, List.set_cons_succ, List.set_cons_zero]
 intro vals W hx hf hz
 simp (maxSteps := 20000000) only [permL, permOp, List.filterMap_cons, List.filterMap_nil, List.getElem?_cons_succ, List.getElem?_cons_zero, Option.map_some, Option.map_none, ParFactsG, List.take_succ_cons, List.take_zero, and_true, Nat.reduceAdd] at hf
 obtain ⟨f0, f1, f2, f3, f4, f5, f6, f7, f8, f9, f10, f11⟩ := hf
 clear hz
 simp (maxSteps := 20000000) only [permL, permOp, List.filterMap_cons, List.filterMap_nil, List.getElem?_cons_succ, List.getElem?_cons_zero, Option.map_some, Option.map_none, List.drop_succ_cons, List.drop_zero, List.take_succ_cons, List.take_zero, Nat.reduceSub, ParEnd, ZTail, Act.put, List.setIfInBounds_toArray, List.set_cons_succ, List.set_cons_zero, Nat.reduceAdd, f0, f1, f2, f3, f4, f5, f6, f7, f8, f11]
 clear f0 f1 f2 f3 f4 f5 f6 f7 f8 f11
 obtain ⟨gA, hds, hgA, hbA⟩ := f10
 simp [dv, ldeps, pdeps, Region.binds, List.idxOf_cons] at hds
 have hxE : Ext W0 W := LeW.below (Below.refl _ _) hx fun i hi => hi
 rw [hds]
 have HA1 := Lib.hid hbA
 have HR1 := Lib.hid (HR0.out.keep hxE)
 have HX1 := Lib.hid (show Below w.heap.size w W from Ext.trans HX0.out hxE)
 clear hx hxE HF0 f9 hds hbA hgA HE0 HN0 HR0 HX0
 obtain ⟨cA, fA⟩ := HA1.out.facts
 have hAl := HA1.out.lt
 go_simp
 repeat (first | go_values | go_skip | go_guarded | go_step | go_upon)
 refine Calls.mono (KF.out _) ?_
 rintro e W2 ⟨rfl, hb⟩
 have HR2 := Lib.hid (HR1.out.keep hb)
 have HX2 := Lib.hid (show Below w.heap.size w W2 from HX1.out.trans (hb.mono HX1.out.size))
 clear hb cA fA hAl
 obtain ⟨cR, fR⟩ := HR2.out.facts
 have hRl := HR2.out.lt
 go_simp
 repeat (first | go_values | go_skip | go_guarded | go_step | go_upon)
 refine bodyPost_ret (ret_vE2 rfl _ rfl rfl (blk3 HR2.out _ _ _)) rfl ?_
 exact ⟨rfl, below3 HX2.out (by omega) _ _ _⟩
end Go.Proofs.YtcgbpmeadohbkaaGreatDoor
namespace Go.Proofs.YtcgbpmeadohbkaaGreatDoor
open Go.RowKit Go.Lib
set_option maxRecDepth 100000
set_option maxHeartbeats 8000000 in
theorem binary_sherr (oo : Int) (hop : oo = 18 ∨ oo = 19) (s u : ByteArray) (n : Int) (g lc : Nat) (x y : N6) (ra : Option Addr) (rn rc : Nat) (aa : Option Addr) (an ac : Nat) (q : Option Addr) (by_ : Int) (w : World)
 (hN : NdAt w g [x, y]) (hX : Ev w (evV ra rn rc aa an ac q by_) x (0, 0, emp) 18) :
 Calls Tryz.prog 105 #[evV ra rn rc aa an ac q by_, ndE 6 oo s u n (some ⟨g, 0, none⟩) 2 lc] w fun e w' => e = .returned (.tuple #[vV 0 0 emp, .int .i64 18]) ∧ Below w.heap.size w w' := by
 have KS := Lib.hid (fun W (hW : Ext w W) => short_err oo s u n g lc x y ra rn rc aa an ac q by_ W (hN.ext hW) (hX.ext hW))
 simp only [evV, ndE, vV, emp] at KS ⊢
 clear hN hX
 obtain ⟨kk, hkk⟩ : ∃ z : Int, z = 6 := ⟨_, rfl⟩
 obtain ⟨ll, hll⟩ : ∃ z : Nat, z = 2 := ⟨_, rfl⟩
 have HE0 := Lib.hid (((Blk.new w #[.slice ra rn rc, .slice aa an ac, .pointer q, .int .i64 by_] 74 rfl).alloc (.cells #[.int .i64 kk, .int .i64 oo, .string s, .string u, .int .i64 n, .slice (some ⟨g, 0, none⟩) ll lc] 24)).alloc (.cells #[.int .i64 0, .int .i64 0, .string ⟨#[]⟩] 69))
 have HN0 := Lib.hid ((Blk.new (w.alloc (.cells #[.slice ra rn rc, .slice aa an ac, .pointer q, .int .i64 by_] 74)) #[.int .i64 kk, .int .i64 oo, .string s, .string u, .int .i64 n, .slice (some ⟨g, 0, none⟩) ll lc] 24 (n := w.heap.size + 1) (by simp)).alloc (.cells #[.int .i64 0, .int .i64 0, .string ⟨#[]⟩] 69))
 have HR0 := Lib.hid (Blk.new ((w.alloc (.cells #[.slice ra rn rc, .slice aa an ac, .pointer q, .int .i64 by_] 74)).alloc (.cells #[.int .i64 kk, .int .i64 oo, .string s, .string u, .int .i64 n, .slice (some ⟨g, 0, none⟩) ll lc] 24)) #[.int .i64 0, .int .i64 0, .string ⟨#[]⟩] 69 (n := w.heap.size + 1 + 1) (by simp))
 have HX0 := Lib.hid (show Below w.heap.size w (((w.alloc (.cells #[.slice ra rn rc, .slice aa an ac, .pointer q, .int .i64 by_] 74)).alloc (.cells #[.int .i64 kk, .int .i64 oo, .string s, .string u, .int .i64 n, .slice (some ⟨g, 0, none⟩) ll lc] 24)).alloc (.cells #[.int .i64 0, .int .i64 0, .string ⟨#[]⟩] 69)) by go_grown)
 subst hkk hll
 rcases hop with rfl | rfl
 all_goals
  go_enter Tryz.func105, Tryz.ntmps105
  go_wp2_with fail
  refine Calls.mono (KS.out _ HX0.out) ?_
  rintro e W1 ⟨rfl, hb1⟩
  have HR1 := Lib.hid (HR0.out.keep hb1)
  have HX1 := Lib.hid (show Below w.heap.size w W1 from HX0.out.trans (hb1.mono HX0.out.size))
  clear hb1
  obtain ⟨cR, fR⟩ := HR1.out.facts
  have hRl := HR1.out.lt
  go_simp
  repeat (first | go_values | go_skip | go_guarded | go_step | go_upon)
  refine bodyPost_ret (ret_vE2 rfl _ rfl rfl (blk3 HR1.out _ _ _)) rfl ?_
  exact ⟨rfl, below3 HX1.out (by omega) _ _ _⟩
set_option maxHeartbeats 4000000 in
theorem const_num (o : Int) (s u : ByteArray) (n : Int) (w : World) : Calls Tryz.prog 14 #[ndE 2 o s u n none 0 0] w fun e w' => e = .returned (.bool true) ∧ Below w.heap.size w w' := by
 skip
 simp only [ndE]
 have HA0 := Lib.hid (Blk.new w #[.int .i64 2, .int .i64 o, .string s, .string u, .int .i64 n, .slice none 0 0] 24 rfl)
 have HX0 := Lib.hid (show Below w.heap.size w (w.alloc (.cells #[.int .i64 2, .int .i64 o, .string s, .string u, .int .i64 n, .slice none 0 0] 24)) by go_grown)
 obtain ⟨cA, fA⟩ := HA0.out.facts
 have hAl := HA0.out.lt
 go_enter Tryz.func14, Tryz.ntmps14
 go_wp2_with fail
 refine wp_loop_rounds 1 ?_
 rw [rounds_succ]
 go_wp2_with fail
 go_returns
 exact ⟨rfl, HX0.out⟩
set_option maxHeartbeats 4000000 in
theorem safe_num (o : Int) (s u : ByteArray) (n : Int) (w : World) : Calls Tryz.prog 12 #[ndE 2 o s u n none 0 0] w fun e w' => e = .returned (.bool true) ∧ Below w.heap.size w w' := by
 have KA := Lib.hid (fun W => alone_num o s u n W)
 simp only [ndE] at KA ⊢
 have HA0 := Lib.hid (Blk.new w #[.int .i64 2, .int .i64 o, .string s, .string u, .int .i64 n, .slice none 0 0] 24 rfl)
 have HX0 := Lib.hid (show Below w.heap.size w (w.alloc (.cells #[.int .i64 2, .int .i64 o, .string s, .string u, .int .i64 n, .slice none 0 0] 24)) by go_grown)
 obtain ⟨cA, fA⟩ := HA0.out.facts
 have hAl := HA0.out.lt
 go_enter Tryz.func12, Tryz.ntmps12
 go_wp2_with fail
 refine wp_loop_rounds 1 ?_
 rw [rounds_succ]
 go_wp2_with fail
 refine Calls.mono (KA.out _) ?_
 rintro e W1 ⟨rfl, hb⟩
 have HX1 := Lib.hid (show Below w.heap.size w W1 from HX0.out.trans (hb.mono HX0.out.size))
 clear hb
 go_simp
 repeat (first | go_values | go_skip | go_guarded | go_step | go_upon)
 go_returns
 exact ⟨rfl, HX1.out⟩
set_option maxHeartbeats 8000000 in
theorem const_div (s u : ByteArray) (n : Int) (g lc : Nat) (x y : N6) (w : World)
 (hN : NdAt w g [x, y]) (hX : ∀ W, Ext w W → Calls Tryz.prog 14 #[x.v] W fun e w' => e = .returned (.bool true) ∧ Below W.heap.size W w') (hY : ∀ W, Ext w W → Calls Tryz.prog 14 #[y.v] W fun e w' => e = .returned (.bool true) ∧ Below W.heap.size W w') :
 Calls Tryz.prog 14 #[ndE 6 10 s u n (some ⟨g, 0, none⟩) 2 lc] w fun e w' => e = .returned (.bool true) ∧ Below w.heap.size w w' := by
 obtain ⟨xk, xo, xs, xt, xn, xla, xln, xlc⟩ := x
 obtain ⟨yk, yo, ys, yt, yn, yla, yln, ylc⟩ := y
 have HN := Lib.hid hN
 have HXe := Lib.hid hX
 have HYe := Lib.hid hY
 skip
 clear hN hX hY
 simp only [ndE, N6.v] at HXe HYe ⊢
 have HA0 := Lib.hid (Blk.new w #[.int .i64 6, .int .i64 10, .string s, .string u, .int .i64 n, .slice (some ⟨g, 0, none⟩) 2 lc] 24 rfl)
 have HX0 := Lib.hid (show Below w.heap.size w (w.alloc (.cells #[.int .i64 6, .int .i64 10, .string s, .string u, .int .i64 n, .slice (some ⟨g, 0, none⟩) 2 lc] 24)) by go_grown)
 go_enter Tryz.func14, Tryz.ntmps14
 go_wp2_with fail
 generalize (w.alloc (.cells #[.int .i64 6, .int .i64 10, .string s, .string u, .int .i64 n, .slice (some ⟨g, 0, none⟩) 2 lc] 24)) = W0 at HA0 HX0 ⊢
 refine wp_loop_rounds 3 ?_
 rw [rounds_succ]
 obtain ⟨q0, q1, q2, q3, q4, q5⟩ := (HN.out.ext (show Ext w W0 from HX0.out)).2 0 _ rfl
 have n0 : W0.cell? ⟨g, 0, none⟩ = some (.int .i64 xk) := q0
 have n1 : W0.cell? ⟨g, 1, none⟩ = some (.int .i64 xo) := q1
 have n2 : W0.cell? ⟨g, 2, none⟩ = some (.string xs) := q2
 have n3 : W0.cell? ⟨g, 3, none⟩ = some (.string xt) := q3
 have n4 : W0.cell? ⟨g, 4, none⟩ = some (.int .i64 xn) := q4
 have n5 : W0.cell? ⟨g, 5, none⟩ = some (.slice xla xln xlc) := q5
 clear q0 q1 q2 q3 q4 q5
 obtain ⟨ca, fa⟩ := HA0.out.facts
 have hal := HA0.out.lt
 go_simp
 repeat (first | go_values | go_skip | go_guarded | go_step | go_upon)
 have hx1 : Ext W0 (W0.alloc (.cells #[.int .i64 xk, .int .i64 xo, .string xs, .string xt, .int .i64 xn, .slice xla xln xlc] 24)) := (Ext.refl _).alloc _
 refine Calls.mono (HXe.out _ (Ext.trans (show Ext w W0 from HX0.out) hx1)) ?_
 rintro e W1 ⟨rfl, hb⟩
 have hx2 : Ext W0 W1 := Ext.trans hx1 hb
 have HX1 := Lib.hid (show Below w.heap.size w W1 from Ext.trans HX0.out hx2)
 have HA1 := Lib.hid (HA0.out.keep hx2)
 clear hx1 hb hx2 ca fa hal n0 n1 n2 n3 n4 n5
 obtain ⟨ca, fa⟩ := HA1.out.facts
 have hal := HA1.out.lt
 go_simp
 repeat (first | go_values | go_skip | go_guarded | go_step | go_upon)
 rw [rounds_succ]
 obtain ⟨q0, q1, q2, q3, q4, q5⟩ := (HN.out.ext (show Ext w W1 from HX1.out)).2 1 _ rfl
 have n0 : W1.cell? ⟨g, 6, none⟩ = some (.int .i64 yk) := q0
 have n1 : W1.cell? ⟨g, 7, none⟩ = some (.int .i64 yo) := q1
 have n2 : W1.cell? ⟨g, 8, none⟩ = some (.string ys) := q2
 have n3 : W1.cell? ⟨g, 9, none⟩ = some (.string yt) := q3
 have n4 : W1.cell? ⟨g, 10, none⟩ = some (.int .i64 yn) := q4
 have n5 : W1.cell? ⟨g, 11, none⟩ = some (.slice yla yln ylc) := q5
 clear q0 q1 q2 q3 q4 q5
 go_simp
 repeat (first | go_values | go_skip | go_guarded | go_step | go_upon)
 have hx1 : Ext W1 (W1.alloc (.cells #[.int .i64 yk, .int .i64 yo, .string ys, .string yt, .int .i64 yn, .slice yla yln ylc] 24)) := (Ext.refl _).alloc _
 refine Calls.mono (HYe.out _ (Ext.trans (show Ext w W1 from HX1.out) hx1)) ?_
 rintro e W2 ⟨rfl, hb⟩
 have hx2 : Ext W1 W2 := Ext.trans hx1 hb
 have HX2 := Lib.hid (show Below w.heap.size w W2 from Ext.trans HX1.out hx2)
 have HA2 := Lib.hid (HA1.out.keep hx2)
 clear hx1 hb hx2 ca fa hal n0 n1 n2 n3 n4 n5
 obtain ⟨ca, fa⟩ := HA2.out.facts
 have hal := HA2.out.lt
 go_simp
 repeat (first | go_values | go_skip | go_guarded | go_step | go_upon)
 rw [rounds_succ]
 go_simp
 repeat (first | go_values | go_skip | go_guarded | go_step | go_upon)
 go_returns
 exact ⟨rfl, HX2.out⟩
set_option maxHeartbeats 8000000 in
theorem safe_div (s u : ByteArray) (n : Int) (g lc : Nat) (x y : N6) (w : World)
 (hN : NdAt w g [x, y]) (hX : ∀ W, Ext w W → Calls Tryz.prog 12 #[x.v] W fun e w' => e = .returned (.bool true) ∧ Below W.heap.size W w') (hY : ∀ W, Ext w W → Calls Tryz.prog 12 #[y.v] W fun e w' => e = .returned (.bool true) ∧ Below W.heap.size W w') :
 Calls Tryz.prog 12 #[ndE 6 10 s u n (some ⟨g, 0, none⟩) 2 lc] w fun e w' => e = .returned (.bool false) ∧ Below w.heap.size w w' := by
 obtain ⟨xk, xo, xs, xt, xn, xla, xln, xlc⟩ := x
 obtain ⟨yk, yo, ys, yt, yn, yla, yln, ylc⟩ := y
 have HN := Lib.hid hN
 have HXe := Lib.hid hX
 have HYe := Lib.hid hY
 have KA := Lib.hid (fun W => alone_div s u n g lc W)
 clear hN hX hY
 simp only [ndE, N6.v] at HXe HYe KA ⊢
 have HA0 := Lib.hid (Blk.new w #[.int .i64 6, .int .i64 10, .string s, .string u, .int .i64 n, .slice (some ⟨g, 0, none⟩) 2 lc] 24 rfl)
 have HX0 := Lib.hid (show Below w.heap.size w (w.alloc (.cells #[.int .i64 6, .int .i64 10, .string s, .string u, .int .i64 n, .slice (some ⟨g, 0, none⟩) 2 lc] 24)) by go_grown)
 go_enter Tryz.func12, Tryz.ntmps12
 go_wp2_with fail
 generalize (w.alloc (.cells #[.int .i64 6, .int .i64 10, .string s, .string u, .int .i64 n, .slice (some ⟨g, 0, none⟩) 2 lc] 24)) = W0 at HA0 HX0 ⊢
 refine wp_loop_rounds 3 ?_
 rw [rounds_succ]
 obtain ⟨q0, q1, q2, q3, q4, q5⟩ := (HN.out.ext (show Ext w W0 from HX0.out)).2 0 _ rfl
 have n0 : W0.cell? ⟨g, 0, none⟩ = some (.int .i64 xk) := q0
 have n1 : W0.cell? ⟨g, 1, none⟩ = some (.int .i64 xo) := q1
 have n2 : W0.cell? ⟨g, 2, none⟩ = some (.string xs) := q2
 have n3 : W0.cell? ⟨g, 3, none⟩ = some (.string xt) := q3
 have n4 : W0.cell? ⟨g, 4, none⟩ = some (.int .i64 xn) := q4
 have n5 : W0.cell? ⟨g, 5, none⟩ = some (.slice xla xln xlc) := q5
 clear q0 q1 q2 q3 q4 q5
 obtain ⟨ca, fa⟩ := HA0.out.facts
 have hal := HA0.out.lt
 go_simp
 repeat (first | go_values | go_skip | go_guarded | go_step | go_upon)
 have hx1 : Ext W0 (W0.alloc (.cells #[.int .i64 xk, .int .i64 xo, .string xs, .string xt, .int .i64 xn, .slice xla xln xlc] 24)) := (Ext.refl _).alloc _
 refine Calls.mono (HXe.out _ (Ext.trans (show Ext w W0 from HX0.out) hx1)) ?_
 rintro e W1 ⟨rfl, hb⟩
 have hx2 : Ext W0 W1 := Ext.trans hx1 hb
 have HX1 := Lib.hid (show Below w.heap.size w W1 from Ext.trans HX0.out hx2)
 have HA1 := Lib.hid (HA0.out.keep hx2)
 clear hx1 hb hx2 ca fa hal n0 n1 n2 n3 n4 n5
 obtain ⟨ca, fa⟩ := HA1.out.facts
 have hal := HA1.out.lt
 go_simp
 repeat (first | go_values | go_skip | go_guarded | go_step | go_upon)
 rw [rounds_succ]
 obtain ⟨q0, q1, q2, q3, q4, q5⟩ := (HN.out.ext (show Ext w W1 from HX1.out)).2 1 _ rfl
 have n0 : W1.cell? ⟨g, 6, none⟩ = some (.int .i64 yk) := q0
 have n1 : W1.cell? ⟨g, 7, none⟩ = some (.int .i64 yo) := q1
 have n2 : W1.cell? ⟨g, 8, none⟩ = some (.string ys) := q2
 have n3 : W1.cell? ⟨g, 9, none⟩ = some (.string yt) := q3
 have n4 : W1.cell? ⟨g, 10, none⟩ = some (.int .i64 yn) := q4
 have n5 : W1.cell? ⟨g, 11, none⟩ = some (.slice yla yln ylc) := q5
 clear q0 q1 q2 q3 q4 q5
 go_simp
 repeat (first | go_values | go_skip | go_guarded | go_step | go_upon)
 have hx1 : Ext W1 (W1.alloc (.cells #[.int .i64 yk, .int .i64 yo, .string ys, .string yt, .int .i64 yn, .slice yla yln ylc] 24)) := (Ext.refl _).alloc _
 refine Calls.mono (HYe.out _ (Ext.trans (show Ext w W1 from HX1.out) hx1)) ?_
 rintro e W2 ⟨rfl, hb⟩
 have hx2 : Ext W1 W2 := Ext.trans hx1 hb
 have HX2 := Lib.hid (show Below w.heap.size w W2 from Ext.trans HX1.out hx2)
 have HA2 := Lib.hid (HA1.out.keep hx2)
 clear hx1 hb hx2 ca fa hal n0 n1 n2 n3 n4 n5
 obtain ⟨ca, fa⟩ := HA2.out.facts
 have hal := HA2.out.lt
 go_simp
 repeat (first | go_values | go_skip | go_guarded | go_step | go_upon)
 rw [rounds_succ]
 go_simp
 repeat (first | go_values | go_skip | go_guarded | go_step | go_upon)
 refine Calls.mono (KA.out _) ?_
 rintro e W3 ⟨rfl, hb⟩
 have HX3 := Lib.hid (show Below w.heap.size w W3 from Ext.trans HX2.out (show Ext _ _ from hb))
 clear hb
 go_simp
 repeat (first | go_values | go_skip | go_guarded | go_step | go_upon)
 go_returns
 exact ⟨rfl, HX3.out⟩
end Go.Proofs.YtcgbpmeadohbkaaGreatDoor
