import Derived.Test.YtcgbpmeadohbkaaGreatDoorEvalH
import Derived.Test.YtcgbpmeadohbkaaGreatDoorEvalP
import Derived.Test.YtcgbpmeadohbkaaGreatDoorEvalQ
namespace Go.Proofs.YtcgbpmeadohbkaaGreatDoor
open Go.RowKit Go.Lib
set_option maxRecDepth 100000
def anyV (n : Nat) (_ : Value) (_ : World) : Prop := n = 0
theorem setRow_id {w : World} {g : Nat} {cs : Array Value} {t : TypeId} (h : Blk w g cs t) : w.setRow g cs = w := by
 have hh : (w.setRow g cs).heap = w.heap := by
  apply Array.ext_getElem?
  intro i
  by_cases e : i = g
  ·subst e
   exact (setRow_heap w i cs cs t (0, 0) h).trans h.symm
  ·exact setRow_other w g i cs e
 have : w.setRow g cs = { w with heap := (w.setRow g cs).heap } := rfl
 rw [this, hh]
theorem intsdiv_nought (w : World) : Calls Tryz.prog 256 #[.int .i64 1, .int .i64 0] w fun e w' => e = .returned (.tuple #[.int .i64 0, .int .i64 18]) ∧ w' = w := by
 go_enter Tryz.func256, Tryz.ntmps256
 go_wp2_with fail
 go_ret2
 exact ⟨rfl, rfl⟩
theorem numbers_div (w : World) : Calls Tryz.prog 221 #[.int .i64 10] w fun e w' => e = .returned (.tuple #[.func (.func 256) #[] #[], .bool true]) ∧ w' = w := by
 go_enter Tryz.func221, Tryz.ntmps221
 go_wp2_with fail
 go_ret2
 exact ⟨rfl, rfl⟩
theorem number_err (n : Int) (w : World) : Calls Tryz.prog 218 #[.int .i64 n, .int .i64 18] w fun e w' => e = .returned (.tuple #[vV 0 0 emp, .int .i64 18]) ∧ Below w.heap.size w w' := by
 have KN := Lib.hid (fun W => valnull_any W)
 simp only [vV, emp] at KN ⊢
 have HR0 := Lib.hid (Blk.new w #[.int .i64 0, .int .i64 0, .string ⟨#[]⟩] 69 rfl)
 go_enter Tryz.func218, Tryz.ntmps218
 go_wp2_with fail
 refine Calls.mono (KN.out _) ?_
 rintro e W1 ⟨rfl, hb⟩
 have HR1 := Lib.hid (HR0.out.keep hb)
 have HX1 := Lib.hid (show Below w.heap.size w W1 from Below.trans (by go_grown) (hb.mono (by simp)))
 clear hb
 obtain ⟨cR, fR⟩ := HR1.out.facts
 have hRl := HR1.out.lt
 go_simp
 repeat (first | go_values | go_skip | go_guarded | go_step | go_upon)
 refine bodyPost_ret (ret_vE2 rfl _ rfl rfl (blk3 HR1.out _ _ _)) rfl ?_
 exact ⟨rfl, below3 HX1.out (Nat.le_refl _) _ _ _⟩
set_option maxHeartbeats 4000000 in
theorem castdiv (by_ : Int) (w : World) : Calls Tryz.prog 182 #[.int .i64 10, vV 2 1 emp, vV 2 0 emp, .int .i64 by_] w fun e w' => e = .returned (.tuple #[vV 0 0 emp, .int .i64 18]) ∧ Below w.heap.size w w' := by
 have mixed : Tryz.prog.follows .mixedOrders = true := by kernel_rfl
 have KA := Lib.hid (fun W => valis_any 2 1 emp W)
 have KB := Lib.hid (fun W => valis_any 2 0 emp W)
 rw [show cK 2 1 emp = 2 by decide +kernel, show cN 2 1 emp = 1 by decide +kernel, show cS 2 1 emp = emp from (o_clean (some 1)).2.2] at KA
 rw [show cK 2 0 emp = 2 by decide +kernel, show cN 2 0 emp = 0 by decide +kernel, show cS 2 0 emp = emp from (o_clean (some 0)).2.2] at KB
 have KE := Lib.hid (fun W => number_err 0 W)
 simp only [vV, emp] at KA KB KE ⊢
 have HA0 := Lib.hid (((Blk.new w #[.int .i64 2, .int .i64 1, .string ⟨#[]⟩] 69 rfl).alloc (.cells #[.int .i64 2, .int .i64 0, .string ⟨#[]⟩] 69)).alloc (.cells #[.int .i64 0, .int .i64 0, .string ⟨#[]⟩] 69))
 have HB0 := Lib.hid ((Blk.new (w.alloc (.cells #[.int .i64 2, .int .i64 1, .string ⟨#[]⟩] 69)) #[.int .i64 2, .int .i64 0, .string ⟨#[]⟩] 69 (n := w.heap.size + 1) (by simp)).alloc (.cells #[.int .i64 0, .int .i64 0, .string ⟨#[]⟩] 69))
 have HR0 := Lib.hid (Blk.new ((w.alloc (.cells #[.int .i64 2, .int .i64 1, .string ⟨#[]⟩] 69)).alloc (.cells #[.int .i64 2, .int .i64 0, .string ⟨#[]⟩] 69)) #[.int .i64 0, .int .i64 0, .string ⟨#[]⟩] 69 (n := w.heap.size + 1 + 1) (by simp))
 have HX0 := Lib.hid (show Below w.heap.size w (((w.alloc (.cells #[.int .i64 2, .int .i64 1, .string ⟨#[]⟩] 69)).alloc (.cells #[.int .i64 2, .int .i64 0, .string ⟨#[]⟩] 69)).alloc (.cells #[.int .i64 0, .int .i64 0, .string ⟨#[]⟩] 69)) by go_grown)
 go_enter Tryz.func182, Tryz.ntmps182
 go_wp2_with fail
 generalize (((w.alloc (.cells #[.int .i64 2, .int .i64 1, .string ⟨#[]⟩] 69)).alloc (.cells #[.int .i64 2, .int .i64 0, .string ⟨#[]⟩] 69)).alloc (.cells #[.int .i64 0, .int .i64 0, .string ⟨#[]⟩] 69)) = W0 at HA0 HB0 HR0 HX0 ⊢
 have HF := Lib.hid (show ∀ W, LeW (fun _ => False) #[.int .i64 0, .int .i64 0, .string ⟨#[]⟩] W0 W → Blk W w.heap.size #[.int .i64 2, .int .i64 1, .string ⟨#[]⟩] 69 ∧ Blk W (w.heap.size + 1) #[.int .i64 2, .int .i64 0, .string ⟨#[]⟩] 69 ∧ (∀ o, W.cell? ⟨w.heap.size, o, none⟩ = (#[.int .i64 2, .int .i64 1, .string ⟨#[]⟩] : Array Value)[o]?) ∧ (∀ o, W.cell? ⟨w.heap.size + 1, o, none⟩ = (#[.int .i64 2, .int .i64 0, .string ⟨#[]⟩] : Array Value)[o]?) from fun W hW => ⟨hW.blk HA0.out id, hW.blk HB0.out id, (hW.blk HA0.out id).cell, (hW.blk HB0.out id).cell⟩)
 refine wp_parZG (leW (fun _ => False) #[.int .i64 0, .int .i64 0, .string ⟨#[]⟩]) [0, 1, 2, 3, 4, 5] 6 6 (fun
  | 0 => fun _ v _ => v = .agg #[.int .i64 2, .int .i64 1, .string ⟨#[]⟩]
  | 1 => fun _ v _ => v = .agg #[.int .i64 2, .int .i64 1, .string ⟨#[]⟩]
  | 2 => fun _ v _ => v = .agg #[.int .i64 2, .int .i64 0, .string ⟨#[]⟩]
  | 3 => fun _ v _ => v = .agg #[.int .i64 2, .int .i64 0, .string ⟨#[]⟩]
  | 4 => fun _ => anyV 0
  | 5 => fun _ => anyV 0
  | _ => fun _ _ _ => True) (fun
  | _ => undef) (by kernel_rfl) (by kernel_rfl) (by kernel_rfl) ?_ ?_ ?_
 ·simp (maxSteps := 20000000) only [permL, permOp, List.filterMap_cons, List.filterMap_nil, List.getElem?_cons_succ, List.getElem?_cons_zero, Option.map_some, Option.map_none, List.take_succ_cons, List.take_zero, ParAllG, Act.put, List.setIfInBounds_toArray, List.set_cons_succ, List.set_cons_zero]
  refine ⟨?_, ?_, ?_, ?_, ?_, ?_, trivial⟩
  all_goals
   intro vals W hx hd
   have hW := HF.out W hx
   simp [PDepsG, pdeps, Region.binds, List.idxOf_cons] at hd
   first
    | refine ParObG.plain rfl ?_
    | refine ParObG.wanted (by simp [Region.wanted, yielded, hd]) ?_
  ·go_simp
   exact ParPostG.same (leW (fun _ => False) #[.int .i64 0, .int .i64 0, .string ⟨#[]⟩]) fun _ _ => rfl
  ·go_simp
   refine Calls.mono (KA.out W) ?_
   rintro e w9 ⟨rfl, hb9⟩
   exact ⟨_, rfl, LeW.ofExt hb9, fun _ _ => rfl⟩
  ·go_simp
   exact ParPostG.same (leW (fun _ => False) #[.int .i64 0, .int .i64 0, .string ⟨#[]⟩]) fun _ _ => rfl
  ·go_simp
   refine Calls.mono (KB.out W) ?_
   rintro e w9 ⟨rfl, hb9⟩
   exact ⟨_, rfl, LeW.ofExt hb9, fun _ _ => rfl⟩
  ·have hbA := (HF.out W hx).1
   refine yields_storeV (cs := #[.int .i64 2, .int .i64 1, .string ⟨#[]⟩]) rfl (by simp [Act.eval]) (by simp [Act.eval, hd]) hbA rfl rfl (by simp [Value.oneCell']) ?_
   rw [setRow_id hbA]
   exact ⟨(leW _ _).refl _, fun _ _ => rfl⟩
  ·have hbB := (HF.out W hx).2.1
   refine yields_storeV (cs := #[.int .i64 2, .int .i64 0, .string ⟨#[]⟩]) rfl (by simp [Act.eval]) (by simp [Act.eval, hd]) hbB rfl rfl (by simp [Value.oneCell']) ?_
   rw [setRow_id hbB]
   exact ⟨(leW _ _).refl _, fun _ _ => rfl⟩
 ·simp (maxSteps := 20000000) only [permL, permOp, List.filterMap_cons, List.filterMap_nil, List.getElem?_cons_succ, List.getElem?_cons_zero, Option.map_some, Option.map_none, List.drop_succ_cons, List.drop_zero, List.take_succ_cons, List.take_zero, Nat.reduceSub, ZAll, ParEnd, Act.put, List.setIfInBounds_toArray, List.set_cons_succ, List.set_cons_zero]
 intro vals W hx hf hz
 simp (maxSteps := 20000000) only [permL, permOp, List.filterMap_cons, List.filterMap_nil, List.getElem?_cons_succ, List.getElem?_cons_zero, Option.map_some, Option.map_none, ParFactsG, List.take_succ_cons, List.take_zero, and_true, Nat.reduceAdd] at hf
 obtain ⟨f0, f1, f2, f3, f4, f5⟩ := hf
 clear hz
 simp (maxSteps := 20000000) only [permL, permOp, List.filterMap_cons, List.filterMap_nil, List.getElem?_cons_succ, List.getElem?_cons_zero, Option.map_some, Option.map_none, List.drop_succ_cons, List.drop_zero, List.take_succ_cons, List.take_zero, Nat.reduceSub, ParEnd, ZTail, Act.put, List.setIfInBounds_toArray, List.set_cons_succ, List.set_cons_zero, Nat.reduceAdd, f0, f1, f2, f3]
 clear f0 f1 f2 f3
 have hxE : Ext W0 W := LeW.below (Below.refl _ _) hx fun _ h => h.elim
 have HR1 := Lib.hid (HR0.out.keep hxE)
 have HX1 := Lib.hid (show Below w.heap.size w W from Ext.trans HX0.out hxE)
 have HA1 := Lib.hid (hx.blk HA0.out id)
 have HB1 := Lib.hid (hx.blk HB0.out id)
 have KN := Lib.hid (fun W => numbers_div W)
 have KD := Lib.hid (fun W => intsdiv_nought W)
 clear hx hxE HF HA0 HB0 HR0 HX0 f4 f5
 obtain ⟨cA, fA⟩ := HA1.out.facts
 obtain ⟨cB, fB⟩ := HB1.out.facts
 obtain ⟨cR, fR⟩ := HR1.out.facts
 have hRl := HR1.out.lt
 go_simp
 repeat (first | go_values | go_skip | go_guarded | go_step | go_upon)
 refine Calls.mono (KN.out _) ?_
 rintro e W2 ⟨rfl, rfl⟩
 have hpe := fun a b c d => pairEq a b c d W2
 have hpg := pairGuard
 go_simp
 repeat (first | go_values | go_skip | go_guarded | go_step | go_upon)
 go_wp2_with (unfold Oper.upon; simp only [hpe, Result.andThen_ok])
 clear hpe hpg
 refine Calls.mono (KD.out _) ?_
 rintro e W3 ⟨rfl, rfl⟩
 go_simp
 repeat (first | go_values | go_skip | go_guarded | go_step | go_upon)
 refine Calls.mono (KE.out _) ?_
 rintro e W4 ⟨rfl, hb⟩
 have HR4 := Lib.hid (HR1.out.keep hb)
 have HX4 := Lib.hid (show Below w.heap.size w W4 from HX1.out.trans (hb.mono HX1.out.size))
 clear hb cR fR hRl cA fA cB fB HA1 HB1 HR1 HX1
 obtain ⟨cR, fR⟩ := HR4.out.facts
 have hRl := HR4.out.lt
 go_simp
 repeat (first | go_values | go_skip | go_guarded | go_step | go_upon)
 refine bodyPost_ret (ret_vE2 rfl _ rfl rfl (blk3 HR4.out _ _ _)) rfl ?_
 exact ⟨rfl, below3 HX4.out (by omega) _ _ _⟩
end Go.Proofs.YtcgbpmeadohbkaaGreatDoor
namespace Go.Proofs.YtcgbpmeadohbkaaGreatDoor
open Go.RowKit Go.Lib
set_option maxRecDepth 100000
set_option maxHeartbeats 8000000 in
theorem binary_div (u : ByteArray) (n : Int) (g lc : Nat) (x y : N6) (ra : Option Addr) (rn rc : Nat) (aa : Option Addr) (an ac : Nat) (q : Option Addr) (by_ : Int) (w : World)
 (hN : NdAt w g [x, y]) (hX : Ev w (evV ra rn rc aa an ac q by_) x (2, 1, emp) 0) (hY : Ev w (evV ra rn rc aa an ac q by_) y (2, 0, emp) 0) :
 Calls Tryz.prog 105 #[evV ra rn rc aa an ac q by_, ndE 6 10 ⟨#[]⟩ u n (some ⟨g, 0, none⟩) 2 lc] w fun e w' => e = .returned (.tuple #[vV 0 0 emp, .int .i64 18]) ∧ Below w.heap.size w w' := by
 have mixed : Tryz.prog.follows .mixedOrders = true := by kernel_rfl
 have KO := Lib.hid (fun W (hW : Ext w W) => operands_any 6 10 ⟨#[]⟩ u n g lc [x, y] [((2, 1, emp) : Int × Int × ByteArray), ((2, 0, emp) : Int × Int × ByteArray)] 2 2 ra rn rc aa an ac q by_ W (hN.ext hW) rfl (fun i z v hy hv => by
  have hi : i = 0 ∨ i = 1 := by have := (List.getElem?_eq_some_iff.1 hy).1; simp at this; omega
  rcases hi with rfl | rfl
  ·obtain rfl : x = z := by simpa using hy
   obtain rfl : ((2, 1, emp) : Int × Int × ByteArray) = v := by simpa using hv
   exact hX.ext hW
  ·obtain rfl : y = z := by simpa using hy
   obtain rfl : ((2, 0, emp) : Int × Int × ByteArray) = v := by simpa using hv
   exact hY.ext hW) (by simp) (by simp) (by simp) (by simp))
 have KT := Lib.hid (fun W => castdiv by_ W)
 have KF := Lib.hid (fun W => fits_err 0 0 emp W)
 simp only [evV, ndE, vV, List.length_cons, List.length_nil, emp] at KO KT KF ⊢
 have hk1 : ((2 : Nat) : Int) = 2 := rfl
 rw [show (0 + 1 + 1 : Nat) = 2 from rfl, hk1] at KO
 clear hk1 hN hX hY
 obtain ⟨oo, hoo⟩ : ∃ z : Int, z = 10 := ⟨_, rfl⟩
 obtain ⟨kk, hkk⟩ : ∃ z : Int, z = 6 := ⟨_, rfl⟩
 obtain ⟨ll, hll⟩ : ∃ z : Nat, z = 2 := ⟨_, rfl⟩
 obtain ⟨s, hss⟩ : ∃ z : ByteArray, z = ⟨#[]⟩ := ⟨_, rfl⟩
 have HE0 := Lib.hid (((Blk.new w #[.slice ra rn rc, .slice aa an ac, .pointer q, .int .i64 by_] 74 rfl).alloc (.cells #[.int .i64 kk, .int .i64 oo, .string s, .string u, .int .i64 n, .slice (some ⟨g, 0, none⟩) ll lc] 24)).alloc (.cells #[.int .i64 0, .int .i64 0, .string ⟨#[]⟩] 69))
 have HN0 := Lib.hid ((Blk.new (w.alloc (.cells #[.slice ra rn rc, .slice aa an ac, .pointer q, .int .i64 by_] 74)) #[.int .i64 kk, .int .i64 oo, .string s, .string u, .int .i64 n, .slice (some ⟨g, 0, none⟩) ll lc] 24 (n := w.heap.size + 1) (by simp)).alloc (.cells #[.int .i64 0, .int .i64 0, .string ⟨#[]⟩] 69))
 have HR0 := Lib.hid (Blk.new ((w.alloc (.cells #[.slice ra rn rc, .slice aa an ac, .pointer q, .int .i64 by_] 74)).alloc (.cells #[.int .i64 kk, .int .i64 oo, .string s, .string u, .int .i64 n, .slice (some ⟨g, 0, none⟩) ll lc] 24)) #[.int .i64 0, .int .i64 0, .string ⟨#[]⟩] 69 (n := w.heap.size + 1 + 1) (by simp))
 have HX0 := Lib.hid (show Below w.heap.size w (((w.alloc (.cells #[.slice ra rn rc, .slice aa an ac, .pointer q, .int .i64 by_] 74)).alloc (.cells #[.int .i64 kk, .int .i64 oo, .string s, .string u, .int .i64 n, .slice (some ⟨g, 0, none⟩) ll lc] 24)).alloc (.cells #[.int .i64 0, .int .i64 0, .string ⟨#[]⟩] 69)) by go_grown)
 subst hkk hll hss hoo
 go_enter Tryz.func105, Tryz.ntmps105
 go_wp2_with fail
 generalize (((w.alloc (.cells #[.slice ra rn rc, .slice aa an ac, .pointer q, .int .i64 by_] 74)).alloc (.cells #[.int .i64 6, .int .i64 10, .string ⟨#[]⟩, .string u, .int .i64 n, .slice (some ⟨g, 0, none⟩) 2 lc] 24)).alloc (.cells #[.int .i64 0, .int .i64 0, .string ⟨#[]⟩] 69)) = W0 at HE0 HN0 HR0 HX0 ⊢
 refine Calls.mono (KO.out W0 HX0.out) ?_
 rintro e w1 ⟨⟨l, rfl, hl⟩, hb1⟩
 have HE1 := Lib.hid (HE0.out.keep hb1)
 have HN1 := Lib.hid (HN0.out.keep hb1)
 have HR1 := Lib.hid (HR0.out.keep hb1)
 have HX1 := Lib.hid (show Below w.heap.size w w1 from HX0.out.trans (hb1.mono HX0.out.size))
 obtain ⟨gv, cv, rfl, hge, hgv, hcv⟩ := hl
 obtain ⟨v0, v1, v2⟩ := hcv 0 _ rfl
 obtain ⟨v3, v4, v5⟩ := hcv 1 _ rfl
 have hgvR : gv ≠ w.heap.size + 1 + 1 := by have := HR0.out.lt; omega
 have HV0 := Lib.hid (show w1.cell? ⟨gv, 0, none⟩ = some (.int .i64 2) from v0)
 have HV1 := Lib.hid (show w1.cell? ⟨gv, 1, none⟩ = some (.int .i64 1) from v1)
 have HV2 := Lib.hid (show w1.cell? ⟨gv, 2, none⟩ = some (.string ⟨#[]⟩) from v2)
 have HV3 := Lib.hid (show w1.cell? ⟨gv, 3, none⟩ = some (.int .i64 2) from v3)
 have HV4 := Lib.hid (show w1.cell? ⟨gv, 4, none⟩ = some (.int .i64 0) from v4)
 have HV5 := Lib.hid (show w1.cell? ⟨gv, 5, none⟩ = some (.string ⟨#[]⟩) from v5)
 clear hb1 hcv HE0 HN0 HR0 HX0 KO v0 v1 v2 v3 v4 v5
 simp only [List.length_cons, List.length_nil]
 rw [show (0 + 1 + 1 : Nat) = 2 from rfl]
 obtain ⟨cn, fn⟩ := HN1.out.facts
 have hnl := HN1.out.lt
 go_simp
 repeat (first | go_values | go_skip | go_guarded | go_step | go_upon)
 clear cn fn hnl
 have HF := Lib.hid (show ∀ W, LeW (· = w.heap.size + 1 + 1) #[.int .i64 0, .int .i64 0, .string ⟨#[]⟩] w1 W → (∀ j, W.cell? ⟨w.heap.size + 1, j, none⟩ = (#[.int .i64 6, .int .i64 10, .string ⟨#[]⟩, .string u, .int .i64 n, .slice (some ⟨g, 0, none⟩) 2 lc] : Array Value)[j]?) ∧ (∀ j, W.cell? ⟨w.heap.size, j, none⟩ = (#[.slice ra rn rc, .slice aa an ac, .pointer q, .int .i64 by_] : Array Value)[j]?) ∧ W.cell? ⟨gv, 0, none⟩ = some (.int .i64 2) ∧ W.cell? ⟨gv, 1, none⟩ = some (.int .i64 1) ∧ W.cell? ⟨gv, 2, none⟩ = some (.string ⟨#[]⟩) ∧ W.cell? ⟨gv, 3, none⟩ = some (.int .i64 2) ∧ W.cell? ⟨gv, 4, none⟩ = some (.int .i64 0) ∧ W.cell? ⟨gv, 5, none⟩ = some (.string ⟨#[]⟩) from
  fun W hW => by
   have hc := fun o => cell_same (hW.old gv hgv hgvR) o
   exact ⟨(hW.blk HN1.out (by omega)).cell, (hW.blk HE1.out (by omega)).cell, (hc 0).trans HV0.out, (hc 1).trans HV1.out, (hc 2).trans HV2.out, (hc 3).trans HV3.out, (hc 4).trans HV4.out, (hc 5).trans HV5.out⟩)
 refine wp_parZG (leW (· = w.heap.size + 1 + 1) #[.int .i64 0, .int .i64 0, .string ⟨#[]⟩]) [0, 1, 2, 3, 4, 5, 6, 7, 8, 9, 10, 11, 12, 13, 14, 15, 16, 17] 18 18 (fun
  | 0 => fun _ v _ => v = .pointer (some ⟨w.heap.size + 1, 1, none⟩)
  | 1 => fun _ v _ => v = .int .i64 10
  | 2 => fun _ v _ => v = .slice (some ⟨gv, 0, none⟩) 2 cv
  | 3 => fun _ v _ => v = .pointer (some ⟨gv, 0, none⟩)
  | 4 => fun _ v _ => v = .agg #[.int .i64 2, .int .i64 1, .string ⟨#[]⟩]
  | 5 => fun _ v _ => v = .slice (some ⟨gv, 0, none⟩) 2 cv
  | 6 => fun _ v _ => v = .pointer (some ⟨gv, 3, none⟩)
  | 7 => fun _ v _ => v = .agg #[.int .i64 2, .int .i64 0, .string ⟨#[]⟩]
  | 8 => fun _ v _ => v = .pointer (some ⟨w.heap.size, 3, none⟩)
  | 9 => fun _ v _ => v = .int .i64 by_
  | 10 => fun _ v _ => v = .tuple #[.agg #[.int .i64 0, .int .i64 0, .string ⟨#[]⟩], .int .i64 18]
  | 11 => fun _ v _ => v = .agg #[.int .i64 0, .int .i64 0, .string ⟨#[]⟩]
  | 12 => fun _ v _ => v = .int .i64 18
  | 13 => fun _ v _ => v = .tuple #[.agg #[.int .i64 0, .int .i64 0, .string ⟨#[]⟩], .int .i64 18]
  | 14 => fun _ v _ => v = .agg #[.int .i64 0, .int .i64 0, .string ⟨#[]⟩]
  | 15 => fun _ v _ => v = .int .i64 18
  | 16 => fun _ => filledV (w.heap.size + 1 + 1) #[.int .i64 0, .int .i64 0, .string ⟨#[]⟩]
  | 17 => fun _ v _ => v = .int .i64 18
  | _ => fun _ _ _ => True) (fun
  | _ => undef) (by kernel_rfl) (by kernel_rfl) (by kernel_rfl) ?_ ?_ ?_
 ·simp (maxSteps := 20000000) only [permL, permOp, List.filterMap_cons, List.filterMap_nil, List.getElem?_cons_succ, List.getElem?_cons_zero, Option.map_some, Option.map_none, List.take_succ_cons, List.take_zero, ParAllG, Act.put, List.setIfInBounds_toArray, List.set_cons_succ, List.set_cons_zero]
  refine ⟨?_, ?_, ?_, ?_, ?_, ?_, ?_, ?_, ?_, ?_, ?_, ?_, ?_, ?_, ?_, ?_, ?_, ?_, trivial⟩
  all_goals
   intro vals W hx hd
   have hW := HF.out W hx
   simp [PDepsG, pdeps, Region.binds, List.idxOf_cons] at hd
   first
    | refine ParObG.plain rfl ?_
    | refine ParObG.wanted (by simp [Region.wanted, yielded, hd]) ?_
  iterate 10
   next =>
    go_simp
    exact ParPostG.same (leW (· = w.heap.size + 1 + 1) #[.int .i64 0, .int .i64 0, .string ⟨#[]⟩]) fun _ _ => rfl
  ·go_simp
   refine (KT.out W).mono ?_
   rintro e w9 ⟨rfl, hb9⟩
   exact ⟨_, rfl, LeW.ofExt hb9, fun _ _ => rfl⟩
  iterate 2
   next =>
    go_simp
    exact ParPostG.same (leW (· = w.heap.size + 1 + 1) #[.int .i64 0, .int .i64 0, .string ⟨#[]⟩]) fun _ _ => rfl
  ·go_simp
   refine (KF.out W).mono ?_
   rintro e w9 ⟨rfl, hb9⟩
   exact ⟨_, rfl, LeW.ofExt hb9, fun _ _ => rfl⟩
  iterate 2
   next =>
    go_simp
    exact ParPostG.same (leW (· = w.heap.size + 1 + 1) #[.int .i64 0, .int .i64 0, .string ⟨#[]⟩]) fun _ _ => rfl
  ·obtain ⟨cs, hcs1, hcs2⟩ := hx.row _ _ HR1.out rfl
   refine yields_storeV (cs := #[.int .i64 0, .int .i64 0, .string ⟨#[]⟩]) rfl (by simp [Act.eval]) (by simp [Act.eval, hd]) hcs1 hcs2 rfl (by simp [Value.oneCell']) ?_
   exact ⟨LeW.setRow hcs1 rfl rfl, fun w3 h3 => h3.keep _ (setRow_heap _ _ cs _ _ _ hcs1)⟩
  ·go_simp
   exact ParPostG.same (leW (· = w.heap.size + 1 + 1) #[.int .i64 0, .int .i64 0, .string ⟨#[]⟩]) fun _ _ => rfl
 ·simp (maxSteps := 20000000) only [permL, permOp, List.filterMap_cons, List.filterMap_nil, List.getElem?_cons_succ, List.getElem?_cons_zero, Option.map_some, Option.map_none, List.drop_succ_cons, List.drop_zero, List.take_succ_cons, List.take_zero, Nat.reduceSub, ZAll, ParEnd, Act.put, List.setIfInBounds_toArray, List.set_cons_succ, List.set_cons_zero]
 intro vals W hx hf hz
 simp (maxSteps := 20000000) only [permL, permOp, List.filterMap_cons, List.filterMap_nil, List.getElem?_cons_succ, List.getElem?_cons_zero, Option.map_some, Option.map_none, ParFactsG, List.take_succ_cons, List.take_zero, and_true, Nat.reduceAdd] at hf
 obtain ⟨f0, f1, f2, f3, f4, f5, f6, f7, f8, f9, f10, f11, f12, f13, f14, f15, f16, f17⟩ := hf
 clear hz
 simp (maxSteps := 20000000) only [permL, permOp, List.filterMap_cons, List.filterMap_nil, List.getElem?_cons_succ, List.getElem?_cons_zero, Option.map_some, Option.map_none, List.drop_succ_cons, List.drop_zero, List.take_succ_cons, List.take_zero, Nat.reduceSub, ParEnd, ZTail, Act.put, List.setIfInBounds_toArray, List.set_cons_succ, List.set_cons_zero, Nat.reduceAdd, f0, f1, f2, f3, f4, f5, f6, f7, f8, f9, f10, f11, f12, f13, f14, f15, f17]
 clear f0 f1 f2 f3 f4 f5 f6 f7 f8 f9 f10 f11 f12 f13 f14 f15 f17
 have HX2 := Lib.hid (LeW.below HX1.out hx fun i hi => by omega)
 have HR2 := Lib.hid (show Blk W (w.heap.size + 1 + 1) #[.int .i64 0, .int .i64 0, .string ⟨#[]⟩] 69 from f16)
 clear hx HF f16
 go_simp
 repeat (first | go_values | go_skip | go_guarded | go_step | go_upon)
 refine bodyPost_ret (ret_vE2 rfl _ rfl rfl HR2.out) rfl ?_
 exact ⟨rfl, HX2.out⟩
end Go.Proofs.YtcgbpmeadohbkaaGreatDoor
namespace Go.Proofs.YtcgbpmeadohbkaaGreatDoor
open Go.RowKit Go.Lib
set_option maxRecDepth 100000
set_option maxHeartbeats 8000000 in
theorem binary_short (oo : Int) (hop : oo = 18 ∨ oo = 19) (s u : ByteArray) (n : Int) (g lc : Nat) (x y : N6) (a b : Nat) (ha : a < 3) (hb : b < 3) (ra : Option Addr) (rn rc : Nat) (aa : Option Addr) (an ac : Nat) (q : Option Addr) (by_ : Int) (w : World)
 (hN : NdAt w g [x, y]) (hX : Ev w (evV ra rn rc aa an ac q by_) x (tr3 a) 0) (hY : ¬ ((oo = 18 ∧ a = 0) ∨ (oo = 19 ∧ a = 1)) → Ev w (evV ra rn rc aa an ac q by_) y (tr3 b) 0) :
 Calls Tryz.prog 105 #[evV ra rn rc aa an ac q by_, ndE 6 oo s u n (some ⟨g, 0, none⟩) 2 lc] w fun e w' => e = .returned (.tuple #[trV (shT oo a b), .int .i64 0]) ∧ Below w.heap.size w w' := by
 have KS := Lib.hid (fun W (hW : Ext w W) => short_any oo hop s u n g lc x y a b ha hb ra rn rc aa an ac q by_ W (hN.ext hW) (hX.ext hW) (fun h => (hY h).ext hW))
 rw [trV_eq _ (shT_lt oo a b)] at KS ⊢
 generalize trK (shT oo a b) = rk at KS ⊢
 generalize trN (shT oo a b) = rn' at KS ⊢
 simp only [evV, ndE] at KS ⊢
 clear hN hX hY
 obtain ⟨kk, hkk⟩ : ∃ z : Int, z = 6 := ⟨_, rfl⟩
 obtain ⟨ll, hll⟩ : ∃ z : Nat, z = 2 := ⟨_, rfl⟩
 have HE0 := Lib.hid (((Blk.new w #[.slice ra rn rc, .slice aa an ac, .pointer q, .int .i64 by_] 74 rfl).alloc (.cells #[.int .i64 kk, .int .i64 oo, .string s, .string u, .int .i64 n, .slice (some ⟨g, 0, none⟩) ll lc] 24)).alloc (.cells #[.int .i64 0, .int .i64 0, .string ⟨#[]⟩] 69))
 have HN0 := Lib.hid ((Blk.new (w.alloc (.cells #[.slice ra rn rc, .slice aa an ac, .pointer q, .int .i64 by_] 74)) #[.int .i64 kk, .int .i64 oo, .string s, .string u, .int .i64 n, .slice (some ⟨g, 0, none⟩) ll lc] 24 (n := w.heap.size + 1) (by simp)).alloc (.cells #[.int .i64 0, .int .i64 0, .string ⟨#[]⟩] 69))
 have HR0 := Lib.hid (Blk.new ((w.alloc (.cells #[.slice ra rn rc, .slice aa an ac, .pointer q, .int .i64 by_] 74)).alloc (.cells #[.int .i64 kk, .int .i64 oo, .string s, .string u, .int .i64 n, .slice (some ⟨g, 0, none⟩) ll lc] 24)) #[.int .i64 0, .int .i64 0, .string ⟨#[]⟩] 69 (n := w.heap.size + 1 + 1) (by simp))
 have HX0 := Lib.hid (show Below w.heap.size w (((w.alloc (.cells #[.slice ra rn rc, .slice aa an ac, .pointer q, .int .i64 by_] 74)).alloc (.cells #[.int .i64 kk, .int .i64 oo, .string s, .string u, .int .i64 n, .slice (some ⟨g, 0, none⟩) ll lc] 24)).alloc (.cells #[.int .i64 0, .int .i64 0, .string ⟨#[]⟩] 69)) by go_grown)
 subst hkk hll
 rcases hop with rfl | rfl
 all_goals
  go_enter Tryz.func105, Tryz.ntmps105
  go_wp2_with fail
  refine Calls.mono (KS.out _ HX0.out) ?_
  rintro e W1 ⟨rfl, hb1⟩
  have HR1 := Lib.hid (HR0.out.keep hb1)
  have HX1 := Lib.hid (show Below w.heap.size w W1 from HX0.out.trans (hb1.mono HX0.out.size))
  clear hb1
  obtain ⟨cR, fR⟩ := HR1.out.facts
  have hRl := HR1.out.lt
  go_simp
  repeat (first | go_values | go_skip | go_guarded | go_step | go_upon)
  refine bodyPost_ret (ret_vE2 rfl _ rfl rfl (blk3 HR1.out _ _ _)) rfl ?_
  exact ⟨rfl, below3 HX1.out (by omega) _ _ _⟩
end Go.Proofs.YtcgbpmeadohbkaaGreatDoor
namespace Go.Proofs.YtcgbpmeadohbkaaGreatDoor
open Go.RowKit Go.Lib
set_option maxRecDepth 100000
end Go.Proofs.YtcgbpmeadohbkaaGreatDoor
namespace Go.Proofs.YtcgbpmeadohbkaaGreatDoor
open Go.RowKit Go.Lib
set_option maxRecDepth 100000
section
variable {ra : Option Addr} {rn rc : Nat} {aa : Option Addr} {an ac : Nat} {q : Option Addr} {by_ : Int} {w : World}
def numN (X : Option Int) : N6 := ⟨oK X, 0, ⟨#[]⟩, ⟨#[]⟩, oN X, none, 0, 0⟩
def opEv (o : Int) (g : Nat) : N6 := ⟨6, o, ⟨#[]⟩, ⟨#[]⟩, 0, some ⟨g, 0, none⟩, 2, 2⟩
theorem ev_num (X : Option Int) : Ev w (evV ra rn rc aa an ac q by_) (numN X) (o3 X) 0 := fun W _ => by
 cases X with
 | none => exact node_any 0 (by decide) 102 (fun _ => by kernel_rfl) (fun _ _ => by kernel_rfl) _ _ _ _ _ _ _ _ _ _ _ _ _ _ _ _ _ _ _ W fun W2 _ => lit_null _ _ _ _ _ _ _ _ _ _ _ _ _ _ _ W2
 | some n => exact node_any 2 (by decide) 102 (fun _ => by kernel_rfl) (fun _ _ => by kernel_rfl) _ _ _ _ _ _ _ _ _ _ _ _ _ _ _ _ _ _ _ W fun W2 _ => lit_int _ _ _ _ _ _ _ _ _ _ _ _ _ _ _ W2
theorem ev_false : Ev w (evV ra rn rc aa an ac q by_) ⟨1, 0, ⟨#[]⟩, ⟨#[]⟩, 0, none, 0, 0⟩ (tr3 0) 0 := fun W _ =>
 node_any 1 (by decide) 102 (fun _ => by kernel_rfl) (fun _ _ => by kernel_rfl) _ _ _ _ _ _ _ _ _ _ _ _ _ _ _ _ _ _ _ W fun W2 _ => lit_false _ _ _ _ _ _ _ _ _ _ _ _ _ _ W2
theorem ev_binary {o : Int} {g : Nat} {v : Int × Int × ByteArray} {er : Int} (h : ∀ W, Ext w W → Calls Tryz.prog 105 #[evV ra rn rc aa an ac q by_, (opEv o g).v] W fun e w' => e = .returned (.tuple #[vV v.1 v.2.1 v.2.2, .int .i64 er]) ∧ Below W.heap.size W w') :
 Ev w (evV ra rn rc aa an ac q by_) (opEv o g) v er := fun W hW =>
 node_any 6 (by decide) 105 (fun _ => by kernel_rfl) (fun _ _ => by kernel_rfl) _ _ _ _ _ _ _ _ _ _ _ _ _ _ _ _ _ _ _ W fun W2 h2 => h W2 (Ext.trans hW h2)
theorem ev_short (oo : Int) (hop : oo = 18 ∨ oo = 19) {g : Nat} {x y : N6} {a b : Nat} (ha : a < 3) (hb : b < 3) (hN : NdAt w g [x, y]) (hX : Ev w (evV ra rn rc aa an ac q by_) x (tr3 a) 0) (hY : ¬ ((oo = 18 ∧ a = 0) ∨ (oo = 19 ∧ a = 1)) → Ev w (evV ra rn rc aa an ac q by_) y (tr3 b) 0) : Ev w (evV ra rn rc aa an ac q by_) (opEv oo g) (tr3 (shT oo a b)) 0 :=
 ev_binary fun W hW => by
  have h := binary_short oo hop ⟨#[]⟩ ⟨#[]⟩ 0 g 2 x y a b ha hb ra rn rc aa an ac q by_ W (hN.ext hW) (hX.ext hW) (fun k => (hY k).ext hW)
  rw [trV_eq _ (shT_lt oo a b)] at h
  exact h
theorem ev_div {g : Nat} {x y : N6} (hN : NdAt w g [x, y]) (hX : Ev w (evV ra rn rc aa an ac q by_) x (2, 1, emp) 0) (hY : Ev w (evV ra rn rc aa an ac q by_) y (2, 0, emp) 0) : Ev w (evV ra rn rc aa an ac q by_) (opEv 10 g) (0, 0, emp) 18 :=
 ev_binary fun W hW => binary_div ⟨#[]⟩ 0 g 2 x y ra rn rc aa an ac q by_ W (hN.ext hW) (hX.ext hW) (hY.ext hW)
theorem ev_err {g : Nat} {x y : N6} (hN : NdAt w g [x, y]) (hX : Ev w (evV ra rn rc aa an ac q by_) x (0, 0, emp) 18) : Ev w (evV ra rn rc aa an ac q by_) (opEv 1 g) (0, 0, emp) 18 :=
 ev_binary fun W hW => binary_err 1 (by decide) (by decide) ⟨#[]⟩ ⟨#[]⟩ 0 g 2 x y ra rn rc aa an ac q by_ W (hN.ext hW) (hX.ext hW)
theorem ev_sherr {g : Nat} {x y : N6} (hN : NdAt w g [x, y]) (hX : Ev w (evV ra rn rc aa an ac q by_) x (0, 0, emp) 18) : Ev w (evV ra rn rc aa an ac q by_) (opEv 18 g) (0, 0, emp) 18 :=
 ev_binary fun W hW => binary_sherr 18 (.inl rfl) ⟨#[]⟩ ⟨#[]⟩ 0 g 2 x y ra rn rc aa an ac q by_ W (hN.ext hW) (hX.ext hW)
end
end Go.Proofs.YtcgbpmeadohbkaaGreatDoor
