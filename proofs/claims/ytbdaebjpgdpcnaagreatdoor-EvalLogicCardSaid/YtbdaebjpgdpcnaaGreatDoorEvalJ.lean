/-
  IN of two (Env.in).
-/
import Derived.Test.YtbdaebjpgdpcnaaGreatDoorEvalH
namespace Go.Proofs.YtbdaebjpgdpcnaaGreatDoor
open Go.RowKit Go.Lib
set_option maxRecDepth 100000

def inR (X Y Z : Option Int) : Nat := orT (orT 0 (tst 1 X Y)) (tst 1 X Z)
def inT (n : Int) (X Y Z : Option Int) : Nat := if n = 1 then notT (inR X Y Z) else inR X Y Z
theorem inR_lt (X Y Z : Option Int) : inR X Y Z < 3 := orT_lt _ _
theorem inT_lt (n : Int) (X Y Z : Option Int) : inT n X Y Z < 3 := by unfold inT; split <;> first | exact notT_lt _ | exact inR_lt _ _ _
set_option maxHeartbeats 16000000 in
theorem in_any (oo : Int) (u : ByteArray) (n : Int) (hn : n = 0 ∨ n = 1) (g lc : Nat) (hlc : 3 ≤ lc) (x y z : N6) (X Y Z : Option Int) (ra : Option Addr) (rn rc : Nat) (aa : Option Addr) (an ac : Nat) (q : Option Addr) (by_ : Int) (w : World)
    (hN : NdAt w g [x, y, z]) (hX : Ev w (evV ra rn rc aa an ac q by_) x (o3 X) 0) (hY : Ev w (evV ra rn rc aa an ac q by_) y (o3 Y) 0) (hZ : Ev w (evV ra rn rc aa an ac q by_) z (o3 Z) 0) :
    Calls Tryz.prog 78 #[evV ra rn rc aa an ac q by_, ndE 9 oo ⟨#[]⟩ u n (some ⟨g, 0, none⟩) 3 lc] w fun e w' => e = .returned (.tuple #[trV (inT n X Y Z), .int .i64 0]) ∧ Below w.heap.size w w' := by
  have mixed : Tryz.prog.follows .mixedOrders = true := by kernel_rfl
  obtain ⟨xk, xo, xs, xt, xn, xla, xln, xlc⟩ := x
  obtain ⟨yk, yo, ys, yt, yn, yla, yln, ylc⟩ := y
  obtain ⟨zk, zo, zs, zt, zn, zla, zln, zlc⟩ := z
  have HNd := Lib.hid hN
  have HXe := Lib.hid hX
  have HYe := Lib.hid hY
  have HZe := Lib.hid hZ
  have KB := Lib.hid (fun W => valbool_any false W)
  rw [trB_v, show trB false = 0 from rfl] at KB
  have KT1 := Lib.hid (fun W => test_any 1 X Y ra rn rc aa an ac q by_ W (by decide) (by decide))
  have KT2 := Lib.hid (fun W => test_any 1 X Z ra rn rc aa an ac q by_ W (by decide) (by decide))
  have l1 := tst_lt 1 X Y
  have l2 := tst_lt 1 X Z
  have hb : inR X Y Z = orT (orT 0 (tst 1 X Y)) (tst 1 X Z) := rfl
  have hi : inT n X Y Z = if n = 1 then notT (inR X Y Z) else inR X Y Z := rfl
  have KU := Lib.hid (fun W => turned_any 9 oo ⟨#[]⟩ u n (some ⟨g, 0, none⟩) 3 lc (inR X Y Z) (inR_lt X Y Z) W hn)
  rw [← hi, trV_eq _ (inT_lt n X Y Z), trV_eq _ (inR_lt X Y Z)] at KU
  rw [trV_eq _ (inT_lt n X Y Z)]
  generalize inT n X Y Z = rf at KU ⊢
  generalize hr2 : inR X Y Z = r2 at KU hb
  generalize tst 1 X Y = p1 at KT1 l1 hb
  generalize tst 1 X Z = p2 at KT2 l2 hb
  have KO1 := Lib.hid (Go.Proofs.YtbdaebjpgdpcnaaGreatDoor.Y.or_any 0 p1 (by decide) l1)
  have KO2 := Lib.hid (Go.Proofs.YtbdaebjpgdpcnaaGreatDoor.Y.or_any (orT 0 p1) p2 (orT_lt _ _) l2)
  have KI1 := Lib.hid (isT_any (orT 0 p1) (orT_lt _ _))
  have KI2 := Lib.hid (isT_any (orT (orT 0 p1) p2) (orT_lt _ _))
  rw [trV_eq 0 (by decide)] at KB
  rw [trV_eq _ l1] at KT1
  rw [trV_eq _ l2] at KT2
  rw [trV_eq _ (orT_lt _ _), trV_eq 0 (by decide), trV_eq _ l1] at KO1
  rw [trV_eq _ (orT_lt _ _), trV_eq _ (orT_lt _ _), trV_eq _ l2] at KO2
  rw [trV_eq _ (orT_lt _ _)] at KI1 KI2
  have hone : orT 0 p1 = 1 → r2 = 1 := fun h => by
    rw [hb, h]
    have : p2 = 0 ∨ p2 = 1 ∨ p2 = 2 := by omega
    rcases this with rfl | rfl | rfl <;> rfl
  rw [← hb] at KO2 KI2
  generalize orT 0 p1 = r1 at KO1 KO2 KI1 hone hb
  have HOne := Lib.hid hone
  simp only [evV, ndE, Ev, N6.v, o3, vV, emp] at HXe HYe HZe KT1 KT2 KU ⊢
  rw [show ((1 : Nat) : Int) = 1 from rfl] at KT1 KT2
  generalize oK X = pk at HXe KT1 KT2
  generalize oN X = pn at HXe KT1 KT2
  generalize oK Y = Yk at HYe KT1
  generalize oN Y = Yn at HYe KT1
  generalize oK Z = Zk at HZe KT2
  generalize oN Z = Zn at HZe KT2
  clear hN hX hY hZ hb hi hr2 l1 l2 hn hone
  obtain ⟨kk, hkk⟩ : ∃ z : Int, z = 9 := ⟨_, rfl⟩
  obtain ⟨ll, hll⟩ : ∃ z : Nat, z = 3 := ⟨_, rfl⟩
  obtain ⟨s, hss⟩ : ∃ z : ByteArray, z = ⟨#[]⟩ := ⟨_, rfl⟩
  have HE0 := Lib.hid (((Blk.new w #[.slice ra rn rc, .slice aa an ac, .pointer q, .int .i64 by_] 47 rfl).alloc (.cells #[.int .i64 kk, .int .i64 oo, .string s, .string u, .int .i64 n, .slice (some ⟨g, 0, none⟩) ll lc] 38)).alloc (.cells #[.int .i64 0, .int .i64 0, .string ⟨#[]⟩] 23))
  have HN0 := Lib.hid ((Blk.new (w.alloc (.cells #[.slice ra rn rc, .slice aa an ac, .pointer q, .int .i64 by_] 47)) #[.int .i64 kk, .int .i64 oo, .string s, .string u, .int .i64 n, .slice (some ⟨g, 0, none⟩) ll lc] 38 (n := w.heap.size + 1) (by simp)).alloc (.cells #[.int .i64 0, .int .i64 0, .string ⟨#[]⟩] 23))
  have HR0 := Lib.hid (Blk.new ((w.alloc (.cells #[.slice ra rn rc, .slice aa an ac, .pointer q, .int .i64 by_] 47)).alloc (.cells #[.int .i64 kk, .int .i64 oo, .string s, .string u, .int .i64 n, .slice (some ⟨g, 0, none⟩) ll lc] 38)) #[.int .i64 0, .int .i64 0, .string ⟨#[]⟩] 23 (n := w.heap.size + 1 + 1) (by simp))
  have HX0 := Lib.hid (show Below w.heap.size w (((w.alloc (.cells #[.slice ra rn rc, .slice aa an ac, .pointer q, .int .i64 by_] 47)).alloc (.cells #[.int .i64 kk, .int .i64 oo, .string s, .string u, .int .i64 n, .slice (some ⟨g, 0, none⟩) ll lc] 38)).alloc (.cells #[.int .i64 0, .int .i64 0, .string ⟨#[]⟩] 23)) by go_grown)
  subst hkk hll hss
  go_enter Tryz.func78, Tryz.ntmps78
  go_wp2_with fail
  generalize (((w.alloc (.cells #[.slice ra rn rc, .slice aa an ac, .pointer q, .int .i64 by_] 47)).alloc (.cells #[.int .i64 9, .int .i64 oo, .string ⟨#[]⟩, .string u, .int .i64 n, .slice (some ⟨g, 0, none⟩) 3 lc] 38)).alloc (.cells #[.int .i64 0, .int .i64 0, .string ⟨#[]⟩] 23)) = W0 at HE0 HN0 HR0 HX0 ⊢
  have HF0 := Lib.hid (show ∀ W, LeW (W0.heap.size ≤ ·) #[.int .i64 pk, .int .i64 pn, .string ⟨#[]⟩] W0 W → (∀ j, W.cell? ⟨w.heap.size + 1, j, none⟩ = (#[.int .i64 9, .int .i64 oo, .string ⟨#[]⟩, .string u, .int .i64 n, .slice (some ⟨g, 0, none⟩) 3 lc] : Array Value)[j]?) ∧ (∀ j, W.cell? ⟨w.heap.size, j, none⟩ = (#[.slice ra rn rc, .slice aa an ac, .pointer q, .int .i64 by_] : Array Value)[j]?) ∧ W.cell? ⟨g, 0, none⟩ = some (.int .i64 xk) ∧ W.cell? ⟨g, 1, none⟩ = some (.int .i64 xo) ∧ W.cell? ⟨g, 2, none⟩ = some (.string xs) ∧ W.cell? ⟨g, 3, none⟩ = some (.string xt) ∧ W.cell? ⟨g, 4, none⟩ = some (.int .i64 xn) ∧ W.cell? ⟨g, 5, none⟩ = some (.slice xla xln xlc) from
    fun W hW => by
      have hN := HNd.out.ext (show Ext w W0 from HX0.out)
      have hc := fun o => cell_same (hW.old g hN.1 (Nat.not_le.2 hN.1)) o
      obtain ⟨q0, q1, q2, q3, q4, q5⟩ := hN.2 0 _ rfl
      exact ⟨(hW.blk HN0.out (Nat.not_le.2 HN0.out.lt)).cell, (hW.blk HE0.out (Nat.not_le.2 HE0.out.lt)).cell, (hc _).trans q0, (hc _).trans q1, (hc _).trans q2, (hc _).trans q3, (hc _).trans q4, (hc _).trans q5⟩)
  refine wp_parZG (leW (W0.heap.size ≤ ·) #[.int .i64 pk, .int .i64 pn, .string ⟨#[]⟩]) [0, 1, 2, 3, 4, 5, 6, 7, 8, 9, 10, 11] 12 12 (fun
      | 0 => fun _ v _ => v = .pointer (some ⟨w.heap.size + 1, 5, none⟩)
      | 1 => fun _ v _ => v = .slice (some ⟨g, 0, none⟩) 3 lc
      | 2 => fun _ v _ => v = .pointer (some ⟨g, 0, none⟩)
      | 3 => fun _ v _ => v = .agg #[.int .i64 xk, .int .i64 xo, .string xs, .string xt, .int .i64 xn, .slice xla xln xlc]
      | 4 => fun _ v _ => v = .agg #[.slice ra rn rc, .slice aa an ac, .pointer q, .int .i64 by_]
      | 5 => fun _ v _ => v = .tuple #[.agg #[.int .i64 pk, .int .i64 pn, .string ⟨#[]⟩], .int .i64 0]
      | 6 => fun _ v _ => v = .tuple #[.agg #[.int .i64 pk, .int .i64 pn, .string ⟨#[]⟩], .int .i64 0]
      | 7 => fun _ v _ => v = .agg #[.int .i64 pk, .int .i64 pn, .string ⟨#[]⟩]
      | 8 => fun _ v _ => v = .int .i64 0
      | 9 => fun _ => newVa W0.heap.size
      | 10 => storedV W0.heap.size #[.int .i64 pk, .int .i64 pn, .string ⟨#[]⟩]
      | 11 => fun _ v _ => v = .int .i64 0
      | _ => fun _ _ _ => True) (fun
      | _ => undef) (by kernel_rfl) (by kernel_rfl) (by kernel_rfl) ?_ ?_ ?_
  · simp (maxSteps := 20000000) only [permL, permOp, List.filterMap_cons, List.filterMap_nil, List.getElem?_cons_succ, List.getElem?_cons_zero, Option.map_some, Option.map_none, List.take_succ_cons, List.take_zero, ParAllG, Act.put, List.setIfInBounds_toArray, List.set_cons_succ, List.set_cons_zero]
    refine ⟨?_, ?_, ?_, ?_, ?_, ?_, ?_, ?_, ?_, ?_, ?_, ?_, trivial⟩
    · intro vals W hx hd
      have hW := HF0.out W hx
      simp [PDepsG, pdeps, Region.binds, List.idxOf_cons] at hd
      first
        | refine ParObG.plain rfl ?_
        | refine ParObG.wanted (by simp [Region.wanted, yielded, hd]) ?_
      go_simp
      exact ParPostG.same (leW (W0.heap.size ≤ ·) #[.int .i64 pk, .int .i64 pn, .string ⟨#[]⟩]) fun _ _ => rfl
    · intro vals W hx hd
      have hW := HF0.out W hx
      simp [PDepsG, pdeps, Region.binds, List.idxOf_cons] at hd
      first
        | refine ParObG.plain rfl ?_
        | refine ParObG.wanted (by simp [Region.wanted, yielded, hd]) ?_
      go_simp
      exact ParPostG.same (leW (W0.heap.size ≤ ·) #[.int .i64 pk, .int .i64 pn, .string ⟨#[]⟩]) fun _ _ => rfl
    · intro vals W hx hd
      have hW := HF0.out W hx
      simp [PDepsG, pdeps, Region.binds, List.idxOf_cons] at hd
      first
        | refine ParObG.plain rfl ?_
        | refine ParObG.wanted (by simp [Region.wanted, yielded, hd]) ?_
      go_simp
      exact ParPostG.same (leW (W0.heap.size ≤ ·) #[.int .i64 pk, .int .i64 pn, .string ⟨#[]⟩]) fun _ _ => rfl
    · intro vals W hx hd
      have hW := HF0.out W hx
      simp [PDepsG, pdeps, Region.binds, List.idxOf_cons] at hd
      first
        | refine ParObG.plain rfl ?_
        | refine ParObG.wanted (by simp [Region.wanted, yielded, hd]) ?_
      go_simp
      exact ParPostG.same (leW (W0.heap.size ≤ ·) #[.int .i64 pk, .int .i64 pn, .string ⟨#[]⟩]) fun _ _ => rfl
    · intro vals W hx hd
      have hW := HF0.out W hx
      simp [PDepsG, pdeps, Region.binds, List.idxOf_cons] at hd
      first
        | refine ParObG.plain rfl ?_
        | refine ParObG.wanted (by simp [Region.wanted, yielded, hd]) ?_
      go_simp
      exact ParPostG.same (leW (W0.heap.size ≤ ·) #[.int .i64 pk, .int .i64 pn, .string ⟨#[]⟩]) fun _ _ => rfl
    · intro vals W hx hd
      have hW := HF0.out W hx
      simp [PDepsG, pdeps, Region.binds, List.idxOf_cons] at hd
      first
        | refine ParObG.plain rfl ?_
        | refine ParObG.wanted (by simp [Region.wanted, yielded, hd]) ?_
      go_simp
      refine (HXe.out W (Ext.trans (show Ext w W0 from HX0.out) (LeW.below (Below.refl _ _) hx fun i hi => hi))).mono ?_
      rintro e w9 ⟨rfl, hb9⟩
      exact ⟨_, rfl, LeW.ofExt hb9, fun _ _ => rfl⟩
    · intro vals W hx hd
      have hW := HF0.out W hx
      simp [PDepsG, pdeps, Region.binds, List.idxOf_cons] at hd
      first
        | refine ParObG.plain rfl ?_
        | refine ParObG.wanted (by simp [Region.wanted, yielded, hd]) ?_
      go_simp
      exact ParPostG.same (leW (W0.heap.size ≤ ·) #[.int .i64 pk, .int .i64 pn, .string ⟨#[]⟩]) fun _ _ => rfl
    · intro vals W hx hd
      have hW := HF0.out W hx
      simp [PDepsG, pdeps, Region.binds, List.idxOf_cons] at hd
      first
        | refine ParObG.plain rfl ?_
        | refine ParObG.wanted (by simp [Region.wanted, yielded, hd]) ?_
      go_simp
      exact ParPostG.same (leW (W0.heap.size ≤ ·) #[.int .i64 pk, .int .i64 pn, .string ⟨#[]⟩]) fun _ _ => rfl
    · intro vals W hx hd
      have hW := HF0.out W hx
      simp [PDepsG, pdeps, Region.binds, List.idxOf_cons] at hd
      first
        | refine ParObG.plain rfl ?_
        | refine ParObG.wanted (by simp [Region.wanted, yielded, hd]) ?_
      go_simp
      exact ParPostG.same (leW (W0.heap.size ≤ ·) #[.int .i64 pk, .int .i64 pn, .string ⟨#[]⟩]) fun _ _ => rfl
    · intro vals W hx hd
      have hW := HF0.out W hx
      simp [PDepsG, pdeps, Region.binds, List.idxOf_cons] at hd
      first
        | refine ParObG.plain rfl ?_
        | refine ParObG.wanted (by simp [Region.wanted, yielded, hd]) ?_
      go_simp
      exact ⟨LeW.ofExt ((Ext.refl _).alloc _), fun w3 h3 => by
        obtain ⟨cs, h4, h5⟩ := h3.row _ _ (Blk.new W #[.int .i64 0, .int .i64 0, .string ⟨#[]⟩] 23 rfl) rfl
        exact ⟨_, cs, rfl, hx.size, h4, h5⟩⟩
    · intro vals W hx hd
      have hW := HF0.out W hx
      simp [PDepsG, pdeps, Region.binds, List.idxOf_cons] at hd
      first
        | refine ParObG.plain rfl ?_
        | refine ParObG.wanted (by simp [Region.wanted, yielded, hd]) ?_
      obtain ⟨⟨gc, old, hgv, hge, hgb, hgs⟩, hcv⟩ := hd
      refine yields_storeV (cs := #[.int .i64 pk, .int .i64 pn, .string ⟨#[]⟩]) rfl (by simpa [Act.eval] using hgv) (by simp [Act.eval, hcv]) hgb hgs rfl (by simp [Value.oneCell']) ?_
      exact ⟨LeW.setRow hgb hge rfl, fun w10 h10 => ⟨gc, by simp [dv, ldeps, pdeps, Region.binds, List.idxOf_cons, hgv], hge, h10.keep gc (setRow_heap W gc old _ _ _ hgb)⟩⟩
    · intro vals W hx hd
      have hW := HF0.out W hx
      simp [PDepsG, pdeps, Region.binds, List.idxOf_cons] at hd
      first
        | refine ParObG.plain rfl ?_
        | refine ParObG.wanted (by simp [Region.wanted, yielded, hd]) ?_
      go_simp
      exact ParPostG.same (leW (W0.heap.size ≤ ·) #[.int .i64 pk, .int .i64 pn, .string ⟨#[]⟩]) fun _ _ => rfl
  · simp (maxSteps := 20000000) only [permL, permOp, List.filterMap_cons, List.filterMap_nil, List.getElem?_cons_succ, List.getElem?_cons_zero, Option.map_some, Option.map_none, List.drop_succ_cons, List.drop_zero, List.take_succ_cons, List.take_zero, Nat.reduceSub, ZAll, ParEnd, Act.put, List.setIfInBounds_toArray, List.set_cons_succ, List.set_cons_zero]
  intro vals W hx hf hz
  simp (maxSteps := 20000000) only [permL, permOp, List.filterMap_cons, List.filterMap_nil, List.getElem?_cons_succ, List.getElem?_cons_zero, Option.map_some, Option.map_none, ParFactsG, List.take_succ_cons, List.take_zero, and_true, Nat.reduceAdd] at hf
  obtain ⟨f0, f1, f2, f3, f4, f5, f6, f7, f8, f9, f10, f11⟩ := hf
  clear hz
  simp (maxSteps := 20000000) only [permL, permOp, List.filterMap_cons, List.filterMap_nil, List.getElem?_cons_succ, List.getElem?_cons_zero, Option.map_some, Option.map_none, List.drop_succ_cons, List.drop_zero, List.take_succ_cons, List.take_zero, Nat.reduceSub, ParEnd, ZTail, Act.put, List.setIfInBounds_toArray, List.set_cons_succ, List.set_cons_zero, Nat.reduceAdd, f0, f1, f2, f3, f4, f5, f6, f7, f8, f11]
  clear f0 f1 f2 f3 f4 f5 f6 f7 f8 f11
  obtain ⟨gA, hds, hgA, hbA⟩ := f10
  simp [dv, ldeps, pdeps, Region.binds, List.idxOf_cons] at hds
  have hxE : Ext W0 W := LeW.below (Below.refl _ _) hx fun i hi => hi
  rw [hds]
  have HAs := Lib.hid hbA
  have HNs := Lib.hid (HN0.out.keep hxE)
  have HEs := Lib.hid (HE0.out.keep hxE)
  have HRs := Lib.hid (HR0.out.keep hxE)
  have HXs := Lib.hid (show Ext w W from Ext.trans HX0.out hxE)
  clear hx hxE HF0 f9 hds hbA hgA HE0 HN0 HR0 HX0
  go_simp
  repeat (first | go_values | go_skip | go_guarded | go_step | go_upon)
  refine Calls.mono (KB.out _) ?_
  rintro e Wg ⟨rfl, hb⟩
  have HAg := Lib.hid (HAs.out.keep hb)
  have HNg := Lib.hid (HNs.out.keep hb)
  have HEg := Lib.hid (HEs.out.keep hb)
  have HRg := Lib.hid (HRs.out.keep hb)
  have HXg := Lib.hid (show Ext w Wg from Ext.trans HXs.out hb)
  clear hb HAs HNs HEs HRs HXs
  have hx1 : Ext Wg (Wg.alloc (.cells #[.int .i64 (trK 0), .int .i64 (trN 0), .string ⟨#[]⟩] 23)) := (Ext.refl _).alloc _
  have HG1 := Lib.hid (Blk.new Wg #[.int .i64 (trK 0), .int .i64 (trN 0), .string ⟨#[]⟩] 23 rfl)
  have HA1 := Lib.hid (HAg.out.keep hx1)
  have HN1 := Lib.hid (HNg.out.keep hx1)
  have HE1 := Lib.hid (HEg.out.keep hx1)
  have HR1 := Lib.hid (HRg.out.keep hx1)
  have HX1 := Lib.hid (show Ext w _ from Ext.trans HXg.out hx1)
  have hNG : Wg.heap.size ≠ w.heap.size + 1 := by have := HNg.out.lt; omega
  have hEG : Wg.heap.size ≠ w.heap.size := by have := HEg.out.lt; omega
  have hRG : Wg.heap.size ≠ w.heap.size + 1 + 1 := by have := HRg.out.lt; omega
  have hAG : Wg.heap.size ≠ gA := by have := HAg.out.lt; omega
  have hGw : w.heap.size ≤ Wg.heap.size := HXg.out.size
  obtain ⟨cN, fN⟩ := HNg.out.facts
  have hNl := HNg.out.lt
  go_simp
  repeat (first | go_values | go_skip | go_guarded | go_step | go_upon)
  clear cN fN hNl HAg HNg HEg HRg HXg hx1
  generalize Wg.alloc (.cells #[.int .i64 (trK 0), .int .i64 (trN 0), .string ⟨#[]⟩] 23) = W1 at HG1 HA1 HN1 HE1 HR1 HX1 ⊢
  generalize Wg.heap.size = gG at HG1 hNG hEG hRG hAG hGw ⊢
  refine wp_loop_rounds 3 ?_
  rw [rounds_succ]
  obtain ⟨q0, q1, q2, q3, q4, q5⟩ := (HNd.out.ext HX1.out).2 1 _ rfl
  have n0 : W1.cell? ⟨g, 6, none⟩ = some (.int .i64 yk) := q0
  have n1 : W1.cell? ⟨g, 7, none⟩ = some (.int .i64 yo) := q1
  have n2 : W1.cell? ⟨g, 8, none⟩ = some (.string ys) := q2
  have n3 : W1.cell? ⟨g, 9, none⟩ = some (.string yt) := q3
  have n4 : W1.cell? ⟨g, 10, none⟩ = some (.int .i64 yn) := q4
  have n5 : W1.cell? ⟨g, 11, none⟩ = some (.slice yla yln ylc) := q5
  have hgl := (HNd.out.ext HX1.out).1
  clear q0 q1 q2 q3 q4 q5
  obtain ⟨cN, fN⟩ := HN1.out.facts
  obtain ⟨cE, fE⟩ := HE1.out.facts
  obtain ⟨cA, fA⟩ := HA1.out.facts
  obtain ⟨cG, fG⟩ := HG1.out.facts
  obtain ⟨cR, fR⟩ := HR1.out.facts
  have hNl := HN1.out.lt
  have hEl := HE1.out.lt
  have hAl := HA1.out.lt
  have hGl := HG1.out.lt
  have hRl := HR1.out.lt
  go_simp
  repeat (first | go_values | go_skip | go_guarded | go_step | go_upon)
  have hx1 : Ext W1 (W1.alloc (.cells #[.int .i64 yk, .int .i64 yo, .string ys, .string yt, .int .i64 yn, .slice yla yln ylc] 38)) := (Ext.refl _).alloc _
  refine Calls.mono (HYe.out _ (Ext.trans HX1.out hx1)) ?_
  rintro e W1a ⟨rfl, hb⟩
  have hx2 : Ext W1 W1a := Ext.trans hx1 hb
  have HN1a := Lib.hid (HN1.out.keep hx2)
  have HE1a := Lib.hid (HE1.out.keep hx2)
  have HA1a := Lib.hid (HA1.out.keep hx2)
  have HG1a := Lib.hid (HG1.out.keep hx2)
  have HR1a := Lib.hid (HR1.out.keep hx2)
  have HX1a := Lib.hid (show Ext w _ from Ext.trans HX1.out hx2)
  clear cN fN cE fE cA fA cG fG cR fR hNl hEl hAl hGl hRl
  clear HN1 HE1 HA1 HG1 HR1 HX1
  clear hx1 hx2 hb n0 n1 n2 n3 n4 n5 hgl
  obtain ⟨cN, fN⟩ := HN1a.out.facts
  obtain ⟨cE, fE⟩ := HE1a.out.facts
  obtain ⟨cA, fA⟩ := HA1a.out.facts
  obtain ⟨cG, fG⟩ := HG1a.out.facts
  obtain ⟨cR, fR⟩ := HR1a.out.facts
  have hNl := HN1a.out.lt
  have hEl := HE1a.out.lt
  have hAl := HA1a.out.lt
  have hGl := HG1a.out.lt
  have hRl := HR1a.out.lt
  go_simp
  repeat (first | go_values | go_skip | go_guarded | go_step | go_upon)
  have hx1 : Ext W1a (W1a.alloc (.cells #[.int .i64 Yk, .int .i64 Yn, .string ⟨#[]⟩] 23)) := (Ext.refl _).alloc _
  refine Calls.mono (KT1.out _) ?_
  rintro e W1b ⟨rfl, hb⟩
  have hx2 : Ext W1a W1b := Ext.trans hx1 hb
  have HN1b := Lib.hid (HN1a.out.keep hx2)
  have HE1b := Lib.hid (HE1a.out.keep hx2)
  have HA1b := Lib.hid (HA1a.out.keep hx2)
  have HG1b := Lib.hid (HG1a.out.keep hx2)
  have HR1b := Lib.hid (HR1a.out.keep hx2)
  have HX1b := Lib.hid (show Ext w _ from Ext.trans HX1a.out hx2)
  clear cN fN cE fE cA fA cG fG cR fR hNl hEl hAl hGl hRl
  clear HN1a HE1a HA1a HG1a HR1a HX1a
  clear hx1 hx2 hb
  obtain ⟨cN, fN⟩ := HN1b.out.facts
  obtain ⟨cE, fE⟩ := HE1b.out.facts
  obtain ⟨cA, fA⟩ := HA1b.out.facts
  obtain ⟨cG, fG⟩ := HG1b.out.facts
  obtain ⟨cR, fR⟩ := HR1b.out.facts
  have hNl := HN1b.out.lt
  have hEl := HE1b.out.lt
  have hAl := HA1b.out.lt
  have hGl := HG1b.out.lt
  have hRl := HR1b.out.lt
  go_simp
  repeat (first | go_values | go_skip | go_guarded | go_step | go_upon)
  have hx1 : Ext W1b (W1b.alloc (.cells #[.int .i64 (trK p1), .int .i64 (trN p1), .string ⟨#[]⟩] 23)) := (Ext.refl _).alloc _
  refine Calls.mono (KO1.out _) ?_
  rintro e W1c ⟨rfl, hb⟩
  have hx2 : Ext W1b W1c := Ext.trans hx1 hb
  have HN1c := Lib.hid (HN1b.out.keep hx2)
  have HE1c := Lib.hid (HE1b.out.keep hx2)
  have HA1c := Lib.hid (HA1b.out.keep hx2)
  have HG1c := Lib.hid (HG1b.out.keep hx2)
  have HR1c := Lib.hid (HR1b.out.keep hx2)
  have HX1c := Lib.hid (show Ext w _ from Ext.trans HX1b.out hx2)
  clear cN fN cE fE cA fA cG fG cR fR hNl hEl hAl hGl hRl
  clear HN1b HE1b HA1b HG1b HR1b HX1b
  clear hx1 hx2 hb
  obtain ⟨cN, fN⟩ := HN1c.out.facts
  obtain ⟨cE, fE⟩ := HE1c.out.facts
  obtain ⟨cA, fA⟩ := HA1c.out.facts
  obtain ⟨cG, fG⟩ := HG1c.out.facts
  obtain ⟨cR, fR⟩ := HR1c.out.facts
  have hNl := HN1c.out.lt
  have hEl := HE1c.out.lt
  have hAl := HA1c.out.lt
  have hGl := HG1c.out.lt
  have hRl := HR1c.out.lt
  go_simp
  repeat (first | go_values | go_skip | go_guarded | go_step | go_upon)
  have HN1d := Lib.hid (((HN1c.out.other (a := ⟨gG, 0, none⟩) (Ne.symm hNG) (.int .i64 (trK r1))).other (a := ⟨gG, 1, none⟩) (Ne.symm hNG) (.int .i64 (trN r1))).other (a := ⟨gG, 2, none⟩) (Ne.symm hNG) (.string ⟨#[]⟩))
  have HE1d := Lib.hid (((HE1c.out.other (a := ⟨gG, 0, none⟩) (Ne.symm hEG) (.int .i64 (trK r1))).other (a := ⟨gG, 1, none⟩) (Ne.symm hEG) (.int .i64 (trN r1))).other (a := ⟨gG, 2, none⟩) (Ne.symm hEG) (.string ⟨#[]⟩))
  have HA1d := Lib.hid (((HA1c.out.other (a := ⟨gG, 0, none⟩) (Ne.symm hAG) (.int .i64 (trK r1))).other (a := ⟨gG, 1, none⟩) (Ne.symm hAG) (.int .i64 (trN r1))).other (a := ⟨gG, 2, none⟩) (Ne.symm hAG) (.string ⟨#[]⟩))
  have HR1d := Lib.hid (((HR1c.out.other (a := ⟨gG, 0, none⟩) (Ne.symm hRG) (.int .i64 (trK r1))).other (a := ⟨gG, 1, none⟩) (Ne.symm hRG) (.int .i64 (trN r1))).other (a := ⟨gG, 2, none⟩) (Ne.symm hRG) (.string ⟨#[]⟩))
  have HG1d := Lib.hid (blk3 HG1c.out (.int .i64 (trK r1)) (.int .i64 (trN r1)) (.string ⟨#[]⟩))
  have HX1d := Lib.hid (show Ext w _ from below3 HX1c.out hGw (.int .i64 (trK r1)) (.int .i64 (trN r1)) (.string ⟨#[]⟩))
  clear cN fN cE fE cA fA cG fG cR fR hNl hEl hAl hGl hRl
  clear HN1c HE1c HA1c HG1c HR1c HX1c
  generalize (((W1c.setCell ⟨gG, 0, none⟩ (.int .i64 (trK r1))).setCell ⟨gG, 1, none⟩ (.int .i64 (trN r1))).setCell ⟨gG, 2, none⟩ (.string ⟨#[]⟩)) = W1d at HN1d HE1d HA1d HR1d HG1d HX1d ⊢
  refine Calls.mono (KI1.out _) ?_
  rintro e W1e ⟨rfl, hb⟩
  have HN1e := Lib.hid (HN1d.out.keep hb)
  have HE1e := Lib.hid (HE1d.out.keep hb)
  have HA1e := Lib.hid (HA1d.out.keep hb)
  have HG1e := Lib.hid (HG1d.out.keep hb)
  have HR1e := Lib.hid (HR1d.out.keep hb)
  have HX1e := Lib.hid (show Ext w _ from Ext.trans HX1d.out hb)
  clear HN1d HE1d HA1d HG1d HR1d HX1d
  clear hb
  by_cases h1 : r1 = 1
  · have hb1 : (r1 == 1) = true := by simpa using h1
    have hr2 := HOne.out h1
    rw [hb1]
    rw [hr2] at KU
    rw [h1] at HG1e
    clear h1 hb1 hr2
    obtain ⟨cN, fN⟩ := HN1e.out.facts
    obtain ⟨cE, fE⟩ := HE1e.out.facts
    obtain ⟨cA, fA⟩ := HA1e.out.facts
    obtain ⟨cG, fG⟩ := HG1e.out.facts
    obtain ⟨cR, fR⟩ := HR1e.out.facts
    have hNl := HN1e.out.lt
    have hEl := HE1e.out.lt
    have hAl := HA1e.out.lt
    have hGl := HG1e.out.lt
    have hRl := HR1e.out.lt
    go_simp
    repeat (first | go_values | go_skip | go_guarded | go_step | go_upon)
    refine Calls.mono (KU.out _) ?_
    rintro e Wz ⟨rfl, hb⟩
    have HRz := Lib.hid (HR1e.out.keep hb)
    have HXz := Lib.hid (show Ext w _ from Ext.trans HX1e.out hb)
    clear hb cN fN cE fE cA fA cG fG cR fR hNl hEl hAl hGl hRl
    obtain ⟨cR, fR⟩ := HRz.out.facts
    have hRl := HRz.out.lt
    go_simp
    repeat (first | go_values | go_skip | go_guarded | go_step | go_upon)
    refine bodyPost_ret (ret_vE2 rfl _ rfl rfl (blk3 HRz.out _ _ _)) rfl ?_
    exact ⟨rfl, below3 (show Below w.heap.size w Wz from HXz.out) (by omega) _ _ _⟩
  · have hb1 : (r1 == 1) = false := by simpa using h1
    rw [hb1]
    clear h1 hb1
    go_simp
    repeat (first | go_values | go_skip | go_guarded | go_step | go_upon)
    rw [rounds_succ]
    obtain ⟨q0, q1, q2, q3, q4, q5⟩ := (HNd.out.ext HX1e.out).2 2 _ rfl
    have n0 : W1e.cell? ⟨g, 12, none⟩ = some (.int .i64 zk) := q0
    have n1 : W1e.cell? ⟨g, 13, none⟩ = some (.int .i64 zo) := q1
    have n2 : W1e.cell? ⟨g, 14, none⟩ = some (.string zs) := q2
    have n3 : W1e.cell? ⟨g, 15, none⟩ = some (.string zt) := q3
    have n4 : W1e.cell? ⟨g, 16, none⟩ = some (.int .i64 zn) := q4
    have n5 : W1e.cell? ⟨g, 17, none⟩ = some (.slice zla zln zlc) := q5
    have hgl := (HNd.out.ext HX1e.out).1
    clear q0 q1 q2 q3 q4 q5
    obtain ⟨cN, fN⟩ := HN1e.out.facts
    obtain ⟨cE, fE⟩ := HE1e.out.facts
    obtain ⟨cA, fA⟩ := HA1e.out.facts
    obtain ⟨cG, fG⟩ := HG1e.out.facts
    obtain ⟨cR, fR⟩ := HR1e.out.facts
    have hNl := HN1e.out.lt
    have hEl := HE1e.out.lt
    have hAl := HA1e.out.lt
    have hGl := HG1e.out.lt
    have hRl := HR1e.out.lt
    go_simp
    repeat (first | go_values | go_skip | go_guarded | go_step | go_upon)
    have hx1 : Ext W1e (W1e.alloc (.cells #[.int .i64 zk, .int .i64 zo, .string zs, .string zt, .int .i64 zn, .slice zla zln zlc] 38)) := (Ext.refl _).alloc _
    refine Calls.mono (HZe.out _ (Ext.trans HX1e.out hx1)) ?_
    rintro e W1ea ⟨rfl, hb⟩
    have hx2 : Ext W1e W1ea := Ext.trans hx1 hb
    have HN1ea := Lib.hid (HN1e.out.keep hx2)
    have HE1ea := Lib.hid (HE1e.out.keep hx2)
    have HA1ea := Lib.hid (HA1e.out.keep hx2)
    have HG1ea := Lib.hid (HG1e.out.keep hx2)
    have HR1ea := Lib.hid (HR1e.out.keep hx2)
    have HX1ea := Lib.hid (show Ext w _ from Ext.trans HX1e.out hx2)
    clear cN fN cE fE cA fA cG fG cR fR hNl hEl hAl hGl hRl
    clear HN1e HE1e HA1e HG1e HR1e HX1e
    clear hx1 hx2 hb n0 n1 n2 n3 n4 n5 hgl
    obtain ⟨cN, fN⟩ := HN1ea.out.facts
    obtain ⟨cE, fE⟩ := HE1ea.out.facts
    obtain ⟨cA, fA⟩ := HA1ea.out.facts
    obtain ⟨cG, fG⟩ := HG1ea.out.facts
    obtain ⟨cR, fR⟩ := HR1ea.out.facts
    have hNl := HN1ea.out.lt
    have hEl := HE1ea.out.lt
    have hAl := HA1ea.out.lt
    have hGl := HG1ea.out.lt
    have hRl := HR1ea.out.lt
    go_simp
    repeat (first | go_values | go_skip | go_guarded | go_step | go_upon)
    have hx1 : Ext W1ea (W1ea.alloc (.cells #[.int .i64 Zk, .int .i64 Zn, .string ⟨#[]⟩] 23)) := (Ext.refl _).alloc _
    refine Calls.mono (KT2.out _) ?_
    rintro e W1eb ⟨rfl, hb⟩
    have hx2 : Ext W1ea W1eb := Ext.trans hx1 hb
    have HN1eb := Lib.hid (HN1ea.out.keep hx2)
    have HE1eb := Lib.hid (HE1ea.out.keep hx2)
    have HA1eb := Lib.hid (HA1ea.out.keep hx2)
    have HG1eb := Lib.hid (HG1ea.out.keep hx2)
    have HR1eb := Lib.hid (HR1ea.out.keep hx2)
    have HX1eb := Lib.hid (show Ext w _ from Ext.trans HX1ea.out hx2)
    clear cN fN cE fE cA fA cG fG cR fR hNl hEl hAl hGl hRl
    clear HN1ea HE1ea HA1ea HG1ea HR1ea HX1ea
    clear hx1 hx2 hb
    obtain ⟨cN, fN⟩ := HN1eb.out.facts
    obtain ⟨cE, fE⟩ := HE1eb.out.facts
    obtain ⟨cA, fA⟩ := HA1eb.out.facts
    obtain ⟨cG, fG⟩ := HG1eb.out.facts
    obtain ⟨cR, fR⟩ := HR1eb.out.facts
    have hNl := HN1eb.out.lt
    have hEl := HE1eb.out.lt
    have hAl := HA1eb.out.lt
    have hGl := HG1eb.out.lt
    have hRl := HR1eb.out.lt
    go_simp
    repeat (first | go_values | go_skip | go_guarded | go_step | go_upon)
    have hx1 : Ext W1eb (W1eb.alloc (.cells #[.int .i64 (trK p2), .int .i64 (trN p2), .string ⟨#[]⟩] 23)) := (Ext.refl _).alloc _
    refine Calls.mono (KO2.out _) ?_
    rintro e W1ec ⟨rfl, hb⟩
    have hx2 : Ext W1eb W1ec := Ext.trans hx1 hb
    have HN1ec := Lib.hid (HN1eb.out.keep hx2)
    have HE1ec := Lib.hid (HE1eb.out.keep hx2)
    have HA1ec := Lib.hid (HA1eb.out.keep hx2)
    have HG1ec := Lib.hid (HG1eb.out.keep hx2)
    have HR1ec := Lib.hid (HR1eb.out.keep hx2)
    have HX1ec := Lib.hid (show Ext w _ from Ext.trans HX1eb.out hx2)
    clear cN fN cE fE cA fA cG fG cR fR hNl hEl hAl hGl hRl
    clear HN1eb HE1eb HA1eb HG1eb HR1eb HX1eb
    clear hx1 hx2 hb
    obtain ⟨cN, fN⟩ := HN1ec.out.facts
    obtain ⟨cE, fE⟩ := HE1ec.out.facts
    obtain ⟨cA, fA⟩ := HA1ec.out.facts
    obtain ⟨cG, fG⟩ := HG1ec.out.facts
    obtain ⟨cR, fR⟩ := HR1ec.out.facts
    have hNl := HN1ec.out.lt
    have hEl := HE1ec.out.lt
    have hAl := HA1ec.out.lt
    have hGl := HG1ec.out.lt
    have hRl := HR1ec.out.lt
    go_simp
    repeat (first | go_values | go_skip | go_guarded | go_step | go_upon)
    have HN1ed := Lib.hid (((HN1ec.out.other (a := ⟨gG, 0, none⟩) (Ne.symm hNG) (.int .i64 (trK r2))).other (a := ⟨gG, 1, none⟩) (Ne.symm hNG) (.int .i64 (trN r2))).other (a := ⟨gG, 2, none⟩) (Ne.symm hNG) (.string ⟨#[]⟩))
    have HE1ed := Lib.hid (((HE1ec.out.other (a := ⟨gG, 0, none⟩) (Ne.symm hEG) (.int .i64 (trK r2))).other (a := ⟨gG, 1, none⟩) (Ne.symm hEG) (.int .i64 (trN r2))).other (a := ⟨gG, 2, none⟩) (Ne.symm hEG) (.string ⟨#[]⟩))
    have HA1ed := Lib.hid (((HA1ec.out.other (a := ⟨gG, 0, none⟩) (Ne.symm hAG) (.int .i64 (trK r2))).other (a := ⟨gG, 1, none⟩) (Ne.symm hAG) (.int .i64 (trN r2))).other (a := ⟨gG, 2, none⟩) (Ne.symm hAG) (.string ⟨#[]⟩))
    have HR1ed := Lib.hid (((HR1ec.out.other (a := ⟨gG, 0, none⟩) (Ne.symm hRG) (.int .i64 (trK r2))).other (a := ⟨gG, 1, none⟩) (Ne.symm hRG) (.int .i64 (trN r2))).other (a := ⟨gG, 2, none⟩) (Ne.symm hRG) (.string ⟨#[]⟩))
    have HG1ed := Lib.hid (blk3 HG1ec.out (.int .i64 (trK r2)) (.int .i64 (trN r2)) (.string ⟨#[]⟩))
    have HX1ed := Lib.hid (show Ext w _ from below3 HX1ec.out hGw (.int .i64 (trK r2)) (.int .i64 (trN r2)) (.string ⟨#[]⟩))
    clear cN fN cE fE cA fA cG fG cR fR hNl hEl hAl hGl hRl
    clear HN1ec HE1ec HA1ec HG1ec HR1ec HX1ec
    generalize (((W1ec.setCell ⟨gG, 0, none⟩ (.int .i64 (trK r2))).setCell ⟨gG, 1, none⟩ (.int .i64 (trN r2))).setCell ⟨gG, 2, none⟩ (.string ⟨#[]⟩)) = W1ed at HN1ed HE1ed HA1ed HR1ed HG1ed HX1ed ⊢
    refine Calls.mono (KI2.out _) ?_
    rintro e W1ee ⟨rfl, hb⟩
    have HN1ee := Lib.hid (HN1ed.out.keep hb)
    have HE1ee := Lib.hid (HE1ed.out.keep hb)
    have HA1ee := Lib.hid (HA1ed.out.keep hb)
    have HG1ee := Lib.hid (HG1ed.out.keep hb)
    have HR1ee := Lib.hid (HR1ed.out.keep hb)
    have HX1ee := Lib.hid (show Ext w _ from Ext.trans HX1ed.out hb)
    clear HN1ed HE1ed HA1ed HG1ed HR1ed HX1ed
    clear hb
    cases hb2 : (r2 == 1)
    · go_simp
      repeat (first | go_values | go_skip | go_guarded | go_step | go_upon)
      rw [rounds_succ]
      obtain ⟨cN, fN⟩ := HN1ee.out.facts
      obtain ⟨cE, fE⟩ := HE1ee.out.facts
      obtain ⟨cA, fA⟩ := HA1ee.out.facts
      obtain ⟨cG, fG⟩ := HG1ee.out.facts
      obtain ⟨cR, fR⟩ := HR1ee.out.facts
      have hNl := HN1ee.out.lt
      have hEl := HE1ee.out.lt
      have hAl := HA1ee.out.lt
      have hGl := HG1ee.out.lt
      have hRl := HR1ee.out.lt
      go_simp
      repeat (first | go_values | go_skip | go_guarded | go_step | go_upon)
      refine Calls.mono (KU.out _) ?_
      rintro e Wz ⟨rfl, hb⟩
      have HRz := Lib.hid (HR1ee.out.keep hb)
      have HXz := Lib.hid (show Ext w _ from Ext.trans HX1ee.out hb)
      clear hb cN fN cE fE cA fA cG fG cR fR hNl hEl hAl hGl hRl
      obtain ⟨cR, fR⟩ := HRz.out.facts
      have hRl := HRz.out.lt
      go_simp
      repeat (first | go_values | go_skip | go_guarded | go_step | go_upon)
      refine bodyPost_ret (ret_vE2 rfl _ rfl rfl (blk3 HRz.out _ _ _)) rfl ?_
      exact ⟨rfl, below3 (show Below w.heap.size w Wz from HXz.out) (by omega) _ _ _⟩
    · skip
      obtain ⟨cN, fN⟩ := HN1ee.out.facts
      obtain ⟨cE, fE⟩ := HE1ee.out.facts
      obtain ⟨cA, fA⟩ := HA1ee.out.facts
      obtain ⟨cG, fG⟩ := HG1ee.out.facts
      obtain ⟨cR, fR⟩ := HR1ee.out.facts
      have hNl := HN1ee.out.lt
      have hEl := HE1ee.out.lt
      have hAl := HA1ee.out.lt
      have hGl := HG1ee.out.lt
      have hRl := HR1ee.out.lt
      go_simp
      repeat (first | go_values | go_skip | go_guarded | go_step | go_upon)
      refine Calls.mono (KU.out _) ?_
      rintro e Wz ⟨rfl, hb⟩
      have HRz := Lib.hid (HR1ee.out.keep hb)
      have HXz := Lib.hid (show Ext w _ from Ext.trans HX1ee.out hb)
      clear hb cN fN cE fE cA fA cG fG cR fR hNl hEl hAl hGl hRl
      obtain ⟨cR, fR⟩ := HRz.out.facts
      have hRl := HRz.out.lt
      go_simp
      repeat (first | go_values | go_skip | go_guarded | go_step | go_upon)
      refine bodyPost_ret (ret_vE2 rfl _ rfl rfl (blk3 HRz.out _ _ _)) rfl ?_
      exact ⟨rfl, below3 (show Below w.heap.size w Wz from HXz.out) (by omega) _ _ _⟩
end Go.Proofs.YtbdaebjpgdpcnaaGreatDoor
