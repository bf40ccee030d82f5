/-
  AND, OR whose first operand has an error (Env.short, Env.binary).
-/
import Derived.Test.YtbdaebjpgdpcnaaGreatDoorEvalL
import Derived.Test.YtbdaebjpgdpcnaaGreatDoorEvalH
namespace Go.Proofs.YtbdaebjpgdpcnaaGreatDoor
open Go.RowKit Go.Lib
set_option maxRecDepth 100000

set_option maxHeartbeats 16000000 in
theorem short_err (oo : Int) (s u : ByteArray) (n : Int) (g lc : Nat) (x y : N6) (ra : Option Addr) (rn rc : Nat) (aa : Option Addr) (an ac : Nat) (q : Option Addr) (by_ : Int) (w : World)
    (hN : NdAt w g [x, y]) (hX : Ev w (evV ra rn rc aa an ac q by_) x (0, 0, emp) 18) :
    Calls Tryz.prog 130 #[evV ra rn rc aa an ac q by_, ndE 6 oo s u n (some ⟨g, 0, none⟩) 2 lc] w fun e w' => e = .returned (.tuple #[vV 0 0 emp, .int .i64 18]) ∧ Below w.heap.size w w' := by
  have mixed : Tryz.prog.follows .mixedOrders = true := by kernel_rfl
  obtain ⟨xk, xo, xs, xt, xn, xla, xln, xlc⟩ := x
  have HNd := Lib.hid hN
  have HXe := Lib.hid hX
  have KF := Lib.hid (fun W => fits_err 0 0 emp W)
  clear hN hX
  simp only [evV, ndE, Ev, N6.v, vV, emp] at HXe KF ⊢
  obtain ⟨kk, hkk⟩ : ∃ z : Int, z = 6 := ⟨_, rfl⟩
  obtain ⟨ll, hll⟩ : ∃ z : Nat, z = 2 := ⟨_, rfl⟩
  have HE0 := Lib.hid (((Blk.new w #[.slice ra rn rc, .slice aa an ac, .pointer q, .int .i64 by_] 47 rfl).alloc (.cells #[.int .i64 kk, .int .i64 oo, .string s, .string u, .int .i64 n, .slice (some ⟨g, 0, none⟩) ll lc] 38)).alloc (.cells #[.int .i64 0, .int .i64 0, .string ⟨#[]⟩] 23))
  have HN0 := Lib.hid ((Blk.new (w.alloc (.cells #[.slice ra rn rc, .slice aa an ac, .pointer q, .int .i64 by_] 47)) #[.int .i64 kk, .int .i64 oo, .string s, .string u, .int .i64 n, .slice (some ⟨g, 0, none⟩) ll lc] 38 (n := w.heap.size + 1) (by simp)).alloc (.cells #[.int .i64 0, .int .i64 0, .string ⟨#[]⟩] 23))
  have HR0 := Lib.hid (Blk.new ((w.alloc (.cells #[.slice ra rn rc, .slice aa an ac, .pointer q, .int .i64 by_] 47)).alloc (.cells #[.int .i64 kk, .int .i64 oo, .string s, .string u, .int .i64 n, .slice (some ⟨g, 0, none⟩) ll lc] 38)) #[.int .i64 0, .int .i64 0, .string ⟨#[]⟩] 23 (n := w.heap.size + 1 + 1) (by simp))
  have HX0 := Lib.hid (show Below w.heap.size w (((w.alloc (.cells #[.slice ra rn rc, .slice aa an ac, .pointer q, .int .i64 by_] 47)).alloc (.cells #[.int .i64 kk, .int .i64 oo, .string s, .string u, .int .i64 n, .slice (some ⟨g, 0, none⟩) ll lc] 38)).alloc (.cells #[.int .i64 0, .int .i64 0, .string ⟨#[]⟩] 23)) by go_grown)
  subst hkk hll
  go_enter Tryz.func130, Tryz.ntmps130
  go_wp2_with fail
  generalize (((w.alloc (.cells #[.slice ra rn rc, .slice aa an ac, .pointer q, .int .i64 by_] 47)).alloc (.cells #[.int .i64 6, .int .i64 oo, .string s, .string u, .int .i64 n, .slice (some ⟨g, 0, none⟩) 2 lc] 38)).alloc (.cells #[.int .i64 0, .int .i64 0, .string ⟨#[]⟩] 23)) = W0 at HE0 HN0 HR0 HX0 ⊢
  have HF0 := Lib.hid (show ∀ W, LeW (W0.heap.size ≤ ·) #[.int .i64 0, .int .i64 0, .string ⟨#[]⟩] W0 W → (∀ j, W.cell? ⟨w.heap.size + 1, j, none⟩ = (#[.int .i64 6, .int .i64 oo, .string s, .string u, .int .i64 n, .slice (some ⟨g, 0, none⟩) 2 lc] : Array Value)[j]?) ∧ (∀ j, W.cell? ⟨w.heap.size, j, none⟩ = (#[.slice ra rn rc, .slice aa an ac, .pointer q, .int .i64 by_] : Array Value)[j]?) ∧ W.cell? ⟨g, 0, none⟩ = some (.int .i64 xk) ∧ W.cell? ⟨g, 1, none⟩ = some (.int .i64 xo) ∧ W.cell? ⟨g, 2, none⟩ = some (.string xs) ∧ W.cell? ⟨g, 3, none⟩ = some (.string xt) ∧ W.cell? ⟨g, 4, none⟩ = some (.int .i64 xn) ∧ W.cell? ⟨g, 5, none⟩ = some (.slice xla xln xlc) from
    fun W hW => by
      have hN := HNd.out.ext (show Ext w W0 from HX0.out)
      have hc := fun o => cell_same (hW.old g hN.1 (Nat.not_le.2 hN.1)) o
      obtain ⟨q0, q1, q2, q3, q4, q5⟩ := hN.2 0 _ rfl
      exact ⟨(hW.blk HN0.out (Nat.not_le.2 HN0.out.lt)).cell, (hW.blk HE0.out (Nat.not_le.2 HE0.out.lt)).cell, (hc _).trans q0, (hc _).trans q1, (hc _).trans q2, (hc _).trans q3, (hc _).trans q4, (hc _).trans q5⟩)
  refine wp_parZG (leW (W0.heap.size ≤ ·) #[.int .i64 0, .int .i64 0, .string ⟨#[]⟩]) [0, 1, 2, 3, 4, 5, 6, 7, 8, 9, 10, 11] 12 12 (fun
      | 0 => fun _ v _ => v = .pointer (some ⟨w.heap.size + 1, 5, none⟩)
      | 1 => fun _ v _ => v = .slice (some ⟨g, 0, none⟩) 2 lc
      | 2 => fun _ v _ => v = .pointer (some ⟨g, 0, none⟩)
      | 3 => fun _ v _ => v = .agg #[.int .i64 xk, .int .i64 xo, .string xs, .string xt, .int .i64 xn, .slice xla xln xlc]
      | 4 => fun _ v _ => v = .agg #[.slice ra rn rc, .slice aa an ac, .pointer q, .int .i64 by_]
      | 5 => fun _ v _ => v = .tuple #[.agg #[.int .i64 0, .int .i64 0, .string ⟨#[]⟩], .int .i64 18]
      | 6 => fun _ v _ => v = .tuple #[.agg #[.int .i64 0, .int .i64 0, .string ⟨#[]⟩], .int .i64 18]
      | 7 => fun _ v _ => v = .agg #[.int .i64 0, .int .i64 0, .string ⟨#[]⟩]
      | 8 => fun _ v _ => v = .int .i64 18
      | 9 => fun _ => newVa W0.heap.size
      | 10 => storedV W0.heap.size #[.int .i64 0, .int .i64 0, .string ⟨#[]⟩]
      | 11 => fun _ v _ => v = .int .i64 18
      | _ => fun _ _ _ => True) (fun
      | _ => undef) (by kernel_rfl) (by kernel_rfl) (by kernel_rfl) ?_ ?_ ?_
  · simp (maxSteps := 20000000) only [permL, permOp, List.filterMap_cons, List.filterMap_nil, List.getElem?_cons_succ, List.getElem?_cons_zero, Option.map_some, Option.map_none, List.take_succ_cons, List.take_zero, ParAllG, Act.put, List.setIfInBounds_toArray, List.set_cons_succ, List.set_cons_zero]
    refine ⟨?_, ?_, ?_, ?_, ?_, ?_, ?_, ?_, ?_, ?_, ?_, ?_, trivial⟩
    · intro vals W hx hd
      have hW := HF0.out W hx
      simp [PDepsG, pdeps, Region.binds, List.idxOf_cons] at hd
      first
        | refine ParObG.plain rfl ?_
        | refine ParObG.wanted (by simp [Region.wanted, yielded, hd]) ?_
      go_simp
      exact ParPostG.same (leW (W0.heap.size ≤ ·) #[.int .i64 0, .int .i64 0, .string ⟨#[]⟩]) fun _ _ => rfl
    · intro vals W hx hd
      have hW := HF0.out W hx
      simp [PDepsG, pdeps, Region.binds, List.idxOf_cons] at hd
      first
        | refine ParObG.plain rfl ?_
        | refine ParObG.wanted (by simp [Region.wanted, yielded, hd]) ?_
      go_simp
      exact ParPostG.same (leW (W0.heap.size ≤ ·) #[.int .i64 0, .int .i64 0, .string ⟨#[]⟩]) fun _ _ => rfl
    · intro vals W hx hd
      have hW := HF0.out W hx
      simp [PDepsG, pdeps, Region.binds, List.idxOf_cons] at hd
      first
        | refine ParObG.plain rfl ?_
        | refine ParObG.wanted (by simp [Region.wanted, yielded, hd]) ?_
      go_simp
      exact ParPostG.same (leW (W0.heap.size ≤ ·) #[.int .i64 0, .int .i64 0, .string ⟨#[]⟩]) fun _ _ => rfl
    · intro vals W hx hd
      have hW := HF0.out W hx
      simp [PDepsG, pdeps, Region.binds, List.idxOf_cons] at hd
      first
        | refine ParObG.plain rfl ?_
        | refine ParObG.wanted (by simp [Region.wanted, yielded, hd]) ?_
      go_simp
      exact ParPostG.same (leW (W0.heap.size ≤ ·) #[.int .i64 0, .int .i64 0, .string ⟨#[]⟩]) fun _ _ => rfl
    · intro vals W hx hd
      have hW := HF0.out W hx
      simp [PDepsG, pdeps, Region.binds, List.idxOf_cons] at hd
      first
        | refine ParObG.plain rfl ?_
        | refine ParObG.wanted (by simp [Region.wanted, yielded, hd]) ?_
      go_simp
      exact ParPostG.same (leW (W0.heap.size ≤ ·) #[.int .i64 0, .int .i64 0, .string ⟨#[]⟩]) fun _ _ => rfl
    · intro vals W hx hd
      have hW := HF0.out W hx
      simp [PDepsG, pdeps, Region.binds, List.idxOf_cons] at hd
      first
        | refine ParObG.plain rfl ?_
        | refine ParObG.wanted (by simp [Region.wanted, yielded, hd]) ?_
      go_simp
      refine (HXe.out W (Ext.trans (show Ext w W0 from HX0.out) (LeW.below (Below.refl _ _) hx fun i hi => hi))).mono ?_
      rintro e w9 ⟨rfl, hb9⟩
      exact ⟨_, rfl, LeW.ofExt hb9, fun _ _ => rfl⟩
    · intro vals W hx hd
      have hW := HF0.out W hx
      simp [PDepsG, pdeps, Region.binds, List.idxOf_cons] at hd
      first
        | refine ParObG.plain rfl ?_
        | refine ParObG.wanted (by simp [Region.wanted, yielded, hd]) ?_
      go_simp
      exact ParPostG.same (leW (W0.heap.size ≤ ·) #[.int .i64 0, .int .i64 0, .string ⟨#[]⟩]) fun _ _ => rfl
    · intro vals W hx hd
      have hW := HF0.out W hx
      simp [PDepsG, pdeps, Region.binds, List.idxOf_cons] at hd
      first
        | refine ParObG.plain rfl ?_
        | refine ParObG.wanted (by simp [Region.wanted, yielded, hd]) ?_
      go_simp
      exact ParPostG.same (leW (W0.heap.size ≤ ·) #[.int .i64 0, .int .i64 0, .string ⟨#[]⟩]) fun _ _ => rfl
    · intro vals W hx hd
      have hW := HF0.out W hx
      simp [PDepsG, pdeps, Region.binds, List.idxOf_cons] at hd
      first
        | refine ParObG.plain rfl ?_
        | refine ParObG.wanted (by simp [Region.wanted, yielded, hd]) ?_
      go_simp
      exact ParPostG.same (leW (W0.heap.size ≤ ·) #[.int .i64 0, .int .i64 0, .string ⟨#[]⟩]) fun _ _ => rfl
    · intro vals W hx hd
      have hW := HF0.out W hx
      simp [PDepsG, pdeps, Region.binds, List.idxOf_cons] at hd
      first
        | refine ParObG.plain rfl ?_
        | refine ParObG.wanted (by simp [Region.wanted, yielded, hd]) ?_
      go_simp
      exact ⟨LeW.ofExt ((Ext.refl _).alloc _), fun w3 h3 => by
        obtain ⟨cs, h4, h5⟩ := h3.row _ _ (Blk.new W #[.int .i64 0, .int .i64 0, .string ⟨#[]⟩] 23 rfl) rfl
        exact ⟨_, cs, rfl, hx.size, h4, h5⟩⟩
    · intro vals W hx hd
      have hW := HF0.out W hx
      simp [PDepsG, pdeps, Region.binds, List.idxOf_cons] at hd
      first
        | refine ParObG.plain rfl ?_
        | refine ParObG.wanted (by simp [Region.wanted, yielded, hd]) ?_
      obtain ⟨⟨gc, old, hgv, hge, hgb, hgs⟩, hcv⟩ := hd
      refine yields_storeV (cs := #[.int .i64 0, .int .i64 0, .string ⟨#[]⟩]) rfl (by simpa [Act.eval] using hgv) (by simp [Act.eval, hcv]) hgb hgs rfl (by simp [Value.oneCell']) ?_
      exact ⟨LeW.setRow hgb hge rfl, fun w10 h10 => ⟨gc, by simp [dv, ldeps, pdeps, Region.binds, List.idxOf_cons, hgv], hge, h10.keep gc (setRow_heap W gc old _ _ _ hgb)⟩⟩
    · intro vals W hx hd
      have hW := HF0.out W hx
      simp [PDepsG, pdeps, Region.binds, List.idxOf_cons] at hd
      first
        | refine ParObG.plain rfl ?_
        | refine ParObG.wanted (by simp [Region.wanted, yielded, hd]) ?_
      go_simp
      exact ParPostG.same (leW (W0.heap.size ≤ ·) #[.int .i64 0, .int .i64 0, .string ⟨#[]⟩]) fun _ _ => rfl
  · simp (maxSteps := 20000000) only [permL, permOp, List.filterMap_cons, List.filterMap_nil, List.getElem?_cons_succ, List.getElem?_cons_zero, Option.map_some, Option.map_none, List.drop_succ_cons, List.drop_zero, List.take_succ_cons, List.take_zero, Nat.reduceSub, ZAll, ParEnd, Act.put, List.setIfInBounds_toArray, List.set_cons_succ, List.set_cons_zero]
  intro vals W hx hf hz
  simp (maxSteps := 20000000) only [permL, permOp, List.filterMap_cons, List.filterMap_nil, List.getElem?_cons_succ, List.getElem?_cons_zero, Option.map_some, Option.map_none, ParFactsG, List.take_succ_cons, List.take_zero, and_true, Nat.reduceAdd] at hf
  obtain ⟨f0, f1, f2, f3, f4, f5, f6, f7, f8, f9, f10, f11⟩ := hf
  clear hz
  simp (maxSteps := 20000000) only [permL, permOp, List.filterMap_cons, List.filterMap_nil, List.getElem?_cons_succ, List.getElem?_cons_zero, Option.map_some, Option.map_none, List.drop_succ_cons, List.drop_zero, List.take_succ_cons, List.take_zero, Nat.reduceSub, ParEnd, ZTail, Act.put, List.setIfInBounds_toArray, List.set_cons_succ, List.set_cons_zero, Nat.reduceAdd, f0, f1, f2, f3, f4, f5, f6, f7, f8, f11]
  clear f0 f1 f2 f3 f4 f5 f6 f7 f8 f11
  obtain ⟨gA, hds, hgA, hbA⟩ := f10
  simp [dv, ldeps, pdeps, Region.binds, List.idxOf_cons] at hds
  have hxE : Ext W0 W := LeW.below (Below.refl _ _) hx fun i hi => hi
  rw [hds]
  have HA1 := Lib.hid hbA
  have HR1 := Lib.hid (HR0.out.keep hxE)
  have HX1 := Lib.hid (show Below w.heap.size w W from Ext.trans HX0.out hxE)
  clear hx hxE HF0 f9 hds hbA hgA HE0 HN0 HR0 HX0
  obtain ⟨cA, fA⟩ := HA1.out.facts
  have hAl := HA1.out.lt
  go_simp
  repeat (first | go_values | go_skip | go_guarded | go_step | go_upon)
  refine Calls.mono (KF.out _) ?_
  rintro e W2 ⟨rfl, hb⟩
  have HR2 := Lib.hid (HR1.out.keep hb)
  have HX2 := Lib.hid (show Below w.heap.size w W2 from HX1.out.trans (hb.mono HX1.out.size))
  clear hb cA fA hAl
  obtain ⟨cR, fR⟩ := HR2.out.facts
  have hRl := HR2.out.lt
  go_simp
  repeat (first | go_values | go_skip | go_guarded | go_step | go_upon)
  refine bodyPost_ret (ret_vE2 rfl _ rfl rfl (blk3 HR2.out _ _ _)) rfl ?_
  exact ⟨rfl, below3 HX2.out (by omega) _ _ _⟩
end Go.Proofs.YtbdaebjpgdpcnaaGreatDoor
