/-
  A division by nought (Env.binary).
-/
import Derived.Test.YtbdaebjpgdpcnaaGreatDoorEvalN
namespace Go.Proofs.YtbdaebjpgdpcnaaGreatDoor
open Go.RowKit Go.Lib
set_option maxRecDepth 100000

set_option maxHeartbeats 8000000 in
theorem binary_div (u : ByteArray) (n : Int) (g lc : Nat) (x y : N6) (ra : Option Addr) (rn rc : Nat) (aa : Option Addr) (an ac : Nat) (q : Option Addr) (by_ : Int) (w : World)
    (hN : NdAt w g [x, y]) (hX : Ev w (evV ra rn rc aa an ac q by_) x (2, 1, emp) 0) (hY : Ev w (evV ra rn rc aa an ac q by_) y (2, 0, emp) 0) :
    Calls Tryz.prog 75 #[evV ra rn rc aa an ac q by_, ndE 6 10 ⟨#[]⟩ u n (some ⟨g, 0, none⟩) 2 lc] w fun e w' => e = .returned (.tuple #[vV 0 0 emp, .int .i64 18]) ∧ Below w.heap.size w w' := by
  have mixed : Tryz.prog.follows .mixedOrders = true := by kernel_rfl
  have KO := Lib.hid (fun W (hW : Ext w W) => operands_any 6 10 ⟨#[]⟩ u n g lc [x, y] [((2, 1, emp) : Int × Int × ByteArray), ((2, 0, emp) : Int × Int × ByteArray)] 2 2 ra rn rc aa an ac q by_ W (hN.ext hW) rfl (fun i z v hy hv => by
    have hi : i = 0 ∨ i = 1 := by have := (List.getElem?_eq_some_iff.1 hy).1; simp at this; omega
    rcases hi with rfl | rfl
    · obtain rfl : x = z := by simpa using hy
      obtain rfl : ((2, 1, emp) : Int × Int × ByteArray) = v := by simpa using hv
      exact hX.ext hW
    · obtain rfl : y = z := by simpa using hy
      obtain rfl : ((2, 0, emp) : Int × Int × ByteArray) = v := by simpa using hv
      exact hY.ext hW) (by simp) (by simp) (by simp) (by simp))
  have KT := Lib.hid (fun W => castdiv by_ W)
  have KF := Lib.hid (fun W => fits_err 0 0 emp W)
  simp only [evV, ndE, vV, List.length_cons, List.length_nil, emp] at KO KT KF ⊢
  have hk1 : ((2 : Nat) : Int) = 2 := rfl
  rw [show (0 + 1 + 1 : Nat) = 2 from rfl, hk1] at KO
  clear hk1 hN hX hY
  obtain ⟨oo, hoo⟩ : ∃ z : Int, z = 10 := ⟨_, rfl⟩
  obtain ⟨kk, hkk⟩ : ∃ z : Int, z = 6 := ⟨_, rfl⟩
  obtain ⟨ll, hll⟩ : ∃ z : Nat, z = 2 := ⟨_, rfl⟩
  obtain ⟨s, hss⟩ : ∃ z : ByteArray, z = ⟨#[]⟩ := ⟨_, rfl⟩
  have HE0 := Lib.hid (((Blk.new w #[.slice ra rn rc, .slice aa an ac, .pointer q, .int .i64 by_] 47 rfl).alloc (.cells #[.int .i64 kk, .int .i64 oo, .string s, .string u, .int .i64 n, .slice (some ⟨g, 0, none⟩) ll lc] 38)).alloc (.cells #[.int .i64 0, .int .i64 0, .string ⟨#[]⟩] 23))
  have HN0 := Lib.hid ((Blk.new (w.alloc (.cells #[.slice ra rn rc, .slice aa an ac, .pointer q, .int .i64 by_] 47)) #[.int .i64 kk, .int .i64 oo, .string s, .string u, .int .i64 n, .slice (some ⟨g, 0, none⟩) ll lc] 38 (n := w.heap.size + 1) (by simp)).alloc (.cells #[.int .i64 0, .int .i64 0, .string ⟨#[]⟩] 23))
  have HR0 := Lib.hid (Blk.new ((w.alloc (.cells #[.slice ra rn rc, .slice aa an ac, .pointer q, .int .i64 by_] 47)).alloc (.cells #[.int .i64 kk, .int .i64 oo, .string s, .string u, .int .i64 n, .slice (some ⟨g, 0, none⟩) ll lc] 38)) #[.int .i64 0, .int .i64 0, .string ⟨#[]⟩] 23 (n := w.heap.size + 1 + 1) (by simp))
  have HX0 := Lib.hid (show Below w.heap.size w (((w.alloc (.cells #[.slice ra rn rc, .slice aa an ac, .pointer q, .int .i64 by_] 47)).alloc (.cells #[.int .i64 kk, .int .i64 oo, .string s, .string u, .int .i64 n, .slice (some ⟨g, 0, none⟩) ll lc] 38)).alloc (.cells #[.int .i64 0, .int .i64 0, .string ⟨#[]⟩] 23)) by go_grown)
  subst hkk hll hss hoo
  go_enter Tryz.func75, Tryz.ntmps75
  go_wp2_with fail
  generalize (((w.alloc (.cells #[.slice ra rn rc, .slice aa an ac, .pointer q, .int .i64 by_] 47)).alloc (.cells #[.int .i64 6, .int .i64 10, .string ⟨#[]⟩, .string u, .int .i64 n, .slice (some ⟨g, 0, none⟩) 2 lc] 38)).alloc (.cells #[.int .i64 0, .int .i64 0, .string ⟨#[]⟩] 23)) = W0 at HE0 HN0 HR0 HX0 ⊢
  refine Calls.mono (KO.out W0 HX0.out) ?_
  rintro e w1 ⟨⟨l, rfl, hl⟩, hb1⟩
  have HE1 := Lib.hid (HE0.out.keep hb1)
  have HN1 := Lib.hid (HN0.out.keep hb1)
  have HR1 := Lib.hid (HR0.out.keep hb1)
  have HX1 := Lib.hid (show Below w.heap.size w w1 from HX0.out.trans (hb1.mono HX0.out.size))
  obtain ⟨gv, cv, rfl, hge, hgv, hcv⟩ := hl
  obtain ⟨v0, v1, v2⟩ := hcv 0 _ rfl
  obtain ⟨v3, v4, v5⟩ := hcv 1 _ rfl
  have hgvR : gv ≠ w.heap.size + 1 + 1 := by have := HR0.out.lt; omega
  have HV0 := Lib.hid (show w1.cell? ⟨gv, 0, none⟩ = some (.int .i64 2) from v0)
  have HV1 := Lib.hid (show w1.cell? ⟨gv, 1, none⟩ = some (.int .i64 1) from v1)
  have HV2 := Lib.hid (show w1.cell? ⟨gv, 2, none⟩ = some (.string ⟨#[]⟩) from v2)
  have HV3 := Lib.hid (show w1.cell? ⟨gv, 3, none⟩ = some (.int .i64 2) from v3)
  have HV4 := Lib.hid (show w1.cell? ⟨gv, 4, none⟩ = some (.int .i64 0) from v4)
  have HV5 := Lib.hid (show w1.cell? ⟨gv, 5, none⟩ = some (.string ⟨#[]⟩) from v5)
  clear hb1 hcv HE0 HN0 HR0 HX0 KO v0 v1 v2 v3 v4 v5
  simp only [List.length_cons, List.length_nil]
  rw [show (0 + 1 + 1 : Nat) = 2 from rfl]
  obtain ⟨cn, fn⟩ := HN1.out.facts
  have hnl := HN1.out.lt
  go_simp
  repeat (first | go_values | go_skip | go_guarded | go_step | go_upon)
  clear cn fn hnl
  have HF := Lib.hid (show ∀ W, LeW (· = w.heap.size + 1 + 1) #[.int .i64 0, .int .i64 0, .string ⟨#[]⟩] w1 W → (∀ j, W.cell? ⟨w.heap.size + 1, j, none⟩ = (#[.int .i64 6, .int .i64 10, .string ⟨#[]⟩, .string u, .int .i64 n, .slice (some ⟨g, 0, none⟩) 2 lc] : Array Value)[j]?) ∧ (∀ j, W.cell? ⟨w.heap.size, j, none⟩ = (#[.slice ra rn rc, .slice aa an ac, .pointer q, .int .i64 by_] : Array Value)[j]?) ∧ W.cell? ⟨gv, 0, none⟩ = some (.int .i64 2) ∧ W.cell? ⟨gv, 1, none⟩ = some (.int .i64 1) ∧ W.cell? ⟨gv, 2, none⟩ = some (.string ⟨#[]⟩) ∧ W.cell? ⟨gv, 3, none⟩ = some (.int .i64 2) ∧ W.cell? ⟨gv, 4, none⟩ = some (.int .i64 0) ∧ W.cell? ⟨gv, 5, none⟩ = some (.string ⟨#[]⟩) from
    fun W hW => by
      have hc := fun o => cell_same (hW.old gv hgv hgvR) o
      exact ⟨(hW.blk HN1.out (by omega)).cell, (hW.blk HE1.out (by omega)).cell, (hc 0).trans HV0.out, (hc 1).trans HV1.out, (hc 2).trans HV2.out, (hc 3).trans HV3.out, (hc 4).trans HV4.out, (hc 5).trans HV5.out⟩)
  refine wp_parZG (leW (· = w.heap.size + 1 + 1) #[.int .i64 0, .int .i64 0, .string ⟨#[]⟩]) [0, 1, 2, 3, 4, 5, 6, 7, 8, 9, 10, 11, 12, 13, 14, 15, 16, 17] 18 18 (fun
      | 0 => fun _ v _ => v = .pointer (some ⟨w.heap.size + 1, 1, none⟩)
      | 1 => fun _ v _ => v = .int .i64 10
      | 2 => fun _ v _ => v = .slice (some ⟨gv, 0, none⟩) 2 cv
      | 3 => fun _ v _ => v = .pointer (some ⟨gv, 0, none⟩)
      | 4 => fun _ v _ => v = .agg #[.int .i64 2, .int .i64 1, .string ⟨#[]⟩]
      | 5 => fun _ v _ => v = .slice (some ⟨gv, 0, none⟩) 2 cv
      | 6 => fun _ v _ => v = .pointer (some ⟨gv, 3, none⟩)
      | 7 => fun _ v _ => v = .agg #[.int .i64 2, .int .i64 0, .string ⟨#[]⟩]
      | 8 => fun _ v _ => v = .pointer (some ⟨w.heap.size, 3, none⟩)
      | 9 => fun _ v _ => v = .int .i64 by_
      | 10 => fun _ v _ => v = .tuple #[.agg #[.int .i64 0, .int .i64 0, .string ⟨#[]⟩], .int .i64 18]
      | 11 => fun _ v _ => v = .agg #[.int .i64 0, .int .i64 0, .string ⟨#[]⟩]
      | 12 => fun _ v _ => v = .int .i64 18
      | 13 => fun _ v _ => v = .tuple #[.agg #[.int .i64 0, .int .i64 0, .string ⟨#[]⟩], .int .i64 18]
      | 14 => fun _ v _ => v = .agg #[.int .i64 0, .int .i64 0, .string ⟨#[]⟩]
      | 15 => fun _ v _ => v = .int .i64 18
      | 16 => fun _ => filledV (w.heap.size + 1 + 1) #[.int .i64 0, .int .i64 0, .string ⟨#[]⟩]
      | 17 => fun _ v _ => v = .int .i64 18
      | _ => fun _ _ _ => True) (fun
      | _ => undef) (by kernel_rfl) (by kernel_rfl) (by kernel_rfl) ?_ ?_ ?_
  · simp (maxSteps := 20000000) only [permL, permOp, List.filterMap_cons, List.filterMap_nil, List.getElem?_cons_succ, List.getElem?_cons_zero, Option.map_some, Option.map_none, List.take_succ_cons, List.take_zero, ParAllG, Act.put, List.setIfInBounds_toArray, List.set_cons_succ, List.set_cons_zero]
    refine ⟨?_, ?_, ?_, ?_, ?_, ?_, ?_, ?_, ?_, ?_, ?_, ?_, ?_, ?_, ?_, ?_, ?_, ?_, trivial⟩
    · intro vals W hx hd
      have hW := HF.out W hx
      simp [PDepsG, pdeps, Region.binds, List.idxOf_cons] at hd
      first
        | refine ParObG.plain rfl ?_
        | refine ParObG.wanted (by simp [Region.wanted, yielded, hd]) ?_
      go_simp
      exact ParPostG.same (leW (· = w.heap.size + 1 + 1) #[.int .i64 0, .int .i64 0, .string ⟨#[]⟩]) fun _ _ => rfl
    · intro vals W hx hd
      have hW := HF.out W hx
      simp [PDepsG, pdeps, Region.binds, List.idxOf_cons] at hd
      first
        | refine ParObG.plain rfl ?_
        | refine ParObG.wanted (by simp [Region.wanted, yielded, hd]) ?_
      go_simp
      exact ParPostG.same (leW (· = w.heap.size + 1 + 1) #[.int .i64 0, .int .i64 0, .string ⟨#[]⟩]) fun _ _ => rfl
    · intro vals W hx hd
      have hW := HF.out W hx
      simp [PDepsG, pdeps, Region.binds, List.idxOf_cons] at hd
      first
        | refine ParObG.plain rfl ?_
        | refine ParObG.wanted (by simp [Region.wanted, yielded, hd]) ?_
      go_simp
      exact ParPostG.same (leW (· = w.heap.size + 1 + 1) #[.int .i64 0, .int .i64 0, .string ⟨#[]⟩]) fun _ _ => rfl
    · intro vals W hx hd
      have hW := HF.out W hx
      simp [PDepsG, pdeps, Region.binds, List.idxOf_cons] at hd
      first
        | refine ParObG.plain rfl ?_
        | refine ParObG.wanted (by simp [Region.wanted, yielded, hd]) ?_
      go_simp
      exact ParPostG.same (leW (· = w.heap.size + 1 + 1) #[.int .i64 0, .int .i64 0, .string ⟨#[]⟩]) fun _ _ => rfl
    · intro vals W hx hd
      have hW := HF.out W hx
      simp [PDepsG, pdeps, Region.binds, List.idxOf_cons] at hd
      first
        | refine ParObG.plain rfl ?_
        | refine ParObG.wanted (by simp [Region.wanted, yielded, hd]) ?_
      go_simp
      exact ParPostG.same (leW (· = w.heap.size + 1 + 1) #[.int .i64 0, .int .i64 0, .string ⟨#[]⟩]) fun _ _ => rfl
    · intro vals W hx hd
      have hW := HF.out W hx
      simp [PDepsG, pdeps, Region.binds, List.idxOf_cons] at hd
      first
        | refine ParObG.plain rfl ?_
        | refine ParObG.wanted (by simp [Region.wanted, yielded, hd]) ?_
      go_simp
      exact ParPostG.same (leW (· = w.heap.size + 1 + 1) #[.int .i64 0, .int .i64 0, .string ⟨#[]⟩]) fun _ _ => rfl
    · intro vals W hx hd
      have hW := HF.out W hx
      simp [PDepsG, pdeps, Region.binds, List.idxOf_cons] at hd
      first
        | refine ParObG.plain rfl ?_
        | refine ParObG.wanted (by simp [Region.wanted, yielded, hd]) ?_
      go_simp
      exact ParPostG.same (leW (· = w.heap.size + 1 + 1) #[.int .i64 0, .int .i64 0, .string ⟨#[]⟩]) fun _ _ => rfl
    · intro vals W hx hd
      have hW := HF.out W hx
      simp [PDepsG, pdeps, Region.binds, List.idxOf_cons] at hd
      first
        | refine ParObG.plain rfl ?_
        | refine ParObG.wanted (by simp [Region.wanted, yielded, hd]) ?_
      go_simp
      exact ParPostG.same (leW (· = w.heap.size + 1 + 1) #[.int .i64 0, .int .i64 0, .string ⟨#[]⟩]) fun _ _ => rfl
    · intro vals W hx hd
      have hW := HF.out W hx
      simp [PDepsG, pdeps, Region.binds, List.idxOf_cons] at hd
      first
        | refine ParObG.plain rfl ?_
        | refine ParObG.wanted (by simp [Region.wanted, yielded, hd]) ?_
      go_simp
      exact ParPostG.same (leW (· = w.heap.size + 1 + 1) #[.int .i64 0, .int .i64 0, .string ⟨#[]⟩]) fun _ _ => rfl
    · intro vals W hx hd
      have hW := HF.out W hx
      simp [PDepsG, pdeps, Region.binds, List.idxOf_cons] at hd
      first
        | refine ParObG.plain rfl ?_
        | refine ParObG.wanted (by simp [Region.wanted, yielded, hd]) ?_
      go_simp
      exact ParPostG.same (leW (· = w.heap.size + 1 + 1) #[.int .i64 0, .int .i64 0, .string ⟨#[]⟩]) fun _ _ => rfl
    · intro vals W hx hd
      have hW := HF.out W hx
      simp [PDepsG, pdeps, Region.binds, List.idxOf_cons] at hd
      first
        | refine ParObG.plain rfl ?_
        | refine ParObG.wanted (by simp [Region.wanted, yielded, hd]) ?_
      go_simp
      refine (KT.out W).mono ?_
      rintro e w9 ⟨rfl, hb9⟩
      exact ⟨_, rfl, LeW.ofExt hb9, fun _ _ => rfl⟩
    · intro vals W hx hd
      have hW := HF.out W hx
      simp [PDepsG, pdeps, Region.binds, List.idxOf_cons] at hd
      first
        | refine ParObG.plain rfl ?_
        | refine ParObG.wanted (by simp [Region.wanted, yielded, hd]) ?_
      go_simp
      exact ParPostG.same (leW (· = w.heap.size + 1 + 1) #[.int .i64 0, .int .i64 0, .string ⟨#[]⟩]) fun _ _ => rfl
    · intro vals W hx hd
      have hW := HF.out W hx
      simp [PDepsG, pdeps, Region.binds, List.idxOf_cons] at hd
      first
        | refine ParObG.plain rfl ?_
        | refine ParObG.wanted (by simp [Region.wanted, yielded, hd]) ?_
      go_simp
      exact ParPostG.same (leW (· = w.heap.size + 1 + 1) #[.int .i64 0, .int .i64 0, .string ⟨#[]⟩]) fun _ _ => rfl
    · intro vals W hx hd
      have hW := HF.out W hx
      simp [PDepsG, pdeps, Region.binds, List.idxOf_cons] at hd
      first
        | refine ParObG.plain rfl ?_
        | refine ParObG.wanted (by simp [Region.wanted, yielded, hd]) ?_
      go_simp
      refine (KF.out W).mono ?_
      rintro e w9 ⟨rfl, hb9⟩
      exact ⟨_, rfl, LeW.ofExt hb9, fun _ _ => rfl⟩
    · intro vals W hx hd
      have hW := HF.out W hx
      simp [PDepsG, pdeps, Region.binds, List.idxOf_cons] at hd
      first
        | refine ParObG.plain rfl ?_
        | refine ParObG.wanted (by simp [Region.wanted, yielded, hd]) ?_
      go_simp
      exact ParPostG.same (leW (· = w.heap.size + 1 + 1) #[.int .i64 0, .int .i64 0, .string ⟨#[]⟩]) fun _ _ => rfl
    · intro vals W hx hd
      have hW := HF.out W hx
      simp [PDepsG, pdeps, Region.binds, List.idxOf_cons] at hd
      first
        | refine ParObG.plain rfl ?_
        | refine ParObG.wanted (by simp [Region.wanted, yielded, hd]) ?_
      go_simp
      exact ParPostG.same (leW (· = w.heap.size + 1 + 1) #[.int .i64 0, .int .i64 0, .string ⟨#[]⟩]) fun _ _ => rfl
    · intro vals W hx hd
      have hW := HF.out W hx
      simp [PDepsG, pdeps, Region.binds, List.idxOf_cons] at hd
      first
        | refine ParObG.plain rfl ?_
        | refine ParObG.wanted (by simp [Region.wanted, yielded, hd]) ?_
      obtain ⟨cs, hcs1, hcs2⟩ := hx.row _ _ HR1.out rfl
      refine yields_storeV (cs := #[.int .i64 0, .int .i64 0, .string ⟨#[]⟩]) rfl (by simp [Act.eval]) (by simp [Act.eval, hd]) hcs1 hcs2 rfl (by simp [Value.oneCell']) ?_
      exact ⟨LeW.setRow hcs1 rfl rfl, fun w3 h3 => h3.keep _ (setRow_heap _ _ cs _ _ _ hcs1)⟩
    · intro vals W hx hd
      have hW := HF.out W hx
      simp [PDepsG, pdeps, Region.binds, List.idxOf_cons] at hd
      first
        | refine ParObG.plain rfl ?_
        | refine ParObG.wanted (by simp [Region.wanted, yielded, hd]) ?_
      go_simp
      exact ParPostG.same (leW (· = w.heap.size + 1 + 1) #[.int .i64 0, .int .i64 0, .string ⟨#[]⟩]) fun _ _ => rfl
  · simp (maxSteps := 20000000) only [permL, permOp, List.filterMap_cons, List.filterMap_nil, List.getElem?_cons_succ, List.getElem?_cons_zero, Option.map_some, Option.map_none, List.drop_succ_cons, List.drop_zero, List.take_succ_cons, List.take_zero, Nat.reduceSub, ZAll, ParEnd, Act.put, List.setIfInBounds_toArray, List.set_cons_succ, List.set_cons_zero]
  intro vals W hx hf hz
  simp (maxSteps := 20000000) only [permL, permOp, List.filterMap_cons, List.filterMap_nil, List.getElem?_cons_succ, List.getElem?_cons_zero, Option.map_some, Option.map_none, ParFactsG, List.take_succ_cons, List.take_zero, and_true, Nat.reduceAdd] at hf
  obtain ⟨f0, f1, f2, f3, f4, f5, f6, f7, f8, f9, f10, f11, f12, f13, f14, f15, f16, f17⟩ := hf
  clear hz
  simp (maxSteps := 20000000) only [permL, permOp, List.filterMap_cons, List.filterMap_nil, List.getElem?_cons_succ, List.getElem?_cons_zero, Option.map_some, Option.map_none, List.drop_succ_cons, List.drop_zero, List.take_succ_cons, List.take_zero, Nat.reduceSub, ParEnd, ZTail, Act.put, List.setIfInBounds_toArray, List.set_cons_succ, List.set_cons_zero, Nat.reduceAdd, f0, f1, f2, f3, f4, f5, f6, f7, f8, f9, f10, f11, f12, f13, f14, f15, f17]
  clear f0 f1 f2 f3 f4 f5 f6 f7 f8 f9 f10 f11 f12 f13 f14 f15 f17
  have HX2 := Lib.hid (LeW.below HX1.out hx fun i hi => by omega)
  have HR2 := Lib.hid (show Blk W (w.heap.size + 1 + 1) #[.int .i64 0, .int .i64 0, .string ⟨#[]⟩] 23 from f16)
  clear hx HF f16
  go_simp
  repeat (first | go_values | go_skip | go_guarded | go_step | go_upon)
  refine bodyPost_ret (ret_vE2 rfl _ rfl rfl HR2.out) rfl ?_
  exact ⟨rfl, HX2.out⟩
end Go.Proofs.YtbdaebjpgdpcnaaGreatDoor
