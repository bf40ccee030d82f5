/-
  OR of truths; how numbers and NULLs stand by an op (logic.Test, eval.fits, Env.order, Env.test).
-/
import Derived.Test.YtbdaebjpgdpcnaaGreatDoorEvalA
namespace Go.Proofs.YtbdaebjpgdpcnaaGreatDoor
open Go.RowKit Go.Lib
set_option maxRecDepth 100000

theorem isT_any (t : Nat) (ht : t < 3) (w : World) : Calls Tryz.prog 140 #[trV t] w fun e w' => e = .returned (.bool (t == 1)) ∧ Below w.heap.size w w' := by
  have KT := Lib.hid (truth_any t ht)
  have hb : ((t : Int) == 1) = (t == 1) := by rw [Bool.eq_iff_iff, beq_iff_eq, beq_iff_eq]; omega
  have HBq := Lib.hid hb
  rw [trV_eq t ht] at KT ⊢
  obtain ⟨z, hz⟩ : ∃ z : Int, z = (t : Int) := ⟨_, rfl⟩
  rw [← hz] at KT HBq
  clear hb hz
  go_enter Tryz.func140, Tryz.ntmps140
  go_wp2_with fail
  refine Calls.mono (KT.out _) ?_
  rintro e w2 ⟨rfl, hb2⟩
  have HX := Lib.hid (show Below w.heap.size w w2 from Below.trans (by go_grown) (hb2.mono (by simp)))
  clear hb2
  go_wp2_with fail
  go_ret
  exact ⟨by rw [HBq.out]; rfl, HX.out⟩
theorem orT_lt (a b : Nat) : orT a b < 3 := notT_lt _
namespace Y
set_option maxHeartbeats 4000000 in
theorem or_any (a b : Nat) (ha : a < 3) (hb : b < 3) (w : World) : Calls Tryz.prog 139 #[trV a, trV b] w fun e w' => e = .returned (trV (orT a b)) ∧ Below w.heap.size w w' := by
  have K1 := Lib.hid (not_any a ha)
  have K2 := Lib.hid (not_any b hb)
  have K3 := Lib.hid (and_any (notT a) (notT b) (notT_lt a) (notT_lt b))
  have K4 := Lib.hid (not_any (andT (notT a) (notT b)) (andT_lt _ _))
  rw [show notT (andT (notT a) (notT b)) = orT a b from rfl] at K4
  rw [trV_eq _ (orT_lt a b), trV_eq a ha, trV_eq b hb]
  rw [trV_eq a ha, trV_eq _ (notT_lt a)] at K1
  rw [trV_eq b hb, trV_eq _ (notT_lt b)] at K2
  rw [trV_eq _ (notT_lt a), trV_eq _ (notT_lt b), trV_eq _ (andT_lt _ _)] at K3
  rw [trV_eq _ (andT_lt _ _), trV_eq _ (orT_lt a b)] at K4
  generalize orT a b = u at K4 ⊢
  generalize andT (notT a) (notT b) = vv at K3 K4
  generalize notT a = c at K1 K3
  generalize notT b = d at K2 K3
  have HA := Lib.hid (((Blk.new w #[.int .i64 (trK a), .int .i64 (trN a), .string ⟨#[]⟩] 23 rfl).alloc (.cells #[.int .i64 (trK b), .int .i64 (trN b), .string ⟨#[]⟩] 23)).alloc (.cells #[.int .i64 0, .int .i64 0, .string ⟨#[]⟩] 23))
  have HB := Lib.hid ((Blk.new (w.alloc (.cells #[.int .i64 (trK a), .int .i64 (trN a), .string ⟨#[]⟩] 23)) #[.int .i64 (trK b), .int .i64 (trN b), .string ⟨#[]⟩] 23 (n := w.heap.size + 1) (by simp)).alloc (.cells #[.int .i64 0, .int .i64 0, .string ⟨#[]⟩] 23))
  have HR := Lib.hid (Blk.new ((w.alloc (.cells #[.int .i64 (trK a), .int .i64 (trN a), .string ⟨#[]⟩] 23)).alloc (.cells #[.int .i64 (trK b), .int .i64 (trN b), .string ⟨#[]⟩] 23)) #[.int .i64 0, .int .i64 0, .string ⟨#[]⟩] 23 (n := w.heap.size + 1 + 1) (by simp))
  have HX := Lib.hid (show Below w.heap.size w (((w.alloc (.cells #[.int .i64 (trK a), .int .i64 (trN a), .string ⟨#[]⟩] 23)).alloc (.cells #[.int .i64 (trK b), .int .i64 (trN b), .string ⟨#[]⟩] 23)).alloc (.cells #[.int .i64 0, .int .i64 0, .string ⟨#[]⟩] 23)) by go_grown)
  go_enter Tryz.func139, Tryz.ntmps139
  go_wp2_with fail
  generalize (((w.alloc (.cells #[.int .i64 (trK a), .int .i64 (trN a), .string ⟨#[]⟩] 23)).alloc (.cells #[.int .i64 (trK b), .int .i64 (trN b), .string ⟨#[]⟩] 23)).alloc (.cells #[.int .i64 0, .int .i64 0, .string ⟨#[]⟩] 23)) = W0 at HA HB HR HX ⊢
  have HF := Lib.hid (show ∀ W, Ext W0 W → (∀ o, W.cell? ⟨w.heap.size, o, none⟩ = #[.int .i64 (trK a), .int .i64 (trN a), .string ⟨#[]⟩][o]?) ∧ (∀ o, W.cell? ⟨w.heap.size + 1, o, none⟩ = #[.int .i64 (trK b), .int .i64 (trN b), .string ⟨#[]⟩][o]?) from fun W hW => ⟨(HA.out.keep hW).cell, (HB.out.keep hW).cell⟩)
  refine wp_parZH [0, 1, 2, 3, 4, 5, 6] 6 6 (fun
      | 0 => fun v _ => v = .agg #[.int .i64 (trK a), .int .i64 (trN a), .string ⟨#[]⟩]
      | 1 => fun v _ => v = .agg #[.int .i64 (trK c), .int .i64 (trN c), .string ⟨#[]⟩]
      | 2 => fun v _ => v = .agg #[.int .i64 (trK b), .int .i64 (trN b), .string ⟨#[]⟩]
      | 3 => fun v _ => v = .agg #[.int .i64 (trK d), .int .i64 (trN d), .string ⟨#[]⟩]
      | 4 => fun v _ => v = .agg #[.int .i64 (trK vv), .int .i64 (trN vv), .string ⟨#[]⟩]
      | 5 => fun v _ => v = .agg #[.int .i64 (trK u), .int .i64 (trN u), .string ⟨#[]⟩]
      | _ => fun _ _ => True) (fun
      | _ => undef) (by kernel_rfl) (by kernel_rfl) (by kernel_rfl) ?_ ?_ ?_
  · simp (maxSteps := 20000000) only [permL, permOp, List.filterMap_cons, List.filterMap_nil, List.getElem?_cons_succ, List.getElem?_cons_zero, Option.map_some, Option.map_none, List.take_succ_cons, List.take_zero, ParAll, Act.put, List.setIfInBounds_toArray, List.set_cons_succ, List.set_cons_zero]
    refine ⟨?_, ?_, ?_, ?_, ?_, ?_, trivial⟩
    · intro vals W hx hd
      have hW := HF.out W hx
      simp [PDeps, pdeps, Region.binds, List.idxOf_cons] at hd
      first
        | refine ParOb.plain rfl ?_
        | refine ParOb.wanted (by simp [Region.wanted, yielded, hd]) ?_
      go_simp
      exact ParPost.same fun _ _ => rfl
    · intro vals W hx hd
      have hW := HF.out W hx
      simp [PDeps, pdeps, Region.binds, List.idxOf_cons] at hd
      first
        | refine ParOb.plain rfl ?_
        | refine ParOb.wanted (by simp [Region.wanted, yielded, hd]) ?_
      go_simp
      refine Calls.mono (K1.out W) ?_
      rintro e w9 ⟨rfl, hb9⟩
      exact ⟨_, rfl, hb9, fun _ _ => rfl⟩
    · intro vals W hx hd
      have hW := HF.out W hx
      simp [PDeps, pdeps, Region.binds, List.idxOf_cons] at hd
      first
        | refine ParOb.plain rfl ?_
        | refine ParOb.wanted (by simp [Region.wanted, yielded, hd]) ?_
      go_simp
      exact ParPost.same fun _ _ => rfl
    · intro vals W hx hd
      have hW := HF.out W hx
      simp [PDeps, pdeps, Region.binds, List.idxOf_cons] at hd
      first
        | refine ParOb.plain rfl ?_
        | refine ParOb.wanted (by simp [Region.wanted, yielded, hd]) ?_
      go_simp
      refine Calls.mono (K2.out W) ?_
      rintro e w9 ⟨rfl, hb9⟩
      exact ⟨_, rfl, hb9, fun _ _ => rfl⟩
    · intro vals W hx hd
      have hW := HF.out W hx
      simp [PDeps, pdeps, Region.binds, List.idxOf_cons] at hd
      first
        | refine ParOb.plain rfl ?_
        | refine ParOb.wanted (by simp [Region.wanted, yielded, hd]) ?_
      go_simp
      refine Calls.mono (K3.out W) ?_
      rintro e w9 ⟨rfl, hb9⟩
      exact ⟨_, rfl, hb9, fun _ _ => rfl⟩
    · intro vals W hx hd
      have hW := HF.out W hx
      simp [PDeps, pdeps, Region.binds, List.idxOf_cons] at hd
      first
        | refine ParOb.plain rfl ?_
        | refine ParOb.wanted (by simp [Region.wanted, yielded, hd]) ?_
      go_simp
      refine Calls.mono (K4.out W) ?_
      rintro e w9 ⟨rfl, hb9⟩
      exact ⟨_, rfl, hb9, fun _ _ => rfl⟩
  · simp (maxSteps := 20000000) only [permL, permOp, List.filterMap_cons, List.filterMap_nil, List.getElem?_cons_succ, List.getElem?_cons_zero, Option.map_some, Option.map_none, List.drop_succ_cons, List.drop_zero, List.take_succ_cons, List.take_zero, Nat.reduceSub, ZAll, ParEnd, Act.put, List.setIfInBounds_toArray, List.set_cons_succ, List.set_cons_zero]
  intro vals W hx hf hz
  simp (maxSteps := 20000000) only [permL, permOp, List.filterMap_cons, List.filterMap_nil, List.getElem?_cons_succ, List.getElem?_cons_zero, Option.map_some, Option.map_none, ParFacts, List.take_succ_cons, List.take_zero, and_true, Nat.reduceAdd] at hf
  obtain ⟨f0, f1, f2, f3, f4, f5⟩ := hf
  clear hz
  simp (maxSteps := 20000000) only [permL, permOp, List.filterMap_cons, List.filterMap_nil, List.getElem?_cons_succ, List.getElem?_cons_zero, Option.map_some, Option.map_none, List.drop_succ_cons, List.drop_zero, List.take_succ_cons, List.take_zero, Nat.reduceSub, ParEnd, ZTail, Act.put, List.setIfInBounds_toArray, List.set_cons_succ, List.set_cons_zero, Nat.reduceAdd, f0, f1, f2, f3, f4, f5]
  clear f0 f1 f2 f3 f4 f5
  have HR1 := Lib.hid (HR.out.keep hx)
  have HX1 := Lib.hid (show Below w.heap.size w W from Below.trans HX.out (hx.mono HX.out.size))
  clear hx HF HA HB HR HX
  generalize hg : w.heap.size + 1 + 1 = R at HR1 ⊢
  have hR : w.heap.size ≤ R := by omega
  clear hg
  obtain ⟨ca, fa⟩ := HR1.out.facts
  have hal := HR1.out.lt
  refine ⟨?_⟩
  go_simp
  repeat (first | go_values | go_skip | go_guarded | go_step | go_upon)
  refine bodyPost_ret (ret_vE rfl _ rfl rfl (blk3 HR1.out _ _ _)) rfl ?_
  exact ⟨rfl, below3 HX1.out hR _ _ _⟩
end Y

/-! ### Comparison -/
def trB (b : Bool) : Nat := if b then 1 else 0
theorem trB_lt (b : Bool) : trB b < 3 := by cases b <;> decide
theorem trB_v (b : Bool) : vV 1 (bN b) emp = trV (trB b) := by cases b <;> rfl
def cmpB (op : Nat) (c : Int) : Bool := if op = 1 then c == 0 else if op = 2 then c != 0 else if op = 3 then decide (c < 0) else if op = 4 then decide (c ≤ 0) else if op = 5 then decide (0 < c) else decide (0 ≤ c)
set_option maxHeartbeats 2000000 in
theorem logictest_any (op : Nat) (c : Int) (w : World) (h1 : 1 ≤ op) (h6 : op ≤ 6) : Calls Tryz.prog 132 #[.int .i64 op, .int .i64 c, .bool true] w fun e w' => e = .returned (trV (trB (cmpB op c))) ∧ Below w.heap.size w w' := by
  have KB := Lib.hid (fun (b : Bool) W => valbool_any b W)
  have h : op = 1 ∨ op = 2 ∨ op = 3 ∨ op = 4 ∨ op = 5 ∨ op = 6 := by omega
  have hcb : ∃ b, b = cmpB op c := ⟨_, rfl⟩
  obtain ⟨b, hb⟩ := hcb
  rw [← hb]
  have HV := Lib.hid (show trV (trB b) = .agg #[.int .i64 1, .int .i64 (bN b), .string ⟨#[]⟩] from (trB_v b).symm)
  simp only [show ∀ b, vV 1 (bN b) emp = .agg #[.int .i64 1, .int .i64 (bN b), .string ⟨#[]⟩] from fun _ => rfl] at KB
  have HR := Lib.hid (Blk.new w #[.int .i64 0, .int .i64 0, .string ⟨#[]⟩] 23 rfl)
  rcases h with rfl | rfl | rfl | rfl | rfl | rfl
  · have hb2 : (c == 0) = b := hb.symm
    have HB2 := Lib.hid hb2
    clear hb hb2 h1 h6
    go_enter Tryz.func132, Tryz.ntmps132
    go_wp2_with fail
    rw [HB2.out]
    refine Calls.mono (KB.out b _) ?_
    rintro e w2 ⟨rfl, hq2⟩
    have HR2 := Lib.hid (HR.out.keep hq2)
    have HX := Lib.hid (show Below w.heap.size w w2 from Below.trans (by go_grown) (hq2.mono (by simp)))
    obtain ⟨ca, fa⟩ := HR2.out.facts
    have hal := HR2.out.lt
    clear hq2
    go_simp
    repeat (first | go_values | go_skip | go_guarded | go_step | go_upon)
    refine bodyPost_ret (ret_vE rfl _ rfl rfl (blk3 HR2.out _ _ _)) rfl ?_
    exact ⟨by rw [HV.out], below3 HX.out (Nat.le_refl _) _ _ _⟩
  · have hb2 : (c != 0) = b := hb.symm
    have HB2 := Lib.hid hb2
    clear hb hb2 h1 h6
    go_enter Tryz.func132, Tryz.ntmps132
    go_wp2_with fail
    rw [HB2.out]
    refine Calls.mono (KB.out b _) ?_
    rintro e w2 ⟨rfl, hq2⟩
    have HR2 := Lib.hid (HR.out.keep hq2)
    have HX := Lib.hid (show Below w.heap.size w w2 from Below.trans (by go_grown) (hq2.mono (by simp)))
    obtain ⟨ca, fa⟩ := HR2.out.facts
    have hal := HR2.out.lt
    clear hq2
    go_simp
    repeat (first | go_values | go_skip | go_guarded | go_step | go_upon)
    refine bodyPost_ret (ret_vE rfl _ rfl rfl (blk3 HR2.out _ _ _)) rfl ?_
    exact ⟨by rw [HV.out], below3 HX.out (Nat.le_refl _) _ _ _⟩
  · have hb2 : decide (c < 0) = b := hb.symm
    have HB2 := Lib.hid hb2
    clear hb hb2 h1 h6
    go_enter Tryz.func132, Tryz.ntmps132
    go_wp2_with fail
    rw [HB2.out]
    refine Calls.mono (KB.out b _) ?_
    rintro e w2 ⟨rfl, hq2⟩
    have HR2 := Lib.hid (HR.out.keep hq2)
    have HX := Lib.hid (show Below w.heap.size w w2 from Below.trans (by go_grown) (hq2.mono (by simp)))
    obtain ⟨ca, fa⟩ := HR2.out.facts
    have hal := HR2.out.lt
    clear hq2
    go_simp
    repeat (first | go_values | go_skip | go_guarded | go_step | go_upon)
    refine bodyPost_ret (ret_vE rfl _ rfl rfl (blk3 HR2.out _ _ _)) rfl ?_
    exact ⟨by rw [HV.out], below3 HX.out (Nat.le_refl _) _ _ _⟩
  · have hb2 : decide (c ≤ 0) = b := hb.symm
    have HB2 := Lib.hid hb2
    clear hb hb2 h1 h6
    go_enter Tryz.func132, Tryz.ntmps132
    go_wp2_with fail
    rw [HB2.out]
    refine Calls.mono (KB.out b _) ?_
    rintro e w2 ⟨rfl, hq2⟩
    have HR2 := Lib.hid (HR.out.keep hq2)
    have HX := Lib.hid (show Below w.heap.size w w2 from Below.trans (by go_grown) (hq2.mono (by simp)))
    obtain ⟨ca, fa⟩ := HR2.out.facts
    have hal := HR2.out.lt
    clear hq2
    go_simp
    repeat (first | go_values | go_skip | go_guarded | go_step | go_upon)
    refine bodyPost_ret (ret_vE rfl _ rfl rfl (blk3 HR2.out _ _ _)) rfl ?_
    exact ⟨by rw [HV.out], below3 HX.out (Nat.le_refl _) _ _ _⟩
  · have hb2 : decide (0 < c) = b := hb.symm
    have HB2 := Lib.hid hb2
    clear hb hb2 h1 h6
    go_enter Tryz.func132, Tryz.ntmps132
    go_wp2_with fail
    rw [HB2.out]
    refine Calls.mono (KB.out b _) ?_
    rintro e w2 ⟨rfl, hq2⟩
    have HR2 := Lib.hid (HR.out.keep hq2)
    have HX := Lib.hid (show Below w.heap.size w w2 from Below.trans (by go_grown) (hq2.mono (by simp)))
    obtain ⟨ca, fa⟩ := HR2.out.facts
    have hal := HR2.out.lt
    clear hq2
    go_simp
    repeat (first | go_values | go_skip | go_guarded | go_step | go_upon)
    refine bodyPost_ret (ret_vE rfl _ rfl rfl (blk3 HR2.out _ _ _)) rfl ?_
    exact ⟨by rw [HV.out], below3 HX.out (Nat.le_refl _) _ _ _⟩
  · have hb2 : decide (0 ≤ c) = b := hb.symm
    have HB2 := Lib.hid hb2
    clear hb hb2 h1 h6
    go_enter Tryz.func132, Tryz.ntmps132
    go_wp2_with fail
    rw [HB2.out]
    refine Calls.mono (KB.out b _) ?_
    rintro e w2 ⟨rfl, hq2⟩
    have HR2 := Lib.hid (HR.out.keep hq2)
    have HX := Lib.hid (show Below w.heap.size w w2 from Below.trans (by go_grown) (hq2.mono (by simp)))
    obtain ⟨ca, fa⟩ := HR2.out.facts
    have hal := HR2.out.lt
    clear hq2
    go_simp
    repeat (first | go_values | go_skip | go_guarded | go_step | go_upon)
    refine bodyPost_ret (ret_vE rfl _ rfl rfl (blk3 HR2.out _ _ _)) rfl ?_
    exact ⟨by rw [HV.out], below3 HX.out (Nat.le_refl _) _ _ _⟩
theorem logictest_none (op c : Int) (w : World) : Calls Tryz.prog 132 #[.int .i64 op, .int .i64 c, .bool false] w fun e w' => e = .returned (trV 2) ∧ Below w.heap.size w w' := by
  have KN := Lib.hid (fun W => valnull_any W)
  rw [show vV 0 0 emp = .agg #[.int .i64 0, .int .i64 0, .string ⟨#[]⟩] from rfl] at KN
  have HR := Lib.hid (Blk.new w #[.int .i64 0, .int .i64 0, .string ⟨#[]⟩] 23 rfl)
  go_enter Tryz.func132, Tryz.ntmps132
  go_wp2_with fail
  refine Calls.mono (KN.out _) ?_
  rintro e w2 ⟨rfl, hq2⟩
  have HR2 := Lib.hid (HR.out.keep hq2)
  have HX := Lib.hid (show Below w.heap.size w w2 from Below.trans (by go_grown) (hq2.mono (by simp)))
  obtain ⟨ca, fa⟩ := HR2.out.facts
  have hal := HR2.out.lt
  clear hq2
  go_simp
  repeat (first | go_values | go_skip | go_guarded | go_step | go_upon)
  refine bodyPost_ret (ret_vE rfl _ rfl rfl (blk3 HR2.out _ _ _)) rfl ?_
  exact ⟨rfl, below3 HX.out (Nat.le_refl _) _ _ _⟩
set_option maxHeartbeats 2000000 in
theorem fits_ok (k n : Int) (s : ByteArray) (w : World) : Calls Tryz.prog 128 #[vV k n s, .int .i64 0] w fun e w' => e = .returned (.tuple #[vV k n s, .int .i64 0]) ∧ Below w.heap.size w w' := by
  rw [show vV k n s = .agg #[.int .i64 k, .int .i64 n, .string s] from rfl]
  have HA := Lib.hid ((Blk.new w #[.int .i64 k, .int .i64 n, .string s] 23 rfl).alloc (.cells #[.int .i64 0, .int .i64 0, .string ⟨#[]⟩] 23))
  have HR := Lib.hid (Blk.new (w.alloc (.cells #[.int .i64 k, .int .i64 n, .string s] 23)) #[.int .i64 0, .int .i64 0, .string ⟨#[]⟩] 23 (n := w.heap.size + 1) (by simp))
  have HX := Lib.hid (show Below w.heap.size w ((w.alloc (.cells #[.int .i64 k, .int .i64 n, .string s] 23)).alloc (.cells #[.int .i64 0, .int .i64 0, .string ⟨#[]⟩] 23)) by go_grown)
  have hal := HR.out.lt
  obtain ⟨ca, fa⟩ := HA.out.facts
  obtain ⟨cr, fr⟩ := HR.out.facts
  go_enter Tryz.func128, Tryz.ntmps128
  repeat (first | go_values | go_skip | go_guarded | go_step | go_upon)
  refine bodyPost_ret (ret_vE2 rfl _ rfl rfl (Blk.new (w.alloc (.cells #[.int .i64 k, .int .i64 n, .string s] 23)) #[.int .i64 k, .int .i64 n, .string s] 23 (n := w.heap.size + 1) (by simp))) rfl ?_
  exact ⟨rfl, by go_grown⟩
theorem ret_cE {t u : Tmp} {fn : Func} (h : fn.results = #[.cell t 58, .tmp u]) (tmps : Array Value) {w : World} {g : Nat} {cs : Array Value} (hc : cs.size = 5) (hp : tmps.getD t undef = .pointer (some ⟨g, 0, none⟩)) (hg : Blk w g cs 58) :
    (results fn tmps).run Tryz.prog w = .ok (.tuple #[.agg cs, tmps.getD u undef]) w := by
  have hp' : tmps[t]?.getD undef = .pointer (some ⟨g, 0, none⟩) := by simpa using hp
  have hr := run_loadVar_row w g 58 58 cs (0, 0) _ hg Tryz.underlying58 rfl (by rw [hc]; kernel_rfl)
  simp [results, h, hp', asAddr, hr]
/-- The surroundings of an expression. -/
def evV (ra : Option Addr) (rn rc : Nat) (aa : Option Addr) (an ac : Nat) (q : Option Addr) (by_ : Int) : Value := .agg #[.slice ra rn rc, .slice aa an ac, .pointer q, .int .i64 by_]
set_option maxHeartbeats 2000000 in
theorem order_none (ra : Option Addr) (rn rc : Nat) (aa : Option Addr) (an ac : Nat) (q : Option Addr) (by_ : Int) (w : World) : Calls Tryz.prog 135 #[evV ra rn rc aa an ac q by_, .string ⟨#[]⟩] w fun e w' => e = .returned (.tuple #[cV 1 0 false false none, .bool true]) ∧ Below w.heap.size w w' := by
  unfold evV
  go_enter Tryz.func135, Tryz.ntmps135
  repeat (first | go_values | go_skip | go_guarded | go_step | go_upon)
  refine bodyPost_ret (ret_cE rfl _ rfl rfl (Blk.new (w.alloc (.cells #[.slice ra rn rc, .slice aa an ac, .pointer q, .int .i64 by_] 47)) #[.int .i64 1, .int .i64 0, .bool false, .bool false, .pointer none] 58 (n := w.heap.size + 1) (by simp))) rfl ?_
  exact ⟨rfl, by go_grown⟩
end Go.Proofs.YtbdaebjpgdpcnaaGreatDoor
