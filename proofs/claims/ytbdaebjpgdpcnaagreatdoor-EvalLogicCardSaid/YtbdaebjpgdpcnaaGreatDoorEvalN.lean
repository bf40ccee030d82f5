/-
  A division by nought (cast.Binary).
-/
import Derived.Test.YtbdaebjpgdpcnaaGreatDoorEvalL
namespace Go.Proofs.YtbdaebjpgdpcnaaGreatDoor
open Go.RowKit Go.Lib
set_option maxRecDepth 100000

def anyV (n : Nat) (_ : Value) (_ : World) : Prop := n = 0
theorem setRow_id {w : World} {g : Nat} {cs : Array Value} {t : TypeId} (h : Blk w g cs t) : w.setRow g cs = w := by
  have hh : (w.setRow g cs).heap = w.heap := by
    apply Array.ext_getElem?
    intro i
    by_cases e : i = g
    · subst e
      exact (setRow_heap w i cs cs t (0, 0) h).trans h.symm
    · exact setRow_other w g i cs e
  have : w.setRow g cs = { w with heap := (w.setRow g cs).heap } := rfl
  rw [this, hh]
theorem intsdiv_nought (w : World) : Calls Tryz.prog 322 #[.int .i64 1, .int .i64 0] w fun e w' => e = .returned (.tuple #[.int .i64 0, .int .i64 18]) ∧ w' = w := by
  go_enter Tryz.func322, Tryz.ntmps322
  go_wp2_with fail
  go_ret2
  exact ⟨rfl, rfl⟩
theorem numbers_div (w : World) : Calls Tryz.prog 221 #[.int .i64 10] w fun e w' => e = .returned (.tuple #[.func (.func 322) #[] #[], .bool true]) ∧ w' = w := by
  go_enter Tryz.func221, Tryz.ntmps221
  go_wp2_with fail
  go_ret2
  exact ⟨rfl, rfl⟩
theorem number_err (n : Int) (w : World) : Calls Tryz.prog 219 #[.int .i64 n, .int .i64 18] w fun e w' => e = .returned (.tuple #[vV 0 0 emp, .int .i64 18]) ∧ Below w.heap.size w w' := by
  have KN := Lib.hid (fun W => valnull_any W)
  simp only [vV, emp] at KN ⊢
  have HR0 := Lib.hid (Blk.new w #[.int .i64 0, .int .i64 0, .string ⟨#[]⟩] 23 rfl)
  go_enter Tryz.func219, Tryz.ntmps219
  go_wp2_with fail
  refine Calls.mono (KN.out _) ?_
  rintro e W1 ⟨rfl, hb⟩
  have HR1 := Lib.hid (HR0.out.keep hb)
  have HX1 := Lib.hid (show Below w.heap.size w W1 from Below.trans (by go_grown) (hb.mono (by simp)))
  clear hb
  obtain ⟨cR, fR⟩ := HR1.out.facts
  have hRl := HR1.out.lt
  go_simp
  repeat (first | go_values | go_skip | go_guarded | go_step | go_upon)
  refine bodyPost_ret (ret_vE2 rfl _ rfl rfl (blk3 HR1.out _ _ _)) rfl ?_
  exact ⟨rfl, below3 HX1.out (Nat.le_refl _) _ _ _⟩
set_option maxHeartbeats 4000000 in
theorem castdiv (by_ : Int) (w : World) : Calls Tryz.prog 134 #[.int .i64 10, vV 2 1 emp, vV 2 0 emp, .int .i64 by_] w fun e w' => e = .returned (.tuple #[vV 0 0 emp, .int .i64 18]) ∧ Below w.heap.size w w' := by
  have mixed : Tryz.prog.follows .mixedOrders = true := by kernel_rfl
  have KA := Lib.hid (fun W => valis_any 2 1 emp W)
  have KB := Lib.hid (fun W => valis_any 2 0 emp W)
  rw [show cK 2 1 emp = 2 by decide +kernel, show cN 2 1 emp = 1 by decide +kernel, show cS 2 1 emp = emp from (o_clean (some 1)).2.2] at KA
  rw [show cK 2 0 emp = 2 by decide +kernel, show cN 2 0 emp = 0 by decide +kernel, show cS 2 0 emp = emp from (o_clean (some 0)).2.2] at KB
  have KE := Lib.hid (fun W => number_err 0 W)
  simp only [vV, emp] at KA KB KE ⊢
  have HA0 := Lib.hid (((Blk.new w #[.int .i64 2, .int .i64 1, .string ⟨#[]⟩] 23 rfl).alloc (.cells #[.int .i64 2, .int .i64 0, .string ⟨#[]⟩] 23)).alloc (.cells #[.int .i64 0, .int .i64 0, .string ⟨#[]⟩] 23))
  have HB0 := Lib.hid ((Blk.new (w.alloc (.cells #[.int .i64 2, .int .i64 1, .string ⟨#[]⟩] 23)) #[.int .i64 2, .int .i64 0, .string ⟨#[]⟩] 23 (n := w.heap.size + 1) (by simp)).alloc (.cells #[.int .i64 0, .int .i64 0, .string ⟨#[]⟩] 23))
  have HR0 := Lib.hid (Blk.new ((w.alloc (.cells #[.int .i64 2, .int .i64 1, .string ⟨#[]⟩] 23)).alloc (.cells #[.int .i64 2, .int .i64 0, .string ⟨#[]⟩] 23)) #[.int .i64 0, .int .i64 0, .string ⟨#[]⟩] 23 (n := w.heap.size + 1 + 1) (by simp))
  have HX0 := Lib.hid (show Below w.heap.size w (((w.alloc (.cells #[.int .i64 2, .int .i64 1, .string ⟨#[]⟩] 23)).alloc (.cells #[.int .i64 2, .int .i64 0, .string ⟨#[]⟩] 23)).alloc (.cells #[.int .i64 0, .int .i64 0, .string ⟨#[]⟩] 23)) by go_grown)
  go_enter Tryz.func134, Tryz.ntmps134
  go_wp2_with fail
  generalize (((w.alloc (.cells #[.int .i64 2, .int .i64 1, .string ⟨#[]⟩] 23)).alloc (.cells #[.int .i64 2, .int .i64 0, .string ⟨#[]⟩] 23)).alloc (.cells #[.int .i64 0, .int .i64 0, .string ⟨#[]⟩] 23)) = W0 at HA0 HB0 HR0 HX0 ⊢
  have HF := Lib.hid (show ∀ W, LeW (fun _ => False) #[.int .i64 0, .int .i64 0, .string ⟨#[]⟩] W0 W → Blk W w.heap.size #[.int .i64 2, .int .i64 1, .string ⟨#[]⟩] 23 ∧ Blk W (w.heap.size + 1) #[.int .i64 2, .int .i64 0, .string ⟨#[]⟩] 23 ∧ (∀ o, W.cell? ⟨w.heap.size, o, none⟩ = (#[.int .i64 2, .int .i64 1, .string ⟨#[]⟩] : Array Value)[o]?) ∧ (∀ o, W.cell? ⟨w.heap.size + 1, o, none⟩ = (#[.int .i64 2, .int .i64 0, .string ⟨#[]⟩] : Array Value)[o]?) from fun W hW => ⟨hW.blk HA0.out id, hW.blk HB0.out id, (hW.blk HA0.out id).cell, (hW.blk HB0.out id).cell⟩)
  refine wp_parZG (leW (fun _ => False) #[.int .i64 0, .int .i64 0, .string ⟨#[]⟩]) [0, 1, 2, 3, 4, 5] 6 6 (fun
      | 0 => fun _ v _ => v = .agg #[.int .i64 2, .int .i64 1, .string ⟨#[]⟩]
      | 1 => fun _ v _ => v = .agg #[.int .i64 2, .int .i64 1, .string ⟨#[]⟩]
      | 2 => fun _ v _ => v = .agg #[.int .i64 2, .int .i64 0, .string ⟨#[]⟩]
      | 3 => fun _ v _ => v = .agg #[.int .i64 2, .int .i64 0, .string ⟨#[]⟩]
      | 4 => fun _ => anyV 0
      | 5 => fun _ => anyV 0
      | _ => fun _ _ _ => True) (fun
      | _ => undef) (by kernel_rfl) (by kernel_rfl) (by kernel_rfl) ?_ ?_ ?_
  · simp (maxSteps := 20000000) only [permL, permOp, List.filterMap_cons, List.filterMap_nil, List.getElem?_cons_succ, List.getElem?_cons_zero, Option.map_some, Option.map_none, List.take_succ_cons, List.take_zero, ParAllG, Act.put, List.setIfInBounds_toArray, List.set_cons_succ, List.set_cons_zero]
    refine ⟨?_, ?_, ?_, ?_, ?_, ?_, trivial⟩
    · intro vals W hx hd
      have hW := HF.out W hx
      simp [PDepsG, pdeps, Region.binds, List.idxOf_cons] at hd
      first
        | refine ParObG.plain rfl ?_
        | refine ParObG.wanted (by simp [Region.wanted, yielded, hd]) ?_
      go_simp
      exact ParPostG.same (leW (fun _ => False) #[.int .i64 0, .int .i64 0, .string ⟨#[]⟩]) fun _ _ => rfl
    · intro vals W hx hd
      have hW := HF.out W hx
      simp [PDepsG, pdeps, Region.binds, List.idxOf_cons] at hd
      first
        | refine ParObG.plain rfl ?_
        | refine ParObG.wanted (by simp [Region.wanted, yielded, hd]) ?_
      go_simp
      refine Calls.mono (KA.out W) ?_
      rintro e w9 ⟨rfl, hb9⟩
      exact ⟨_, rfl, LeW.ofExt hb9, fun _ _ => rfl⟩
    · intro vals W hx hd
      have hW := HF.out W hx
      simp [PDepsG, pdeps, Region.binds, List.idxOf_cons] at hd
      first
        | refine ParObG.plain rfl ?_
        | refine ParObG.wanted (by simp [Region.wanted, yielded, hd]) ?_
      go_simp
      exact ParPostG.same (leW (fun _ => False) #[.int .i64 0, .int .i64 0, .string ⟨#[]⟩]) fun _ _ => rfl
    · intro vals W hx hd
      have hW := HF.out W hx
      simp [PDepsG, pdeps, Region.binds, List.idxOf_cons] at hd
      first
        | refine ParObG.plain rfl ?_
        | refine ParObG.wanted (by simp [Region.wanted, yielded, hd]) ?_
      go_simp
      refine Calls.mono (KB.out W) ?_
      rintro e w9 ⟨rfl, hb9⟩
      exact ⟨_, rfl, LeW.ofExt hb9, fun _ _ => rfl⟩
    · intro vals W hx hd
      have hW := HF.out W hx
      simp [PDepsG, pdeps, Region.binds, List.idxOf_cons] at hd
      first
        | refine ParObG.plain rfl ?_
        | refine ParObG.wanted (by simp [Region.wanted, yielded, hd]) ?_
      have hbA := (HF.out W hx).1
      refine yields_storeV (cs := #[.int .i64 2, .int .i64 1, .string ⟨#[]⟩]) rfl (by simp [Act.eval]) (by simp [Act.eval, hd]) hbA rfl rfl (by simp [Value.oneCell']) ?_
      rw [setRow_id hbA]
      exact ⟨(leW _ _).refl _, fun _ _ => rfl⟩
    · intro vals W hx hd
      have hW := HF.out W hx
      simp [PDepsG, pdeps, Region.binds, List.idxOf_cons] at hd
      first
        | refine ParObG.plain rfl ?_
        | refine ParObG.wanted (by simp [Region.wanted, yielded, hd]) ?_
      have hbB := (HF.out W hx).2.1
      refine yields_storeV (cs := #[.int .i64 2, .int .i64 0, .string ⟨#[]⟩]) rfl (by simp [Act.eval]) (by simp [Act.eval, hd]) hbB rfl rfl (by simp [Value.oneCell']) ?_
      rw [setRow_id hbB]
      exact ⟨(leW _ _).refl _, fun _ _ => rfl⟩
  · simp (maxSteps := 20000000) only [permL, permOp, List.filterMap_cons, List.filterMap_nil, List.getElem?_cons_succ, List.getElem?_cons_zero, Option.map_some, Option.map_none, List.drop_succ_cons, List.drop_zero, List.take_succ_cons, List.take_zero, Nat.reduceSub, ZAll, ParEnd, Act.put, List.setIfInBounds_toArray, List.set_cons_succ, List.set_cons_zero]
  intro vals W hx hf hz
  simp (maxSteps := 20000000) only [permL, permOp, List.filterMap_cons, List.filterMap_nil, List.getElem?_cons_succ, List.getElem?_cons_zero, Option.map_some, Option.map_none, ParFactsG, List.take_succ_cons, List.take_zero, and_true, Nat.reduceAdd] at hf
  obtain ⟨f0, f1, f2, f3, f4, f5⟩ := hf
  clear hz
  simp (maxSteps := 20000000) only [permL, permOp, List.filterMap_cons, List.filterMap_nil, List.getElem?_cons_succ, List.getElem?_cons_zero, Option.map_some, Option.map_none, List.drop_succ_cons, List.drop_zero, List.take_succ_cons, List.take_zero, Nat.reduceSub, ParEnd, ZTail, Act.put, List.setIfInBounds_toArray, List.set_cons_succ, List.set_cons_zero, Nat.reduceAdd, f0, f1, f2, f3]
  clear f0 f1 f2 f3
  have hxE : Ext W0 W := LeW.below (Below.refl _ _) hx fun _ h => h.elim
  have HR1 := Lib.hid (HR0.out.keep hxE)
  have HX1 := Lib.hid (show Below w.heap.size w W from Ext.trans HX0.out hxE)
  have HA1 := Lib.hid (hx.blk HA0.out id)
  have HB1 := Lib.hid (hx.blk HB0.out id)
  have KN := Lib.hid (fun W => numbers_div W)
  have KD := Lib.hid (fun W => intsdiv_nought W)
  clear hx hxE HF HA0 HB0 HR0 HX0 f4 f5
  obtain ⟨cA, fA⟩ := HA1.out.facts
  obtain ⟨cB, fB⟩ := HB1.out.facts
  obtain ⟨cR, fR⟩ := HR1.out.facts
  have hRl := HR1.out.lt
  go_simp
  repeat (first | go_values | go_skip | go_guarded | go_step | go_upon)
  refine Calls.mono (KN.out _) ?_
  rintro e W2 ⟨rfl, rfl⟩
  have hpe := fun a b c d => pairEq a b c d W2
  have hpg := pairGuard
  go_simp
  repeat (first | go_values | go_skip | go_guarded | go_step | go_upon)
  go_wp2_with (unfold Oper.upon; simp only [hpe, Result.andThen_ok])
  clear hpe hpg
  refine Calls.mono (KD.out _) ?_
  rintro e W3 ⟨rfl, rfl⟩
  go_simp
  repeat (first | go_values | go_skip | go_guarded | go_step | go_upon)
  refine Calls.mono (KE.out _) ?_
  rintro e W4 ⟨rfl, hb⟩
  have HR4 := Lib.hid (HR1.out.keep hb)
  have HX4 := Lib.hid (show Below w.heap.size w W4 from HX1.out.trans (hb.mono HX1.out.size))
  clear hb cR fR hRl cA fA cB fB HA1 HB1 HR1 HX1
  obtain ⟨cR, fR⟩ := HR4.out.facts
  have hRl := HR4.out.lt
  go_simp
  repeat (first | go_values | go_skip | go_guarded | go_step | go_upon)
  refine bodyPost_ret (ret_vE2 rfl _ rfl rfl (blk3 HR4.out _ _ _)) rfl ?_
  exact ⟨rfl, below3 HX4.out (by omega) _ _ _⟩
end Go.Proofs.YtbdaebjpgdpcnaaGreatDoor
