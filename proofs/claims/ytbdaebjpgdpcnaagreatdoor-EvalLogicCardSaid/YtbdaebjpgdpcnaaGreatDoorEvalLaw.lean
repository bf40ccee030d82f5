/-
  Comparisons, BETWEEN and IN are what AND, OR and NOT make of them.
-/
import Derived.Test.YtbdaebjpgdpcnaaGreatDoorEvalS
import Derived.Test.YtbdaebjpgdpcnaaGreatDoorEvalT
namespace Go.Proofs.YtbdaebjpgdpcnaaGreatDoor
open Go.RowKit Go.Lib
set_option maxRecDepth 100000

set_option maxHeartbeats 2000000 in
theorem samesE (k n : Int) (s : ByteArray) (w : World) :
    Calls Tryz.prog 14 #[.agg #[.int .i64 k, .int .i64 n, .string s], .agg #[.int .i64 k, .int .i64 n, .string s]] w fun e w' => e = .returned (.bool true) ∧ Below w.heap.size w w' := by
  have e0 : (k == k) = true := by simp
  have e1 : (n == n) = true := by simp
  have e2 : (s.toList == s.toList) = true := by simp
  go_enter Tryz.func14, Tryz.ntmps14
  go_wp2_with fail
  go_ret
  exact ⟨rfl, by go_grown⟩
theorem yields_storeN {o : Oper} {ρ : Operand → Value} {w : World} {Y : Value → World → Prop} {x y : Operand} {g : Nat} {old cs : Array Value} (ho : o.op = .store 38 x y) (hx : ρ x = .pointer (some ⟨g, 0, none⟩)) (hy : ρ y = .agg cs) (hg : Blk w g old 38) (hold : old.size = 6) (hcs : cs.size = 6)
    (h1 : cs.all (·.oneCell') = true) (h : Y undef (w.setRow g cs)) : yields Tryz.prog o ρ w Y := by
  have hr := run_storeVar_row (P := Tryz.prog) w g 38 38 old cs hg (by rw [hcs]; kernel_rfl) (by omega) h1
  unfold yields execOp
  simp only [ho, hx, hy, Instr.storeAt, Instr.sureAddr, Sem.run_bind, Sem.run_pure, Result.andThen_ok, hr]
  exact h
theorem below_setRow {B : Nat} {w0 w : World} {g : Nat} {V : Array Value} (h : Below B w0 w) (hg : B ≤ g) : Below B w0 (w.setRow g V) :=
  ⟨h.os, h.tape, h.output, by simpa using h.size, fun i hi => (setRow_other w g i V (by omega)).trans (h.block i hi)⟩
set_option maxHeartbeats 64000000 in
theorem law_logic (k1 n1 : Int) (s1 : ByteArray) (k2 n2 : Int) (s2 : ByteArray) (k3 n3 : Int) (s3 : ByteArray) (w : World) :
    Calls Tryz.prog 4 #[vV k1 n1 s1, vV k2 n2 s2, vV k3 n3 s3] w fun e w' => e = .returned (.bool true) ∧ Below w.heap.size w w' := by
  have mixed : Tryz.prog.follows .mixedOrders = true := by kernel_rfl
  have KR := Lib.hid (fun W => regnew_any W)
  have K1 := Lib.hid (fun W => elnode_any k1 n1 s1 W)
  have K2 := Lib.hid (fun W => elnode_any k2 n2 s2 W)
  have K3 := Lib.hid (fun W => elnode_any k3 n3 s3 W)
  have KE := Lib.hid (fun (o : Int) (x y : N6) W => elop_any o x y W)
  have KA := Lib.hid (fun W => evalawake_any W)
  generalize rawO k1 n1 s1 = X at K1
  generalize rawO k2 n2 s2 = Y at K2
  generalize rawO k3 n3 s3 = Z at K3
  simp only [vV, ndE] at K1 K2 K3 ⊢
  have HA0 := Lib.hid (show Blk (((w.alloc (.cells #[.int .i64 k1, .int .i64 n1, .string s1] 23)).alloc (.cells #[.int .i64 k2, .int .i64 n2, .string s2] 23)).alloc (.cells #[.int .i64 k3, .int .i64 n3, .string s3] 23)) w.heap.size #[.int .i64 k1, .int .i64 n1, .string s1] 23 from ((Blk.new w #[.int .i64 k1, .int .i64 n1, .string s1] 23 rfl).alloc _).alloc _)
  have HB0 := Lib.hid (show Blk (((w.alloc (.cells #[.int .i64 k1, .int .i64 n1, .string s1] 23)).alloc (.cells #[.int .i64 k2, .int .i64 n2, .string s2] 23)).alloc (.cells #[.int .i64 k3, .int .i64 n3, .string s3] 23)) (w.heap.size + 1) #[.int .i64 k2, .int .i64 n2, .string s2] 23 from (Blk.new (w.alloc (.cells #[.int .i64 k1, .int .i64 n1, .string s1] 23)) #[.int .i64 k2, .int .i64 n2, .string s2] 23 (n := w.heap.size + 1) (by simp)).alloc _)
  have HC0 := Lib.hid (show Blk (((w.alloc (.cells #[.int .i64 k1, .int .i64 n1, .string s1] 23)).alloc (.cells #[.int .i64 k2, .int .i64 n2, .string s2] 23)).alloc (.cells #[.int .i64 k3, .int .i64 n3, .string s3] 23)) (w.heap.size + 1 + 1) #[.int .i64 k3, .int .i64 n3, .string s3] 23 from Blk.new ((w.alloc (.cells #[.int .i64 k1, .int .i64 n1, .string s1] 23)).alloc (.cells #[.int .i64 k2, .int .i64 n2, .string s2] 23)) #[.int .i64 k3, .int .i64 n3, .string s3] 23 (n := w.heap.size + 1 + 1) (by simp))
  have HX0 := Lib.hid (show Ext w (((w.alloc (.cells #[.int .i64 k1, .int .i64 n1, .string s1] 23)).alloc (.cells #[.int .i64 k2, .int .i64 n2, .string s2] 23)).alloc (.cells #[.int .i64 k3, .int .i64 n3, .string s3] 23)) from ((((Ext.refl w).alloc _).alloc _).alloc _))
  go_enter Tryz.func4, Tryz.ntmps4
  go_wp2_with fail
  generalize (((w.alloc (.cells #[.int .i64 k1, .int .i64 n1, .string s1] 23)).alloc (.cells #[.int .i64 k2, .int .i64 n2, .string s2] 23)).alloc (.cells #[.int .i64 k3, .int .i64 n3, .string s3] 23)) = W0 at HA0 HB0 HC0 HX0 ⊢
  refine Calls.mono (KR.out _) ?_
  rintro e W1 ⟨q, rfl, _, _, hb⟩
  have HA1 := Lib.hid (HA0.out.keep hb)
  have HB1 := Lib.hid (HB0.out.keep hb)
  have HC1 := Lib.hid (HC0.out.keep hb)
  have HX1 := Lib.hid (show Ext w W1 from Ext.trans HX0.out hb)
  clear hb HA0 HB0 HC0 HX0
  go_simp
  repeat (first | go_values | go_skip | go_guarded | go_step | go_upon)
  have HF := Lib.hid (show ∀ W, Ext W1 W → (∀ j, W.cell? ⟨w.heap.size, j, none⟩ = (#[.int .i64 k1, .int .i64 n1, .string s1] : Array Value)[j]?) ∧ (∀ j, W.cell? ⟨w.heap.size + 1, j, none⟩ = (#[.int .i64 k2, .int .i64 n2, .string s2] : Array Value)[j]?) ∧ (∀ j, W.cell? ⟨w.heap.size + 1 + 1, j, none⟩ = (#[.int .i64 k3, .int .i64 n3, .string s3] : Array Value)[j]?) from
    fun W hW => ⟨(HA1.out.keep hW).cell, (HB1.out.keep hW).cell, (HC1.out.keep hW).cell⟩)
  refine wp_parZF [9, 10, 11] (leE) [0, 1, 2, 3, 4, 5, 6, 7, 8, 9, 10, 11, 12, 13, 14] 12 12 (fun
      | 0 => fun _ v _ => v = .func (.func 17) #[] #[]
      | 1 => fun _ v _ => v = .agg #[.int .i64 k1, .int .i64 n1, .string s1]
      | 2 => fun _ v _ => v = .agg #[.int .i64 (oK X), .int .i64 0, .string ⟨#[]⟩, .string ⟨#[]⟩, .int .i64 (oN X), .slice none 0 0]
      | 3 => fun _ v _ => v = .func (.func 17) #[] #[]
      | 4 => fun _ v _ => v = .agg #[.int .i64 k2, .int .i64 n2, .string s2]
      | 5 => fun _ v _ => v = .agg #[.int .i64 (oK Y), .int .i64 0, .string ⟨#[]⟩, .string ⟨#[]⟩, .int .i64 (oN Y), .slice none 0 0]
      | 6 => fun _ v _ => v = .func (.func 17) #[] #[]
      | 7 => fun _ v _ => v = .agg #[.int .i64 k3, .int .i64 n3, .string s3]
      | 8 => fun _ v _ => v = .agg #[.int .i64 (oK Z), .int .i64 0, .string ⟨#[]⟩, .string ⟨#[]⟩, .int .i64 (oN Z), .slice none 0 0]
      | 9 => fun _ => newNd w.heap.size
      | 10 => fun _ => newNd w.heap.size
      | 11 => fun _ => newNd w.heap.size
      | _ => fun _ _ _ => True) (fun
      | _ => undef) (by kernel_rfl) (by kernel_rfl) (by kernel_rfl) ?_ ?_ ?_ ?_ ?_
  · simp (maxSteps := 20000000) only [permL, permOp, List.filterMap_cons, List.filterMap_nil, List.getElem?_cons_succ, List.getElem?_cons_zero, Option.map_some, Option.map_none, List.take_succ_cons, List.take_zero, ParAllG, Act.put, List.setIfInBounds_toArray, List.set_cons_succ, List.set_cons_zero]
    refine ⟨?_, ?_, ?_, ?_, ?_, ?_, ?_, ?_, ?_, ?_, ?_, ?_, trivial⟩
    · intro vals W hx hd
      have hW := HF.out W hx
      simp [PDepsG, pdeps, Region.binds, List.idxOf_cons] at hd
      first
        | refine ParObG.plain rfl ?_
        | refine ParObG.wanted (by simp [Region.wanted, yielded, hd]) ?_
      go_simp
      exact ParPostG.same (leE) fun _ _ => rfl
    · intro vals W hx hd
      have hW := HF.out W hx
      simp [PDepsG, pdeps, Region.binds, List.idxOf_cons] at hd
      first
        | refine ParObG.plain rfl ?_
        | refine ParObG.wanted (by simp [Region.wanted, yielded, hd]) ?_
      go_simp
      exact ParPostG.same (leE) fun _ _ => rfl
    · intro vals W hx hd
      have hW := HF.out W hx
      simp [PDepsG, pdeps, Region.binds, List.idxOf_cons] at hd
      first
        | refine ParObG.plain rfl ?_
        | refine ParObG.wanted (by simp [Region.wanted, yielded, hd]) ?_
      go_simp
      refine Calls.mono (K1.out W) ?_
      rintro e w9 ⟨rfl, hb9⟩
      exact ⟨_, rfl, hb9, fun _ _ => rfl⟩
    · intro vals W hx hd
      have hW := HF.out W hx
      simp [PDepsG, pdeps, Region.binds, List.idxOf_cons] at hd
      first
        | refine ParObG.plain rfl ?_
        | refine ParObG.wanted (by simp [Region.wanted, yielded, hd]) ?_
      go_simp
      exact ParPostG.same (leE) fun _ _ => rfl
    · intro vals W hx hd
      have hW := HF.out W hx
      simp [PDepsG, pdeps, Region.binds, List.idxOf_cons] at hd
      first
        | refine ParObG.plain rfl ?_
        | refine ParObG.wanted (by simp [Region.wanted, yielded, hd]) ?_
      go_simp
      exact ParPostG.same (leE) fun _ _ => rfl
    · intro vals W hx hd
      have hW := HF.out W hx
      simp [PDepsG, pdeps, Region.binds, List.idxOf_cons] at hd
      first
        | refine ParObG.plain rfl ?_
        | refine ParObG.wanted (by simp [Region.wanted, yielded, hd]) ?_
      go_simp
      refine Calls.mono (K2.out W) ?_
      rintro e w9 ⟨rfl, hb9⟩
      exact ⟨_, rfl, hb9, fun _ _ => rfl⟩
    · intro vals W hx hd
      have hW := HF.out W hx
      simp [PDepsG, pdeps, Region.binds, List.idxOf_cons] at hd
      first
        | refine ParObG.plain rfl ?_
        | refine ParObG.wanted (by simp [Region.wanted, yielded, hd]) ?_
      go_simp
      exact ParPostG.same (leE) fun _ _ => rfl
    · intro vals W hx hd
      have hW := HF.out W hx
      simp [PDepsG, pdeps, Region.binds, List.idxOf_cons] at hd
      first
        | refine ParObG.plain rfl ?_
        | refine ParObG.wanted (by simp [Region.wanted, yielded, hd]) ?_
      go_simp
      exact ParPostG.same (leE) fun _ _ => rfl
    · intro vals W hx hd
      have hW := HF.out W hx
      simp [PDepsG, pdeps, Region.binds, List.idxOf_cons] at hd
      first
        | refine ParObG.plain rfl ?_
        | refine ParObG.wanted (by simp [Region.wanted, yielded, hd]) ?_
      go_simp
      refine Calls.mono (K3.out W) ?_
      rintro e w9 ⟨rfl, hb9⟩
      exact ⟨_, rfl, hb9, fun _ _ => rfl⟩
    · intro vals W hx hd
      have hW := HF.out W hx
      simp [PDepsG, pdeps, Region.binds, List.idxOf_cons] at hd
      first
        | refine ParObG.plain rfl ?_
        | refine ParObG.wanted (by simp [Region.wanted, yielded, hd]) ?_
      go_simp
      exact ⟨(Ext.refl _).alloc _, fun w3 h3 => ⟨_, rfl, Nat.le_trans HX1.out.size hx.size, (Blk.new W _ 38 rfl).keep h3⟩⟩
    · intro vals W hx hd
      have hW := HF.out W hx
      simp [PDepsG, pdeps, Region.binds, List.idxOf_cons] at hd
      first
        | refine ParObG.plain rfl ?_
        | refine ParObG.wanted (by simp [Region.wanted, yielded, hd]) ?_
      go_simp
      exact ⟨(Ext.refl _).alloc _, fun w3 h3 => ⟨_, rfl, Nat.le_trans HX1.out.size hx.size, (Blk.new W _ 38 rfl).keep h3⟩⟩
    · intro vals W hx hd
      have hW := HF.out W hx
      simp [PDepsG, pdeps, Region.binds, List.idxOf_cons] at hd
      first
        | refine ParObG.plain rfl ?_
        | refine ParObG.wanted (by simp [Region.wanted, yielded, hd]) ?_
      go_simp
      exact ⟨(Ext.refl _).alloc _, fun w3 h3 => ⟨_, rfl, Nat.le_trans HX1.out.size hx.size, (Blk.new W _ 38 rfl).keep h3⟩⟩
  · simp (maxSteps := 20000000) only [permL, permOp, List.filterMap_cons, List.filterMap_nil, List.getElem?_cons_succ, List.getElem?_cons_zero, Option.map_some, Option.map_none, List.drop_succ_cons, List.drop_zero, List.take_succ_cons, List.take_zero, Nat.reduceSub, ZAll, ParEnd, Act.put, List.setIfInBounds_toArray, List.set_cons_succ, List.set_cons_zero]
  · intro i hi
    simp only [List.mem_cons, List.not_mem_nil, or_false] at hi
    rcases hi with rfl | rfl | rfl
    all_goals exact ⟨by decide, fun o ho => makes_of (t := 38) (by kernel_rfl) ho makesNd⟩
  · intro i hi
    simp only [List.mem_cons, List.not_mem_nil, or_false] at hi
    rcases hi with rfl | rfl | rfl
    all_goals
      rintro ds v w ⟨g, h1, h2, h3⟩
      exact ⟨g, h1, h3.lt⟩
  intro vals W hx hf hz hdist
  simp (maxSteps := 20000000) only [permL, permOp, List.filterMap_cons, List.filterMap_nil, List.getElem?_cons_succ, List.getElem?_cons_zero, Option.map_some, Option.map_none, ParFactsG, List.take_succ_cons, List.take_zero, and_true, Nat.reduceAdd] at hf
  obtain ⟨f0, f1, f2, f3, f4, f5, f6, f7, f8, f9, f10, f11⟩ := hf
  clear hz
  simp (maxSteps := 20000000) only [permL, permOp, List.filterMap_cons, List.filterMap_nil, List.getElem?_cons_succ, List.getElem?_cons_zero, Option.map_some, Option.map_none, List.drop_succ_cons, List.drop_zero, List.take_succ_cons, List.take_zero, Nat.reduceSub, ParEnd, ZTail, Act.put, List.setIfInBounds_toArray, List.set_cons_succ, List.set_cons_zero, Nat.reduceAdd, f0, f1, f2, f3, f4, f5, f6, f7, f8]
  clear f0 f1 f2 f3 f4 f5 f6 f7 f8
  obtain ⟨g1, e1, hb1, HG1⟩ := f9
  obtain ⟨g2, e2, hb2, HG2⟩ := f10
  obtain ⟨g3, e3, hb3, HG3⟩ := f11
  have h12 : g1 ≠ g2 := fun e => hdist 9 (by decide) 10 (by decide) (by decide) (by rw [e1, e2, e])
  have h13 : g1 ≠ g3 := fun e => hdist 9 (by decide) 11 (by decide) (by decide) (by rw [e1, e3, e])
  have h23 : g2 ≠ g3 := fun e => hdist 10 (by decide) 11 (by decide) (by decide) (by rw [e2, e3, e])
  have HX2 := Lib.hid (Ext.trans HX1.out hx)
  clear hdist hx HF HA1 HB1 HC1 HX1
  refine ⟨?_⟩
  refine yields_storeN (g := g1) (cs := #[.int .i64 (oK X), .int .i64 0, .string ⟨#[]⟩, .string ⟨#[]⟩, .int .i64 (oN X), .slice none 0 0]) rfl (by simp [Act.eval, e1]) (by simp [Act.eval]) HG1 rfl rfl (by simp [Value.oneCell']) ?_
  have HG1 := setRow_heap W g1 _ #[.int .i64 (oK X), .int .i64 0, .string ⟨#[]⟩, .string ⟨#[]⟩, .int .i64 (oN X), .slice none 0 0] _ _ HG1
  have HG2 := (setRow_other W g1 g2 #[.int .i64 (oK X), .int .i64 0, .string ⟨#[]⟩, .string ⟨#[]⟩, .int .i64 (oN X), .slice none 0 0] (Ne.symm h12)).trans HG2
  have HG3 := (setRow_other W g1 g3 #[.int .i64 (oK X), .int .i64 0, .string ⟨#[]⟩, .string ⟨#[]⟩, .int .i64 (oN X), .slice none 0 0] (Ne.symm h13)).trans HG3
  have HX3 := below_setRow (V := #[.int .i64 (oK X), .int .i64 0, .string ⟨#[]⟩, .string ⟨#[]⟩, .int .i64 (oN X), .slice none 0 0]) HX2.out hb1
  refine yields_storeN (g := g2) (cs := #[.int .i64 (oK Y), .int .i64 0, .string ⟨#[]⟩, .string ⟨#[]⟩, .int .i64 (oN Y), .slice none 0 0]) rfl (by simp [Act.eval, e2]) (by simp [Act.eval]) HG2 rfl rfl (by simp [Value.oneCell']) ?_
  generalize W.setRow g1 #[.int .i64 (oK X), .int .i64 0, .string ⟨#[]⟩, .string ⟨#[]⟩, .int .i64 (oN X), .slice none 0 0] = Wa at HG1 HG2 HG3 HX3 ⊢
  have HG2 := setRow_heap Wa g2 _ #[.int .i64 (oK Y), .int .i64 0, .string ⟨#[]⟩, .string ⟨#[]⟩, .int .i64 (oN Y), .slice none 0 0] _ _ HG2
  have HG1 := (setRow_other Wa g2 g1 #[.int .i64 (oK Y), .int .i64 0, .string ⟨#[]⟩, .string ⟨#[]⟩, .int .i64 (oN Y), .slice none 0 0] h12).trans HG1
  have HG3 := (setRow_other Wa g2 g3 #[.int .i64 (oK Y), .int .i64 0, .string ⟨#[]⟩, .string ⟨#[]⟩, .int .i64 (oN Y), .slice none 0 0] (Ne.symm h23)).trans HG3
  have HX4 := below_setRow (V := #[.int .i64 (oK Y), .int .i64 0, .string ⟨#[]⟩, .string ⟨#[]⟩, .int .i64 (oN Y), .slice none 0 0]) HX3 hb2
  refine yields_storeN (g := g3) (cs := #[.int .i64 (oK Z), .int .i64 0, .string ⟨#[]⟩, .string ⟨#[]⟩, .int .i64 (oN Z), .slice none 0 0]) rfl (by simp [Act.eval, e3]) (by simp [Act.eval]) HG3 rfl rfl (by simp [Value.oneCell']) ?_
  generalize Wa.setRow g2 #[.int .i64 (oK Y), .int .i64 0, .string ⟨#[]⟩, .string ⟨#[]⟩, .int .i64 (oN Y), .slice none 0 0] = Wb at HG1 HG2 HG3 HX4 ⊢
  have HG3 := setRow_heap Wb g3 _ #[.int .i64 (oK Z), .int .i64 0, .string ⟨#[]⟩, .string ⟨#[]⟩, .int .i64 (oN Z), .slice none 0 0] _ _ HG3
  have HG1 := (setRow_other Wb g3 g1 #[.int .i64 (oK Z), .int .i64 0, .string ⟨#[]⟩, .string ⟨#[]⟩, .int .i64 (oN Z), .slice none 0 0] h13).trans HG1
  have HG2 := (setRow_other Wb g3 g2 #[.int .i64 (oK Z), .int .i64 0, .string ⟨#[]⟩, .string ⟨#[]⟩, .int .i64 (oN Z), .slice none 0 0] h23).trans HG2
  have HX5 := below_setRow (V := #[.int .i64 (oK Z), .int .i64 0, .string ⟨#[]⟩, .string ⟨#[]⟩, .int .i64 (oN Z), .slice none 0 0]) HX4 hb3
  generalize Wb.setRow g3 #[.int .i64 (oK Z), .int .i64 0, .string ⟨#[]⟩, .string ⟨#[]⟩, .int .i64 (oN Z), .slice none 0 0] = Wc at HG1 HG2 HG3 HX5 ⊢
  have KX := Lib.hid (show Blk Wc g1 #[.int .i64 (oK X), .int .i64 0, .string ⟨#[]⟩, .string ⟨#[]⟩, .int .i64 (oN X), .slice none 0 0] 38 from HG1)
  have KY := Lib.hid (show Blk Wc g2 #[.int .i64 (oK Y), .int .i64 0, .string ⟨#[]⟩, .string ⟨#[]⟩, .int .i64 (oN Y), .slice none 0 0] 38 from HG2)
  have KZ := Lib.hid (show Blk Wc g3 #[.int .i64 (oK Z), .int .i64 0, .string ⟨#[]⟩, .string ⟨#[]⟩, .int .i64 (oN Z), .slice none 0 0] 38 from HG3)
  have HX6 := Lib.hid (show Ext w Wc from HX5)
  clear HX2 HX3 HX4 HX5
  rw [e1, e2, e3]
  clear e1 e2 e3 hb1 hb2 hb3 h12 h13 h23
  go_simp
  repeat (first | go_values | go_skip | go_guarded | go_step | go_upon)
  clear K1 K2 K3 KR
  have HF := Lib.hid (show ∀ W, Ext Wc W → (∀ j, W.cell? ⟨g1, j, none⟩ = (#[.int .i64 (oK X), .int .i64 0, .string ⟨#[]⟩, .string ⟨#[]⟩, .int .i64 (oN X), .slice none 0 0] : Array Value)[j]?) ∧ (∀ j, W.cell? ⟨g2, j, none⟩ = (#[.int .i64 (oK Y), .int .i64 0, .string ⟨#[]⟩, .string ⟨#[]⟩, .int .i64 (oN Y), .slice none 0 0] : Array Value)[j]?) ∧ (∀ j, W.cell? ⟨g3, j, none⟩ = (#[.int .i64 (oK Z), .int .i64 0, .string ⟨#[]⟩, .string ⟨#[]⟩, .int .i64 (oN Z), .slice none 0 0] : Array Value)[j]?) from
    fun W hW => ⟨(KX.out.keep hW).cell, (KY.out.keep hW).cell, (KZ.out.keep hW).cell⟩)
  refine wp_par 60 (fun
      | 0 => fun v _ => v = .agg #[.int .i64 (oK X), .int .i64 0, .string ⟨#[]⟩, .string ⟨#[]⟩, .int .i64 (oN X), .slice none 0 0]
      | 1 => fun v _ => v = .agg #[.int .i64 (oK Y), .int .i64 0, .string ⟨#[]⟩, .string ⟨#[]⟩, .int .i64 (oN Y), .slice none 0 0]
      | 2 => fun v _ => v = .agg #[.int .i64 (oK Z), .int .i64 0, .string ⟨#[]⟩, .string ⟨#[]⟩, .int .i64 (oN Z), .slice none 0 0]
      | 3 => sl3 X Y Z
      | 4 => evIs q (btw 0 X Y Z)
      | 5 => fun v _ => v = .func (.func 19) #[] #[]
      | 6 => fun v _ => v = .func (.func 19) #[] #[]
      | 7 => fun v _ => v = .agg #[.int .i64 (oK X), .int .i64 0, .string ⟨#[]⟩, .string ⟨#[]⟩, .int .i64 (oN X), .slice none 0 0]
      | 8 => fun v _ => v = .agg #[.int .i64 (oK Y), .int .i64 0, .string ⟨#[]⟩, .string ⟨#[]⟩, .int .i64 (oN Y), .slice none 0 0]
      | 9 => evIs q (tst 6 X Y)
      | 10 => fun v _ => v = .func (.func 19) #[] #[]
      | 11 => fun v _ => v = .agg #[.int .i64 (oK X), .int .i64 0, .string ⟨#[]⟩, .string ⟨#[]⟩, .int .i64 (oN X), .slice none 0 0]
      | 12 => fun v _ => v = .agg #[.int .i64 (oK Z), .int .i64 0, .string ⟨#[]⟩, .string ⟨#[]⟩, .int .i64 (oN Z), .slice none 0 0]
      | 13 => evIs q (tst 4 X Z)
      | 14 => evIs q (btw 0 X Y Z)
      | 15 => pairIs q (btw 0 X Y Z)
      | 16 => fun v _ => v = .agg #[.int .i64 (oK X), .int .i64 0, .string ⟨#[]⟩, .string ⟨#[]⟩, .int .i64 (oN X), .slice none 0 0]
      | 17 => fun v _ => v = .agg #[.int .i64 (oK Y), .int .i64 0, .string ⟨#[]⟩, .string ⟨#[]⟩, .int .i64 (oN Y), .slice none 0 0]
      | 18 => fun v _ => v = .agg #[.int .i64 (oK Z), .int .i64 0, .string ⟨#[]⟩, .string ⟨#[]⟩, .int .i64 (oN Z), .slice none 0 0]
      | 19 => sl3 X Y Z
      | 20 => evIs q (inT 0 X Y Z)
      | 21 => fun v _ => v = .func (.func 19) #[] #[]
      | 22 => fun v _ => v = .func (.func 19) #[] #[]
      | 23 => fun v _ => v = .agg #[.int .i64 (oK X), .int .i64 0, .string ⟨#[]⟩, .string ⟨#[]⟩, .int .i64 (oN X), .slice none 0 0]
      | 24 => fun v _ => v = .agg #[.int .i64 (oK Y), .int .i64 0, .string ⟨#[]⟩, .string ⟨#[]⟩, .int .i64 (oN Y), .slice none 0 0]
      | 25 => evIs q (tst 1 X Y)
      | 26 => fun v _ => v = .func (.func 19) #[] #[]
      | 27 => fun v _ => v = .agg #[.int .i64 (oK X), .int .i64 0, .string ⟨#[]⟩, .string ⟨#[]⟩, .int .i64 (oN X), .slice none 0 0]
      | 28 => fun v _ => v = .agg #[.int .i64 (oK Z), .int .i64 0, .string ⟨#[]⟩, .string ⟨#[]⟩, .int .i64 (oN Z), .slice none 0 0]
      | 29 => evIs q (tst 1 X Z)
      | 30 => evIs q (inT 0 X Y Z)
      | 31 => pairIs q (inT 0 X Y Z)
      | 32 => fun v _ => v = .agg #[.int .i64 (oK X), .int .i64 0, .string ⟨#[]⟩, .string ⟨#[]⟩, .int .i64 (oN X), .slice none 0 0]
      | 33 => fun v _ => v = .agg #[.int .i64 (oK Y), .int .i64 0, .string ⟨#[]⟩, .string ⟨#[]⟩, .int .i64 (oN Y), .slice none 0 0]
      | 34 => fun v _ => v = .agg #[.int .i64 (oK Z), .int .i64 0, .string ⟨#[]⟩, .string ⟨#[]⟩, .int .i64 (oN Z), .slice none 0 0]
      | 35 => sl3 X Y Z
      | 36 => evIs q (inT 1 X Y Z)
      | 37 => fun v _ => v = .func (.func 19) #[] #[]
      | 38 => fun v _ => v = .func (.func 19) #[] #[]
      | 39 => fun v _ => v = .agg #[.int .i64 (oK X), .int .i64 0, .string ⟨#[]⟩, .string ⟨#[]⟩, .int .i64 (oN X), .slice none 0 0]
      | 40 => fun v _ => v = .agg #[.int .i64 (oK Y), .int .i64 0, .string ⟨#[]⟩, .string ⟨#[]⟩, .int .i64 (oN Y), .slice none 0 0]
      | 41 => evIs q (tst 2 X Y)
      | 42 => fun v _ => v = .func (.func 19) #[] #[]
      | 43 => fun v _ => v = .agg #[.int .i64 (oK X), .int .i64 0, .string ⟨#[]⟩, .string ⟨#[]⟩, .int .i64 (oN X), .slice none 0 0]
      | 44 => fun v _ => v = .agg #[.int .i64 (oK Z), .int .i64 0, .string ⟨#[]⟩, .string ⟨#[]⟩, .int .i64 (oN Z), .slice none 0 0]
      | 45 => evIs q (tst 2 X Z)
      | 46 => evIs q (inT 1 X Y Z)
      | 47 => pairIs q (inT 1 X Y Z)
      | 48 => fun v _ => v = .func (.func 19) #[] #[]
      | 49 => fun v _ => v = .agg #[.int .i64 (oK X), .int .i64 0, .string ⟨#[]⟩, .string ⟨#[]⟩, .int .i64 (oN X), .slice none 0 0]
      | 50 => fun v _ => v = .agg #[.int .i64 (oK Y), .int .i64 0, .string ⟨#[]⟩, .string ⟨#[]⟩, .int .i64 (oN Y), .slice none 0 0]
      | 51 => evIs q (tst 3 X Y)
      | 52 => sl1 q (tst 3 X Y)
      | 53 => evIs q (tst 6 X Y)
      | 54 => fun v _ => v = .func (.func 19) #[] #[]
      | 55 => fun v _ => v = .agg #[.int .i64 (oK X), .int .i64 0, .string ⟨#[]⟩, .string ⟨#[]⟩, .int .i64 (oN X), .slice none 0 0]
      | 56 => fun v _ => v = .agg #[.int .i64 (oK Y), .int .i64 0, .string ⟨#[]⟩, .string ⟨#[]⟩, .int .i64 (oN Y), .slice none 0 0]
      | 57 => evIs q (tst 6 X Y)
      | 58 => pairIs q (tst 6 X Y)
      | 59 => pairsAt q X Y Z
      | _ => fun _ _ => True) (by kernel_rfl) (by kernel_rfl) (by kernel_rfl) ?_ ?_
  · simp (maxSteps := 20000000) only [List.take_succ_cons, List.take_zero, ParAll, Act.put, List.setIfInBounds_toArray, List.set_cons_succ, List.set_cons_zero]
    refine ⟨?_, ?_, ?_, ?_, ?_, ?_, ?_, ?_, ?_, ?_, ?_, ?_, ?_, ?_, ?_, ?_, ?_, ?_, ?_, ?_, ?_, ?_, ?_, ?_, ?_, ?_, ?_, ?_, ?_, ?_, ?_, ?_, ?_, ?_, ?_, ?_, ?_, ?_, ?_, ?_, ?_, ?_, ?_, ?_, ?_, ?_, ?_, ?_, ?_, ?_, ?_, ?_, ?_, ?_, ?_, ?_, ?_, ?_, ?_, ?_, trivial⟩
    · intro vals W hx hd
      have hW := HF.out W hx
      simp [PDeps, pdeps, Region.binds] at hd
      first
        | refine ParOb.plain rfl ?_
        | refine ParOb.wanted (by simp [Region.wanted, yielded, hd]) ?_
      go_simp
      exact ParPost.same fun _ _ => rfl
    · intro vals W hx hd
      have hW := HF.out W hx
      simp [PDeps, pdeps, Region.binds] at hd
      first
        | refine ParOb.plain rfl ?_
        | refine ParOb.wanted (by simp [Region.wanted, yielded, hd]) ?_
      go_simp
      exact ParPost.same fun _ _ => rfl
    · intro vals W hx hd
      have hW := HF.out W hx
      simp [PDeps, pdeps, Region.binds] at hd
      first
        | refine ParOb.plain rfl ?_
        | refine ParOb.wanted (by simp [Region.wanted, yielded, hd]) ?_
      go_simp
      exact ParPost.same fun _ _ => rfl
    · intro vals W hx hd
      have hW := HF.out W hx
      simp [PDeps, pdeps, Region.binds] at hd
      first
        | refine ParOb.plain rfl ?_
        | refine ParOb.wanted (by simp [Region.wanted, yielded, hd]) ?_
      go_simp
      refine ⟨(Ext.refl _).alloc _, fun w3 h3 => ⟨_, rfl, ?_⟩⟩
      exact (ndAt_of [numN X, numN Y, numN Z] (Blk.new W _ 38 rfl)).ext h3
    · intro vals W hx hd
      have hW := HF.out W hx
      simp [PDeps, pdeps, Region.binds] at hd
      first
        | refine ParOb.plain rfl ?_
        | refine ParOb.wanted (by simp [Region.wanted, yielded, hd]) ?_
      obtain ⟨g, hv, hN⟩ := hd
      go_simp
      exact ParPost.same fun w3 h3 => ⟨⟨10, 0, ⟨#[]⟩, ⟨#[]⟩, 0, some ⟨g, 0, none⟩, 3, 3⟩, rfl, ev_between (hN.ext h3) (ev_num _) (ev_num _) (ev_num _)⟩
    · intro vals W hx hd
      have hW := HF.out W hx
      simp [PDeps, pdeps, Region.binds] at hd
      first
        | refine ParOb.plain rfl ?_
        | refine ParOb.wanted (by simp [Region.wanted, yielded, hd]) ?_
      go_simp
      exact ParPost.same fun _ _ => rfl
    · intro vals W hx hd
      have hW := HF.out W hx
      simp [PDeps, pdeps, Region.binds] at hd
      first
        | refine ParOb.plain rfl ?_
        | refine ParOb.wanted (by simp [Region.wanted, yielded, hd]) ?_
      go_simp
      exact ParPost.same fun _ _ => rfl
    · intro vals W hx hd
      have hW := HF.out W hx
      simp [PDeps, pdeps, Region.binds] at hd
      first
        | refine ParOb.plain rfl ?_
        | refine ParOb.wanted (by simp [Region.wanted, yielded, hd]) ?_
      go_simp
      exact ParPost.same fun _ _ => rfl
    · intro vals W hx hd
      have hW := HF.out W hx
      simp [PDeps, pdeps, Region.binds] at hd
      first
        | refine ParOb.plain rfl ?_
        | refine ParOb.wanted (by simp [Region.wanted, yielded, hd]) ?_
      go_simp
      exact ParPost.same fun _ _ => rfl
    · intro vals W hx hd
      have hW := HF.out W hx
      simp [PDeps, pdeps, Region.binds] at hd
      first
        | refine ParOb.plain rfl ?_
        | refine ParOb.wanted (by simp [Region.wanted, yielded, hd]) ?_
      go_simp
      refine Calls.mono (KE.out 6 (numN X) (numN Y) W) ?_
      rintro e w9 ⟨⟨g, rfl, hN⟩, hb9⟩
      exact ⟨_, rfl, hb9, fun w3 h3 => ⟨opN 6 g, rfl, ev_test 6 (by decide) (by decide) (hN.ext h3) (ev_num _) (ev_num _)⟩⟩
    · intro vals W hx hd
      have hW := HF.out W hx
      simp [PDeps, pdeps, Region.binds] at hd
      first
        | refine ParOb.plain rfl ?_
        | refine ParOb.wanted (by simp [Region.wanted, yielded, hd]) ?_
      go_simp
      exact ParPost.same fun _ _ => rfl
    · intro vals W hx hd
      have hW := HF.out W hx
      simp [PDeps, pdeps, Region.binds] at hd
      first
        | refine ParOb.plain rfl ?_
        | refine ParOb.wanted (by simp [Region.wanted, yielded, hd]) ?_
      go_simp
      exact ParPost.same fun _ _ => rfl
    · intro vals W hx hd
      have hW := HF.out W hx
      simp [PDeps, pdeps, Region.binds] at hd
      first
        | refine ParOb.plain rfl ?_
        | refine ParOb.wanted (by simp [Region.wanted, yielded, hd]) ?_
      go_simp
      exact ParPost.same fun _ _ => rfl
    · intro vals W hx hd
      have hW := HF.out W hx
      simp [PDeps, pdeps, Region.binds] at hd
      first
        | refine ParOb.plain rfl ?_
        | refine ParOb.wanted (by simp [Region.wanted, yielded, hd]) ?_
      go_simp
      refine Calls.mono (KE.out 4 (numN X) (numN Z) W) ?_
      rintro e w9 ⟨⟨g, rfl, hN⟩, hb9⟩
      exact ⟨_, rfl, hb9, fun w3 h3 => ⟨opN 4 g, rfl, ev_test 4 (by decide) (by decide) (hN.ext h3) (ev_num _) (ev_num _)⟩⟩
    · intro vals W hx hd
      have hW := HF.out W hx
      simp [PDeps, pdeps, Region.binds] at hd
      first
        | refine ParOb.plain rfl ?_
        | refine ParOb.wanted (by simp [Region.wanted, yielded, hd]) ?_
      obtain ⟨_, ⟨x1, hv1, hE1⟩, x2, hv2, hE2⟩ := hd
      replace hv1 : vals _ = .agg _ := hv1
      replace hv2 : vals _ = .agg _ := hv2
      go_simp
      refine Calls.mono (KE.out 18 x1 x2 W) ?_
      rintro e w9 ⟨⟨g, rfl, hN⟩, hb9⟩
      exact ⟨_, rfl, hb9, fun w3 h3 => ⟨opN 18 g, rfl, e_btw X Y Z ▸ ev_short 18 (by decide) (tst_lt 6 X Y) (tst_lt 4 X Z) (hN.ext h3) (hE1.ext (Ext.trans hb9 h3)) fun _ => hE2.ext (Ext.trans hb9 h3)⟩⟩
    · intro vals W hx hd
      have hW := HF.out W hx
      simp [PDeps, pdeps, Region.binds] at hd
      first
        | refine ParOb.plain rfl ?_
        | refine ParOb.wanted (by simp [Region.wanted, yielded, hd]) ?_
      obtain ⟨⟨x1, hv1, hE1⟩, x2, hv2, hE2⟩ := hd
      replace hv1 : vals _ = .agg _ := hv1
      replace hv2 : vals _ = .agg _ := hv2
      go_simp
      exact ParPost.same fun w3 h3 => ⟨x1, x2, rfl, hE1.ext h3, hE2.ext h3⟩
    · intro vals W hx hd
      have hW := HF.out W hx
      simp [PDeps, pdeps, Region.binds] at hd
      first
        | refine ParOb.plain rfl ?_
        | refine ParOb.wanted (by simp [Region.wanted, yielded, hd]) ?_
      go_simp
      exact ParPost.same fun _ _ => rfl
    · intro vals W hx hd
      have hW := HF.out W hx
      simp [PDeps, pdeps, Region.binds] at hd
      first
        | refine ParOb.plain rfl ?_
        | refine ParOb.wanted (by simp [Region.wanted, yielded, hd]) ?_
      go_simp
      exact ParPost.same fun _ _ => rfl
    · intro vals W hx hd
      have hW := HF.out W hx
      simp [PDeps, pdeps, Region.binds] at hd
      first
        | refine ParOb.plain rfl ?_
        | refine ParOb.wanted (by simp [Region.wanted, yielded, hd]) ?_
      go_simp
      exact ParPost.same fun _ _ => rfl
    · intro vals W hx hd
      have hW := HF.out W hx
      simp [PDeps, pdeps, Region.binds] at hd
      first
        | refine ParOb.plain rfl ?_
        | refine ParOb.wanted (by simp [Region.wanted, yielded, hd]) ?_
      go_simp
      refine ⟨(Ext.refl _).alloc _, fun w3 h3 => ⟨_, rfl, ?_⟩⟩
      exact (ndAt_of [numN X, numN Y, numN Z] (Blk.new W _ 38 rfl)).ext h3
    · intro vals W hx hd
      have hW := HF.out W hx
      simp [PDeps, pdeps, Region.binds] at hd
      first
        | refine ParOb.plain rfl ?_
        | refine ParOb.wanted (by simp [Region.wanted, yielded, hd]) ?_
      obtain ⟨g, hv, hN⟩ := hd
      go_simp
      exact ParPost.same fun w3 h3 => ⟨⟨9, 0, ⟨#[]⟩, ⟨#[]⟩, 0, some ⟨g, 0, none⟩, 3, 3⟩, rfl, ev_in 0 (.inl rfl) (hN.ext h3) (ev_num _) (ev_num _) (ev_num _)⟩
    · intro vals W hx hd
      have hW := HF.out W hx
      simp [PDeps, pdeps, Region.binds] at hd
      first
        | refine ParOb.plain rfl ?_
        | refine ParOb.wanted (by simp [Region.wanted, yielded, hd]) ?_
      go_simp
      exact ParPost.same fun _ _ => rfl
    · intro vals W hx hd
      have hW := HF.out W hx
      simp [PDeps, pdeps, Region.binds] at hd
      first
        | refine ParOb.plain rfl ?_
        | refine ParOb.wanted (by simp [Region.wanted, yielded, hd]) ?_
      go_simp
      exact ParPost.same fun _ _ => rfl
    · intro vals W hx hd
      have hW := HF.out W hx
      simp [PDeps, pdeps, Region.binds] at hd
      first
        | refine ParOb.plain rfl ?_
        | refine ParOb.wanted (by simp [Region.wanted, yielded, hd]) ?_
      go_simp
      exact ParPost.same fun _ _ => rfl
    · intro vals W hx hd
      have hW := HF.out W hx
      simp [PDeps, pdeps, Region.binds] at hd
      first
        | refine ParOb.plain rfl ?_
        | refine ParOb.wanted (by simp [Region.wanted, yielded, hd]) ?_
      go_simp
      exact ParPost.same fun _ _ => rfl
    · intro vals W hx hd
      have hW := HF.out W hx
      simp [PDeps, pdeps, Region.binds] at hd
      first
        | refine ParOb.plain rfl ?_
        | refine ParOb.wanted (by simp [Region.wanted, yielded, hd]) ?_
      go_simp
      refine Calls.mono (KE.out 1 (numN X) (numN Y) W) ?_
      rintro e w9 ⟨⟨g, rfl, hN⟩, hb9⟩
      exact ⟨_, rfl, hb9, fun w3 h3 => ⟨opN 1 g, rfl, ev_test 1 (by decide) (by decide) (hN.ext h3) (ev_num _) (ev_num _)⟩⟩
    · intro vals W hx hd
      have hW := HF.out W hx
      simp [PDeps, pdeps, Region.binds] at hd
      first
        | refine ParOb.plain rfl ?_
        | refine ParOb.wanted (by simp [Region.wanted, yielded, hd]) ?_
      go_simp
      exact ParPost.same fun _ _ => rfl
    · intro vals W hx hd
      have hW := HF.out W hx
      simp [PDeps, pdeps, Region.binds] at hd
      first
        | refine ParOb.plain rfl ?_
        | refine ParOb.wanted (by simp [Region.wanted, yielded, hd]) ?_
      go_simp
      exact ParPost.same fun _ _ => rfl
    · intro vals W hx hd
      have hW := HF.out W hx
      simp [PDeps, pdeps, Region.binds] at hd
      first
        | refine ParOb.plain rfl ?_
        | refine ParOb.wanted (by simp [Region.wanted, yielded, hd]) ?_
      go_simp
      exact ParPost.same fun _ _ => rfl
    · intro vals W hx hd
      have hW := HF.out W hx
      simp [PDeps, pdeps, Region.binds] at hd
      first
        | refine ParOb.plain rfl ?_
        | refine ParOb.wanted (by simp [Region.wanted, yielded, hd]) ?_
      go_simp
      refine Calls.mono (KE.out 1 (numN X) (numN Z) W) ?_
      rintro e w9 ⟨⟨g, rfl, hN⟩, hb9⟩
      exact ⟨_, rfl, hb9, fun w3 h3 => ⟨opN 1 g, rfl, ev_test 1 (by decide) (by decide) (hN.ext h3) (ev_num _) (ev_num _)⟩⟩
    · intro vals W hx hd
      have hW := HF.out W hx
      simp [PDeps, pdeps, Region.binds] at hd
      first
        | refine ParOb.plain rfl ?_
        | refine ParOb.wanted (by simp [Region.wanted, yielded, hd]) ?_
      obtain ⟨_, ⟨x1, hv1, hE1⟩, x2, hv2, hE2⟩ := hd
      replace hv1 : vals _ = .agg _ := hv1
      replace hv2 : vals _ = .agg _ := hv2
      go_simp
      refine Calls.mono (KE.out 19 x1 x2 W) ?_
      rintro e w9 ⟨⟨g, rfl, hN⟩, hb9⟩
      exact ⟨_, rfl, hb9, fun w3 h3 => ⟨opN 19 g, rfl, e_in0 X Y Z ▸ ev_short 19 (by decide) (tst_lt 1 X Y) (tst_lt 1 X Z) (hN.ext h3) (hE1.ext (Ext.trans hb9 h3)) fun _ => hE2.ext (Ext.trans hb9 h3)⟩⟩
    · intro vals W hx hd
      have hW := HF.out W hx
      simp [PDeps, pdeps, Region.binds] at hd
      first
        | refine ParOb.plain rfl ?_
        | refine ParOb.wanted (by simp [Region.wanted, yielded, hd]) ?_
      obtain ⟨⟨x1, hv1, hE1⟩, x2, hv2, hE2⟩ := hd
      replace hv1 : vals _ = .agg _ := hv1
      replace hv2 : vals _ = .agg _ := hv2
      go_simp
      exact ParPost.same fun w3 h3 => ⟨x1, x2, rfl, hE1.ext h3, hE2.ext h3⟩
    · intro vals W hx hd
      have hW := HF.out W hx
      simp [PDeps, pdeps, Region.binds] at hd
      first
        | refine ParOb.plain rfl ?_
        | refine ParOb.wanted (by simp [Region.wanted, yielded, hd]) ?_
      go_simp
      exact ParPost.same fun _ _ => rfl
    · intro vals W hx hd
      have hW := HF.out W hx
      simp [PDeps, pdeps, Region.binds] at hd
      first
        | refine ParOb.plain rfl ?_
        | refine ParOb.wanted (by simp [Region.wanted, yielded, hd]) ?_
      go_simp
      exact ParPost.same fun _ _ => rfl
    · intro vals W hx hd
      have hW := HF.out W hx
      simp [PDeps, pdeps, Region.binds] at hd
      first
        | refine ParOb.plain rfl ?_
        | refine ParOb.wanted (by simp [Region.wanted, yielded, hd]) ?_
      go_simp
      exact ParPost.same fun _ _ => rfl
    · intro vals W hx hd
      have hW := HF.out W hx
      simp [PDeps, pdeps, Region.binds] at hd
      first
        | refine ParOb.plain rfl ?_
        | refine ParOb.wanted (by simp [Region.wanted, yielded, hd]) ?_
      go_simp
      refine ⟨(Ext.refl _).alloc _, fun w3 h3 => ⟨_, rfl, ?_⟩⟩
      exact (ndAt_of [numN X, numN Y, numN Z] (Blk.new W _ 38 rfl)).ext h3
    · intro vals W hx hd
      have hW := HF.out W hx
      simp [PDeps, pdeps, Region.binds] at hd
      first
        | refine ParOb.plain rfl ?_
        | refine ParOb.wanted (by simp [Region.wanted, yielded, hd]) ?_
      obtain ⟨g, hv, hN⟩ := hd
      go_simp
      exact ParPost.same fun w3 h3 => ⟨⟨9, 0, ⟨#[]⟩, ⟨#[]⟩, 1, some ⟨g, 0, none⟩, 3, 3⟩, rfl, ev_in 1 (.inr rfl) (hN.ext h3) (ev_num _) (ev_num _) (ev_num _)⟩
    · intro vals W hx hd
      have hW := HF.out W hx
      simp [PDeps, pdeps, Region.binds] at hd
      first
        | refine ParOb.plain rfl ?_
        | refine ParOb.wanted (by simp [Region.wanted, yielded, hd]) ?_
      go_simp
      exact ParPost.same fun _ _ => rfl
    · intro vals W hx hd
      have hW := HF.out W hx
      simp [PDeps, pdeps, Region.binds] at hd
      first
        | refine ParOb.plain rfl ?_
        | refine ParOb.wanted (by simp [Region.wanted, yielded, hd]) ?_
      go_simp
      exact ParPost.same fun _ _ => rfl
    · intro vals W hx hd
      have hW := HF.out W hx
      simp [PDeps, pdeps, Region.binds] at hd
      first
        | refine ParOb.plain rfl ?_
        | refine ParOb.wanted (by simp [Region.wanted, yielded, hd]) ?_
      go_simp
      exact ParPost.same fun _ _ => rfl
    · intro vals W hx hd
      have hW := HF.out W hx
      simp [PDeps, pdeps, Region.binds] at hd
      first
        | refine ParOb.plain rfl ?_
        | refine ParOb.wanted (by simp [Region.wanted, yielded, hd]) ?_
      go_simp
      exact ParPost.same fun _ _ => rfl
    · intro vals W hx hd
      have hW := HF.out W hx
      simp [PDeps, pdeps, Region.binds] at hd
      first
        | refine ParOb.plain rfl ?_
        | refine ParOb.wanted (by simp [Region.wanted, yielded, hd]) ?_
      go_simp
      refine Calls.mono (KE.out 2 (numN X) (numN Y) W) ?_
      rintro e w9 ⟨⟨g, rfl, hN⟩, hb9⟩
      exact ⟨_, rfl, hb9, fun w3 h3 => ⟨opN 2 g, rfl, ev_test 2 (by decide) (by decide) (hN.ext h3) (ev_num _) (ev_num _)⟩⟩
    · intro vals W hx hd
      have hW := HF.out W hx
      simp [PDeps, pdeps, Region.binds] at hd
      first
        | refine ParOb.plain rfl ?_
        | refine ParOb.wanted (by simp [Region.wanted, yielded, hd]) ?_
      go_simp
      exact ParPost.same fun _ _ => rfl
    · intro vals W hx hd
      have hW := HF.out W hx
      simp [PDeps, pdeps, Region.binds] at hd
      first
        | refine ParOb.plain rfl ?_
        | refine ParOb.wanted (by simp [Region.wanted, yielded, hd]) ?_
      go_simp
      exact ParPost.same fun _ _ => rfl
    · intro vals W hx hd
      have hW := HF.out W hx
      simp [PDeps, pdeps, Region.binds] at hd
      first
        | refine ParOb.plain rfl ?_
        | refine ParOb.wanted (by simp [Region.wanted, yielded, hd]) ?_
      go_simp
      exact ParPost.same fun _ _ => rfl
    · intro vals W hx hd
      have hW := HF.out W hx
      simp [PDeps, pdeps, Region.binds] at hd
      first
        | refine ParOb.plain rfl ?_
        | refine ParOb.wanted (by simp [Region.wanted, yielded, hd]) ?_
      go_simp
      refine Calls.mono (KE.out 2 (numN X) (numN Z) W) ?_
      rintro e w9 ⟨⟨g, rfl, hN⟩, hb9⟩
      exact ⟨_, rfl, hb9, fun w3 h3 => ⟨opN 2 g, rfl, ev_test 2 (by decide) (by decide) (hN.ext h3) (ev_num _) (ev_num _)⟩⟩
    · intro vals W hx hd
      have hW := HF.out W hx
      simp [PDeps, pdeps, Region.binds] at hd
      first
        | refine ParOb.plain rfl ?_
        | refine ParOb.wanted (by simp [Region.wanted, yielded, hd]) ?_
      obtain ⟨_, ⟨x1, hv1, hE1⟩, x2, hv2, hE2⟩ := hd
      replace hv1 : vals _ = .agg _ := hv1
      replace hv2 : vals _ = .agg _ := hv2
      go_simp
      refine Calls.mono (KE.out 18 x1 x2 W) ?_
      rintro e w9 ⟨⟨g, rfl, hN⟩, hb9⟩
      exact ⟨_, rfl, hb9, fun w3 h3 => ⟨opN 18 g, rfl, e_in1 X Y Z ▸ ev_short 18 (by decide) (tst_lt 2 X Y) (tst_lt 2 X Z) (hN.ext h3) (hE1.ext (Ext.trans hb9 h3)) fun _ => hE2.ext (Ext.trans hb9 h3)⟩⟩
    · intro vals W hx hd
      have hW := HF.out W hx
      simp [PDeps, pdeps, Region.binds] at hd
      first
        | refine ParOb.plain rfl ?_
        | refine ParOb.wanted (by simp [Region.wanted, yielded, hd]) ?_
      obtain ⟨⟨x1, hv1, hE1⟩, x2, hv2, hE2⟩ := hd
      replace hv1 : vals _ = .agg _ := hv1
      replace hv2 : vals _ = .agg _ := hv2
      go_simp
      exact ParPost.same fun w3 h3 => ⟨x1, x2, rfl, hE1.ext h3, hE2.ext h3⟩
    · intro vals W hx hd
      have hW := HF.out W hx
      simp [PDeps, pdeps, Region.binds] at hd
      first
        | refine ParOb.plain rfl ?_
        | refine ParOb.wanted (by simp [Region.wanted, yielded, hd]) ?_
      go_simp
      exact ParPost.same fun _ _ => rfl
    · intro vals W hx hd
      have hW := HF.out W hx
      simp [PDeps, pdeps, Region.binds] at hd
      first
        | refine ParOb.plain rfl ?_
        | refine ParOb.wanted (by simp [Region.wanted, yielded, hd]) ?_
      go_simp
      exact ParPost.same fun _ _ => rfl
    · intro vals W hx hd
      have hW := HF.out W hx
      simp [PDeps, pdeps, Region.binds] at hd
      first
        | refine ParOb.plain rfl ?_
        | refine ParOb.wanted (by simp [Region.wanted, yielded, hd]) ?_
      go_simp
      exact ParPost.same fun _ _ => rfl
    · intro vals W hx hd
      have hW := HF.out W hx
      simp [PDeps, pdeps, Region.binds] at hd
      first
        | refine ParOb.plain rfl ?_
        | refine ParOb.wanted (by simp [Region.wanted, yielded, hd]) ?_
      go_simp
      refine Calls.mono (KE.out 3 (numN X) (numN Y) W) ?_
      rintro e w9 ⟨⟨g, rfl, hN⟩, hb9⟩
      exact ⟨_, rfl, hb9, fun w3 h3 => ⟨opN 3 g, rfl, ev_test 3 (by decide) (by decide) (hN.ext h3) (ev_num _) (ev_num _)⟩⟩
    · intro vals W hx hd
      have hW := HF.out W hx
      simp [PDeps, pdeps, Region.binds] at hd
      first
        | refine ParOb.plain rfl ?_
        | refine ParOb.wanted (by simp [Region.wanted, yielded, hd]) ?_
      obtain ⟨x1, hv1, hE1⟩ := hd
      replace hv1 : vals _ = .agg _ := hv1
      go_simp
      refine ⟨(Ext.refl _).alloc _, fun w3 h3 => ⟨_, rfl, x1, ?_, hE1.ext (Ext.trans ((Ext.refl W).alloc _) h3)⟩⟩
      exact (ndAt_of [x1] (Blk.new W _ 38 rfl)).ext h3
    · intro vals W hx hd
      have hW := HF.out W hx
      simp [PDeps, pdeps, Region.binds] at hd
      first
        | refine ParOb.plain rfl ?_
        | refine ParOb.wanted (by simp [Region.wanted, yielded, hd]) ?_
      obtain ⟨g, hv, x1, hN, hE1⟩ := hd
      go_simp
      exact ParPost.same fun w3 h3 => ⟨⟨5, 21, ⟨#[]⟩, ⟨#[]⟩, 0, some ⟨g, 0, none⟩, 1, 1⟩, rfl, e_not X Y ▸ ev_not (tst_lt 3 X Y) (hN.ext h3) (hE1.ext h3)⟩
    · intro vals W hx hd
      have hW := HF.out W hx
      simp [PDeps, pdeps, Region.binds] at hd
      first
        | refine ParOb.plain rfl ?_
        | refine ParOb.wanted (by simp [Region.wanted, yielded, hd]) ?_
      go_simp
      exact ParPost.same fun _ _ => rfl
    · intro vals W hx hd
      have hW := HF.out W hx
      simp [PDeps, pdeps, Region.binds] at hd
      first
        | refine ParOb.plain rfl ?_
        | refine ParOb.wanted (by simp [Region.wanted, yielded, hd]) ?_
      go_simp
      exact ParPost.same fun _ _ => rfl
    · intro vals W hx hd
      have hW := HF.out W hx
      simp [PDeps, pdeps, Region.binds] at hd
      first
        | refine ParOb.plain rfl ?_
        | refine ParOb.wanted (by simp [Region.wanted, yielded, hd]) ?_
      go_simp
      exact ParPost.same fun _ _ => rfl
    · intro vals W hx hd
      have hW := HF.out W hx
      simp [PDeps, pdeps, Region.binds] at hd
      first
        | refine ParOb.plain rfl ?_
        | refine ParOb.wanted (by simp [Region.wanted, yielded, hd]) ?_
      go_simp
      refine Calls.mono (KE.out 6 (numN X) (numN Y) W) ?_
      rintro e w9 ⟨⟨g, rfl, hN⟩, hb9⟩
      exact ⟨_, rfl, hb9, fun w3 h3 => ⟨opN 6 g, rfl, ev_test 6 (by decide) (by decide) (hN.ext h3) (ev_num _) (ev_num _)⟩⟩
    · intro vals W hx hd
      have hW := HF.out W hx
      simp [PDeps, pdeps, Region.binds] at hd
      first
        | refine ParOb.plain rfl ?_
        | refine ParOb.wanted (by simp [Region.wanted, yielded, hd]) ?_
      obtain ⟨⟨x1, hv1, hE1⟩, x2, hv2, hE2⟩ := hd
      replace hv1 : vals _ = .agg _ := hv1
      replace hv2 : vals _ = .agg _ := hv2
      go_simp
      exact ParPost.same fun w3 h3 => ⟨x1, x2, rfl, hE1.ext h3, hE2.ext h3⟩
    · intro vals W hx hd
      have hW := HF.out W hx
      simp [PDeps, pdeps, Region.binds] at hd
      first
        | refine ParOb.plain rfl ?_
        | refine ParOb.wanted (by simp [Region.wanted, yielded, hd]) ?_
      obtain ⟨⟨a1, a2, hva, hA1, hA2⟩, ⟨b1, b2, hvb, hB1, hB2⟩, ⟨c1, c2, hvc, hC1, hC2⟩, d1, d2, hvd, hD1, hD2⟩ := hd
      unfold pr2 at hva hvb hvc hvd
      go_simp
      refine ⟨(Ext.refl _).alloc _, fun w3 h3 => ?_⟩
      have hx : Ext W w3 := Ext.trans ((Ext.refl W).alloc _) h3
      exact pairsAt_of rfl ((ndAt_of [a1, a2, b1, b2, c1, c2, d1, d2] (Blk.new W _ 42 rfl)).ext h3) (hA1.ext hx) (hA2.ext hx) (hB1.ext hx) (hB2.ext hx) (hC1.ext hx) (hC2.ext hx) (hD1.ext hx) (hD2.ext hx)
  intro vals W hx hf
  simp (maxSteps := 20000000) only [ParFacts, List.take_succ_cons, List.take_zero, and_true, Nat.reduceAdd] at hf
  obtain ⟨f0, f1, f2, f3, f4, f5, f6, f7, f8, f9, f10, f11, f12, f13, f14, f15, f16, f17, f18, f19, f20, f21, f22, f23, f24, f25, f26, f27, f28, f29, f30, f31, f32, f33, f34, f35, f36, f37, f38, f39, f40, f41, f42, f43, f44, f45, f46, f47, f48, f49, f50, f51, f52, f53, f54, f55, f56, f57, f58, f59⟩ := hf
  simp (maxSteps := 20000000) only [List.drop_succ_cons, List.drop_zero, List.take_succ_cons, List.take_zero, ParEnd, Act.put, List.setIfInBounds_toArray, List.set_cons_succ, List.set_cons_zero, Nat.reduceAdd, f0, f1, f2, f5, f6, f7, f8, f10, f11, f12, f16, f17, f18, f21, f22, f23, f24, f26, f27, f28, f32, f33, f34, f37, f38, f39, f40, f42, f43, f44, f48, f49, f50, f54, f55, f56]
  clear f0 f1 f2 f5 f6 f7 f8 f10 f11 f12 f16 f17 f18 f21 f22 f23 f24 f26 f27 f28 f32 f33 f34 f37 f38 f39 f40 f42 f43 f44 f48 f49 f50 f54 f55 f56
  generalize vals 3 = y3 at f3 ⊢
  generalize vals 4 = y4 at f4 ⊢
  generalize vals 9 = y9 at f9 ⊢
  generalize vals 13 = y13 at f13 ⊢
  generalize vals 14 = y14 at f14 ⊢
  generalize vals 15 = y15 at f15 ⊢
  generalize vals 19 = y19 at f19 ⊢
  generalize vals 20 = y20 at f20 ⊢
  generalize vals 25 = y25 at f25 ⊢
  generalize vals 29 = y29 at f29 ⊢
  generalize vals 30 = y30 at f30 ⊢
  generalize vals 31 = y31 at f31 ⊢
  generalize vals 35 = y35 at f35 ⊢
  generalize vals 36 = y36 at f36 ⊢
  generalize vals 41 = y41 at f41 ⊢
  generalize vals 45 = y45 at f45 ⊢
  generalize vals 46 = y46 at f46 ⊢
  generalize vals 47 = y47 at f47 ⊢
  generalize vals 51 = y51 at f51 ⊢
  generalize vals 52 = y52 at f52 ⊢
  generalize vals 53 = y53 at f53 ⊢
  generalize vals 57 = y57 at f57 ⊢
  generalize vals 58 = y58 at f58 ⊢
  generalize vals 59 = y59 at f59 ⊢
  obtain ⟨gp, hv, L, hLl, hN, hE⟩ := f59
  subst hv
  have HN := Lib.hid hN
  have HEv := Lib.hid hE
  have HX7 := Lib.hid (Ext.trans HX6.out hx)
  clear hN hE hx HF HX6 KX KY KZ f3 f4 f9 f13 f14 f15 f19 f20 f25 f29 f30 f31 f35 f36 f41 f45 f46 f47 f51 f52 f53 f57 f58
  go_simp
  repeat (first | go_values | go_skip | go_guarded | go_step | go_upon)
  go_loopw [6, 14, 15, 16, 17, 18] (fun _ i _ _ _ _ wr => ∃ j : Nat, j ≤ 4 ∧ i = .int .i64 j ∧ Ext W wr) (fun _ i _ _ _ _ _ => 4 - (intOf i).toNat)
  case atStart => exact ⟨0, by omega, rfl, Ext.refl _⟩
  case round =>
    obtain ⟨j, hj, rfl, hx⟩ := hrel
    have HX := Lib.hid hx
    clear hx
    by_cases hlt : j < 4
    · have hltI : (j : Int) < 4 := by omega
      obtain ⟨x, hxe⟩ : ∃ x, L[2 * j]? = some x := ⟨_, List.getElem?_eq_getElem (by omega)⟩
      obtain ⟨y, hye⟩ : ∃ y, L[2 * j + 1]? = some y := ⟨_, List.getElem?_eq_getElem (by omega)⟩
      have hEx := HEv.out _ x hxe
      have hEy := HEv.out _ y hye
      rw [show 2 * j / 2 = j by omega] at hEx
      rw [show (2 * j + 1) / 2 = j by omega] at hEy
      generalize truthL X Y Z j = T at hEx hEy
      have HEx := Lib.hid hEx
      have HEy := Lib.hid hEy
      have HNx := Lib.hid (fun (W2 : World) (h2 : Ext W W2) => (HN.out.ext h2).2 _ x hxe)
      have HNy := Lib.hid (fun (W2 : World) (h2 : Ext W W2) => (HN.out.ext h2).2 _ y hye)
      obtain ⟨xk, xo, xs, xt, xn, xla, xln, xlc⟩ := x
      obtain ⟨yk, yo, ys, yt, yn, yla, yln, ylc⟩ := y
      simp only [show 2 * j * 6 = j * 12 by omega, show (2 * j + 1) * 6 = j * 12 + 6 by omega] at HNx HNy
      simp only [N6.v, ndE, Ev, vV, envL, evV, tr3, emp] at HEx HEy
      clear hEx hEy hxe hye
      obtain ⟨c0, c1, c2, c3, c4, c5⟩ := HNx.out wr HX.out
      go_simp
      repeat (first | go_values | go_skip | go_guarded | go_step | go_upon)
      refine Calls.mono (HEx.out wr HX.out) ?_
      rintro e Wd ⟨rfl, hb⟩
      have HXd := Lib.hid (Ext.trans HX.out hb)
      clear hb c0 c1 c2 c3 c4 c5 HX
      obtain ⟨c0, c1, c2, c3, c4, c5⟩ := HNy.out Wd HXd.out
      simp only [Nat.add_assoc, Nat.reduceAdd] at c0 c1 c2 c3 c4 c5
      have hgl := (HN.out.ext HXd.out).1
      go_simp
      repeat (first | go_values | go_skip | go_guarded | go_step | go_upon)
      have hxd : Ext Wd (Wd.alloc (.cells #[.int .i64 (trK T), .int .i64 (trN T), .string ⟨#[]⟩] 23)) := (Ext.refl Wd).alloc _
      refine Calls.mono (HEy.out _ (Ext.trans HXd.out hxd)) ?_
      rintro e We ⟨rfl, hb⟩
      have HVe := Lib.hid ((Blk.new Wd #[.int .i64 (trK T), .int .i64 (trN T), .string ⟨#[]⟩] 23 rfl).keep hb)
      have HXe := Lib.hid (Ext.trans HXd.out (Ext.trans hxd hb))
      clear hb hxd HXd c0 c1 c2 c3 c4 c5 hgl
      obtain ⟨cV, fV⟩ := HVe.out.facts
      have hVl := HVe.out.lt
      go_simp
      repeat (first | go_values | go_skip | go_guarded | go_step | go_upon)
      refine Calls.mono (samesE _ _ _ _) ?_
      rintro e Wf ⟨rfl, hb⟩
      have HXf := Lib.hid (Ext.trans HXe.out (Ext.trans ((Ext.refl We).alloc _) hb))
      clear hb HXe HVe cV fV hVl
      go_simp
      repeat (first | go_values | go_skip | go_guarded | go_step | go_upon)
      go_roundw
      case rel =>
        refine ⟨u6, .int .i64 ((j + 1 : Nat) : Int), ⟨j + 1, by omega, rfl, HXf.out⟩, ?_⟩
        simp
      case measure => simp [intOf]; omega
    · obtain rfl : j = 4 := by omega
      rw [show ((4 : Nat) : Int) = 4 from rfl]
      go_simp
      repeat (first | go_values | go_skip | go_guarded | go_step | go_upon)
      refine Calls.mono (KA.out _) ?_
      rintro e Wg ⟨rfl, hb⟩
      have HXg := Lib.hid (Ext.trans HX7.out (Ext.trans HX.out hb))
      clear hb
      go_simp
      repeat (first | go_values | go_skip | go_guarded | go_step | go_upon)
      go_returns
      exact ⟨rfl, HXg.out⟩
end Go.Proofs.YtbdaebjpgdpcnaaGreatDoor
