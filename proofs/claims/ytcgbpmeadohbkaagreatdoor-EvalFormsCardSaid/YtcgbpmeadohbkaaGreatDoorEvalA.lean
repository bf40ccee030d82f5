import Derived.Test.YtcgbpmeadohbkaaGreatDoorParH
import Derived.Test.YtcgbpmeadohbkaaGreatDoorRwP
namespace Go.Proofs.YtcgbpmeadohbkaaGreatDoor
open Go.RowKit Go.Lib
set_option maxRecDepth 100000
def trV (t : Nat) : Value := if t = 0 then vV 1 0 emp else if t = 1 then vV 1 1 emp else vV 0 0 emp
def trK (t : Nat) : Int := if t = 2 then 0 else 1
def trN (t : Nat) : Int := if t = 1 then 1 else 0
theorem trV_eq (t : Nat) (h : t < 3) : trV t = .agg #[.int .i64 (trK t), .int .i64 (trN t), .string ⟨#[]⟩] := by
 have : t = 0 ∨ t = 1 ∨ t = 2 := by omega
 rcases this with rfl | rfl | rfl <;> rfl
theorem ret_vE {t : Tmp} {fn : Func} (h : fn.results = #[.cell t 69]) (tmps : Array Value) {w : World} {g : Nat} {cs : Array Value} (hc : cs.size = 3) (hp : tmps.getD t undef = .pointer (some ⟨g, 0, none⟩)) (hg : Blk w g cs 69) :
 (results fn tmps).run Tryz.prog w = .ok (.agg cs) w := by
 have hp' : tmps[t]?.getD undef = .pointer (some ⟨g, 0, none⟩) := by simpa using hp
 have hr := run_loadVar_row w g 69 69 cs (0, 0) _ hg Tryz.underlying69 rfl (by rw [hc]; kernel_rfl)
 simp [results, h, hp', asAddr, hr]
theorem ret_vE2 {t u : Tmp} {fn : Func} (h : fn.results = #[.cell t 69, .tmp u]) (tmps : Array Value) {w : World} {g : Nat} {cs : Array Value} (hc : cs.size = 3) (hp : tmps.getD t undef = .pointer (some ⟨g, 0, none⟩)) (hg : Blk w g cs 69) :
 (results fn tmps).run Tryz.prog w = .ok (.tuple #[.agg cs, tmps.getD u undef]) w := by
 have hp' : tmps[t]?.getD undef = .pointer (some ⟨g, 0, none⟩) := by simpa using hp
 have hr := run_loadVar_row w g 69 69 cs (0, 0) _ hg Tryz.underlying69 rfl (by rw [hc]; kernel_rfl)
 simp [results, h, hp', asAddr, hr]
set_option maxHeartbeats 1000000 in
theorem truth_any (t : Nat) (ht : t < 3) (w : World) : Calls Tryz.prog 227 #[trV t] w fun e w' => e = .returned (.int .i64 t) ∧ Below w.heap.size w w' := by
 have h : t = 0 ∨ t = 1 ∨ t = 2 := by omega
 rcases h with rfl | rfl | rfl
 ·rw [show trV 0 = .agg #[.int .i64 1, .int .i64 0, .string ⟨#[]⟩] from rfl]
  have KO := Lib.hid (fun W => (valok_any 1 0 emp W))
  rw [show vV 1 0 emp = .agg #[.int .i64 1, .int .i64 0, .string ⟨#[]⟩] from rfl, show vOk 1 0 emp = true by decide +kernel] at KO
  go_enter Tryz.func227, Tryz.ntmps227
  go_wp2_with fail
  refine Calls.mono (KO.out _) ?_
  rintro e w2 ⟨rfl, hb2⟩
  have HA := Lib.hid ((Blk.new w _ 69 rfl).keep hb2)
  have HX := Lib.hid (show Below w.heap.size w w2 from Below.trans (by go_grown) (hb2.mono (by simp)))
  obtain ⟨ca, fa⟩ := HA.out.facts
  clear hb2
  go_simp
  repeat (first | go_values | go_skip | go_guarded | go_step | go_upon)
  go_ret
  exact ⟨rfl, HX.out⟩
 ·rw [show trV 1 = .agg #[.int .i64 1, .int .i64 1, .string ⟨#[]⟩] from rfl]
  have KO := Lib.hid (fun W => (valok_any 1 1 emp W))
  rw [show vV 1 1 emp = .agg #[.int .i64 1, .int .i64 1, .string ⟨#[]⟩] from rfl, show vOk 1 1 emp = true by decide +kernel] at KO
  go_enter Tryz.func227, Tryz.ntmps227
  go_wp2_with fail
  refine Calls.mono (KO.out _) ?_
  rintro e w2 ⟨rfl, hb2⟩
  have HA := Lib.hid ((Blk.new w _ 69 rfl).keep hb2)
  have HX := Lib.hid (show Below w.heap.size w w2 from Below.trans (by go_grown) (hb2.mono (by simp)))
  obtain ⟨ca, fa⟩ := HA.out.facts
  clear hb2
  go_simp
  repeat (first | go_values | go_skip | go_guarded | go_step | go_upon)
  go_ret
  exact ⟨rfl, HX.out⟩
 ·rw [show trV 2 = .agg #[.int .i64 0, .int .i64 0, .string ⟨#[]⟩] from rfl]
  go_enter Tryz.func227, Tryz.ntmps227
  go_wp2_with fail
  go_ret
  exact ⟨rfl, by go_grown⟩
def andT (a b : Nat) : Nat := if a = 0 ∨ b = 0 then 0 else if a = 1 ∧ b = 1 then 1 else 2
def notT (a : Nat) : Nat := if a = 0 then 1 else if a = 1 then 0 else 2
def orT (a b : Nat) : Nat := notT (andT (notT a) (notT b))
theorem notT_lt (a : Nat) : notT a < 3 := by unfold notT; split <;> (try split) <;> omega
theorem andT_lt (a b : Nat) : andT a b < 3 := by unfold andT; split <;> (try split) <;> omega
set_option maxHeartbeats 1000000 in
theorem value_any (t : Nat) (ht : t < 3) (w : World) : Calls Tryz.prog 251 #[.int .i64 t] w fun e w' => e = .returned (trV t) ∧ Below w.heap.size w w' := by
 have h : t = 0 ∨ t = 1 ∨ t = 2 := by omega
 rcases h with rfl | rfl | rfl
 ·have KB := Lib.hid (fun W => valbool_any false W)
  rw [show vV 1 (bN false) emp = .agg #[.int .i64 1, .int .i64 0, .string ⟨#[]⟩] from rfl] at KB
  go_enter Tryz.func251, Tryz.ntmps251
  go_wp2_with fail
  refine Calls.mono (KB.out _) ?_
  rintro e w2 ⟨rfl, hb2⟩
  have HA := Lib.hid ((Blk.new w #[.int .i64 0, .int .i64 0, .string ⟨#[]⟩] 69 rfl).keep hb2)
  have HX := Lib.hid (show Below w.heap.size w w2 from Below.trans (by go_grown) (hb2.mono (by simp)))
  obtain ⟨ca, fa⟩ := HA.out.facts
  have hal := HA.out.lt
  clear hb2
  go_simp
  repeat (first | go_values | go_skip | go_guarded | go_step | go_upon)
  refine bodyPost_ret (ret_vE rfl _ rfl rfl (blk3 HA.out _ _ _)) rfl ?_
  exact ⟨rfl, below3 HX.out (Nat.le_refl _) _ _ _⟩
 ·have KB := Lib.hid (fun W => valbool_any true W)
  rw [show vV 1 (bN true) emp = .agg #[.int .i64 1, .int .i64 1, .string ⟨#[]⟩] from rfl] at KB
  go_enter Tryz.func251, Tryz.ntmps251
  go_wp2_with fail
  refine Calls.mono (KB.out _) ?_
  rintro e w2 ⟨rfl, hb2⟩
  have HA := Lib.hid ((Blk.new w #[.int .i64 0, .int .i64 0, .string ⟨#[]⟩] 69 rfl).keep hb2)
  have HX := Lib.hid (show Below w.heap.size w w2 from Below.trans (by go_grown) (hb2.mono (by simp)))
  obtain ⟨ca, fa⟩ := HA.out.facts
  have hal := HA.out.lt
  clear hb2
  go_simp
  repeat (first | go_values | go_skip | go_guarded | go_step | go_upon)
  refine bodyPost_ret (ret_vE rfl _ rfl rfl (blk3 HA.out _ _ _)) rfl ?_
  exact ⟨rfl, below3 HX.out (Nat.le_refl _) _ _ _⟩
 ·have KB := Lib.hid (fun W => valnull_any W)
  rw [show vV 0 0 emp = .agg #[.int .i64 0, .int .i64 0, .string ⟨#[]⟩] from rfl] at KB
  go_enter Tryz.func251, Tryz.ntmps251
  go_wp2_with fail
  refine Calls.mono (KB.out _) ?_
  rintro e w2 ⟨rfl, hb2⟩
  have HA := Lib.hid ((Blk.new w #[.int .i64 0, .int .i64 0, .string ⟨#[]⟩] 69 rfl).keep hb2)
  have HX := Lib.hid (show Below w.heap.size w w2 from Below.trans (by go_grown) (hb2.mono (by simp)))
  obtain ⟨ca, fa⟩ := HA.out.facts
  have hal := HA.out.lt
  clear hb2
  go_simp
  repeat (first | go_values | go_skip | go_guarded | go_step | go_upon)
  refine bodyPost_ret (ret_vE rfl _ rfl rfl (blk3 HA.out _ _ _)) rfl ?_
  exact ⟨rfl, below3 HX.out (Nat.le_refl _) _ _ _⟩
set_option maxHeartbeats 1000000 in
theorem not_any (t : Nat) (ht : t < 3) (w : World) : Calls Tryz.prog 219 #[trV t] w fun e w' => e = .returned (trV (notT t)) ∧ Below w.heap.size w w' := by
 have KT := Lib.hid (truth_any t ht)
 have KV := Lib.hid (value_any (notT t) (notT_lt t))
 have hix : ∀ W, (Instr.index 151 (.agg #[.int .i64 1, .int .i64 0, .int .i64 2]) (.int .i64 t)).run Tryz.prog W = .ok (.int .i64 (notT t)) W := by
  have h : t = 0 ∨ t = 1 ∨ t = 2 := by omega
  rcases h with rfl | rfl | rfl <;> exact fun _ => by kernel_rfl
 rw [trV_eq _ (notT_lt t)] at KV ⊢
 rw [trV_eq t ht] at KT ⊢
 generalize notT t = u at KV hix ⊢
 go_enter Tryz.func219, Tryz.ntmps219
 go_wp2_with fail
 refine Calls.mono (KT.out _) ?_
 rintro e w2 ⟨rfl, hb2⟩
 have HA := Lib.hid ((Blk.new (w.alloc (.cells #[.int .i64 (trK t), .int .i64 (trN t), .string ⟨#[]⟩] 69)) #[.int .i64 0, .int .i64 0, .string ⟨#[]⟩] 69 (n := w.heap.size + 1) (by simp)).keep hb2)
 have HX := Lib.hid (show Below w.heap.size w w2 from Below.trans (by go_grown) (hb2.mono (by simp; omega)))
 clear hb2
 go_simp
 repeat (first | go_values | go_skip | go_guarded | go_step | go_upon)
 refine Calls.mono (KV.out _) ?_
 rintro e w3 ⟨rfl, hb3⟩
 have HA3 := Lib.hid (HA.out.keep hb3)
 have HX3 := Lib.hid (show Below w.heap.size w w3 from Below.trans HX.out (hb3.mono HX.out.size))
 obtain ⟨ca, fa⟩ := HA3.out.facts
 have hal := HA3.out.lt
 clear hb3
 go_simp
 repeat (first | go_values | go_skip | go_guarded | go_step | go_upon)
 refine bodyPost_ret (ret_vE rfl _ rfl rfl (blk3 HA3.out _ _ _)) rfl ?_
 exact ⟨rfl, below3 HX3.out (Nat.le_succ _) _ _ _⟩
set_option maxHeartbeats 4000000 in
theorem and_any (a b : Nat) (ha : a < 3) (hb : b < 3) (w : World) : Calls Tryz.prog 189 #[trV a, trV b] w fun e w' => e = .returned (trV (andT a b)) ∧ Below w.heap.size w w' := by
 have KA := Lib.hid (truth_any a ha)
 have KB := Lib.hid (truth_any b hb)
 have K1 := Lib.hid (fun W => valbool_any true W)
 have K0 := Lib.hid (fun W => valbool_any false W)
 have KN := Lib.hid (fun W => valnull_any W)
 rw [show vV 1 (bN true) emp = .agg #[.int .i64 1, .int .i64 1, .string ⟨#[]⟩] from rfl] at K1
 rw [show vV 1 (bN false) emp = .agg #[.int .i64 1, .int .i64 0, .string ⟨#[]⟩] from rfl] at K0
 rw [show vV 0 0 emp = .agg #[.int .i64 0, .int .i64 0, .string ⟨#[]⟩] from rfl] at KN
 have hv := trV_eq _ (andT_lt a b)
 have hc : (a = 0 ∨ a = 1 ∨ a = 2) ∧ (b = 0 ∨ b = 1 ∨ b = 2) := by omega
 rw [hv, trV_eq a ha, trV_eq b hb]
 rw [trV_eq a ha] at KA
 rw [trV_eq b hb] at KB
 have HA := Lib.hid (((Blk.new w #[.int .i64 (trK a), .int .i64 (trN a), .string ⟨#[]⟩] 69 rfl).alloc (.cells #[.int .i64 (trK b), .int .i64 (trN b), .string ⟨#[]⟩] 69)).alloc (.cells #[.int .i64 0, .int .i64 0, .string ⟨#[]⟩] 69))
 have HB := Lib.hid ((Blk.new (w.alloc (.cells #[.int .i64 (trK a), .int .i64 (trN a), .string ⟨#[]⟩] 69)) #[.int .i64 (trK b), .int .i64 (trN b), .string ⟨#[]⟩] 69 (n := w.heap.size + 1) (by simp)).alloc (.cells #[.int .i64 0, .int .i64 0, .string ⟨#[]⟩] 69))
 have HR := Lib.hid (Blk.new ((w.alloc (.cells #[.int .i64 (trK a), .int .i64 (trN a), .string ⟨#[]⟩] 69)).alloc (.cells #[.int .i64 (trK b), .int .i64 (trN b), .string ⟨#[]⟩] 69)) #[.int .i64 0, .int .i64 0, .string ⟨#[]⟩] 69 (n := w.heap.size + 1 + 1) (by simp))
 have HX := Lib.hid (show Below w.heap.size w (((w.alloc (.cells #[.int .i64 (trK a), .int .i64 (trN a), .string ⟨#[]⟩] 69)).alloc (.cells #[.int .i64 (trK b), .int .i64 (trN b), .string ⟨#[]⟩] 69)).alloc (.cells #[.int .i64 0, .int .i64 0, .string ⟨#[]⟩] 69)) by go_grown)
 go_enter Tryz.func189, Tryz.ntmps189
 go_wp2_with fail
 generalize (((w.alloc (.cells #[.int .i64 (trK a), .int .i64 (trN a), .string ⟨#[]⟩] 69)).alloc (.cells #[.int .i64 (trK b), .int .i64 (trN b), .string ⟨#[]⟩] 69)).alloc (.cells #[.int .i64 0, .int .i64 0, .string ⟨#[]⟩] 69)) = W0 at HA HB HR HX ⊢
 have HF := Lib.hid (show ∀ W, Ext W0 W → (∀ o, W.cell? ⟨w.heap.size, o, none⟩ = #[.int .i64 (trK a), .int .i64 (trN a), .string ⟨#[]⟩][o]?) ∧ (∀ o, W.cell? ⟨w.heap.size + 1, o, none⟩ = #[.int .i64 (trK b), .int .i64 (trN b), .string ⟨#[]⟩][o]?) from fun W hW => ⟨(HA.out.keep hW).cell, (HB.out.keep hW).cell⟩)
 refine wp_par 5 (fun
  | 0 => fun v _ => v = .agg #[.int .i64 (trK a), .int .i64 (trN a), .string ⟨#[]⟩]
  | 1 => fun v _ => v = .int .i64 (a : Int)
  | 2 => fun v _ => v = .agg #[.int .i64 (trK b), .int .i64 (trN b), .string ⟨#[]⟩]
  | 3 => fun v _ => v = .int .i64 (b : Int)
  | 4 => fun v _ => v = .agg #[.int .i64 (a : Int), .int .i64 (b : Int)]
  | _ => fun _ _ => True) (by kernel_rfl) (by kernel_rfl) (by kernel_rfl) ?_ ?_
 ·simp (maxSteps := 20000000) only [List.take_succ_cons, List.take_zero, ParAll, Act.put, List.setIfInBounds_toArray, List.set_cons_succ, List.set_cons_zero]
  refine ⟨?_, ?_, ?_, ?_, ?_, trivial⟩
  all_goals
   intro vals W hx hd
   have hW := HF.out W hx
   simp [PDeps, pdeps, Region.binds] at hd
   first
    | refine ParOb.plain rfl ?_
    | refine ParOb.wanted (by simp [Region.wanted, yielded, hd]) ?_
  ·go_simp
   exact ParPost.same fun _ _ => rfl
  ·go_simp
   refine Calls.mono (KA.out W) ?_
   rintro e w9 ⟨rfl, hb9⟩
   exact ⟨_, rfl, hb9, fun _ _ => rfl⟩
  ·go_simp
   exact ParPost.same fun _ _ => rfl
  ·go_simp
   refine Calls.mono (KB.out W) ?_
   rintro e w9 ⟨rfl, hb9⟩
   exact ⟨_, rfl, hb9, fun _ _ => rfl⟩
  ·go_simp
   exact ParPost.same fun _ _ => rfl
 intro vals W hx hf
 simp (maxSteps := 20000000) only [ParFacts, List.take_succ_cons, List.take_zero, and_true] at hf
 simp (maxSteps := 20000000) only [List.drop_succ_cons, List.drop_zero, List.take_succ_cons, List.take_zero, ParEnd, Act.put, List.setIfInBounds_toArray, List.set_cons_succ, List.set_cons_zero, hf]
 clear hf
 have HR1 := Lib.hid (HR.out.keep hx)
 have HX1 := Lib.hid (show Below w.heap.size w W from Below.trans HX.out (hx.mono HX.out.size))
 clear hx HF HA HB HR HX KA KB hv
 generalize hg : w.heap.size + 1 + 1 = R at HR1 ⊢
 have hR : w.heap.size ≤ R := by omega
 clear hg ha hb
 have hpe := fun a b c d => pairEq a b c d W
 have hpg := fun (x y : Operand) (a b c d : Int) => run_eqGuard_agg (P := Tryz.prog) W .eql 266 x y #[.int .i64 a, .int .i64 b] #[.int .i64 c, .int .i64 d] pairGuard
 rcases hc with ⟨rfl | rfl | rfl, rfl | rfl | rfl⟩
 all_goals
  first
   | rw [show ((0 : Nat) : Int) = 0 from rfl]
   | skip
  first
   | rw [show ((1 : Nat) : Int) = 1 from rfl]
   | skip
  first
   | rw [show ((2 : Nat) : Int) = 2 from rfl]
   | skip
  go_wp2_with (unfold Oper.upon; simp only [hpe, Result.andThen_ok])
  first
   | (refine Calls.mono (K1.out _) ?_; rintro e w3 ⟨rfl, hb3⟩)
   | (refine Calls.mono (K0.out _) ?_; rintro e w3 ⟨rfl, hb3⟩)
   | (refine Calls.mono (KN.out _) ?_; rintro e w3 ⟨rfl, hb3⟩)
  have HR3 := Lib.hid (HR1.out.keep hb3)
  have HX3 := Lib.hid (show Below w.heap.size w w3 from Below.trans HX1.out (hb3.mono HX1.out.size))
  clear hpe hpg hb3
  obtain ⟨ca, fa⟩ := HR3.out.facts
  have hal := HR3.out.lt
  go_simp
  repeat (first | go_values | go_skip | go_guarded | go_step | go_upon)
  refine bodyPost_ret (ret_vE rfl _ rfl rfl (blk3 HR3.out _ _ _)) rfl ?_
  exact ⟨rfl, below3 HX3.out hR _ _ _⟩
end Go.Proofs.YtcgbpmeadohbkaaGreatDoor
