import Derived.Test.YtcgbpmeadohbkaaGreatDoorEvalA
import Derived.Test.YtcgbpmeadohbkaaGreatDoorParL
namespace Go.Proofs.YtcgbpmeadohbkaaGreatDoor
open Go.RowKit Go.Lib
set_option maxRecDepth 100000
theorem orT_lt (a b : Nat) : orT a b < 3 := notT_lt _
namespace Y
set_option maxHeartbeats 4000000 in
theorem or_any (a b : Nat) (ha : a < 3) (hb : b < 3) (w : World) : Calls Tryz.prog 187 #[trV a, trV b] w fun e w' => e = .returned (trV (orT a b)) ∧ Below w.heap.size w w' := by
 have K1 := Lib.hid (not_any a ha)
 have K2 := Lib.hid (not_any b hb)
 have K3 := Lib.hid (and_any (notT a) (notT b) (notT_lt a) (notT_lt b))
 have K4 := Lib.hid (not_any (andT (notT a) (notT b)) (andT_lt _ _))
 rw [show notT (andT (notT a) (notT b)) = orT a b from rfl] at K4
 rw [trV_eq _ (orT_lt a b), trV_eq a ha, trV_eq b hb]
 rw [trV_eq a ha, trV_eq _ (notT_lt a)] at K1
 rw [trV_eq b hb, trV_eq _ (notT_lt b)] at K2
 rw [trV_eq _ (notT_lt a), trV_eq _ (notT_lt b), trV_eq _ (andT_lt _ _)] at K3
 rw [trV_eq _ (andT_lt _ _), trV_eq _ (orT_lt a b)] at K4
 generalize orT a b = u at K4 ⊢
 generalize andT (notT a) (notT b) = vv at K3 K4
 generalize notT a = c at K1 K3
 generalize notT b = d at K2 K3
 have HA := Lib.hid (((Blk.new w #[.int .i64 (trK a), .int .i64 (trN a), .string ⟨#[]⟩] 69 rfl).alloc (.cells #[.int .i64 (trK b), .int .i64 (trN b), .string ⟨#[]⟩] 69)).alloc (.cells #[.int .i64 0, .int .i64 0, .string ⟨#[]⟩] 69))
 have HB := Lib.hid ((Blk.new (w.alloc (.cells #[.int .i64 (trK a), .int .i64 (trN a), .string ⟨#[]⟩] 69)) #[.int .i64 (trK b), .int .i64 (trN b), .string ⟨#[]⟩] 69 (n := w.heap.size + 1) (by simp)).alloc (.cells #[.int .i64 0, .int .i64 0, .string ⟨#[]⟩] 69))
 have HR := Lib.hid (Blk.new ((w.alloc (.cells #[.int .i64 (trK a), .int .i64 (trN a), .string ⟨#[]⟩] 69)).alloc (.cells #[.int .i64 (trK b), .int .i64 (trN b), .string ⟨#[]⟩] 69)) #[.int .i64 0, .int .i64 0, .string ⟨#[]⟩] 69 (n := w.heap.size + 1 + 1) (by simp))
 have HX := Lib.hid (show Below w.heap.size w (((w.alloc (.cells #[.int .i64 (trK a), .int .i64 (trN a), .string ⟨#[]⟩] 69)).alloc (.cells #[.int .i64 (trK b), .int .i64 (trN b), .string ⟨#[]⟩] 69)).alloc (.cells #[.int .i64 0, .int .i64 0, .string ⟨#[]⟩] 69)) by go_grown)
 go_enter Tryz.func187, Tryz.ntmps187
 go_wp2_with fail
 generalize (((w.alloc (.cells #[.int .i64 (trK a), .int .i64 (trN a), .string ⟨#[]⟩] 69)).alloc (.cells #[.int .i64 (trK b), .int .i64 (trN b), .string ⟨#[]⟩] 69)).alloc (.cells #[.int .i64 0, .int .i64 0, .string ⟨#[]⟩] 69)) = W0 at HA HB HR HX ⊢
 have HF := Lib.hid (show ∀ W, Ext W0 W → (∀ o, W.cell? ⟨w.heap.size, o, none⟩ = #[.int .i64 (trK a), .int .i64 (trN a), .string ⟨#[]⟩][o]?) ∧ (∀ o, W.cell? ⟨w.heap.size + 1, o, none⟩ = #[.int .i64 (trK b), .int .i64 (trN b), .string ⟨#[]⟩][o]?) from fun W hW => ⟨(HA.out.keep hW).cell, (HB.out.keep hW).cell⟩)
 refine wp_parZH [0, 1, 2, 3, 4, 5, 6] 6 6 (fun
  | 0 => fun v _ => v = .agg #[.int .i64 (trK a), .int .i64 (trN a), .string ⟨#[]⟩]
  | 1 => fun v _ => v = .agg #[.int .i64 (trK c), .int .i64 (trN c), .string ⟨#[]⟩]
  | 2 => fun v _ => v = .agg #[.int .i64 (trK b), .int .i64 (trN b), .string ⟨#[]⟩]
  | 3 => fun v _ => v = .agg #[.int .i64 (trK d), .int .i64 (trN d), .string ⟨#[]⟩]
  | 4 => fun v _ => v = .agg #[.int .i64 (trK vv), .int .i64 (trN vv), .string ⟨#[]⟩]
  | 5 => fun v _ => v = .agg #[.int .i64 (trK u), .int .i64 (trN u), .string ⟨#[]⟩]
  | _ => fun _ _ => True) (fun
  | _ => undef) (by kernel_rfl) (by kernel_rfl) (by kernel_rfl) ?_ ?_ ?_
 ·simp (maxSteps := 20000000) only [permL, permOp, List.filterMap_cons, List.filterMap_nil, List.getElem?_cons_succ, List.getElem?_cons_zero, Option.map_some, Option.map_none, List.take_succ_cons, List.take_zero, ParAll, Act.put, List.setIfInBounds_toArray, List.set_cons_succ, List.set_cons_zero]
  refine ⟨?_, ?_, ?_, ?_, ?_, ?_, trivial⟩
  all_goals
   intro vals W hx hd
   have hW := HF.out W hx
   simp [PDeps, pdeps, Region.binds, List.idxOf_cons] at hd
   first
    | refine ParOb.plain rfl ?_
    | refine ParOb.wanted (by simp [Region.wanted, yielded, hd]) ?_
  ·go_simp
   exact ParPost.same fun _ _ => rfl
  ·go_simp
   refine Calls.mono (K1.out W) ?_
   rintro e w9 ⟨rfl, hb9⟩
   exact ⟨_, rfl, hb9, fun _ _ => rfl⟩
  ·go_simp
   exact ParPost.same fun _ _ => rfl
  ·go_simp
   refine Calls.mono (K2.out W) ?_
   rintro e w9 ⟨rfl, hb9⟩
   exact ⟨_, rfl, hb9, fun _ _ => rfl⟩
  ·go_simp
   refine Calls.mono (K3.out W) ?_
   rintro e w9 ⟨rfl, hb9⟩
   exact ⟨_, rfl, hb9, fun _ _ => rfl⟩
  ·go_simp
   refine Calls.mono (K4.out W) ?_
   rintro e w9 ⟨rfl, hb9⟩
   exact ⟨_, rfl, hb9, fun _ _ => rfl⟩
 ·simp (maxSteps := 20000000) only [permL, permOp, List.filterMap_cons, List.filterMap_nil, List.getElem?_cons_succ, List.getElem?_cons_zero, Option.map_some, Option.map_none, List.drop_succ_cons, List.drop_zero, List.take_succ_cons, List.take_zero, Nat.reduceSub, ZAll, ParEnd, Act.put, List.setIfInBounds_toArray, List.set_cons_succ, List.set_cons_zero]
 intro vals W hx hf hz
 simp (maxSteps := 20000000) only [permL, permOp, List.filterMap_cons, List.filterMap_nil, List.getElem?_cons_succ, List.getElem?_cons_zero, Option.map_some, Option.map_none, ParFacts, List.take_succ_cons, List.take_zero, and_true, Nat.reduceAdd] at hf
 obtain ⟨f0, f1, f2, f3, f4, f5⟩ := hf
 clear hz
 simp (maxSteps := 20000000) only [permL, permOp, List.filterMap_cons, List.filterMap_nil, List.getElem?_cons_succ, List.getElem?_cons_zero, Option.map_some, Option.map_none, List.drop_succ_cons, List.drop_zero, List.take_succ_cons, List.take_zero, Nat.reduceSub, ParEnd, ZTail, Act.put, List.setIfInBounds_toArray, List.set_cons_succ, List.set_cons_zero, Nat.reduceAdd, f0, f1, f2, f3, f4, f5]
 clear f0 f1 f2 f3 f4 f5
 have HR1 := Lib.hid (HR.out.keep hx)
 have HX1 := Lib.hid (show Below w.heap.size w W from Below.trans HX.out (hx.mono HX.out.size))
 clear hx HF HA HB HR HX
 generalize hg : w.heap.size + 1 + 1 = R at HR1 ⊢
 have hR : w.heap.size ≤ R := by omega
 clear hg
 obtain ⟨ca, fa⟩ := HR1.out.facts
 have hal := HR1.out.lt
 refine ⟨?_⟩
 go_simp
 repeat (first | go_values | go_skip | go_guarded | go_step | go_upon)
 refine bodyPost_ret (ret_vE rfl _ rfl rfl (blk3 HR1.out _ _ _)) rfl ?_
 exact ⟨rfl, below3 HX1.out hR _ _ _⟩
end Y
def evV (ra : Option Addr) (rn rc : Nat) (aa : Option Addr) (an ac : Nat) (q : Option Addr) (by_ : Int) : Value := .agg #[.slice ra rn rc, .slice aa an ac, .pointer q, .int .i64 by_]
end Go.Proofs.YtcgbpmeadohbkaaGreatDoor
namespace Go.Proofs.YtcgbpmeadohbkaaGreatDoor
open Go.RowKit Go.Lib
set_option maxRecDepth 100000
def oK (x : Option Int) : Int := match x with
 | some _ => 2
 | none => 0
def oN (x : Option Int) : Int := match x with
 | some n => n
 | none => 0
theorem o_clean (x : Option Int) : cK (oK x) (oN x) emp = oK x ∧ cN (oK x) (oN x) emp = oN x ∧ cS (oK x) (oN x) emp = emp := by
 have h : vOk (oK x) (oN x) emp = true := by
  cases x with
  | none => decide +kernel
  | some n =>
   show vOk 2 n emp = true
   unfold vOk
   rw [if_neg (by decide), if_neg (by decide), if_pos rfl]
   decide +kernel
 unfold cK cN cS
 rw [h]
 exact ⟨rfl, rfl, rfl⟩
def ndE (k o : Int) (s t : ByteArray) (n : Int) (la : Option Addr) (ln lc : Nat) : Value := .agg #[.int .i64 k, .int .i64 o, .string s, .string t, .int .i64 n, .slice la ln lc]
set_option maxHeartbeats 2000000 in
theorem lit_int (o : Int) (s t : ByteArray) (n : Int) (la : Option Addr) (ln lc : Nat) (ra : Option Addr) (rn rc : Nat) (aa : Option Addr) (an ac : Nat) (q : Option Addr) (by_ : Int) (w : World) :
 Calls Tryz.prog 102 #[evV ra rn rc aa an ac q by_, ndE 2 o s t n la ln lc] w fun e w' => e = .returned (.tuple #[vV 2 n emp, .int .i64 0]) ∧ Below w.heap.size w w' := by
 have KI := Lib.hid (fun W => valint_any n W)
 simp only [vV, evV, ndE, emp] at KI ⊢
 have HR := Lib.hid (Blk.new ((w.alloc (.cells #[.slice ra rn rc, .slice aa an ac, .pointer q, .int .i64 by_] 74)).alloc (.cells #[.int .i64 2, .int .i64 o, .string s, .string t, .int .i64 n, .slice la ln lc] 24)) #[.int .i64 0, .int .i64 0, .string ⟨#[]⟩] 69 (n := w.heap.size + 1 + 1) (by simp))
 go_enter Tryz.func102, Tryz.ntmps102
 go_wp2_with fail
 refine Calls.mono (KI.out _) ?_
 rintro e w2 ⟨rfl, hb2⟩
 have HR2 := Lib.hid (HR.out.keep hb2)
 have HX := Lib.hid (show Below w.heap.size w w2 from Below.trans (by go_grown) (hb2.mono (by simp; omega)))
 obtain ⟨ca, fa⟩ := HR2.out.facts
 have hal := HR2.out.lt
 clear hb2
 go_simp
 repeat (first | go_values | go_skip | go_guarded | go_step | go_upon)
 refine bodyPost_ret (ret_vE2 rfl _ rfl rfl (blk3 HR2.out _ _ _)) rfl ?_
 exact ⟨rfl, below3 HX.out (by omega) _ _ _⟩
set_option maxHeartbeats 2000000 in
theorem lit_null (o : Int) (s t : ByteArray) (n : Int) (la : Option Addr) (ln lc : Nat) (ra : Option Addr) (rn rc : Nat) (aa : Option Addr) (an ac : Nat) (q : Option Addr) (by_ : Int) (w : World) :
 Calls Tryz.prog 102 #[evV ra rn rc aa an ac q by_, ndE 0 o s t n la ln lc] w fun e w' => e = .returned (.tuple #[vV 0 0 emp, .int .i64 0]) ∧ Below w.heap.size w w' := by
 have KI := Lib.hid (fun W => valnull_any W)
 simp only [vV, evV, ndE, emp] at KI ⊢
 have HR := Lib.hid (Blk.new ((w.alloc (.cells #[.slice ra rn rc, .slice aa an ac, .pointer q, .int .i64 by_] 74)).alloc (.cells #[.int .i64 0, .int .i64 o, .string s, .string t, .int .i64 n, .slice la ln lc] 24)) #[.int .i64 0, .int .i64 0, .string ⟨#[]⟩] 69 (n := w.heap.size + 1 + 1) (by simp))
 go_enter Tryz.func102, Tryz.ntmps102
 go_wp2_with fail
 refine Calls.mono (KI.out _) ?_
 rintro e w2 ⟨rfl, hb2⟩
 have HR2 := Lib.hid (HR.out.keep hb2)
 have HX := Lib.hid (show Below w.heap.size w w2 from Below.trans (by go_grown) (hb2.mono (by simp; omega)))
 obtain ⟨ca, fa⟩ := HR2.out.facts
 have hal := HR2.out.lt
 clear hb2
 go_simp
 repeat (first | go_values | go_skip | go_guarded | go_step | go_upon)
 refine bodyPost_ret (ret_vE2 rfl _ rfl rfl (blk3 HR2.out _ _ _)) rfl ?_
 exact ⟨rfl, below3 HX.out (by omega) _ _ _⟩
set_option maxHeartbeats 2000000 in
theorem lit_false (o : Int) (s t : ByteArray) (la : Option Addr) (ln lc : Nat) (ra : Option Addr) (rn rc : Nat) (aa : Option Addr) (an ac : Nat) (q : Option Addr) (by_ : Int) (w : World) :
 Calls Tryz.prog 102 #[evV ra rn rc aa an ac q by_, ndE 1 o s t 0 la ln lc] w fun e w' => e = .returned (.tuple #[vV 1 0 emp, .int .i64 0]) ∧ Below w.heap.size w w' := by
 have KI := Lib.hid (fun W => valbool_any false W)
 simp only [vV, evV, ndE, emp, bN] at KI ⊢
 have HR := Lib.hid (Blk.new ((w.alloc (.cells #[.slice ra rn rc, .slice aa an ac, .pointer q, .int .i64 by_] 74)).alloc (.cells #[.int .i64 1, .int .i64 o, .string s, .string t, .int .i64 0, .slice la ln lc] 24)) #[.int .i64 0, .int .i64 0, .string ⟨#[]⟩] 69 (n := w.heap.size + 1 + 1) (by simp))
 go_enter Tryz.func102, Tryz.ntmps102
 go_wp2_with fail
 refine Calls.mono (KI.out _) ?_
 rintro e w2 ⟨rfl, hb2⟩
 have HR2 := Lib.hid (HR.out.keep hb2)
 have HX := Lib.hid (show Below w.heap.size w w2 from Below.trans (by go_grown) (hb2.mono (by simp; omega)))
 obtain ⟨ca, fa⟩ := HR2.out.facts
 have hal := HR2.out.lt
 clear hb2
 go_simp
 repeat (first | go_values | go_skip | go_guarded | go_step | go_upon)
 refine bodyPost_ret (ret_vE2 rfl _ rfl rfl (blk3 HR2.out _ _ _)) rfl ?_
 exact ⟨rfl, below3 HX.out (by omega) _ _ _⟩
def wayE (n : FuncId) : Value := .func (.func n) #[] #[]
def waysE : Array Value := #[wayE 102, wayE 102, wayE 102, wayE 102, wayE 103, wayE 104, wayE 105, wayE 106, wayE 107, wayE 108, wayE 109, wayE 110, wayE 111, wayE 112, wayE 103]
theorem infoWaysE : (Tryz.prog.info? 128).map (·.size) = some 15 := by kernel_rfl
theorem ret_waysE {t : Tmp} {fn : Func} (h : fn.results = #[.cell t 128]) (tmps : Array Value) {w : World} {g : Nat} {cs : Array Value} (hc : cs.size = 15) (hp : tmps.getD t undef = .pointer (some ⟨g, 0, none⟩)) (hg : Blk w g cs 128) :
 (results fn tmps).run Tryz.prog w = .ok (.agg cs) w := by
 have hp' : tmps[t]?.getD undef = .pointer (some ⟨g, 0, none⟩) := by simpa using hp
 have hr := run_loadVar_row w g 128 128 cs (0, 0) _ hg Tryz.underlying128 rfl (by rw [hc]; kernel_rfl)
 simp [results, h, hp', asAddr, hr]
set_option maxHeartbeats 2000000 in
theorem evalways_any (w : World) : Calls Tryz.prog 60 #[] w fun e w' => e = .returned (.agg waysE) ∧ Below w.heap.size w w' := by
 go_enter Tryz.func60, Tryz.ntmps60
 go_wp2_with (refine wpList_store_row rfl 128 (.tmp 0) (.tmp 1) rfl w.heap.size waysE rfl rfl 128 (Array.replicate 15 .nilFunc) (Blk.new w _ _ rfl) infoWaysE rfl (by simp [waysE, wayE, Value.oneCell']) ?_)
 rw [World.setRow_alloc_new]
 refine bodyPost_ret (ret_waysE rfl _ rfl rfl (Blk.new w _ _ rfl)) rfl ?_
 exact ⟨rfl, by go_grown⟩
end Go.Proofs.YtcgbpmeadohbkaaGreatDoor
namespace Go.Proofs.YtcgbpmeadohbkaaGreatDoor
open Go.RowKit Go.Lib
set_option maxRecDepth 100000
structure LeW (Fr : Nat → Prop) (V : Array Value) (w w' : World) : Prop where
 os : w'.os = w.os
 tape : w'.tape = w.tape
 out : w'.output = w.output
 size : w.heap.size ≤ w'.heap.size
 old : ∀ i, i < w.heap.size → ¬ Fr i → w'.heap[i]? = w.heap[i]?
 row : ∀ g cs, Blk w g cs 69 → cs.size = 3 → ∃ cs', Blk w' g cs' 69 ∧ cs'.size = 3
 keep : ∀ g, Blk w g V 69 → Blk w' g V 69
theorem leW (Fr : Nat → Prop) (V : Array Value) : IsLe (LeW Fr V) :=
 ⟨fun _ => ⟨rfl, rfl, rfl, Nat.le_refl _, fun _ _ _ => rfl, fun g cs h hs => ⟨cs, h, hs⟩, fun _ h => h⟩,
  fun {a b c} h k => ⟨k.os.trans h.os, k.tape.trans h.tape, k.out.trans h.out, Nat.le_trans h.size k.size, fun i h1 h2 => (k.old i (Nat.lt_of_lt_of_le h1 h.size) h2).trans (h.old i h1 h2), fun g cs hb hs => by
   obtain ⟨cs1, h1, h2⟩ := h.row g cs hb hs
   exact k.row g cs1 h1 h2, fun g hb => k.keep g (h.keep g hb)⟩,
  fun {a b} h => ⟨h.os, h.tape, h.out, h.size, h.old, h.row, h.keep⟩⟩
theorem LeW.ofExt {Fr : Nat → Prop} {V : Array Value} {w w' : World} (h : Ext w w') : LeW Fr V w w' :=
 ⟨h.os, h.tape, h.output, h.size, fun i hi _ => h.block i hi, fun _ cs hb hs => ⟨cs, hb.keep h, hs⟩, fun _ hb => hb.keep h⟩
theorem LeW.blk {Fr : Nat → Prop} {V : Array Value} {w w' : World} (h : LeW Fr V w w') {i : Nat} {cs : Array Value} {t : TypeId} (hb : Blk w i cs t) (hn : ¬ Fr i) : Blk w' i cs t := (h.old i hb.lt hn).trans hb
theorem LeW.below {Fr : Nat → Prop} {V : Array Value} {w0 w w' : World} (h0 : Below w0.heap.size w0 w) (h : LeW Fr V w w') (hf : ∀ i, Fr i → w0.heap.size ≤ i) : Below w0.heap.size w0 w' :=
 ⟨h.os.trans h0.os, h.tape.trans h0.tape, h.out.trans h0.output, Nat.le_trans h0.size h.size, fun i hi => (h.old i (Nat.lt_of_lt_of_le hi h0.size) (fun hF => by have := hf i hF; omega)).trans (h0.block i hi)⟩
theorem LeW.setRow {Fr : Nat → Prop} {g : Nat} {w : World} {old V : Array Value} (hg : Blk w g old 69) (hB : Fr g) (hs : V.size = 3) : LeW Fr V w (w.setRow g V) :=
 ⟨rfl, rfl, rfl, by simp, fun i _ hi => setRow_other w g i V (fun e => hi (e ▸ hB)), fun k ck hb hk => by
  by_cases he : k = g
  ·subst he
   exact ⟨V, setRow_heap w k old V _ _ hg, hs⟩
  ·exact ⟨ck, (setRow_other w g k V he).trans hb, hk⟩, fun k hb => by
  by_cases he : k = g
  ·subst he
   exact setRow_heap w k old V _ _ hg
  ·exact (setRow_other w g k V he).trans hb⟩
theorem yields_storeV {o : Oper} {ρ : Operand → Value} {w : World} {Y : Value → World → Prop} {x y : Operand} {g : Nat} {old cs : Array Value} (ho : o.op = .store 69 x y) (hx : ρ x = .pointer (some ⟨g, 0, none⟩)) (hy : ρ y = .agg cs) (hg : Blk w g old 69) (hold : old.size = 3) (hcs : cs.size = 3)
 (h1 : cs.all (·.oneCell') = true) (h : Y undef (w.setRow g cs)) : yields Tryz.prog o ρ w Y := by
 have hr := run_storeVar_row (P := Tryz.prog) w g 69 69 old cs hg (by rw [hcs]; kernel_rfl) (by omega) h1
 unfold yields execOp
 simp only [ho, hx, hy, Instr.storeAt, Instr.sureAddr, Sem.run_bind, Sem.run_pure, Result.andThen_ok, hr]
 exact h
def filledV (R : Nat) (V : Array Value) (_ : Value) (w : World) : Prop := Blk w R V 69
set_option maxHeartbeats 8000000 in
theorem node_any (k : Int) (hk : 0 ≤ k ∧ k ≤ 14) (f : FuncId) (hidx : ∀ W, (Instr.index 128 (.agg waysE) (.int .i64 k)).run Tryz.prog W = .ok (.func (.func f) #[] #[]) W) (heg : ∀ args W, (callFunc f args).run Tryz.prog W = .ok (.enter f args) W)
 (o : Int) (s t : ByteArray) (n : Int) (la : Option Addr) (ln lc : Nat) (ra : Option Addr) (rn rc : Nat) (aa : Option Addr) (an ac : Nat) (q : Option Addr) (by_ : Int) (vk vn : Int) (vs : ByteArray) (er : Int) (w : World)
 (hcall : ∀ W, Ext w W → Calls Tryz.prog f #[evV ra rn rc aa an ac q by_, ndE k o s t n la ln lc] W fun e w' => e = .returned (.tuple #[vV vk vn vs, .int .i64 er]) ∧ Below W.heap.size W w') :
 Calls Tryz.prog 30 #[ndE k o s t n la ln lc, evV ra rn rc aa an ac q by_] w fun e w' => e = .returned (.tuple #[vV vk vn vs, .int .i64 er]) ∧ Below w.heap.size w w' := by
 have mixed : Tryz.prog.follows .mixedOrders = true := by kernel_rfl
 have HC := Lib.hid hcall
 have KW := Lib.hid (fun W => evalways_any W)
 have HI := Lib.hid hidx
 have HEg := Lib.hid heg
 clear heg
 obtain ⟨hk1, hk2⟩ := hk
 have hk3 : ¬ k < 0 := by omega
 have hk4 : ¬ 14 < k := by omega
 clear hcall hidx hk1 hk2
 simp only [vV, evV, ndE] at HC ⊢
 have HN0 := Lib.hid (((Blk.new w #[.int .i64 k, .int .i64 o, .string s, .string t, .int .i64 n, .slice la ln lc] 24 rfl).alloc (.cells #[.slice ra rn rc, .slice aa an ac, .pointer q, .int .i64 by_] 74)).alloc (.cells #[.int .i64 0, .int .i64 0, .string ⟨#[]⟩] 69))
 have HE0 := Lib.hid ((Blk.new (w.alloc (.cells #[.int .i64 k, .int .i64 o, .string s, .string t, .int .i64 n, .slice la ln lc] 24)) #[.slice ra rn rc, .slice aa an ac, .pointer q, .int .i64 by_] 74 (n := w.heap.size + 1) (by simp)).alloc (.cells #[.int .i64 0, .int .i64 0, .string ⟨#[]⟩] 69))
 have HR0 := Lib.hid (Blk.new ((w.alloc (.cells #[.int .i64 k, .int .i64 o, .string s, .string t, .int .i64 n, .slice la ln lc] 24)).alloc (.cells #[.slice ra rn rc, .slice aa an ac, .pointer q, .int .i64 by_] 74)) #[.int .i64 0, .int .i64 0, .string ⟨#[]⟩] 69 (n := w.heap.size + 1 + 1) (by simp))
 have HX0 := Lib.hid (show Below w.heap.size w (((w.alloc (.cells #[.int .i64 k, .int .i64 o, .string s, .string t, .int .i64 n, .slice la ln lc] 24)).alloc (.cells #[.slice ra rn rc, .slice aa an ac, .pointer q, .int .i64 by_] 74)).alloc (.cells #[.int .i64 0, .int .i64 0, .string ⟨#[]⟩] 69)) by go_grown)
 go_enter Tryz.func30, Tryz.ntmps30
 go_wp2_with fail
 generalize (((w.alloc (.cells #[.int .i64 k, .int .i64 o, .string s, .string t, .int .i64 n, .slice la ln lc] 24)).alloc (.cells #[.slice ra rn rc, .slice aa an ac, .pointer q, .int .i64 by_] 74)).alloc (.cells #[.int .i64 0, .int .i64 0, .string ⟨#[]⟩] 69)) = W0 at HN0 HE0 HR0 HX0 ⊢
 have HF := Lib.hid (show ∀ W, LeW (· = w.heap.size + 1 + 1) #[.int .i64 vk, .int .i64 vn, .string vs] W0 W → (∀ j, W.cell? ⟨w.heap.size, j, none⟩ = (#[.int .i64 k, .int .i64 o, .string s, .string t, .int .i64 n, .slice la ln lc] : Array Value)[j]?) ∧ (∀ j, W.cell? ⟨w.heap.size + 1, j, none⟩ = (#[.slice ra rn rc, .slice aa an ac, .pointer q, .int .i64 by_] : Array Value)[j]?) from
  fun W hW => ⟨(hW.blk HN0.out (by omega)).cell, (hW.blk HE0.out (by omega)).cell⟩)
 refine wp_parZG (leW (· = w.heap.size + 1 + 1) #[.int .i64 vk, .int .i64 vn, .string vs]) [0, 1, 2, 3, 4, 5, 6, 7, 8, 9, 10] 11 11 (fun
  | 0 => fun _ v _ => v = .agg waysE
  | 1 => fun _ v _ => v = .pointer (some ⟨w.heap.size, 0, none⟩)
  | 2 => fun _ v _ => v = .int .i64 k
  | 3 => fun _ v _ => v = .func (.func f) #[] #[]
  | 4 => fun _ v _ => v = .agg #[.slice ra rn rc, .slice aa an ac, .pointer q, .int .i64 by_]
  | 5 => fun _ v _ => v = .agg #[.int .i64 k, .int .i64 o, .string s, .string t, .int .i64 n, .slice la ln lc]
  | 6 => fun _ v _ => v = .tuple #[.agg #[.int .i64 vk, .int .i64 vn, .string vs], .int .i64 er]
  | 7 => fun _ v _ => v = .agg #[.int .i64 vk, .int .i64 vn, .string vs]
  | 8 => fun _ v _ => v = .int .i64 er
  | 9 => fun _ => filledV (w.heap.size + 1 + 1) #[.int .i64 vk, .int .i64 vn, .string vs]
  | 10 => fun _ v _ => v = .int .i64 er
  | _ => fun _ _ _ => True) (fun
  | _ => undef) (by kernel_rfl) (by kernel_rfl) (by kernel_rfl) ?_ ?_ ?_
 ·simp (maxSteps := 20000000) only [permL, permOp, List.filterMap_cons, List.filterMap_nil, List.getElem?_cons_succ, List.getElem?_cons_zero, Option.map_some, Option.map_none, List.take_succ_cons, List.take_zero, ParAllG, Act.put, List.setIfInBounds_toArray, List.set_cons_succ, List.set_cons_zero]
  refine ⟨?_, ?_, ?_, ?_, ?_, ?_, ?_, ?_, ?_, ?_, ?_, trivial⟩
  all_goals
   intro vals W hx hd
   have hW := HF.out W hx
   simp [PDepsG, pdeps, Region.binds, List.idxOf_cons] at hd
   first
    | refine ParObG.plain rfl ?_
    | refine ParObG.wanted (by simp [Region.wanted, yielded, hd]) ?_
  ·go_simp
   refine (KW.out W).mono ?_
   rintro e w9 ⟨rfl, hb9⟩
   exact ⟨_, rfl, LeW.ofExt hb9, fun _ _ => rfl⟩
  iterate 2
   next =>
    go_simp
    exact ParPostG.same (leW (· = w.heap.size + 1 + 1) #[.int .i64 vk, .int .i64 vn, .string vs]) fun _ _ => rfl
  ·have hi := HI.out W
   go_simp
   exact ParPostG.same (leW _ _) fun _ _ => rfl
  iterate 2
   next =>
    go_simp
    exact ParPostG.same (leW (· = w.heap.size + 1 + 1) #[.int .i64 vk, .int .i64 vn, .string vs]) fun _ _ => rfl
  ·have hcf := HEg.out
   go_simp
   refine (HC.out W (LeW.below HX0.out hx fun i hi => by omega)).mono ?_
   rintro e w9 ⟨rfl, hb9⟩
   exact ⟨_, rfl, LeW.ofExt hb9, fun _ _ => rfl⟩
  iterate 2
   next =>
    go_simp
    exact ParPostG.same (leW (· = w.heap.size + 1 + 1) #[.int .i64 vk, .int .i64 vn, .string vs]) fun _ _ => rfl
  ·obtain ⟨cs, hcs1, hcs2⟩ := hx.row _ _ HR0.out rfl
   refine yields_storeV (cs := #[.int .i64 vk, .int .i64 vn, .string vs]) rfl (by simp [Act.eval]) (by simp [Act.eval, hd]) hcs1 hcs2 rfl (by simp [Value.oneCell']) ?_
   exact ⟨LeW.setRow hcs1 rfl rfl, fun w3 h3 => h3.keep _ (setRow_heap _ _ cs _ _ _ hcs1)⟩
  ·go_simp
   exact ParPostG.same (leW (· = w.heap.size + 1 + 1) #[.int .i64 vk, .int .i64 vn, .string vs]) fun _ _ => rfl
 ·simp (maxSteps := 20000000) only [permL, permOp, List.filterMap_cons, List.filterMap_nil, List.getElem?_cons_succ, List.getElem?_cons_zero, Option.map_some, Option.map_none, List.drop_succ_cons, List.drop_zero, List.take_succ_cons, List.take_zero, Nat.reduceSub, ZAll, ParEnd, Act.put, List.setIfInBounds_toArray, List.set_cons_succ, List.set_cons_zero]
 intro vals W hx hf hz
 simp (maxSteps := 20000000) only [permL, permOp, List.filterMap_cons, List.filterMap_nil, List.getElem?_cons_succ, List.getElem?_cons_zero, Option.map_some, Option.map_none, ParFactsG, List.take_succ_cons, List.take_zero, and_true, Nat.reduceAdd] at hf
 obtain ⟨f0, f1, f2, f3, f4, f5, f6, f7, f8, f9, f10⟩ := hf
 clear hz
 simp (maxSteps := 20000000) only [permL, permOp, List.filterMap_cons, List.filterMap_nil, List.getElem?_cons_succ, List.getElem?_cons_zero, Option.map_some, Option.map_none, List.drop_succ_cons, List.drop_zero, List.take_succ_cons, List.take_zero, Nat.reduceSub, ParEnd, ZTail, Act.put, List.setIfInBounds_toArray, List.set_cons_succ, List.set_cons_zero, Nat.reduceAdd, f0, f1, f2, f3, f4, f5, f6, f7, f8, f10]
 clear f0 f1 f2 f3 f4 f5 f6 f7 f8 f10
 have HX1 := Lib.hid (LeW.below HX0.out hx fun i hi => by omega)
 have HR1 := Lib.hid (show Blk W (w.heap.size + 1 + 1) #[.int .i64 vk, .int .i64 vn, .string vs] 69 from f9)
 clear hx HF f9
 go_simp
 repeat (first | go_values | go_skip | go_guarded | go_step | go_upon)
 refine bodyPost_ret (ret_vE2 rfl _ rfl rfl HR1.out) rfl ?_
 exact ⟨rfl, HX1.out⟩
end Go.Proofs.YtcgbpmeadohbkaaGreatDoor
