import Derived.Test.YtcgbpmeadohbkaaGreatDoorEvalS
import Derived.Test.YtcgbpmeadohbkaaGreatDoorRwH
import Derived.Test.YtcgbpmeadohbkaaGreatDoorRwM
namespace Go.Proofs.YtcgbpmeadohbkaaGreatDoor
open Go.RowKit Go.Lib
set_option maxRecDepth 100000
set_option maxHeartbeats 8000000 in
theorem law_forms {t : Tr} (hRg : RgT t) (hShow : SmT 0 t → cntT t ≤ 300 → ∃ S b, (b = true → Wf t) ∧ ∀ (x : PN) (A : Nat → Prop) (W : World), TrIn A W x t → Calls Tryz.prog 8 #[x.v] W fun e w' => e = .returned (.tuple #[.string S, .bool b]) ∧ Ext W w')
 (x : PN) (w : World) (hT : TrIn (· < w.heap.size) w x t) : Calls Tryz.prog 4 #[x.v] w (FlagPost true w) := by
 have mixed : Tryz.prog.follows .mixedOrders = true := by kernel_rfl
 obtain ⟨xk, xo, xs, xt, xn, xla, xln, xlc⟩ := x
 have HX0 := Lib.hid (show Ext w (w.alloc (.cells #[.int .i64 xk, .int .i64 xo, .string xs, .string xt, .int .i64 xn, .slice xla xln xlc] 24)) from (Ext.refl w).alloc _)
 have HB0 := Lib.hid (Blk.new w #[.int .i64 xk, .int .i64 xo, .string xs, .string xt, .int .i64 xn, .slice xla xln xlc] 24 rfl)
 have HT0 := Lib.hid (hT.ext HX0.out)
 have HA := Lib.hid (fun W (h : w.heap.size ≤ W.heap.size) (hW : TrIn (· < w.heap.size) W ⟨xk, xo, xs, xt, xn, xla, xln, xlc⟩ t) => smalls_any hRg ⟨xk, xo, xs, xt, xn, xla, xln, xlc⟩ (· < w.heap.size) W hW (fun g hg => Nat.lt_of_lt_of_le hg h))
 have HSh := Lib.hid hShow
 have KW := Lib.hid (fun W => evalawake_any W)
 have hsz := HX0.out.size
 simp only [PN.v] at HA ⊢
 clear hT hShow hRg
 go_enter Tryz.func4, Tryz.ntmps4
 go_upto_region 1 with (fail)
 generalize (w.alloc (.cells #[.int .i64 xk, .int .i64 xo, .string xs, .string xt, .int .i64 xn, .slice xla xln xlc] 24)) = W0 at HX0 HB0 HT0 hsz ⊢
 obtain ⟨cb, fb⟩ := HB0.out.facts
 have hbl := HB0.out.lt
 go_simp
 repeat (first | go_values | go_skip | go_guarded | go_step | go_upon)
 refine Calls.mono (HA.out W0 hsz HT0.out) ?_
 rintro e W1 ⟨b, rfl, hb1, hsm⟩
 have HSm := Lib.hid hsm
 have HX1 := Lib.hid (Ext.trans HX0.out hb1)
 have HB1 := Lib.hid (HB0.out.keep hb1)
 have HT1 := Lib.hid (HT0.out.ext hb1)
 clear hb1 hsm HX0 HB0 HT0 HA cb fb hbl hsz
 obtain ⟨cb, fb⟩ := HB1.out.facts
 have hbl := HB1.out.lt
 cases b
 ·go_simp
  repeat (first | go_values | go_skip | go_guarded | go_step | go_upon)
  refine Calls.mono (KW.out _) ?_
  rintro e W2 ⟨rfl, hb2⟩
  have HX2 := Lib.hid (Ext.trans HX1.out hb2)
  clear hb2
  go_simp
  repeat (first | go_values | go_skip | go_guarded | go_step | go_upon)
  go_returns
  exact flag_ret rfl HX2.out
 obtain ⟨hs0, hc0⟩ := HSm.out rfl
 obtain ⟨S, ok, hwf, hcall⟩ := HSh.out hs0 hc0
 have KSh := Lib.hid (hcall ⟨xk, xo, xs, xt, xn, xla, xln, xlc⟩ (· < w.heap.size) W1 HT1.out)
 have HWf := Lib.hid hwf
 have HS0 := Lib.hid hs0
 simp only [PN.v] at KSh
 clear hwf hcall hs0 hc0 HSm HSh
 go_simp
 repeat (first | go_values | go_skip | go_guarded | go_step | go_upon)
 refine Calls.mono KSh.out ?_
 rintro e W2 ⟨rfl, hb2⟩
 have HX2 := Lib.hid (Ext.trans HX1.out hb2)
 have HB2 := Lib.hid (HB1.out.keep hb2)
 have HT2 := Lib.hid (HT1.out.ext hb2)
 clear hb2 HX1 HB1 HT1 KSh cb fb hbl
 cases ok
 ·go_simp
  repeat (first | go_values | go_skip | go_guarded | go_step | go_upon)
  refine Calls.mono (KW.out _) ?_
  rintro e W3 ⟨rfl, hb3⟩
  have HX3 := Lib.hid (Ext.trans HX2.out hb3)
  clear hb3
  go_simp
  repeat (first | go_values | go_skip | go_guarded | go_step | go_upon)
  go_returns
  exact flag_ret rfl HX3.out
 have HWt := Lib.hid (HWf.out rfl)
 have HF := Lib.hid (show ∀ W, Ext W2 W → (∀ j, W.cell? ⟨w.heap.size, j, none⟩ = (#[.int .i64 xk, .int .i64 xo, .string xs, .string xt, .int .i64 xn, .slice xla xln xlc] : Array Value)[j]?) from fun W hW => (HB2.out.keep hW).cell)
 have K1 := Lib.hid (fun W (hW : Ext W2 W) => safe_any HS0.out HWt.out ⟨xk, xo, xs, xt, xn, xla, xln, xlc⟩ (· < w.heap.size) W (HT2.out.ext hW))
 have K2 := Lib.hid (fun W (hW : Ext W2 W) => lawsafe_any HS0.out HWt.out ⟨xk, xo, xs, xt, xn, xla, xln, xlc⟩ (· < w.heap.size) W (HT2.out.ext hW))
 have K3 := Lib.hid (fun W (hW : Ext W2 W) => const_any HS0.out HWt.out ⟨xk, xo, xs, xt, xn, xla, xln, xlc⟩ (· < w.heap.size) W (HT2.out.ext hW))
 have K4 := Lib.hid (fun W (hW : Ext W2 W) => lawconst_any HS0.out HWt.out ⟨xk, xo, xs, xt, xn, xla, xln, xlc⟩ (· < w.heap.size) W (HT2.out.ext hW))
 unfold FlagPost at K1 K2 K3 K4
 simp only [PN.v] at K1 K2 K3 K4
 generalize safeT t = sa at K1 K2
 generalize constT t = co at K3 K4
 clear HWf HS0 HWt HB2 HT2
 go_upto_region 6 with (fail)
 refine wp_par 16 (fun
  | 0 => fun v _ => v = .agg #[.int .i64 xk, .int .i64 xo, .string xs, .string xt, .int .i64 xn, .slice xla xln xlc]
  | 1 => fun v _ => v = .bool sa
  | 2 => fun v _ => v = .agg #[.int .i64 xk, .int .i64 xo, .string xs, .string xt, .int .i64 xn, .slice xla xln xlc]
  | 3 => fun v _ => v = .bool sa
  | 4 => fun v _ => v = .bool true
  | 5 => fun v _ => v = .bool true
  | 6 => fun v _ => v = .agg #[.int .i64 xk, .int .i64 xo, .string xs, .string xt, .int .i64 xn, .slice xla xln xlc]
  | 7 => fun v _ => v = .bool co
  | 8 => fun v _ => v = .agg #[.int .i64 xk, .int .i64 xo, .string xs, .string xt, .int .i64 xn, .slice xla xln xlc]
  | 9 => fun v _ => v = .bool co
  | 10 => fun v _ => v = .bool true
  | 11 => fun v _ => v = .bool true
  | 12 => fun v _ => v = .bool true
  | 13 => fun v _ => v = .bool true
  | 14 => fun v _ => v = .bool true
  | 15 => fun v _ => v = .bool true
  | _ => fun _ _ => True) (by kernel_rfl) (by kernel_rfl) (by kernel_rfl) ?_ ?_
 ·simp (maxSteps := 20000000) only [List.take_succ_cons, List.take_zero, ParAll, Act.put, List.setIfInBounds_toArray, List.set_cons_succ, List.set_cons_zero]
  refine ⟨?_, ?_, ?_, ?_, ?_, ?_, ?_, ?_, ?_, ?_, ?_, ?_, ?_, ?_, ?_, ?_, trivial⟩
  all_goals
   intro vals W hx hd
   have hW := HF.out W hx
   simp [PDeps, pdeps, Region.binds] at hd
   first
    | refine ParOb.plain rfl ?_
    | refine ParOb.wanted (by simp [Region.wanted, yielded, hd]) ?_
  ·go_simp
   exact ParPost.same fun _ _ => rfl
  ·go_simp
   refine Calls.mono (K1.out W hx) ?_
   rintro e w2 ⟨rfl, hb2⟩
   exact ⟨_, rfl, hb2, fun _ _ => rfl⟩
  ·go_simp
   exact ParPost.same fun _ _ => rfl
  ·go_simp
   refine Calls.mono (K2.out W hx) ?_
   rintro e w2 ⟨rfl, hb2⟩
   exact ⟨_, rfl, hb2, fun _ _ => rfl⟩
  ·go_simp
   exact ParPost.same fun _ _ => by simp
  iterate 2
   next =>
    go_simp
    exact ParPost.same fun _ _ => rfl
  ·go_simp
   refine Calls.mono (K3.out W hx) ?_
   rintro e w2 ⟨rfl, hb2⟩
   exact ⟨_, rfl, hb2, fun _ _ => rfl⟩
  ·go_simp
   exact ParPost.same fun _ _ => rfl
  ·go_simp
   refine Calls.mono (K4.out W hx) ?_
   rintro e w2 ⟨rfl, hb2⟩
   exact ⟨_, rfl, hb2, fun _ _ => rfl⟩
  ·go_simp
   exact ParPost.same fun _ _ => by simp
  iterate 2
   next =>
    go_simp
    exact ParPost.same fun _ _ => rfl
  ·go_simp
   refine Calls.mono (KW.out W) ?_
   rintro e w2 ⟨rfl, hb2⟩
   exact ⟨_, rfl, hb2, fun _ _ => rfl⟩
  iterate 2
   next =>
    go_simp
    exact ParPost.same fun _ _ => rfl
 intro vals W hx hf
 simp (maxSteps := 20000000) only [ParFacts, List.take_succ_cons, List.take_zero, and_true] at hf
 simp (maxSteps := 20000000) only [List.drop_succ_cons, List.drop_zero, List.take_succ_cons, List.take_zero, ParEnd, Act.put, List.setIfInBounds_toArray, List.set_cons_succ, List.set_cons_zero, hf]
 clear hf
 have HX3 := Lib.hid (Ext.trans HX2.out hx)
 clear hx
 go_wp2_with fail
 go_returns
 exact flag_ret rfl HX3.out
end Go.Proofs.YtcgbpmeadohbkaaGreatDoor
