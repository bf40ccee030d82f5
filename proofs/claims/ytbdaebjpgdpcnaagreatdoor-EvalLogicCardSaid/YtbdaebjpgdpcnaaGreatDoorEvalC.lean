/-
  Two values held by an op (Env.test); literals; a node's own way (eval.ways, eval.Node); a node's operands.
-/
import Derived.Test.YtbdaebjpgdpcnaaGreatDoorEvalB
import Derived.Test.YtbdaebjpgdpcnaaGreatDoorParL
namespace Go.Proofs.YtbdaebjpgdpcnaaGreatDoor
open Go.RowKit Go.Lib
set_option maxRecDepth 100000

/-- A number, or NULL. -/
def oK (x : Option Int) : Int := match x with
  | some _ => 2
  | none => 0
def oN (x : Option Int) : Int := match x with
  | some n => n
  | none => 0
theorem o_clean (x : Option Int) : cK (oK x) (oN x) emp = oK x ∧ cN (oK x) (oN x) emp = oN x ∧ cS (oK x) (oN x) emp = emp := by
  have h : vOk (oK x) (oN x) emp = true := by
    cases x with
    | none => decide +kernel
    | some n =>
      show vOk 2 n emp = true
      unfold vOk
      rw [if_neg (by decide), if_neg (by decide), if_pos rfl]
      decide +kernel
  unfold cK cN cS
  rw [h]
  exact ⟨rfl, rfl, rfl⟩
def oKn (x y : Option Int) : Bool := x.isSome && y.isSome
def oC (x y : Option Int) : Int := match x, y with
  | some a, some b => cmpI a b
  | _, _ => 0
theorem o_cmp (x y : Option Int) : vCmp (oK x) (oN x) emp (oK y) (oN y) emp 0 = .tuple #[.int .i64 (oC x y), .bool (oKn x y), .int .i64 0] := by
  obtain ⟨a1, a2, _⟩ := o_clean x
  obtain ⟨b1, b2, _⟩ := o_clean y
  unfold vCmp
  rw [a1, a2, b1, b2]
  cases x <;> cases y <;> simp [oK, oN, oC, oKn, alikeV]
theorem oK_text (x : Option Int) : oK x ≠ 3 := by cases x <;> (intro h; cases h)
/-- How two numbers stand by an op. -/
def tst (op : Nat) (x y : Option Int) : Nat := match x, y with
  | some a, some b => trB (cmpB op (cmpI a b))
  | _, _ => 2
theorem tst_lt (op : Nat) (x y : Option Int) : tst op x y < 3 := by
  unfold tst
  split
  · exact trB_lt _
  · decide
set_option maxHeartbeats 4000000 in
theorem test_any (op : Nat) (x y : Option Int) (ra : Option Addr) (rn rc : Nat) (aa : Option Addr) (an ac : Nat) (q : Option Addr) (by_ : Int) (w : World) (h1 : 1 ≤ op) (h6 : op ≤ 6) :
    Calls Tryz.prog 133 #[evV ra rn rc aa an ac q by_, .int .i64 op, vV (oK x) (oN x) emp, vV (oK y) (oN y) emp, .string ⟨#[]⟩] w fun e w' => e = .returned (.tuple #[trV (tst op x y), .int .i64 0]) ∧ Below w.heap.size w w' := by
  have KO := Lib.hid (fun W => order_none ra rn rc aa an ac q by_ W)
  have KC := Lib.hid (fun W => valcmp_any (oK x) (oN x) emp (oK y) (oN y) emp 1 0 false false none 0 W (fun h => absurd ((o_clean x).1.symm.trans h) (oK_text x)))
  rw [o_cmp] at KC
  have KT := Lib.hid (show ∀ W, Calls Tryz.prog 132 #[.int .i64 op, .int .i64 (oC x y), .bool (oKn x y)] W fun e w' => e = .returned (trV (tst op x y)) ∧ Below W.heap.size W w' from fun W => by
    cases x with
    | none => exact logictest_none _ _ W
    | some a => cases y with
      | none => exact logictest_none _ _ W
      | some b => exact logictest_any op _ W h1 h6)
  have KF := Lib.hid (fun W => fits_ok (trK (tst op x y)) (trN (tst op x y)) ⟨#[]⟩ W)
  have hlt := tst_lt op x y
  rw [trV_eq _ hlt] at KT ⊢
  generalize tst op x y = u at KT KF ⊢
  generalize oC x y = cc at KC KT
  generalize oKn x y = kn at KC KT
  generalize oK x = xk at KC ⊢
  generalize oN x = xn at KC ⊢
  generalize oK y = yk at KC ⊢
  generalize oN y = yn at KC ⊢
  simp only [vV, cV, evV, emp] at KO KC KF ⊢
  obtain ⟨opz, hop⟩ : ∃ z : Int, z = (op : Int) := ⟨_, rfl⟩
  rw [← hop] at KT ⊢
  clear hop h1 h6 hlt
  have HX0 := Lib.hid (show Below w.heap.size w ((((w.alloc (.cells #[.slice ra rn rc, .slice aa an ac, .pointer q, .int .i64 by_] 47)).alloc (.cells #[.int .i64 xk, .int .i64 xn, .string ⟨#[]⟩] 23)).alloc (.cells #[.int .i64 yk, .int .i64 yn, .string ⟨#[]⟩] 23)).alloc (.cells #[.int .i64 0, .int .i64 0, .string ⟨#[]⟩] 23)) by go_grown)
  have HA0 := Lib.hid (((Blk.new (w.alloc (.cells #[.slice ra rn rc, .slice aa an ac, .pointer q, .int .i64 by_] 47)) #[.int .i64 xk, .int .i64 xn, .string ⟨#[]⟩] 23 (n := w.heap.size + 1) (by simp)).alloc (.cells #[.int .i64 yk, .int .i64 yn, .string ⟨#[]⟩] 23)).alloc (.cells #[.int .i64 0, .int .i64 0, .string ⟨#[]⟩] 23))
  have HB0 := Lib.hid ((Blk.new ((w.alloc (.cells #[.slice ra rn rc, .slice aa an ac, .pointer q, .int .i64 by_] 47)).alloc (.cells #[.int .i64 xk, .int .i64 xn, .string ⟨#[]⟩] 23)) #[.int .i64 yk, .int .i64 yn, .string ⟨#[]⟩] 23 (n := w.heap.size + 1 + 1) (by simp)).alloc (.cells #[.int .i64 0, .int .i64 0, .string ⟨#[]⟩] 23))
  have HR0 := Lib.hid (Blk.new (((w.alloc (.cells #[.slice ra rn rc, .slice aa an ac, .pointer q, .int .i64 by_] 47)).alloc (.cells #[.int .i64 xk, .int .i64 xn, .string ⟨#[]⟩] 23)).alloc (.cells #[.int .i64 yk, .int .i64 yn, .string ⟨#[]⟩] 23)) #[.int .i64 0, .int .i64 0, .string ⟨#[]⟩] 23 (n := w.heap.size + 1 + 1 + 1) (by simp))
  go_enter Tryz.func133, Tryz.ntmps133
  go_wp2_with fail
  generalize ((((w.alloc (.cells #[.slice ra rn rc, .slice aa an ac, .pointer q, .int .i64 by_] 47)).alloc (.cells #[.int .i64 xk, .int .i64 xn, .string ⟨#[]⟩] 23)).alloc (.cells #[.int .i64 yk, .int .i64 yn, .string ⟨#[]⟩] 23)).alloc (.cells #[.int .i64 0, .int .i64 0, .string ⟨#[]⟩] 23)) = W0 at HX0 HA0 HB0 HR0 ⊢
  refine Calls.mono (KO.out W0) ?_
  rintro e w1 ⟨rfl, hb1⟩
  have HA1 := Lib.hid (HA0.out.keep hb1)
  have HB1 := Lib.hid (HB0.out.keep hb1)
  have HR1 := Lib.hid (HR0.out.keep hb1)
  have HX1 := Lib.hid (show Below w.heap.size w w1 from HX0.out.trans (hb1.mono HX0.out.size))
  clear hb1 HX0 HA0 HB0 HR0 KO
  obtain ⟨ca, fa⟩ := HA1.out.facts
  obtain ⟨cb, fb⟩ := HB1.out.facts
  have hal := HA1.out.lt
  have hbl := HB1.out.lt
  go_simp
  repeat (first | go_values | go_skip | go_guarded | go_step | go_upon)
  have hx2 : Below w1.heap.size w1 (w1.alloc (.cells #[.int .i64 1, .int .i64 0, .bool false, .bool false, .pointer none] 58)) := by go_grown
  refine Calls.mono (KC.out _) ?_
  rintro e w2 ⟨rfl, hb2⟩
  have hx3 : Below w1.heap.size w1 w2 := hx2.trans (hb2.mono hx2.size)
  have HR2 := Lib.hid (HR1.out.keep hx3)
  have HX2 := Lib.hid (show Below w.heap.size w w2 from HX1.out.trans (hx3.mono HX1.out.size))
  clear hb2 hx2 hx3 ca fa cb fb HA1 HB1 HR1 HX1 hal hbl
  go_simp
  repeat (first | go_values | go_skip | go_guarded | go_step | go_upon)
  refine Calls.mono (KT.out _) ?_
  rintro e w3 ⟨rfl, hb3⟩
  have HR3 := Lib.hid (HR2.out.keep hb3)
  have HX3 := Lib.hid (show Below w.heap.size w w3 from HX2.out.trans (hb3.mono HX2.out.size))
  clear hb3
  go_simp
  repeat (first | go_values | go_skip | go_guarded | go_step | go_upon)
  refine Calls.mono (KF.out _) ?_
  rintro e w4 ⟨rfl, hb4⟩
  have HR4 := Lib.hid (HR3.out.keep hb4)
  have HX4 := Lib.hid (show Below w.heap.size w w4 from HX3.out.trans (hb4.mono HX3.out.size))
  clear hb4
  obtain ⟨cr, fr⟩ := HR4.out.facts
  have hrl := HR4.out.lt
  go_simp
  repeat (first | go_values | go_skip | go_guarded | go_step | go_upon)
  refine bodyPost_ret (ret_vE2 rfl _ rfl rfl (blk3 HR4.out _ _ _)) rfl ?_
  exact ⟨rfl, below3 HX4.out (by omega) _ _ _⟩

/-! ### Literals -/
/-- A node's value. -/
def ndE (k o : Int) (s t : ByteArray) (n : Int) (la : Option Addr) (ln lc : Nat) : Value := .agg #[.int .i64 k, .int .i64 o, .string s, .string t, .int .i64 n, .slice la ln lc]
set_option maxHeartbeats 2000000 in
theorem lit_int (o : Int) (s t : ByteArray) (n : Int) (la : Option Addr) (ln lc : Nat) (ra : Option Addr) (rn rc : Nat) (aa : Option Addr) (an ac : Nat) (q : Option Addr) (by_ : Int) (w : World) :
    Calls Tryz.prog 72 #[evV ra rn rc aa an ac q by_, ndE 2 o s t n la ln lc] w fun e w' => e = .returned (.tuple #[vV 2 n emp, .int .i64 0]) ∧ Below w.heap.size w w' := by
  have KI := Lib.hid (fun W => valint_any n W)
  simp only [vV, evV, ndE, emp] at KI ⊢
  have HR := Lib.hid (Blk.new ((w.alloc (.cells #[.slice ra rn rc, .slice aa an ac, .pointer q, .int .i64 by_] 47)).alloc (.cells #[.int .i64 2, .int .i64 o, .string s, .string t, .int .i64 n, .slice la ln lc] 38)) #[.int .i64 0, .int .i64 0, .string ⟨#[]⟩] 23 (n := w.heap.size + 1 + 1) (by simp))
  go_enter Tryz.func72, Tryz.ntmps72
  go_wp2_with fail
  refine Calls.mono (KI.out _) ?_
  rintro e w2 ⟨rfl, hb2⟩
  have HR2 := Lib.hid (HR.out.keep hb2)
  have HX := Lib.hid (show Below w.heap.size w w2 from Below.trans (by go_grown) (hb2.mono (by simp; omega)))
  obtain ⟨ca, fa⟩ := HR2.out.facts
  have hal := HR2.out.lt
  clear hb2
  go_simp
  repeat (first | go_values | go_skip | go_guarded | go_step | go_upon)
  refine bodyPost_ret (ret_vE2 rfl _ rfl rfl (blk3 HR2.out _ _ _)) rfl ?_
  exact ⟨rfl, below3 HX.out (by omega) _ _ _⟩
set_option maxHeartbeats 2000000 in
theorem lit_null (o : Int) (s t : ByteArray) (n : Int) (la : Option Addr) (ln lc : Nat) (ra : Option Addr) (rn rc : Nat) (aa : Option Addr) (an ac : Nat) (q : Option Addr) (by_ : Int) (w : World) :
    Calls Tryz.prog 72 #[evV ra rn rc aa an ac q by_, ndE 0 o s t n la ln lc] w fun e w' => e = .returned (.tuple #[vV 0 0 emp, .int .i64 0]) ∧ Below w.heap.size w w' := by
  have KI := Lib.hid (fun W => valnull_any W)
  simp only [vV, evV, ndE, emp] at KI ⊢
  have HR := Lib.hid (Blk.new ((w.alloc (.cells #[.slice ra rn rc, .slice aa an ac, .pointer q, .int .i64 by_] 47)).alloc (.cells #[.int .i64 0, .int .i64 o, .string s, .string t, .int .i64 n, .slice la ln lc] 38)) #[.int .i64 0, .int .i64 0, .string ⟨#[]⟩] 23 (n := w.heap.size + 1 + 1) (by simp))
  go_enter Tryz.func72, Tryz.ntmps72
  go_wp2_with fail
  refine Calls.mono (KI.out _) ?_
  rintro e w2 ⟨rfl, hb2⟩
  have HR2 := Lib.hid (HR.out.keep hb2)
  have HX := Lib.hid (show Below w.heap.size w w2 from Below.trans (by go_grown) (hb2.mono (by simp; omega)))
  obtain ⟨ca, fa⟩ := HR2.out.facts
  have hal := HR2.out.lt
  clear hb2
  go_simp
  repeat (first | go_values | go_skip | go_guarded | go_step | go_upon)
  refine bodyPost_ret (ret_vE2 rfl _ rfl rfl (blk3 HR2.out _ _ _)) rfl ?_
  exact ⟨rfl, below3 HX.out (by omega) _ _ _⟩
set_option maxHeartbeats 2000000 in
theorem lit_false (o : Int) (s t : ByteArray) (la : Option Addr) (ln lc : Nat) (ra : Option Addr) (rn rc : Nat) (aa : Option Addr) (an ac : Nat) (q : Option Addr) (by_ : Int) (w : World) :
    Calls Tryz.prog 72 #[evV ra rn rc aa an ac q by_, ndE 1 o s t 0 la ln lc] w fun e w' => e = .returned (.tuple #[vV 1 0 emp, .int .i64 0]) ∧ Below w.heap.size w w' := by
  have KI := Lib.hid (fun W => valbool_any false W)
  simp only [vV, evV, ndE, emp, bN] at KI ⊢
  have HR := Lib.hid (Blk.new ((w.alloc (.cells #[.slice ra rn rc, .slice aa an ac, .pointer q, .int .i64 by_] 47)).alloc (.cells #[.int .i64 1, .int .i64 o, .string s, .string t, .int .i64 0, .slice la ln lc] 38)) #[.int .i64 0, .int .i64 0, .string ⟨#[]⟩] 23 (n := w.heap.size + 1 + 1) (by simp))
  go_enter Tryz.func72, Tryz.ntmps72
  go_wp2_with fail
  refine Calls.mono (KI.out _) ?_
  rintro e w2 ⟨rfl, hb2⟩
  have HR2 := Lib.hid (HR.out.keep hb2)
  have HX := Lib.hid (show Below w.heap.size w w2 from Below.trans (by go_grown) (hb2.mono (by simp; omega)))
  obtain ⟨ca, fa⟩ := HR2.out.facts
  have hal := HR2.out.lt
  clear hb2
  go_simp
  repeat (first | go_values | go_skip | go_guarded | go_step | go_upon)
  refine bodyPost_ret (ret_vE2 rfl _ rfl rfl (blk3 HR2.out _ _ _)) rfl ?_
  exact ⟨rfl, below3 HX.out (by omega) _ _ _⟩

/-! ### A node's own way -/
def wayE (n : FuncId) : Value := .func (.func n) #[] #[]
def waysE : Array Value := #[wayE 72, wayE 72, wayE 72, wayE 72, wayE 73, wayE 74, wayE 75, wayE 76, wayE 77, wayE 78, wayE 79, wayE 80, wayE 81, wayE 82, wayE 73]
theorem infoWaysE : (Tryz.prog.info? 87).map (·.size) = some 15 := by kernel_rfl
theorem ret_waysE {t : Tmp} {fn : Func} (h : fn.results = #[.cell t 87]) (tmps : Array Value) {w : World} {g : Nat} {cs : Array Value} (hc : cs.size = 15) (hp : tmps.getD t undef = .pointer (some ⟨g, 0, none⟩)) (hg : Blk w g cs 87) :
    (results fn tmps).run Tryz.prog w = .ok (.agg cs) w := by
  have hp' : tmps[t]?.getD undef = .pointer (some ⟨g, 0, none⟩) := by simpa using hp
  have hr := run_loadVar_row w g 87 87 cs (0, 0) _ hg Tryz.underlying87 rfl (by rw [hc]; kernel_rfl)
  simp [results, h, hp', asAddr, hr]
set_option maxHeartbeats 2000000 in
theorem evalways_any (w : World) : Calls Tryz.prog 42 #[] w fun e w' => e = .returned (.agg waysE) ∧ Below w.heap.size w w' := by
  go_enter Tryz.func42, Tryz.ntmps42
  go_wp2_with (refine wpList_store_row rfl 87 (.tmp 0) (.tmp 1) rfl w.heap.size waysE rfl rfl 87 (Array.replicate 15 .nilFunc) (Blk.new w _ _ rfl) infoWaysE rfl (by simp [waysE, wayE, Value.oneCell']) ?_)
  rw [World.setRow_alloc_new]
  refine bodyPost_ret (ret_waysE rfl _ rfl rfl (Blk.new w _ _ rfl)) rfl ?_
  exact ⟨rfl, by go_grown⟩
end Go.Proofs.YtbdaebjpgdpcnaaGreatDoor
