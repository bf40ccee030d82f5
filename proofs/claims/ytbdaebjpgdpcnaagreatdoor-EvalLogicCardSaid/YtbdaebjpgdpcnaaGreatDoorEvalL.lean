/-
  Errors: of a first operand; handed on (eval.fits).
-/
import Derived.Test.YtbdaebjpgdpcnaaGreatDoorEvalG
namespace Go.Proofs.YtbdaebjpgdpcnaaGreatDoor
open Go.RowKit Go.Lib
set_option maxRecDepth 100000

set_option maxHeartbeats 2000000 in
theorem fits_err (k n : Int) (s : ByteArray) (w : World) : Calls Tryz.prog 128 #[vV k n s, .int .i64 18] w fun e w' => e = .returned (.tuple #[vV 0 0 emp, .int .i64 18]) ∧ Below w.heap.size w w' := by
  have KN := Lib.hid (fun W => valnull_any W)
  simp only [vV, emp] at KN ⊢
  have HR0 := Lib.hid (Blk.new (w.alloc (.cells #[.int .i64 k, .int .i64 n, .string s] 23)) #[.int .i64 0, .int .i64 0, .string ⟨#[]⟩] 23 (n := w.heap.size + 1) (by simp))
  have HX0 := Lib.hid (show Below w.heap.size w ((w.alloc (.cells #[.int .i64 k, .int .i64 n, .string s] 23)).alloc (.cells #[.int .i64 0, .int .i64 0, .string ⟨#[]⟩] 23)) by go_grown)
  go_enter Tryz.func128, Tryz.ntmps128
  go_wp2_with fail
  refine Calls.mono (KN.out _) ?_
  rintro e W1 ⟨rfl, hb⟩
  have HR1 := Lib.hid (HR0.out.keep hb)
  have HX1 := Lib.hid (show Below w.heap.size w W1 from HX0.out.trans (hb.mono HX0.out.size))
  clear hb
  obtain ⟨cR, fR⟩ := HR1.out.facts
  have hRl := HR1.out.lt
  go_simp
  repeat (first | go_values | go_skip | go_guarded | go_step | go_upon)
  refine bodyPost_ret (ret_vE2 rfl _ rfl rfl (blk3 HR1.out _ _ _)) rfl ?_
  exact ⟨rfl, below3 HX1.out (Nat.le_succ _) _ _ _⟩
set_option maxHeartbeats 8000000 in
theorem operands_err (k o : Int) (s t : ByteArray) (n : Int) (g lc : Nat) (x y : N6) (ra : Option Addr) (rn rc : Nat) (aa : Option Addr) (an ac : Nat) (q : Option Addr) (by_ : Int) (w : World)
    (hN : NdAt w g [x, y]) (hE : Ev w (evV ra rn rc aa an ac q by_) x (0, 0, emp) 18) :
    Calls Tryz.prog 127 #[evV ra rn rc aa an ac q by_, ndE k o s t n (some ⟨g, 0, none⟩) 2 lc, .int .i64 2, .int .i64 2] w fun e w' => e = .returned (.tuple #[.slice none 0 0, .int .i64 18]) ∧ Below w.heap.size w w' := by
  obtain ⟨xk, xo, xs, xt, xn, xla, xln, xlc⟩ := x
  have HN := Lib.hid hN
  have HE := Lib.hid hE
  clear hN hE
  simp only [evV, ndE, Ev, N6.v, vV, emp] at HE ⊢
  have HA0 := Lib.hid ((Blk.new w #[.slice ra rn rc, .slice aa an ac, .pointer q, .int .i64 by_] 47 rfl).alloc (.cells #[.int .i64 k, .int .i64 o, .string s, .string t, .int .i64 n, .slice (some ⟨g, 0, none⟩) 2 lc] 38))
  have HX0 := Lib.hid (show Below w.heap.size w ((w.alloc (.cells #[.slice ra rn rc, .slice aa an ac, .pointer q, .int .i64 by_] 47)).alloc (.cells #[.int .i64 k, .int .i64 o, .string s, .string t, .int .i64 n, .slice (some ⟨g, 0, none⟩) 2 lc] 38)) by go_grown)
  go_enter Tryz.func127, Tryz.ntmps127
  go_wp2_with fail
  generalize ((w.alloc (.cells #[.slice ra rn rc, .slice aa an ac, .pointer q, .int .i64 by_] 47)).alloc (.cells #[.int .i64 k, .int .i64 o, .string s, .string t, .int .i64 n, .slice (some ⟨g, 0, none⟩) 2 lc] 38)) = W0 at HA0 HX0 ⊢
  obtain ⟨q0, q1, q2, q3, q4, q5⟩ := (HN.out.ext (show Ext w W0 from HX0.out)).2 0 _ rfl
  have n0 : W0.cell? ⟨g, 0, none⟩ = some (.int .i64 xk) := q0
  have n1 : W0.cell? ⟨g, 1, none⟩ = some (.int .i64 xo) := q1
  have n2 : W0.cell? ⟨g, 2, none⟩ = some (.string xs) := q2
  have n3 : W0.cell? ⟨g, 3, none⟩ = some (.string xt) := q3
  have n4 : W0.cell? ⟨g, 4, none⟩ = some (.int .i64 xn) := q4
  have n5 : W0.cell? ⟨g, 5, none⟩ = some (.slice xla xln xlc) := q5
  clear q0 q1 q2 q3 q4 q5
  obtain ⟨ca, fa⟩ := HA0.out.facts
  have hal := HA0.out.lt
  refine wp_loop_rounds 1 ?_
  rw [rounds_succ]
  go_simp
  repeat (first | go_values | go_skip | go_guarded | go_step | go_upon)
  have hx1 : Ext W0 (W0.alloc (.cells #[.int .i64 xk, .int .i64 xo, .string xs, .string xt, .int .i64 xn, .slice xla xln xlc] 38)) := (Ext.refl _).alloc _
  refine Calls.mono (HE.out _ (Ext.trans (show Ext w W0 from HX0.out) hx1)) ?_
  rintro e W1 ⟨rfl, hb⟩
  have HX1 := Lib.hid (show Below w.heap.size w W1 from Ext.trans HX0.out (Ext.trans hx1 hb))
  clear hx1 hb ca fa hal n0 n1 n2 n3 n4 n5
  go_simp
  repeat (first | go_values | go_skip | go_guarded | go_step | go_upon)
  go_ret2
  exact ⟨rfl, HX1.out.alloc HX1.out.size _⟩
set_option maxHeartbeats 8000000 in
theorem binary_err (oo : Int) (b18 : (oo == 18) = false) (b19 : (oo == 19) = false) (s u : ByteArray) (n : Int) (g lc : Nat) (x y : N6) (ra : Option Addr) (rn rc : Nat) (aa : Option Addr) (an ac : Nat) (q : Option Addr) (by_ : Int) (w : World)
    (hN : NdAt w g [x, y]) (hE : Ev w (evV ra rn rc aa an ac q by_) x (0, 0, emp) 18) :
    Calls Tryz.prog 75 #[evV ra rn rc aa an ac q by_, ndE 6 oo s u n (some ⟨g, 0, none⟩) 2 lc] w fun e w' => e = .returned (.tuple #[vV 0 0 emp, .int .i64 18]) ∧ Below w.heap.size w w' := by
  have KO := Lib.hid (fun W (hW : Ext w W) => operands_err 6 oo s u n g lc x y ra rn rc aa an ac q by_ W (hN.ext hW) (hE.ext hW))
  have KN := Lib.hid (fun W => valnull_any W)
  simp only [evV, ndE, vV, emp] at KO KN ⊢
  clear hN hE
  obtain ⟨kk, hkk⟩ : ∃ z : Int, z = 6 := ⟨_, rfl⟩
  obtain ⟨ll, hll⟩ : ∃ z : Nat, z = 2 := ⟨_, rfl⟩
  have HE0 := Lib.hid (((Blk.new w #[.slice ra rn rc, .slice aa an ac, .pointer q, .int .i64 by_] 47 rfl).alloc (.cells #[.int .i64 kk, .int .i64 oo, .string s, .string u, .int .i64 n, .slice (some ⟨g, 0, none⟩) ll lc] 38)).alloc (.cells #[.int .i64 0, .int .i64 0, .string ⟨#[]⟩] 23))
  have HN0 := Lib.hid ((Blk.new (w.alloc (.cells #[.slice ra rn rc, .slice aa an ac, .pointer q, .int .i64 by_] 47)) #[.int .i64 kk, .int .i64 oo, .string s, .string u, .int .i64 n, .slice (some ⟨g, 0, none⟩) ll lc] 38 (n := w.heap.size + 1) (by simp)).alloc (.cells #[.int .i64 0, .int .i64 0, .string ⟨#[]⟩] 23))
  have HR0 := Lib.hid (Blk.new ((w.alloc (.cells #[.slice ra rn rc, .slice aa an ac, .pointer q, .int .i64 by_] 47)).alloc (.cells #[.int .i64 kk, .int .i64 oo, .string s, .string u, .int .i64 n, .slice (some ⟨g, 0, none⟩) ll lc] 38)) #[.int .i64 0, .int .i64 0, .string ⟨#[]⟩] 23 (n := w.heap.size + 1 + 1) (by simp))
  have HX0 := Lib.hid (show Below w.heap.size w (((w.alloc (.cells #[.slice ra rn rc, .slice aa an ac, .pointer q, .int .i64 by_] 47)).alloc (.cells #[.int .i64 kk, .int .i64 oo, .string s, .string u, .int .i64 n, .slice (some ⟨g, 0, none⟩) ll lc] 38)).alloc (.cells #[.int .i64 0, .int .i64 0, .string ⟨#[]⟩] 23)) by go_grown)
  subst hkk hll
  go_enter Tryz.func75, Tryz.ntmps75
  go_wp2_with fail
  refine Calls.mono (KO.out _ HX0.out) ?_
  rintro e W1 ⟨rfl, hb⟩
  have HR1 := Lib.hid (HR0.out.keep hb)
  have HX1 := Lib.hid (show Below w.heap.size w W1 from HX0.out.trans (hb.mono HX0.out.size))
  clear hb
  go_simp
  repeat (first | go_values | go_skip | go_guarded | go_step | go_upon)
  refine Calls.mono (KN.out _) ?_
  rintro e W2 ⟨rfl, hb⟩
  have HR2 := Lib.hid (HR1.out.keep hb)
  have HX2 := Lib.hid (show Below w.heap.size w W2 from HX1.out.trans (hb.mono HX1.out.size))
  clear hb
  obtain ⟨cR, fR⟩ := HR2.out.facts
  have hRl := HR2.out.lt
  go_simp
  repeat (first | go_values | go_skip | go_guarded | go_step | go_upon)
  refine bodyPost_ret (ret_vE2 rfl _ rfl rfl (blk3 HR2.out _ _ _)) rfl ?_
  exact ⟨rfl, below3 HX2.out (by omega) _ _ _⟩
end Go.Proofs.YtbdaebjpgdpcnaaGreatDoor
