/-
 The document's order of values (umlautref11.Clean, ints, Order, Cmp). The law of compared values, walked: the program's way and the document's are one.
-/
import Derived.Test.YtipokgedmfnlaaaGreatDoorValB
import Derived.Test.YtipokgedmfnlaaaGreatDoorParH
import Derived.Test.YtipokgedmfnlaaaGreatDoorValChainsLaw
import Derived.Test.YtipokgedmfnlaaaGreatDoorDocK
namespace Go.Proofs.YtipokgedmfnlaaaGreatDoor
open Go.RowKit Go.Lib
set_option maxRecDepth 100000

theorem ret_v {t : Tmp} {fn : Func} (h : fn.results = #[.cell t 45]) (tmps : Array Value) {w : World} {g : Nat} {cs : Array Value} (hc : cs.size = 3) (hp : tmps.getD t undef = .pointer (some ⟨g, 0, none⟩)) (hg : Blk w g cs 45) :
  (results fn tmps).run Tryz.prog w = .ok (.agg cs) w := by
 have hp' : tmps[t]?.getD undef = .pointer (some ⟨g, 0, none⟩) := by simpa using hp
 have hr := run_loadVar_row w g 45 45 cs (0, 0) _ hg Tryz.underlying45 rfl (by rw [hc]; kernel_rfl)
 simp [results, h, hp', asAddr, hr]
set_option maxHeartbeats 4000000 in
theorem refclean_any (k n : Int) (s : ByteArray) (w : World) : Calls Tryz.prog 47 #[vV k n s] w fun e w' => e = .returned (vV (cK k n s) (cN k n s) (cS k n s)) ∧ Below w.heap.size w w' := by
 have KO := Lib.hid (refok_any k n s)
 unfold cK cN cS
 cases h : vOk k n s
 ·rw [h] at KO
  rw [if_neg (by simp), if_neg (by simp), if_neg (by simp)]
  rw [show vV k n s = .agg #[.int .i64 k, .int .i64 n, .string s] from rfl] at KO ⊢
  rw [show vV 0 0 emp = .agg #[.int .i64 0, .int .i64 0, .string ⟨#[]⟩] from rfl]
  go_enter Tryz.func47, Tryz.ntmps47
  go_wp2_with fail
  have hR := Blk.new (w.alloc (.cells #[.int .i64 k, .int .i64 n, .string s] 45)) #[.int .i64 0, .int .i64 0, .string ⟨#[]⟩] 45 (n := w.heap.size + 1) (by simp)
  have hx0 := ((Ext.refl w).alloc (.cells #[.int .i64 k, .int .i64 n, .string s] 45)).alloc (.cells #[.int .i64 0, .int .i64 0, .string ⟨#[]⟩] 45)
  refine Calls.mono (KO.out _) ?_
  rintro e w2 ⟨rfl, hb2⟩
  have HR := Lib.hid (hR.keep hb2)
  have HX := Lib.hid (Ext.trans hx0 hb2)
  obtain ⟨cr, fr⟩ := (hR.keep hb2).facts
  have hrl := (hR.keep hb2).lt
  clear hR hx0 hb2
  go_simp
  repeat (first | go_values | go_skip | go_guarded | go_step | go_upon)
  refine bodyPost_ret (ret_v rfl _ rfl rfl (blk3 HR.out _ _ _)) rfl ?_
  exact ⟨rfl, below3 (show Below w.heap.size w w2 from HX.out) (by simp) _ _ _⟩
 ·rw [h] at KO
  rw [if_pos rfl, if_pos rfl, if_pos rfl]
  rw [show vV k n s = .agg #[.int .i64 k, .int .i64 n, .string s] from rfl] at KO ⊢
  go_enter Tryz.func47, Tryz.ntmps47
  go_wp2_with fail
  have hA := (Blk.new w #[.int .i64 k, .int .i64 n, .string s] 45 rfl).alloc (.cells #[.int .i64 0, .int .i64 0, .string ⟨#[]⟩] 45)
  have hR := Blk.new (w.alloc (.cells #[.int .i64 k, .int .i64 n, .string s] 45)) #[.int .i64 0, .int .i64 0, .string ⟨#[]⟩] 45 (n := w.heap.size + 1) (by simp)
  have hx0 := ((Ext.refl w).alloc (.cells #[.int .i64 k, .int .i64 n, .string s] 45)).alloc (.cells #[.int .i64 0, .int .i64 0, .string ⟨#[]⟩] 45)
  refine Calls.mono (KO.out _) ?_
  rintro e w2 ⟨rfl, hb2⟩
  have HR := Lib.hid (hR.keep hb2)
  have HX := Lib.hid (Ext.trans hx0 hb2)
  obtain ⟨cr, fr⟩ := (hR.keep hb2).facts
  have hrl := (hR.keep hb2).lt
  obtain ⟨ca, fa⟩ := (hA.keep hb2).facts
  clear hA hR hx0 hb2
  go_simp
  repeat (first | go_values | go_skip | go_guarded | go_step | go_upon)
  refine bodyPost_ret (ret_v rfl _ rfl rfl (blk3 HR.out _ _ _)) rfl ?_
  exact ⟨rfl, below3 (show Below w.heap.size w w2 from HX.out) (by simp) _ _ _⟩
theorem refints_any (a b : Int) (w : World) : Calls Tryz.prog 48 #[.int .i64 a, .int .i64 b] w fun e w' => e = .returned (.int .i64 (cmpI a b)) ∧ w = w' := by
 go_enter Tryz.func48, Tryz.ntmps48
 go_wp2_with fail
 all_goals
  go_ret
  refine ⟨?_, rfl⟩
  unfold cmpI
  repeat' split
  all_goals first | rfl | (exfalso; omega)
/-- What the document's collation answers at two texts. -/
def CmpAtR (W : World) (x : Array Value) (a b : ByteArray) (r : Int) : Prop :=
 ∀ W', Ext W W' → Calls Tryz.prog 49 #[.agg x, .string a, .string b] W' fun e w' => e = .returned (.int .i64 r) ∧ Below W'.heap.size W' w'
theorem CmpAtR.ext {W W' : World} {x : Array Value} {a b : ByteArray} {r : Int} (h : CmpAtR W x a b r) (hx : Ext W W') : CmpAtR W' x a b r := fun W2 h2 => h W2 (Ext.trans hx h2)
set_option maxHeartbeats 8000000 in
theorem reforder_any (k n : Int) (s : ByteArray) (k' n' : Int) (s' : ByteArray) (x0 x1 : Int) (x2 x3 : Bool) (y0 : Option Addr) (y1 y2 : Nat) (r : Int) (w : World)
  (hC : cK k n s = 3 → CmpAtR w #[.int .i64 x0, .int .i64 x1, .bool x2, .bool x3, .slice y0 y1 y2] (cS k n s) (cS k' n' s') r) :
  Calls Tryz.prog 15 #[vV k n s, vV k' n' s', .agg #[.int .i64 x0, .int .i64 x1, .bool x2, .bool x3, .slice y0 y1 y2]] w fun e w' => e = .returned (.int .i64 (vOrd k n s k' n' s' r)) ∧ Below w.heap.size w w' := by
 have KA := Lib.hid (refclean_any k n s)
 have KB := Lib.hid (refclean_any k' n' s')
 have hv : vOrd k n s k' n' s' r = if cK k n s = cK k' n' s' then (if cK k n s = 3 then r else cmpI (cN k n s) (cN k' n' s')) else cmpI (cK k n s) (cK k' n' s') := rfl
 generalize vOrd k n s k' n' s' r = res at hv ⊢
 generalize cK k n s = K at hv hC KA
 generalize cN k n s = M at hv KA
 generalize cS k n s = T at hC KA
 generalize cK k' n' s' = K' at hv KB
 generalize cN k' n' s' = M' at hv KB
 generalize cS k' n' s' = T' at hC KB
 have HC := Lib.hid hC
 have HV := Lib.hid hv
 simp only [vV] at KA KB ⊢
 clear hC hv
 go_enter Tryz.func15, Tryz.ntmps15
 go_wp2_with fail
 have hA := ((Blk.new w #[.int .i64 k, .int .i64 n, .string s] 45 rfl).alloc (.cells #[.int .i64 k', .int .i64 n', .string s'] 45)).alloc (.cells #[.int .i64 x0, .int .i64 x1, .bool x2, .bool x3, .slice y0 y1 y2] 30)
 have hB := (Blk.new (w.alloc (.cells #[.int .i64 k, .int .i64 n, .string s] 45)) #[.int .i64 k', .int .i64 n', .string s'] 45 (n := w.heap.size + 1) (by simp)).alloc (.cells #[.int .i64 x0, .int .i64 x1, .bool x2, .bool x3, .slice y0 y1 y2] 30)
 have hD := Blk.new ((w.alloc (.cells #[.int .i64 k, .int .i64 n, .string s] 45)).alloc (.cells #[.int .i64 k', .int .i64 n', .string s'] 45)) #[.int .i64 x0, .int .i64 x1, .bool x2, .bool x3, .slice y0 y1 y2] 30 (n := w.heap.size + 1 + 1) (by simp)
 have hx0 := (((Ext.refl w).alloc (.cells #[.int .i64 k, .int .i64 n, .string s] 45)).alloc (.cells #[.int .i64 k', .int .i64 n', .string s'] 45)).alloc (.cells #[.int .i64 x0, .int .i64 x1, .bool x2, .bool x3, .slice y0 y1 y2] 30)
 generalize ((w.alloc (.cells #[.int .i64 k, .int .i64 n, .string s] 45)).alloc (.cells #[.int .i64 k', .int .i64 n', .string s'] 45)).alloc (.cells #[.int .i64 x0, .int .i64 x1, .bool x2, .bool x3, .slice y0 y1 y2] 30) = W0 at hA hB hD hx0 ⊢
 generalize hg0 : w.heap.size = g at hA hB hD ⊢
 refine Calls.mono (KA.out _) ?_
 rintro e w1 ⟨rfl, hb1⟩
 have HA1 := Lib.hid (blk3 (hA.keep hb1) (.int .i64 K) (.int .i64 M) (.string T))
 have HB1 := Lib.hid (((hB.keep hb1).other (a := ⟨g, 0, none⟩) (show g + 1 ≠ g by omega) (.int .i64 K) |>.other (a := ⟨g, 1, none⟩) (show g + 1 ≠ g by omega) (.int .i64 M)).other (a := ⟨g, 2, none⟩) (show g + 1 ≠ g by omega) (.string T))
 have HD1 := Lib.hid (((hD.keep hb1).other (a := ⟨g, 0, none⟩) (show g + 1 + 1 ≠ g by omega) (.int .i64 K) |>.other (a := ⟨g, 1, none⟩) (show g + 1 + 1 ≠ g by omega) (.int .i64 M)).other (a := ⟨g, 2, none⟩) (show g + 1 + 1 ≠ g by omega) (.string T))
 have HX1 := Lib.hid (below3 (show Below w.heap.size w w1 from Ext.trans hx0 hb1) (show w.heap.size ≤ g by omega) (.int .i64 K) (.int .i64 M) (.string T))
 obtain ⟨ca, fa⟩ := (hA.keep hb1).facts
 have hal := (hA.keep hb1).lt
 obtain ⟨cb, fb⟩ := HB1.out.facts
 clear hA hB hD hx0 hb1
 go_simp
 repeat (first | go_values | go_skip | go_guarded | go_step | go_upon)
 clear ca fa hal cb fb
 generalize ((w1.setCell ⟨g, 0, none⟩ (.int .i64 K)).setCell ⟨g, 1, none⟩ (.int .i64 M)).setCell ⟨g, 2, none⟩ (.string T) = W1 at HA1 HB1 HD1 HX1 ⊢
 refine Calls.mono (KB.out _) ?_
 rintro e w2 ⟨rfl, hb2⟩
 have HA2 := Lib.hid ((((HA1.out.keep hb2).other (a := ⟨g + 1, 0, none⟩) (show g ≠ g + 1 by omega) (.int .i64 K')).other (a := ⟨g + 1, 1, none⟩) (show g ≠ g + 1 by omega) (.int .i64 M')).other (a := ⟨g + 1, 2, none⟩) (show g ≠ g + 1 by omega) (.string T'))
 have HB2 := Lib.hid (blk3 (HB1.out.keep hb2) (.int .i64 K') (.int .i64 M') (.string T'))
 have HD2 := Lib.hid ((((HD1.out.keep hb2).other (a := ⟨g + 1, 0, none⟩) (show g + 1 + 1 ≠ g + 1 by omega) (.int .i64 K')).other (a := ⟨g + 1, 1, none⟩) (show g + 1 + 1 ≠ g + 1 by omega) (.int .i64 M')).other (a := ⟨g + 1, 2, none⟩) (show g + 1 + 1 ≠ g + 1 by omega) (.string T'))
 have HX2 := Lib.hid (below3 (HX1.out.trans (Below.mono hb2 HX1.out.size)) (show w.heap.size ≤ g + 1 by omega) (.int .i64 K') (.int .i64 M') (.string T'))
 obtain ⟨cb, fb⟩ := (HB1.out.keep hb2).facts
 have hbl := (HB1.out.keep hb2).lt
 obtain ⟨ca, fa⟩ := HA2.out.facts
 obtain ⟨cb2, fb2⟩ := HB2.out.facts
 obtain ⟨cd2, fd2⟩ := HD2.out.facts
 clear hb2 HA1 HB1 HD1 HX1
 by_cases hKK : K = K'
 ·subst hKK
  have hne : (K != K) = false := by simp
  by_cases h3 : K = 3
  ·have h3b : (K == 3) = true := by simpa using h3
   have hr : res = r := HV.out.trans (by rw [if_pos rfl, if_pos h3])
   have HR := Lib.hid hr
   have KC := Lib.hid (HC.out h3 _ HX2.out)
   clear hr h3 HC HV
   go_simp
   repeat (first | go_values | go_skip | go_guarded | go_step | go_upon)
   refine Calls.mono KC.out ?_
   rintro e w3 ⟨rfl, hb3⟩
   have HX3 := Lib.hid (HX2.out.trans (Below.mono hb3 HX2.out.size))
   go_simp
   repeat (first | go_values | go_skip | go_guarded | go_step | go_upon)
   go_ret
   exact ⟨by rw [HR.out]; rfl, HX3.out⟩
  ·have h3b : (K == 3) = false := by simpa using h3
   have hr : res = cmpI M M' := HV.out.trans (by rw [if_pos rfl, if_neg h3])
   have HR := Lib.hid hr
   clear hr h3 HC HV
   go_simp
   repeat (first | go_values | go_skip | go_guarded | go_step | go_upon)
   refine Calls.mono (refints_any M M' _) ?_
   rintro e w3 ⟨rfl, rfl⟩
   go_simp
   repeat (first | go_values | go_skip | go_guarded | go_step | go_upon)
   go_ret
   exact ⟨by rw [HR.out]; rfl, HX2.out⟩
 ·have hne : (K != K') = true := by simpa using hKK
  have hr : res = cmpI K K' := HV.out.trans (by rw [if_neg hKK])
  have HR := Lib.hid hr
  clear hr hKK HC HV
  go_simp
  repeat (first | go_values | go_skip | go_guarded | go_step | go_upon)
  refine Calls.mono (refints_any K K' _) ?_
  rintro e w3 ⟨rfl, rfl⟩
  go_simp
  repeat (first | go_values | go_skip | go_guarded | go_step | go_upon)
  go_ret
  exact ⟨by rw [HR.out]; rfl, HX2.out⟩
theorem clean_ok (k n : Int) (s : ByteArray) : vOk (cK k n s) (cN k n s) (cS k n s) = true := by
 unfold cK cN cS
 cases h : vOk k n s
 ·simp only [if_neg (show ¬ (false = true) by simp)]
  decide +kernel
 ·simp only [if_true]
  exact h
theorem vOrd_clean (K M : Int) (T : ByteArray) (M' : Int) (T' : ByteArray) (r : Int) (h : vOk K M T = true) (h' : vOk K M' T' = true) : vOrd K M T K M' T' r = alikeV K r M M' := by
 unfold vOrd cK cN
 rw [h, h', if_pos rfl, if_pos rfl, if_pos rfl, if_pos rfl]
set_option maxHeartbeats 8000000 in
theorem refcmp_any (k n : Int) (s : ByteArray) (k' n' : Int) (s' : ByteArray) (x0 x1 : Int) (x2 x3 : Bool) (y0 : Option Addr) (y1 y2 : Nat) (r : Int) (w : World)
  (hC : cK k n s = 3 → CmpAtR w #[.int .i64 x0, .int .i64 x1, .bool x2, .bool x3, .slice y0 y1 y2] (cS k n s) (cS k' n' s') r) :
  Calls Tryz.prog 34 #[vV k n s, vV k' n' s', .agg #[.int .i64 x0, .int .i64 x1, .bool x2, .bool x3, .slice y0 y1 y2]] w fun e w' => e = .returned (vCmp k n s k' n' s' r) ∧ Below w.heap.size w w' := by
 have KA := Lib.hid (refclean_any k n s)
 have KB := Lib.hid (refclean_any k' n' s')
 have hok := clean_ok k n s
 have hok' := clean_ok k' n' s'
 have hv : vCmp k n s k' n' s' r = if cK k n s = 0 ∨ cK k' n' s' = 0 then .tuple #[.int .i64 0, .bool false, .int .i64 0] else if cK k n s = cK k' n' s' then .tuple #[.int .i64 (alikeV (cK k n s) r (cN k n s) (cN k' n' s')), .bool true, .int .i64 0] else .tuple #[.int .i64 0, .bool false, .int .i64 12] := rfl
 generalize vCmp k n s k' n' s' r = res at hv ⊢
 generalize cK k n s = K at hv hC KA hok
 generalize cN k n s = M at hv KA hok
 generalize cS k n s = T at hC KA hok
 generalize cK k' n' s' = K' at hv KB hok'
 generalize cN k' n' s' = M' at hv KB hok'
 generalize cS k' n' s' = T' at hC KB hok'
 have HC := Lib.hid hC
 have HV := Lib.hid hv
 have HOk := Lib.hid hok
 have HOk' := Lib.hid hok'
 simp only [vV] at KA KB ⊢
 clear hC hv hok hok'
 go_enter Tryz.func34, Tryz.ntmps34
 go_wp2_with fail
 have hA := ((Blk.new w #[.int .i64 k, .int .i64 n, .string s] 45 rfl).alloc (.cells #[.int .i64 k', .int .i64 n', .string s'] 45)).alloc (.cells #[.int .i64 x0, .int .i64 x1, .bool x2, .bool x3, .slice y0 y1 y2] 30)
 have hB := (Blk.new (w.alloc (.cells #[.int .i64 k, .int .i64 n, .string s] 45)) #[.int .i64 k', .int .i64 n', .string s'] 45 (n := w.heap.size + 1) (by simp)).alloc (.cells #[.int .i64 x0, .int .i64 x1, .bool x2, .bool x3, .slice y0 y1 y2] 30)
 have hD := Blk.new ((w.alloc (.cells #[.int .i64 k, .int .i64 n, .string s] 45)).alloc (.cells #[.int .i64 k', .int .i64 n', .string s'] 45)) #[.int .i64 x0, .int .i64 x1, .bool x2, .bool x3, .slice y0 y1 y2] 30 (n := w.heap.size + 1 + 1) (by simp)
 have hx0 := (((Ext.refl w).alloc (.cells #[.int .i64 k, .int .i64 n, .string s] 45)).alloc (.cells #[.int .i64 k', .int .i64 n', .string s'] 45)).alloc (.cells #[.int .i64 x0, .int .i64 x1, .bool x2, .bool x3, .slice y0 y1 y2] 30)
 generalize ((w.alloc (.cells #[.int .i64 k, .int .i64 n, .string s] 45)).alloc (.cells #[.int .i64 k', .int .i64 n', .string s'] 45)).alloc (.cells #[.int .i64 x0, .int .i64 x1, .bool x2, .bool x3, .slice y0 y1 y2] 30) = W0 at hA hB hD hx0 ⊢
 generalize hg0 : w.heap.size = g at hA hB hD ⊢
 refine Calls.mono (KA.out _) ?_
 rintro e w1 ⟨rfl, hb1⟩
 have HA1 := Lib.hid (blk3 (hA.keep hb1) (.int .i64 K) (.int .i64 M) (.string T))
 have HB1 := Lib.hid (((hB.keep hb1).other (a := ⟨g, 0, none⟩) (show g + 1 ≠ g by omega) (.int .i64 K) |>.other (a := ⟨g, 1, none⟩) (show g + 1 ≠ g by omega) (.int .i64 M)).other (a := ⟨g, 2, none⟩) (show g + 1 ≠ g by omega) (.string T))
 have HD1 := Lib.hid (((hD.keep hb1).other (a := ⟨g, 0, none⟩) (show g + 1 + 1 ≠ g by omega) (.int .i64 K) |>.other (a := ⟨g, 1, none⟩) (show g + 1 + 1 ≠ g by omega) (.int .i64 M)).other (a := ⟨g, 2, none⟩) (show g + 1 + 1 ≠ g by omega) (.string T))
 have HX1 := Lib.hid (below3 (show Below w.heap.size w w1 from Ext.trans hx0 hb1) (show w.heap.size ≤ g by omega) (.int .i64 K) (.int .i64 M) (.string T))
 obtain ⟨ca, fa⟩ := (hA.keep hb1).facts
 have hal := (hA.keep hb1).lt
 obtain ⟨cb, fb⟩ := HB1.out.facts
 clear hA hB hD hx0 hb1
 go_simp
 repeat (first | go_values | go_skip | go_guarded | go_step | go_upon)
 clear ca fa hal cb fb
 generalize ((w1.setCell ⟨g, 0, none⟩ (.int .i64 K)).setCell ⟨g, 1, none⟩ (.int .i64 M)).setCell ⟨g, 2, none⟩ (.string T) = W1 at HA1 HB1 HD1 HX1 ⊢
 refine Calls.mono (KB.out _) ?_
 rintro e w2 ⟨rfl, hb2⟩
 have HA2 := Lib.hid ((((HA1.out.keep hb2).other (a := ⟨g + 1, 0, none⟩) (show g ≠ g + 1 by omega) (.int .i64 K')).other (a := ⟨g + 1, 1, none⟩) (show g ≠ g + 1 by omega) (.int .i64 M')).other (a := ⟨g + 1, 2, none⟩) (show g ≠ g + 1 by omega) (.string T'))
 have HB2 := Lib.hid (blk3 (HB1.out.keep hb2) (.int .i64 K') (.int .i64 M') (.string T'))
 have HD2 := Lib.hid ((((HD1.out.keep hb2).other (a := ⟨g + 1, 0, none⟩) (show g + 1 + 1 ≠ g + 1 by omega) (.int .i64 K')).other (a := ⟨g + 1, 1, none⟩) (show g + 1 + 1 ≠ g + 1 by omega) (.int .i64 M')).other (a := ⟨g + 1, 2, none⟩) (show g + 1 + 1 ≠ g + 1 by omega) (.string T'))
 have HX2 := Lib.hid (below3 (HX1.out.trans (Below.mono hb2 HX1.out.size)) (show w.heap.size ≤ g + 1 by omega) (.int .i64 K') (.int .i64 M') (.string T'))
 obtain ⟨cb, fb⟩ := (HB1.out.keep hb2).facts
 have hbl := (HB1.out.keep hb2).lt
 obtain ⟨ca, fa⟩ := HA2.out.facts
 obtain ⟨cb2, fb2⟩ := HB2.out.facts
 obtain ⟨cd2, fd2⟩ := HD2.out.facts
 clear hb2 HA1 HB1 HD1 HX1
 by_cases h0 : K = 0
 ·have h0b : (K == 0) = true := by simpa using h0
  have hr : res = _ := HV.out.trans (by rw [if_pos (.inl h0)])
  have HR := Lib.hid hr
  clear hr h0 HC HV
  go_simp
  repeat (first | go_values | go_skip | go_guarded | go_step | go_upon)
  exact bodyPost_ret (v := .tuple #[.int .i64 0, .bool false, .int .i64 0]) (by simp [results, Tryz.results34, go_sem]) rfl ⟨by rw [HR.out], HX2.out⟩
 ·have h0b : (K == 0) = false := by simpa using h0
  by_cases h0' : K' = 0
  ·have h0b' : (K' == 0) = true := by simpa using h0'
   have hr : res = _ := HV.out.trans (by rw [if_pos (.inr h0')])
   have HR := Lib.hid hr
   clear hr h0' h0 HC HV
   go_simp
   repeat (first | go_values | go_skip | go_guarded | go_step | go_upon)
   exact bodyPost_ret (v := .tuple #[.int .i64 0, .bool false, .int .i64 0]) (by simp [results, Tryz.results34, go_sem]) rfl ⟨by rw [HR.out], HX2.out⟩
  ·have h0b' : (K' == 0) = false := by simpa using h0'
   by_cases hKK : K = K'
   ·subst hKK
    have hne : (K != K) = false := by simp
    have hr : res = .tuple #[.int .i64 (alikeV K r M M'), .bool true, .int .i64 0] := HV.out.trans (by rw [if_neg (by simp [h0]), if_pos rfl])
    have HR := Lib.hid hr
    have KO := Lib.hid (fun (W : World) (hW : Below w.heap.size w W) => reforder_any K M T K M' T' x0 x1 x2 x3 y0 y1 y2 r W (fun h => by
     have e1 : cK K M T = K := by unfold cK; rw [HOk.out, if_pos rfl]
     have e2 : cS K M T = T := by unfold cS; rw [HOk.out, if_pos rfl]
     have e3 : cS K M' T' = T' := by unfold cS; rw [HOk'.out, if_pos rfl]
     rw [e2, e3]
     exact (HC.out (e1.symm.trans h)).ext hW))
    rw [vOrd_clean K M T M' T' r HOk.out HOk'.out] at KO
    simp only [vV] at KO
    clear hr h0 h0' HC HV
    go_simp
    repeat (first | go_values | go_skip | go_guarded | go_step | go_upon)
    refine Calls.mono (KO.out _ HX2.out) ?_
    rintro e w3 ⟨rfl, hb3⟩
    have HX3 := Lib.hid (HX2.out.trans (Below.mono hb3 HX2.out.size))
    go_simp
    repeat (first | go_values | go_skip | go_guarded | go_step | go_upon)
    exact bodyPost_ret (v := .tuple #[.int .i64 (alikeV K r M M'), .bool true, .int .i64 0]) (by simp [results, Tryz.results34, go_sem]) rfl ⟨by rw [HR.out], HX3.out⟩
   ·have hne : (K != K') = true := by simpa using hKK
    have hr : res = _ := HV.out.trans (by rw [if_neg (by simp [h0, h0']), if_neg hKK])
    have HR := Lib.hid hr
    clear hr hKK h0 h0' HC HV
    go_simp
    repeat (first | go_values | go_skip | go_guarded | go_step | go_upon)
    exact bodyPost_ret (v := .tuple #[.int .i64 0, .bool false, .int .i64 12]) (by simp [results, Tryz.results34, go_sem]) rfl ⟨by rw [HR.out], HX2.out⟩
end Go.Proofs.YtipokgedmfnlaaaGreatDoor

namespace Go.Proofs.YtipokgedmfnlaaaGreatDoor
open Go.RowKit Go.Lib
set_option maxRecDepth 100000

theorem lookS (c : Nat) : lookE rootS c = rootAt c := by
 unfold lookE
 cases h : rootS.find? (fun x => x.1 == c) with
 | some x =>
  have h1 := List.find?_some h
  have h2 := List.mem_of_find?_eq_some h
  have h3 : x.1 = c := by simpa using h1
  have h4 : (c, x.2) ∈ rootL := by rw [← h3]; exact rootS_mem.1 x h2
  exact (rootAt_mem.2 h4).symm
 | none =>
  cases h2 : rootAt c with
  | none => rfl
  | some l =>
   have h3 := rootS_mem.2 _ (rootAt_mem.1 h2)
   have h4 := List.find?_eq_none.1 h _ h3
   exact absurd (beq_self_eq_true c) h4
theorem elsL_root (cs : List Nat) : elsL rootS cs = els cs := by
 unfold elsL els
 congr 1
 funext c
 rw [lookS]
 rfl
theorem chain_vals {α : Type} {f : α → α → Int} (h : Chain f) (x y : α) : -1 ≤ f x y ∧ f x y ≤ 1 := by
 have v := h.vals x y
 omega
theorem leK_swap {f : List UInt8 → List UInt8 → Int} (hf : Chain f) (k0 n0 : Int) (s0 : ByteArray) (k1 n1 : Int) (s1 : ByteArray) : leK k1 n1 s1 k0 n0 s0 f = -leK k0 n0 s0 k1 n1 s1 f := by
 unfold leK vOrd alikeV
 by_cases h : cK k0 n0 s0 = cK k1 n1 s1
 ·rw [if_pos h, if_pos h.symm, h]
  by_cases h3 : cK k1 n1 s1 = 3
  ·rw [if_pos h3, if_pos h3]; exact hf.swap _ _
  ·rw [if_neg h3, if_neg h3]; exact chain_cmpI.swap _ _
 ·rw [if_neg h, if_neg (fun e => h e.symm)]; exact chain_cmpI.swap _ _
theorem leK_vals {f : List UInt8 → List UInt8 → Int} (hf : Chain f) (k0 n0 : Int) (s0 : ByteArray) (k1 n1 : Int) (s1 : ByteArray) : -1 ≤ leK k0 n0 s0 k1 n1 s1 f ∧ leK k0 n0 s0 k1 n1 s1 f ≤ 1 := by
 unfold leK vOrd alikeV
 split
 ·split
  ·exact chain_vals hf _ _
  ·exact chain_vals chain_cmpI _ _
 ·exact chain_vals chain_cmpI _ _
theorem vCmp_tuple (k n : Int) (s : ByteArray) (k' n' : Int) (s' : ByteArray) (r : Int) : ∃ (p : Int) (q : Bool) (e : Int), vCmp k n s k' n' s' r = .tuple #[.int .i64 p, .bool q, .int .i64 e] := by
 unfold vCmp
 split
 ·exact ⟨_, _, _, rfl⟩
 ·split
  ·exact ⟨_, _, _, rfl⟩
  ·exact ⟨_, _, _, rfl⟩
/-- The document's collation in hand. -/
def CollInR (w : World) (x : Array Value) (f : List UInt8 → List UInt8 → Int) : Prop :=
 ∀ (a b : ByteArray), a.size ≤ 10000 → b.size ≤ 10000 → CmpAtR w x a b (f a.data.toList b.data.toList)
theorem CollInR.ext {w w' : World} {x : Array Value} {f : List UInt8 → List UInt8 → Int} (h : CollInR w x f) (hx : Ext w w') : CollInR w' x f := fun a b ha hb => (h a b ha hb).ext hx
/-- What Make answers: two collations of one way. -/
def MakeBoth (w : World) (e : Ending) (w' : World) : Prop :=
 (∃ K lv sh p q1 q2 q3 f, e = .returned (.tuple #[cV K lv sh false p, rV K lv sh false (.slice q1 q2 q3), .bool true]) ∧ CollIn w' K lv sh p f ∧ CollInR w' #[.int .i64 K, .int .i64 lv, .bool sh, .bool false, .slice q1 q2 q3] f ∧ Chain f) ∧ Below w.heap.size w w'
theorem make_both (kind level : Int) (sh : Bool) (w : World) (hG : ∀ W, Ext w W → Glob W) :
  Calls Tryz.prog 10 #[.int .i64 kind, .int .i64 level, .bool sh, .bool false, .string ⟨#[]⟩] w (MakeBoth w) := by
 by_cases hk : kind = 1 ∨ kind = 2
 ·refine Calls.mono (make_small kind level sh false ⟨#[]⟩ w hk) ?_
  rintro e w' ⟨rfl, hb⟩
  refine ⟨⟨kind, 0, false, none, _, _, _, collC kind 0 false false, rfl, fun a b ha hb2 => cmpAt_small kind 0 false none a b w' hk ha hb2 fun W hW => (hG W (Ext.trans hb hW)).tabs, ?_, chain_coll _ _ _ _⟩, hb⟩
  intro a b ha hb2 W hW
  rcases hk with rfl | rfl
  ·exact cmpR_bin 1 0 false false none 0 0 a b W (by decide) (by decide)
  ·exact cmpR_fold 0 false false none 0 0 a b W (by omega) (by omega)
 ·refine Calls.mono (make_table kind level sh false w (fun h => hk (.inl h)) (fun h => hk (.inr h))) ?_
  rintro e w' ⟨⟨p, v, rfl, hp, hv⟩, hb⟩
  obtain ⟨l1, l3⟩ := lvl_13 level
  obtain ⟨a1, a2, a3, rfl⟩ := hv.slice
  refine ⟨⟨3, lvl level, sh, some ⟨p, 0, none⟩, _, _, _, collC 3 (lvl level) sh false, rfl, fun a b ha hb2 => cmpAt_table (lvl level) sh p a b w' l1 l3 hp ha hb2 fun W hW => (hG W (Ext.trans hb hW)).tabs, ?_, chain_coll _ _ _ _⟩, hb⟩
  intro a b ha hb2 W hW
  have h := cmpR_table (lvl level) sh (.slice a1 a2 a3) rootS a b W ⟨l1, l3⟩ (hv.ext hW) (by rw [rootS_length]; omega) (fun y hy => (rootS_good y hy).1) ha hb2
  rw [elsL_root, elsL_root] at h
  exact h
theorem orderR_in (k0 n0 : Int) (s0 : ByteArray) (k1 n1 : Int) (s1 : ByteArray) (K lv : Int) (sh : Bool) (q1 : Option Addr) (q2 q3 : Nat) (f : List UInt8 → List UInt8 → Int) (w : World) (h : CollInR w #[.int .i64 K, .int .i64 lv, .bool sh, .bool false, .slice q1 q2 q3] f) (h0 : s0.size ≤ 10000) (h1 : s1.size ≤ 10000) :
  Calls Tryz.prog 15 #[vV k0 n0 s0, vV k1 n1 s1, .agg #[.int .i64 K, .int .i64 lv, .bool sh, .bool false, .slice q1 q2 q3]] w fun e w' => e = .returned (.int .i64 (leK k0 n0 s0 k1 n1 s1 f)) ∧ Below w.heap.size w w' :=
 reforder_any k0 n0 s0 k1 n1 s1 K lv sh false q1 q2 q3 _ w fun _ => h _ _ (Nat.le_trans (cS_size _ _ _) h0) (Nat.le_trans (cS_size _ _ _) h1)
end Go.Proofs.YtipokgedmfnlaaaGreatDoor
