import Derived.Deep.LoopGhost
import Derived.Test.YtcgbpmeadohbkaaGreatDoorRwB
namespace Go.Proofs.YtcgbpmeadohbkaaGreatDoor
open Go.RowKit Go.Lib
set_option maxRecDepth 100000
def FlagPost (b : Bool) (w : World) (e : Ending) (w' : World) : Prop := e = .returned (.bool b) ∧ Ext w w'
theorem flag_ret {b c : Bool} {w w' : World} (h : c = b) (hx : Ext w w') : FlagPost b w (.returned (.bool c)) w' := ⟨by rw [h], hx⟩
theorem word_eq (s l : List UInt8) : ((⟨s.toArray⟩ : ByteArray).toList == l) = decide (s = l) := by
 rw [Bool.eq_iff_iff, beq_iff_eq, decide_eq_true_iff, ByteArray.toList_eq]
theorem kid_kind {A : Nat → Prop} {w : World} {la : Option Addr} {ln lc : Nat} {l : List Tr} (h : KidsA A w la ln lc l) (i : Nat) (hi : i < l.length) (hge : ∀ y, y ∈ l → 0 ≤ kindT y) :
 ∃ (g off : Nat) (k : Int), la = some ⟨g, off, none⟩ ∧ w.cell? ⟨g, off + i * 6, none⟩ = some (.int .i64 k) ∧ g < w.heap.size ∧ l.length ≤ lc ∧ k = kindAt l i ∧ 0 ≤ k := by
 obtain ⟨g, off, y, z, hla, hz, hT, hg, _, hlc, h0, _⟩ := h.get i hi
 refine ⟨g, off, y.k, hla, h0, hg, hlc, ?_, ?_⟩
 ·rw [kind_tr hT]; unfold kindAt; rw [hz]
 ·rw [kind_tr hT]; exact hge z (List.mem_of_getElem? hz)
set_option maxHeartbeats 4000000 in
theorem alone_any (A : Nat → Prop) (w : World) (xk xo : Int) (s t : List UInt8) (xn : Int) (xla : Option Addr) (xln xlc : Nat) (l : List Tr) (hK : KidsA A w xla xln xlc l) (hS : Shape xk xo s t xn l.length) (hge : ∀ y, y ∈ l → 0 ≤ kindT y) :
 Calls Tryz.prog 31 #[.agg #[.int .i64 xk, .int .i64 xo, .string ⟨s.toArray⟩, .string ⟨t.toArray⟩, .int .i64 xn, .slice xla xln xlc]] w (FlagPost (aloneT xk xo s xn l) w) := by
 obtain ⟨xs, hxs⟩ : ∃ x : ByteArray, x = ⟨s.toArray⟩ := ⟨_, rfl⟩
 obtain ⟨xt, hxt⟩ : ∃ x : ByteArray, x = ⟨t.toArray⟩ := ⟨_, rfl⟩
 have ew := word_eq s
 rw [← hxs] at ew
 rw [← hxs, ← hxt]
 have HE := Lib.hid ew
 have HX := Lib.hid (show Ext w (w.alloc (.cells #[.int .i64 xk, .int .i64 xo, .string xs, .string xt, .int .i64 xn, .slice xla xln xlc] 24)) from (Ext.refl w).alloc _)
 have HB := Lib.hid (Blk.new w #[.int .i64 xk, .int .i64 xo, .string xs, .string xt, .int .i64 xn, .slice xla xln xlc] 24 rfl)
 have HK := Lib.hid (hK.ext HX.out)
 have HLn := Lib.hid hK.len
 have HG := Lib.hid hge
 obtain ⟨R, hR⟩ : ∃ R, R = aloneT xk xo s xn l := ⟨_, rfl⟩
 rw [← hR]
 obtain ⟨_, hC⟩ := shape_cases hS
 clear hK hge hxs hxt ew hS
 unfold aloneT at hR
 rcases hC with hxk | ⟨hxk, hC⟩ | ⟨hxk, h1, h2⟩ | ⟨hxk, hm⟩ | hxk | ⟨hxk, hm, hn⟩ | ⟨n14, n5, n6, n8, n13, n12⟩
 ·have HR := Lib.hid (show R = false by rw [hR, hxk]; rfl)
  clear hR
  have b14k : (xk == 14) = true := by rw [hxk]; rfl
  have b5k : (xk == 5) = false := by rw [hxk]; rfl
  have b6k : (xk == 6) = false := by rw [hxk]; rfl
  have b8k : (xk == 8) = false := by rw [hxk]; rfl
  have b13k : (xk == 13) = false := by rw [hxk]; rfl
  have b12k : (xk == 12) = false := by rw [hxk]; rfl
  clear hxk
  go_enter Tryz.func31, Tryz.ntmps31
  go_upto_region 1 with (fail)
  generalize (w.alloc (.cells #[.int .i64 xk, .int .i64 xo, .string xs, .string xt, .int .i64 xn, .slice xla xln xlc] 24)) = W0 at HX HB HK ⊢
  obtain ⟨cb, fb⟩ := HB.out.facts
  have hbl := HB.out.lt
  go_simp
  repeat (first | go_values | go_skip | go_guarded | go_step | go_upon)
  go_returns
  exact flag_ret HR.out.symm HX.out
 ·rcases hC with ho | ho
  ·have HR := Lib.hid (show R = false by rw [hR, hxk, ho]; rfl)
   have bo : (xo == 21) = false := by rw [ho]; rfl
   clear hR ho
   have b14k : (xk == 14) = false := by rw [hxk]; rfl
   have b5k : (xk == 5) = true := by rw [hxk]; rfl
   have b6k : (xk == 6) = false := by rw [hxk]; rfl
   have b8k : (xk == 8) = false := by rw [hxk]; rfl
   have b13k : (xk == 13) = false := by rw [hxk]; rfl
   have b12k : (xk == 12) = false := by rw [hxk]; rfl
   clear hxk
   go_enter Tryz.func31, Tryz.ntmps31
   go_upto_region 1 with (fail)
   generalize (w.alloc (.cells #[.int .i64 xk, .int .i64 xo, .string xs, .string xt, .int .i64 xn, .slice xla xln xlc] 24)) = W0 at HX HB HK ⊢
   obtain ⟨cb, fb⟩ := HB.out.facts
   have hbl := HB.out.lt
   go_simp
   repeat (first | go_values | go_skip | go_guarded | go_step | go_upon)
   go_returns
   exact flag_ret HR.out.symm HX.out
  ·have HR := Lib.hid (show R = true by rw [hR, hxk, ho]; rfl)
   have bo : (xo == 21) = true := by rw [ho]; rfl
   clear hR ho
   have b14k : (xk == 14) = false := by rw [hxk]; rfl
   have b5k : (xk == 5) = true := by rw [hxk]; rfl
   have b6k : (xk == 6) = false := by rw [hxk]; rfl
   have b8k : (xk == 8) = false := by rw [hxk]; rfl
   have b13k : (xk == 13) = false := by rw [hxk]; rfl
   have b12k : (xk == 12) = false := by rw [hxk]; rfl
   clear hxk
   go_enter Tryz.func31, Tryz.ntmps31
   go_upto_region 1 with (fail)
   generalize (w.alloc (.cells #[.int .i64 xk, .int .i64 xo, .string xs, .string xt, .int .i64 xn, .slice xla xln xlc] 24)) = W0 at HX HB HK ⊢
   obtain ⟨cb, fb⟩ := HB.out.facts
   have hbl := HB.out.lt
   go_simp
   repeat (first | go_values | go_skip | go_guarded | go_step | go_upon)
   go_returns
   exact flag_ret HR.out.symm HX.out
 ·by_cases a1 : 7 ≤ xo ∧ xo ≤ 13
  ·have b1 : decide (xo < 7) = false := by rw [decide_eq_false_iff_not]; omega
   have b2 : decide (13 < xo) = false := by rw [decide_eq_false_iff_not]; omega
   have b3 : decide (xo > 13) = false := by rw [decide_eq_false_iff_not]; omega
   have HR := Lib.hid (show R = false by rw [hR, hxk]; simp; omega)
   clear hR
   have b14k : (xk == 14) = false := by rw [hxk]; rfl
   have b5k : (xk == 5) = false := by rw [hxk]; rfl
   have b6k : (xk == 6) = true := by rw [hxk]; rfl
   have b8k : (xk == 8) = false := by rw [hxk]; rfl
   have b13k : (xk == 13) = false := by rw [hxk]; rfl
   have b12k : (xk == 12) = false := by rw [hxk]; rfl
   clear hxk
   go_enter Tryz.func31, Tryz.ntmps31
   go_upto_region 1 with (fail)
   generalize (w.alloc (.cells #[.int .i64 xk, .int .i64 xo, .string xs, .string xt, .int .i64 xn, .slice xla xln xlc] 24)) = W0 at HX HB HK ⊢
   obtain ⟨cb, fb⟩ := HB.out.facts
   have hbl := HB.out.lt
   go_simp
   repeat (first | go_values | go_skip | go_guarded | go_step | go_upon)
   go_returns
   exact flag_ret HR.out.symm HX.out
  ·by_cases a2 : xo = 17
   ·have HR := Lib.hid (show R = false by rw [hR, hxk, a2]; simp)
    have b1 : decide (xo < 7) = false := by rw [decide_eq_false_iff_not]; omega
    have b2 : decide (13 < xo) = true := by rw [decide_eq_true_iff]; omega
    have b3 : decide (xo > 13) = true := by rw [decide_eq_true_iff]; omega
    have b4 : (xo != 17) = false := by rw [a2]; rfl
    clear hR a1 a2
    have b14k : (xk == 14) = false := by rw [hxk]; rfl
    have b5k : (xk == 5) = false := by rw [hxk]; rfl
    have b6k : (xk == 6) = true := by rw [hxk]; rfl
    have b8k : (xk == 8) = false := by rw [hxk]; rfl
    have b13k : (xk == 13) = false := by rw [hxk]; rfl
    have b12k : (xk == 12) = false := by rw [hxk]; rfl
    clear hxk
    go_enter Tryz.func31, Tryz.ntmps31
    go_upto_region 1 with (fail)
    generalize (w.alloc (.cells #[.int .i64 xk, .int .i64 xo, .string xs, .string xt, .int .i64 xn, .slice xla xln xlc] 24)) = W0 at HX HB HK ⊢
    obtain ⟨cb, fb⟩ := HB.out.facts
    have hbl := HB.out.lt
    go_simp
    repeat (first | go_values | go_skip | go_guarded | go_step | go_upon)
    go_returns
    exact flag_ret HR.out.symm HX.out
   ·have HR := Lib.hid (show R = true by rw [hR, hxk]; simp; omega)
    have b4 : (xo != 17) = true := by simpa [bne] using a2
    clear hR
    by_cases a3 : xo < 7
    ·have b1 : decide (xo < 7) = true := by rw [decide_eq_true_iff]; omega
     clear a1
     have b14k : (xk == 14) = false := by rw [hxk]; rfl
     have b5k : (xk == 5) = false := by rw [hxk]; rfl
     have b6k : (xk == 6) = true := by rw [hxk]; rfl
     have b8k : (xk == 8) = false := by rw [hxk]; rfl
     have b13k : (xk == 13) = false := by rw [hxk]; rfl
     have b12k : (xk == 12) = false := by rw [hxk]; rfl
     clear hxk
     go_enter Tryz.func31, Tryz.ntmps31
     go_upto_region 1 with (fail)
     generalize (w.alloc (.cells #[.int .i64 xk, .int .i64 xo, .string xs, .string xt, .int .i64 xn, .slice xla xln xlc] 24)) = W0 at HX HB HK ⊢
     obtain ⟨cb, fb⟩ := HB.out.facts
     have hbl := HB.out.lt
     go_simp
     repeat (first | go_values | go_skip | go_guarded | go_step | go_upon)
     go_returns
     exact flag_ret HR.out.symm HX.out
    ·have b1 : decide (xo < 7) = false := by rw [decide_eq_false_iff_not]; omega
     have b2 : decide (13 < xo) = true := by rw [decide_eq_true_iff]; omega
     have b3 : decide (xo > 13) = true := by rw [decide_eq_true_iff]; omega
     clear a1
     have b14k : (xk == 14) = false := by rw [hxk]; rfl
     have b5k : (xk == 5) = false := by rw [hxk]; rfl
     have b6k : (xk == 6) = true := by rw [hxk]; rfl
     have b8k : (xk == 8) = false := by rw [hxk]; rfl
     have b13k : (xk == 13) = false := by rw [hxk]; rfl
     have b12k : (xk == 12) = false := by rw [hxk]; rfl
     clear hxk
     go_enter Tryz.func31, Tryz.ntmps31
     go_upto_region 1 with (fail)
     generalize (w.alloc (.cells #[.int .i64 xk, .int .i64 xo, .string xs, .string xt, .int .i64 xn, .slice xla xln xlc] 24)) = W0 at HX HB HK ⊢
     obtain ⟨cb, fb⟩ := HB.out.facts
     have hbl := HB.out.lt
     go_simp
     repeat (first | go_values | go_skip | go_guarded | go_step | go_upon)
     go_returns
     exact flag_ret HR.out.symm HX.out
 ·obtain ⟨g, off, k1, hla, q0, hgl, hlc, hk, hk0⟩ := kid_kind HK.out 1 (by omega) HG.out
  simp only [Nat.one_mul] at q0
  have hln2 : 2 ≤ xln := by have := HLn.out; omega
  have hlc2 : xln ≤ xlc := by have := HLn.out; omega
  have HR := Lib.hid (show R = (k1 == 3) by rw [hR, hxk, hk]; simp [Bool.beq_eq_decide_eq])
  have b1 : decide (1 < (xln : Int)) = true := by rw [decide_eq_true_iff]; omega
  have b2 : decide ((xln : Int) > 1) = true := by rw [decide_eq_true_iff]; omega
  have b3 : decide (1 < xln) = true := by rw [decide_eq_true_iff]; omega
  subst hla
  clear hR hm hlc hk hk0
  have b14k : (xk == 14) = false := by rw [hxk]; rfl
  have b5k : (xk == 5) = false := by rw [hxk]; rfl
  have b6k : (xk == 6) = false := by rw [hxk]; rfl
  have b8k : (xk == 8) = true := by rw [hxk]; rfl
  have b13k : (xk == 13) = false := by rw [hxk]; rfl
  have b12k : (xk == 12) = false := by rw [hxk]; rfl
  clear hxk
  go_enter Tryz.func31, Tryz.ntmps31
  go_upto_region 1 with (fail)
  generalize (w.alloc (.cells #[.int .i64 xk, .int .i64 xo, .string xs, .string xt, .int .i64 xn, .slice (some ⟨g, off, none⟩) xln xlc] 24)) = W0 at HX HB HK q0 hgl ⊢
  obtain ⟨cb, fb⟩ := HB.out.facts
  have hbl := HB.out.lt
  go_simp
  repeat (first | go_values | go_skip | go_guarded | go_step | go_upon)
  go_returns
  exact flag_ret HR.out.symm HX.out
 ·by_cases a1 : s = [102, 111, 108, 100]
  ·have b1 : (xs.toList == [102, 111, 108, 100]) = true := by rw [HE.out]; simp [a1]
   have HR := Lib.hid (show R = false by rw [hR, hxk]; simp [a1])
   clear hR a1
   have b14k : (xk == 14) = false := by rw [hxk]; rfl
   have b5k : (xk == 5) = false := by rw [hxk]; rfl
   have b6k : (xk == 6) = false := by rw [hxk]; rfl
   have b8k : (xk == 8) = false := by rw [hxk]; rfl
   have b13k : (xk == 13) = true := by rw [hxk]; rfl
   have b12k : (xk == 12) = false := by rw [hxk]; rfl
   clear hxk
   go_enter Tryz.func31, Tryz.ntmps31
   go_upto_region 1 with (fail)
   generalize (w.alloc (.cells #[.int .i64 xk, .int .i64 xo, .string xs, .string xt, .int .i64 xn, .slice xla xln xlc] 24)) = W0 at HX HB HK ⊢
   obtain ⟨cb, fb⟩ := HB.out.facts
   have hbl := HB.out.lt
   go_simp
   repeat (first | go_values | go_skip | go_guarded | go_step | go_upon)
   go_returns
   exact flag_ret HR.out.symm HX.out
  ·have b1 : (xs.toList == [102, 111, 108, 100]) = false := by rw [HE.out]; simp [a1]
   by_cases a2 : s = [97, 98, 115]
   ·have b2 : (xs.toList == [97, 98, 115]) = true := by rw [HE.out]; simp [a2]
    have HR := Lib.hid (show R = false by rw [hR, hxk]; simp [a2])
    clear hR a1 a2
    have b14k : (xk == 14) = false := by rw [hxk]; rfl
    have b5k : (xk == 5) = false := by rw [hxk]; rfl
    have b6k : (xk == 6) = false := by rw [hxk]; rfl
    have b8k : (xk == 8) = false := by rw [hxk]; rfl
    have b13k : (xk == 13) = true := by rw [hxk]; rfl
    have b12k : (xk == 12) = false := by rw [hxk]; rfl
    clear hxk
    go_enter Tryz.func31, Tryz.ntmps31
    go_upto_region 1 with (fail)
    generalize (w.alloc (.cells #[.int .i64 xk, .int .i64 xo, .string xs, .string xt, .int .i64 xn, .slice xla xln xlc] 24)) = W0 at HX HB HK ⊢
    obtain ⟨cb, fb⟩ := HB.out.facts
    have hbl := HB.out.lt
    go_simp
    repeat (first | go_values | go_skip | go_guarded | go_step | go_upon)
    go_returns
    exact flag_ret HR.out.symm HX.out
   ·have b2 : (xs.toList == [97, 98, 115]) = false := by rw [HE.out]; simp [a2]
    have HR := Lib.hid (show R = true by rw [hR, hxk]; simp [a1, a2])
    clear hR a1 a2
    have b14k : (xk == 14) = false := by rw [hxk]; rfl
    have b5k : (xk == 5) = false := by rw [hxk]; rfl
    have b6k : (xk == 6) = false := by rw [hxk]; rfl
    have b8k : (xk == 8) = false := by rw [hxk]; rfl
    have b13k : (xk == 13) = true := by rw [hxk]; rfl
    have b12k : (xk == 12) = false := by rw [hxk]; rfl
    clear hxk
    go_enter Tryz.func31, Tryz.ntmps31
    go_upto_region 1 with (fail)
    generalize (w.alloc (.cells #[.int .i64 xk, .int .i64 xo, .string xs, .string xt, .int .i64 xn, .slice xla xln xlc] 24)) = W0 at HX HB HK ⊢
    obtain ⟨cb, fb⟩ := HB.out.facts
    have hbl := HB.out.lt
    go_simp
    repeat (first | go_values | go_skip | go_guarded | go_step | go_upon)
    go_returns
    exact flag_ret HR.out.symm HX.out
 ·obtain ⟨g, off, k1, hla, q0, hgl, hlc, hk, hk0⟩ := kid_kind HK.out 0 (by omega) HG.out
  simp only [Nat.zero_mul, Nat.add_zero] at q0
  have hln1 : xln = 1 := by have := HLn.out; omega
  have hlc1 : 1 ≤ xlc := by omega
  have HR := Lib.hid (show R = (decide (k1 ≤ 3) && mayT k1 xn) by rw [hR, hxk, hk]; simp)
  subst hla hln1
  clear hR hm hlc hk
  by_cases a1 : k1 ≤ 3
  ·have b1 : decide (k1 ≤ 3) = true := by rw [decide_eq_true_iff]; exact a1
   have KM := Lib.hid (fun W => may_cast k1 xn (by omega) hn W)
   have HR2 := Lib.hid (show mayT k1 xn = R by rw [HR.out, b1]; rfl)
   clear hn a1 hk0 HR
   generalize mayT k1 xn = M at KM HR2
   have b14k : (xk == 14) = false := by rw [hxk]; rfl
   have b5k : (xk == 5) = false := by rw [hxk]; rfl
   have b6k : (xk == 6) = false := by rw [hxk]; rfl
   have b8k : (xk == 8) = false := by rw [hxk]; rfl
   have b13k : (xk == 13) = false := by rw [hxk]; rfl
   have b12k : (xk == 12) = true := by rw [hxk]; rfl
   clear hxk
   go_enter Tryz.func31, Tryz.ntmps31
   go_upto_region 1 with (fail)
   generalize (w.alloc (.cells #[.int .i64 xk, .int .i64 xo, .string xs, .string xt, .int .i64 xn, .slice (some ⟨g, off, none⟩) 1 xlc] 24)) = W0 at HX HB HK q0 hgl ⊢
   obtain ⟨cb, fb⟩ := HB.out.facts
   have hbl := HB.out.lt
   go_simp
   repeat (first | go_values | go_skip | go_guarded | go_step | go_upon)
   refine Calls.mono (KM.out _) ?_
   rintro e W1 ⟨rfl, rfl⟩
   go_simp
   repeat (first | go_values | go_skip | go_guarded | go_step | go_upon)
   go_returns
   exact flag_ret HR2.out HX.out
  ·have b1 : decide (k1 ≤ 3) = false := by rw [decide_eq_false_iff_not]; exact a1
   have HR2 := Lib.hid (show false = R by rw [HR.out, b1]; rfl)
   clear hn a1 hk0 HR
   have b14k : (xk == 14) = false := by rw [hxk]; rfl
   have b5k : (xk == 5) = false := by rw [hxk]; rfl
   have b6k : (xk == 6) = false := by rw [hxk]; rfl
   have b8k : (xk == 8) = false := by rw [hxk]; rfl
   have b13k : (xk == 13) = false := by rw [hxk]; rfl
   have b12k : (xk == 12) = true := by rw [hxk]; rfl
   clear hxk
   go_enter Tryz.func31, Tryz.ntmps31
   go_upto_region 1 with (fail)
   generalize (w.alloc (.cells #[.int .i64 xk, .int .i64 xo, .string xs, .string xt, .int .i64 xn, .slice (some ⟨g, off, none⟩) 1 xlc] 24)) = W0 at HX HB HK q0 hgl ⊢
   obtain ⟨cb, fb⟩ := HB.out.facts
   have hbl := HB.out.lt
   go_simp
   repeat (first | go_values | go_skip | go_guarded | go_step | go_upon)
   go_returns
   exact flag_ret HR2.out HX.out
 ·have HR := Lib.hid (show R = true by rw [hR]; simp [n14, n5, n6, n8, n13, n12])
  have b1 : (xk == 14) = false := by simpa using n14
  have b2 : (xk == 5) = false := by simpa using n5
  have b3 : (xk == 6) = false := by simpa using n6
  have b4 : (xk == 8) = false := by simpa using n8
  have b5 : (xk == 13) = false := by simpa using n13
  have b6 : (xk == 12) = false := by simpa using n12
  clear hR n14 n5 n6 n8 n13 n12
  go_enter Tryz.func31, Tryz.ntmps31
  go_upto_region 1 with (fail)
  generalize (w.alloc (.cells #[.int .i64 xk, .int .i64 xo, .string xs, .string xt, .int .i64 xn, .slice xla xln xlc] 24)) = W0 at HX HB HK ⊢
  obtain ⟨cb, fb⟩ := HB.out.facts
  have hbl := HB.out.lt
  go_simp
  repeat (first | go_values | go_skip | go_guarded | go_step | go_upon)
  go_returns
  exact flag_ret HR.out.symm HX.out
end Go.Proofs.YtcgbpmeadohbkaaGreatDoor
namespace Go.Proofs.YtcgbpmeadohbkaaGreatDoor
open Go.RowKit Go.Lib
set_option maxRecDepth 100000
theorem wf_parts {k o : Int} {s t : List UInt8} {n : Int} {l : List Tr} (h : Wf (.mk k o s t n l)) : Shape k o s t n l.length ∧ ∀ y, y ∈ l → Wf y := by
 cases h with
 | mk _ _ _ _ _ _ h hl => exact ⟨h, hl⟩
theorem wf_kind {t : Tr} (h : Wf t) : 0 ≤ kindT t := by
 cases h with
 | mk k o s t n l h hl => exact (shape_cases h).1
set_option maxHeartbeats 4000000 in
theorem safe_any {d : Nat} {t : Tr} (h : SmT d t) : Wf t → ∀ (x : PN) (A : Nat → Prop) (w : World), TrIn A w x t → Calls Tryz.prog 12 #[x.v] w (FlagPost (safeT t) w) := by
 induction h with
 | mk d k o s t n l hd hn hl hs ht hch ih =>
  intro hwf x A w hT
  obtain ⟨hsh, hwl⟩ := wf_parts hwf
  obtain ⟨xk, xo, xs, xt, xn, xla, xln, xlc⟩ := x
  obtain ⟨h1, h2, h3, h4, h5, hK⟩ := hT.parts
  simp only at h1 h2 h3 h4 h5 hK
  subst h1 h2 h5
  have HLn := Lib.hid hK.len
  have HIh := Lib.hid ih
  have HWl := Lib.hid hwl
  have hl20 : xln ≤ 20 := by have := HLn.out; omega
  have HX0 := Lib.hid (show Ext w (w.alloc (.cells #[.int .i64 xk, .int .i64 xo, .string xs, .string xt, .int .i64 xn, .slice xla xln xlc] 24)) from (Ext.refl w).alloc _)
  have HB0 := Lib.hid (Blk.new w #[.int .i64 xk, .int .i64 xo, .string xs, .string xt, .int .i64 xn, .slice xla xln xlc] 24 rfl)
  have HK0 := Lib.hid (hK.ext HX0.out)
  obtain ⟨R, hR⟩ : ∃ R, R = safeT (.mk xk xo s t xn l) := ⟨_, rfl⟩
  rw [← hR]
  rw [safeT_mk, safeTs_all] at hR
  have HR := Lib.hid hR
  have HAl := Lib.hid (fun W (hW : TrIn A W ⟨xk, xo, xs, xt, xn, xla, xln, xlc⟩ (.mk xk xo s t xn l)) => alone_any A W xk xo s t xn xla xln xlc l hW.parts.2.2.2.2.2 hsh (fun y hy => wf_kind (hwl y hy)))
  rw [← h3, ← h4] at HAl
  have HT0 := Lib.hid (hT.ext HX0.out)
  clear hwf hwl hT hK hsh ih hR hd hn hl hs ht hch h3 h4
  simp only [PN.v]
  go_enter Tryz.func12, Tryz.ntmps12
  go_upto_region 1 with (fail)
  generalize (w.alloc (.cells #[.int .i64 xk, .int .i64 xo, .string xs, .string xt, .int .i64 xn, .slice xla xln xlc] 24)) = W0 at HX0 HB0 HK0 HT0 ⊢
  obtain ⟨cb, fb⟩ := HB0.out.facts
  have hbl := HB0.out.lt
  go_simp
  repeat (first | go_values | go_skip | go_guarded | go_step | go_upon)
  clear cb fb hbl
  go_loopg [4, 8] xln (fun jj _ ix wr => ∃ k : Nat, ix = .int .i64 k ∧ k + jj = xln ∧ Ext W0 wr ∧ (l.take k).all safeT = true)
  case atStart => exact ⟨0, rfl, by omega, Ext.refl W0, by simp⟩
  case round =>
   obtain ⟨k, rfl, hkj, hx, ht⟩ := hrel
   have HX := Lib.hid hx
   have HT := Lib.hid ht
   clear hx ht
   by_cases hlt : k < xln
   ·obtain ⟨jj, rfl⟩ : ∃ jj, gk = jj + 1 := ⟨gk - 1, by omega⟩
    have hltI : (k : Int) < (xln : Int) := by omega
    obtain ⟨g, off, y, z, hla, hz, hTy, hgl, _, hlc, p0, p1, p2, p3, p4, p5⟩ := (HK0.out.ext HX.out).get k (by have := HLn.out; omega)
    have hlc1 : xln ≤ xlc := by have := HLn.out; omega
    have hzm := List.mem_of_getElem? hz
    have KC := Lib.hid (fun W (hW : Ext wr W) => HIh.out z hzm (HWl.out z hzm) y A W (hTy.ext hW))
    obtain ⟨E, hE⟩ : ∃ E, E = safeT z := ⟨_, rfl⟩
    rw [← hE] at KC
    have HE := Lib.hid hE
    have HZ := Lib.hid hz
    obtain ⟨yk, yo, ys, yt, yn, yla, yln, ylc⟩ := y
    simp only [PN.v] at KC
    simp only at p0 p1 p2 p3 p4 p5
    subst hla
    clear hTy hz hzm hE hlc
    go_simp
    repeat (first | go_values | go_skip | go_guarded | go_step | go_upon)
    refine Calls.mono (KC.out _ ((Ext.refl wr).alloc _)) ?_
    rintro e w2 ⟨rfl, hb⟩
    have HX2 := Lib.hid (Ext.trans HX.out (Ext.trans ((Ext.refl wr).alloc _) hb))
    clear hb p0 p1 p2 p3 p4 p5 KC
    cases E
    ·go_simp
     repeat (first | go_values | go_skip | go_guarded | go_step | go_upon)
     go_returns
     refine flag_ret ?_ (Ext.trans HX0.out HX2.out)
     rw [HR.out, all_false HZ.out HE.out.symm, Bool.and_false]
    ·go_simp
     repeat (first | go_values | go_skip | go_guarded | go_step | go_upon)
     go_roundg jj
     case measure => omega
     case rel => exact ⟨k + 1, by simp, by omega, HX2.out, all_take HT.out HZ.out HE.out.symm⟩
   ·obtain rfl : k = xln := by omega
    have hltI : ¬ (k : Int) < (k : Int) := by omega
    have hall : l.all safeT = true := by
     have h := HT.out
     rw [List.take_of_length_le (by have := HLn.out; omega)] at h
     exact h
    have HXj := Lib.hid (Ext.trans HX0.out HX.out)
    have HBj := Lib.hid (HB0.out.keep HX.out)
    obtain ⟨cb, fb⟩ := HBj.out.facts
    have hbl := HBj.out.lt
    have HR2 := Lib.hid (show aloneT xk xo s xn l = R by rw [HR.out, hall, Bool.and_true])
    have KA := Lib.hid (HAl.out _ (HT0.out.ext HX.out))
    clear hall
    generalize aloneT xk xo s xn l = M at HR2 KA
    go_simp
    repeat (first | go_values | go_skip | go_guarded | go_step | go_upon)
    refine Calls.mono KA.out ?_
    rintro e w2 ⟨rfl, hb⟩
    have HX2 := Lib.hid (Ext.trans HXj.out hb)
    clear hb
    go_simp
    repeat (first | go_values | go_skip | go_guarded | go_step | go_upon)
    go_returns
    exact flag_ret HR2.out HX2.out
set_option maxHeartbeats 4000000 in
theorem const_any {d : Nat} {t : Tr} (h : SmT d t) : Wf t → ∀ (x : PN) (A : Nat → Prop) (w : World), TrIn A w x t → Calls Tryz.prog 14 #[x.v] w (FlagPost (constT t) w) := by
 induction h with
 | mk d k o s t n l hd hn hl hs ht hch ih =>
  intro hwf x A w hT
  obtain ⟨hsh, hwl⟩ := wf_parts hwf
  obtain ⟨xk, xo, xs, xt, xn, xla, xln, xlc⟩ := x
  obtain ⟨h1, h2, h3, h4, h5, hK⟩ := hT.parts
  simp only at h1 h2 h3 h4 h5 hK
  subst h1 h2 h5
  have HLn := Lib.hid hK.len
  have HIh := Lib.hid ih
  have HWl := Lib.hid hwl
  have hl20 : xln ≤ 20 := by have := HLn.out; omega
  have HX0 := Lib.hid (show Ext w (w.alloc (.cells #[.int .i64 xk, .int .i64 xo, .string xs, .string xt, .int .i64 xn, .slice xla xln xlc] 24)) from (Ext.refl w).alloc _)
  have HB0 := Lib.hid (Blk.new w #[.int .i64 xk, .int .i64 xo, .string xs, .string xt, .int .i64 xn, .slice xla xln xlc] 24 rfl)
  have HK0 := Lib.hid (hK.ext HX0.out)
  obtain ⟨R, hR⟩ : ∃ R, R = constT (.mk xk xo s t xn l) := ⟨_, rfl⟩
  rw [← hR]
  rw [constT_mk, constTs_all] at hR
  have HR := Lib.hid hR
  clear hwf hwl hT hK hsh ih hR hd hn hl hs ht hch h3 h4
  simp only [PN.v]
  go_enter Tryz.func14, Tryz.ntmps14
  go_upto_region 1 with (fail)
  generalize (w.alloc (.cells #[.int .i64 xk, .int .i64 xo, .string xs, .string xt, .int .i64 xn, .slice xla xln xlc] 24)) = W0 at HX0 HB0 HK0 ⊢
  obtain ⟨cb, fb⟩ := HB0.out.facts
  have hbl := HB0.out.lt
  go_simp
  repeat (first | go_values | go_skip | go_guarded | go_step | go_upon)
  clear cb fb hbl
  go_loopg [4, 8] xln (fun jj _ ix wr => ∃ k : Nat, ix = .int .i64 k ∧ k + jj = xln ∧ Ext W0 wr ∧ (l.take k).all constT = true)
  case atStart => exact ⟨0, rfl, by omega, Ext.refl W0, by simp⟩
  case round =>
   obtain ⟨k, rfl, hkj, hx, ht⟩ := hrel
   have HX := Lib.hid hx
   have HT := Lib.hid ht
   clear hx ht
   by_cases hlt : k < xln
   ·obtain ⟨jj, rfl⟩ : ∃ jj, gk = jj + 1 := ⟨gk - 1, by omega⟩
    have hltI : (k : Int) < (xln : Int) := by omega
    obtain ⟨g, off, y, z, hla, hz, hTy, hgl, _, hlc, p0, p1, p2, p3, p4, p5⟩ := (HK0.out.ext HX.out).get k (by have := HLn.out; omega)
    have hlc1 : xln ≤ xlc := by have := HLn.out; omega
    have hzm := List.mem_of_getElem? hz
    have KC := Lib.hid (fun W (hW : Ext wr W) => HIh.out z hzm (HWl.out z hzm) y A W (hTy.ext hW))
    obtain ⟨E, hE⟩ : ∃ E, E = constT z := ⟨_, rfl⟩
    rw [← hE] at KC
    have HE := Lib.hid hE
    have HZ := Lib.hid hz
    obtain ⟨yk, yo, ys, yt, yn, yla, yln, ylc⟩ := y
    simp only [PN.v] at KC
    simp only at p0 p1 p2 p3 p4 p5
    subst hla
    clear hTy hz hzm hE hlc
    go_simp
    repeat (first | go_values | go_skip | go_guarded | go_step | go_upon)
    refine Calls.mono (KC.out _ ((Ext.refl wr).alloc _)) ?_
    rintro e w2 ⟨rfl, hb⟩
    have HX2 := Lib.hid (Ext.trans HX.out (Ext.trans ((Ext.refl wr).alloc _) hb))
    clear hb p0 p1 p2 p3 p4 p5 KC
    cases E
    ·go_simp
     repeat (first | go_values | go_skip | go_guarded | go_step | go_upon)
     go_returns
     refine flag_ret ?_ (Ext.trans HX0.out HX2.out)
     rw [HR.out, all_false HZ.out HE.out.symm, Bool.and_false]
    ·go_simp
     repeat (first | go_values | go_skip | go_guarded | go_step | go_upon)
     go_roundg jj
     case measure => omega
     case rel => exact ⟨k + 1, by simp, by omega, HX2.out, all_take HT.out HZ.out HE.out.symm⟩
   ·obtain rfl : k = xln := by omega
    have hltI : ¬ (k : Int) < (k : Int) := by omega
    have hall : l.all constT = true := by
     have h := HT.out
     rw [List.take_of_length_le (by have := HLn.out; omega)] at h
     exact h
    have HXj := Lib.hid (Ext.trans HX0.out HX.out)
    have HBj := Lib.hid (HB0.out.keep HX.out)
    obtain ⟨cb, fb⟩ := HBj.out.facts
    have hbl := HBj.out.lt
    have hR2 : (!decide (xk = 4) && !decide (xk = 14)) = R := by rw [HR.out, hall, Bool.and_true]
    clear hall
    by_cases a1 : xk = 4
    ·have b1 : (xk != 4) = false := by simpa [bne] using a1
     have HR2 := Lib.hid (show false = R by rw [← hR2, a1]; rfl)
     clear hR2 a1
     go_simp
     repeat (first | go_values | go_skip | go_guarded | go_step | go_upon)
     go_returns
     exact flag_ret HR2.out HXj.out
    ·have b1 : (xk != 4) = true := by simpa [bne] using a1
     have HR2 := Lib.hid (show (xk != 14) = R by rw [← hR2, decide_eq_false a1]; simp [bne, Bool.beq_eq_decide_eq])
     clear hR2 a1
     go_simp
     repeat (first | go_values | go_skip | go_guarded | go_step | go_upon)
     go_returns
     exact flag_ret HR2.out HXj.out
end Go.Proofs.YtcgbpmeadohbkaaGreatDoor
