import Derived.Test.YtcgbpmeadohbkaaGreatDoorRwL
namespace Go.Proofs.YtcgbpmeadohbkaaGreatDoor
open Go.RowKit Go.Lib
set_option maxRecDepth 100000
def OkTake (f : Tr → Bool) (l : List Tr) (j : Nat) : Prop := (l.take j).all f = true
theorem okT_next {f : Tr → Bool} {l : List Tr} {j : Nat} {z : Tr} (h : OkTake f l j) (hz : l[j]? = some z) (hf : f z = true) : OkTake f l (j + 1) := all_take h hz hf
set_option maxHeartbeats 8000000 in
theorem lawsafe_any {d : Nat} {t : Tr} (h : SmT d t) : Wf t → ∀ (x : PN) (A : Nat → Prop) (w : World), TrIn A w x t → Calls Tryz.prog 13 #[x.v] w (FlagPost (safeT t) w) := by
 induction h with
 | mk d k o s t n l hd hn hl hs ht hch ih =>
  intro hwf x A w hT
  obtain ⟨hsh, hwl⟩ := wf_parts hwf
  obtain ⟨xk, xo, xs, xt, xn, xla, xln, xlc⟩ := x
  obtain ⟨h1, h2, h3, h4, h5, hK⟩ := hT.parts
  simp only at h1 h2 h3 h4 h5 hK
  subst h1 h2 h5
  have HLn := Lib.hid hK.len
  have HIh := Lib.hid ih
  have HWl := Lib.hid hwl
  have HEq := Lib.hid (show ∀ l, (xs.toList == l) = decide (s = l) by rw [h3]; exact word_eq s)
  have hl20 : xln ≤ 20 := by have := HLn.out; omega
  have HX0 := Lib.hid (show Ext w (w.alloc (.cells #[.int .i64 xk, .int .i64 xo, .string xs, .string xt, .int .i64 xn, .slice xla xln xlc] 24)) from (Ext.refl w).alloc _)
  have HB0 := Lib.hid (Blk.new w #[.int .i64 xk, .int .i64 xo, .string xs, .string xt, .int .i64 xn, .slice xla xln xlc] 24 rfl)
  have HK0 := Lib.hid (hK.ext HX0.out)
  have hge : ∀ y, y ∈ l → 0 ≤ kindT y := fun y hy => wf_kind (hwl y hy)
  obtain ⟨R, hR⟩ : ∃ R, R = safeT (.mk xk xo s t xn l) := ⟨_, rfl⟩
  rw [← hR]
  rw [safeT_mk, safeTs_all] at hR
  have HR := Lib.hid hR
  obtain ⟨_, hC⟩ := shape_cases hsh
  clear hwf hwl hT hK hsh ih hR hd hn hl hs ht hch h3 h4
  simp only [PN.v]
  rcases hC with hxk | ⟨hxk, hC⟩ | ⟨hxk, h1, h2⟩ | ⟨hxk, hm⟩ | hxk | ⟨hxk, hm, hn⟩ | ⟨n14, n5, n6, n8, n13, n12⟩
  ·skip
   have HOk := Lib.hid (show aloneT xk xo s xn l = false by unfold aloneT; rw [hxk]; rfl)
   have b5k : (xk == 5) = false := by rw [hxk]; rfl
   have b6k : (xk == 6) = false := by rw [hxk]; rfl
   have b13k : (xk == 13) = false := by rw [hxk]; rfl
   have b14k : (xk == 14) = true := by rw [hxk]; rfl
   have b8k : (xk == 8) = false := by rw [hxk]; rfl
   have b12k : (xk == 12) = false := by rw [hxk]; rfl
   clear hxk
   go_enter Tryz.func13, Tryz.ntmps13
   go_upto_region 1 with (fail)
   generalize (w.alloc (.cells #[.int .i64 xk, .int .i64 xo, .string xs, .string xt, .int .i64 xn, .slice xla xln xlc] 24)) = W0 at HX0 HB0 HK0 ⊢
   obtain ⟨cb, fb⟩ := HB0.out.facts
   have hbl := HB0.out.lt
   go_simp
   repeat (first | go_values | go_skip | go_guarded | go_step | go_upon)
   go_returns
   exact flag_ret (by rw [HR.out, HOk.out]; rfl) HX0.out
  ·skip
   rcases hC with ho | ho
   ·skip
    have HOk := Lib.hid (show aloneT xk xo s xn l = false by unfold aloneT; rw [hxk]; rw [ho]; rfl)
    have bo : (xo == 20) = true := by rw [ho]; rfl
    clear ho
    have b5k : (xk == 5) = true := by rw [hxk]; rfl
    have b6k : (xk == 6) = false := by rw [hxk]; rfl
    have b13k : (xk == 13) = false := by rw [hxk]; rfl
    have b14k : (xk == 14) = false := by rw [hxk]; rfl
    have b8k : (xk == 8) = false := by rw [hxk]; rfl
    have b12k : (xk == 12) = false := by rw [hxk]; rfl
    clear hxk
    go_enter Tryz.func13, Tryz.ntmps13
    go_upto_region 1 with (fail)
    generalize (w.alloc (.cells #[.int .i64 xk, .int .i64 xo, .string xs, .string xt, .int .i64 xn, .slice xla xln xlc] 24)) = W0 at HX0 HB0 HK0 ⊢
    obtain ⟨cb, fb⟩ := HB0.out.facts
    have hbl := HB0.out.lt
    go_simp
    repeat (first | go_values | go_skip | go_guarded | go_step | go_upon)
    go_returns
    exact flag_ret (by rw [HR.out, HOk.out]; rfl) HX0.out
   ·skip
    have HOk := Lib.hid (show aloneT xk xo s xn l = true by unfold aloneT; rw [hxk]; rw [ho]; rfl)
    have bo : (xo == 20) = false := by rw [ho]; rfl
    clear ho
    have b5k : (xk == 5) = true := by rw [hxk]; rfl
    have b6k : (xk == 6) = false := by rw [hxk]; rfl
    have b13k : (xk == 13) = false := by rw [hxk]; rfl
    have b14k : (xk == 14) = false := by rw [hxk]; rfl
    have b8k : (xk == 8) = false := by rw [hxk]; rfl
    have b12k : (xk == 12) = false := by rw [hxk]; rfl
    clear hxk
    go_enter Tryz.func13, Tryz.ntmps13
    go_upto_region 1 with (fail)
    generalize (w.alloc (.cells #[.int .i64 xk, .int .i64 xo, .string xs, .string xt, .int .i64 xn, .slice xla xln xlc] 24)) = W0 at HX0 HB0 HK0 ⊢
    obtain ⟨cb, fb⟩ := HB0.out.facts
    have hbl := HB0.out.lt
    go_simp
    repeat (first | go_values | go_skip | go_guarded | go_step | go_upon)
    clear cb fb hbl
    go_loopw [4] (fun i wr => ∃ (j : Nat), i = .int .i64 j ∧ j ≤ xln ∧ Ext W0 wr ∧ OkTake safeT l j) (fun i _ => xln - (intOf i).toNat)
    case atStart => exact ⟨0, rfl, Nat.zero_le _, Ext.refl W0, by unfold OkTake; simp⟩
    case round =>
     obtain ⟨j, rfl, hj, hx, ht⟩ := hrel
     have HX := Lib.hid hx
     have HT := Lib.hid ht
     have HBj := Lib.hid (HB0.out.keep hx)
     clear hx ht
     obtain ⟨cb, fb⟩ := HBj.out.facts
     have hbl := HBj.out.lt
     by_cases hlt : j < xln
     ·have hltI : (j : Int) < (xln : Int) := by omega
      obtain ⟨g2, off2, y, z, hla2, hz, hTy, hgl2, _, hlc2, p0, p1, p2, p3, p4, p5⟩ := (HK0.out.ext HX.out).get j (by have := HLn.out; omega)
      have hlc1 : xln ≤ xlc := by have := HLn.out; omega
      have hzm := List.mem_of_getElem? hz
      have KC := Lib.hid (HIh.out z hzm (HWl.out z hzm) y A wr hTy)
      obtain ⟨E, hE⟩ : ∃ E, E = safeT z := ⟨_, rfl⟩
      rw [← hE] at KC
      have HE := Lib.hid hE
      have HZ := Lib.hid hz
      obtain ⟨yk, yo, ys, yt, yn, yla, yln, ylc⟩ := y
      simp only [PN.v] at KC
      simp only at p0 p1 p2 p3 p4 p5
      cases hla2
      clear hTy hz hzm hE hlc2
      go_simp
      repeat (first | go_values | go_skip | go_guarded | go_step | go_upon)
      refine Calls.mono KC.out ?_
      rintro e w2 ⟨rfl, hb⟩
      have HX2 := Lib.hid (Ext.trans HX.out hb)
      clear hb p0 p1 p2 p3 p4 p5 KC cb fb hbl
      cases E
      ·go_simp
       repeat (first | go_values | go_skip | go_guarded | go_step | go_upon)
       go_returns
       refine flag_ret ?_ (Ext.trans HX0.out HX2.out)
       rw [HR.out, all_false HZ.out HE.out.symm, Bool.and_false]
      ·go_simp
       repeat (first | go_values | go_skip | go_guarded | go_step | go_upon)
       go_roundw
       case measure => simp [intOf]; omega
       case rel =>
       exact ⟨u2, .int .i64 ((j + 1 : Nat) : Int), ⟨j + 1, rfl, by omega, HX2.out, okT_next HT.out HZ.out HE.out.symm⟩, by simp⟩
     ·have hltI : ¬ (j : Int) < (xln : Int) := by omega
      have HAl := Lib.hid (show l.all safeT = true by
       have h := HT.out
       unfold OkTake at h
       rw [List.take_of_length_le (by have := HLn.out; omega)] at h
       exact h)
      go_simp
      repeat (first | go_values | go_skip | go_guarded | go_step | go_upon)
      go_returns
      refine flag_ret ?_ (Ext.trans HX0.out HX.out)
      rw [HR.out, HAl.out, HOk.out]
      rfl
  ·skip
   by_cases a1 : 7 ≤ xo ∧ xo ≤ 13
   ·skip
    have HOk := Lib.hid (show aloneT xk xo s xn l = false by unfold aloneT; rw [hxk]; simp; omega)
    have c1 : decide (xo ≥ 7) = true := by rw [decide_eq_true_iff]; omega
    have c2 : decide (7 ≤ xo) = true := by rw [decide_eq_true_iff]; omega
    have c3 : decide (xo ≤ 13) = true := by rw [decide_eq_true_iff]; omega
    have b5k : (xk == 5) = false := by rw [hxk]; rfl
    have b6k : (xk == 6) = true := by rw [hxk]; rfl
    have b13k : (xk == 13) = false := by rw [hxk]; rfl
    have b14k : (xk == 14) = false := by rw [hxk]; rfl
    have b8k : (xk == 8) = false := by rw [hxk]; rfl
    have b12k : (xk == 12) = false := by rw [hxk]; rfl
    clear hxk
    go_enter Tryz.func13, Tryz.ntmps13
    go_upto_region 1 with (fail)
    generalize (w.alloc (.cells #[.int .i64 xk, .int .i64 xo, .string xs, .string xt, .int .i64 xn, .slice xla xln xlc] 24)) = W0 at HX0 HB0 HK0 ⊢
    obtain ⟨cb, fb⟩ := HB0.out.facts
    have hbl := HB0.out.lt
    go_simp
    repeat (first | go_values | go_skip | go_guarded | go_step | go_upon)
    go_returns
    exact flag_ret (by rw [HR.out, HOk.out]; rfl) HX0.out
   by_cases a2 : xo = 17
   ·skip
    have HOk := Lib.hid (show aloneT xk xo s xn l = false by unfold aloneT; rw [hxk]; simp [a2])
    have c1 : decide (xo ≥ 7) = true := by rw [decide_eq_true_iff]; omega
    have c2 : decide (7 ≤ xo) = true := by rw [decide_eq_true_iff]; omega
    have c3 : decide (xo ≤ 13) = false := by rw [decide_eq_false_iff_not]; omega
    have c4 : (xo == 17) = true := by rw [a2]; rfl
    clear a1 a2
    have b5k : (xk == 5) = false := by rw [hxk]; rfl
    have b6k : (xk == 6) = true := by rw [hxk]; rfl
    have b13k : (xk == 13) = false := by rw [hxk]; rfl
    have b14k : (xk == 14) = false := by rw [hxk]; rfl
    have b8k : (xk == 8) = false := by rw [hxk]; rfl
    have b12k : (xk == 12) = false := by rw [hxk]; rfl
    clear hxk
    go_enter Tryz.func13, Tryz.ntmps13
    go_upto_region 1 with (fail)
    generalize (w.alloc (.cells #[.int .i64 xk, .int .i64 xo, .string xs, .string xt, .int .i64 xn, .slice xla xln xlc] 24)) = W0 at HX0 HB0 HK0 ⊢
    obtain ⟨cb, fb⟩ := HB0.out.facts
    have hbl := HB0.out.lt
    go_simp
    repeat (first | go_values | go_skip | go_guarded | go_step | go_upon)
    go_returns
    exact flag_ret (by rw [HR.out, HOk.out]; rfl) HX0.out
   have HOk := Lib.hid (show aloneT xk xo s xn l = true by unfold aloneT; rw [hxk]; simp; omega)
   have c4 : (xo == 17) = false := by simpa using a2
   by_cases a3 : xo < 7
   ·skip
    have c1 : decide (xo ≥ 7) = false := by rw [decide_eq_false_iff_not]; omega
    have c2 : decide (7 ≤ xo) = false := by rw [decide_eq_false_iff_not]; omega
    clear a1 a2
    have b5k : (xk == 5) = false := by rw [hxk]; rfl
    have b6k : (xk == 6) = true := by rw [hxk]; rfl
    have b13k : (xk == 13) = false := by rw [hxk]; rfl
    have b14k : (xk == 14) = false := by rw [hxk]; rfl
    have b8k : (xk == 8) = false := by rw [hxk]; rfl
    have b12k : (xk == 12) = false := by rw [hxk]; rfl
    clear hxk
    go_enter Tryz.func13, Tryz.ntmps13
    go_upto_region 1 with (fail)
    generalize (w.alloc (.cells #[.int .i64 xk, .int .i64 xo, .string xs, .string xt, .int .i64 xn, .slice xla xln xlc] 24)) = W0 at HX0 HB0 HK0 ⊢
    obtain ⟨cb, fb⟩ := HB0.out.facts
    have hbl := HB0.out.lt
    go_simp
    repeat (first | go_values | go_skip | go_guarded | go_step | go_upon)
    clear cb fb hbl
    go_loopw [4] (fun i wr => ∃ (j : Nat), i = .int .i64 j ∧ j ≤ xln ∧ Ext W0 wr ∧ OkTake safeT l j) (fun i _ => xln - (intOf i).toNat)
    case atStart => exact ⟨0, rfl, Nat.zero_le _, Ext.refl W0, by unfold OkTake; simp⟩
    case round =>
     obtain ⟨j, rfl, hj, hx, ht⟩ := hrel
     have HX := Lib.hid hx
     have HT := Lib.hid ht
     have HBj := Lib.hid (HB0.out.keep hx)
     clear hx ht
     obtain ⟨cb, fb⟩ := HBj.out.facts
     have hbl := HBj.out.lt
     by_cases hlt : j < xln
     ·have hltI : (j : Int) < (xln : Int) := by omega
      obtain ⟨g2, off2, y, z, hla2, hz, hTy, hgl2, _, hlc2, p0, p1, p2, p3, p4, p5⟩ := (HK0.out.ext HX.out).get j (by have := HLn.out; omega)
      have hlc1 : xln ≤ xlc := by have := HLn.out; omega
      have hzm := List.mem_of_getElem? hz
      have KC := Lib.hid (HIh.out z hzm (HWl.out z hzm) y A wr hTy)
      obtain ⟨E, hE⟩ : ∃ E, E = safeT z := ⟨_, rfl⟩
      rw [← hE] at KC
      have HE := Lib.hid hE
      have HZ := Lib.hid hz
      obtain ⟨yk, yo, ys, yt, yn, yla, yln, ylc⟩ := y
      simp only [PN.v] at KC
      simp only at p0 p1 p2 p3 p4 p5
      cases hla2
      clear hTy hz hzm hE hlc2
      go_simp
      repeat (first | go_values | go_skip | go_guarded | go_step | go_upon)
      refine Calls.mono KC.out ?_
      rintro e w2 ⟨rfl, hb⟩
      have HX2 := Lib.hid (Ext.trans HX.out hb)
      clear hb p0 p1 p2 p3 p4 p5 KC cb fb hbl
      cases E
      ·go_simp
       repeat (first | go_values | go_skip | go_guarded | go_step | go_upon)
       go_returns
       refine flag_ret ?_ (Ext.trans HX0.out HX2.out)
       rw [HR.out, all_false HZ.out HE.out.symm, Bool.and_false]
      ·go_simp
       repeat (first | go_values | go_skip | go_guarded | go_step | go_upon)
       go_roundw
       case measure => simp [intOf]; omega
       case rel =>
       exact ⟨u2, .int .i64 ((j + 1 : Nat) : Int), ⟨j + 1, rfl, by omega, HX2.out, okT_next HT.out HZ.out HE.out.symm⟩, by simp⟩
     ·have hltI : ¬ (j : Int) < (xln : Int) := by omega
      have HAl := Lib.hid (show l.all safeT = true by
       have h := HT.out
       unfold OkTake at h
       rw [List.take_of_length_le (by have := HLn.out; omega)] at h
       exact h)
      go_simp
      repeat (first | go_values | go_skip | go_guarded | go_step | go_upon)
      go_returns
      refine flag_ret ?_ (Ext.trans HX0.out HX.out)
      rw [HR.out, HAl.out, HOk.out]
      rfl
   ·skip
    have c1 : decide (xo ≥ 7) = true := by rw [decide_eq_true_iff]; omega
    have c2 : decide (7 ≤ xo) = true := by rw [decide_eq_true_iff]; omega
    have c3 : decide (xo ≤ 13) = false := by rw [decide_eq_false_iff_not]; omega
    clear a1 a2
    have b5k : (xk == 5) = false := by rw [hxk]; rfl
    have b6k : (xk == 6) = true := by rw [hxk]; rfl
    have b13k : (xk == 13) = false := by rw [hxk]; rfl
    have b14k : (xk == 14) = false := by rw [hxk]; rfl
    have b8k : (xk == 8) = false := by rw [hxk]; rfl
    have b12k : (xk == 12) = false := by rw [hxk]; rfl
    clear hxk
    go_enter Tryz.func13, Tryz.ntmps13
    go_upto_region 1 with (fail)
    generalize (w.alloc (.cells #[.int .i64 xk, .int .i64 xo, .string xs, .string xt, .int .i64 xn, .slice xla xln xlc] 24)) = W0 at HX0 HB0 HK0 ⊢
    obtain ⟨cb, fb⟩ := HB0.out.facts
    have hbl := HB0.out.lt
    go_simp
    repeat (first | go_values | go_skip | go_guarded | go_step | go_upon)
    clear cb fb hbl
    go_loopw [4] (fun i wr => ∃ (j : Nat), i = .int .i64 j ∧ j ≤ xln ∧ Ext W0 wr ∧ OkTake safeT l j) (fun i _ => xln - (intOf i).toNat)
    case atStart => exact ⟨0, rfl, Nat.zero_le _, Ext.refl W0, by unfold OkTake; simp⟩
    case round =>
     obtain ⟨j, rfl, hj, hx, ht⟩ := hrel
     have HX := Lib.hid hx
     have HT := Lib.hid ht
     have HBj := Lib.hid (HB0.out.keep hx)
     clear hx ht
     obtain ⟨cb, fb⟩ := HBj.out.facts
     have hbl := HBj.out.lt
     by_cases hlt : j < xln
     ·have hltI : (j : Int) < (xln : Int) := by omega
      obtain ⟨g2, off2, y, z, hla2, hz, hTy, hgl2, _, hlc2, p0, p1, p2, p3, p4, p5⟩ := (HK0.out.ext HX.out).get j (by have := HLn.out; omega)
      have hlc1 : xln ≤ xlc := by have := HLn.out; omega
      have hzm := List.mem_of_getElem? hz
      have KC := Lib.hid (HIh.out z hzm (HWl.out z hzm) y A wr hTy)
      obtain ⟨E, hE⟩ : ∃ E, E = safeT z := ⟨_, rfl⟩
      rw [← hE] at KC
      have HE := Lib.hid hE
      have HZ := Lib.hid hz
      obtain ⟨yk, yo, ys, yt, yn, yla, yln, ylc⟩ := y
      simp only [PN.v] at KC
      simp only at p0 p1 p2 p3 p4 p5
      cases hla2
      clear hTy hz hzm hE hlc2
      go_simp
      repeat (first | go_values | go_skip | go_guarded | go_step | go_upon)
      refine Calls.mono KC.out ?_
      rintro e w2 ⟨rfl, hb⟩
      have HX2 := Lib.hid (Ext.trans HX.out hb)
      clear hb p0 p1 p2 p3 p4 p5 KC cb fb hbl
      cases E
      ·go_simp
       repeat (first | go_values | go_skip | go_guarded | go_step | go_upon)
       go_returns
       refine flag_ret ?_ (Ext.trans HX0.out HX2.out)
       rw [HR.out, all_false HZ.out HE.out.symm, Bool.and_false]
      ·go_simp
       repeat (first | go_values | go_skip | go_guarded | go_step | go_upon)
       go_roundw
       case measure => simp [intOf]; omega
       case rel =>
       exact ⟨u2, .int .i64 ((j + 1 : Nat) : Int), ⟨j + 1, rfl, by omega, HX2.out, okT_next HT.out HZ.out HE.out.symm⟩, by simp⟩
     ·have hltI : ¬ (j : Int) < (xln : Int) := by omega
      have HAl := Lib.hid (show l.all safeT = true by
       have h := HT.out
       unfold OkTake at h
       rw [List.take_of_length_le (by have := HLn.out; omega)] at h
       exact h)
      go_simp
      repeat (first | go_values | go_skip | go_guarded | go_step | go_upon)
      go_returns
      refine flag_ret ?_ (Ext.trans HX0.out HX.out)
      rw [HR.out, HAl.out, HOk.out]
      rfl
  ·skip
   obtain ⟨g, off, k1, hla, q0, hgl, hlc, hk, hk0⟩ := kid_kind HK0.out 1 (by omega) hge
   simp only [Nat.one_mul] at q0
   have hln2 : 2 ≤ xln := by have := HLn.out; omega
   have hlc2 : xln ≤ xlc := by have := HLn.out; omega
   have b2 : decide ((xln : Int) < 2) = false := by rw [decide_eq_false_iff_not]; omega
   have b3 : decide (xln < 2) = false := by rw [decide_eq_false_iff_not]; omega
   subst hla
   by_cases a1 : k1 = 3
   ·skip
    have HOk := Lib.hid (show aloneT xk xo s xn l = true by unfold aloneT; rw [hxk]; rw [← a1, hk]; simp [← hk, a1])
    have c1 : (k1 != 3) = false := by rw [a1]; rfl
    clear a1 hm hlc hk hk0
    have b5k : (xk == 5) = false := by rw [hxk]; rfl
    have b6k : (xk == 6) = false := by rw [hxk]; rfl
    have b13k : (xk == 13) = false := by rw [hxk]; rfl
    have b14k : (xk == 14) = false := by rw [hxk]; rfl
    have b8k : (xk == 8) = true := by rw [hxk]; rfl
    have b12k : (xk == 12) = false := by rw [hxk]; rfl
    clear hxk
    go_enter Tryz.func13, Tryz.ntmps13
    go_upto_region 1 with (fail)
    generalize (w.alloc (.cells #[.int .i64 xk, .int .i64 xo, .string xs, .string xt, .int .i64 xn, .slice (some ⟨g, off, none⟩) xln xlc] 24)) = W0 at HX0 HB0 HK0 q0 hgl ⊢
    obtain ⟨cb, fb⟩ := HB0.out.facts
    have hbl := HB0.out.lt
    go_simp
    repeat (first | go_values | go_skip | go_guarded | go_step | go_upon)
    clear q0
    clear cb fb hbl
    go_loopw [4] (fun i wr => ∃ (j : Nat), i = .int .i64 j ∧ j ≤ xln ∧ Ext W0 wr ∧ OkTake safeT l j) (fun i _ => xln - (intOf i).toNat)
    case atStart => exact ⟨0, rfl, Nat.zero_le _, Ext.refl W0, by unfold OkTake; simp⟩
    case round =>
     obtain ⟨j, rfl, hj, hx, ht⟩ := hrel
     have HX := Lib.hid hx
     have HT := Lib.hid ht
     have HBj := Lib.hid (HB0.out.keep hx)
     clear hx ht
     obtain ⟨cb, fb⟩ := HBj.out.facts
     have hbl := HBj.out.lt
     by_cases hlt : j < xln
     ·have hltI : (j : Int) < (xln : Int) := by omega
      obtain ⟨g2, off2, y, z, hla2, hz, hTy, hgl2, _, hlc2, p0, p1, p2, p3, p4, p5⟩ := (HK0.out.ext HX.out).get j (by have := HLn.out; omega)
      have hlc1 : xln ≤ xlc := by have := HLn.out; omega
      have hzm := List.mem_of_getElem? hz
      have KC := Lib.hid (HIh.out z hzm (HWl.out z hzm) y A wr hTy)
      obtain ⟨E, hE⟩ : ∃ E, E = safeT z := ⟨_, rfl⟩
      rw [← hE] at KC
      have HE := Lib.hid hE
      have HZ := Lib.hid hz
      obtain ⟨yk, yo, ys, yt, yn, yla, yln, ylc⟩ := y
      simp only [PN.v] at KC
      simp only at p0 p1 p2 p3 p4 p5
      cases hla2
      clear hTy hz hzm hE hlc2
      go_simp
      repeat (first | go_values | go_skip | go_guarded | go_step | go_upon)
      refine Calls.mono KC.out ?_
      rintro e w2 ⟨rfl, hb⟩
      have HX2 := Lib.hid (Ext.trans HX.out hb)
      clear hb p0 p1 p2 p3 p4 p5 KC cb fb hbl
      cases E
      ·go_simp
       repeat (first | go_values | go_skip | go_guarded | go_step | go_upon)
       go_returns
       refine flag_ret ?_ (Ext.trans HX0.out HX2.out)
       rw [HR.out, all_false HZ.out HE.out.symm, Bool.and_false]
      ·go_simp
       repeat (first | go_values | go_skip | go_guarded | go_step | go_upon)
       go_roundw
       case measure => simp [intOf]; omega
       case rel =>
       exact ⟨u2, .int .i64 ((j + 1 : Nat) : Int), ⟨j + 1, rfl, by omega, HX2.out, okT_next HT.out HZ.out HE.out.symm⟩, by simp⟩
     ·have hltI : ¬ (j : Int) < (xln : Int) := by omega
      have HAl := Lib.hid (show l.all safeT = true by
       have h := HT.out
       unfold OkTake at h
       rw [List.take_of_length_le (by have := HLn.out; omega)] at h
       exact h)
      go_simp
      repeat (first | go_values | go_skip | go_guarded | go_step | go_upon)
      go_returns
      refine flag_ret ?_ (Ext.trans HX0.out HX.out)
      rw [HR.out, HAl.out, HOk.out]
      rfl
   ·skip
    have HOk := Lib.hid (show aloneT xk xo s xn l = false by unfold aloneT; rw [hxk]; simp [← hk, a1])
    have c1 : (k1 != 3) = true := by simpa [bne] using a1
    clear a1 hm hlc hk hk0
    have b5k : (xk == 5) = false := by rw [hxk]; rfl
    have b6k : (xk == 6) = false := by rw [hxk]; rfl
    have b13k : (xk == 13) = false := by rw [hxk]; rfl
    have b14k : (xk == 14) = false := by rw [hxk]; rfl
    have b8k : (xk == 8) = true := by rw [hxk]; rfl
    have b12k : (xk == 12) = false := by rw [hxk]; rfl
    clear hxk
    go_enter Tryz.func13, Tryz.ntmps13
    go_upto_region 1 with (fail)
    generalize (w.alloc (.cells #[.int .i64 xk, .int .i64 xo, .string xs, .string xt, .int .i64 xn, .slice (some ⟨g, off, none⟩) xln xlc] 24)) = W0 at HX0 HB0 HK0 q0 hgl ⊢
    obtain ⟨cb, fb⟩ := HB0.out.facts
    have hbl := HB0.out.lt
    go_simp
    repeat (first | go_values | go_skip | go_guarded | go_step | go_upon)
    go_returns
    exact flag_ret (by rw [HR.out, HOk.out]; rfl) HX0.out
  ·skip
   by_cases a1 : s = [102, 111, 108, 100]
   ·skip
    have c1 : (xs.toList == [102, 111, 108, 100]) = true := by rw [HEq.out]; simp [a1]
    have HOk := Lib.hid (show aloneT xk xo s xn l = false by unfold aloneT; rw [hxk]; simp [a1])
    clear a1
    have b5k : (xk == 5) = false := by rw [hxk]; rfl
    have b6k : (xk == 6) = false := by rw [hxk]; rfl
    have b13k : (xk == 13) = true := by rw [hxk]; rfl
    have b14k : (xk == 14) = false := by rw [hxk]; rfl
    have b8k : (xk == 8) = false := by rw [hxk]; rfl
    have b12k : (xk == 12) = false := by rw [hxk]; rfl
    clear hxk
    go_enter Tryz.func13, Tryz.ntmps13
    go_upto_region 1 with (fail)
    generalize (w.alloc (.cells #[.int .i64 xk, .int .i64 xo, .string xs, .string xt, .int .i64 xn, .slice xla xln xlc] 24)) = W0 at HX0 HB0 HK0 ⊢
    obtain ⟨cb, fb⟩ := HB0.out.facts
    have hbl := HB0.out.lt
    go_simp
    repeat (first | go_values | go_skip | go_guarded | go_step | go_upon)
    go_returns
    exact flag_ret (by rw [HR.out, HOk.out]; rfl) HX0.out
   have c1 : (xs.toList == [102, 111, 108, 100]) = false := by rw [HEq.out]; simp [a1]
   by_cases a2 : s = [97, 98, 115]
   ·skip
    have c2 : (xs.toList == [97, 98, 115]) = true := by rw [HEq.out]; simp [a2]
    have HOk := Lib.hid (show aloneT xk xo s xn l = false by unfold aloneT; rw [hxk]; simp [a2])
    clear a1 a2
    have b5k : (xk == 5) = false := by rw [hxk]; rfl
    have b6k : (xk == 6) = false := by rw [hxk]; rfl
    have b13k : (xk == 13) = true := by rw [hxk]; rfl
    have b14k : (xk == 14) = false := by rw [hxk]; rfl
    have b8k : (xk == 8) = false := by rw [hxk]; rfl
    have b12k : (xk == 12) = false := by rw [hxk]; rfl
    clear hxk
    go_enter Tryz.func13, Tryz.ntmps13
    go_upto_region 1 with (fail)
    generalize (w.alloc (.cells #[.int .i64 xk, .int .i64 xo, .string xs, .string xt, .int .i64 xn, .slice xla xln xlc] 24)) = W0 at HX0 HB0 HK0 ⊢
    obtain ⟨cb, fb⟩ := HB0.out.facts
    have hbl := HB0.out.lt
    go_simp
    repeat (first | go_values | go_skip | go_guarded | go_step | go_upon)
    go_returns
    exact flag_ret (by rw [HR.out, HOk.out]; rfl) HX0.out
   ·skip
    have c2 : (xs.toList == [97, 98, 115]) = false := by rw [HEq.out]; simp [a2]
    have HOk := Lib.hid (show aloneT xk xo s xn l = true by unfold aloneT; rw [hxk]; simp [a1, a2])
    clear a1 a2
    have b5k : (xk == 5) = false := by rw [hxk]; rfl
    have b6k : (xk == 6) = false := by rw [hxk]; rfl
    have b13k : (xk == 13) = true := by rw [hxk]; rfl
    have b14k : (xk == 14) = false := by rw [hxk]; rfl
    have b8k : (xk == 8) = false := by rw [hxk]; rfl
    have b12k : (xk == 12) = false := by rw [hxk]; rfl
    clear hxk
    go_enter Tryz.func13, Tryz.ntmps13
    go_upto_region 1 with (fail)
    generalize (w.alloc (.cells #[.int .i64 xk, .int .i64 xo, .string xs, .string xt, .int .i64 xn, .slice xla xln xlc] 24)) = W0 at HX0 HB0 HK0 ⊢
    obtain ⟨cb, fb⟩ := HB0.out.facts
    have hbl := HB0.out.lt
    go_simp
    repeat (first | go_values | go_skip | go_guarded | go_step | go_upon)
    clear cb fb hbl
    go_loopw [4] (fun i wr => ∃ (j : Nat), i = .int .i64 j ∧ j ≤ xln ∧ Ext W0 wr ∧ OkTake safeT l j) (fun i _ => xln - (intOf i).toNat)
    case atStart => exact ⟨0, rfl, Nat.zero_le _, Ext.refl W0, by unfold OkTake; simp⟩
    case round =>
     obtain ⟨j, rfl, hj, hx, ht⟩ := hrel
     have HX := Lib.hid hx
     have HT := Lib.hid ht
     have HBj := Lib.hid (HB0.out.keep hx)
     clear hx ht
     obtain ⟨cb, fb⟩ := HBj.out.facts
     have hbl := HBj.out.lt
     by_cases hlt : j < xln
     ·have hltI : (j : Int) < (xln : Int) := by omega
      obtain ⟨g2, off2, y, z, hla2, hz, hTy, hgl2, _, hlc2, p0, p1, p2, p3, p4, p5⟩ := (HK0.out.ext HX.out).get j (by have := HLn.out; omega)
      have hlc1 : xln ≤ xlc := by have := HLn.out; omega
      have hzm := List.mem_of_getElem? hz
      have KC := Lib.hid (HIh.out z hzm (HWl.out z hzm) y A wr hTy)
      obtain ⟨E, hE⟩ : ∃ E, E = safeT z := ⟨_, rfl⟩
      rw [← hE] at KC
      have HE := Lib.hid hE
      have HZ := Lib.hid hz
      obtain ⟨yk, yo, ys, yt, yn, yla, yln, ylc⟩ := y
      simp only [PN.v] at KC
      simp only at p0 p1 p2 p3 p4 p5
      cases hla2
      clear hTy hz hzm hE hlc2
      go_simp
      repeat (first | go_values | go_skip | go_guarded | go_step | go_upon)
      refine Calls.mono KC.out ?_
      rintro e w2 ⟨rfl, hb⟩
      have HX2 := Lib.hid (Ext.trans HX.out hb)
      clear hb p0 p1 p2 p3 p4 p5 KC cb fb hbl
      cases E
      ·go_simp
       repeat (first | go_values | go_skip | go_guarded | go_step | go_upon)
       go_returns
       refine flag_ret ?_ (Ext.trans HX0.out HX2.out)
       rw [HR.out, all_false HZ.out HE.out.symm, Bool.and_false]
      ·go_simp
       repeat (first | go_values | go_skip | go_guarded | go_step | go_upon)
       go_roundw
       case measure => simp [intOf]; omega
       case rel =>
       exact ⟨u2, .int .i64 ((j + 1 : Nat) : Int), ⟨j + 1, rfl, by omega, HX2.out, okT_next HT.out HZ.out HE.out.symm⟩, by simp⟩
     ·have hltI : ¬ (j : Int) < (xln : Int) := by omega
      have HAl := Lib.hid (show l.all safeT = true by
       have h := HT.out
       unfold OkTake at h
       rw [List.take_of_length_le (by have := HLn.out; omega)] at h
       exact h)
      go_simp
      repeat (first | go_values | go_skip | go_guarded | go_step | go_upon)
      go_returns
      refine flag_ret ?_ (Ext.trans HX0.out HX.out)
      rw [HR.out, HAl.out, HOk.out]
      rfl
  ·skip
   obtain ⟨g, off, k1, hla, q0, hgl, hlc, hk, hk0⟩ := kid_kind HK0.out 0 (by omega) hge
   simp only [Nat.zero_mul, Nat.add_zero] at q0
   have hln1 : 1 ≤ xln := by have := HLn.out; omega
   have hlc2 : xln ≤ xlc := by have := HLn.out; omega
   subst hla
   have ho : aloneT xk xo s xn l = (decide (k1 ≤ 3) && mayT k1 xn) := by unfold aloneT; rw [hxk, hk]; simp
   clear hm hlc hk
   have b5k : (xk == 5) = false := by rw [hxk]; rfl
   have b6k : (xk == 6) = false := by rw [hxk]; rfl
   have b13k : (xk == 13) = false := by rw [hxk]; rfl
   have b14k : (xk == 14) = false := by rw [hxk]; rfl
   have b8k : (xk == 8) = false := by rw [hxk]; rfl
   have b12k : (xk == 12) = true := by rw [hxk]; rfl
   clear hxk
   have hkk : k1 = 0 ∨ k1 = 1 ∨ k1 = 2 ∨ k1 = 3 ∨ 4 ≤ k1 := by omega
   rcases hkk with a1 | a1 | a1 | a1 | a1
   ·skip
    have KM := Lib.hid (fun W => may_law 0 xn (by simp) hn W)
    have HO := Lib.hid (show aloneT xk xo s xn l = mayT 0 xn by rw [ho, a1]; rfl)
    have c0 : (k1 == 0) = true := by rw [a1]; rfl
    have c1 : (k1 == 1) = false := by rw [a1]; rfl
    have c2 : (k1 == 2) = false := by rw [a1]; rfl
    have c3 : (k1 == 3) = false := by rw [a1]; rfl
    clear a1 hk0 hn ho
    generalize mayT 0 xn = M at KM HO
    go_enter Tryz.func13, Tryz.ntmps13
    go_upto_region 1 with (fail)
    generalize (w.alloc (.cells #[.int .i64 xk, .int .i64 xo, .string xs, .string xt, .int .i64 xn, .slice (some ⟨g, off, none⟩) xln xlc] 24)) = W0 at HX0 HB0 HK0 q0 hgl ⊢
    obtain ⟨cb, fb⟩ := HB0.out.facts
    have hbl := HB0.out.lt
    go_simp
    repeat (first | go_values | go_skip | go_guarded | go_step | go_upon)
    refine Calls.mono (KM.out _) ?_
    rintro e W1 ⟨rfl, hw⟩
    replace hw := hw.symm
    subst hw
    clear KM
    have HOk := HO
    clear HO
    cases M
    ·skip
     go_simp
     repeat (first | go_values | go_skip | go_guarded | go_step | go_upon)
     go_returns
     exact flag_ret (by rw [HR.out, HOk.out]; rfl) HX0.out
    ·skip
     clear q0
     go_simp
     repeat (first | go_values | go_skip | go_guarded | go_step | go_upon)
     clear cb fb hbl
     go_loopw [4] (fun i wr => ∃ (j : Nat), i = .int .i64 j ∧ j ≤ xln ∧ Ext W0 wr ∧ OkTake safeT l j) (fun i _ => xln - (intOf i).toNat)
     case atStart => exact ⟨0, rfl, Nat.zero_le _, Ext.refl W0, by unfold OkTake; simp⟩
     case round =>
      obtain ⟨j, rfl, hj, hx, ht⟩ := hrel
      have HX := Lib.hid hx
      have HT := Lib.hid ht
      have HBj := Lib.hid (HB0.out.keep hx)
      clear hx ht
      obtain ⟨cb, fb⟩ := HBj.out.facts
      have hbl := HBj.out.lt
      by_cases hlt : j < xln
      ·have hltI : (j : Int) < (xln : Int) := by omega
       obtain ⟨g2, off2, y, z, hla2, hz, hTy, hgl2, _, hlc2, p0, p1, p2, p3, p4, p5⟩ := (HK0.out.ext HX.out).get j (by have := HLn.out; omega)
       have hlc1 : xln ≤ xlc := by have := HLn.out; omega
       have hzm := List.mem_of_getElem? hz
       have KC := Lib.hid (HIh.out z hzm (HWl.out z hzm) y A wr hTy)
       obtain ⟨E, hE⟩ : ∃ E, E = safeT z := ⟨_, rfl⟩
       rw [← hE] at KC
       have HE := Lib.hid hE
       have HZ := Lib.hid hz
       obtain ⟨yk, yo, ys, yt, yn, yla, yln, ylc⟩ := y
       simp only [PN.v] at KC
       simp only at p0 p1 p2 p3 p4 p5
       cases hla2
       clear hTy hz hzm hE hlc2
       go_simp
       repeat (first | go_values | go_skip | go_guarded | go_step | go_upon)
       refine Calls.mono KC.out ?_
       rintro e w2 ⟨rfl, hb⟩
       have HX2 := Lib.hid (Ext.trans HX.out hb)
       clear hb p0 p1 p2 p3 p4 p5 KC cb fb hbl
       cases E
       ·go_simp
        repeat (first | go_values | go_skip | go_guarded | go_step | go_upon)
        go_returns
        refine flag_ret ?_ (Ext.trans HX0.out HX2.out)
        rw [HR.out, all_false HZ.out HE.out.symm, Bool.and_false]
       ·go_simp
        repeat (first | go_values | go_skip | go_guarded | go_step | go_upon)
        go_roundw
        case measure => simp [intOf]; omega
        case rel =>
        exact ⟨u2, .int .i64 ((j + 1 : Nat) : Int), ⟨j + 1, rfl, by omega, HX2.out, okT_next HT.out HZ.out HE.out.symm⟩, by simp⟩
      ·have hltI : ¬ (j : Int) < (xln : Int) := by omega
       have HAl := Lib.hid (show l.all safeT = true by
        have h := HT.out
        unfold OkTake at h
        rw [List.take_of_length_le (by have := HLn.out; omega)] at h
        exact h)
       go_simp
       repeat (first | go_values | go_skip | go_guarded | go_step | go_upon)
       go_returns
       refine flag_ret ?_ (Ext.trans HX0.out HX.out)
       rw [HR.out, HAl.out, HOk.out]
       rfl
   ·skip
    have KM := Lib.hid (fun W => may_law 1 xn (by simp) hn W)
    have HO := Lib.hid (show aloneT xk xo s xn l = mayT 1 xn by rw [ho, a1]; rfl)
    have c0 : (k1 == 0) = false := by rw [a1]; rfl
    have c1 : (k1 == 1) = true := by rw [a1]; rfl
    have c2 : (k1 == 2) = false := by rw [a1]; rfl
    have c3 : (k1 == 3) = false := by rw [a1]; rfl
    clear a1 hk0 hn ho
    generalize mayT 1 xn = M at KM HO
    go_enter Tryz.func13, Tryz.ntmps13
    go_upto_region 1 with (fail)
    generalize (w.alloc (.cells #[.int .i64 xk, .int .i64 xo, .string xs, .string xt, .int .i64 xn, .slice (some ⟨g, off, none⟩) xln xlc] 24)) = W0 at HX0 HB0 HK0 q0 hgl ⊢
    obtain ⟨cb, fb⟩ := HB0.out.facts
    have hbl := HB0.out.lt
    go_simp
    repeat (first | go_values | go_skip | go_guarded | go_step | go_upon)
    refine Calls.mono (KM.out _) ?_
    rintro e W1 ⟨rfl, hw⟩
    replace hw := hw.symm
    subst hw
    clear KM
    have HOk := HO
    clear HO
    cases M
    ·skip
     go_simp
     repeat (first | go_values | go_skip | go_guarded | go_step | go_upon)
     go_returns
     exact flag_ret (by rw [HR.out, HOk.out]; rfl) HX0.out
    ·skip
     clear q0
     go_simp
     repeat (first | go_values | go_skip | go_guarded | go_step | go_upon)
     clear cb fb hbl
     go_loopw [4] (fun i wr => ∃ (j : Nat), i = .int .i64 j ∧ j ≤ xln ∧ Ext W0 wr ∧ OkTake safeT l j) (fun i _ => xln - (intOf i).toNat)
     case atStart => exact ⟨0, rfl, Nat.zero_le _, Ext.refl W0, by unfold OkTake; simp⟩
     case round =>
      obtain ⟨j, rfl, hj, hx, ht⟩ := hrel
      have HX := Lib.hid hx
      have HT := Lib.hid ht
      have HBj := Lib.hid (HB0.out.keep hx)
      clear hx ht
      obtain ⟨cb, fb⟩ := HBj.out.facts
      have hbl := HBj.out.lt
      by_cases hlt : j < xln
      ·have hltI : (j : Int) < (xln : Int) := by omega
       obtain ⟨g2, off2, y, z, hla2, hz, hTy, hgl2, _, hlc2, p0, p1, p2, p3, p4, p5⟩ := (HK0.out.ext HX.out).get j (by have := HLn.out; omega)
       have hlc1 : xln ≤ xlc := by have := HLn.out; omega
       have hzm := List.mem_of_getElem? hz
       have KC := Lib.hid (HIh.out z hzm (HWl.out z hzm) y A wr hTy)
       obtain ⟨E, hE⟩ : ∃ E, E = safeT z := ⟨_, rfl⟩
       rw [← hE] at KC
       have HE := Lib.hid hE
       have HZ := Lib.hid hz
       obtain ⟨yk, yo, ys, yt, yn, yla, yln, ylc⟩ := y
       simp only [PN.v] at KC
       simp only at p0 p1 p2 p3 p4 p5
       cases hla2
       clear hTy hz hzm hE hlc2
       go_simp
       repeat (first | go_values | go_skip | go_guarded | go_step | go_upon)
       refine Calls.mono KC.out ?_
       rintro e w2 ⟨rfl, hb⟩
       have HX2 := Lib.hid (Ext.trans HX.out hb)
       clear hb p0 p1 p2 p3 p4 p5 KC cb fb hbl
       cases E
       ·go_simp
        repeat (first | go_values | go_skip | go_guarded | go_step | go_upon)
        go_returns
        refine flag_ret ?_ (Ext.trans HX0.out HX2.out)
        rw [HR.out, all_false HZ.out HE.out.symm, Bool.and_false]
       ·go_simp
        repeat (first | go_values | go_skip | go_guarded | go_step | go_upon)
        go_roundw
        case measure => simp [intOf]; omega
        case rel =>
        exact ⟨u2, .int .i64 ((j + 1 : Nat) : Int), ⟨j + 1, rfl, by omega, HX2.out, okT_next HT.out HZ.out HE.out.symm⟩, by simp⟩
      ·have hltI : ¬ (j : Int) < (xln : Int) := by omega
       have HAl := Lib.hid (show l.all safeT = true by
        have h := HT.out
        unfold OkTake at h
        rw [List.take_of_length_le (by have := HLn.out; omega)] at h
        exact h)
       go_simp
       repeat (first | go_values | go_skip | go_guarded | go_step | go_upon)
       go_returns
       refine flag_ret ?_ (Ext.trans HX0.out HX.out)
       rw [HR.out, HAl.out, HOk.out]
       rfl
   ·skip
    have KM := Lib.hid (fun W => may_law 2 xn (by simp) hn W)
    have HO := Lib.hid (show aloneT xk xo s xn l = mayT 2 xn by rw [ho, a1]; rfl)
    have c0 : (k1 == 0) = false := by rw [a1]; rfl
    have c1 : (k1 == 1) = false := by rw [a1]; rfl
    have c2 : (k1 == 2) = true := by rw [a1]; rfl
    have c3 : (k1 == 3) = false := by rw [a1]; rfl
    clear a1 hk0 hn ho
    generalize mayT 2 xn = M at KM HO
    go_enter Tryz.func13, Tryz.ntmps13
    go_upto_region 1 with (fail)
    generalize (w.alloc (.cells #[.int .i64 xk, .int .i64 xo, .string xs, .string xt, .int .i64 xn, .slice (some ⟨g, off, none⟩) xln xlc] 24)) = W0 at HX0 HB0 HK0 q0 hgl ⊢
    obtain ⟨cb, fb⟩ := HB0.out.facts
    have hbl := HB0.out.lt
    go_simp
    repeat (first | go_values | go_skip | go_guarded | go_step | go_upon)
    refine Calls.mono (KM.out _) ?_
    rintro e W1 ⟨rfl, hw⟩
    replace hw := hw.symm
    subst hw
    clear KM
    have HOk := HO
    clear HO
    cases M
    ·skip
     go_simp
     repeat (first | go_values | go_skip | go_guarded | go_step | go_upon)
     go_returns
     exact flag_ret (by rw [HR.out, HOk.out]; rfl) HX0.out
    ·skip
     clear q0
     go_simp
     repeat (first | go_values | go_skip | go_guarded | go_step | go_upon)
     clear cb fb hbl
     go_loopw [4] (fun i wr => ∃ (j : Nat), i = .int .i64 j ∧ j ≤ xln ∧ Ext W0 wr ∧ OkTake safeT l j) (fun i _ => xln - (intOf i).toNat)
     case atStart => exact ⟨0, rfl, Nat.zero_le _, Ext.refl W0, by unfold OkTake; simp⟩
     case round =>
      obtain ⟨j, rfl, hj, hx, ht⟩ := hrel
      have HX := Lib.hid hx
      have HT := Lib.hid ht
      have HBj := Lib.hid (HB0.out.keep hx)
      clear hx ht
      obtain ⟨cb, fb⟩ := HBj.out.facts
      have hbl := HBj.out.lt
      by_cases hlt : j < xln
      ·have hltI : (j : Int) < (xln : Int) := by omega
       obtain ⟨g2, off2, y, z, hla2, hz, hTy, hgl2, _, hlc2, p0, p1, p2, p3, p4, p5⟩ := (HK0.out.ext HX.out).get j (by have := HLn.out; omega)
       have hlc1 : xln ≤ xlc := by have := HLn.out; omega
       have hzm := List.mem_of_getElem? hz
       have KC := Lib.hid (HIh.out z hzm (HWl.out z hzm) y A wr hTy)
       obtain ⟨E, hE⟩ : ∃ E, E = safeT z := ⟨_, rfl⟩
       rw [← hE] at KC
       have HE := Lib.hid hE
       have HZ := Lib.hid hz
       obtain ⟨yk, yo, ys, yt, yn, yla, yln, ylc⟩ := y
       simp only [PN.v] at KC
       simp only at p0 p1 p2 p3 p4 p5
       cases hla2
       clear hTy hz hzm hE hlc2
       go_simp
       repeat (first | go_values | go_skip | go_guarded | go_step | go_upon)
       refine Calls.mono KC.out ?_
       rintro e w2 ⟨rfl, hb⟩
       have HX2 := Lib.hid (Ext.trans HX.out hb)
       clear hb p0 p1 p2 p3 p4 p5 KC cb fb hbl
       cases E
       ·go_simp
        repeat (first | go_values | go_skip | go_guarded | go_step | go_upon)
        go_returns
        refine flag_ret ?_ (Ext.trans HX0.out HX2.out)
        rw [HR.out, all_false HZ.out HE.out.symm, Bool.and_false]
       ·go_simp
        repeat (first | go_values | go_skip | go_guarded | go_step | go_upon)
        go_roundw
        case measure => simp [intOf]; omega
        case rel =>
        exact ⟨u2, .int .i64 ((j + 1 : Nat) : Int), ⟨j + 1, rfl, by omega, HX2.out, okT_next HT.out HZ.out HE.out.symm⟩, by simp⟩
      ·have hltI : ¬ (j : Int) < (xln : Int) := by omega
       have HAl := Lib.hid (show l.all safeT = true by
        have h := HT.out
        unfold OkTake at h
        rw [List.take_of_length_le (by have := HLn.out; omega)] at h
        exact h)
       go_simp
       repeat (first | go_values | go_skip | go_guarded | go_step | go_upon)
       go_returns
       refine flag_ret ?_ (Ext.trans HX0.out HX.out)
       rw [HR.out, HAl.out, HOk.out]
       rfl
   ·skip
    have KM := Lib.hid (fun W => may_law 3 xn (by simp) hn W)
    have HO := Lib.hid (show aloneT xk xo s xn l = mayT 3 xn by rw [ho, a1]; rfl)
    have c0 : (k1 == 0) = false := by rw [a1]; rfl
    have c1 : (k1 == 1) = false := by rw [a1]; rfl
    have c2 : (k1 == 2) = false := by rw [a1]; rfl
    have c3 : (k1 == 3) = true := by rw [a1]; rfl
    clear a1 hk0 hn ho
    generalize mayT 3 xn = M at KM HO
    go_enter Tryz.func13, Tryz.ntmps13
    go_upto_region 1 with (fail)
    generalize (w.alloc (.cells #[.int .i64 xk, .int .i64 xo, .string xs, .string xt, .int .i64 xn, .slice (some ⟨g, off, none⟩) xln xlc] 24)) = W0 at HX0 HB0 HK0 q0 hgl ⊢
    obtain ⟨cb, fb⟩ := HB0.out.facts
    have hbl := HB0.out.lt
    go_simp
    repeat (first | go_values | go_skip | go_guarded | go_step | go_upon)
    refine Calls.mono (KM.out _) ?_
    rintro e W1 ⟨rfl, hw⟩
    replace hw := hw.symm
    subst hw
    clear KM
    have HOk := HO
    clear HO
    cases M
    ·skip
     go_simp
     repeat (first | go_values | go_skip | go_guarded | go_step | go_upon)
     go_returns
     exact flag_ret (by rw [HR.out, HOk.out]; rfl) HX0.out
    ·skip
     clear q0
     go_simp
     repeat (first | go_values | go_skip | go_guarded | go_step | go_upon)
     clear cb fb hbl
     go_loopw [4] (fun i wr => ∃ (j : Nat), i = .int .i64 j ∧ j ≤ xln ∧ Ext W0 wr ∧ OkTake safeT l j) (fun i _ => xln - (intOf i).toNat)
     case atStart => exact ⟨0, rfl, Nat.zero_le _, Ext.refl W0, by unfold OkTake; simp⟩
     case round =>
      obtain ⟨j, rfl, hj, hx, ht⟩ := hrel
      have HX := Lib.hid hx
      have HT := Lib.hid ht
      have HBj := Lib.hid (HB0.out.keep hx)
      clear hx ht
      obtain ⟨cb, fb⟩ := HBj.out.facts
      have hbl := HBj.out.lt
      by_cases hlt : j < xln
      ·have hltI : (j : Int) < (xln : Int) := by omega
       obtain ⟨g2, off2, y, z, hla2, hz, hTy, hgl2, _, hlc2, p0, p1, p2, p3, p4, p5⟩ := (HK0.out.ext HX.out).get j (by have := HLn.out; omega)
       have hlc1 : xln ≤ xlc := by have := HLn.out; omega
       have hzm := List.mem_of_getElem? hz
       have KC := Lib.hid (HIh.out z hzm (HWl.out z hzm) y A wr hTy)
       obtain ⟨E, hE⟩ : ∃ E, E = safeT z := ⟨_, rfl⟩
       rw [← hE] at KC
       have HE := Lib.hid hE
       have HZ := Lib.hid hz
       obtain ⟨yk, yo, ys, yt, yn, yla, yln, ylc⟩ := y
       simp only [PN.v] at KC
       simp only at p0 p1 p2 p3 p4 p5
       cases hla2
       clear hTy hz hzm hE hlc2
       go_simp
       repeat (first | go_values | go_skip | go_guarded | go_step | go_upon)
       refine Calls.mono KC.out ?_
       rintro e w2 ⟨rfl, hb⟩
       have HX2 := Lib.hid (Ext.trans HX.out hb)
       clear hb p0 p1 p2 p3 p4 p5 KC cb fb hbl
       cases E
       ·go_simp
        repeat (first | go_values | go_skip | go_guarded | go_step | go_upon)
        go_returns
        refine flag_ret ?_ (Ext.trans HX0.out HX2.out)
        rw [HR.out, all_false HZ.out HE.out.symm, Bool.and_false]
       ·go_simp
        repeat (first | go_values | go_skip | go_guarded | go_step | go_upon)
        go_roundw
        case measure => simp [intOf]; omega
        case rel =>
        exact ⟨u2, .int .i64 ((j + 1 : Nat) : Int), ⟨j + 1, rfl, by omega, HX2.out, okT_next HT.out HZ.out HE.out.symm⟩, by simp⟩
      ·have hltI : ¬ (j : Int) < (xln : Int) := by omega
       have HAl := Lib.hid (show l.all safeT = true by
        have h := HT.out
        unfold OkTake at h
        rw [List.take_of_length_le (by have := HLn.out; omega)] at h
        exact h)
       go_simp
       repeat (first | go_values | go_skip | go_guarded | go_step | go_upon)
       go_returns
       refine flag_ret ?_ (Ext.trans HX0.out HX.out)
       rw [HR.out, HAl.out, HOk.out]
       rfl
   ·skip
    have c0 : (k1 == 0) = false := by rw [beq_eq_false_iff_ne]; omega
    have c1 : (k1 == 1) = false := by rw [beq_eq_false_iff_ne]; omega
    have c2 : (k1 == 2) = false := by rw [beq_eq_false_iff_ne]; omega
    have c3 : (k1 == 3) = false := by rw [beq_eq_false_iff_ne]; omega
    have HOk := Lib.hid (show aloneT xk xo s xn l = false by rw [ho, decide_eq_false (by omega)]; rfl)
    clear a1 hk0 hn ho
    go_enter Tryz.func13, Tryz.ntmps13
    go_upto_region 1 with (fail)
    generalize (w.alloc (.cells #[.int .i64 xk, .int .i64 xo, .string xs, .string xt, .int .i64 xn, .slice (some ⟨g, off, none⟩) xln xlc] 24)) = W0 at HX0 HB0 HK0 q0 hgl ⊢
    obtain ⟨cb, fb⟩ := HB0.out.facts
    have hbl := HB0.out.lt
    go_simp
    repeat (first | go_values | go_skip | go_guarded | go_step | go_upon)
    go_returns
    exact flag_ret (by rw [HR.out, HOk.out]; rfl) HX0.out
  ·skip
   have HOk := Lib.hid (show aloneT xk xo s xn l = true by unfold aloneT; simp [n14, n5, n6, n8, n13, n12])
   have b5k : (xk == 5) = false := by simpa using n5
   have b6k : (xk == 6) = false := by simpa using n6
   have b13k : (xk == 13) = false := by simpa using n13
   have b14k : (xk == 14) = false := by simpa using n14
   have b8k : (xk == 8) = false := by simpa using n8
   have b12k : (xk == 12) = false := by simpa using n12
   clear n14 n5 n6 n8 n13 n12
   go_enter Tryz.func13, Tryz.ntmps13
   go_upto_region 1 with (fail)
   generalize (w.alloc (.cells #[.int .i64 xk, .int .i64 xo, .string xs, .string xt, .int .i64 xn, .slice xla xln xlc] 24)) = W0 at HX0 HB0 HK0 ⊢
   obtain ⟨cb, fb⟩ := HB0.out.facts
   have hbl := HB0.out.lt
   go_simp
   repeat (first | go_values | go_skip | go_guarded | go_step | go_upon)
   clear cb fb hbl
   go_loopw [4] (fun i wr => ∃ (j : Nat), i = .int .i64 j ∧ j ≤ xln ∧ Ext W0 wr ∧ OkTake safeT l j) (fun i _ => xln - (intOf i).toNat)
   case atStart => exact ⟨0, rfl, Nat.zero_le _, Ext.refl W0, by unfold OkTake; simp⟩
   case round =>
    obtain ⟨j, rfl, hj, hx, ht⟩ := hrel
    have HX := Lib.hid hx
    have HT := Lib.hid ht
    have HBj := Lib.hid (HB0.out.keep hx)
    clear hx ht
    obtain ⟨cb, fb⟩ := HBj.out.facts
    have hbl := HBj.out.lt
    by_cases hlt : j < xln
    ·have hltI : (j : Int) < (xln : Int) := by omega
     obtain ⟨g2, off2, y, z, hla2, hz, hTy, hgl2, _, hlc2, p0, p1, p2, p3, p4, p5⟩ := (HK0.out.ext HX.out).get j (by have := HLn.out; omega)
     have hlc1 : xln ≤ xlc := by have := HLn.out; omega
     have hzm := List.mem_of_getElem? hz
     have KC := Lib.hid (HIh.out z hzm (HWl.out z hzm) y A wr hTy)
     obtain ⟨E, hE⟩ : ∃ E, E = safeT z := ⟨_, rfl⟩
     rw [← hE] at KC
     have HE := Lib.hid hE
     have HZ := Lib.hid hz
     obtain ⟨yk, yo, ys, yt, yn, yla, yln, ylc⟩ := y
     simp only [PN.v] at KC
     simp only at p0 p1 p2 p3 p4 p5
     cases hla2
     clear hTy hz hzm hE hlc2
     go_simp
     repeat (first | go_values | go_skip | go_guarded | go_step | go_upon)
     refine Calls.mono KC.out ?_
     rintro e w2 ⟨rfl, hb⟩
     have HX2 := Lib.hid (Ext.trans HX.out hb)
     clear hb p0 p1 p2 p3 p4 p5 KC cb fb hbl
     cases E
     ·go_simp
      repeat (first | go_values | go_skip | go_guarded | go_step | go_upon)
      go_returns
      refine flag_ret ?_ (Ext.trans HX0.out HX2.out)
      rw [HR.out, all_false HZ.out HE.out.symm, Bool.and_false]
     ·go_simp
      repeat (first | go_values | go_skip | go_guarded | go_step | go_upon)
      go_roundw
      case measure => simp [intOf]; omega
      case rel =>
      exact ⟨u2, .int .i64 ((j + 1 : Nat) : Int), ⟨j + 1, rfl, by omega, HX2.out, okT_next HT.out HZ.out HE.out.symm⟩, by simp⟩
    ·have hltI : ¬ (j : Int) < (xln : Int) := by omega
     have HAl := Lib.hid (show l.all safeT = true by
      have h := HT.out
      unfold OkTake at h
      rw [List.take_of_length_le (by have := HLn.out; omega)] at h
      exact h)
     go_simp
     repeat (first | go_values | go_skip | go_guarded | go_step | go_upon)
     go_returns
     refine flag_ret ?_ (Ext.trans HX0.out HX.out)
     rw [HR.out, HAl.out, HOk.out]
     rfl
set_option maxHeartbeats 8000000 in
theorem lawconst_any {d : Nat} {t : Tr} (h : SmT d t) : Wf t → ∀ (x : PN) (A : Nat → Prop) (w : World), TrIn A w x t → Calls Tryz.prog 15 #[x.v] w (FlagPost (constT t) w) := by
 induction h with
 | mk d k o s t n l hd hn hl hs ht hch ih =>
  intro hwf x A w hT
  obtain ⟨hsh, hwl⟩ := wf_parts hwf
  obtain ⟨xk, xo, xs, xt, xn, xla, xln, xlc⟩ := x
  obtain ⟨h1, h2, h3, h4, h5, hK⟩ := hT.parts
  simp only at h1 h2 h3 h4 h5 hK
  subst h1 h2 h5
  have HLn := Lib.hid hK.len
  have HIh := Lib.hid ih
  have HWl := Lib.hid hwl
  have hl20 : xln ≤ 20 := by have := HLn.out; omega
  have HX0 := Lib.hid (show Ext w (w.alloc (.cells #[.int .i64 xk, .int .i64 xo, .string xs, .string xt, .int .i64 xn, .slice xla xln xlc] 24)) from (Ext.refl w).alloc _)
  have HB0 := Lib.hid (Blk.new w #[.int .i64 xk, .int .i64 xo, .string xs, .string xt, .int .i64 xn, .slice xla xln xlc] 24 rfl)
  have HK0 := Lib.hid (hK.ext HX0.out)
  obtain ⟨R, hR⟩ : ∃ R, R = constT (.mk xk xo s t xn l) := ⟨_, rfl⟩
  rw [← hR]
  rw [constT_mk, constTs_all] at hR
  have HR := Lib.hid hR
  clear hwf hwl hT hK hsh ih hR hd hn hl hs ht hch h3 h4
  simp only [PN.v]
  by_cases a1 : xk = 4
  ·skip
   have HOk := Lib.hid (show (!decide (xk = 4) && !decide (xk = 14)) = false by rw [a1]; rfl)
   have c1 : (xk == 4) = true := by rw [a1]; rfl
   clear a1
   go_enter Tryz.func15, Tryz.ntmps15
   go_upto_region 1 with (fail)
   generalize (w.alloc (.cells #[.int .i64 xk, .int .i64 xo, .string xs, .string xt, .int .i64 xn, .slice xla xln xlc] 24)) = W0 at HX0 HB0 HK0 ⊢
   obtain ⟨cb, fb⟩ := HB0.out.facts
   have hbl := HB0.out.lt
   go_simp
   repeat (first | go_values | go_skip | go_guarded | go_step | go_upon)
   go_returns
   exact flag_ret (by rw [HR.out, HOk.out]; rfl) HX0.out
  have c1 : (xk == 4) = false := by simpa using a1
  by_cases a2 : xk = 14
  ·skip
   have HOk := Lib.hid (show (!decide (xk = 4) && !decide (xk = 14)) = false by rw [a2]; rfl)
   have c2 : (xk == 14) = true := by rw [a2]; rfl
   clear a1 a2
   go_enter Tryz.func15, Tryz.ntmps15
   go_upto_region 1 with (fail)
   generalize (w.alloc (.cells #[.int .i64 xk, .int .i64 xo, .string xs, .string xt, .int .i64 xn, .slice xla xln xlc] 24)) = W0 at HX0 HB0 HK0 ⊢
   obtain ⟨cb, fb⟩ := HB0.out.facts
   have hbl := HB0.out.lt
   go_simp
   repeat (first | go_values | go_skip | go_guarded | go_step | go_upon)
   go_returns
   exact flag_ret (by rw [HR.out, HOk.out]; rfl) HX0.out
  ·skip
   have HOk := Lib.hid (show (!decide (xk = 4) && !decide (xk = 14)) = true by simp [a1, a2])
   have c2 : (xk == 14) = false := by simpa using a2
   clear a1 a2
   go_enter Tryz.func15, Tryz.ntmps15
   go_upto_region 1 with (fail)
   generalize (w.alloc (.cells #[.int .i64 xk, .int .i64 xo, .string xs, .string xt, .int .i64 xn, .slice xla xln xlc] 24)) = W0 at HX0 HB0 HK0 ⊢
   obtain ⟨cb, fb⟩ := HB0.out.facts
   have hbl := HB0.out.lt
   go_simp
   repeat (first | go_values | go_skip | go_guarded | go_step | go_upon)
   clear cb fb hbl
   go_loopw [3] (fun i wr => ∃ (j : Nat), i = .int .i64 j ∧ j ≤ xln ∧ Ext W0 wr ∧ OkTake constT l j) (fun i _ => xln - (intOf i).toNat)
   case atStart => exact ⟨0, rfl, Nat.zero_le _, Ext.refl W0, by unfold OkTake; simp⟩
   case round =>
    obtain ⟨j, rfl, hj, hx, ht⟩ := hrel
    have HX := Lib.hid hx
    have HT := Lib.hid ht
    have HBj := Lib.hid (HB0.out.keep hx)
    clear hx ht
    obtain ⟨cb, fb⟩ := HBj.out.facts
    have hbl := HBj.out.lt
    by_cases hlt : j < xln
    ·have hltI : (j : Int) < (xln : Int) := by omega
     obtain ⟨g2, off2, y, z, hla2, hz, hTy, hgl2, _, hlc2, p0, p1, p2, p3, p4, p5⟩ := (HK0.out.ext HX.out).get j (by have := HLn.out; omega)
     have hlc1 : xln ≤ xlc := by have := HLn.out; omega
     have hzm := List.mem_of_getElem? hz
     have KC := Lib.hid (HIh.out z hzm (HWl.out z hzm) y A wr hTy)
     obtain ⟨E, hE⟩ : ∃ E, E = constT z := ⟨_, rfl⟩
     rw [← hE] at KC
     have HE := Lib.hid hE
     have HZ := Lib.hid hz
     obtain ⟨yk, yo, ys, yt, yn, yla, yln, ylc⟩ := y
     simp only [PN.v] at KC
     simp only at p0 p1 p2 p3 p4 p5
     cases hla2
     clear hTy hz hzm hE hlc2
     go_simp
     repeat (first | go_values | go_skip | go_guarded | go_step | go_upon)
     refine Calls.mono KC.out ?_
     rintro e w2 ⟨rfl, hb⟩
     have HX2 := Lib.hid (Ext.trans HX.out hb)
     clear hb p0 p1 p2 p3 p4 p5 KC cb fb hbl
     cases E
     ·go_simp
      repeat (first | go_values | go_skip | go_guarded | go_step | go_upon)
      go_returns
      refine flag_ret ?_ (Ext.trans HX0.out HX2.out)
      rw [HR.out, all_false HZ.out HE.out.symm, Bool.and_false]
     ·go_simp
      repeat (first | go_values | go_skip | go_guarded | go_step | go_upon)
      go_roundw
      case measure => simp [intOf]; omega
      case rel =>
      exact ⟨u2, .int .i64 ((j + 1 : Nat) : Int), ⟨j + 1, rfl, by omega, HX2.out, okT_next HT.out HZ.out HE.out.symm⟩, by simp⟩
    ·have hltI : ¬ (j : Int) < (xln : Int) := by omega
     have HAl := Lib.hid (show l.all constT = true by
      have h := HT.out
      unfold OkTake at h
      rw [List.take_of_length_le (by have := HLn.out; omega)] at h
      exact h)
     go_simp
     repeat (first | go_values | go_skip | go_guarded | go_step | go_upon)
     go_returns
     refine flag_ret ?_ (Ext.trans HX0.out HX.out)
     rw [HR.out, HAl.out, HOk.out]
     rfl
end Go.Proofs.YtcgbpmeadohbkaaGreatDoor
