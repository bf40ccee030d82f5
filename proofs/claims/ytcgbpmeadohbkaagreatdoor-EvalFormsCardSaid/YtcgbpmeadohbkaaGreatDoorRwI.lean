import Derived.Test.YtcgbpmeadohbkaaGreatDoorRpT
import Derived.Test.YtcgbpmeadohbkaaGreatDoorRwF
import Derived.Test.YtcgbpmeadohbkaaGreatDoorRwH
namespace Go.Proofs.YtcgbpmeadohbkaaGreatDoor
open Go.RowKit Go.Lib
set_option maxRecDepth 100000
noncomputable def okR (t : Tr) : Bool := ((toldR (wordsT t)).2.2 == 0) && eqT (toldR (wordsT t)).1 t
noncomputable def shownB (t : Tr) : ByteArray := if okR t then ⟨(wordsT t).toArray⟩ else ⟨#[]⟩
theorem okR_wf {t : Tr} (h : okR t = true) : Wf t := by
 unfold okR at h
 rw [Bool.and_eq_true, beq_iff_eq, eqT_iff] at h
 rw [← h.2]
 exact toldR_wf _ h.1
def ShownPost (s : ByteArray) (b : Bool) (w : World) (e : Ending) (w' : World) : Prop := e = .returned (.tuple #[.string s, .bool b]) ∧ Ext w w'
set_option maxHeartbeats 4000000 in
theorem showR_any {d : Nat} {t : Tr} (h : SmT d t) (hc : cntT t ≤ 300) (x : PN) (A : Nat → Prop) (w : World) (hT : TrIn A w x t) : Calls Tryz.prog 8 #[x.v] w (ShownPost (shownB t) (okR t) w) := by
 obtain ⟨xk, xo, xs, xt, xn, xla, xln, xlc⟩ := x
 have hx0 : Ext w (w.alloc (.cells #[.int .i64 xk, .int .i64 xo, .string xs, .string xt, .int .i64 xn, .slice xla xln xlc] 24)) := (Ext.refl w).alloc _
 have HB0 := Lib.hid (Blk.new w #[.int .i64 xk, .int .i64 xo, .string xs, .string xt, .int .i64 xn, .slice xla xln xlc] 24 rfl)
 have HX0 := Lib.hid hx0
 have HT0 := Lib.hid (hT.ext hx0)
 have KW := Lib.hid (fun W hW => words_any h ⟨xk, xo, xs, xt, xn, xla, xln, xlc⟩ A W hW hc)
 obtain ⟨S, hS⟩ : ∃ S : ByteArray, S = ⟨(wordsT t).toArray⟩ := ⟨_, rfl⟩
 have hsz : S.size ≤ 600000 := by
  rw [hS, sizeL]
  have := wordsT_len h
  omega
 have hbs : bsl S = wordsT t := by rw [hS]; rfl
 have KE := Lib.hid (fun W => rtold_any S W (Nat.le_trans hsz (by decide)))
 rw [hbs] at KE
 obtain ⟨R, hR⟩ : ∃ R, R = toldR (wordsT t) := ⟨_, rfl⟩
 have HO := Lib.hid (show okR t = ((R.2.2 == 0) && eqT R.1 t) by unfold okR; rw [hR])
 have HS := Lib.hid (show shownB t = if okR t then S else ⟨#[]⟩ by unfold shownB; rw [hS])
 rw [← hR] at KE
 rw [← hS] at KW
 obtain ⟨r, a, er⟩ := R
 simp only at KE HO
 generalize shownB t = O at HS ⊢
 generalize okR t = B at HS HO ⊢
 have KN := Lib.hid (fun y A W hy hx => snode_any h r y ⟨xk, xo, xs, xt, xn, xla, xln, xlc⟩ (fun _ => True) A W hy hx)
 unfold SamePost at KN
 simp only [PN.v] at KW KN ⊢
 generalize eqT r t = Eq0 at HO KN
 clear hx0 hR hS hsz hbs hT h hc
 go_enter Tryz.func8, Tryz.ntmps8
 go_upto_region 1 with (fail)
 generalize (w.alloc (.cells #[.int .i64 xk, .int .i64 xo, .string xs, .string xt, .int .i64 xn, .slice xla xln xlc] 24)) = W0 at HB0 HX0 HT0 ⊢
 obtain ⟨cb, fb⟩ := HB0.out.facts
 have hbl := HB0.out.lt
 go_simp
 repeat (first | go_values | go_skip | go_guarded | go_step | go_upon)
 refine Calls.mono (KW.out _ HT0.out) ?_
 rintro e W1 ⟨rfl, hb1⟩
 have HX1 := Lib.hid (Ext.trans HX0.out hb1)
 have HB1 := Lib.hid (HB0.out.keep hb1)
 have HT1 := Lib.hid (HT0.out.ext hb1)
 clear hb1 HX0 HB0 HT0 cb fb hbl KW
 go_simp
 repeat (first | go_values | go_skip | go_guarded | go_step | go_upon)
 refine Calls.mono (KE.out _) ?_
 rintro e W2 ⟨y, rfl, hty, hbl2⟩
 have hx2 : Ext W1 W2 := hbl2
 have HX2 := Lib.hid (Ext.trans HX1.out hx2)
 have HB2 := Lib.hid (HB1.out.keep hx2)
 have HT2 := Lib.hid ((HT1.out.ext hx2).mono (B := fun _ => True) fun _ _ _ => trivial)
 have HY2 := Lib.hid ((TrIn.ofAt hty).mono (B := fun _ => True) fun _ _ _ => trivial)
 clear hx2 hbl2 hty HX1 HB1 HT1 KE
 obtain ⟨yk, yo, ys, yt, yn, yla, yln, ylc⟩ := y
 unfold toldV
 have hx3 : Ext W2 (W2.alloc (.cells #[.int .i64 0, .int .i64 0, .string ⟨#[]⟩, .string ⟨#[]⟩, .int .i64 0, .slice none 0 0, .int .i64 0, .string ⟨#[]⟩, .string ⟨#[]⟩, .string ⟨#[]⟩, .int .i64 0, .int .i64 0, .slice none 0 0, .bool false, .bool false, .slice none 0 0, .slice none 0 0, .slice none 0 0, .slice none 0 0, .pointer none, .pointer none, .slice none 0 0, .slice none 0 0, .int .i64 0, .int .i64 0, .int .i64 0, .int .i64 0] 58)) := (Ext.refl W2).alloc _
 have HZ := Lib.hid (Blk.new W2 #[.int .i64 0, .int .i64 0, .string ⟨#[]⟩, .string ⟨#[]⟩, .int .i64 0, .slice none 0 0, .int .i64 0, .string ⟨#[]⟩, .string ⟨#[]⟩, .string ⟨#[]⟩, .int .i64 0, .int .i64 0, .slice none 0 0, .bool false, .bool false, .slice none 0 0, .slice none 0 0, .slice none 0 0, .slice none 0 0, .pointer none, .pointer none, .slice none 0 0, .slice none 0 0, .int .i64 0, .int .i64 0, .int .i64 0, .int .i64 0] 58 rfl)
 have hz2 : W2.heap.size ≤ W2.heap.size := Nat.le_refl _
 have HE3 := Lib.hid hx3
 go_upto_region 3 with (refine wpList_store_row rfl 58 (.tmp 5) (.tmp 9) rfl W2.heap.size #[.int .i64 yk, .int .i64 yo, .string ys, .string yt, .int .i64 yn, .slice yla yln ylc, .int .i64 0, .string ⟨#[]⟩, .string ⟨#[]⟩, .string ⟨#[]⟩, .int .i64 0, .int .i64 0, .slice none 0 0, .bool false, .bool false, .slice none 0 0, .slice none 0 0, .slice none 0 0, .slice none 0 0, .pointer none, .pointer none, .slice none 0 0, .slice none 0 0, .int .i64 0, .int .i64 0, .int .i64 a, .int .i64 er] rfl rfl 58 #[.int .i64 0, .int .i64 0, .string ⟨#[]⟩, .string ⟨#[]⟩, .int .i64 0, .slice none 0 0, .int .i64 0, .string ⟨#[]⟩, .string ⟨#[]⟩, .string ⟨#[]⟩, .int .i64 0, .int .i64 0, .slice none 0 0, .bool false, .bool false, .slice none 0 0, .slice none 0 0, .slice none 0 0, .slice none 0 0, .pointer none, .pointer none, .slice none 0 0, .slice none 0 0, .int .i64 0, .int .i64 0, .int .i64 0, .int .i64 0] HZ.out infoTold rfl (by simp [Value.oneCell']) ?_)
 have HV3 := Lib.hid (show Blk ((W2.alloc (.cells #[.int .i64 0, .int .i64 0, .string ⟨#[]⟩, .string ⟨#[]⟩, .int .i64 0, .slice none 0 0, .int .i64 0, .string ⟨#[]⟩, .string ⟨#[]⟩, .string ⟨#[]⟩, .int .i64 0, .int .i64 0, .slice none 0 0, .bool false, .bool false, .slice none 0 0, .slice none 0 0, .slice none 0 0, .slice none 0 0, .pointer none, .pointer none, .slice none 0 0, .slice none 0 0, .int .i64 0, .int .i64 0, .int .i64 0, .int .i64 0] 58)).setRow W2.heap.size #[.int .i64 yk, .int .i64 yo, .string ys, .string yt, .int .i64 yn, .slice yla yln ylc, .int .i64 0, .string ⟨#[]⟩, .string ⟨#[]⟩, .string ⟨#[]⟩, .int .i64 0, .int .i64 0, .slice none 0 0, .bool false, .bool false, .slice none 0 0, .slice none 0 0, .slice none 0 0, .slice none 0 0, .pointer none, .pointer none, .slice none 0 0, .slice none 0 0, .int .i64 0, .int .i64 0, .int .i64 a, .int .i64 er]) W2.heap.size #[.int .i64 yk, .int .i64 yo, .string ys, .string yt, .int .i64 yn, .slice yla yln ylc, .int .i64 0, .string ⟨#[]⟩, .string ⟨#[]⟩, .string ⟨#[]⟩, .int .i64 0, .int .i64 0, .slice none 0 0, .bool false, .bool false, .slice none 0 0, .slice none 0 0, .slice none 0 0, .slice none 0 0, .pointer none, .pointer none, .slice none 0 0, .slice none 0 0, .int .i64 0, .int .i64 0, .int .i64 a, .int .i64 er] 58 from setRow_heap (W2.alloc (.cells #[.int .i64 0, .int .i64 0, .string ⟨#[]⟩, .string ⟨#[]⟩, .int .i64 0, .slice none 0 0, .int .i64 0, .string ⟨#[]⟩, .string ⟨#[]⟩, .string ⟨#[]⟩, .int .i64 0, .int .i64 0, .slice none 0 0, .bool false, .bool false, .slice none 0 0, .slice none 0 0, .slice none 0 0, .slice none 0 0, .pointer none, .pointer none, .slice none 0 0, .slice none 0 0, .int .i64 0, .int .i64 0, .int .i64 0, .int .i64 0] 58)) W2.heap.size _ #[.int .i64 yk, .int .i64 yo, .string ys, .string yt, .int .i64 yn, .slice yla yln ylc, .int .i64 0, .string ⟨#[]⟩, .string ⟨#[]⟩, .string ⟨#[]⟩, .int .i64 0, .int .i64 0, .slice none 0 0, .bool false, .bool false, .slice none 0 0, .slice none 0 0, .slice none 0 0, .slice none 0 0, .pointer none, .pointer none, .slice none 0 0, .slice none 0 0, .int .i64 0, .int .i64 0, .int .i64 a, .int .i64 er] _ _ HZ.out)
 have hx4 : Ext W2 ((W2.alloc (.cells #[.int .i64 0, .int .i64 0, .string ⟨#[]⟩, .string ⟨#[]⟩, .int .i64 0, .slice none 0 0, .int .i64 0, .string ⟨#[]⟩, .string ⟨#[]⟩, .string ⟨#[]⟩, .int .i64 0, .int .i64 0, .slice none 0 0, .bool false, .bool false, .slice none 0 0, .slice none 0 0, .slice none 0 0, .slice none 0 0, .pointer none, .pointer none, .slice none 0 0, .slice none 0 0, .int .i64 0, .int .i64 0, .int .i64 0, .int .i64 0] 58)).setRow W2.heap.size #[.int .i64 yk, .int .i64 yo, .string ys, .string yt, .int .i64 yn, .slice yla yln ylc, .int .i64 0, .string ⟨#[]⟩, .string ⟨#[]⟩, .string ⟨#[]⟩, .int .i64 0, .int .i64 0, .slice none 0 0, .bool false, .bool false, .slice none 0 0, .slice none 0 0, .slice none 0 0, .slice none 0 0, .pointer none, .pointer none, .slice none 0 0, .slice none 0 0, .int .i64 0, .int .i64 0, .int .i64 a, .int .i64 er]) := ⟨HE3.out.os, HE3.out.tape, HE3.out.output, by simp, fun i hi => (setRow_other _ W2.heap.size i #[.int .i64 yk, .int .i64 yo, .string ys, .string yt, .int .i64 yn, .slice yla yln ylc, .int .i64 0, .string ⟨#[]⟩, .string ⟨#[]⟩, .string ⟨#[]⟩, .int .i64 0, .int .i64 0, .slice none 0 0, .bool false, .bool false, .slice none 0 0, .slice none 0 0, .slice none 0 0, .slice none 0 0, .pointer none, .pointer none, .slice none 0 0, .slice none 0 0, .int .i64 0, .int .i64 0, .int .i64 a, .int .i64 er] (by omega)).trans (HE3.out.block i hi)⟩
 have HX3 := Lib.hid (Ext.trans HX2.out hx4)
 have HB3 := Lib.hid (HB2.out.keep hx4)
 have HT3 := Lib.hid (HT2.out.ext hx4)
 have HY3 := Lib.hid (HY2.out.ext hx4)
 clear hx3 hx4 hz2 HE3 HZ HX2 HB2 HT2 HY2
 generalize ((W2.alloc (.cells #[.int .i64 0, .int .i64 0, .string ⟨#[]⟩, .string ⟨#[]⟩, .int .i64 0, .slice none 0 0, .int .i64 0, .string ⟨#[]⟩, .string ⟨#[]⟩, .string ⟨#[]⟩, .int .i64 0, .int .i64 0, .slice none 0 0, .bool false, .bool false, .slice none 0 0, .slice none 0 0, .slice none 0 0, .slice none 0 0, .pointer none, .pointer none, .slice none 0 0, .slice none 0 0, .int .i64 0, .int .i64 0, .int .i64 0, .int .i64 0] 58)).setRow W2.heap.size #[.int .i64 yk, .int .i64 yo, .string ys, .string yt, .int .i64 yn, .slice yla yln ylc, .int .i64 0, .string ⟨#[]⟩, .string ⟨#[]⟩, .string ⟨#[]⟩, .int .i64 0, .int .i64 0, .slice none 0 0, .bool false, .bool false, .slice none 0 0, .slice none 0 0, .slice none 0 0, .slice none 0 0, .pointer none, .pointer none, .slice none 0 0, .slice none 0 0, .int .i64 0, .int .i64 0, .int .i64 a, .int .i64 er]) = W3 at HV3 HX3 HB3 HT3 HY3 ⊢
 generalize W2.heap.size = b3 at HV3 ⊢
 obtain ⟨cb, fb⟩ := HB3.out.facts
 have hbl := HB3.out.lt
 obtain ⟨cv, fv⟩ := HV3.out.facts
 have hvl := HV3.out.lt
 as_aux_lemma =>
 by_cases her : er = 0
 ·subst her
  have KM := Lib.hid (KN.out ⟨yk, yo, ys, yt, yn, yla, yln, ylc⟩ (fun _ => True) W3 HY3.out HT3.out)
  simp only at KM
  clear KN
  go_simp
  repeat (first | go_values | go_skip | go_guarded | go_step | go_upon)
  refine Calls.mono KM.out ?_
  rintro e W4 ⟨rfl, hb4⟩
  have HX4 := Lib.hid (Ext.trans HX3.out hb4)
  clear KM hb4 HX3 HB3 HV3 HT3 HY3 cb fb cv fv hbl hvl
  have hB := HS.out
  obtain rfl : B = Eq0 := by rw [HO.out]; rfl
  cases B
  ·rw [if_neg (by simp)] at hB
   subst hB
   go_simp
   repeat (first | go_values | go_skip | go_guarded | go_step | go_upon)
   go_returns
   exact ⟨rfl, HX4.out⟩
  ·rw [if_pos rfl] at hB
   subst hB
   go_simp
   repeat (first | go_values | go_skip | go_guarded | go_step | go_upon)
   go_returns
   exact ⟨rfl, HX4.out⟩
 ·have heb : (er != 0) = true := by simpa [bne] using her
  have hO := HO.out
  have hB := HS.out
  rw [show (er == 0) = false by simpa using her, Bool.false_and] at hO
  subst hO
  rw [if_neg (by simp)] at hB
  subst hB
  go_simp
  repeat (first | go_values | go_skip | go_guarded | go_step | go_upon)
  go_returns
  exact ⟨rfl, HX3.out⟩
end Go.Proofs.YtcgbpmeadohbkaaGreatDoor
