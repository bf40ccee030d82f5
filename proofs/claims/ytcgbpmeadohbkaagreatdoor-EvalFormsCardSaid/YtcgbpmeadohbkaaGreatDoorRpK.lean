import Derived.Test.YtcgbpmeadohbkaaGreatDoorRpJ
namespace Go.Proofs.YtcgbpmeadohbkaaGreatDoor
open Go.RowKit Go.Lib
set_option maxRecDepth 100000
theorem Rst.done1 {w0 W : World} {p g cap long : Nat} {T : List Lx.Tok} {s : PSt} (h : Rst w0 p g cap long T s W) (k o : Int) (x t : List UInt8) (n : Int) (y : PN) (m : Tr) (hT : TrAt (w0.heap.size < ·) W y m) (a b c d e f : Value) :
 LevPostR p g cap long T (.mk k o x t n [m]) s w0 (.returned (PN.v ⟨k, o, ⟨x.toArray⟩, ⟨t.toArray⟩, n, some ⟨W.heap.size, 0, none⟩, 1, 1⟩)) (((((((W.setCell ⟨w0.heap.size, 0, none⟩ a).setCell ⟨w0.heap.size, 1, none⟩ b).setCell ⟨w0.heap.size, 2, none⟩ c).setCell ⟨w0.heap.size, 3, none⟩ d).setCell ⟨w0.heap.size, 4, none⟩ e).setCell ⟨w0.heap.size, 5, none⟩ f).alloc (.cells y.cells 24)) := by
 have hl := h.res.lt
 have hrs := h.rs.other6 (x := w0.heap.size) (by have := h.hp; omega) (by have := h.hg; omega) a b c d e f
 have hle := h.le.other6 (Nat.le_refl _) a b c d e f
 have hT6 := hT.set6 (b := w0.heap.size) (fun g h => by omega) a b c d e f
 have hs6 : ((((((W.setCell ⟨w0.heap.size, 0, none⟩ a).setCell ⟨w0.heap.size, 1, none⟩ b).setCell ⟨w0.heap.size, 2, none⟩ c).setCell ⟨w0.heap.size, 3, none⟩ d).setCell ⟨w0.heap.size, 4, none⟩ e).setCell ⟨w0.heap.size, 5, none⟩ f).heap.size = W.heap.size := by simp
 generalize ((((((W.setCell ⟨w0.heap.size, 0, none⟩ a).setCell ⟨w0.heap.size, 1, none⟩ b).setCell ⟨w0.heap.size, 2, none⟩ c).setCell ⟨w0.heap.size, 3, none⟩ d).setCell ⟨w0.heap.size, 4, none⟩ e).setCell ⟨w0.heap.size, 5, none⟩ f) = W6 at hrs hle hT6 hs6 ⊢
 have hx : Ext W6 (W6.alloc (.cells y.cells 24)) := (Ext.refl W6).alloc _
 refine ⟨_, rfl, ?_, hrs.ext hx, hle.trans (LeP.ofExt hx)⟩
 rw [← hs6]
 exact oneTr (w0.heap.size ≤ ·) k o x t n W6.heap.size 1 y m _ (Nat.le_refl _) (by omega) (pnAt_of [y] (t := 24) (by simpa using Blk.new W6 y.cells 24 rfl)) (((hT6.mono (B := fun g => w0.heap.size ≤ g ∧ g ≠ p) (fun g h1 h2 => ⟨Nat.le_of_lt h1, by have := h.hp; omega⟩)).later (p := p) (fun g h => h.2) (LeP.ofExt hx)).mono fun g h _ => h.1)
set_option maxHeartbeats 8000000 in
theorem rfirst_plain (p g cap long : Nat) (T : List Lx.Tok) (rec : RecR) (hrec : LevOkR p g cap long T rec) (hdp : DeepOk rec) (s : PSt) (he : s.e = 0) (hk3 : kindR T s ≠ 3) (hk4 : kindR T s ≠ 4) (hk1 : kindR T s ≠ 1) (r : Tr) (s' : PSt) (hf : plainR rec T long s = some (r, s')) (w : World) (h : RsAt w p g cap long T s) :
 Calls Tryz.prog 85 #[.pointer (some ⟨p, 0, none⟩)] w (LevPostR p g cap long T r s' w) := by
 have HS0 := Lib.hid (Rst.start h)
 have KK := Lib.hid (fun W (hW : RsAt W p g cap long T s) => rkind_any p g cap long T s W hW)
 have KT := Lib.hid (fun (s : PSt) (x : ByteArray) W (hW : RsAt W p g cap long T s) => rtake_any p g cap long T s x W hW)
 have KI := Lib.hid (fun (s : PSt) (x : ByteArray) W (hW : RsAt W p g cap long T s) => ris_any p g cap long T s x W hW)
 have KW := Lib.hid (fun (s : PSt) (x : ByteArray) W (hW : RsAt W p g cap long T s) => rwant_any p g cap long T s x W hW)
 have KD := Lib.hid (fun (s : PSt) W (hW : RsAt W p g cap long T s) => rin_any p g cap long T s W hW)
 have KF := Lib.hid (fun (s : PSt) W (hW : RsAt W p g cap long T s) => rfail_any p g cap long T s 10 W hW)
 have KY := Lib.hid (fun (s : PSt) W (hW : RsAt W p g cap long T s) => rtyped_any p g cap long T s W hW)
 have HRec := Lib.hid hrec
 have HDp := Lib.hid hdp
 have HFf := Lib.hid hf
 obtain ⟨⟨c1, c2, c4⟩, f1, f4, hpl⟩ := (Rst.start h).rs.cells
 rw [he] at c2
 obtain ⟨K, hK⟩ : ∃ K, K = kindR T s := ⟨_, rfl⟩
 rw [← hK] at KK hk3 hk4 hk1
 have b3 : (K == 3) = false := by rw [beq_eq_false_iff_ne]; exact hk3
 have b4 : (K == 4) = false := by rw [beq_eq_false_iff_ne]; exact hk4
 have b1 : (K == 1) = false := by rw [beq_eq_false_iff_ne]; exact hk1
 clear h hrec hdp hf hK hk3 hk4 hk1
 go_enter Tryz.func85, Tryz.ntmps85
 go_simp
 repeat (first | go_values | go_skip | go_guarded | go_step | go_upon)
 refine Calls.mono (KK.out _ HS0.out.rs) ?_
 rintro e W0 ⟨rfl, hx0⟩
 have HS1 := Lib.hid (HS0.out.ext hx0)
 clear hx0 HS0
 go_simp
 repeat (first | go_values | go_skip | go_guarded | go_step | go_upon)
 refine Calls.mono (KK.out _ HS1.out.rs) ?_
 rintro e W1 ⟨rfl, hx1⟩
 have HS2 := Lib.hid (HS1.out.ext hx1)
 clear hx1 HS1
 go_simp
 repeat (first | go_values | go_skip | go_guarded | go_step | go_upon)
 refine Calls.mono (KK.out _ HS2.out.rs) ?_
 rintro e W2 ⟨rfl, hx2⟩
 have HS3 := Lib.hid (HS2.out.ext hx2)
 clear hx2 HS2 KK c1 c2 c4 f1 f4 hpl
 go_simp
 repeat (first | go_values | go_skip | go_guarded | go_step | go_upon)
 unfold plainR at HFf
 refine Calls.mono (KT.out s ⟨#[78, 85, 76, 76]⟩ W2 HS3.out.rs) ?_
 rw [show bsl ⟨#[78, 85, 76, 76]⟩ = [78, 85, 76, 76] from rfl]
 cases ht1 : takeB T s [78, 85, 76, 76]
 ·rw [ht1, if_neg (by decide)] at HFf
  rintro e W3 ⟨rfl, hp3, hl3⟩
  have HS4 := Lib.hid (HS3.out.call (show RsAt W3 p g cap long T s from hp3) hl3)
  clear hp3 hl3 HS3
  go_simp
  repeat (first | go_values | go_skip | go_guarded | go_step | go_upon)
  refine Calls.mono (KT.out s ⟨#[84, 82, 85, 69]⟩ W3 HS4.out.rs) ?_
  rw [show bsl ⟨#[84, 82, 85, 69]⟩ = [84, 82, 85, 69] from rfl]
  cases ht2 : takeB T s [84, 82, 85, 69]
  ·rw [ht2, if_neg (by decide)] at HFf
   rintro e W4 ⟨rfl, hp4, hl4⟩
   have HS5 := Lib.hid (HS4.out.call (show RsAt W4 p g cap long T s from hp4) hl4)
   clear hp4 hl4 HS4
   go_simp
   repeat (first | go_values | go_skip | go_guarded | go_step | go_upon)
   refine Calls.mono (KT.out s ⟨#[70, 65, 76, 83, 69]⟩ W4 HS5.out.rs) ?_
   rw [show bsl ⟨#[70, 65, 76, 83, 69]⟩ = [70, 65, 76, 83, 69] from rfl]
   cases ht3 : takeB T s [70, 65, 76, 83, 69]
   ·rw [ht3, if_neg (by decide)] at HFf
    rintro e W5 ⟨rfl, hp5, hl5⟩
    have HS6 := Lib.hid (HS5.out.call (show RsAt W5 p g cap long T s from hp5) hl5)
    clear hp5 hl5 HS5
    unfold groupR at HFf
    go_simp
    repeat (first | go_values | go_skip | go_guarded | go_step | go_upon)
    refine Calls.mono (KI.out s ⟨#[40]⟩ W5 HS6.out.rs) ?_
    rw [show bsl ⟨#[40]⟩ = [40] from rfl]
    cases hpar : isR T s [40]
    ·rw [hpar, if_neg (by decide)] at HFf
     rintro e W6 ⟨rfl, hx6⟩
     have HS7 := Lib.hid (HS6.out.ext hx6)
     clear hx6 HS6
     go_simp
     repeat (first | go_values | go_skip | go_guarded | go_step | go_upon)
     refine Calls.mono (KI.out s ⟨#[67, 65, 83, 84]⟩ W6 HS7.out.rs) ?_
     rw [show bsl ⟨#[67, 65, 83, 84]⟩ = [67, 65, 83, 84] from rfl]
     cases hcast : isR T s [67, 65, 83, 84]
     ·rw [hcast, if_neg (by decide)] at HFf
      obtain ⟨rfl, hfs⟩ := Prod.mk.inj (Option.some.inj HFf.out)
      have HFs := Lib.hid hfs
      clear hfs HFf
      rintro e W7 ⟨rfl, hx7⟩
      have HS8 := Lib.hid (HS7.out.ext hx7)
      clear hx7 HS7
      go_simp
      repeat (first | go_values | go_skip | go_guarded | go_step | go_upon)
      refine Calls.mono (KF.out s W7 HS8.out.rs) ?_
      rw [HFs.out]
      rintro e W8 ⟨rfl, hp8, hl8⟩
      have HS := Lib.hid (HS8.out.call hp8 hl8)
      clear hp8 hl8 HS8
      have hrb := HS.out.res
      have HRr := Lib.hid hrb
      obtain ⟨cr, fr⟩ := hrb.facts
      have hrl := hrb.lt
      clear hrb
      go_simp
      repeat (first | go_values | go_skip | go_guarded | go_step | go_upon)
      refine bodyPost_ret (ret_ndP rfl _ rfl rfl (blk6P HRr.out _ _ _ _ _ _)) rfl ?_
      exact HS.out.done ⟨0, 0, ⟨#[]⟩, ⟨#[]⟩, 0, none, 0, 0⟩ _ (.leaf 0 0 [] [] 0) _ _ _ _ _ _
     ·rw [hcast, if_pos rfl] at HFf
      rintro e W7 ⟨rfl, hx7⟩
      have HS8 := Lib.hid (HS7.out.ext hx7)
      clear hx7 HS7
      have hlt := isR_lt hcast
      go_simp
      repeat (first | go_values | go_skip | go_guarded | go_step | go_upon)
      refine Calls.mono (KD.out s W7 HS8.out.rs) ?_
      cases hin : inB s
      ·rw [hin, if_neg (by decide)] at HFf
       obtain ⟨rfl, hfs⟩ := Prod.mk.inj (Option.some.inj HFf.out)
       have HFs := Lib.hid hfs
       clear hfs HFf
       rw [HFs.out]
       rintro e W8 ⟨rfl, hp8, hl8⟩
       have HS := Lib.hid (HS8.out.call hp8 hl8)
       clear hp8 hl8 HS8
       have hrb := HS.out.res
       have HRr := Lib.hid hrb
       obtain ⟨cr, fr⟩ := hrb.facts
       have hrl := hrb.lt
       clear hrb
       go_simp
       repeat (first | go_values | go_skip | go_guarded | go_step | go_upon)
       refine bodyPost_ret (ret_ndP rfl _ rfl rfl (blk6P HRr.out _ _ _ _ _ _)) rfl ?_
       exact HS.out.done ⟨0, 0, ⟨#[]⟩, ⟨#[]⟩, 0, none, 0, 0⟩ _ (.leaf 0 0 [] [] 0) _ _ _ _ _ _
      ·rw [hin, if_pos rfl] at HFf
       have hins : inS T long s = { s with deep := s.deep + 1 } := by unfold inS; rw [hin]; rfl
       rw [hins] at HFf ⊢
       obtain ⟨i, deep, at_, er⟩ := s
       simp only at he hlt
       subst he
       simp only at HFf
       rintro e W8 ⟨rfl, hp8, hl8⟩
       have HS9 := Lib.hid (HS8.out.call hp8 hl8)
       clear hp8 hl8 HS8
       obtain ⟨⟨c1, c2, c4⟩, f1, f4, hpl⟩ := HS9.out.rs.cells
       simp only at c1 c2 c4
       have hfew := HS9.out.rs.few
       have hsum := IntWalk.i64_in ((i : Int) + 1) (by omega)
       go_simp
       repeat (first | go_values | go_skip | go_guarded | go_step | go_upon)
       have HS10 := Lib.hid (show Rst w p g cap long T ⟨i + 1, deep + 1, at_, 0⟩ (W8.setCell ⟨p, 1, none⟩ (.int .i64 ((i : Int) + 1))) from HS9.out.at (i + 1) hlt)
       clear c1 c2 c4 f1 f4 hpl HS9 hsum
       generalize W8.setCell ⟨p, 1, none⟩ (.int .i64 ((i : Int) + 1)) = W9 at HS10 ⊢
       refine Calls.mono (KW.out ⟨i + 1, deep + 1, at_, 0⟩ ⟨#[40]⟩ W9 HS10.out.rs) ?_
       rw [show bsl ⟨#[40]⟩ = [40] from rfl]
       rintro e W10 ⟨rfl, hp10, hl10⟩
       have HS11 := Lib.hid (HS10.out.call hp10 hl10)
       clear hp10 hl10 HS10
       have hd0 : (wantR T long ⟨i + 1, deep + 1, at_, 0⟩ [40]).deep = deep + 1 := deep_want ..
       simp only [advR] at HFf
       generalize wantR T long ⟨i + 1, deep + 1, at_, 0⟩ [40] = s11 at HS11 hd0 HFf
       obtain ⟨m, hm, hq⟩ := Option.map_eq_some_iff.1 HFf.out
       obtain ⟨hrt, hfs⟩ := Prod.mk.inj hq
       have HRt := Lib.hid hrt
       have HFs := Lib.hid hfs
       have hd1 := (HDp.out _ _ m.1 m.2 hm).trans hd0
       have KL := Lib.hid (HRec.out 1 1 s11 m.1 m.2 _ rfl (by decide) hm HS11.out.rs)
       clear hm hq hfs hrt HFf hd0
       go_simp
       repeat (first | go_values | go_skip | go_guarded | go_step | go_upon)
       refine Calls.mono KL.out ?_
       rintro e W11 ⟨y, rfl, hty, hpy, hly⟩
       have hsz : w.heap.size < W10.heap.size := HS11.out.res.lt
       have HS12 := Lib.hid (HS11.out.call hpy hly)
       have HT12 := Lib.hid (hty.mono (B := fun g => w.heap.size < g ∧ g < W11.heap.size) fun g h1 h2 => ⟨by omega, h2⟩)
       clear hty hpy hly HS11 KL
       obtain ⟨xk, xo, xs, xt, xn, xla, xln, xlc⟩ := y
       simp only [PN.v]
       go_simp
       repeat (first | go_values | go_skip | go_guarded | go_step | go_upon)
       have hsz2 : w.heap.size < W11.heap.size := HS12.out.res.lt
       have hx13 : Ext W11 (W11.alloc (.cells #[.int .i64 xk, .int .i64 xo, .string xs, .string xt, .int .i64 xn, .slice xla xln xlc] 24)) := (Ext.refl W11).alloc _
       have HV13 := Lib.hid (Blk.new W11 #[.int .i64 xk, .int .i64 xo, .string xs, .string xt, .int .i64 xn, .slice xla xln xlc] 24 rfl)
       have HS13 := Lib.hid (HS12.out.ext hx13)
       have HT13 := Lib.hid (HT12.out.later (p := p) (fun g h => by have := HS12.out.hp; omega) (LeP.ofExt hx13))
       clear hx13 HS12 HT12
       generalize (W11.alloc (.cells #[.int .i64 xk, .int .i64 xo, .string xs, .string xt, .int .i64 xn, .slice xla xln xlc] 24)) = W13 at HV13 HS13 HT13 ⊢
       generalize W11.heap.size = b1 at HV13 HT13 hsz2 ⊢
       refine Calls.mono (KW.out m.2 ⟨#[65, 83]⟩ W13 HS13.out.rs) ?_
       rw [show bsl ⟨#[65, 83]⟩ = [65, 83] from rfl]
       rintro e W14 ⟨rfl, hp14, hl14⟩
       have HS14 := Lib.hid (HS13.out.call hp14 hl14)
       have HV14 := Lib.hid (hl14.blk HV13.out (by have := HS13.out.hp; omega))
       have HT14 := Lib.hid (HT13.out.later (p := p) (fun g h => by have := HS13.out.hp; omega) hl14)
       have hd2 : (wantR T long m.2 [65, 83]).deep = deep + 1 := (deep_want ..).trans hd1
       clear hp14 hl14 HS13 HV13 HT13 hd1
       generalize wantR T long m.2 [65, 83] = s14 at HS14 hd2 HFs HRt ⊢
       go_simp
       repeat (first | go_values | go_skip | go_guarded | go_step | go_upon)
       refine Calls.mono (KY.out s14 W14 HS14.out.rs) ?_
       have hd3 : (typR T long s14 0 typL).2.deep = deep + 1 := (deep_typ ..).trans hd2
       generalize typR T long s14 0 typL = q15 at HFs hd3 HRt ⊢
       obtain ⟨Q, s15⟩ := q15
       simp only at HFs hd3 HRt ⊢
       rintro e W15 ⟨rfl, hp15, hl15⟩
       have HS15 := Lib.hid (HS14.out.call hp15 hl15)
       have HV15 := Lib.hid (hl15.blk HV14.out (by have := HS14.out.hp; omega))
       have HT15 := Lib.hid (HT14.out.later (p := p) (fun g h => by have := HS14.out.hp; omega) hl15)
       clear hp15 hl15 HS14 HV14 HT14 hd2
       go_simp
       repeat (first | go_values | go_skip | go_guarded | go_step | go_upon)
       refine Calls.mono (KW.out s15 ⟨#[41]⟩ W15 HS15.out.rs) ?_
       rw [show bsl ⟨#[41]⟩ = [41] from rfl]
       rintro e W9 ⟨rfl, hp9, hl9⟩
       have HS9 := Lib.hid (HS15.out.call hp9 hl9)
       have HV9 := Lib.hid (hl9.blk HV15.out (by have := HS15.out.hp; omega))
       have HT9 := Lib.hid (HT15.out.later (p := p) (fun g h => by have := HS15.out.hp; omega) hl9)
       have hd9 : (wantR T long s15 [41]).deep = deep + 1 := (deep_want ..).trans hd3
       clear hp9 hl9 HS15 HV15 HT15 hd3
       generalize wantR T long s15 [41] = s9 at HS9 hd9 HFs
       have hdl := HS9.out.rs.dp
       obtain ⟨⟨_, _, k4⟩, _, q4, hpl9⟩ := HS9.out.rs.cells
       obtain ⟨D, hD⟩ : ∃ D : Int, D = (s9.deep : Int) := ⟨_, rfl⟩
       rw [← hD] at k4
       have hsub := IntWalk.i64_in (D - 1) (by omega)
       have hbp : b1 ≠ p := by have := HS9.out.hp; omega
       have HS := Lib.hid (show Rst w p g cap long T s' (W9.setCell ⟨p, 4, none⟩ (.int .i64 (D - 1))) from by rw [hD, ← HFs.out]; exact HS9.out.dec (by omega))
       have HVd := Lib.hid (HV9.out.other (a := ⟨p, 4, none⟩) hbp (.int .i64 (D - 1)))
       have hD' := Lib.hid hD
       clear hD
       obtain ⟨cv, fv⟩ := HV9.out.facts
       have hvl9 := HV9.out.lt
       have hrb := HS.out.res
       have HRr := Lib.hid hrb
       have hrb9 := HS9.out.res
       obtain ⟨cr, fr⟩ := hrb9.facts
       have hrl := hrb9.lt
       have hpr : p ≠ w.heap.size := by have := HS9.out.hp; omega
       clear hrb hrb9
       go_simp
       repeat (first | go_values | go_skip | go_guarded | go_step | go_upon)
       have HSo := HS.out
       have hpw := HSo.hp
       have HTd := HT9.out.same (w' := W9.setCell ⟨p, 4, none⟩ (.int .i64 (D - 1))) (fun g h _ => heap_setCell_other W9 ⟨p, 4, none⟩ g _ (by show g ≠ p; omega)) (by simp)
       refine bodyPost_ret (ret_ndP rfl _ rfl rfl ((blk6P HRr.out _ _ _ _ _ _).keep ((Ext.refl _).alloc _))) rfl ?_
       have hdn := HSo.done1 12 0 [] [] Q ⟨xk, xo, xs, xt, xn, xla, xln, xlc⟩ m.1 (HTd.mono fun g h _ => h.1)
       simp only [World.size_setCell] at hdn
       rw [← HRt.out]
       exact hdn _ _ _ _ _ _
    ·rw [hpar, if_pos rfl] at HFf
     rintro e W7 ⟨rfl, hx7⟩
     have HS8 := Lib.hid (HS6.out.ext hx7)
     clear hx7 HS6
     have hlt := isR_lt hpar
     go_simp
     repeat (first | go_values | go_skip | go_guarded | go_step | go_upon)
     refine Calls.mono (KD.out s W7 HS8.out.rs) ?_
     cases hin : inB s
     ·rw [hin, if_neg (by decide)] at HFf
      obtain ⟨rfl, hfs⟩ := Prod.mk.inj (Option.some.inj HFf.out)
      have HFs := Lib.hid hfs
      clear hfs HFf
      rw [HFs.out]
      rintro e W8 ⟨rfl, hp8, hl8⟩
      have HS := Lib.hid (HS8.out.call hp8 hl8)
      clear hp8 hl8 HS8
      have hrb := HS.out.res
      have HRr := Lib.hid hrb
      obtain ⟨cr, fr⟩ := hrb.facts
      have hrl := hrb.lt
      clear hrb
      go_simp
      repeat (first | go_values | go_skip | go_guarded | go_step | go_upon)
      refine bodyPost_ret (ret_ndP rfl _ rfl rfl (blk6P HRr.out _ _ _ _ _ _)) rfl ?_
      exact HS.out.done ⟨0, 0, ⟨#[]⟩, ⟨#[]⟩, 0, none, 0, 0⟩ _ (.leaf 0 0 [] [] 0) _ _ _ _ _ _
     ·rw [hin, if_pos rfl] at HFf
      have hins : inS T long s = { s with deep := s.deep + 1 } := by unfold inS; rw [hin]; rfl
      rw [hins] at HFf ⊢
      obtain ⟨i, deep, at_, er⟩ := s
      simp only at he hlt
      subst he
      simp only at HFf
      rintro e W8 ⟨rfl, hp8, hl8⟩
      have HS9 := Lib.hid (HS8.out.call hp8 hl8)
      clear hp8 hl8 HS8
      obtain ⟨⟨c1, c2, c4⟩, f1, f4, hpl⟩ := HS9.out.rs.cells
      simp only at c1 c2 c4
      have hfew := HS9.out.rs.few
      have hsum := IntWalk.i64_in ((i : Int) + 1) (by omega)
      go_simp
      repeat (first | go_values | go_skip | go_guarded | go_step | go_upon)
      have HS10 := Lib.hid (show Rst w p g cap long T ⟨i + 1, deep + 1, at_, 0⟩ (W8.setCell ⟨p, 1, none⟩ (.int .i64 ((i : Int) + 1))) from HS9.out.at (i + 1) hlt)
      clear c1 c2 c4 f1 f4 hpl HS9 hsum
      generalize W8.setCell ⟨p, 1, none⟩ (.int .i64 ((i : Int) + 1)) = W9 at HS10 ⊢
      simp only [advR] at HFf
      obtain ⟨m, hm, hq⟩ := Option.map_eq_some_iff.1 HFf.out
      obtain ⟨rfl, hfs⟩ := Prod.mk.inj hq
      have HFs := Lib.hid hfs
      have hd1 := HDp.out _ _ m.1 m.2 hm
      simp only at hd1
      have KL := Lib.hid (HRec.out 1 1 _ m.1 m.2 _ rfl (by decide) hm HS10.out.rs)
      clear hm hq hfs HFf
      refine Calls.mono KL.out ?_
      rintro e W11 ⟨y, rfl, hty, hpy, hly⟩
      have hsz : w.heap.size < W9.heap.size := HS10.out.res.lt
      have HS12 := Lib.hid (HS10.out.call hpy hly)
      have HT12 := Lib.hid (hty.mono (B := fun g => w.heap.size < g ∧ g < W11.heap.size) fun g h1 h2 => ⟨by omega, h2⟩)
      clear hty hpy hly HS10 KL
      obtain ⟨xk, xo, xs, xt, xn, xla, xln, xlc⟩ := y
      simp only [PN.v]
      go_simp
      repeat (first | go_values | go_skip | go_guarded | go_step | go_upon)
      have hsz2 : w.heap.size < W11.heap.size := HS12.out.res.lt
      have hx13 : Ext W11 (W11.alloc (.cells #[.int .i64 xk, .int .i64 xo, .string xs, .string xt, .int .i64 xn, .slice xla xln xlc] 24)) := (Ext.refl W11).alloc _
      have HV13 := Lib.hid (Blk.new W11 #[.int .i64 xk, .int .i64 xo, .string xs, .string xt, .int .i64 xn, .slice xla xln xlc] 24 rfl)
      have HS13 := Lib.hid (HS12.out.ext hx13)
      have HT13 := Lib.hid (HT12.out.later (p := p) (fun g h => by have := HS12.out.hp; omega) (LeP.ofExt hx13))
      clear hx13 HS12 HT12
      generalize (W11.alloc (.cells #[.int .i64 xk, .int .i64 xo, .string xs, .string xt, .int .i64 xn, .slice xla xln xlc] 24)) = W13 at HV13 HS13 HT13 ⊢
      generalize W11.heap.size = b1 at HV13 HT13 hsz2 ⊢
      refine Calls.mono (KW.out m.2 ⟨#[41]⟩ W13 HS13.out.rs) ?_
      rw [show bsl ⟨#[41]⟩ = [41] from rfl]
      rintro e W9 ⟨rfl, hp9, hl9⟩
      have HS9 := Lib.hid (HS13.out.call hp9 hl9)
      have HV9 := Lib.hid (hl9.blk HV13.out (by have := HS13.out.hp; omega))
      have HT9 := Lib.hid (HT13.out.later (p := p) (fun g h => by have := HS13.out.hp; omega) hl9)
      have hd9 : (wantR T long m.2 [41]).deep = deep + 1 := (deep_want ..).trans hd1
      clear hp9 hl9 HS13 HV13 HT13 hd1
      generalize wantR T long m.2 [41] = s9 at HS9 hd9 HFs
      have hdl := HS9.out.rs.dp
      obtain ⟨⟨_, _, k4⟩, _, q4, hpl9⟩ := HS9.out.rs.cells
      obtain ⟨D, hD⟩ : ∃ D : Int, D = (s9.deep : Int) := ⟨_, rfl⟩
      rw [← hD] at k4
      have hsub := IntWalk.i64_in (D - 1) (by omega)
      have hbp : b1 ≠ p := by have := HS9.out.hp; omega
      have HS := Lib.hid (show Rst w p g cap long T s' (W9.setCell ⟨p, 4, none⟩ (.int .i64 (D - 1))) from by rw [hD, ← HFs.out]; exact HS9.out.dec (by omega))
      have HVd := Lib.hid (HV9.out.other (a := ⟨p, 4, none⟩) hbp (.int .i64 (D - 1)))
      have hD' := Lib.hid hD
      clear hD
      obtain ⟨cv, fv⟩ := HV9.out.facts
      have hvl9 := HV9.out.lt
      have hrb := HS.out.res
      have HRr := Lib.hid hrb
      have hrb9 := HS9.out.res
      obtain ⟨cr, fr⟩ := hrb9.facts
      have hrl := hrb9.lt
      have hpr : p ≠ w.heap.size := by have := HS9.out.hp; omega
      clear hrb hrb9
      go_simp
      repeat (first | go_values | go_skip | go_guarded | go_step | go_upon)
      refine bodyPost_ret (ret_ndP rfl _ rfl rfl (blk6P HRr.out _ _ _ _ _ _)) rfl ?_
      have HSo := HS.out
      have hpw := HSo.hp
      exact HSo.done ⟨xk, xo, xs, xt, xn, xla, xln, xlc⟩ _ ((HT9.out.same (fun g h _ => heap_setCell_other W9 ⟨p, 4, none⟩ g _ (by show g ≠ p; omega)) (by simp)).mono fun g h _ => h.1) _ _ _ _ _ _
   ·rw [ht3, if_pos rfl] at HFf
    obtain ⟨rfl, hfs⟩ := Prod.mk.inj (Option.some.inj HFf.out)
    subst hfs
    rintro e W4b ⟨rfl, hp4, hl4⟩
    have HS := Lib.hid (HS5.out.call (show RsAt W4b p g cap long T (advR s) from hp4) hl4)
    clear hp4 hl4 HS5 HFf
    have hrb := HS.out.res
    have HRr := Lib.hid hrb
    obtain ⟨cr, fr⟩ := hrb.facts
    have hrl := hrb.lt
    clear hrb
    go_simp
    repeat (first | go_values | go_skip | go_guarded | go_step | go_upon)
    refine bodyPost_ret (ret_ndP rfl _ rfl rfl (blk6P HRr.out _ _ _ _ _ _)) rfl ?_
    exact HS.out.done ⟨1, 0, ⟨#[]⟩, ⟨#[]⟩, 0, none, 0, 0⟩ _ (.leaf 1 0 [] [] 0) _ _ _ _ _ _
  ·rw [ht2, if_pos rfl] at HFf
   obtain ⟨rfl, hfs⟩ := Prod.mk.inj (Option.some.inj HFf.out)
   subst hfs
   rintro e W4b ⟨rfl, hp4, hl4⟩
   have HS := Lib.hid (HS4.out.call (show RsAt W4b p g cap long T (advR s) from hp4) hl4)
   clear hp4 hl4 HS4 HFf
   have hrb := HS.out.res
   have HRr := Lib.hid hrb
   obtain ⟨cr, fr⟩ := hrb.facts
   have hrl := hrb.lt
   clear hrb
   go_simp
   repeat (first | go_values | go_skip | go_guarded | go_step | go_upon)
   refine bodyPost_ret (ret_ndP rfl _ rfl rfl (blk6P HRr.out _ _ _ _ _ _)) rfl ?_
   exact HS.out.done ⟨1, 0, ⟨#[]⟩, ⟨#[]⟩, 1, none, 0, 0⟩ _ (.leaf 1 0 [] [] 1) _ _ _ _ _ _
 ·rw [ht1, if_pos rfl] at HFf
  obtain ⟨rfl, hfs⟩ := Prod.mk.inj (Option.some.inj HFf.out)
  subst hfs
  rintro e W3b ⟨rfl, hp3, hl3⟩
  have HS := Lib.hid (HS3.out.call (show RsAt W3b p g cap long T (advR s) from hp3) hl3)
  clear hp3 hl3 HS3 HFf
  have hrb := HS.out.res
  have HRr := Lib.hid hrb
  obtain ⟨cr, fr⟩ := hrb.facts
  have hrl := hrb.lt
  clear hrb
  go_simp
  repeat (first | go_values | go_skip | go_guarded | go_step | go_upon)
  refine bodyPost_ret (ret_ndP rfl _ rfl rfl (blk6P HRr.out _ _ _ _ _ _)) rfl ?_
  exact HS.out.done ⟨0, 0, ⟨#[]⟩, ⟨#[]⟩, 0, none, 0, 0⟩ _ (.leaf 0 0 [] [] 0) _ _ _ _ _ _
set_option maxHeartbeats 1000000 in
theorem rfirst_any (p g cap long : Nat) (T : List Lx.Tok) (rec : RecR) (hrec : LevOkR p g cap long T rec) (hdp : DeepOk rec) (s : PSt) (r : Tr) (s' : PSt) (hf : firstR rec T long s = some (r, s')) (w : World) (h : RsAt w p g cap long T s) :
 Calls Tryz.prog 85 #[.pointer (some ⟨p, 0, none⟩)] w (LevPostR p g cap long T r s' w) := by
 unfold firstR at hf
 by_cases he : s.e = 0
 ·rw [if_neg (by simpa using he)] at hf
  by_cases h3 : kindR T s = 3
  ·rw [if_pos h3] at hf
   obtain ⟨rfl, rfl⟩ := Prod.mk.inj (Option.some.inj hf)
   exact rfirst_int p g cap long T s he h3 w h
  rw [if_neg h3] at hf
  by_cases h4 : kindR T s = 4
  ·rw [if_pos h4] at hf
   obtain ⟨rfl, rfl⟩ := Prod.mk.inj (Option.some.inj hf)
   exact rfirst_text p g cap long T s he h4 w h
  rw [if_neg h4] at hf
  by_cases h1 : kindR T s = 1
  ·rw [if_pos h1] at hf
   exact rfirst_name p g cap long T rec hrec hdp s he h1 r s' hf w h
  rw [if_neg h1] at hf
  exact rfirst_plain p g cap long T rec hrec hdp s he h3 h4 h1 r s' hf w h
 ·rw [if_pos he] at hf
  obtain ⟨rfl, rfl⟩ := Prod.mk.inj (Option.some.inj hf)
  exact rfirst_err p g cap long T s he w h
end Go.Proofs.YtcgbpmeadohbkaaGreatDoor
