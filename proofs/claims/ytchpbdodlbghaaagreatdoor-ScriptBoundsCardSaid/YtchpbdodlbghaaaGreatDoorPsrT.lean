import Derived.Test.YtchpbdodlbghaaaGreatDoorPsrS
namespace Go.Proofs.YtchpbdodlbghaaaGreatDoor
open Go.RowKit Go.Lib
set_option maxRecDepth 100000

def castF (rec : Nat → PSt → Option (Tr × PSt)) (T : List Lx.Tok) (long : Nat) (s : PSt) : Option (Tr × PSt) :=
  if s.i < T.length then (rec 1 (wantF T long { s with i := s.i + 1 } [40])).bind fun m =>
    some (.mk 12 0 [] [] (kindF T long (wantW T long m.2 [65, 83])).1 [m.1], wantF T long (kindF T long (wantW T long m.2 [65, 83])).2 [41]) else none
set_option maxHeartbeats 8000000 in
theorem cast_any (p g cap long : Nat) (T : List Lx.Tok) (rec : Nat → PSt → Option (Tr × PSt)) (hrec : LevOk p g cap long T rec) (s : PSt) (r : Tr) (s' : PSt) (w : World) (hf : castF rec T long s = some (r, s')) (h : PsAt w p g cap long T s) :
    Calls Tryz.prog 459 #[.pointer (some ⟨p, 0, none⟩)] w (LevPost p g cap long T r s' w) := by
  have hpl : p < w.heap.size := h.blk.lt
  have hpw : p ≠ w.heap.size := by omega
  have hgl : g < w.heap.size := h.tok.1
  have hgw : g ≠ w.heap.size := by omega
  have hwp : w.heap.size ≠ p := Ne.symm hpw
  unfold castF at hf
  by_cases hlt : s.i < T.length
  · rw [if_pos hlt] at hf
    obtain ⟨i, deep, at_, er⟩ := s
    simp only at hf hlt
    have hfew := h.few
    have HL0 := Lib.hid (show LeP p w ((w.setCell ⟨p, 1, none⟩ (.int .i64 ((i : Int) + 1))).alloc (.cells #[.int .i64 0, .int .i64 0, .string ⟨#[]⟩, .string ⟨#[]⟩, .int .i64 0, .slice none 0 0] 196)) from (LeP.set 1 _).trans (LeP.ofExt ((Ext.refl _).alloc _)))
    have HP0 := Lib.hid (show PsAt ((w.setCell ⟨p, 1, none⟩ (.int .i64 ((i : Int) + 1))).alloc (.cells #[.int .i64 0, .int .i64 0, .string ⟨#[]⟩, .string ⟨#[]⟩, .int .i64 0, .slice none 0 0] 196)) p g cap long T ⟨i + 1, deep, at_, er⟩ from
      PsAt.ext (w := w.setCell ⟨p, 1, none⟩ (.int .i64 ((i : Int) + 1))) (h.set (LeP.set 1 _) (h.blk.set 1 _) (by show i + 1 ≤ _; omega)) ((Ext.refl _).alloc _))
    have HR0 := Lib.hid (show Blk ((w.setCell ⟨p, 1, none⟩ (.int .i64 ((i : Int) + 1))).alloc (.cells #[.int .i64 0, .int .i64 0, .string ⟨#[]⟩, .string ⟨#[]⟩, .int .i64 0, .slice none 0 0] 196)) w.heap.size #[.int .i64 0, .int .i64 0, .string ⟨#[]⟩, .string ⟨#[]⟩, .int .i64 0, .slice none 0 0] 196 from Blk.new _ _ _ (by simp))
    have hb := h.blk
    simp only [psC] at hb
    have hsum := IntWalk.i64_in ((i : Int) + 1) (by omega)
    obtain ⟨cb, fb⟩ := hb.facts
    have hbl := hb.lt
    have KW := Lib.hid (fun (s : PSt) (x : ByteArray) W (hW : PsAt W p g cap long T s) => wantOp_any p g cap long T s x W hW)
    have KA := Lib.hid (fun (s : PSt) (x : ByteArray) b W (hW : PsAt W p g cap long T s) hb => want_any p g cap long T s x b W hW hb)
    have KK := Lib.hid (fun (s : PSt) W (hW : PsAt W p g cap long T s) => kind_any p g cap long T s W hW)
    have HRec := Lib.hid hrec
    have HFf := Lib.hid hf
    clear hb h hrec hf
    go_enter Tryz.func459, Tryz.ntmps459
    go_simp
    repeat (first | go_values | go_skip | go_guarded | go_step | go_upon)
    generalize ((w.setCell ⟨p, 1, none⟩ (.int .i64 ((i : Int) + 1))).alloc (.cells #[.int .i64 0, .int .i64 0, .string ⟨#[]⟩, .string ⟨#[]⟩, .int .i64 0, .slice none 0 0] 196)) = W0 at HL0 HP0 HR0 ⊢
    clear cb fb hbl
    refine Calls.mono (KW.out _ ⟨#[40]⟩ _ HP0.out) ?_
    rw [show bsl ⟨#[40]⟩ = [40] from rfl]
    rintro e W1 ⟨rfl, hp1, hl1⟩
    have hf := HFf.out
    clear HFf
    generalize wantF T long ⟨i + 1, deep, at_, er⟩ [40] = s1 at hp1 hf
    cases hr1 : rec 1 s1 with
    | none => rw [hr1] at hf; cases hf
    | some m1 =>
      obtain ⟨m, s2⟩ := m1
      rw [hr1] at hf
      simp only [Option.bind_some] at hf
      have HFf := Lib.hid hf
      have HR1 := Lib.hid (hl1.blk HR0.out hwp)
      have HL1 := Lib.hid (HL0.out.trans hl1)
      have KL := Lib.hid (HRec.out 1 1 s1 m s2 W1 rfl (by decide) hr1 hp1)
      have hw1 : w.heap.size < W1.heap.size := HR1.out.lt
      clear hf hr1 HL0 HP0 HR0 hp1 hl1
      go_simp
      repeat (first | go_values | go_skip | go_guarded | go_step | go_upon)
      refine Calls.mono KL.out ?_
      rintro e W2 ⟨x, rfl, ht2, hp2, hl2⟩
      have HR2 := Lib.hid (hl2.blk HR1.out hwp)
      have HL2 := Lib.hid (HL1.out.trans hl2)
      have hs2 := hl2.size
      have HT2 := Lib.hid (ht2.mono (B := fun g => w.heap.size < g ∧ g < W2.heap.size) fun g h1 h2 => ⟨by omega, h2⟩)
      have HP2 := Lib.hid hp2
      have hw2 : w.heap.size < W2.heap.size := by omega
      have hp2l : p < W2.heap.size := HP2.out.blk.lt
      have hg2l : g < W2.heap.size := HP2.out.tok.1
      clear ht2 hp2 hl2 KL HR1 HL1 hw1 hs2
      obtain ⟨xk, xo, xs, xt, xn, xla, xln, xlc⟩ := x
      simp only [PN.v]
      go_simp
      repeat (first | go_values | go_skip | go_guarded | go_step | go_upon)
      have hx3 : Ext W2 (((W2.alloc (.cells #[.int .i64 xk, .int .i64 xo, .string xs, .string xt, .int .i64 xn, .slice xla xln xlc] 196)).alloc (.cells #[.int .i64 12, .int .i64 0, .string ⟨#[]⟩, .string ⟨#[]⟩, .int .i64 0, .slice (some ⟨W2.heap.size, 0, none⟩) 1 1] 196)).alloc (.cells #[.string ⟨#[65, 83]⟩] 9)) := (((Ext.refl W2).alloc _).alloc _).alloc _
      have HN3 := Lib.hid (show PnAt (((W2.alloc (.cells #[.int .i64 xk, .int .i64 xo, .string xs, .string xt, .int .i64 xn, .slice xla xln xlc] 196)).alloc (.cells #[.int .i64 12, .int .i64 0, .string ⟨#[]⟩, .string ⟨#[]⟩, .int .i64 0, .slice (some ⟨W2.heap.size, 0, none⟩) 1 1] 196)).alloc (.cells #[.string ⟨#[65, 83]⟩] 9)) W2.heap.size [⟨xk, xo, xs, xt, xn, xla, xln, xlc⟩] from pnAt_of [⟨xk, xo, xs, xt, xn, xla, xln, xlc⟩] (t := 196) (((Blk.new W2 _ 196 rfl).alloc _).alloc _))
      have HV3 := Lib.hid (show Blk (((W2.alloc (.cells #[.int .i64 xk, .int .i64 xo, .string xs, .string xt, .int .i64 xn, .slice xla xln xlc] 196)).alloc (.cells #[.int .i64 12, .int .i64 0, .string ⟨#[]⟩, .string ⟨#[]⟩, .int .i64 0, .slice (some ⟨W2.heap.size, 0, none⟩) 1 1] 196)).alloc (.cells #[.string ⟨#[65, 83]⟩] 9)) (W2.heap.size + 1) #[.int .i64 12, .int .i64 0, .string ⟨#[]⟩, .string ⟨#[]⟩, .int .i64 0, .slice (some ⟨W2.heap.size, 0, none⟩) 1 1] 196 from (Blk.new (W2.alloc (.cells #[.int .i64 xk, .int .i64 xo, .string xs, .string xt, .int .i64 xn, .slice xla xln xlc] 196)) _ 196 (by simp)).alloc _)
      have HS3 := Lib.hid (show Blk (((W2.alloc (.cells #[.int .i64 xk, .int .i64 xo, .string xs, .string xt, .int .i64 xn, .slice xla xln xlc] 196)).alloc (.cells #[.int .i64 12, .int .i64 0, .string ⟨#[]⟩, .string ⟨#[]⟩, .int .i64 0, .slice (some ⟨W2.heap.size, 0, none⟩) 1 1] 196)).alloc (.cells #[.string ⟨#[65, 83]⟩] 9)) (W2.heap.size + 1 + 1) #[.string ⟨#[65, 83]⟩] 9 from Blk.new ((W2.alloc (.cells #[.int .i64 xk, .int .i64 xo, .string xs, .string xt, .int .i64 xn, .slice xla xln xlc] 196)).alloc (.cells #[.int .i64 12, .int .i64 0, .string ⟨#[]⟩, .string ⟨#[]⟩, .int .i64 0, .slice (some ⟨W2.heap.size, 0, none⟩) 1 1] 196)) _ 9 (by simp))
      have HP3 := Lib.hid (HP2.out.ext hx3)
      have HR3 := Lib.hid (HR2.out.keep hx3)
      have HT3 := Lib.hid (HT2.out.later (p := p) (fun g h => by omega) (LeP.ofExt hx3))
      have HL3 := Lib.hid (HL2.out.trans (LeP.ofExt hx3))
      clear hx3 HP2 HR2 HT2 HL2
      generalize (((W2.alloc (.cells #[.int .i64 xk, .int .i64 xo, .string xs, .string xt, .int .i64 xn, .slice xla xln xlc] 196)).alloc (.cells #[.int .i64 12, .int .i64 0, .string ⟨#[]⟩, .string ⟨#[]⟩, .int .i64 0, .slice (some ⟨W2.heap.size, 0, none⟩) 1 1] 196)).alloc (.cells #[.string ⟨#[65, 83]⟩] 9)) = W3 at HN3 HV3 HS3 HP3 HR3 HT3 HL3 ⊢
      generalize W2.heap.size = b0 at HN3 HV3 HS3 HT3 hw2 hp2l hg2l ⊢
      have hbp : b0 ≠ p := by omega
      have hb1p : b0 + 1 ≠ p := by omega
      have hgb1 : g ≠ b0 + 1 := by omega
      have hwb1 : w.heap.size ≠ b0 + 1 := by omega
      have hwl : w.heap.size ≤ b0 + 1 := by omega
      refine Calls.mono (KA.out s2 ⟨#[65, 83]⟩ (b0 + 1 + 1) W3 HP3.out HS3.out) ?_
      rw [show bsl ⟨#[65, 83]⟩ = [65, 83] from rfl]
      rintro e W4 ⟨rfl, hp4, hl4⟩
      have hf := HFf.out
      clear HFf
      generalize wantW T long s2 [65, 83] = s3 at hp4 hf
      have HFf := Lib.hid hf
      have HN4 := Lib.hid (HN3.out.same (hl4.old _ HN3.out.1 hbp) hl4.size)
      have HV4 := Lib.hid (hl4.blk HV3.out hb1p)
      have HP4 := Lib.hid hp4
      have HR4 := Lib.hid (hl4.blk HR3.out hwp)
      have HT4 := Lib.hid (HT3.out.later (p := p) (fun g h => by omega) hl4)
      have HL4 := Lib.hid (HL3.out.trans hl4)
      clear hf hp4 hl4 HN3 HV3 HS3 HP3 HR3 HT3 HL3 KA
      go_simp
      repeat (first | go_values | go_skip | go_guarded | go_step | go_upon)
      refine Calls.mono (KK.out s3 W4 HP4.out) ?_
      rintro e W5 ⟨rfl, hp5, hl5⟩
      have hf := HFf.out
      clear HFf
      generalize (kindF T long s3).1 = kd at hf ⊢
      generalize (kindF T long s3).2 = s4 at hp5 hf
      have HFf := Lib.hid hf
      have HN5 := Lib.hid (HN4.out.same (hl5.old _ HN4.out.1 hbp) hl5.size)
      have HV5 := Lib.hid (hl5.blk HV4.out hb1p)
      have HP5 := Lib.hid hp5
      have HR5 := Lib.hid (hl5.blk HR4.out hwp)
      have HT5 := Lib.hid (HT4.out.later (p := p) (fun g h => by omega) hl5)
      have HL5 := Lib.hid (HL4.out.trans hl5)
      clear hf hp5 hl5 HN4 HV4 HP4 HR4 HT4 HL4 KK
      obtain ⟨cv, fv⟩ := HV5.out.facts
      have hvl := HV5.out.lt
      go_simp
      repeat (first | go_values | go_skip | go_guarded | go_step | go_upon)
      have HN6 := Lib.hid (HN5.out.same (w' := W5.setCell ⟨b0 + 1, 4, none⟩ (.int .i64 kd)) (heap_setCell_other W5 ⟨b0 + 1, 4, none⟩ b0 _ (by show b0 ≠ b0 + 1; omega)) (by simp))
      have HV6 := Lib.hid (show Blk (W5.setCell ⟨b0 + 1, 4, none⟩ (.int .i64 kd)) (b0 + 1) #[.int .i64 12, .int .i64 0, .string ⟨#[]⟩, .string ⟨#[]⟩, .int .i64 kd, .slice (some ⟨b0, 0, none⟩) 1 1] 196 from HV5.out.set 4 _)
      have HP6 := Lib.hid (HP5.out.other (Ne.symm hb1p) hgb1 4 (.int .i64 kd))
      have HR6 := Lib.hid (HR5.out.other (a := ⟨b0 + 1, 4, none⟩) hwb1 (.int .i64 kd))
      have HT6 := Lib.hid (HT5.out.same (w' := W5.setCell ⟨b0 + 1, 4, none⟩ (.int .i64 kd)) (fun g h _ => heap_setCell_other W5 ⟨b0 + 1, 4, none⟩ g _ (by show g ≠ b0 + 1; omega)) (by simp))
      have HL6 := Lib.hid (HL5.out.other hwl 4 (.int .i64 kd))
      clear HN5 HV5 HP5 HR5 HT5 HL5 cv fv hvl
      generalize W5.setCell ⟨b0 + 1, 4, none⟩ (.int .i64 kd) = W6 at HN6 HV6 HP6 HR6 HT6 HL6 ⊢
      refine Calls.mono (KW.out s4 ⟨#[41]⟩ W6 HP6.out) ?_
      rw [show bsl ⟨#[41]⟩ = [41] from rfl]
      rintro e W7 ⟨rfl, hp7, hl7⟩
      have HN7 := Lib.hid (HN6.out.same (hl7.old _ HN6.out.1 hbp) hl7.size)
      have HV7 := Lib.hid (hl7.blk HV6.out hb1p)
      have HP7 := Lib.hid hp7
      have HR7 := Lib.hid (hl7.blk HR6.out hwp)
      have HT7 := Lib.hid (HT6.out.later (p := p) (fun g h => by omega) hl7)
      have HL7 := Lib.hid (HL6.out.trans hl7)
      clear hp7 hl7 HN6 HV6 HP6 HR6 HT6 HL6 KW
      obtain ⟨cv, fv⟩ := HV7.out.facts
      have hvl := HV7.out.lt
      obtain ⟨cr, fr⟩ := HR7.out.facts
      have hrl := HR7.out.lt
      obtain ⟨rfl, rfl⟩ := Prod.mk.inj (Option.some.inj HFf.out)
      go_simp
      repeat (first | go_values | go_skip | go_guarded | go_step | go_upon)
      refine bodyPost_ret (ret_ndP rfl _ rfl rfl (blk6P HR7.out _ _ _ _ _ _)) rfl ?_
      refine ⟨⟨12, 0, ⟨#[]⟩, ⟨#[]⟩, kd, some ⟨b0, 0, none⟩, 1, 1⟩, rfl, ?_, HP7.out.other6 hpw hgw _ _ _ _ _ _, HL7.out.other6 (Nat.le_refl _) _ _ _ _ _ _⟩
      exact ((oneTr (fun g => w.heap.size < g ∧ g ≤ b0) 12 0 [] [] kd b0 1 _ m W7 (Nat.le_refl _) ⟨by omega, Nat.le_refl _⟩ HN7.out (HT7.out.mono fun g h _ => ⟨h.1, by omega⟩)).set6 (b := w.heap.size) (fun g h => by omega) _ _ _ _ _ _).mono fun g h _ => Nat.le_of_lt h.1
  · rw [if_neg hlt] at hf; cases hf
def callF (rec : Nat → PSt → Option (Tr × PSt)) (T : List Lx.Tok) (long : Nat) (s : PSt) : Option (Tr × PSt) :=
  let s2 := wantF T long (takeP T long s 1) [40]
  if ((takeT T s 1).text == [99, 111, 117, 110, 116]) && isB T s2 5 [42] then some (.mk (callK (takeT T s 1).text) 0 (takeT T s 1).text [] 0 [], wantF T long (advP true s2) [41])
  else (rec 1 s2).bind fun m => some (.mk (callK (takeT T s 1).text) 0 (takeT T s 1).text [] 0 [m.1], wantF T long m.2 [41])
set_option maxHeartbeats 8000000 in
theorem call_any (p g cap long : Nat) (T : List Lx.Tok) (rec : Nat → PSt → Option (Tr × PSt)) (hrec : LevOk p g cap long T rec) (s : PSt) (r : Tr) (s' : PSt) (w : World) (hf : callF rec T long s = some (r, s')) (h : PsAt w p g cap long T s) :
    Calls Tryz.prog 463 #[.pointer (some ⟨p, 0, none⟩)] w (LevPost p g cap long T r s' w) := by
  have hpl : p < w.heap.size := h.blk.lt
  have hpw : p ≠ w.heap.size := by omega
  have hgl : g < w.heap.size := h.tok.1
  have hgw : g ≠ w.heap.size := by omega
  have hwp : w.heap.size ≠ p := Ne.symm hpw
  have HR0 := Lib.hid (Blk.new w #[.int .i64 0, .int .i64 0, .string ⟨#[]⟩, .string ⟨#[]⟩, .int .i64 0, .slice none 0 0] 196 rfl)
  have hx0 : Ext w (w.alloc (.cells #[.int .i64 0, .int .i64 0, .string ⟨#[]⟩, .string ⟨#[]⟩, .int .i64 0, .slice none 0 0] 196)) := (Ext.refl w).alloc _
  have KT := Lib.hid (take_any p g cap long T s 1 _ (h.ext hx0))
  have HX0 := Lib.hid hx0
  have KW := Lib.hid (fun (s : PSt) (x : ByteArray) W (hW : PsAt W p g cap long T s) => wantOp_any p g cap long T s x W hW)
  have KO := Lib.hid (fun (s : PSt) (x : ByteArray) W (hW : PsAt W p g cap long T s) => pop_any p g cap long T s x W hW)
  have KG := Lib.hid (fun x W => aggr_any x W)
  have HRec := Lib.hid hrec
  unfold callF at hf
  simp only at hf
  generalize takeT T s 1 = t at KT hf
  generalize takeP T long s 1 = s1 at KT hf
  have HFf := Lib.hid hf
  clear hf h hx0 hrec
  obtain ⟨tk, tt, tn, tp⟩ := t
  simp only [tkV] at KT HFf
  have hfd := tok_field tk ⟨tt.toArray⟩ tn tp
  go_enter Tryz.func463, Tryz.ntmps463
  go_simp
  repeat (first | go_values | go_skip | go_guarded | go_step | go_upon)
  refine Calls.mono KT.out ?_
  rintro e W1 ⟨rfl, hp1, hl1⟩
  have HP1 := Lib.hid hp1
  have HL1 := Lib.hid ((LeP.ofExt HX0.out).trans hl1)
  have HR1 := Lib.hid (hl1.blk HR0.out hwp)
  clear hp1 hl1 KT HR0 HX0
  go_simp
  repeat (first | go_values | go_skip | go_guarded | go_step | go_upon)
  have hx1 : Ext W1 (W1.alloc (.cells #[.int .i64 13, .int .i64 0, .string ⟨tt.toArray⟩, .string ⟨#[]⟩, .int .i64 0, .slice none 0 0] 196)) := (Ext.refl W1).alloc _
  have hb1p : W1.heap.size ≠ p := by have := HP1.out.blk.lt; omega
  have hgb1 : g ≠ W1.heap.size := by have := HP1.out.tok.1; omega
  have hwb1 : w.heap.size ≠ W1.heap.size := by have := HR1.out.lt; omega
  have hwl : w.heap.size ≤ W1.heap.size := by have := HR1.out.lt; omega
  have HV1b := Lib.hid (Blk.new W1 #[.int .i64 13, .int .i64 0, .string ⟨tt.toArray⟩, .string ⟨#[]⟩, .int .i64 0, .slice none 0 0] 196 rfl)
  have HP1b := Lib.hid (HP1.out.ext hx1)
  have HR1b := Lib.hid (HR1.out.keep hx1)
  have HL1b := Lib.hid (HL1.out.trans (LeP.ofExt hx1))
  clear hx1 HP1 HR1 HL1
  generalize W1.alloc (.cells #[.int .i64 13, .int .i64 0, .string ⟨tt.toArray⟩, .string ⟨#[]⟩, .int .i64 0, .slice none 0 0] 196) = W2 at HV1b HP1b HR1b HL1b ⊢
  generalize W1.heap.size = b1 at HV1b hb1p hgb1 hwb1 hwl ⊢
  refine Calls.mono (KG.out tt W2) ?_
  rintro e W2b ⟨rfl, rfl⟩
  cases hag : aggB tt
  · rw [show callK tt = 13 by unfold callK; rw [hag]; rfl] at HFf
    go_simp
    repeat (first | go_values | go_skip | go_guarded | go_step | go_upon)
    have HP3 := HP1b
    have HV3 := HV1b
    have HR3 := HR1b
    have HL3 := HL1b
    clear HP1b HV1b HR1b HL1b
    refine Calls.mono (KW.out _ ⟨#[40]⟩ _ HP3.out) ?_
    rw [show bsl ⟨#[40]⟩ = [40] from rfl]
    rintro e W4 ⟨rfl, hp4, hl4⟩
    have hf := HFf.out
    clear HFf
    generalize wantF T long s1 [40] = s2 at hp4 hf
    have HP4 := Lib.hid hp4
    have HV4 := Lib.hid (hl4.blk HV3.out hb1p)
    have HR4 := Lib.hid (hl4.blk HR3.out hwp)
    have HL4 := Lib.hid (HL3.out.trans hl4)
    clear hp4 hl4 HP3 HV3 HR3 HL3
    obtain ⟨cv, fv⟩ := HV4.out.facts
    have hvl := HV4.out.lt
    cases hct : tt == [99, 111, 117, 110, 116]
    · rw [hct, Bool.false_and, if_neg (by decide)] at hf
      have hne : (tt != [99, 111, 117, 110, 116]) = true := by simp only [bne, hct]; rfl
      go_simp
      repeat (first | go_values | go_skip | go_guarded | go_step | go_upon)
      have HPq := HP4
      have HVq := HV4
      have HRq := HR4
      have HLq := HL4
      clear HP4 HV4 HR4 HL4 cv fv hvl
      cases hr1 : rec 1 s2 with
      | none => rw [hr1] at hf; cases hf
      | some m1 =>
        obtain ⟨m, s3⟩ := m1
        rw [hr1] at hf
        obtain ⟨rfl, hfs⟩ := Prod.mk.inj (Option.some.inj hf)
        have HS := Lib.hid hfs
        have KL := Lib.hid (HRec.out 1 1 s2 m s3 _ rfl (by decide) hr1 HPq.out)
        have hbl := HVq.out.lt
        have hpl4 := HPq.out.blk.lt
        have hgl4 := HPq.out.tok.1
        clear hf hfs hr1 HPq
        refine Calls.mono KL.out ?_
        rintro e W6 ⟨x, rfl, ht6, hp6, hl6⟩
        have hs6 := hl6.size
        have HV6 := Lib.hid (hl6.blk HVq.out hb1p)
        have HR6 := Lib.hid (hl6.blk HRq.out hwp)
        have HL6 := Lib.hid (HLq.out.trans hl6)
        have HP6 := Lib.hid hp6
        have HT6 := Lib.hid (ht6.mono (B := fun g => b1 < g ∧ g < W6.heap.size) fun g h1 h2 => ⟨by omega, h2⟩)
        have hb6 : b1 < W6.heap.size := by omega
        have hp6l : p < W6.heap.size := by omega
        have hg6l : g < W6.heap.size := by omega
        clear ht6 hp6 hl6 hs6 KL HVq HRq HLq hbl hpl4 hgl4
        obtain ⟨cv, fv⟩ := HV6.out.facts
        have hvl := HV6.out.lt
        obtain ⟨xk, xo, xs, xt, xn, xla, xln, xlc⟩ := x
        simp only [PN.v]
        go_simp
        repeat (first | go_values | go_skip | go_guarded | go_step | go_upon)
        have hwb6 : w.heap.size < b1 := by omega
        have HN7 := Lib.hid (show PnAt ((W6.setCell ⟨b1, 5, none⟩ (.slice (some ⟨W6.heap.size, 0, none⟩) 1 1)).alloc (.cells #[.int .i64 xk, .int .i64 xo, .string xs, .string xt, .int .i64 xn, .slice xla xln xlc] 196)) W6.heap.size [⟨xk, xo, xs, xt, xn, xla, xln, xlc⟩] from pnAt_of [⟨xk, xo, xs, xt, xn, xla, xln, xlc⟩] (t := 196) (Blk.new (W6.setCell ⟨b1, 5, none⟩ (.slice (some ⟨W6.heap.size, 0, none⟩) 1 1)) _ 196 (by simp)))
        have HV7 := Lib.hid ((HV6.out.set 5 (.slice (some ⟨W6.heap.size, 0, none⟩) 1 1)).keep ((Ext.refl (W6.setCell ⟨b1, 5, none⟩ (.slice (some ⟨W6.heap.size, 0, none⟩) 1 1))).alloc (.cells #[.int .i64 xk, .int .i64 xo, .string xs, .string xt, .int .i64 xn, .slice xla xln xlc] 196)))
        have HP7 := Lib.hid ((HP6.out.other (Ne.symm hb1p) hgb1 5 (.slice (some ⟨W6.heap.size, 0, none⟩) 1 1)).ext ((Ext.refl (W6.setCell ⟨b1, 5, none⟩ (.slice (some ⟨W6.heap.size, 0, none⟩) 1 1))).alloc (.cells #[.int .i64 xk, .int .i64 xo, .string xs, .string xt, .int .i64 xn, .slice xla xln xlc] 196)))
        have HR7 := Lib.hid ((HR6.out.other (a := ⟨b1, 5, none⟩) hwb1 (.slice (some ⟨W6.heap.size, 0, none⟩) 1 1)).keep ((Ext.refl (W6.setCell ⟨b1, 5, none⟩ (.slice (some ⟨W6.heap.size, 0, none⟩) 1 1))).alloc (.cells #[.int .i64 xk, .int .i64 xo, .string xs, .string xt, .int .i64 xn, .slice xla xln xlc] 196)))
        have HT7 := Lib.hid ((HT6.out.same (w' := (W6.setCell ⟨b1, 5, none⟩ (.slice (some ⟨W6.heap.size, 0, none⟩) 1 1))) (fun g h _ => heap_setCell_other W6 ⟨b1, 5, none⟩ g _ (by show g ≠ b1; omega)) (by simp)).later (p := p) (w' := ((W6.setCell ⟨b1, 5, none⟩ (.slice (some ⟨W6.heap.size, 0, none⟩) 1 1)).alloc (.cells #[.int .i64 xk, .int .i64 xo, .string xs, .string xt, .int .i64 xn, .slice xla xln xlc] 196))) (fun g h => by omega) (LeP.ofExt ((Ext.refl _).alloc _)))
        have HL7 := Lib.hid ((HL6.out.other hwl 5 (.slice (some ⟨W6.heap.size, 0, none⟩) 1 1)).trans (LeP.ofExt ((Ext.refl (W6.setCell ⟨b1, 5, none⟩ (.slice (some ⟨W6.heap.size, 0, none⟩) 1 1))).alloc (.cells #[.int .i64 xk, .int .i64 xo, .string xs, .string xt, .int .i64 xn, .slice xla xln xlc] 196))))
        clear HV6 HP6 HR6 HT6 HL6 cv fv hvl
        generalize ((W6.setCell ⟨b1, 5, none⟩ (.slice (some ⟨W6.heap.size, 0, none⟩) 1 1)).alloc (.cells #[.int .i64 xk, .int .i64 xo, .string xs, .string xt, .int .i64 xn, .slice xla xln xlc] 196)) = W7 at HN7 HV7 HP7 HR7 HT7 HL7 ⊢
        generalize W6.heap.size = b7 at HN7 HV7 HT7 hb6 hp6l hg6l ⊢
        have hb7p : b7 ≠ p := by omega
        refine Calls.mono (KW.out s3 ⟨#[41]⟩ W7 HP7.out) ?_
        rw [show bsl ⟨#[41]⟩ = [41] from rfl, HS.out]
        rintro e W8 ⟨rfl, hp8, hl8⟩
        have HN8 := Lib.hid (HN7.out.same (hl8.old _ HN7.out.1 hb7p) hl8.size)
        have HV8 := Lib.hid (hl8.blk HV7.out hb1p)
        have HP8 := Lib.hid hp8
        have HR8 := Lib.hid (hl8.blk HR7.out hwp)
        have HT8 := Lib.hid (HT7.out.later (p := p) (fun g h => by omega) hl8)
        have HL8 := Lib.hid (HL7.out.trans hl8)
        clear hp8 hl8 HN7 HV7 HP7 HR7 HT7 HL7
        obtain ⟨cv, fv⟩ := HV8.out.facts
        have hvl := HV8.out.lt
        obtain ⟨cr, fr⟩ := HR8.out.facts
        have hrl := HR8.out.lt
        go_simp
        repeat (first | go_values | go_skip | go_guarded | go_step | go_upon)
        refine bodyPost_ret (ret_ndP rfl _ rfl rfl (blk6P HR8.out _ _ _ _ _ _)) rfl ?_
        refine ⟨⟨_, 0, ⟨tt.toArray⟩, ⟨#[]⟩, 0, some ⟨b7, 0, none⟩, 1, 1⟩, rfl, ?_, HP8.out.other6 hpw hgw _ _ _ _ _ _, HL8.out.other6 (Nat.le_refl _) _ _ _ _ _ _⟩
        exact ((oneTr (fun g => w.heap.size < g ∧ g ≤ b7) _ 0 tt [] 0 b7 1 _ m W8 (Nat.le_refl _) ⟨by omega, Nat.le_refl _⟩ HN8.out (HT8.out.mono fun g h _ => ⟨by omega, by omega⟩)).set6 (b := w.heap.size) (fun g h => by omega) _ _ _ _ _ _).mono fun g h _ => Nat.le_of_lt h.1
    · rw [hct, Bool.true_and] at hf
      have hne : (tt != [99, 111, 117, 110, 116]) = false := by simp only [bne, hct]; rfl
      go_simp
      repeat (first | go_values | go_skip | go_guarded | go_step | go_upon)
      refine Calls.mono (KO.out s2 ⟨#[42]⟩ W4 HP4.out) ?_
      rw [show bsl ⟨#[42]⟩ = [42] from rfl]
      cases hst : isB T s2 5 [42]
      · rw [hst, if_neg (by decide)] at hf
        rintro e W5 ⟨rfl, hp5, hl5⟩
        have HPq := Lib.hid (show PsAt W5 p g cap long T s2 from hp5)
        have HVq := Lib.hid (hl5.blk HV4.out hb1p)
        have HRq := Lib.hid (hl5.blk HR4.out hwp)
        have HLq := Lib.hid (HL4.out.trans hl5)
        clear hp5 hl5 HP4 HV4 HR4 HL4 cv fv hvl
        go_simp
        repeat (first | go_values | go_skip | go_guarded | go_step | go_upon)
        cases hr1 : rec 1 s2 with
        | none => rw [hr1] at hf; cases hf
        | some m1 =>
          obtain ⟨m, s3⟩ := m1
          rw [hr1] at hf
          obtain ⟨rfl, hfs⟩ := Prod.mk.inj (Option.some.inj hf)
          have HS := Lib.hid hfs
          have KL := Lib.hid (HRec.out 1 1 s2 m s3 _ rfl (by decide) hr1 HPq.out)
          have hbl := HVq.out.lt
          have hpl4 := HPq.out.blk.lt
          have hgl4 := HPq.out.tok.1
          clear hf hfs hr1 HPq
          refine Calls.mono KL.out ?_
          rintro e W6 ⟨x, rfl, ht6, hp6, hl6⟩
          have hs6 := hl6.size
          have HV6 := Lib.hid (hl6.blk HVq.out hb1p)
          have HR6 := Lib.hid (hl6.blk HRq.out hwp)
          have HL6 := Lib.hid (HLq.out.trans hl6)
          have HP6 := Lib.hid hp6
          have HT6 := Lib.hid (ht6.mono (B := fun g => b1 < g ∧ g < W6.heap.size) fun g h1 h2 => ⟨by omega, h2⟩)
          have hb6 : b1 < W6.heap.size := by omega
          have hp6l : p < W6.heap.size := by omega
          have hg6l : g < W6.heap.size := by omega
          clear ht6 hp6 hl6 hs6 KL HVq HRq HLq hbl hpl4 hgl4
          obtain ⟨cv, fv⟩ := HV6.out.facts
          have hvl := HV6.out.lt
          obtain ⟨xk, xo, xs, xt, xn, xla, xln, xlc⟩ := x
          simp only [PN.v]
          go_simp
          repeat (first | go_values | go_skip | go_guarded | go_step | go_upon)
          have hwb6 : w.heap.size < b1 := by omega
          have HN7 := Lib.hid (show PnAt ((W6.setCell ⟨b1, 5, none⟩ (.slice (some ⟨W6.heap.size, 0, none⟩) 1 1)).alloc (.cells #[.int .i64 xk, .int .i64 xo, .string xs, .string xt, .int .i64 xn, .slice xla xln xlc] 196)) W6.heap.size [⟨xk, xo, xs, xt, xn, xla, xln, xlc⟩] from pnAt_of [⟨xk, xo, xs, xt, xn, xla, xln, xlc⟩] (t := 196) (Blk.new (W6.setCell ⟨b1, 5, none⟩ (.slice (some ⟨W6.heap.size, 0, none⟩) 1 1)) _ 196 (by simp)))
          have HV7 := Lib.hid ((HV6.out.set 5 (.slice (some ⟨W6.heap.size, 0, none⟩) 1 1)).keep ((Ext.refl (W6.setCell ⟨b1, 5, none⟩ (.slice (some ⟨W6.heap.size, 0, none⟩) 1 1))).alloc (.cells #[.int .i64 xk, .int .i64 xo, .string xs, .string xt, .int .i64 xn, .slice xla xln xlc] 196)))
          have HP7 := Lib.hid ((HP6.out.other (Ne.symm hb1p) hgb1 5 (.slice (some ⟨W6.heap.size, 0, none⟩) 1 1)).ext ((Ext.refl (W6.setCell ⟨b1, 5, none⟩ (.slice (some ⟨W6.heap.size, 0, none⟩) 1 1))).alloc (.cells #[.int .i64 xk, .int .i64 xo, .string xs, .string xt, .int .i64 xn, .slice xla xln xlc] 196)))
          have HR7 := Lib.hid ((HR6.out.other (a := ⟨b1, 5, none⟩) hwb1 (.slice (some ⟨W6.heap.size, 0, none⟩) 1 1)).keep ((Ext.refl (W6.setCell ⟨b1, 5, none⟩ (.slice (some ⟨W6.heap.size, 0, none⟩) 1 1))).alloc (.cells #[.int .i64 xk, .int .i64 xo, .string xs, .string xt, .int .i64 xn, .slice xla xln xlc] 196)))
          have HT7 := Lib.hid ((HT6.out.same (w' := (W6.setCell ⟨b1, 5, none⟩ (.slice (some ⟨W6.heap.size, 0, none⟩) 1 1))) (fun g h _ => heap_setCell_other W6 ⟨b1, 5, none⟩ g _ (by show g ≠ b1; omega)) (by simp)).later (p := p) (w' := ((W6.setCell ⟨b1, 5, none⟩ (.slice (some ⟨W6.heap.size, 0, none⟩) 1 1)).alloc (.cells #[.int .i64 xk, .int .i64 xo, .string xs, .string xt, .int .i64 xn, .slice xla xln xlc] 196))) (fun g h => by omega) (LeP.ofExt ((Ext.refl _).alloc _)))
          have HL7 := Lib.hid ((HL6.out.other hwl 5 (.slice (some ⟨W6.heap.size, 0, none⟩) 1 1)).trans (LeP.ofExt ((Ext.refl (W6.setCell ⟨b1, 5, none⟩ (.slice (some ⟨W6.heap.size, 0, none⟩) 1 1))).alloc (.cells #[.int .i64 xk, .int .i64 xo, .string xs, .string xt, .int .i64 xn, .slice xla xln xlc] 196))))
          clear HV6 HP6 HR6 HT6 HL6 cv fv hvl
          generalize ((W6.setCell ⟨b1, 5, none⟩ (.slice (some ⟨W6.heap.size, 0, none⟩) 1 1)).alloc (.cells #[.int .i64 xk, .int .i64 xo, .string xs, .string xt, .int .i64 xn, .slice xla xln xlc] 196)) = W7 at HN7 HV7 HP7 HR7 HT7 HL7 ⊢
          generalize W6.heap.size = b7 at HN7 HV7 HT7 hb6 hp6l hg6l ⊢
          have hb7p : b7 ≠ p := by omega
          refine Calls.mono (KW.out s3 ⟨#[41]⟩ W7 HP7.out) ?_
          rw [show bsl ⟨#[41]⟩ = [41] from rfl, HS.out]
          rintro e W8 ⟨rfl, hp8, hl8⟩
          have HN8 := Lib.hid (HN7.out.same (hl8.old _ HN7.out.1 hb7p) hl8.size)
          have HV8 := Lib.hid (hl8.blk HV7.out hb1p)
          have HP8 := Lib.hid hp8
          have HR8 := Lib.hid (hl8.blk HR7.out hwp)
          have HT8 := Lib.hid (HT7.out.later (p := p) (fun g h => by omega) hl8)
          have HL8 := Lib.hid (HL7.out.trans hl8)
          clear hp8 hl8 HN7 HV7 HP7 HR7 HT7 HL7
          obtain ⟨cv, fv⟩ := HV8.out.facts
          have hvl := HV8.out.lt
          obtain ⟨cr, fr⟩ := HR8.out.facts
          have hrl := HR8.out.lt
          go_simp
          repeat (first | go_values | go_skip | go_guarded | go_step | go_upon)
          refine bodyPost_ret (ret_ndP rfl _ rfl rfl (blk6P HR8.out _ _ _ _ _ _)) rfl ?_
          refine ⟨⟨_, 0, ⟨tt.toArray⟩, ⟨#[]⟩, 0, some ⟨b7, 0, none⟩, 1, 1⟩, rfl, ?_, HP8.out.other6 hpw hgw _ _ _ _ _ _, HL8.out.other6 (Nat.le_refl _) _ _ _ _ _ _⟩
          exact ((oneTr (fun g => w.heap.size < g ∧ g ≤ b7) _ 0 tt [] 0 b7 1 _ m W8 (Nat.le_refl _) ⟨by omega, Nat.le_refl _⟩ HN8.out (HT8.out.mono fun g h _ => ⟨by omega, by omega⟩)).set6 (b := w.heap.size) (fun g h => by omega) _ _ _ _ _ _).mono fun g h _ => Nat.le_of_lt h.1
      · rw [hst, if_pos rfl] at hf
        obtain ⟨rfl, hfs⟩ := Prod.mk.inj (Option.some.inj hf)
        rintro e W5 ⟨rfl, hp5, hl5⟩
        generalize advP true s2 = s3 at hp5 hfs
        have HS := Lib.hid hfs
        have HPq := Lib.hid hp5
        have HVq := Lib.hid (hl5.blk HV4.out hb1p)
        have HRq := Lib.hid (hl5.blk HR4.out hwp)
        have HLq := Lib.hid (HL4.out.trans hl5)
        clear hf hfs hp5 hl5 HP4 HV4 HR4 HL4 cv fv hvl
        go_simp
        repeat (first | go_values | go_skip | go_guarded | go_step | go_upon)
        refine Calls.mono (KW.out s3 ⟨#[41]⟩ W5 HPq.out) ?_
        rw [show bsl ⟨#[41]⟩ = [41] from rfl, HS.out]
        rintro e W7 ⟨rfl, hp7, hl7⟩
        have HV7 := Lib.hid (hl7.blk HVq.out hb1p)
        have HP7 := Lib.hid hp7
        have HR7 := Lib.hid (hl7.blk HRq.out hwp)
        have HL7 := Lib.hid (HLq.out.trans hl7)
        clear hp7 hl7 HPq HVq HRq HLq
        obtain ⟨cv, fv⟩ := HV7.out.facts
        have hvl := HV7.out.lt
        obtain ⟨cr, fr⟩ := HR7.out.facts
        have hrl := HR7.out.lt
        go_simp
        repeat (first | go_values | go_skip | go_guarded | go_step | go_upon)
        refine bodyPost_ret (ret_ndP rfl _ rfl rfl (blk6P HR7.out _ _ _ _ _ _)) rfl ?_
        exact ⟨⟨_, 0, ⟨tt.toArray⟩, ⟨#[]⟩, 0, none, 0, 0⟩, rfl, .leaf _ 0 tt [] 0, HP7.out.other6 hpw hgw _ _ _ _ _ _, HL7.out.other6 (Nat.le_refl _) _ _ _ _ _ _⟩
  · rw [show callK tt = 14 by unfold callK; rw [hag]; rfl] at HFf
    obtain ⟨cv, fv⟩ := HV1b.out.facts
    have hvl := HV1b.out.lt
    go_simp
    repeat (first | go_values | go_skip | go_guarded | go_step | go_upon)
    have HP3 := Lib.hid (HP1b.out.other (Ne.symm hb1p) hgb1 0 (.int .i64 14))
    have HV3 := Lib.hid (show Blk (W2b.setCell ⟨b1, 0, none⟩ (.int .i64 14)) b1 #[.int .i64 14, .int .i64 0, .string ⟨tt.toArray⟩, .string ⟨#[]⟩, .int .i64 0, .slice none 0 0] 196 from HV1b.out.set 0 _)
    have HR3 := Lib.hid (HR1b.out.other (a := ⟨b1, 0, none⟩) hwb1 (.int .i64 14))
    have HL3 := Lib.hid (HL1b.out.other hwl 0 (.int .i64 14))
    clear HP1b HV1b HR1b HL1b cv fv hvl
    generalize W2b.setCell ⟨b1, 0, none⟩ (.int .i64 14) = W3 at HP3 HV3 HR3 HL3 ⊢
    refine Calls.mono (KW.out _ ⟨#[40]⟩ _ HP3.out) ?_
    rw [show bsl ⟨#[40]⟩ = [40] from rfl]
    rintro e W4 ⟨rfl, hp4, hl4⟩
    have hf := HFf.out
    clear HFf
    generalize wantF T long s1 [40] = s2 at hp4 hf
    have HP4 := Lib.hid hp4
    have HV4 := Lib.hid (hl4.blk HV3.out hb1p)
    have HR4 := Lib.hid (hl4.blk HR3.out hwp)
    have HL4 := Lib.hid (HL3.out.trans hl4)
    clear hp4 hl4 HP3 HV3 HR3 HL3
    obtain ⟨cv, fv⟩ := HV4.out.facts
    have hvl := HV4.out.lt
    cases hct : tt == [99, 111, 117, 110, 116]
    · rw [hct, Bool.false_and, if_neg (by decide)] at hf
      have hne : (tt != [99, 111, 117, 110, 116]) = true := by simp only [bne, hct]; rfl
      go_simp
      repeat (first | go_values | go_skip | go_guarded | go_step | go_upon)
      have HPq := HP4
      have HVq := HV4
      have HRq := HR4
      have HLq := HL4
      clear HP4 HV4 HR4 HL4 cv fv hvl
      cases hr1 : rec 1 s2 with
      | none => rw [hr1] at hf; cases hf
      | some m1 =>
        obtain ⟨m, s3⟩ := m1
        rw [hr1] at hf
        obtain ⟨rfl, hfs⟩ := Prod.mk.inj (Option.some.inj hf)
        have HS := Lib.hid hfs
        have KL := Lib.hid (HRec.out 1 1 s2 m s3 _ rfl (by decide) hr1 HPq.out)
        have hbl := HVq.out.lt
        have hpl4 := HPq.out.blk.lt
        have hgl4 := HPq.out.tok.1
        clear hf hfs hr1 HPq
        refine Calls.mono KL.out ?_
        rintro e W6 ⟨x, rfl, ht6, hp6, hl6⟩
        have hs6 := hl6.size
        have HV6 := Lib.hid (hl6.blk HVq.out hb1p)
        have HR6 := Lib.hid (hl6.blk HRq.out hwp)
        have HL6 := Lib.hid (HLq.out.trans hl6)
        have HP6 := Lib.hid hp6
        have HT6 := Lib.hid (ht6.mono (B := fun g => b1 < g ∧ g < W6.heap.size) fun g h1 h2 => ⟨by omega, h2⟩)
        have hb6 : b1 < W6.heap.size := by omega
        have hp6l : p < W6.heap.size := by omega
        have hg6l : g < W6.heap.size := by omega
        clear ht6 hp6 hl6 hs6 KL HVq HRq HLq hbl hpl4 hgl4
        obtain ⟨cv, fv⟩ := HV6.out.facts
        have hvl := HV6.out.lt
        obtain ⟨xk, xo, xs, xt, xn, xla, xln, xlc⟩ := x
        simp only [PN.v]
        go_simp
        repeat (first | go_values | go_skip | go_guarded | go_step | go_upon)
        have hwb6 : w.heap.size < b1 := by omega
        have HN7 := Lib.hid (show PnAt ((W6.setCell ⟨b1, 5, none⟩ (.slice (some ⟨W6.heap.size, 0, none⟩) 1 1)).alloc (.cells #[.int .i64 xk, .int .i64 xo, .string xs, .string xt, .int .i64 xn, .slice xla xln xlc] 196)) W6.heap.size [⟨xk, xo, xs, xt, xn, xla, xln, xlc⟩] from pnAt_of [⟨xk, xo, xs, xt, xn, xla, xln, xlc⟩] (t := 196) (Blk.new (W6.setCell ⟨b1, 5, none⟩ (.slice (some ⟨W6.heap.size, 0, none⟩) 1 1)) _ 196 (by simp)))
        have HV7 := Lib.hid ((HV6.out.set 5 (.slice (some ⟨W6.heap.size, 0, none⟩) 1 1)).keep ((Ext.refl (W6.setCell ⟨b1, 5, none⟩ (.slice (some ⟨W6.heap.size, 0, none⟩) 1 1))).alloc (.cells #[.int .i64 xk, .int .i64 xo, .string xs, .string xt, .int .i64 xn, .slice xla xln xlc] 196)))
        have HP7 := Lib.hid ((HP6.out.other (Ne.symm hb1p) hgb1 5 (.slice (some ⟨W6.heap.size, 0, none⟩) 1 1)).ext ((Ext.refl (W6.setCell ⟨b1, 5, none⟩ (.slice (some ⟨W6.heap.size, 0, none⟩) 1 1))).alloc (.cells #[.int .i64 xk, .int .i64 xo, .string xs, .string xt, .int .i64 xn, .slice xla xln xlc] 196)))
        have HR7 := Lib.hid ((HR6.out.other (a := ⟨b1, 5, none⟩) hwb1 (.slice (some ⟨W6.heap.size, 0, none⟩) 1 1)).keep ((Ext.refl (W6.setCell ⟨b1, 5, none⟩ (.slice (some ⟨W6.heap.size, 0, none⟩) 1 1))).alloc (.cells #[.int .i64 xk, .int .i64 xo, .string xs, .string xt, .int .i64 xn, .slice xla xln xlc] 196)))
        have HT7 := Lib.hid ((HT6.out.same (w' := (W6.setCell ⟨b1, 5, none⟩ (.slice (some ⟨W6.heap.size, 0, none⟩) 1 1))) (fun g h _ => heap_setCell_other W6 ⟨b1, 5, none⟩ g _ (by show g ≠ b1; omega)) (by simp)).later (p := p) (w' := ((W6.setCell ⟨b1, 5, none⟩ (.slice (some ⟨W6.heap.size, 0, none⟩) 1 1)).alloc (.cells #[.int .i64 xk, .int .i64 xo, .string xs, .string xt, .int .i64 xn, .slice xla xln xlc] 196))) (fun g h => by omega) (LeP.ofExt ((Ext.refl _).alloc _)))
        have HL7 := Lib.hid ((HL6.out.other hwl 5 (.slice (some ⟨W6.heap.size, 0, none⟩) 1 1)).trans (LeP.ofExt ((Ext.refl (W6.setCell ⟨b1, 5, none⟩ (.slice (some ⟨W6.heap.size, 0, none⟩) 1 1))).alloc (.cells #[.int .i64 xk, .int .i64 xo, .string xs, .string xt, .int .i64 xn, .slice xla xln xlc] 196))))
        clear HV6 HP6 HR6 HT6 HL6 cv fv hvl
        generalize ((W6.setCell ⟨b1, 5, none⟩ (.slice (some ⟨W6.heap.size, 0, none⟩) 1 1)).alloc (.cells #[.int .i64 xk, .int .i64 xo, .string xs, .string xt, .int .i64 xn, .slice xla xln xlc] 196)) = W7 at HN7 HV7 HP7 HR7 HT7 HL7 ⊢
        generalize W6.heap.size = b7 at HN7 HV7 HT7 hb6 hp6l hg6l ⊢
        have hb7p : b7 ≠ p := by omega
        refine Calls.mono (KW.out s3 ⟨#[41]⟩ W7 HP7.out) ?_
        rw [show bsl ⟨#[41]⟩ = [41] from rfl, HS.out]
        rintro e W8 ⟨rfl, hp8, hl8⟩
        have HN8 := Lib.hid (HN7.out.same (hl8.old _ HN7.out.1 hb7p) hl8.size)
        have HV8 := Lib.hid (hl8.blk HV7.out hb1p)
        have HP8 := Lib.hid hp8
        have HR8 := Lib.hid (hl8.blk HR7.out hwp)
        have HT8 := Lib.hid (HT7.out.later (p := p) (fun g h => by omega) hl8)
        have HL8 := Lib.hid (HL7.out.trans hl8)
        clear hp8 hl8 HN7 HV7 HP7 HR7 HT7 HL7
        obtain ⟨cv, fv⟩ := HV8.out.facts
        have hvl := HV8.out.lt
        obtain ⟨cr, fr⟩ := HR8.out.facts
        have hrl := HR8.out.lt
        go_simp
        repeat (first | go_values | go_skip | go_guarded | go_step | go_upon)
        refine bodyPost_ret (ret_ndP rfl _ rfl rfl (blk6P HR8.out _ _ _ _ _ _)) rfl ?_
        refine ⟨⟨_, 0, ⟨tt.toArray⟩, ⟨#[]⟩, 0, some ⟨b7, 0, none⟩, 1, 1⟩, rfl, ?_, HP8.out.other6 hpw hgw _ _ _ _ _ _, HL8.out.other6 (Nat.le_refl _) _ _ _ _ _ _⟩
        exact ((oneTr (fun g => w.heap.size < g ∧ g ≤ b7) _ 0 tt [] 0 b7 1 _ m W8 (Nat.le_refl _) ⟨by omega, Nat.le_refl _⟩ HN8.out (HT8.out.mono fun g h _ => ⟨by omega, by omega⟩)).set6 (b := w.heap.size) (fun g h => by omega) _ _ _ _ _ _).mono fun g h _ => Nat.le_of_lt h.1
    · rw [hct, Bool.true_and] at hf
      have hne : (tt != [99, 111, 117, 110, 116]) = false := by simp only [bne, hct]; rfl
      go_simp
      repeat (first | go_values | go_skip | go_guarded | go_step | go_upon)
      refine Calls.mono (KO.out s2 ⟨#[42]⟩ W4 HP4.out) ?_
      rw [show bsl ⟨#[42]⟩ = [42] from rfl]
      cases hst : isB T s2 5 [42]
      · rw [hst, if_neg (by decide)] at hf
        rintro e W5 ⟨rfl, hp5, hl5⟩
        have HPq := Lib.hid (show PsAt W5 p g cap long T s2 from hp5)
        have HVq := Lib.hid (hl5.blk HV4.out hb1p)
        have HRq := Lib.hid (hl5.blk HR4.out hwp)
        have HLq := Lib.hid (HL4.out.trans hl5)
        clear hp5 hl5 HP4 HV4 HR4 HL4 cv fv hvl
        go_simp
        repeat (first | go_values | go_skip | go_guarded | go_step | go_upon)
        cases hr1 : rec 1 s2 with
        | none => rw [hr1] at hf; cases hf
        | some m1 =>
          obtain ⟨m, s3⟩ := m1
          rw [hr1] at hf
          obtain ⟨rfl, hfs⟩ := Prod.mk.inj (Option.some.inj hf)
          have HS := Lib.hid hfs
          have KL := Lib.hid (HRec.out 1 1 s2 m s3 _ rfl (by decide) hr1 HPq.out)
          have hbl := HVq.out.lt
          have hpl4 := HPq.out.blk.lt
          have hgl4 := HPq.out.tok.1
          clear hf hfs hr1 HPq
          refine Calls.mono KL.out ?_
          rintro e W6 ⟨x, rfl, ht6, hp6, hl6⟩
          have hs6 := hl6.size
          have HV6 := Lib.hid (hl6.blk HVq.out hb1p)
          have HR6 := Lib.hid (hl6.blk HRq.out hwp)
          have HL6 := Lib.hid (HLq.out.trans hl6)
          have HP6 := Lib.hid hp6
          have HT6 := Lib.hid (ht6.mono (B := fun g => b1 < g ∧ g < W6.heap.size) fun g h1 h2 => ⟨by omega, h2⟩)
          have hb6 : b1 < W6.heap.size := by omega
          have hp6l : p < W6.heap.size := by omega
          have hg6l : g < W6.heap.size := by omega
          clear ht6 hp6 hl6 hs6 KL HVq HRq HLq hbl hpl4 hgl4
          obtain ⟨cv, fv⟩ := HV6.out.facts
          have hvl := HV6.out.lt
          obtain ⟨xk, xo, xs, xt, xn, xla, xln, xlc⟩ := x
          simp only [PN.v]
          go_simp
          repeat (first | go_values | go_skip | go_guarded | go_step | go_upon)
          have hwb6 : w.heap.size < b1 := by omega
          have HN7 := Lib.hid (show PnAt ((W6.setCell ⟨b1, 5, none⟩ (.slice (some ⟨W6.heap.size, 0, none⟩) 1 1)).alloc (.cells #[.int .i64 xk, .int .i64 xo, .string xs, .string xt, .int .i64 xn, .slice xla xln xlc] 196)) W6.heap.size [⟨xk, xo, xs, xt, xn, xla, xln, xlc⟩] from pnAt_of [⟨xk, xo, xs, xt, xn, xla, xln, xlc⟩] (t := 196) (Blk.new (W6.setCell ⟨b1, 5, none⟩ (.slice (some ⟨W6.heap.size, 0, none⟩) 1 1)) _ 196 (by simp)))
          have HV7 := Lib.hid ((HV6.out.set 5 (.slice (some ⟨W6.heap.size, 0, none⟩) 1 1)).keep ((Ext.refl (W6.setCell ⟨b1, 5, none⟩ (.slice (some ⟨W6.heap.size, 0, none⟩) 1 1))).alloc (.cells #[.int .i64 xk, .int .i64 xo, .string xs, .string xt, .int .i64 xn, .slice xla xln xlc] 196)))
          have HP7 := Lib.hid ((HP6.out.other (Ne.symm hb1p) hgb1 5 (.slice (some ⟨W6.heap.size, 0, none⟩) 1 1)).ext ((Ext.refl (W6.setCell ⟨b1, 5, none⟩ (.slice (some ⟨W6.heap.size, 0, none⟩) 1 1))).alloc (.cells #[.int .i64 xk, .int .i64 xo, .string xs, .string xt, .int .i64 xn, .slice xla xln xlc] 196)))
          have HR7 := Lib.hid ((HR6.out.other (a := ⟨b1, 5, none⟩) hwb1 (.slice (some ⟨W6.heap.size, 0, none⟩) 1 1)).keep ((Ext.refl (W6.setCell ⟨b1, 5, none⟩ (.slice (some ⟨W6.heap.size, 0, none⟩) 1 1))).alloc (.cells #[.int .i64 xk, .int .i64 xo, .string xs, .string xt, .int .i64 xn, .slice xla xln xlc] 196)))
          have HT7 := Lib.hid ((HT6.out.same (w' := (W6.setCell ⟨b1, 5, none⟩ (.slice (some ⟨W6.heap.size, 0, none⟩) 1 1))) (fun g h _ => heap_setCell_other W6 ⟨b1, 5, none⟩ g _ (by show g ≠ b1; omega)) (by simp)).later (p := p) (w' := ((W6.setCell ⟨b1, 5, none⟩ (.slice (some ⟨W6.heap.size, 0, none⟩) 1 1)).alloc (.cells #[.int .i64 xk, .int .i64 xo, .string xs, .string xt, .int .i64 xn, .slice xla xln xlc] 196))) (fun g h => by omega) (LeP.ofExt ((Ext.refl _).alloc _)))
          have HL7 := Lib.hid ((HL6.out.other hwl 5 (.slice (some ⟨W6.heap.size, 0, none⟩) 1 1)).trans (LeP.ofExt ((Ext.refl (W6.setCell ⟨b1, 5, none⟩ (.slice (some ⟨W6.heap.size, 0, none⟩) 1 1))).alloc (.cells #[.int .i64 xk, .int .i64 xo, .string xs, .string xt, .int .i64 xn, .slice xla xln xlc] 196))))
          clear HV6 HP6 HR6 HT6 HL6 cv fv hvl
          generalize ((W6.setCell ⟨b1, 5, none⟩ (.slice (some ⟨W6.heap.size, 0, none⟩) 1 1)).alloc (.cells #[.int .i64 xk, .int .i64 xo, .string xs, .string xt, .int .i64 xn, .slice xla xln xlc] 196)) = W7 at HN7 HV7 HP7 HR7 HT7 HL7 ⊢
          generalize W6.heap.size = b7 at HN7 HV7 HT7 hb6 hp6l hg6l ⊢
          have hb7p : b7 ≠ p := by omega
          refine Calls.mono (KW.out s3 ⟨#[41]⟩ W7 HP7.out) ?_
          rw [show bsl ⟨#[41]⟩ = [41] from rfl, HS.out]
          rintro e W8 ⟨rfl, hp8, hl8⟩
          have HN8 := Lib.hid (HN7.out.same (hl8.old _ HN7.out.1 hb7p) hl8.size)
          have HV8 := Lib.hid (hl8.blk HV7.out hb1p)
          have HP8 := Lib.hid hp8
          have HR8 := Lib.hid (hl8.blk HR7.out hwp)
          have HT8 := Lib.hid (HT7.out.later (p := p) (fun g h => by omega) hl8)
          have HL8 := Lib.hid (HL7.out.trans hl8)
          clear hp8 hl8 HN7 HV7 HP7 HR7 HT7 HL7
          obtain ⟨cv, fv⟩ := HV8.out.facts
          have hvl := HV8.out.lt
          obtain ⟨cr, fr⟩ := HR8.out.facts
          have hrl := HR8.out.lt
          go_simp
          repeat (first | go_values | go_skip | go_guarded | go_step | go_upon)
          refine bodyPost_ret (ret_ndP rfl _ rfl rfl (blk6P HR8.out _ _ _ _ _ _)) rfl ?_
          refine ⟨⟨_, 0, ⟨tt.toArray⟩, ⟨#[]⟩, 0, some ⟨b7, 0, none⟩, 1, 1⟩, rfl, ?_, HP8.out.other6 hpw hgw _ _ _ _ _ _, HL8.out.other6 (Nat.le_refl _) _ _ _ _ _ _⟩
          exact ((oneTr (fun g => w.heap.size < g ∧ g ≤ b7) _ 0 tt [] 0 b7 1 _ m W8 (Nat.le_refl _) ⟨by omega, Nat.le_refl _⟩ HN8.out (HT8.out.mono fun g h _ => ⟨by omega, by omega⟩)).set6 (b := w.heap.size) (fun g h => by omega) _ _ _ _ _ _).mono fun g h _ => Nat.le_of_lt h.1
      · rw [hst, if_pos rfl] at hf
        obtain ⟨rfl, hfs⟩ := Prod.mk.inj (Option.some.inj hf)
        rintro e W5 ⟨rfl, hp5, hl5⟩
        generalize advP true s2 = s3 at hp5 hfs
        have HS := Lib.hid hfs
        have HPq := Lib.hid hp5
        have HVq := Lib.hid (hl5.blk HV4.out hb1p)
        have HRq := Lib.hid (hl5.blk HR4.out hwp)
        have HLq := Lib.hid (HL4.out.trans hl5)
        clear hf hfs hp5 hl5 HP4 HV4 HR4 HL4 cv fv hvl
        go_simp
        repeat (first | go_values | go_skip | go_guarded | go_step | go_upon)
        refine Calls.mono (KW.out s3 ⟨#[41]⟩ W5 HPq.out) ?_
        rw [show bsl ⟨#[41]⟩ = [41] from rfl, HS.out]
        rintro e W7 ⟨rfl, hp7, hl7⟩
        have HV7 := Lib.hid (hl7.blk HVq.out hb1p)
        have HP7 := Lib.hid hp7
        have HR7 := Lib.hid (hl7.blk HRq.out hwp)
        have HL7 := Lib.hid (HLq.out.trans hl7)
        clear hp7 hl7 HPq HVq HRq HLq
        obtain ⟨cv, fv⟩ := HV7.out.facts
        have hvl := HV7.out.lt
        obtain ⟨cr, fr⟩ := HR7.out.facts
        have hrl := HR7.out.lt
        go_simp
        repeat (first | go_values | go_skip | go_guarded | go_step | go_upon)
        refine bodyPost_ret (ret_ndP rfl _ rfl rfl (blk6P HR7.out _ _ _ _ _ _)) rfl ?_
        exact ⟨⟨_, 0, ⟨tt.toArray⟩, ⟨#[]⟩, 0, none, 0, 0⟩, rfl, .leaf _ 0 tt [] 0, HP7.out.other6 hpw hgw _ _ _ _ _ _, HL7.out.other6 (Nat.le_refl _) _ _ _ _ _ _⟩
end Go.Proofs.YtchpbdodlbghaaaGreatDoor
