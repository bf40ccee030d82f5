import Derived.Test.YtcgbpmeadohbkaaGreatDoorRpG
namespace Go.Proofs.YtcgbpmeadohbkaaGreatDoor
open Go.RowKit Go.Lib
set_option maxRecDepth 100000
def LevPostR (p g cap long : Nat) (T : List Lx.Tok) (r : Tr) (s' : PSt) (w : World) (e : Ending) (w' : World) : Prop := ∃ x : PN, e = .returned x.v ∧ TrAt (w.heap.size ≤ ·) w' x r ∧ RsAt w' p g cap long T s' ∧ LeP p w w'
def LevOkR (p g cap long : Nat) (T : List Lx.Tok) (rec : RecR) : Prop :=
 ∀ (k : Nat) (kz : Int) (s : PSt) (r : Tr) (s' : PSt) (w : World), kz = (k : Int) → k ≤ 12 → rec k s = some (r, s') → RsAt w p g cap long T s → Calls Tryz.prog 53 #[.pointer (some ⟨p, 0, none⟩), .int .i64 kz] w (LevPostR p g cap long T r s' w)
theorem RsAt.other {w : World} {p g cap long : Nat} {T : List Lx.Tok} {s : PSt} (h : RsAt w p g cap long T s) {x : Nat} (hp : p ≠ x) (hg : g ≠ x) (o : Nat) (v : Value) : RsAt (w.setCell ⟨x, o, none⟩ v) p g cap long T s :=
 ⟨h.blk.other (a := ⟨x, o, none⟩) hp v, h.tok.ext (heap_setCell_other w ⟨x, o, none⟩ g v hg) (by simp), h.ne, h.le, h.cap, h.few, h.dp⟩
theorem RsAt.other6 {w : World} {p g cap long : Nat} {T : List Lx.Tok} {s : PSt} (h : RsAt w p g cap long T s) {x : Nat} (hp : p ≠ x) (hg : g ≠ x) (a b c d e f : Value) : RsAt ((((((w.setCell ⟨x, 0, none⟩ a).setCell ⟨x, 1, none⟩ b).setCell ⟨x, 2, none⟩ c).setCell ⟨x, 3, none⟩ d).setCell ⟨x, 4, none⟩ e).setCell ⟨x, 5, none⟩ f) p g cap long T s :=
 (((((h.other hp hg 0 a).other hp hg 1 b).other hp hg 2 c).other hp hg 3 d).other hp hg 4 e).other hp hg 5 f
theorem RsAt.cells {w : World} {p g cap long : Nat} {T : List Lx.Tok} {s : PSt} (h : RsAt w p g cap long T s) :
 (w.cell? ⟨p, 1, none⟩ = some (.int .i64 s.i) ∧ w.cell? ⟨p, 2, none⟩ = some (.int .i64 s.e) ∧ w.cell? ⟨p, 4, none⟩ = some (.int .i64 s.deep)) ∧ w.frozen? ⟨p, 1, none⟩ = false ∧ w.frozen? ⟨p, 4, none⟩ = false ∧ p < w.heap.size :=
 ⟨⟨h.blk.cell 1, h.blk.cell 2, h.blk.cell 4⟩, h.blk.free 1, h.blk.free 4, h.blk.lt⟩
theorem RsAt.at {w : World} {p g cap long : Nat} {T : List Lx.Tok} {s : PSt} (h : RsAt w p g cap long T s) (i : Nat) (hi : i ≤ T.length) : RsAt (w.setCell ⟨p, 1, none⟩ (.int .i64 i)) p g cap long T { s with i := i } :=
 h.set (LeP.set 1 _) (h.blk.set 1 _) hi h.dp
theorem RsAt.dec {w : World} {p g cap long : Nat} {T : List Lx.Tok} {s : PSt} (h : RsAt w p g cap long T s) (hd : 1 ≤ s.deep) : RsAt (w.setCell ⟨p, 4, none⟩ (.int .i64 ((s.deep : Int) - 1))) p g cap long T (decR s) := by
 rw [show (s.deep : Int) - 1 = ((s.deep - 1 : Nat) : Int) by omega]
 exact h.set (LeP.set 4 _) (h.blk.set 4 _) h.le (by show s.deep - 1 ≤ 24; have := h.dp; omega)
abbrev z6 : Array Value := #[.int .i64 0, .int .i64 0, .string ⟨#[]⟩, .string ⟨#[]⟩, .int .i64 0, .slice none 0 0]
structure Rst (w0 : World) (p g cap long : Nat) (T : List Lx.Tok) (s : PSt) (W : World) : Prop where
 rs : RsAt W p g cap long T s
 le : LeP p w0 W
 res : Blk W w0.heap.size z6 24
 hp : p < w0.heap.size
 hg : g < w0.heap.size
theorem Rst.start {w : World} {p g cap long : Nat} {T : List Lx.Tok} {s : PSt} (h : RsAt w p g cap long T s) : Rst w p g cap long T s (w.alloc (.cells z6 24)) :=
 have hx : Ext w (w.alloc (.cells z6 24)) := (Ext.refl w).alloc _
 ⟨h.ext hx, LeP.ofExt hx, Blk.new w _ _ rfl, h.blk.lt, h.tok.1⟩
theorem Rst.call {w0 W W' : World} {p g cap long : Nat} {T : List Lx.Tok} {s s' : PSt} (h : Rst w0 p g cap long T s W) (h1 : RsAt W' p g cap long T s') (h2 : LeP p W W') : Rst w0 p g cap long T s' W' :=
 ⟨h1, h.le.trans h2, h2.blk h.res (Nat.ne_of_gt h.hp), h.hp, h.hg⟩
theorem Rst.ext {w0 W W' : World} {p g cap long : Nat} {T : List Lx.Tok} {s : PSt} (h : Rst w0 p g cap long T s W) (hx : Ext W W') : Rst w0 p g cap long T s W' := h.call (h.rs.ext hx) (LeP.ofExt hx)
theorem Rst.at {w0 W : World} {p g cap long : Nat} {T : List Lx.Tok} {s : PSt} (h : Rst w0 p g cap long T s W) (i : Nat) (hi : i ≤ T.length) : Rst w0 p g cap long T { s with i := i } (W.setCell ⟨p, 1, none⟩ (.int .i64 i)) := h.call (h.rs.at i hi) (LeP.set 1 _)
theorem Rst.dec {w0 W : World} {p g cap long : Nat} {T : List Lx.Tok} {s : PSt} (h : Rst w0 p g cap long T s W) (hd : 1 ≤ s.deep) : Rst w0 p g cap long T (decR s) (W.setCell ⟨p, 4, none⟩ (.int .i64 ((s.deep : Int) - 1))) := h.call (h.rs.dec hd) (LeP.set 4 _)
theorem Rst.store {w0 W : World} {p g cap long : Nat} {T : List Lx.Tok} {s : PSt} (h : Rst w0 p g cap long T s W) {b : Nat} (hb : w0.heap.size < b) (o : Nat) (v : Value) : Rst w0 p g cap long T s (W.setCell ⟨b, o, none⟩ v) :=
 ⟨h.rs.other (by have := h.hp; omega) (by have := h.hg; omega) o v, h.le.other (Nat.le_of_lt hb) o v, h.res.other (a := ⟨b, o, none⟩) (by show w0.heap.size ≠ b; omega) v, h.hp, h.hg⟩
theorem Rst.done {w0 W : World} {p g cap long : Nat} {T : List Lx.Tok} {s : PSt} (h : Rst w0 p g cap long T s W) (x : PN) (r : Tr) (hT : TrAt (w0.heap.size < ·) W x r) (a b c d e f : Value) : LevPostR p g cap long T r s w0 (.returned x.v) ((((((W.setCell ⟨w0.heap.size, 0, none⟩ a).setCell ⟨w0.heap.size, 1, none⟩ b).setCell ⟨w0.heap.size, 2, none⟩ c).setCell ⟨w0.heap.size, 3, none⟩ d).setCell ⟨w0.heap.size, 4, none⟩ e).setCell ⟨w0.heap.size, 5, none⟩ f) :=
 ⟨x, rfl, (hT.set6 (b := w0.heap.size) (fun g h => by omega) _ _ _ _ _ _).mono fun g h _ => Nat.le_of_lt h, h.rs.other6 (by have := h.hp; omega) (by have := h.hg; omega) _ _ _ _ _ _, h.le.other6 (Nat.le_refl _) _ _ _ _ _ _⟩
set_option maxHeartbeats 8000000 in
theorem rnamed_any (p g cap long : Nat) (T : List Lx.Tok) (rec : RecR) (hrec : LevOkR p g cap long T rec) (hdp : DeepOk rec) (s : PSt) (hn : nameB T s = true) (r : Tr) (s' : PSt) (w : World) (hf : namedR rec T long s = some (r, s')) (h : RsAt w p g cap long T s) :
 Calls Tryz.prog 146 #[.pointer (some ⟨p, 0, none⟩)] w (LevPostR p g cap long T r s' w) := by
 have HS0 := Lib.hid (Rst.start h)
 have KN := Lib.hid (fun (s : PSt) W (hW : RsAt W p g cap long T s) => rname_any p g cap long T s W hW)
 have KT := Lib.hid (fun (s : PSt) (x : ByteArray) W (hW : RsAt W p g cap long T s) => rtake_any p g cap long T s x W hW)
 have KI := Lib.hid (fun (s : PSt) (x : ByteArray) W (hW : RsAt W p g cap long T s) => ris_any p g cap long T s x W hW)
 have KW := Lib.hid (fun (s : PSt) (x : ByteArray) W (hW : RsAt W p g cap long T s) => rwant_any p g cap long T s x W hW)
 have KD := Lib.hid (fun (s : PSt) W (hW : RsAt W p g cap long T s) => rin_any p g cap long T s W hW)
 have HRec := Lib.hid hrec
 have HDp := Lib.hid hdp
 have HFf := Lib.hid hf
 have hs1 : nameS T long s = advR s := by unfold nameS; rw [if_pos hn]; rfl
 clear h hrec hdp hf hn
 go_enter Tryz.func146, Tryz.ntmps146
 go_simp
 repeat (first | go_values | go_skip | go_guarded | go_step | go_upon)
 refine Calls.mono (KN.out s _ HS0.out.rs) ?_
 rintro e W1 ⟨rfl, hp1, hl1⟩
 have HS1 := Lib.hid (HS0.out.call hp1 hl1)
 clear hp1 hl1 HS0
 unfold namedR at HFf
 generalize nameT T s = x at HFf ⊢
 rw [hs1] at HS1 HFf
 go_simp
 repeat (first | go_values | go_skip | go_guarded | go_step | go_upon)
 refine Calls.mono (KT.out (advR s) ⟨#[46]⟩ W1 HS1.out.rs) ?_
 rw [show bsl ⟨#[46]⟩ = [46] from rfl]
 simp only at HFf
 cases hdot : takeB T (advR s) [46]
 ·rw [hdot, if_neg (by decide)] at HFf
  rintro e W2 ⟨rfl, hp2, hl2⟩
  have HS2 := Lib.hid (HS1.out.call (show RsAt W2 p g cap long T (advR s) from hp2) hl2)
  clear hp2 hl2 HS1
  go_simp
  repeat (first | go_values | go_skip | go_guarded | go_step | go_upon)
  refine Calls.mono (KI.out (advR s) ⟨#[40]⟩ W2 HS2.out.rs) ?_
  rw [show bsl ⟨#[40]⟩ = [40] from rfl]
  cases hpar : isR T (advR s) [40]
  ·rw [hpar, if_neg (by decide)] at HFf
   obtain ⟨rfl, hfs⟩ := Prod.mk.inj (Option.some.inj HFf.out)
   subst hfs
   rintro e W3 ⟨rfl, hx3⟩
   have HS := Lib.hid (HS2.out.ext hx3)
   clear hx3 HS2 HFf
   have hrb := HS.out.res
   have HRr := Lib.hid hrb
   obtain ⟨cr, fr⟩ := hrb.facts
   have hrl := hrb.lt
   clear hrb
   go_simp
   repeat (first | go_values | go_skip | go_guarded | go_step | go_upon)
   refine bodyPost_ret (ret_ndP rfl _ rfl rfl (blk6P HRr.out _ _ _ _ _ _)) rfl ?_
   exact HS.out.done ⟨4, 0, ⟨x.toArray⟩, ⟨#[]⟩, 0, none, 0, 0⟩ _ (.leaf 4 0 x [] 0) _ _ _ _ _ _
  ·rw [hpar, if_pos rfl] at HFf
   rintro e W3 ⟨rfl, hx3⟩
   have HS3 := Lib.hid (HS2.out.ext hx3)
   clear hx3 HS2
   obtain ⟨⟨c1, c2, c4⟩, f1, f4, hpl⟩ := HS3.out.rs.cells
   have hil := HS3.out.rs.le
   have hfew := HS3.out.rs.few
   have hdl := HS3.out.rs.dp
   obtain ⟨i, deep, at_, er⟩ := s
   simp only [advR] at c1 c2 c4 hil hdl HFf
   have hdif := IntWalk.i64_in ((i : Int) + 1 - 1) (by omega)
   rw [show (i : Int) + 1 - 1 = (i : Int) by omega] at hdif
   go_simp
   repeat (first | go_values | go_skip | go_guarded | go_step | go_upon)
   simp only [Nat.add_sub_cancel] at HFf
   have HS4 := Lib.hid (show Rst w p g cap long T ⟨i, deep, at_, er⟩ (W3.setCell ⟨p, 1, none⟩ (.int .i64 i)) from HS3.out.at i (by omega))
   have hlt2 := isR_lt hpar
   simp only [advR] at hlt2
   clear c1 c2 c4 f1 f4 hpl HS3 hdif
   generalize W3.setCell ⟨p, 1, none⟩ (.int .i64 i) = W4 at HS4 ⊢
   refine Calls.mono (KD.out _ W4 HS4.out.rs) ?_
   cases hin : inB ⟨i, deep, at_, er⟩
   ·rw [hin, if_neg (by decide)] at HFf
    obtain ⟨rfl, hfs⟩ := Prod.mk.inj (Option.some.inj HFf.out)
    have HFs := Lib.hid hfs
    clear hfs HFf
    rintro e W5 ⟨rfl, hp5, hl5⟩
    rw [HFs.out] at hp5
    have HS := Lib.hid (HS4.out.call hp5 hl5)
    clear hp5 hl5 HS4
    have hrb := HS.out.res
    have HRr := Lib.hid hrb
    obtain ⟨cr, fr⟩ := hrb.facts
    have hrl := hrb.lt
    clear hrb
    go_simp
    repeat (first | go_values | go_skip | go_guarded | go_step | go_upon)
    refine bodyPost_ret (ret_ndP rfl _ rfl rfl (blk6P HRr.out _ _ _ _ _ _)) rfl ?_
    exact HS.out.done ⟨0, 0, ⟨#[]⟩, ⟨#[]⟩, 0, none, 0, 0⟩ _ (.leaf 0 0 [] [] 0) _ _ _ _ _ _
   ·rw [hin, if_pos rfl] at HFf
    have hins : inS T long ⟨i, deep, at_, er⟩ = ⟨i, deep + 1, at_, er⟩ := by unfold inS; rw [hin]; rfl
    rw [hins] at HFf ⊢
    simp only at HFf
    rintro e W5 ⟨rfl, hp5, hl5⟩
    have HS5 := Lib.hid (HS4.out.call hp5 hl5)
    clear hp5 hl5 HS4
    obtain ⟨⟨c1, c2, c4⟩, f1, f4, hpl⟩ := HS5.out.rs.cells
    simp only at c1 c2 c4
    have hsum := IntWalk.i64_in ((i : Int) + 2) (by omega)
    have hx : (x == [99, 111, 117, 110, 116]) = true ∨ ((x == [99, 111, 117, 110, 116]) = false ∧ (x == [115, 117, 109]) = true) ∨ ((x == [99, 111, 117, 110, 116]) = false ∧ (x == [115, 117, 109]) = false ∧ (x == [109, 105, 110]) = true) ∨ ((x == [99, 111, 117, 110, 116]) = false ∧ (x == [115, 117, 109]) = false ∧ (x == [109, 105, 110]) = false ∧ (x == [109, 97, 120]) = true) ∨ ((x == [99, 111, 117, 110, 116]) = false ∧ (x == [115, 117, 109]) = false ∧ (x == [109, 105, 110]) = false ∧ (x == [109, 97, 120]) = false) := by
     cases x == [99, 111, 117, 110, 116] <;> cases x == [115, 117, 109] <;> cases x == [109, 105, 110] <;> cases x == [109, 97, 120] <;> simp
    have hb1 : w.heap.size < W5.heap.size := HS5.out.res.lt
    rcases hx with h1 | ⟨h1, h2⟩ | ⟨h1, h2, h3⟩ | ⟨h1, h2, h3, h4⟩ | ⟨h1, h2, h3, h4⟩
    ·have h1' : (x != [99, 111, 117, 110, 116]) = false := by simp only [bne, h1]; rfl
     have hk : callK x = 14 := by unfold callK aggB; rw [h1]; rfl
     rw [h1, Bool.true_and, hk] at HFf
     go_simp
     repeat (first | go_values | go_skip | go_guarded | go_step | go_upon)
     have HS6 := Lib.hid (show Rst w p g cap long T ⟨i + 2, deep + 1, at_, er⟩ ((W5.setCell ⟨p, 1, none⟩ (.int .i64 ((i : Int) + 2))).alloc (.cells #[.int .i64 14, .int .i64 0, .string ⟨x.toArray⟩, .string ⟨#[]⟩, .int .i64 0, .slice none 0 0] 24)) from (HS5.out.at (i + 2) (by omega)).ext ((Ext.refl _).alloc _))
     have HV6 := Lib.hid (show Blk ((W5.setCell ⟨p, 1, none⟩ (.int .i64 ((i : Int) + 2))).alloc (.cells #[.int .i64 14, .int .i64 0, .string ⟨x.toArray⟩, .string ⟨#[]⟩, .int .i64 0, .slice none 0 0] 24)) W5.heap.size #[.int .i64 14, .int .i64 0, .string ⟨x.toArray⟩, .string ⟨#[]⟩, .int .i64 0, .slice none 0 0] 24 from Blk.new _ _ _ (by simp))
     clear c1 c2 c4 f1 f4 hpl HS5 hsum
     generalize ((W5.setCell ⟨p, 1, none⟩ (.int .i64 ((i : Int) + 2))).alloc (.cells #[.int .i64 14, .int .i64 0, .string ⟨x.toArray⟩, .string ⟨#[]⟩, .int .i64 0, .slice none 0 0] 24)) = W6 at HS6 HV6 ⊢
     generalize W5.heap.size = b1 at HV6 hb1 ⊢
     refine Calls.mono (KT.out ⟨i + 2, deep + 1, at_, er⟩ ⟨#[42]⟩ W6 HS6.out.rs) ?_
     rw [show bsl ⟨#[42]⟩ = [42] from rfl]
     cases hst : takeB T ⟨i + 2, deep + 1, at_, er⟩ [42]
     ·rw [hst, if_neg (by decide)] at HFf
      rintro e W6b ⟨rfl, hp6, hl6⟩
      have HS6b := Lib.hid (HS6.out.call (show RsAt W6b p g cap long T ⟨i + 2, deep + 1, at_, er⟩ from hp6) hl6)
      have HV6b := Lib.hid (hl6.blk HV6.out (by have := HS6.out.hp; omega))
      clear hp6 hl6 HS6 HV6
      go_simp
      repeat (first | go_values | go_skip | go_guarded | go_step | go_upon)
      have HS6 := HS6b
      have HV6 := HV6b
      clear HS6b HV6b
      obtain ⟨m, hm, hq⟩ := Option.map_eq_some_iff.1 HFf.out
      obtain ⟨rfl, hfs⟩ := Prod.mk.inj hq
      have HFs := Lib.hid hfs
      have hd1 := HDp.out _ _ m.1 m.2 hm
      have KL := Lib.hid (HRec.out 1 1 ⟨i + 2, deep + 1, at_, er⟩ m.1 m.2 _ rfl (by decide) hm HS6.out.rs)
      have hb2 := HV6.out.lt
      simp only at hd1
      clear hm hq hfs HFf
      refine Calls.mono KL.out ?_
      rintro e W7 ⟨y, rfl, ht7, hp7, hl7⟩
      have HS7 := Lib.hid (HS6.out.call hp7 hl7)
      have HV7 := Lib.hid (hl7.blk HV6.out (by have := HS6.out.hp; omega))
      have hs7 := hl7.size
      have HT7 := Lib.hid (ht7.mono (B := fun g => b1 < g ∧ g < W7.heap.size) fun g h1 h2 => ⟨by omega, h2⟩)
      clear ht7 hp7 hl7 KL HS6 HV6
      obtain ⟨cv, fv⟩ := HV7.out.facts
      have hvl := HV7.out.lt
      obtain ⟨xk, xo, xs, xt, xn, xla, xln, xlc⟩ := y
      simp only [PN.v]
      go_simp
      repeat (first | go_values | go_skip | go_guarded | go_step | go_upon)
      have HN8 := Lib.hid (show PnAt ((W7.setCell ⟨b1, 5, none⟩ (.slice (some ⟨W7.heap.size, 0, none⟩) 1 1)).alloc (.cells #[.int .i64 xk, .int .i64 xo, .string xs, .string xt, .int .i64 xn, .slice xla xln xlc] 24)) W7.heap.size [⟨xk, xo, xs, xt, xn, xla, xln, xlc⟩] from pnAt_of [⟨xk, xo, xs, xt, xn, xla, xln, xlc⟩] (t := 24) (Blk.new (W7.setCell ⟨b1, 5, none⟩ (.slice (some ⟨W7.heap.size, 0, none⟩) 1 1)) _ 24 (by simp)))
      have HV8 := Lib.hid (show Blk ((W7.setCell ⟨b1, 5, none⟩ (.slice (some ⟨W7.heap.size, 0, none⟩) 1 1)).alloc (.cells #[.int .i64 xk, .int .i64 xo, .string xs, .string xt, .int .i64 xn, .slice xla xln xlc] 24)) b1 #[.int .i64 14, .int .i64 0, .string ⟨x.toArray⟩, .string ⟨#[]⟩, .int .i64 0, .slice (some ⟨W7.heap.size, 0, none⟩) 1 1] 24 from (HV7.out.set 5 (.slice (some ⟨W7.heap.size, 0, none⟩) 1 1)).keep ((Ext.refl (W7.setCell ⟨b1, 5, none⟩ (.slice (some ⟨W7.heap.size, 0, none⟩) 1 1))).alloc (.cells #[.int .i64 xk, .int .i64 xo, .string xs, .string xt, .int .i64 xn, .slice xla xln xlc] 24)))
      have HS8 := Lib.hid (show Rst w p g cap long T m.2 ((W7.setCell ⟨b1, 5, none⟩ (.slice (some ⟨W7.heap.size, 0, none⟩) 1 1)).alloc (.cells #[.int .i64 xk, .int .i64 xo, .string xs, .string xt, .int .i64 xn, .slice xla xln xlc] 24)) from (HS7.out.store hb1 5 (.slice (some ⟨W7.heap.size, 0, none⟩) 1 1)).ext ((Ext.refl (W7.setCell ⟨b1, 5, none⟩ (.slice (some ⟨W7.heap.size, 0, none⟩) 1 1))).alloc (.cells #[.int .i64 xk, .int .i64 xo, .string xs, .string xt, .int .i64 xn, .slice xla xln xlc] 24)))
      have HT8 := Lib.hid ((HT7.out.same (w' := (W7.setCell ⟨b1, 5, none⟩ (.slice (some ⟨W7.heap.size, 0, none⟩) 1 1))) (fun g h _ => heap_setCell_other W7 ⟨b1, 5, none⟩ g _ (by show g ≠ b1; omega)) (by simp)).later (p := p) (w' := ((W7.setCell ⟨b1, 5, none⟩ (.slice (some ⟨W7.heap.size, 0, none⟩) 1 1)).alloc (.cells #[.int .i64 xk, .int .i64 xo, .string xs, .string xt, .int .i64 xn, .slice xla xln xlc] 24))) (fun g h => by have := HS7.out.hp; omega) (LeP.ofExt ((Ext.refl _).alloc _)))
      clear HV7 HS7 HT7 cv fv
      generalize ((W7.setCell ⟨b1, 5, none⟩ (.slice (some ⟨W7.heap.size, 0, none⟩) 1 1)).alloc (.cells #[.int .i64 xk, .int .i64 xo, .string xs, .string xt, .int .i64 xn, .slice xla xln xlc] 24)) = W8 at HN8 HV8 HS8 HT8 ⊢
      generalize W7.heap.size = b7 at HN8 HV8 HT8 hs7 hvl ⊢
      refine Calls.mono (KW.out m.2 ⟨#[41]⟩ W8 HS8.out.rs) ?_
      rw [show bsl ⟨#[41]⟩ = [41] from rfl]
      rintro e W9 ⟨rfl, hp9, hl9⟩
      have HS9 := Lib.hid (HS8.out.call hp9 hl9)
      have HV9 := Lib.hid (hl9.blk HV8.out (by have := HS8.out.hp; omega))
      have HN9 := Lib.hid (HN8.out.same (hl9.old _ HN8.out.1 (by have := HS8.out.hp; omega)) hl9.size)
      have HT9 := Lib.hid (HT8.out.later (p := p) (fun g h => by have := HS8.out.hp; omega) hl9)
      have hd9 : (wantR T long m.2 [41]).deep = deep + 1 := (deep_want ..).trans hd1
      clear hp9 hl9 HS8 HV8 HN8 HT8
      generalize wantR T long m.2 [41] = s9 at HS9 hd9 HFs
      obtain ⟨⟨_, _, k4⟩, _, q4, hpl9⟩ := HS9.out.rs.cells
      obtain ⟨D, hD⟩ : ∃ D : Int, D = (s9.deep : Int) := ⟨_, rfl⟩
      rw [← hD] at k4
      have hsub := IntWalk.i64_in (D - 1) (by omega)
      have hbp : b1 ≠ p := by have := HS9.out.hp; omega
      have HS := Lib.hid (show Rst w p g cap long T s' (W9.setCell ⟨p, 4, none⟩ (.int .i64 (D - 1))) from by rw [hD, ← HFs.out]; exact HS9.out.dec (by omega))
      have HVd := Lib.hid (HV9.out.other (a := ⟨p, 4, none⟩) hbp (.int .i64 (D - 1)))
      have hD' := Lib.hid hD
      clear hD
      obtain ⟨cv, fv⟩ := HV9.out.facts
      have hvl9 := HV9.out.lt
      have hrb := HS.out.res
      have HRr := Lib.hid hrb
      have hrb9 := HS9.out.res
      obtain ⟨cr, fr⟩ := hrb9.facts
      have hrl := hrb9.lt
      have hpr : p ≠ w.heap.size := by have := HS9.out.hp; omega
      clear hrb hrb9
      go_simp
      repeat (first | go_values | go_skip | go_guarded | go_step | go_upon)
      refine bodyPost_ret (ret_ndP rfl _ rfl rfl (blk6P HRr.out _ _ _ _ _ _)) rfl ?_
      have HSo := HS.out
      have hpw := HSo.hp
      exact HSo.done ⟨14, 0, ⟨x.toArray⟩, ⟨#[]⟩, 0, some ⟨b7, 0, none⟩, 1, 1⟩ _ (oneTr (w.heap.size < ·) 14 0 x [] 0 b7 1 _ m.1 _ (Nat.le_refl _) (by show w.heap.size < b7; omega) (HN9.out.same (heap_setCell_other W9 ⟨p, 4, none⟩ b7 _ (by show b7 ≠ p; omega)) (by simp)) ((HT9.out.same (fun g h _ => heap_setCell_other W9 ⟨p, 4, none⟩ g _ (by show g ≠ p; omega)) (by simp)).mono fun g h _ => by show w.heap.size < g; omega)) _ _ _ _ _ _
     ·rw [hst, if_pos rfl] at HFf
      obtain ⟨rfl, hfs⟩ := Prod.mk.inj (Option.some.inj HFf.out)
      have HFs := Lib.hid hfs
      clear hfs HFf
      rintro e W6b ⟨rfl, hp6, hl6⟩
      have HS8 := Lib.hid (HS6.out.call (show RsAt W6b p g cap long T ⟨i + 2 + 1, deep + 1, at_, er⟩ from hp6) hl6)
      have HV8 := Lib.hid (hl6.blk HV6.out (by have := HS6.out.hp; omega))
      clear hp6 hl6 HS6 HV6
      go_simp
      repeat (first | go_values | go_skip | go_guarded | go_step | go_upon)
      refine Calls.mono (KW.out ⟨i + 2 + 1, deep + 1, at_, er⟩ ⟨#[41]⟩ W6b HS8.out.rs) ?_
      rw [show bsl ⟨#[41]⟩ = [41] from rfl]
      rintro e W9 ⟨rfl, hp9, hl9⟩
      have HS9 := Lib.hid (HS8.out.call hp9 hl9)
      have HV9 := Lib.hid (hl9.blk HV8.out (by have := HS8.out.hp; omega))
      have hd9 : (wantR T long ⟨i + 2 + 1, deep + 1, at_, er⟩ [41]).deep = deep + 1 := deep_want ..
      clear hp9 hl9 HS8 HV8
      have HFs := Lib.hid (show decR (wantR T long ⟨i + 2 + 1, deep + 1, at_, er⟩ [41]) = s' from HFs.out)
      generalize wantR T long ⟨i + 2 + 1, deep + 1, at_, er⟩ [41] = s9 at HS9 hd9 HFs
      obtain ⟨⟨_, _, k4⟩, _, q4, hpl9⟩ := HS9.out.rs.cells
      obtain ⟨D, hD⟩ : ∃ D : Int, D = (s9.deep : Int) := ⟨_, rfl⟩
      rw [← hD] at k4
      have hsub := IntWalk.i64_in (D - 1) (by omega)
      have hbp : b1 ≠ p := by have := HS9.out.hp; omega
      have HS := Lib.hid (show Rst w p g cap long T s' (W9.setCell ⟨p, 4, none⟩ (.int .i64 (D - 1))) from by rw [hD, ← HFs.out]; exact HS9.out.dec (by omega))
      have HVd := Lib.hid (HV9.out.other (a := ⟨p, 4, none⟩) hbp (.int .i64 (D - 1)))
      have hD' := Lib.hid hD
      clear hD
      obtain ⟨cv, fv⟩ := HV9.out.facts
      have hvl9 := HV9.out.lt
      have hrb := HS.out.res
      have HRr := Lib.hid hrb
      have hrb9 := HS9.out.res
      obtain ⟨cr, fr⟩ := hrb9.facts
      have hrl := hrb9.lt
      have hpr : p ≠ w.heap.size := by have := HS9.out.hp; omega
      clear hrb hrb9
      go_simp
      repeat (first | go_values | go_skip | go_guarded | go_step | go_upon)
      refine bodyPost_ret (ret_ndP rfl _ rfl rfl (blk6P HRr.out _ _ _ _ _ _)) rfl ?_
      exact HS.out.done ⟨14, 0, ⟨x.toArray⟩, ⟨#[]⟩, 0, none, 0, 0⟩ _ (.leaf 14 0 x [] 0) _ _ _ _ _ _
    ·have h1' : (x != [99, 111, 117, 110, 116]) = true := by simp only [bne, h1]; rfl
     have hk : callK x = 14 := by unfold callK aggB; rw [h1, h2]; rfl
     rw [h1, Bool.false_and, if_neg (by decide), hk] at HFf
     go_simp
     repeat (first | go_values | go_skip | go_guarded | go_step | go_upon)
     have HS6 := Lib.hid (show Rst w p g cap long T ⟨i + 2, deep + 1, at_, er⟩ ((W5.setCell ⟨p, 1, none⟩ (.int .i64 ((i : Int) + 2))).alloc (.cells #[.int .i64 14, .int .i64 0, .string ⟨x.toArray⟩, .string ⟨#[]⟩, .int .i64 0, .slice none 0 0] 24)) from (HS5.out.at (i + 2) (by omega)).ext ((Ext.refl _).alloc _))
     have HV6 := Lib.hid (show Blk ((W5.setCell ⟨p, 1, none⟩ (.int .i64 ((i : Int) + 2))).alloc (.cells #[.int .i64 14, .int .i64 0, .string ⟨x.toArray⟩, .string ⟨#[]⟩, .int .i64 0, .slice none 0 0] 24)) W5.heap.size #[.int .i64 14, .int .i64 0, .string ⟨x.toArray⟩, .string ⟨#[]⟩, .int .i64 0, .slice none 0 0] 24 from Blk.new _ _ _ (by simp))
     clear c1 c2 c4 f1 f4 hpl HS5 hsum
     generalize ((W5.setCell ⟨p, 1, none⟩ (.int .i64 ((i : Int) + 2))).alloc (.cells #[.int .i64 14, .int .i64 0, .string ⟨x.toArray⟩, .string ⟨#[]⟩, .int .i64 0, .slice none 0 0] 24)) = W6 at HS6 HV6 ⊢
     generalize W5.heap.size = b1 at HV6 hb1 ⊢
     obtain ⟨m, hm, hq⟩ := Option.map_eq_some_iff.1 HFf.out
     obtain ⟨rfl, hfs⟩ := Prod.mk.inj hq
     have HFs := Lib.hid hfs
     have hd1 := HDp.out _ _ m.1 m.2 hm
     have KL := Lib.hid (HRec.out 1 1 ⟨i + 2, deep + 1, at_, er⟩ m.1 m.2 _ rfl (by decide) hm HS6.out.rs)
     have hb2 := HV6.out.lt
     simp only at hd1
     clear hm hq hfs HFf
     refine Calls.mono KL.out ?_
     rintro e W7 ⟨y, rfl, ht7, hp7, hl7⟩
     have HS7 := Lib.hid (HS6.out.call hp7 hl7)
     have HV7 := Lib.hid (hl7.blk HV6.out (by have := HS6.out.hp; omega))
     have hs7 := hl7.size
     have HT7 := Lib.hid (ht7.mono (B := fun g => b1 < g ∧ g < W7.heap.size) fun g h1 h2 => ⟨by omega, h2⟩)
     clear ht7 hp7 hl7 KL HS6 HV6
     obtain ⟨cv, fv⟩ := HV7.out.facts
     have hvl := HV7.out.lt
     obtain ⟨xk, xo, xs, xt, xn, xla, xln, xlc⟩ := y
     simp only [PN.v]
     go_simp
     repeat (first | go_values | go_skip | go_guarded | go_step | go_upon)
     have HN8 := Lib.hid (show PnAt ((W7.setCell ⟨b1, 5, none⟩ (.slice (some ⟨W7.heap.size, 0, none⟩) 1 1)).alloc (.cells #[.int .i64 xk, .int .i64 xo, .string xs, .string xt, .int .i64 xn, .slice xla xln xlc] 24)) W7.heap.size [⟨xk, xo, xs, xt, xn, xla, xln, xlc⟩] from pnAt_of [⟨xk, xo, xs, xt, xn, xla, xln, xlc⟩] (t := 24) (Blk.new (W7.setCell ⟨b1, 5, none⟩ (.slice (some ⟨W7.heap.size, 0, none⟩) 1 1)) _ 24 (by simp)))
     have HV8 := Lib.hid (show Blk ((W7.setCell ⟨b1, 5, none⟩ (.slice (some ⟨W7.heap.size, 0, none⟩) 1 1)).alloc (.cells #[.int .i64 xk, .int .i64 xo, .string xs, .string xt, .int .i64 xn, .slice xla xln xlc] 24)) b1 #[.int .i64 14, .int .i64 0, .string ⟨x.toArray⟩, .string ⟨#[]⟩, .int .i64 0, .slice (some ⟨W7.heap.size, 0, none⟩) 1 1] 24 from (HV7.out.set 5 (.slice (some ⟨W7.heap.size, 0, none⟩) 1 1)).keep ((Ext.refl (W7.setCell ⟨b1, 5, none⟩ (.slice (some ⟨W7.heap.size, 0, none⟩) 1 1))).alloc (.cells #[.int .i64 xk, .int .i64 xo, .string xs, .string xt, .int .i64 xn, .slice xla xln xlc] 24)))
     have HS8 := Lib.hid (show Rst w p g cap long T m.2 ((W7.setCell ⟨b1, 5, none⟩ (.slice (some ⟨W7.heap.size, 0, none⟩) 1 1)).alloc (.cells #[.int .i64 xk, .int .i64 xo, .string xs, .string xt, .int .i64 xn, .slice xla xln xlc] 24)) from (HS7.out.store hb1 5 (.slice (some ⟨W7.heap.size, 0, none⟩) 1 1)).ext ((Ext.refl (W7.setCell ⟨b1, 5, none⟩ (.slice (some ⟨W7.heap.size, 0, none⟩) 1 1))).alloc (.cells #[.int .i64 xk, .int .i64 xo, .string xs, .string xt, .int .i64 xn, .slice xla xln xlc] 24)))
     have HT8 := Lib.hid ((HT7.out.same (w' := (W7.setCell ⟨b1, 5, none⟩ (.slice (some ⟨W7.heap.size, 0, none⟩) 1 1))) (fun g h _ => heap_setCell_other W7 ⟨b1, 5, none⟩ g _ (by show g ≠ b1; omega)) (by simp)).later (p := p) (w' := ((W7.setCell ⟨b1, 5, none⟩ (.slice (some ⟨W7.heap.size, 0, none⟩) 1 1)).alloc (.cells #[.int .i64 xk, .int .i64 xo, .string xs, .string xt, .int .i64 xn, .slice xla xln xlc] 24))) (fun g h => by have := HS7.out.hp; omega) (LeP.ofExt ((Ext.refl _).alloc _)))
     clear HV7 HS7 HT7 cv fv
     generalize ((W7.setCell ⟨b1, 5, none⟩ (.slice (some ⟨W7.heap.size, 0, none⟩) 1 1)).alloc (.cells #[.int .i64 xk, .int .i64 xo, .string xs, .string xt, .int .i64 xn, .slice xla xln xlc] 24)) = W8 at HN8 HV8 HS8 HT8 ⊢
     generalize W7.heap.size = b7 at HN8 HV8 HT8 hs7 hvl ⊢
     refine Calls.mono (KW.out m.2 ⟨#[41]⟩ W8 HS8.out.rs) ?_
     rw [show bsl ⟨#[41]⟩ = [41] from rfl]
     rintro e W9 ⟨rfl, hp9, hl9⟩
     have HS9 := Lib.hid (HS8.out.call hp9 hl9)
     have HV9 := Lib.hid (hl9.blk HV8.out (by have := HS8.out.hp; omega))
     have HN9 := Lib.hid (HN8.out.same (hl9.old _ HN8.out.1 (by have := HS8.out.hp; omega)) hl9.size)
     have HT9 := Lib.hid (HT8.out.later (p := p) (fun g h => by have := HS8.out.hp; omega) hl9)
     have hd9 : (wantR T long m.2 [41]).deep = deep + 1 := (deep_want ..).trans hd1
     clear hp9 hl9 HS8 HV8 HN8 HT8
     generalize wantR T long m.2 [41] = s9 at HS9 hd9 HFs
     obtain ⟨⟨_, _, k4⟩, _, q4, hpl9⟩ := HS9.out.rs.cells
     obtain ⟨D, hD⟩ : ∃ D : Int, D = (s9.deep : Int) := ⟨_, rfl⟩
     rw [← hD] at k4
     have hsub := IntWalk.i64_in (D - 1) (by omega)
     have hbp : b1 ≠ p := by have := HS9.out.hp; omega
     have HS := Lib.hid (show Rst w p g cap long T s' (W9.setCell ⟨p, 4, none⟩ (.int .i64 (D - 1))) from by rw [hD, ← HFs.out]; exact HS9.out.dec (by omega))
     have HVd := Lib.hid (HV9.out.other (a := ⟨p, 4, none⟩) hbp (.int .i64 (D - 1)))
     have hD' := Lib.hid hD
     clear hD
     obtain ⟨cv, fv⟩ := HV9.out.facts
     have hvl9 := HV9.out.lt
     have hrb := HS.out.res
     have HRr := Lib.hid hrb
     have hrb9 := HS9.out.res
     obtain ⟨cr, fr⟩ := hrb9.facts
     have hrl := hrb9.lt
     have hpr : p ≠ w.heap.size := by have := HS9.out.hp; omega
     clear hrb hrb9
     go_simp
     repeat (first | go_values | go_skip | go_guarded | go_step | go_upon)
     refine bodyPost_ret (ret_ndP rfl _ rfl rfl (blk6P HRr.out _ _ _ _ _ _)) rfl ?_
     have HSo := HS.out
     have hpw := HSo.hp
     exact HSo.done ⟨14, 0, ⟨x.toArray⟩, ⟨#[]⟩, 0, some ⟨b7, 0, none⟩, 1, 1⟩ _ (oneTr (w.heap.size < ·) 14 0 x [] 0 b7 1 _ m.1 _ (Nat.le_refl _) (by show w.heap.size < b7; omega) (HN9.out.same (heap_setCell_other W9 ⟨p, 4, none⟩ b7 _ (by show b7 ≠ p; omega)) (by simp)) ((HT9.out.same (fun g h _ => heap_setCell_other W9 ⟨p, 4, none⟩ g _ (by show g ≠ p; omega)) (by simp)).mono fun g h _ => by show w.heap.size < g; omega)) _ _ _ _ _ _
    ·have h1' : (x != [99, 111, 117, 110, 116]) = true := by simp only [bne, h1]; rfl
     have hk : callK x = 14 := by unfold callK aggB; rw [h1, h2, h3]; rfl
     rw [h1, Bool.false_and, if_neg (by decide), hk] at HFf
     go_simp
     repeat (first | go_values | go_skip | go_guarded | go_step | go_upon)
     have HS6 := Lib.hid (show Rst w p g cap long T ⟨i + 2, deep + 1, at_, er⟩ ((W5.setCell ⟨p, 1, none⟩ (.int .i64 ((i : Int) + 2))).alloc (.cells #[.int .i64 14, .int .i64 0, .string ⟨x.toArray⟩, .string ⟨#[]⟩, .int .i64 0, .slice none 0 0] 24)) from (HS5.out.at (i + 2) (by omega)).ext ((Ext.refl _).alloc _))
     have HV6 := Lib.hid (show Blk ((W5.setCell ⟨p, 1, none⟩ (.int .i64 ((i : Int) + 2))).alloc (.cells #[.int .i64 14, .int .i64 0, .string ⟨x.toArray⟩, .string ⟨#[]⟩, .int .i64 0, .slice none 0 0] 24)) W5.heap.size #[.int .i64 14, .int .i64 0, .string ⟨x.toArray⟩, .string ⟨#[]⟩, .int .i64 0, .slice none 0 0] 24 from Blk.new _ _ _ (by simp))
     clear c1 c2 c4 f1 f4 hpl HS5 hsum
     generalize ((W5.setCell ⟨p, 1, none⟩ (.int .i64 ((i : Int) + 2))).alloc (.cells #[.int .i64 14, .int .i64 0, .string ⟨x.toArray⟩, .string ⟨#[]⟩, .int .i64 0, .slice none 0 0] 24)) = W6 at HS6 HV6 ⊢
     generalize W5.heap.size = b1 at HV6 hb1 ⊢
     obtain ⟨m, hm, hq⟩ := Option.map_eq_some_iff.1 HFf.out
     obtain ⟨rfl, hfs⟩ := Prod.mk.inj hq
     have HFs := Lib.hid hfs
     have hd1 := HDp.out _ _ m.1 m.2 hm
     have KL := Lib.hid (HRec.out 1 1 ⟨i + 2, deep + 1, at_, er⟩ m.1 m.2 _ rfl (by decide) hm HS6.out.rs)
     have hb2 := HV6.out.lt
     simp only at hd1
     clear hm hq hfs HFf
     refine Calls.mono KL.out ?_
     rintro e W7 ⟨y, rfl, ht7, hp7, hl7⟩
     have HS7 := Lib.hid (HS6.out.call hp7 hl7)
     have HV7 := Lib.hid (hl7.blk HV6.out (by have := HS6.out.hp; omega))
     have hs7 := hl7.size
     have HT7 := Lib.hid (ht7.mono (B := fun g => b1 < g ∧ g < W7.heap.size) fun g h1 h2 => ⟨by omega, h2⟩)
     clear ht7 hp7 hl7 KL HS6 HV6
     obtain ⟨cv, fv⟩ := HV7.out.facts
     have hvl := HV7.out.lt
     obtain ⟨xk, xo, xs, xt, xn, xla, xln, xlc⟩ := y
     simp only [PN.v]
     go_simp
     repeat (first | go_values | go_skip | go_guarded | go_step | go_upon)
     have HN8 := Lib.hid (show PnAt ((W7.setCell ⟨b1, 5, none⟩ (.slice (some ⟨W7.heap.size, 0, none⟩) 1 1)).alloc (.cells #[.int .i64 xk, .int .i64 xo, .string xs, .string xt, .int .i64 xn, .slice xla xln xlc] 24)) W7.heap.size [⟨xk, xo, xs, xt, xn, xla, xln, xlc⟩] from pnAt_of [⟨xk, xo, xs, xt, xn, xla, xln, xlc⟩] (t := 24) (Blk.new (W7.setCell ⟨b1, 5, none⟩ (.slice (some ⟨W7.heap.size, 0, none⟩) 1 1)) _ 24 (by simp)))
     have HV8 := Lib.hid (show Blk ((W7.setCell ⟨b1, 5, none⟩ (.slice (some ⟨W7.heap.size, 0, none⟩) 1 1)).alloc (.cells #[.int .i64 xk, .int .i64 xo, .string xs, .string xt, .int .i64 xn, .slice xla xln xlc] 24)) b1 #[.int .i64 14, .int .i64 0, .string ⟨x.toArray⟩, .string ⟨#[]⟩, .int .i64 0, .slice (some ⟨W7.heap.size, 0, none⟩) 1 1] 24 from (HV7.out.set 5 (.slice (some ⟨W7.heap.size, 0, none⟩) 1 1)).keep ((Ext.refl (W7.setCell ⟨b1, 5, none⟩ (.slice (some ⟨W7.heap.size, 0, none⟩) 1 1))).alloc (.cells #[.int .i64 xk, .int .i64 xo, .string xs, .string xt, .int .i64 xn, .slice xla xln xlc] 24)))
     have HS8 := Lib.hid (show Rst w p g cap long T m.2 ((W7.setCell ⟨b1, 5, none⟩ (.slice (some ⟨W7.heap.size, 0, none⟩) 1 1)).alloc (.cells #[.int .i64 xk, .int .i64 xo, .string xs, .string xt, .int .i64 xn, .slice xla xln xlc] 24)) from (HS7.out.store hb1 5 (.slice (some ⟨W7.heap.size, 0, none⟩) 1 1)).ext ((Ext.refl (W7.setCell ⟨b1, 5, none⟩ (.slice (some ⟨W7.heap.size, 0, none⟩) 1 1))).alloc (.cells #[.int .i64 xk, .int .i64 xo, .string xs, .string xt, .int .i64 xn, .slice xla xln xlc] 24)))
     have HT8 := Lib.hid ((HT7.out.same (w' := (W7.setCell ⟨b1, 5, none⟩ (.slice (some ⟨W7.heap.size, 0, none⟩) 1 1))) (fun g h _ => heap_setCell_other W7 ⟨b1, 5, none⟩ g _ (by show g ≠ b1; omega)) (by simp)).later (p := p) (w' := ((W7.setCell ⟨b1, 5, none⟩ (.slice (some ⟨W7.heap.size, 0, none⟩) 1 1)).alloc (.cells #[.int .i64 xk, .int .i64 xo, .string xs, .string xt, .int .i64 xn, .slice xla xln xlc] 24))) (fun g h => by have := HS7.out.hp; omega) (LeP.ofExt ((Ext.refl _).alloc _)))
     clear HV7 HS7 HT7 cv fv
     generalize ((W7.setCell ⟨b1, 5, none⟩ (.slice (some ⟨W7.heap.size, 0, none⟩) 1 1)).alloc (.cells #[.int .i64 xk, .int .i64 xo, .string xs, .string xt, .int .i64 xn, .slice xla xln xlc] 24)) = W8 at HN8 HV8 HS8 HT8 ⊢
     generalize W7.heap.size = b7 at HN8 HV8 HT8 hs7 hvl ⊢
     refine Calls.mono (KW.out m.2 ⟨#[41]⟩ W8 HS8.out.rs) ?_
     rw [show bsl ⟨#[41]⟩ = [41] from rfl]
     rintro e W9 ⟨rfl, hp9, hl9⟩
     have HS9 := Lib.hid (HS8.out.call hp9 hl9)
     have HV9 := Lib.hid (hl9.blk HV8.out (by have := HS8.out.hp; omega))
     have HN9 := Lib.hid (HN8.out.same (hl9.old _ HN8.out.1 (by have := HS8.out.hp; omega)) hl9.size)
     have HT9 := Lib.hid (HT8.out.later (p := p) (fun g h => by have := HS8.out.hp; omega) hl9)
     have hd9 : (wantR T long m.2 [41]).deep = deep + 1 := (deep_want ..).trans hd1
     clear hp9 hl9 HS8 HV8 HN8 HT8
     generalize wantR T long m.2 [41] = s9 at HS9 hd9 HFs
     obtain ⟨⟨_, _, k4⟩, _, q4, hpl9⟩ := HS9.out.rs.cells
     obtain ⟨D, hD⟩ : ∃ D : Int, D = (s9.deep : Int) := ⟨_, rfl⟩
     rw [← hD] at k4
     have hsub := IntWalk.i64_in (D - 1) (by omega)
     have hbp : b1 ≠ p := by have := HS9.out.hp; omega
     have HS := Lib.hid (show Rst w p g cap long T s' (W9.setCell ⟨p, 4, none⟩ (.int .i64 (D - 1))) from by rw [hD, ← HFs.out]; exact HS9.out.dec (by omega))
     have HVd := Lib.hid (HV9.out.other (a := ⟨p, 4, none⟩) hbp (.int .i64 (D - 1)))
     have hD' := Lib.hid hD
     clear hD
     obtain ⟨cv, fv⟩ := HV9.out.facts
     have hvl9 := HV9.out.lt
     have hrb := HS.out.res
     have HRr := Lib.hid hrb
     have hrb9 := HS9.out.res
     obtain ⟨cr, fr⟩ := hrb9.facts
     have hrl := hrb9.lt
     have hpr : p ≠ w.heap.size := by have := HS9.out.hp; omega
     clear hrb hrb9
     go_simp
     repeat (first | go_values | go_skip | go_guarded | go_step | go_upon)
     refine bodyPost_ret (ret_ndP rfl _ rfl rfl (blk6P HRr.out _ _ _ _ _ _)) rfl ?_
     have HSo := HS.out
     have hpw := HSo.hp
     exact HSo.done ⟨14, 0, ⟨x.toArray⟩, ⟨#[]⟩, 0, some ⟨b7, 0, none⟩, 1, 1⟩ _ (oneTr (w.heap.size < ·) 14 0 x [] 0 b7 1 _ m.1 _ (Nat.le_refl _) (by show w.heap.size < b7; omega) (HN9.out.same (heap_setCell_other W9 ⟨p, 4, none⟩ b7 _ (by show b7 ≠ p; omega)) (by simp)) ((HT9.out.same (fun g h _ => heap_setCell_other W9 ⟨p, 4, none⟩ g _ (by show g ≠ p; omega)) (by simp)).mono fun g h _ => by show w.heap.size < g; omega)) _ _ _ _ _ _
    ·have h1' : (x != [99, 111, 117, 110, 116]) = true := by simp only [bne, h1]; rfl
     have hk : callK x = 14 := by unfold callK aggB; rw [h1, h2, h3, h4]; rfl
     rw [h1, Bool.false_and, if_neg (by decide), hk] at HFf
     go_simp
     repeat (first | go_values | go_skip | go_guarded | go_step | go_upon)
     have HS6 := Lib.hid (show Rst w p g cap long T ⟨i + 2, deep + 1, at_, er⟩ ((W5.setCell ⟨p, 1, none⟩ (.int .i64 ((i : Int) + 2))).alloc (.cells #[.int .i64 14, .int .i64 0, .string ⟨x.toArray⟩, .string ⟨#[]⟩, .int .i64 0, .slice none 0 0] 24)) from (HS5.out.at (i + 2) (by omega)).ext ((Ext.refl _).alloc _))
     have HV6 := Lib.hid (show Blk ((W5.setCell ⟨p, 1, none⟩ (.int .i64 ((i : Int) + 2))).alloc (.cells #[.int .i64 14, .int .i64 0, .string ⟨x.toArray⟩, .string ⟨#[]⟩, .int .i64 0, .slice none 0 0] 24)) W5.heap.size #[.int .i64 14, .int .i64 0, .string ⟨x.toArray⟩, .string ⟨#[]⟩, .int .i64 0, .slice none 0 0] 24 from Blk.new _ _ _ (by simp))
     clear c1 c2 c4 f1 f4 hpl HS5 hsum
     generalize ((W5.setCell ⟨p, 1, none⟩ (.int .i64 ((i : Int) + 2))).alloc (.cells #[.int .i64 14, .int .i64 0, .string ⟨x.toArray⟩, .string ⟨#[]⟩, .int .i64 0, .slice none 0 0] 24)) = W6 at HS6 HV6 ⊢
     generalize W5.heap.size = b1 at HV6 hb1 ⊢
     obtain ⟨m, hm, hq⟩ := Option.map_eq_some_iff.1 HFf.out
     obtain ⟨rfl, hfs⟩ := Prod.mk.inj hq
     have HFs := Lib.hid hfs
     have hd1 := HDp.out _ _ m.1 m.2 hm
     have KL := Lib.hid (HRec.out 1 1 ⟨i + 2, deep + 1, at_, er⟩ m.1 m.2 _ rfl (by decide) hm HS6.out.rs)
     have hb2 := HV6.out.lt
     simp only at hd1
     clear hm hq hfs HFf
     refine Calls.mono KL.out ?_
     rintro e W7 ⟨y, rfl, ht7, hp7, hl7⟩
     have HS7 := Lib.hid (HS6.out.call hp7 hl7)
     have HV7 := Lib.hid (hl7.blk HV6.out (by have := HS6.out.hp; omega))
     have hs7 := hl7.size
     have HT7 := Lib.hid (ht7.mono (B := fun g => b1 < g ∧ g < W7.heap.size) fun g h1 h2 => ⟨by omega, h2⟩)
     clear ht7 hp7 hl7 KL HS6 HV6
     obtain ⟨cv, fv⟩ := HV7.out.facts
     have hvl := HV7.out.lt
     obtain ⟨xk, xo, xs, xt, xn, xla, xln, xlc⟩ := y
     simp only [PN.v]
     go_simp
     repeat (first | go_values | go_skip | go_guarded | go_step | go_upon)
     have HN8 := Lib.hid (show PnAt ((W7.setCell ⟨b1, 5, none⟩ (.slice (some ⟨W7.heap.size, 0, none⟩) 1 1)).alloc (.cells #[.int .i64 xk, .int .i64 xo, .string xs, .string xt, .int .i64 xn, .slice xla xln xlc] 24)) W7.heap.size [⟨xk, xo, xs, xt, xn, xla, xln, xlc⟩] from pnAt_of [⟨xk, xo, xs, xt, xn, xla, xln, xlc⟩] (t := 24) (Blk.new (W7.setCell ⟨b1, 5, none⟩ (.slice (some ⟨W7.heap.size, 0, none⟩) 1 1)) _ 24 (by simp)))
     have HV8 := Lib.hid (show Blk ((W7.setCell ⟨b1, 5, none⟩ (.slice (some ⟨W7.heap.size, 0, none⟩) 1 1)).alloc (.cells #[.int .i64 xk, .int .i64 xo, .string xs, .string xt, .int .i64 xn, .slice xla xln xlc] 24)) b1 #[.int .i64 14, .int .i64 0, .string ⟨x.toArray⟩, .string ⟨#[]⟩, .int .i64 0, .slice (some ⟨W7.heap.size, 0, none⟩) 1 1] 24 from (HV7.out.set 5 (.slice (some ⟨W7.heap.size, 0, none⟩) 1 1)).keep ((Ext.refl (W7.setCell ⟨b1, 5, none⟩ (.slice (some ⟨W7.heap.size, 0, none⟩) 1 1))).alloc (.cells #[.int .i64 xk, .int .i64 xo, .string xs, .string xt, .int .i64 xn, .slice xla xln xlc] 24)))
     have HS8 := Lib.hid (show Rst w p g cap long T m.2 ((W7.setCell ⟨b1, 5, none⟩ (.slice (some ⟨W7.heap.size, 0, none⟩) 1 1)).alloc (.cells #[.int .i64 xk, .int .i64 xo, .string xs, .string xt, .int .i64 xn, .slice xla xln xlc] 24)) from (HS7.out.store hb1 5 (.slice (some ⟨W7.heap.size, 0, none⟩) 1 1)).ext ((Ext.refl (W7.setCell ⟨b1, 5, none⟩ (.slice (some ⟨W7.heap.size, 0, none⟩) 1 1))).alloc (.cells #[.int .i64 xk, .int .i64 xo, .string xs, .string xt, .int .i64 xn, .slice xla xln xlc] 24)))
     have HT8 := Lib.hid ((HT7.out.same (w' := (W7.setCell ⟨b1, 5, none⟩ (.slice (some ⟨W7.heap.size, 0, none⟩) 1 1))) (fun g h _ => heap_setCell_other W7 ⟨b1, 5, none⟩ g _ (by show g ≠ b1; omega)) (by simp)).later (p := p) (w' := ((W7.setCell ⟨b1, 5, none⟩ (.slice (some ⟨W7.heap.size, 0, none⟩) 1 1)).alloc (.cells #[.int .i64 xk, .int .i64 xo, .string xs, .string xt, .int .i64 xn, .slice xla xln xlc] 24))) (fun g h => by have := HS7.out.hp; omega) (LeP.ofExt ((Ext.refl _).alloc _)))
     clear HV7 HS7 HT7 cv fv
     generalize ((W7.setCell ⟨b1, 5, none⟩ (.slice (some ⟨W7.heap.size, 0, none⟩) 1 1)).alloc (.cells #[.int .i64 xk, .int .i64 xo, .string xs, .string xt, .int .i64 xn, .slice xla xln xlc] 24)) = W8 at HN8 HV8 HS8 HT8 ⊢
     generalize W7.heap.size = b7 at HN8 HV8 HT8 hs7 hvl ⊢
     refine Calls.mono (KW.out m.2 ⟨#[41]⟩ W8 HS8.out.rs) ?_
     rw [show bsl ⟨#[41]⟩ = [41] from rfl]
     rintro e W9 ⟨rfl, hp9, hl9⟩
     have HS9 := Lib.hid (HS8.out.call hp9 hl9)
     have HV9 := Lib.hid (hl9.blk HV8.out (by have := HS8.out.hp; omega))
     have HN9 := Lib.hid (HN8.out.same (hl9.old _ HN8.out.1 (by have := HS8.out.hp; omega)) hl9.size)
     have HT9 := Lib.hid (HT8.out.later (p := p) (fun g h => by have := HS8.out.hp; omega) hl9)
     have hd9 : (wantR T long m.2 [41]).deep = deep + 1 := (deep_want ..).trans hd1
     clear hp9 hl9 HS8 HV8 HN8 HT8
     generalize wantR T long m.2 [41] = s9 at HS9 hd9 HFs
     obtain ⟨⟨_, _, k4⟩, _, q4, hpl9⟩ := HS9.out.rs.cells
     obtain ⟨D, hD⟩ : ∃ D : Int, D = (s9.deep : Int) := ⟨_, rfl⟩
     rw [← hD] at k4
     have hsub := IntWalk.i64_in (D - 1) (by omega)
     have hbp : b1 ≠ p := by have := HS9.out.hp; omega
     have HS := Lib.hid (show Rst w p g cap long T s' (W9.setCell ⟨p, 4, none⟩ (.int .i64 (D - 1))) from by rw [hD, ← HFs.out]; exact HS9.out.dec (by omega))
     have HVd := Lib.hid (HV9.out.other (a := ⟨p, 4, none⟩) hbp (.int .i64 (D - 1)))
     have hD' := Lib.hid hD
     clear hD
     obtain ⟨cv, fv⟩ := HV9.out.facts
     have hvl9 := HV9.out.lt
     have hrb := HS.out.res
     have HRr := Lib.hid hrb
     have hrb9 := HS9.out.res
     obtain ⟨cr, fr⟩ := hrb9.facts
     have hrl := hrb9.lt
     have hpr : p ≠ w.heap.size := by have := HS9.out.hp; omega
     clear hrb hrb9
     go_simp
     repeat (first | go_values | go_skip | go_guarded | go_step | go_upon)
     refine bodyPost_ret (ret_ndP rfl _ rfl rfl (blk6P HRr.out _ _ _ _ _ _)) rfl ?_
     have HSo := HS.out
     have hpw := HSo.hp
     exact HSo.done ⟨14, 0, ⟨x.toArray⟩, ⟨#[]⟩, 0, some ⟨b7, 0, none⟩, 1, 1⟩ _ (oneTr (w.heap.size < ·) 14 0 x [] 0 b7 1 _ m.1 _ (Nat.le_refl _) (by show w.heap.size < b7; omega) (HN9.out.same (heap_setCell_other W9 ⟨p, 4, none⟩ b7 _ (by show b7 ≠ p; omega)) (by simp)) ((HT9.out.same (fun g h _ => heap_setCell_other W9 ⟨p, 4, none⟩ g _ (by show g ≠ p; omega)) (by simp)).mono fun g h _ => by show w.heap.size < g; omega)) _ _ _ _ _ _
    ·have h1' : (x != [99, 111, 117, 110, 116]) = true := by simp only [bne, h1]; rfl
     have hk : callK x = 13 := by unfold callK aggB; rw [h1, h2, h3, h4]; rfl
     rw [h1, Bool.false_and, if_neg (by decide), hk] at HFf
     go_simp
     repeat (first | go_values | go_skip | go_guarded | go_step | go_upon)
     have HS6 := Lib.hid (show Rst w p g cap long T ⟨i + 2, deep + 1, at_, er⟩ ((W5.setCell ⟨p, 1, none⟩ (.int .i64 ((i : Int) + 2))).alloc (.cells #[.int .i64 13, .int .i64 0, .string ⟨x.toArray⟩, .string ⟨#[]⟩, .int .i64 0, .slice none 0 0] 24)) from (HS5.out.at (i + 2) (by omega)).ext ((Ext.refl _).alloc _))
     have HV6 := Lib.hid (show Blk ((W5.setCell ⟨p, 1, none⟩ (.int .i64 ((i : Int) + 2))).alloc (.cells #[.int .i64 13, .int .i64 0, .string ⟨x.toArray⟩, .string ⟨#[]⟩, .int .i64 0, .slice none 0 0] 24)) W5.heap.size #[.int .i64 13, .int .i64 0, .string ⟨x.toArray⟩, .string ⟨#[]⟩, .int .i64 0, .slice none 0 0] 24 from Blk.new _ _ _ (by simp))
     clear c1 c2 c4 f1 f4 hpl HS5 hsum
     generalize ((W5.setCell ⟨p, 1, none⟩ (.int .i64 ((i : Int) + 2))).alloc (.cells #[.int .i64 13, .int .i64 0, .string ⟨x.toArray⟩, .string ⟨#[]⟩, .int .i64 0, .slice none 0 0] 24)) = W6 at HS6 HV6 ⊢
     generalize W5.heap.size = b1 at HV6 hb1 ⊢
     obtain ⟨m, hm, hq⟩ := Option.map_eq_some_iff.1 HFf.out
     obtain ⟨rfl, hfs⟩ := Prod.mk.inj hq
     have HFs := Lib.hid hfs
     have hd1 := HDp.out _ _ m.1 m.2 hm
     have KL := Lib.hid (HRec.out 1 1 ⟨i + 2, deep + 1, at_, er⟩ m.1 m.2 _ rfl (by decide) hm HS6.out.rs)
     have hb2 := HV6.out.lt
     simp only at hd1
     clear hm hq hfs HFf
     refine Calls.mono KL.out ?_
     rintro e W7 ⟨y, rfl, ht7, hp7, hl7⟩
     have HS7 := Lib.hid (HS6.out.call hp7 hl7)
     have HV7 := Lib.hid (hl7.blk HV6.out (by have := HS6.out.hp; omega))
     have hs7 := hl7.size
     have HT7 := Lib.hid (ht7.mono (B := fun g => b1 < g ∧ g < W7.heap.size) fun g h1 h2 => ⟨by omega, h2⟩)
     clear ht7 hp7 hl7 KL HS6 HV6
     obtain ⟨cv, fv⟩ := HV7.out.facts
     have hvl := HV7.out.lt
     obtain ⟨xk, xo, xs, xt, xn, xla, xln, xlc⟩ := y
     simp only [PN.v]
     go_simp
     repeat (first | go_values | go_skip | go_guarded | go_step | go_upon)
     have HN8 := Lib.hid (show PnAt ((W7.setCell ⟨b1, 5, none⟩ (.slice (some ⟨W7.heap.size, 0, none⟩) 1 1)).alloc (.cells #[.int .i64 xk, .int .i64 xo, .string xs, .string xt, .int .i64 xn, .slice xla xln xlc] 24)) W7.heap.size [⟨xk, xo, xs, xt, xn, xla, xln, xlc⟩] from pnAt_of [⟨xk, xo, xs, xt, xn, xla, xln, xlc⟩] (t := 24) (Blk.new (W7.setCell ⟨b1, 5, none⟩ (.slice (some ⟨W7.heap.size, 0, none⟩) 1 1)) _ 24 (by simp)))
     have HV8 := Lib.hid (show Blk ((W7.setCell ⟨b1, 5, none⟩ (.slice (some ⟨W7.heap.size, 0, none⟩) 1 1)).alloc (.cells #[.int .i64 xk, .int .i64 xo, .string xs, .string xt, .int .i64 xn, .slice xla xln xlc] 24)) b1 #[.int .i64 13, .int .i64 0, .string ⟨x.toArray⟩, .string ⟨#[]⟩, .int .i64 0, .slice (some ⟨W7.heap.size, 0, none⟩) 1 1] 24 from (HV7.out.set 5 (.slice (some ⟨W7.heap.size, 0, none⟩) 1 1)).keep ((Ext.refl (W7.setCell ⟨b1, 5, none⟩ (.slice (some ⟨W7.heap.size, 0, none⟩) 1 1))).alloc (.cells #[.int .i64 xk, .int .i64 xo, .string xs, .string xt, .int .i64 xn, .slice xla xln xlc] 24)))
     have HS8 := Lib.hid (show Rst w p g cap long T m.2 ((W7.setCell ⟨b1, 5, none⟩ (.slice (some ⟨W7.heap.size, 0, none⟩) 1 1)).alloc (.cells #[.int .i64 xk, .int .i64 xo, .string xs, .string xt, .int .i64 xn, .slice xla xln xlc] 24)) from (HS7.out.store hb1 5 (.slice (some ⟨W7.heap.size, 0, none⟩) 1 1)).ext ((Ext.refl (W7.setCell ⟨b1, 5, none⟩ (.slice (some ⟨W7.heap.size, 0, none⟩) 1 1))).alloc (.cells #[.int .i64 xk, .int .i64 xo, .string xs, .string xt, .int .i64 xn, .slice xla xln xlc] 24)))
     have HT8 := Lib.hid ((HT7.out.same (w' := (W7.setCell ⟨b1, 5, none⟩ (.slice (some ⟨W7.heap.size, 0, none⟩) 1 1))) (fun g h _ => heap_setCell_other W7 ⟨b1, 5, none⟩ g _ (by show g ≠ b1; omega)) (by simp)).later (p := p) (w' := ((W7.setCell ⟨b1, 5, none⟩ (.slice (some ⟨W7.heap.size, 0, none⟩) 1 1)).alloc (.cells #[.int .i64 xk, .int .i64 xo, .string xs, .string xt, .int .i64 xn, .slice xla xln xlc] 24))) (fun g h => by have := HS7.out.hp; omega) (LeP.ofExt ((Ext.refl _).alloc _)))
     clear HV7 HS7 HT7 cv fv
     generalize ((W7.setCell ⟨b1, 5, none⟩ (.slice (some ⟨W7.heap.size, 0, none⟩) 1 1)).alloc (.cells #[.int .i64 xk, .int .i64 xo, .string xs, .string xt, .int .i64 xn, .slice xla xln xlc] 24)) = W8 at HN8 HV8 HS8 HT8 ⊢
     generalize W7.heap.size = b7 at HN8 HV8 HT8 hs7 hvl ⊢
     refine Calls.mono (KW.out m.2 ⟨#[41]⟩ W8 HS8.out.rs) ?_
     rw [show bsl ⟨#[41]⟩ = [41] from rfl]
     rintro e W9 ⟨rfl, hp9, hl9⟩
     have HS9 := Lib.hid (HS8.out.call hp9 hl9)
     have HV9 := Lib.hid (hl9.blk HV8.out (by have := HS8.out.hp; omega))
     have HN9 := Lib.hid (HN8.out.same (hl9.old _ HN8.out.1 (by have := HS8.out.hp; omega)) hl9.size)
     have HT9 := Lib.hid (HT8.out.later (p := p) (fun g h => by have := HS8.out.hp; omega) hl9)
     have hd9 : (wantR T long m.2 [41]).deep = deep + 1 := (deep_want ..).trans hd1
     clear hp9 hl9 HS8 HV8 HN8 HT8
     generalize wantR T long m.2 [41] = s9 at HS9 hd9 HFs
     obtain ⟨⟨_, _, k4⟩, _, q4, hpl9⟩ := HS9.out.rs.cells
     obtain ⟨D, hD⟩ : ∃ D : Int, D = (s9.deep : Int) := ⟨_, rfl⟩
     rw [← hD] at k4
     have hsub := IntWalk.i64_in (D - 1) (by omega)
     have hbp : b1 ≠ p := by have := HS9.out.hp; omega
     have HS := Lib.hid (show Rst w p g cap long T s' (W9.setCell ⟨p, 4, none⟩ (.int .i64 (D - 1))) from by rw [hD, ← HFs.out]; exact HS9.out.dec (by omega))
     have HVd := Lib.hid (HV9.out.other (a := ⟨p, 4, none⟩) hbp (.int .i64 (D - 1)))
     have hD' := Lib.hid hD
     clear hD
     obtain ⟨cv, fv⟩ := HV9.out.facts
     have hvl9 := HV9.out.lt
     have hrb := HS.out.res
     have HRr := Lib.hid hrb
     have hrb9 := HS9.out.res
     obtain ⟨cr, fr⟩ := hrb9.facts
     have hrl := hrb9.lt
     have hpr : p ≠ w.heap.size := by have := HS9.out.hp; omega
     clear hrb hrb9
     go_simp
     repeat (first | go_values | go_skip | go_guarded | go_step | go_upon)
     refine bodyPost_ret (ret_ndP rfl _ rfl rfl (blk6P HRr.out _ _ _ _ _ _)) rfl ?_
     have HSo := HS.out
     have hpw := HSo.hp
     exact HSo.done ⟨13, 0, ⟨x.toArray⟩, ⟨#[]⟩, 0, some ⟨b7, 0, none⟩, 1, 1⟩ _ (oneTr (w.heap.size < ·) 13 0 x [] 0 b7 1 _ m.1 _ (Nat.le_refl _) (by show w.heap.size < b7; omega) (HN9.out.same (heap_setCell_other W9 ⟨p, 4, none⟩ b7 _ (by show b7 ≠ p; omega)) (by simp)) ((HT9.out.same (fun g h _ => heap_setCell_other W9 ⟨p, 4, none⟩ g _ (by show g ≠ p; omega)) (by simp)).mono fun g h _ => by show w.heap.size < g; omega)) _ _ _ _ _ _
 ·rw [hdot, if_pos rfl] at HFf
  obtain ⟨y, hy⟩ : ∃ y, y = nameT T (advR (advR s)) := ⟨_, rfl⟩
  rw [← hy] at HFf
  obtain ⟨rfl, hfs⟩ := Prod.mk.inj (Option.some.inj HFf.out)
  have HFs := Lib.hid hfs
  clear hfs HFf
  rintro e W2 ⟨rfl, hp2, hl2⟩
  have HS2 := Lib.hid (HS1.out.call (show RsAt W2 p g cap long T (advR (advR s)) from hp2) hl2)
  clear hp2 hl2 HS1
  go_simp
  repeat (first | go_values | go_skip | go_guarded | go_step | go_upon)
  refine Calls.mono (KN.out (advR (advR s)) W2 HS2.out.rs) ?_
  rw [HFs.out, ← hy]
  have Hy := Lib.hid hy
  clear hy
  rintro e W3 ⟨rfl, hp3, hl3⟩
  have HS := Lib.hid (HS2.out.call hp3 hl3)
  clear hp3 hl3 HS2
  have hrb := HS.out.res
  have HRr := Lib.hid hrb
  obtain ⟨cr, fr⟩ := hrb.facts
  have hrl := hrb.lt
  clear hrb
  go_simp
  repeat (first | go_values | go_skip | go_guarded | go_step | go_upon)
  refine bodyPost_ret (ret_ndP rfl _ rfl rfl (blk6P HRr.out _ _ _ _ _ _)) rfl ?_
  exact HS.out.done ⟨4, 0, ⟨y.toArray⟩, ⟨x.toArray⟩, 0, none, 0, 0⟩ _ (.leaf 4 0 y x 0) _ _ _ _ _ _
end Go.Proofs.YtcgbpmeadohbkaaGreatDoor
