import Derived.Test.YtimeipjcmffadaaGreatDoorRpJ
set_option maxHeartbeats 16000000
namespace Go.Proofs.YtimeipjcmffadaaGreatDoor
open Go.RowKit Go.Lib
set_option maxRecDepth 100000
theorem Rst.done1 {w0 W:World} {p g cap long:Nat} {T:List Lx.Tok} {s:PSt} (h:Rst w0 p g cap long T s W) (k o:Int) (x t:List UInt8) (n:Int) (y:PN) (m:Tr) (hT:TrAt (w0.heap.size< ·) W y m) (a b c d e f:Value) :
 LevPostR p g cap long T (.mk k o x t n [m]) s w0 (.returned (PN.v ⟨k,o,⟨x.toArray⟩,⟨t.toArray⟩,n,some ⟨W.heap.size,0,none⟩,1,1⟩)) (((((((W.setCell ⟨w0.heap.size,0,none⟩ a).setCell ⟨w0.heap.size,1,none⟩ b).setCell ⟨w0.heap.size,2,none⟩ c).setCell ⟨w0.heap.size,3,none⟩ d).setCell ⟨w0.heap.size,4,none⟩ e).setCell ⟨w0.heap.size,5,none⟩ f).alloc (.cells y.cells 24)):=by
 have hl:=h.res.lt;have hrs:=h.rs.other6 (x:=w0.heap.size) (by have:=h.hp;omega) (by have:=h.hg;omega) a b c d e f;have hle:=h.le.other6 (Nat.le_refl _) a b c d e f;have hT6:=hT.set6 (b:=w0.heap.size) (fun g h=>by omega) a b c d e f;have hs6:((((((W.setCell ⟨w0.heap.size,0,none⟩ a).setCell ⟨w0.heap.size,1,none⟩ b).setCell ⟨w0.heap.size,2,none⟩ c).setCell ⟨w0.heap.size,3,none⟩ d).setCell ⟨w0.heap.size,4,none⟩ e).setCell ⟨w0.heap.size,5,none⟩ f).heap.size=W.heap.size:=by simp
 generalize ((((((W.setCell ⟨w0.heap.size,0,none⟩ a).setCell ⟨w0.heap.size,1,none⟩ b).setCell ⟨w0.heap.size,2,none⟩ c).setCell ⟨w0.heap.size,3,none⟩ d).setCell ⟨w0.heap.size,4,none⟩ e).setCell ⟨w0.heap.size,5,none⟩ f)=W6 at hrs hle hT6 hs6 |-;have hx:Ext W6 (W6.alloc (.cells y.cells 24)):=(Ext.refl W6).alloc _;refine ⟨_,rfl,?_,hrs.ext hx,hle.trans (LeP.ofExt hx)⟩;rw [<- hs6];exact oneTr (w0.heap.size<= ·) k o x t n W6.heap.size 1 y m _ (Nat.le_refl _) (by omega) (pnAt_of [y] (t:=24) (by simpa using Blk.new W6 y.cells 24 rfl)) (((hT6.mono (B:=fun g=>w0.heap.size<=g/\g≠p) (fun g h1 h2=>⟨Nat.le_of_lt h1,by have:=h.hp;omega⟩)).later (p:=p) (fun g h=>h.2) (LeP.ofExt hx)).mono fun g h _=>h.1)
theorem rfirst_plain (p g cap long:Nat) (T:List Lx.Tok) (rec:RecR) (hrec:LevOkR p g cap long T rec) (hdp:DeepOk rec) (s:PSt) (he:s.e=0) (hk3:kindR T s≠3) (hk4:kindR T s≠4) (hk1:kindR T s≠1) (r:Tr) (s':PSt) (hf:plainR rec T long s=some (r,s')) (w:World) (h:RsAt w p g cap long T s) :
 Calls Tryz.prog 83 #[.pointer (some ⟨p,0,none⟩)] w (LevPostR p g cap long T r s' w):=by
 have HS0:=h_ (Rst.start h);have KK:=h_ (fun W (hW:RsAt W p g cap long T s)=>rkind_any p g cap long T s W hW);have KT:=h_ (fun (s:PSt) (x:ByteArray) W (hW:RsAt W p g cap long T s)=>rtake_any p g cap long T s x W hW);have KI:=h_ (fun (s:PSt) (x:ByteArray) W (hW:RsAt W p g cap long T s)=>ris_any p g cap long T s x W hW);have KW:=h_ (fun (s:PSt) (x:ByteArray) W (hW:RsAt W p g cap long T s)=>rwant_any p g cap long T s x W hW);have KD:=h_ (fun (s:PSt) W (hW:RsAt W p g cap long T s)=>rin_any p g cap long T s W hW);have KF:=h_ (fun (s:PSt) W (hW:RsAt W p g cap long T s)=>rfail_any p g cap long T s 10 W hW);have KY:=h_ (fun (s:PSt) W (hW:RsAt W p g cap long T s)=>rtyped_any p g cap long T s W hW);have HRec:=h_ hrec;have HDp:=h_ hdp;have HFf:=h_ hf;obtain ⟨⟨c1,c2,c4⟩,f1,f4,hpl⟩:=(Rst.start h).rs.cells;rw [he] at c2;obtain ⟨K,hK⟩:∃ K,K=kindR T s:=⟨_,rfl⟩
 rw [<- hK] at KK hk3 hk4 hk1;have b3:(K == 3)=false:=by rw [beq_eq_false_iff_ne];exact hk3
 have b4:(K == 4)=false:=by rw [beq_eq_false_iff_ne];exact hk4
 have b1:(K == 1)=false:=by rw [beq_eq_false_iff_ne];exact hk1
 clear h hrec hdp hf hK hk3 hk4 hk1;go_enter Tryz.func83,Tryz.ntmps83;go_simp
 repeat (first|go_values|go_skip|go_guarded|go_step|go_upon)
 refine Calls.mono (KK.out _ HS0.out.rs) ?_;rintro e W0 ⟨rfl,hx0⟩;have HS1:=h_ (HS0.out.ext hx0);clear hx0 HS0;go_simp
 repeat (first|go_values|go_skip|go_guarded|go_step|go_upon)
 refine Calls.mono (KK.out _ HS1.out.rs) ?_;rintro e W1 ⟨rfl,hx1⟩;have HS2:=h_ (HS1.out.ext hx1);clear hx1 HS1;go_simp
 repeat (first|go_values|go_skip|go_guarded|go_step|go_upon)
 refine Calls.mono (KK.out _ HS2.out.rs) ?_;rintro e W2 ⟨rfl,hx2⟩;have HS3:=h_ (HS2.out.ext hx2);clear hx2 HS2 KK c1 c2 c4 f1 f4 hpl;go_simp
 repeat (first|go_values|go_skip|go_guarded|go_step|go_upon)
 unfold plainR at HFf;refine Calls.mono (KT.out s ⟨#[78,85,76,76]⟩ W2 HS3.out.rs) ?_;rw [show bsl ⟨#[78,85,76,76]⟩=[78,85,76,76] from rfl];cases ht1:takeB T s [78,85,76,76]
 ·rw [ht1,if_neg (by decide)] at HFf;rintro e W3 ⟨rfl,hp3,hl3⟩;have HS4:=h_ (HS3.out.call (show RsAt W3 p g cap long T s from hp3) hl3);clear hp3 hl3 HS3;go_simp
  repeat (first|go_values|go_skip|go_guarded|go_step|go_upon)
  refine Calls.mono (KT.out s ⟨#[84,82,85,69]⟩ W3 HS4.out.rs) ?_;rw [show bsl ⟨#[84,82,85,69]⟩=[84,82,85,69] from rfl];cases ht2:takeB T s [84,82,85,69]
  ·rw [ht2,if_neg (by decide)] at HFf;rintro e W4 ⟨rfl,hp4,hl4⟩;have HS5:=h_ (HS4.out.call (show RsAt W4 p g cap long T s from hp4) hl4);clear hp4 hl4 HS4;go_simp
   repeat (first|go_values|go_skip|go_guarded|go_step|go_upon)
   refine Calls.mono (KT.out s ⟨#[70,65,76,83,69]⟩ W4 HS5.out.rs) ?_;rw [show bsl ⟨#[70,65,76,83,69]⟩=[70,65,76,83,69] from rfl];cases ht3:takeB T s [70,65,76,83,69]
   ·rw [ht3,if_neg (by decide)] at HFf;rintro e W5 ⟨rfl,hp5,hl5⟩;have HS6:=h_ (HS5.out.call (show RsAt W5 p g cap long T s from hp5) hl5);clear hp5 hl5 HS5;unfold groupR at HFf;go_simp
    repeat (first|go_values|go_skip|go_guarded|go_step|go_upon)
    refine Calls.mono (KI.out s ⟨#[40]⟩ W5 HS6.out.rs) ?_;rw [show bsl ⟨#[40]⟩=[40] from rfl];cases hpar:isR T s [40]
    ·rw [hpar,if_neg (by decide)] at HFf;rintro e W6 ⟨rfl,hx6⟩;have HS7:=h_ (HS6.out.ext hx6);clear hx6 HS6;go_simp
     repeat (first|go_values|go_skip|go_guarded|go_step|go_upon)
     refine Calls.mono (KI.out s ⟨#[67,65,83,84]⟩ W6 HS7.out.rs) ?_;rw [show bsl ⟨#[67,65,83,84]⟩=[67,65,83,84] from rfl];cases hcast:isR T s [67,65,83,84]
     ·rw [hcast,if_neg (by decide)] at HFf;obtain ⟨rfl,hfs⟩:=Prod.mk.inj (Option.some.inj HFf.out);have HFs:=h_ hfs;clear hfs HFf;rintro e W7 ⟨rfl,hx7⟩;have HS8:=h_ (HS7.out.ext hx7);clear hx7 HS7;go_simp
      repeat (first|go_values|go_skip|go_guarded|go_step|go_upon)
      refine Calls.mono (KF.out s W7 HS8.out.rs) ?_;rw [HFs.out];rintro e W8 ⟨rfl,hp8,hl8⟩;have HS:=h_ (HS8.out.call hp8 hl8);clear hp8 hl8 HS8;have hrb:=HS.out.res;have HRr:=h_ hrb;obtain ⟨cr,fr⟩:=hrb.facts;have hrl:=hrb.lt;clear hrb;go_simp
      repeat (first|go_values|go_skip|go_guarded|go_step|go_upon)
      refine bodyPost_ret (ret_ndP rfl _ rfl rfl (blk6P HRr.out _ _ _ _ _ _)) rfl ?_;exact HS.out.done ⟨0,0,⟨#[]⟩,⟨#[]⟩,0,none,0,0⟩ _ (.leaf 0 0 [] [] 0) _ _ _ _ _ _
     ·rw [hcast,if_pos rfl] at HFf;rintro e W7 ⟨rfl,hx7⟩;have HS8:=h_ (HS7.out.ext hx7);clear hx7 HS7;have hlt:=isR_lt hcast;go_simp
      repeat (first|go_values|go_skip|go_guarded|go_step|go_upon)
      refine Calls.mono (KD.out s W7 HS8.out.rs) ?_;cases hin:inB s
      ·rw [hin,if_neg (by decide)] at HFf;obtain ⟨rfl,hfs⟩:=Prod.mk.inj (Option.some.inj HFf.out);have HFs:=h_ hfs;clear hfs HFf;rw [HFs.out];rintro e W8 ⟨rfl,hp8,hl8⟩;have HS:=h_ (HS8.out.call hp8 hl8);clear hp8 hl8 HS8;have hrb:=HS.out.res;have HRr:=h_ hrb;obtain ⟨cr,fr⟩:=hrb.facts;have hrl:=hrb.lt;clear hrb;go_simp
       repeat (first|go_values|go_skip|go_guarded|go_step|go_upon)
       refine bodyPost_ret (ret_ndP rfl _ rfl rfl (blk6P HRr.out _ _ _ _ _ _)) rfl ?_;exact HS.out.done ⟨0,0,⟨#[]⟩,⟨#[]⟩,0,none,0,0⟩ _ (.leaf 0 0 [] [] 0) _ _ _ _ _ _
      ·rw [hin,if_pos rfl] at HFf;have hins:inS T long s={ s with deep:=s.deep+1 }:=by unfold inS;rw [hin];rfl
       rw [hins] at HFf |-;obtain ⟨i,deep,at_,er⟩:=s;simp only at he hlt;subst he;simp only at HFf;rintro e W8 ⟨rfl,hp8,hl8⟩;have HS9:=h_ (HS8.out.call hp8 hl8);clear hp8 hl8 HS8;obtain ⟨⟨c1,c2,c4⟩,f1,f4,hpl⟩:=HS9.out.rs.cells;simp only at c1 c2 c4;have hfew:=HS9.out.rs.few;have hsum:=IntWalk.i64_in ((i:Int)+1) (by omega);go_simp
       repeat (first|go_values|go_skip|go_guarded|go_step|go_upon)
       have HS10:=h_ (show Rst w p g cap long T ⟨i+1,deep+1,at_,0⟩ (W8.setCell ⟨p,1,none⟩ (.int .i64 ((i:Int)+1))) from HS9.out.at (i+1) hlt);clear c1 c2 c4 f1 f4 hpl HS9 hsum;generalize W8.setCell ⟨p,1,none⟩ (.int .i64 ((i:Int)+1))=W9 at HS10 |-;refine Calls.mono (KW.out ⟨i+1,deep+1,at_,0⟩ ⟨#[40]⟩ W9 HS10.out.rs) ?_;rw [show bsl ⟨#[40]⟩=[40] from rfl];rintro e W10 ⟨rfl,hp10,hl10⟩;have HS11:=h_ (HS10.out.call hp10 hl10);clear hp10 hl10 HS10;have hd0:(wantR T long ⟨i+1,deep+1,at_,0⟩ [40]).deep=deep+1:=deep_want ..;simp only [advR] at HFf;generalize wantR T long ⟨i+1,deep+1,at_,0⟩ [40]=s11 at HS11 hd0 HFf;obtain ⟨m,hm,hq⟩:=Option.map_eq_some_iff.1 HFf.out;obtain ⟨hrt,hfs⟩:=Prod.mk.inj hq;have HRt:=h_ hrt;have HFs:=h_ hfs;have hd1:=(HDp.out _ _ m.1 m.2 hm).trans hd0;have KL:=h_ (HRec.out 1 1 s11 m.1 m.2 _ rfl (by decide) hm HS11.out.rs);clear hm hq hfs hrt HFf hd0;go_simp
       repeat (first|go_values|go_skip|go_guarded|go_step|go_upon)
       refine Calls.mono KL.out ?_;rintro e W11 ⟨y,rfl,hty,hpy,hly⟩;have hsz:w.heap.size<W10.heap.size:=HS11.out.res.lt;have HS12:=h_ (HS11.out.call hpy hly);have HT12:=h_ (hty.mono (B:=fun g=>w.heap.size<g/\g<W11.heap.size) fun g h1 h2=>⟨by omega,h2⟩);clear hty hpy hly HS11 KL;obtain ⟨xk,xo,xs,xt,xn,xla,xln,xlc⟩:=y;simp only [PN.v];go_simp
       repeat (first|go_values|go_skip|go_guarded|go_step|go_upon)
       have hsz2:w.heap.size<W11.heap.size:=HS12.out.res.lt;have hx13:Ext W11 (W11.alloc (.cells #[.int .i64 xk,.int .i64 xo,.string xs,.string xt,.int .i64 xn,.slice xla xln xlc] 24)):=(Ext.refl W11).alloc _;have HV13:=h_ (Blk.new W11 #[.int .i64 xk,.int .i64 xo,.string xs,.string xt,.int .i64 xn,.slice xla xln xlc] 24 rfl);have HS13:=h_ (HS12.out.ext hx13);have HT13:=h_ (HT12.out.later (p:=p) (fun g h=>by have:=HS12.out.hp;omega) (LeP.ofExt hx13));clear hx13 HS12 HT12;generalize (W11.alloc (.cells #[.int .i64 xk,.int .i64 xo,.string xs,.string xt,.int .i64 xn,.slice xla xln xlc] 24))=W13 at HV13 HS13 HT13 |-;generalize W11.heap.size=b1 at HV13 HT13 hsz2 |-;refine Calls.mono (KW.out m.2 ⟨#[65,83]⟩ W13 HS13.out.rs) ?_;rw [show bsl ⟨#[65,83]⟩=[65,83] from rfl];rintro e W14 ⟨rfl,hp14,hl14⟩;have HS14:=h_ (HS13.out.call hp14 hl14);have HV14:=h_ (hl14.blk HV13.out (by have:=HS13.out.hp;omega));have HT14:=h_ (HT13.out.later (p:=p) (fun g h=>by have:=HS13.out.hp;omega) hl14);have hd2:(wantR T long m.2 [65,83]).deep=deep+1:=(deep_want ..).trans hd1;clear hp14 hl14 HS13 HV13 HT13 hd1;generalize wantR T long m.2 [65,83]=s14 at HS14 hd2 HFs HRt |-;go_simp
       repeat (first|go_values|go_skip|go_guarded|go_step|go_upon)
       refine Calls.mono (KY.out s14 W14 HS14.out.rs) ?_;have hd3:(typR T long s14 0 typL).2.deep=deep+1:=(deep_typ ..).trans hd2;generalize typR T long s14 0 typL=q15 at HFs hd3 HRt |-;obtain ⟨Q,s15⟩:=q15;simp only at HFs hd3 HRt |-;rintro e W15 ⟨rfl,hp15,hl15⟩;have HS15:=h_ (HS14.out.call hp15 hl15);have HV15:=h_ (hl15.blk HV14.out (by have:=HS14.out.hp;omega));have HT15:=h_ (HT14.out.later (p:=p) (fun g h=>by have:=HS14.out.hp;omega) hl15);clear hp15 hl15 HS14 HV14 HT14 hd2;go_simp
       repeat (first|go_values|go_skip|go_guarded|go_step|go_upon)
       refine Calls.mono (KW.out s15 ⟨#[41]⟩ W15 HS15.out.rs) ?_;rw [show bsl ⟨#[41]⟩=[41] from rfl];rintro e W9 ⟨rfl,hp9,hl9⟩;have HS9:=h_ (HS15.out.call hp9 hl9);have HV9:=h_ (hl9.blk HV15.out (by have:=HS15.out.hp;omega));have HT9:=h_ (HT15.out.later (p:=p) (fun g h=>by have:=HS15.out.hp;omega) hl9);have hd9:(wantR T long s15 [41]).deep=deep+1:=(deep_want ..).trans hd3;clear hp9 hl9 HS15 HV15 HT15 hd3;generalize wantR T long s15 [41]=s9 at HS9 hd9 HFs;have hdl:=HS9.out.rs.dp;obtain ⟨⟨_,_,k4⟩,_,q4,hpl9⟩:=HS9.out.rs.cells;obtain ⟨D,hD⟩:∃ D:Int,D=(s9.deep:Int):=⟨_,rfl⟩
       rw [<- hD] at k4;have hsub:=IntWalk.i64_in (D - 1) (by omega);have hbp:b1≠p:=by have:=HS9.out.hp;omega
       have HS:=h_ (show Rst w p g cap long T s' (W9.setCell ⟨p,4,none⟩ (.int .i64 (D - 1))) from by rw [hD,<- HFs.out];exact HS9.out.dec (by omega));have HVd:=h_ (HV9.out.other (a:=⟨p,4,none⟩) hbp (.int .i64 (D - 1)));have hD':=h_ hD;clear hD;obtain ⟨cv,fv⟩:=HV9.out.facts;have hvl9:=HV9.out.lt;have hrb:=HS.out.res;have HRr:=h_ hrb;have hrb9:=HS9.out.res;obtain ⟨cr,fr⟩:=hrb9.facts;have hrl:=hrb9.lt;have hpr:p≠w.heap.size:=by have:=HS9.out.hp;omega
       clear hrb hrb9;go_simp
       repeat (first|go_values|go_skip|go_guarded|go_step|go_upon)
       have HSo:=HS.out;have hpw:=HSo.hp;have HTd:=HT9.out.same (w':=W9.setCell ⟨p,4,none⟩ (.int .i64 (D - 1))) (fun g h _=>heap_setCell_other W9 ⟨p,4,none⟩ g _ (by show g≠p;omega)) (by simp);refine bodyPost_ret (ret_ndP rfl _ rfl rfl ((blk6P HRr.out _ _ _ _ _ _).keep ((Ext.refl _).alloc _))) rfl ?_;have hdn:=HSo.done1 12 0 [] [] Q ⟨xk,xo,xs,xt,xn,xla,xln,xlc⟩ m.1 (HTd.mono fun g h _=>h.1);simp only [World.size_setCell] at hdn;rw [<- HRt.out];exact hdn _ _ _ _ _ _
    ·rw [hpar,if_pos rfl] at HFf;rintro e W7 ⟨rfl,hx7⟩;have HS8:=h_ (HS6.out.ext hx7);clear hx7 HS6;have hlt:=isR_lt hpar;go_simp
     repeat (first|go_values|go_skip|go_guarded|go_step|go_upon)
     refine Calls.mono (KD.out s W7 HS8.out.rs) ?_;cases hin:inB s
     ·rw [hin,if_neg (by decide)] at HFf;obtain ⟨rfl,hfs⟩:=Prod.mk.inj (Option.some.inj HFf.out);have HFs:=h_ hfs;clear hfs HFf;rw [HFs.out];rintro e W8 ⟨rfl,hp8,hl8⟩;have HS:=h_ (HS8.out.call hp8 hl8);clear hp8 hl8 HS8;have hrb:=HS.out.res;have HRr:=h_ hrb;obtain ⟨cr,fr⟩:=hrb.facts;have hrl:=hrb.lt;clear hrb;go_simp
      repeat (first|go_values|go_skip|go_guarded|go_step|go_upon)
      refine bodyPost_ret (ret_ndP rfl _ rfl rfl (blk6P HRr.out _ _ _ _ _ _)) rfl ?_;exact HS.out.done ⟨0,0,⟨#[]⟩,⟨#[]⟩,0,none,0,0⟩ _ (.leaf 0 0 [] [] 0) _ _ _ _ _ _
     ·rw [hin,if_pos rfl] at HFf;have hins:inS T long s={ s with deep:=s.deep+1 }:=by unfold inS;rw [hin];rfl
      rw [hins] at HFf |-;obtain ⟨i,deep,at_,er⟩:=s;simp only at he hlt;subst he;simp only at HFf;rintro e W8 ⟨rfl,hp8,hl8⟩;have HS9:=h_ (HS8.out.call hp8 hl8);clear hp8 hl8 HS8;obtain ⟨⟨c1,c2,c4⟩,f1,f4,hpl⟩:=HS9.out.rs.cells;simp only at c1 c2 c4;have hfew:=HS9.out.rs.few;have hsum:=IntWalk.i64_in ((i:Int)+1) (by omega);go_simp
      repeat (first|go_values|go_skip|go_guarded|go_step|go_upon)
      have HS10:=h_ (show Rst w p g cap long T ⟨i+1,deep+1,at_,0⟩ (W8.setCell ⟨p,1,none⟩ (.int .i64 ((i:Int)+1))) from HS9.out.at (i+1) hlt);clear c1 c2 c4 f1 f4 hpl HS9 hsum;generalize W8.setCell ⟨p,1,none⟩ (.int .i64 ((i:Int)+1))=W9 at HS10 |-;simp only [advR] at HFf;obtain ⟨m,hm,hq⟩:=Option.map_eq_some_iff.1 HFf.out;obtain ⟨rfl,hfs⟩:=Prod.mk.inj hq;have HFs:=h_ hfs;have hd1:=HDp.out _ _ m.1 m.2 hm;simp only at hd1;have KL:=h_ (HRec.out 1 1 _ m.1 m.2 _ rfl (by decide) hm HS10.out.rs);clear hm hq hfs HFf;refine Calls.mono KL.out ?_;rintro e W11 ⟨y,rfl,hty,hpy,hly⟩;have hsz:w.heap.size<W9.heap.size:=HS10.out.res.lt;have HS12:=h_ (HS10.out.call hpy hly);have HT12:=h_ (hty.mono (B:=fun g=>w.heap.size<g/\g<W11.heap.size) fun g h1 h2=>⟨by omega,h2⟩);clear hty hpy hly HS10 KL;obtain ⟨xk,xo,xs,xt,xn,xla,xln,xlc⟩:=y;simp only [PN.v];go_simp
      repeat (first|go_values|go_skip|go_guarded|go_step|go_upon)
      have hsz2:w.heap.size<W11.heap.size:=HS12.out.res.lt;have hx13:Ext W11 (W11.alloc (.cells #[.int .i64 xk,.int .i64 xo,.string xs,.string xt,.int .i64 xn,.slice xla xln xlc] 24)):=(Ext.refl W11).alloc _;have HV13:=h_ (Blk.new W11 #[.int .i64 xk,.int .i64 xo,.string xs,.string xt,.int .i64 xn,.slice xla xln xlc] 24 rfl);have HS13:=h_ (HS12.out.ext hx13);have HT13:=h_ (HT12.out.later (p:=p) (fun g h=>by have:=HS12.out.hp;omega) (LeP.ofExt hx13));clear hx13 HS12 HT12;generalize (W11.alloc (.cells #[.int .i64 xk,.int .i64 xo,.string xs,.string xt,.int .i64 xn,.slice xla xln xlc] 24))=W13 at HV13 HS13 HT13 |-;generalize W11.heap.size=b1 at HV13 HT13 hsz2 |-;refine Calls.mono (KW.out m.2 ⟨#[41]⟩ W13 HS13.out.rs) ?_;rw [show bsl ⟨#[41]⟩=[41] from rfl];rintro e W9 ⟨rfl,hp9,hl9⟩;have HS9:=h_ (HS13.out.call hp9 hl9);have HV9:=h_ (hl9.blk HV13.out (by have:=HS13.out.hp;omega));have HT9:=h_ (HT13.out.later (p:=p) (fun g h=>by have:=HS13.out.hp;omega) hl9);have hd9:(wantR T long m.2 [41]).deep=deep+1:=(deep_want ..).trans hd1;clear hp9 hl9 HS13 HV13 HT13 hd1;generalize wantR T long m.2 [41]=s9 at HS9 hd9 HFs;have hdl:=HS9.out.rs.dp;obtain ⟨⟨_,_,k4⟩,_,q4,hpl9⟩:=HS9.out.rs.cells;obtain ⟨D,hD⟩:∃ D:Int,D=(s9.deep:Int):=⟨_,rfl⟩
      rw [<- hD] at k4;have hsub:=IntWalk.i64_in (D - 1) (by omega);have hbp:b1≠p:=by have:=HS9.out.hp;omega
      have HS:=h_ (show Rst w p g cap long T s' (W9.setCell ⟨p,4,none⟩ (.int .i64 (D - 1))) from by rw [hD,<- HFs.out];exact HS9.out.dec (by omega));have HVd:=h_ (HV9.out.other (a:=⟨p,4,none⟩) hbp (.int .i64 (D - 1)));have hD':=h_ hD;clear hD;obtain ⟨cv,fv⟩:=HV9.out.facts;have hvl9:=HV9.out.lt;have hrb:=HS.out.res;have HRr:=h_ hrb;have hrb9:=HS9.out.res;obtain ⟨cr,fr⟩:=hrb9.facts;have hrl:=hrb9.lt;have hpr:p≠w.heap.size:=by have:=HS9.out.hp;omega
      clear hrb hrb9;go_simp
      repeat (first|go_values|go_skip|go_guarded|go_step|go_upon)
      refine bodyPost_ret (ret_ndP rfl _ rfl rfl (blk6P HRr.out _ _ _ _ _ _)) rfl ?_;have HSo:=HS.out;have hpw:=HSo.hp;exact HSo.done ⟨xk,xo,xs,xt,xn,xla,xln,xlc⟩ _ ((HT9.out.same (fun g h _=>heap_setCell_other W9 ⟨p,4,none⟩ g _ (by show g≠p;omega)) (by simp)).mono fun g h _=>h.1) _ _ _ _ _ _
   ·rw [ht3,if_pos rfl] at HFf;obtain ⟨rfl,hfs⟩:=Prod.mk.inj (Option.some.inj HFf.out);subst hfs;rintro e W4b ⟨rfl,hp4,hl4⟩;have HS:=h_ (HS5.out.call (show RsAt W4b p g cap long T (advR s) from hp4) hl4);clear hp4 hl4 HS5 HFf;have hrb:=HS.out.res;have HRr:=h_ hrb;obtain ⟨cr,fr⟩:=hrb.facts;have hrl:=hrb.lt;clear hrb;go_simp
    repeat (first|go_values|go_skip|go_guarded|go_step|go_upon)
    refine bodyPost_ret (ret_ndP rfl _ rfl rfl (blk6P HRr.out _ _ _ _ _ _)) rfl ?_;exact HS.out.done ⟨1,0,⟨#[]⟩,⟨#[]⟩,0,none,0,0⟩ _ (.leaf 1 0 [] [] 0) _ _ _ _ _ _
  ·rw [ht2,if_pos rfl] at HFf;obtain ⟨rfl,hfs⟩:=Prod.mk.inj (Option.some.inj HFf.out);subst hfs;rintro e W4b ⟨rfl,hp4,hl4⟩;have HS:=h_ (HS4.out.call (show RsAt W4b p g cap long T (advR s) from hp4) hl4);clear hp4 hl4 HS4 HFf;have hrb:=HS.out.res;have HRr:=h_ hrb;obtain ⟨cr,fr⟩:=hrb.facts;have hrl:=hrb.lt;clear hrb;go_simp
   repeat (first|go_values|go_skip|go_guarded|go_step|go_upon)
   refine bodyPost_ret (ret_ndP rfl _ rfl rfl (blk6P HRr.out _ _ _ _ _ _)) rfl ?_;exact HS.out.done ⟨1,0,⟨#[]⟩,⟨#[]⟩,1,none,0,0⟩ _ (.leaf 1 0 [] [] 1) _ _ _ _ _ _
 ·rw [ht1,if_pos rfl] at HFf;obtain ⟨rfl,hfs⟩:=Prod.mk.inj (Option.some.inj HFf.out);subst hfs;rintro e W3b ⟨rfl,hp3,hl3⟩;have HS:=h_ (HS3.out.call (show RsAt W3b p g cap long T (advR s) from hp3) hl3);clear hp3 hl3 HS3 HFf;have hrb:=HS.out.res;have HRr:=h_ hrb;obtain ⟨cr,fr⟩:=hrb.facts;have hrl:=hrb.lt;clear hrb;go_simp
  repeat (first|go_values|go_skip|go_guarded|go_step|go_upon)
  refine bodyPost_ret (ret_ndP rfl _ rfl rfl (blk6P HRr.out _ _ _ _ _ _)) rfl ?_;exact HS.out.done ⟨0,0,⟨#[]⟩,⟨#[]⟩,0,none,0,0⟩ _ (.leaf 0 0 [] [] 0) _ _ _ _ _ _
theorem rfirst_any (p g cap long:Nat) (T:List Lx.Tok) (rec:RecR) (hrec:LevOkR p g cap long T rec) (hdp:DeepOk rec) (s:PSt) (r:Tr) (s':PSt) (hf:firstR rec T long s=some (r,s')) (w:World) (h:RsAt w p g cap long T s) :
 Calls Tryz.prog 83 #[.pointer (some ⟨p,0,none⟩)] w (LevPostR p g cap long T r s' w):=by
 unfold firstR at hf;by_cases he:s.e=0
 ·rw [if_neg (by simpa using he)] at hf;by_cases h3:kindR T s=3
  ·rw [if_pos h3] at hf;obtain ⟨rfl,rfl⟩:=Prod.mk.inj (Option.some.inj hf);exact rfirst_int p g cap long T s he h3 w h
  rw [if_neg h3] at hf;by_cases h4:kindR T s=4
  ·rw [if_pos h4] at hf;obtain ⟨rfl,rfl⟩:=Prod.mk.inj (Option.some.inj hf);exact rfirst_text p g cap long T s he h4 w h
  rw [if_neg h4] at hf;by_cases h1:kindR T s=1
  ·rw [if_pos h1] at hf;exact rfirst_name p g cap long T rec hrec hdp s he h1 r s' hf w h
  rw [if_neg h1] at hf;exact rfirst_plain p g cap long T rec hrec hdp s he h3 h4 h1 r s' hf w h
 ·rw [if_pos he] at hf;obtain ⟨rfl,rfl⟩:=Prod.mk.inj (Option.some.inj hf);exact rfirst_err p g cap long T s he w h
def CmpPostR (A:Nat->Prop) (p g cap long:Nat) (T:List Lx.Tok) (r:Tr) (s':PSt) (w:World) (e:Ending) (w':World):Prop:=∃ x:PN,e= .returned x.v/\TrAt (fun g=>A g ∨ w.heap.size<g) w' x r/\RsAt w' p g cap long T s'/\LeP p w w'
theorem RsAt.row {w:World} {p g cap long:Nat} {T:List Lx.Tok} {s:PSt} (h:RsAt w p g cap long T s) {x:Nat} (hp:p≠x) (hg:g≠x) (V:Array Value):RsAt (w.setRow x V) p g cap long T s :=
 ⟨(setRow_other w x p V hp).trans h.blk,h.tok.ext (setRow_other w x g V hg) (by simp),h.ne,h.le,h.cap,h.few,h.dp⟩
structure Cst (w0:World) (A:Nat->Prop) (ya:PN) (ta:Tr) (p g cap long:Nat) (T:List Lx.Tok) (s:PSt) (W:World):Prop where
 rs:RsAt W p g cap long T s
 le:LeP p w0 W
 bx:Blk W w0.heap.size ya.cells 24
 res:Blk W (w0.heap.size+1) z6 24
 tr:TrAt A W ya ta
 hA:∀ g,A g->g<w0.heap.size/\g≠p
 hp:p<w0.heap.size
 hg:g<w0.heap.size
theorem Cst.start {w:World} {A:Nat->Prop} {ya:PN} {ta:Tr} {p g cap long:Nat} {T:List Lx.Tok} {s:PSt} (h:RsAt w p g cap long T s) (hT:TrAt A w ya ta) (hA:∀ g,A g->g<w.heap.size/\g≠p):Cst w A ya ta p g cap long T s ((w.alloc (.cells ya.cells 24)).alloc (.cells z6 24)) :=
 have hx:Ext w ((w.alloc (.cells ya.cells 24)).alloc (.cells z6 24)):=((Ext.refl w).alloc _).alloc _;have hx2:Ext (w.alloc (.cells ya.cells 24)) ((w.alloc (.cells ya.cells 24)).alloc (.cells z6 24)):=(Ext.refl _).alloc _
 ⟨h.ext hx,LeP.ofExt hx,(Blk.new w ya.cells 24 rfl).keep hx2,Blk.new (w.alloc (.cells ya.cells 24)) z6 24 (by simp),hT.later (p:=p) (fun g h=>(hA g h).2) (LeP.ofExt hx),hA,h.blk.lt,h.tok.1⟩
section
variable {w0 W W':World} {A:Nat->Prop} {ya:PN} {ta:Tr} {p g cap long:Nat} {T:List Lx.Tok} {s s':PSt}
theorem Cst.call (h:Cst w0 A ya ta p g cap long T s W) (h1:RsAt W' p g cap long T s') (h2:LeP p W W'):Cst w0 A ya ta p g cap long T s' W' :=
 ⟨h1,h.le.trans h2,h2.blk h.bx (Nat.ne_of_gt h.hp),h2.blk h.res (by have:=h.hp;omega),h.tr.later (p:=p) (fun g k=>(h.hA g k).2) h2,h.hA,h.hp,h.hg⟩
theorem Cst.ext (h:Cst w0 A ya ta p g cap long T s W) (hx:Ext W W'):Cst w0 A ya ta p g cap long T s W':=h.call (h.rs.ext hx) (LeP.ofExt hx)
theorem Cst.at (h:Cst w0 A ya ta p g cap long T s W) (i:Nat) (hi:i<=T.length):Cst w0 A ya ta p g cap long T { s with i:=i } (W.setCell ⟨p,1,none⟩ (.int .i64 i)):=h.call (h.rs.at i hi) (LeP.set 1 _)
theorem Cst.store (h:Cst w0 A ya ta p g cap long T s W) {b:Nat} (hb:w0.heap.size+1<b) (o:Nat) (v:Value):Cst w0 A ya ta p g cap long T s (W.setCell ⟨b,o,none⟩ v) :=
 ⟨h.rs.other (by have:=h.hp;omega) (by have:=h.hg;omega) o v,h.le.other (by omega) o v,h.bx.other (a:=⟨b,o,none⟩) (by show w0.heap.size≠b;omega) v,h.res.other (a:=⟨b,o,none⟩) (by show w0.heap.size+1≠b;omega) v,h.tr.same (fun g k _=>heap_setCell_other W ⟨b,o,none⟩ g v (by have:=(h.hA g k).1;show g≠b;omega)) (by simp),h.hA,h.hp,h.hg⟩
theorem Cst.row (h:Cst w0 A ya ta p g cap long T s W) {b:Nat} (hb:w0.heap.size+1<b) (V:Array Value):Cst w0 A ya ta p g cap long T s (W.setRow b V) :=
 ⟨h.rs.row (by have:=h.hp;omega) (by have:=h.hg;omega) V,h.le.row (by omega) V,(setRow_other W b w0.heap.size V (by omega)).trans h.bx,(setRow_other W b (w0.heap.size+1) V (by omega)).trans h.res,h.tr.row (b:=b) (fun g k=>by have:=(h.hA g k).1;omega) V,h.hA,h.hp,h.hg⟩
theorem Cst.fin (h:Cst w0 A ya ta p g cap long T s W) (x:PN) (r:Tr) (hT:TrAt (fun g=>A g ∨ w0.heap.size+1<g) W x r) (a b c d e f:Value):CmpPostR A p g cap long T r s w0 (.returned x.v) ((((((W.setCell ⟨w0.heap.size+1,0,none⟩ a).setCell ⟨w0.heap.size+1,1,none⟩ b).setCell ⟨w0.heap.size+1,2,none⟩ c).setCell ⟨w0.heap.size+1,3,none⟩ d).setCell ⟨w0.heap.size+1,4,none⟩ e).setCell ⟨w0.heap.size+1,5,none⟩ f) :=
 ⟨x,rfl,(hT.set6 (b:=w0.heap.size+1) (fun g k=>by
  rcases k with k|k
  ·have:=(h.hA g k).1;omega
  ·omega) _ _ _ _ _ _).mono (fun g k _=>by
  rcases k with k|k
  ·exact .inl k
  ·exact .inr (by omega)),h.rs.other6 (by have:=h.hp;omega) (by have:=h.hg;omega) _ _ _ _ _ _,h.le.other6 (by omega) _ _ _ _ _ _⟩
theorem Cst.finRow (h:Cst w0 A ya ta p g cap long T s W) (x:PN) (r:Tr) (hT:TrAt (fun g=>A g ∨ w0.heap.size+1<g) W x r) (V:Array Value):CmpPostR A p g cap long T r s w0 (.returned x.v) (W.setRow (w0.heap.size+1) V) :=
 ⟨x,rfl,(hT.row (b:=w0.heap.size+1) (fun g k=>by
  rcases k with k|k
  ·have:=(h.hA g k).1;omega
  ·omega) _).mono (fun g k _=>by
  rcases k with k|k
  ·exact .inl k
  ·exact .inr (by omega)),h.rs.row (by have:=h.hp;omega) (by have:=h.hg;omega) _,h.le.row (by omega) _⟩
end
theorem yields_pushN {o:Oper} {ρ:Operand->Value} {w:World} {Y:Value->World->Prop} {s x:Operand} (ho:o.op= .call { callee:= .builtin .append,args:= #[s,x],argTypes:= #[22,22] })
 (B:Nat) (v:Value) (L:List PN) (hs:ρ s=v) (hown:w.ownsRow B 24 6 v L.length (cellsP L)) (b c:Nat) (N:List PN) (hx:ρ x= .slice (some ⟨b,0,none⟩) N.length c) (hN:∀ (j:Nat) (u:Value),(cellsP N)[j]?=some u->w.cell? ⟨b,j,none⟩=some u)
 (hl:L.length+N.length<=100000) (hB:B<=w.heap.size)
 (h:∀ v' w',w'.ownsRow B 24 6 v' (L.length+N.length) (cellsP (L++N))->w.grownBy w' v.ownBlock->(v'.ownBlock=v.ownBlock ∨ v'.ownBlock=some w.heap.size)->Y v' w'):yields Tryz.prog o ρ w Y:=by
 obtain ⟨i,hi,hz0,hz1,hz2⟩:=info_parts infoNd;obtain ⟨v',w',hr,h2,h3,h4,h5⟩:=run_append_own_at (P:=Tryz.prog) (w:=w) B 22 o.type 24 i _ 6 80 Tryz.underlying22 hi hz0 hz1 hz2 rfl (by decide) v L.length (cellsP L) hown ⟨b,0,none⟩ N.length c (cellsP N) (cellsP_length N) (fun j u hj=>by rw [Addr.add_lit,Nat.zero_add];exact hN j u hj)
  (fun u hu=>by
   simp only [List.mem_flatMap] at hu;obtain ⟨y,_,hy⟩:=hu;simp only [PN.cells,List.mem_cons,List.not_mem_nil,or_false] at hy;rcases hy with rfl|rfl|rfl|rfl|rfl|rfl<;>rfl) (by unfold maxLen;omega) (by omega) hB
 unfold yields execOp;simp only [ho,resolve,invoke,builtin,Sem.run_bind,Sem.run_pure,Result.andThen_ok,List.map_toArray,List.map_cons,List.map_nil,hs,hx,hr];refine h v' w' ?_ h3 h5;rw [show cellsP (L++N)=cellsP L++cellsP N by simp [cellsP]];exact h2
theorem yields_pushNil {o:Oper} {ρ:Operand->Value} {w:World} {Y:Value->World->Prop} {s x:Operand} (ho:o.op= .call { callee:= .builtin .append,args:= #[s,x],argTypes:= #[22,22] })
 (b n c:Nat) (hs:ρ s= .slice (some ⟨b,0,none⟩) n c) (hx:ρ x= .slice none 0 0) (hnc:n<=c) (h:Y (.slice (some ⟨b,0,none⟩) n c) w):yields Tryz.prog o ρ w Y:=by
 obtain ⟨i,hi,hz0,hz1,hz2⟩:=info_parts infoNd;have hr:(Builtin.append_ #[22,22] o.type #[.slice (some ⟨b,0,none⟩) n c,.slice none 0 0]).run Tryz.prog w= .ok (.slice (some ⟨b,0,none⟩) n c) w:=by
  simp [Builtin.append_,run_underlying Tryz.underlying22,sizeOf,typeInfo,hi,Builtin.lenOf,Builtin.firstCells,loadCells,storeCells,hnc]
 unfold yields execOp;simp only [ho,resolve,invoke,builtin,Sem.run_bind,Sem.run_pure,Result.andThen_ok,List.map_toArray,List.map_cons,List.map_nil,hs,hx,hr];exact h
theorem own_blk {w:World} {B gs:Nat} (N:List PN) (hB:B<=gs) (hb:Blk w gs (cellsP N).toArray 24) (hl:N.length<=100000):w.ownsRow B 24 6 (.slice (some ⟨gs,0,none⟩) N.length N.length) N.length (cellsP N) :=
 ⟨cellsP_length N,.inr ⟨gs,N.length,(cellsP N).toArray,rfl,hB,hb,Nat.le_refl _,by unfold maxLen;omega,by rw [List.size_toArray];exact cellsP_length N,by rw [List.toList_toArray,<- cellsP_length N,List.take_length]⟩⟩
theorem pnAt_own {w:World} {B:Nat} {v:Value} {L:List PN} (h:w.ownsRow B 24 6 v L.length (cellsP L)) (h0:0<L.length):∃ g c,v= .slice (some ⟨g,0,none⟩) L.length c/\B<=g/\L.length<=c/\PnAt w g L:=by
 have hx:=h;rcases h.2 with ⟨_,h1⟩|⟨g,cap,cur,hv,hb,hh,hnc,_,_,htake⟩
 ·omega
 ·subst hv;refine ⟨g,cap,rfl,hb,hnc,(Array.getElem?_eq_some_iff.1 hh).1,fun i x hi j hj=>?_⟩;have hil:i<L.length:=(List.getElem?_eq_some_iff.1 hi).1;have h6:i * 6+j<(cellsP L).length:=by rw [cellsP_length];omega
  have e1:=hx.cellAt (i * 6+j) (by rw [cellsP_length] at h6;exact h6);rw [e1];exact cells6_get L i x hi j hj
theorem Cst.grown {w0 W W':World} {A:Nat->Prop} {ya:PN} {ta:Tr} {p g cap long:Nat} {T:List Lx.Tok} {s:PSt} (h:Cst w0 A ya ta p g cap long T s W) {b:Nat} (hg:W.grownBy W' (some b)) (hb:w0.heap.size+1<b):Cst w0 A ya ta p g cap long T s W' :=
 ⟨⟨(hg.block p h.rs.blk.lt (fun e=>by have:=h.hp;have:=Option.some.inj e;omega)).trans h.rs.blk,h.rs.tok.ext (hg.block g h.rs.tok.1 (fun e=>by have:=h.hg;have:=Option.some.inj e;omega)) hg.size,h.rs.ne,h.rs.le,h.rs.cap,h.rs.few,h.rs.dp⟩,
  ⟨hg.os.trans h.le.os,hg.tape.trans h.le.tape,hg.output.trans h.le.out,Nat.le_trans h.le.size hg.size,fun i hi hn=>(hg.block i (Nat.lt_of_lt_of_le hi h.le.size) (fun e=>by have:=Option.some.inj e;omega)).trans (h.le.old i hi hn)⟩,
  (hg.block _ h.bx.lt (fun e=>by have:=Option.some.inj e;omega)).trans h.bx,(hg.block _ h.res.lt (fun e=>by have:=Option.some.inj e;omega)).trans h.res,
  h.tr.same (fun g k hl=>hg.block g hl (fun e=>by have:=(h.hA g k).1;have:=Option.some.inj e;omega)) hg.size,h.hA,h.hp,h.hg⟩
theorem three_kids {A:Nat->Prop} {w:World} {k o n:Int} {s t:List UInt8} {g lc:Nat} {x y z:PN} {a b c:Tr} (hc:3<=lc) (hg:A g) (hP:PnAt w g [x,y,z]) (hx:TrAt A w x a) (hy:TrAt A w y b) (hz:TrAt A w z c):TrAt A w ⟨k,o,⟨s.toArray⟩,⟨t.toArray⟩,n,some ⟨g,0,none⟩,3,lc⟩ (.mk k o s t n [a,b,c]) :=
 .node k o s t n g lc [x,y,z] [a,b,c] rfl (by simp) hc hg hP fun i u v hu hv=>by
  have hi:i=0 ∨ i=1 ∨ i=2:=by have:=(List.getElem?_eq_some_iff.1 hu).1;simp at this;omega
  rcases hi with rfl|rfl|rfl
  ·obtain rfl:=Option.some.inj hu;obtain rfl:=Option.some.inj hv;exact hx
  ·obtain rfl:=Option.some.inj hu;obtain rfl:=Option.some.inj hv;exact hy
  ·obtain rfl:=Option.some.inj hu;obtain rfl:=Option.some.inj hv;exact hz
theorem cons_kids {A:Nat->Prop} {w:World} {k o n:Int} {s t:List UInt8} {g lc m:Nat} {x:PN} {L:List PN} {a:Tr} {l:List Tr} (hm:m=(a::l).length) (hl:L.length=l.length) (hc:m<=lc) (hg:A g) (hP:PnAt w g (x::L)) (hx:TrAt A w x a) (hL:∀ (i:Nat) (u:PN) (v:Tr),L[i]?=some u->l[i]?=some v->TrAt A w u v):TrAt A w ⟨k,o,⟨s.toArray⟩,⟨t.toArray⟩,n,some ⟨g,0,none⟩,m,lc⟩ (.mk k o s t n (a::l)):=by
 subst hm;refine .node k o s t n g lc (x::L) (a::l) (by simp [hl]) (by simp) hc hg hP fun i u v hu hv=>?_;cases i with
 |zero =>
  obtain rfl:=Option.some.inj hu;obtain rfl:=Option.some.inj hv;exact hx
 |succ i=>exact hL i u v (by simpa using hu) (by simpa using hv)
theorem KidsIn.weak {B C:Nat} {W:World} {v:Value} {L:List PN} {out:List Tr} (h:KidsIn B W v L out) (hC:C<=B):KidsIn C W v L out:=by
 refine ⟨h.len,⟨h.own.1,?_⟩,fun i x y h1 h2=>(h.tr i x y h1 h2).mono fun g hg _=>⟨by omega,hg.2⟩⟩;rcases h.own.2 with h1|⟨g,cap,cur,h1,h2,h3⟩
 ·exact .inl h1
 ·exact .inr ⟨g,cap,cur,h1,by omega,h3⟩
def oneR (n0:Nat) (m:Tr) (v:Value) (w:World):Prop:=∃ (gs:Nat) (y:PN),v= .slice (some ⟨gs,0,none⟩) 1 1/\n0<=gs/\Blk w gs y.cells 24/\TrAt (n0<= ·) w y m
def tripR (n0:Nat) (x y:PN) (m:Tr) (v:Value) (w:World):Prop:=∃ (gs:Nat) (z:PN),v= .slice (some ⟨gs,0,none⟩) 3 3/\n0<=gs/\PnAt w gs [x,y,z]/\TrAt (n0<= ·) w z m
def over3R (n0:Nat) (k n:Int) (x y:PN) (m:Tr) (v:Value) (w:World):Prop:=∃ (gs:Nat) (z:PN),v= .agg #[.int .i64 k,.int .i64 0,.string ⟨#[]⟩,.string ⟨#[]⟩,.int .i64 n,.slice (some ⟨gs,0,none⟩) 3 3]/\n0<=gs/\PnAt w gs [x,y,z]/\TrAt (n0<= ·) w z m
def listRR (n0 p g cap long:Nat) (T:List Lx.Tok) (r:List Tr) (s':PSt) (v:Value) (w:World):Prop:=∃ L:List PN,KidsIn n0 w v L r/\RsAt w p g cap long T s'
theorem len_listLoop {rec:RecR} (hr:IncOk rec) (T:List Lx.Tok):∀ (f:Nat) (out:List Tr) (s:PSt) (r:List Tr) (s':PSt),listLoopR rec T f out s=some (r,s')->out.length<=s.i->r.length<=s'.i+1
 |0,_,_,_,_,h,_=>by cases h
 |f+1,out,s,r,s',h,ho=>by
  unfold listLoopR at h;split at h
  ·obtain ⟨m,hm,hq⟩:=Option.bind_eq_some_iff.1 h;have h1:=hr _ _ m.1 m.2 hm;split at hq
   ·exact len_listLoop hr T f _ _ _ _ hq (by rw [List.length_append];simp only [List.length_cons,List.length_nil,advR];omega)
   ·obtain ⟨rfl,rfl⟩:=Prod.mk.inj (Option.some.inj hq);rw [List.length_append];simp only [List.length_cons,List.length_nil];omega
  ·obtain ⟨rfl,rfl⟩:=Prod.mk.inj (Option.some.inj h);omega
theorem len_list {rec:RecR} (hr:IncOk rec) (T:List Lx.Tok) (long f:Nat) (s:PSt) (r:List Tr) (s':PSt) (h:listR rec T long f s=some (r,s')):r.length<=s'.i+1:=by
 unfold listR at h;split at h
 ·split at h
  ·obtain ⟨m,hm,hq⟩:=Option.map_eq_some_iff.1 h;obtain ⟨rfl,rfl⟩:=Prod.mk.inj hq;have h1:=len_listLoop hr T f [] _ m.1 m.2 hm (Nat.zero_le _);have h2:=inc_want T long m.2 [41];exact Nat.le_trans h1 (Nat.succ_le_succ h2)
  ·obtain ⟨rfl,rfl⟩:=Prod.mk.inj (Option.some.inj h);exact Nat.zero_le _
 ·obtain ⟨rfl,rfl⟩:=Prod.mk.inj (Option.some.inj h);exact Nat.zero_le _
def ntI (nt:Bool):Int:=if nt=true then 1 else 0
end Go.Proofs.YtimeipjcmffadaaGreatDoor
