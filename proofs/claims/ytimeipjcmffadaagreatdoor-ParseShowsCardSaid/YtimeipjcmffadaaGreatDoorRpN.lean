import Derived.Test.YtimeipjcmffadaaGreatDoorRpM
set_option maxHeartbeats 16000000
namespace Go.Proofs.YtimeipjcmffadaaGreatDoor
open Go.RowKit Go.Lib
set_option maxRecDepth 100000
theorem LevPostR.ext {p g cap long:Nat} {T:List Lx.Tok} {r:Tr} {s':PSt} {w:World} {e:Ending} {W W':World} (h:LevPostR p g cap long T r s' w e W) (hx:Ext W W'):LevPostR p g cap long T r s' w e W':=by
 obtain ⟨x,h1,h2,h3,h4⟩:=h;exact ⟨x,h1,h2.same (fun g _ hl=>hx.block g hl) hx.size,h3.ext hx,h4.trans (LeP.ofExt hx)⟩
theorem none_expr (T:List Lx.Tok) (long:Nat):∀ (f k:Nat) (s:PSt),12<=k->s.e=0->rExpr T long f k s=none
 |0,_,_,_,_=>rfl
 |f+1,k,s,hk,he=>by
  rw [rExpr,if_neg (by simpa using he),if_neg (by omega),if_neg (by omega),if_neg (by omega),if_neg (by omega),none_expr T long f (k+1) s (by omega) he];rfl
theorem rexpr_err (p g cap long:Nat) (T:List Lx.Tok) (kz:Int) (s:PSt) (he:s.e≠0) (w:World) (h:RsAt w p g cap long T s) :
 Calls Tryz.prog 45 #[.pointer (some ⟨p,0,none⟩),.int .i64 kz] w (LevPostR p g cap long T zTr s w):=by
 have HS:=h_ (show Rst w p g cap long T s (w.alloc (.cells #[.int .i64 0,.int .i64 0,.string ⟨#[]⟩,.string ⟨#[]⟩,.int .i64 0,.slice none 0 0] 24)) from Rst.start h);have heb:(s.e !=0)=true:=by simpa [bne] using he
 clear h;go_enter Tryz.func45,Tryz.ntmps45;go_upto_region 1 with (fail)
 generalize (w.alloc (.cells #[.int .i64 0,.int .i64 0,.string ⟨#[]⟩,.string ⟨#[]⟩,.int .i64 0,.slice none 0 0] 24))=W0 at HS |-;obtain ⟨⟨c1,c2,c4⟩,f1,f4,hpl⟩:=HS.out.rs.cells;obtain ⟨E,hE⟩:∃ E,E=s.e:=⟨_,rfl⟩
 rw [<- hE] at c2 heb;clear hE he;have hrb:=HS.out.res;have HRr:=h_ hrb;obtain ⟨cr,fr⟩:=hrb.facts;have hrl:=hrb.lt;clear hrb;go_simp
 repeat (first|go_values|go_skip|go_guarded|go_step|go_upon)
 refine bodyPost_ret (ret_ndP rfl _ rfl rfl (blk6P HRr.out _ _ _ _ _ _)) rfl ?_;exact HS.out.done ⟨0,0,⟨#[]⟩,⟨#[]⟩,0,none,0,0⟩ _ (.leaf 0 0 [] [] 0) _ _ _ _ _ _
theorem rexpr_not (p g cap long:Nat) (T:List Lx.Tok) (rec:RecR) (hrec:LevOkR p g cap long T rec) (hdp:DeepOk rec) (s:PSt) (he:s.e=0) (r:Tr) (s':PSt) (w:World) (hf:unR rec T long 3 [78,79,84] 21 s=some (r,s')) (h:RsAt w p g cap long T s) :
 Calls Tryz.prog 45 #[.pointer (some ⟨p,0,none⟩),.int .i64 3] w (LevPostR p g cap long T r s' w):=by
 have mixed:Tryz.prog.follows .mixedOrders=true:=by kernel_rfl
 have HS0:=h_ (show Rst w p g cap long T s (w.alloc (.cells #[.int .i64 0,.int .i64 0,.string ⟨#[]⟩,.string ⟨#[]⟩,.int .i64 0,.slice none 0 0] 24)) from Rst.start h);have KI:=h_ (fun (s:PSt) (x:ByteArray) W (hW:RsAt W p g cap long T s)=>ris_any p g cap long T s x W hW);have KD:=h_ (fun (s:PSt) W (hW:RsAt W p g cap long T s)=>rin_any p g cap long T s W hW);have HRec:=h_ hrec;have HDp:=h_ hdp;have HFf:=h_ hf;clear h hrec hdp hf;go_enter Tryz.func45,Tryz.ntmps45;go_upto_region 1 with (fail)
 generalize (w.alloc (.cells #[.int .i64 0,.int .i64 0,.string ⟨#[]⟩,.string ⟨#[]⟩,.int .i64 0,.slice none 0 0] 24))=W0 at HS0 |-;obtain ⟨⟨c1,c2,c4⟩,f1,f4,hpl⟩:=HS0.out.rs.cells;rw [he] at c2;unfold unR at HFf;go_simp
 repeat (first|go_values|go_skip|go_guarded|go_step|go_upon)
 refine Calls.mono (KI.out s ⟨#[78,79,84]⟩ W0 HS0.out.rs) ?_;rw [show bsl ⟨#[78,79,84]⟩=[78,79,84] from rfl];cases his:isR T s [78,79,84]
 ·rw [his,if_neg (by decide)] at HFf;rintro e W1 ⟨rfl,hx1⟩;have HS1:=h_ (HS0.out.ext hx1);have KL:=h_ (HRec.out (3+1) (3+1) s r s' W1 rfl (by decide) HFf.out HS1.out.rs);clear hx1 HS0 c1 c2 c4 f1 f4 hpl HFf;go_simp
  repeat (first|go_values|go_skip|go_guarded|go_step|go_upon)
  refine Calls.mono KL.out ?_;rintro e W3 ⟨y,rfl,hty,hpy,hly⟩;have hsz:w.heap.size<W1.heap.size:=HS1.out.res.lt;have HS:=h_ (HS1.out.call hpy hly);have HT:=h_ (hty.mono (B:=(w.heap.size< ·)) fun g h1 _=>by show w.heap.size<g;omega);clear hty hpy hly HS1 KL;obtain ⟨xk,xo,xs,xt,xn,xla,xln,xlc⟩:=y;simp only [PN.v];have hrb:=HS.out.res;have HRr:=h_ hrb;obtain ⟨cr,fr⟩:=hrb.facts;have hrl:=hrb.lt;clear hrb;go_simp
  repeat (first|go_values|go_skip|go_guarded|go_step|go_upon)
  refine bodyPost_ret (ret_ndP rfl _ rfl rfl (blk6P HRr.out _ _ _ _ _ _)) rfl ?_;exact HS.out.done ⟨xk,xo,xs,xt,xn,xla,xln,xlc⟩ _ HT.out _ _ _ _ _ _
 ·rw [his,if_pos rfl] at HFf;have hlt:=isR_lt his;rintro e W1 ⟨rfl,hx1⟩;have HS1:=h_ (HS0.out.ext hx1);clear hx1 HS0 c1 c2 c4 f1 f4 hpl;go_simp
  repeat (first|go_values|go_skip|go_guarded|go_step|go_upon)
  refine Calls.mono (KD.out s W1 HS1.out.rs) ?_;cases hin:inB s
  ·rw [hin,if_neg (by decide)] at HFf;obtain ⟨rfl,hfs⟩:=Prod.mk.inj (Option.some.inj HFf.out);have HFs:=h_ hfs;clear hfs HFf;rw [HFs.out];rintro e W2 ⟨rfl,hp2,hl2⟩;have HS:=h_ (HS1.out.call hp2 hl2);clear hp2 hl2 HS1;have hrb:=HS.out.res;have HRr:=h_ hrb;obtain ⟨cr,fr⟩:=hrb.facts;have hrl:=hrb.lt;clear hrb;go_simp
   repeat (first|go_values|go_skip|go_guarded|go_step|go_upon)
   refine bodyPost_ret (ret_ndP rfl _ rfl rfl (blk6P HRr.out _ _ _ _ _ _)) rfl ?_;exact HS.out.done ⟨0,0,⟨#[]⟩,⟨#[]⟩,0,none,0,0⟩ _ (.leaf 0 0 [] [] 0) _ _ _ _ _ _
  ·rw [hin,if_pos rfl] at HFf;have hins:inS T long s={ s with deep:=s.deep+1 }:=by unfold inS;rw [hin];rfl
   rw [hins] at HFf |-;obtain ⟨i,deep,at_,er⟩:=s;simp only at he hlt;subst he;simp only [advR] at HFf;rintro e W2 ⟨rfl,hp2,hl2⟩;have HS2:=h_ (HS1.out.call hp2 hl2);clear hp2 hl2 HS1;obtain ⟨⟨c1,c2,c4⟩,f1,f4,hpl⟩:=HS2.out.rs.cells;simp only at c1 c2 c4;have hfew:=HS2.out.rs.few;have hsum:=IntWalk.i64_in ((i:Int)+1) (by omega);go_simp
   repeat (first|go_values|go_skip|go_guarded|go_step|go_upon)
   have HS3:=h_ (show Rst w p g cap long T ⟨i+1,deep+1,at_,0⟩ (W2.setCell ⟨p,1,none⟩ (.int .i64 ((i:Int)+1))) from HS2.out.at (i+1) hlt);clear c1 c2 c4 f1 f4 hpl HS2 hsum;generalize W2.setCell ⟨p,1,none⟩ (.int .i64 ((i:Int)+1))=W3 at HS3 |-;obtain ⟨m,hm,hq⟩:=Option.map_eq_some_iff.1 HFf.out;obtain ⟨rfl,hfs⟩:=Prod.mk.inj hq;have HFs:=h_ hfs;have hd1:=HDp.out _ _ m.1 m.2 hm;simp only at hd1;have KL:=h_ (HRec.out 3 3 _ m.1 m.2 _ rfl (by decide) hm HS3.out.rs);clear hm hq hfs HFf;refine Calls.mono KL.out ?_;rintro e W9 ⟨y,rfl,hty,hpy,hly⟩;have hsz:w.heap.size<W3.heap.size:=HS3.out.res.lt;have HS9:=h_ (HS3.out.call hpy hly);have HT9:=h_ (hty.mono (B:=(w.heap.size< ·)) fun g h1 _=>by show w.heap.size<g;omega);clear hty hpy hly HS3 KL;obtain ⟨xk,xo,xs,xt,xn,xla,xln,xlc⟩:=y;simp only [PN.v];obtain ⟨s9,hs9⟩:∃ s9,s9=m.2:=⟨_,rfl⟩
   rw [<- hs9] at HS9 HFs hd1;clear hs9;obtain ⟨⟨_,_,k4⟩,_,q4,hpl9⟩:=HS9.out.rs.cells;obtain ⟨D,hD⟩:∃ D:Int,D=(s9.deep:Int):=⟨_,rfl⟩
   rw [<- hD] at k4;have hdl:=HS9.out.rs.dp;have hsub:=IntWalk.i64_in (D - 1) (by omega);have HS:=h_ (show Rst w p g cap long T s' (W9.setCell ⟨p,4,none⟩ (.int .i64 (D - 1))) from by rw [hD,<- HFs.out];exact HS9.out.dec (by omega));have HD:=h_ hD;clear hD;have hrb:=HS.out.res;have HRr:=h_ hrb;have hrb9:=HS9.out.res;obtain ⟨cr,fr⟩:=hrb9.facts;have hrl:=hrb9.lt;have hp0:=HS9.out.hp;have hpr:p≠w.heap.size:=by omega
   clear hrb hrb9;go_simp
   repeat (first|go_values|go_skip|go_guarded|go_step|go_upon)
   have HTd:=HT9.out.same (w':=W9.setCell ⟨p,4,none⟩ (.int .i64 (D - 1))) (fun g h _=>heap_setCell_other W9 ⟨p,4,none⟩ g _ (by show g≠p;omega)) (by simp);refine bodyPost_ret (ret_ndP rfl _ rfl rfl (((blk6P HRr.out _ _ _ _ _ _).keep ((Ext.refl _).alloc _)).keep ((Ext.refl _).alloc _))) rfl ?_;have hdn:=HS.out.done1 5 21 [] [] 0 ⟨xk,xo,xs,xt,xn,xla,xln,xlc⟩ m.1 HTd;simp only [World.size_setCell] at hdn;exact (hdn _ _ _ _ _ _).ext ((Ext.refl _).alloc _)
theorem rexpr_neg (p g cap long:Nat) (T:List Lx.Tok) (rec:RecR) (hrec:LevOkR p g cap long T rec) (hdp:DeepOk rec) (s:PSt) (he:s.e=0) (r:Tr) (s':PSt) (w:World) (hf:unR rec T long 10 [45] 20 s=some (r,s')) (h:RsAt w p g cap long T s) :
 Calls Tryz.prog 45 #[.pointer (some ⟨p,0,none⟩),.int .i64 10] w (LevPostR p g cap long T r s' w):=by
 have mixed:Tryz.prog.follows .mixedOrders=true:=by kernel_rfl
 have HS0:=h_ (show Rst w p g cap long T s (w.alloc (.cells #[.int .i64 0,.int .i64 0,.string ⟨#[]⟩,.string ⟨#[]⟩,.int .i64 0,.slice none 0 0] 24)) from Rst.start h);have KI:=h_ (fun (s:PSt) (x:ByteArray) W (hW:RsAt W p g cap long T s)=>ris_any p g cap long T s x W hW);have KD:=h_ (fun (s:PSt) W (hW:RsAt W p g cap long T s)=>rin_any p g cap long T s W hW);have HRec:=h_ hrec;have HDp:=h_ hdp;have HFf:=h_ hf;clear h hrec hdp hf;go_enter Tryz.func45,Tryz.ntmps45;go_upto_region 1 with (fail)
 generalize (w.alloc (.cells #[.int .i64 0,.int .i64 0,.string ⟨#[]⟩,.string ⟨#[]⟩,.int .i64 0,.slice none 0 0] 24))=W0 at HS0 |-;obtain ⟨⟨c1,c2,c4⟩,f1,f4,hpl⟩:=HS0.out.rs.cells;rw [he] at c2;unfold unR at HFf;go_simp
 repeat (first|go_values|go_skip|go_guarded|go_step|go_upon)
 refine Calls.mono (KI.out s ⟨#[45]⟩ W0 HS0.out.rs) ?_;rw [show bsl ⟨#[45]⟩=[45] from rfl];cases his:isR T s [45]
 ·rw [his,if_neg (by decide)] at HFf;rintro e W1 ⟨rfl,hx1⟩;have HS1:=h_ (HS0.out.ext hx1);have KL:=h_ (HRec.out (10+1) (10+1) s r s' W1 rfl (by decide) HFf.out HS1.out.rs);clear hx1 HS0 c1 c2 c4 f1 f4 hpl HFf;go_simp
  repeat (first|go_values|go_skip|go_guarded|go_step|go_upon)
  refine Calls.mono KL.out ?_;rintro e W3 ⟨y,rfl,hty,hpy,hly⟩;have hsz:w.heap.size<W1.heap.size:=HS1.out.res.lt;have HS:=h_ (HS1.out.call hpy hly);have HT:=h_ (hty.mono (B:=(w.heap.size< ·)) fun g h1 _=>by show w.heap.size<g;omega);clear hty hpy hly HS1 KL;obtain ⟨xk,xo,xs,xt,xn,xla,xln,xlc⟩:=y;simp only [PN.v];have hrb:=HS.out.res;have HRr:=h_ hrb;obtain ⟨cr,fr⟩:=hrb.facts;have hrl:=hrb.lt;clear hrb;go_simp
  repeat (first|go_values|go_skip|go_guarded|go_step|go_upon)
  refine bodyPost_ret (ret_ndP rfl _ rfl rfl (blk6P HRr.out _ _ _ _ _ _)) rfl ?_;exact HS.out.done ⟨xk,xo,xs,xt,xn,xla,xln,xlc⟩ _ HT.out _ _ _ _ _ _
 ·rw [his,if_pos rfl] at HFf;have hlt:=isR_lt his;rintro e W1 ⟨rfl,hx1⟩;have HS1:=h_ (HS0.out.ext hx1);clear hx1 HS0 c1 c2 c4 f1 f4 hpl;go_simp
  repeat (first|go_values|go_skip|go_guarded|go_step|go_upon)
  refine Calls.mono (KD.out s W1 HS1.out.rs) ?_;cases hin:inB s
  ·rw [hin,if_neg (by decide)] at HFf;obtain ⟨rfl,hfs⟩:=Prod.mk.inj (Option.some.inj HFf.out);have HFs:=h_ hfs;clear hfs HFf;rw [HFs.out];rintro e W2 ⟨rfl,hp2,hl2⟩;have HS:=h_ (HS1.out.call hp2 hl2);clear hp2 hl2 HS1;have hrb:=HS.out.res;have HRr:=h_ hrb;obtain ⟨cr,fr⟩:=hrb.facts;have hrl:=hrb.lt;clear hrb;go_simp
   repeat (first|go_values|go_skip|go_guarded|go_step|go_upon)
   refine bodyPost_ret (ret_ndP rfl _ rfl rfl (blk6P HRr.out _ _ _ _ _ _)) rfl ?_;exact HS.out.done ⟨0,0,⟨#[]⟩,⟨#[]⟩,0,none,0,0⟩ _ (.leaf 0 0 [] [] 0) _ _ _ _ _ _
  ·rw [hin,if_pos rfl] at HFf;have hins:inS T long s={ s with deep:=s.deep+1 }:=by unfold inS;rw [hin];rfl
   rw [hins] at HFf |-;obtain ⟨i,deep,at_,er⟩:=s;simp only at he hlt;subst he;simp only [advR] at HFf;rintro e W2 ⟨rfl,hp2,hl2⟩;have HS2:=h_ (HS1.out.call hp2 hl2);clear hp2 hl2 HS1;obtain ⟨⟨c1,c2,c4⟩,f1,f4,hpl⟩:=HS2.out.rs.cells;simp only at c1 c2 c4;have hfew:=HS2.out.rs.few;have hsum:=IntWalk.i64_in ((i:Int)+1) (by omega);go_simp
   repeat (first|go_values|go_skip|go_guarded|go_step|go_upon)
   have HS3:=h_ (show Rst w p g cap long T ⟨i+1,deep+1,at_,0⟩ (W2.setCell ⟨p,1,none⟩ (.int .i64 ((i:Int)+1))) from HS2.out.at (i+1) hlt);clear c1 c2 c4 f1 f4 hpl HS2 hsum;generalize W2.setCell ⟨p,1,none⟩ (.int .i64 ((i:Int)+1))=W3 at HS3 |-;obtain ⟨m,hm,hq⟩:=Option.map_eq_some_iff.1 HFf.out;obtain ⟨rfl,hfs⟩:=Prod.mk.inj hq;have HFs:=h_ hfs;have hd1:=HDp.out _ _ m.1 m.2 hm;simp only at hd1;have KL:=h_ (HRec.out 10 10 _ m.1 m.2 _ rfl (by decide) hm HS3.out.rs);clear hm hq hfs HFf;refine Calls.mono KL.out ?_;rintro e W9 ⟨y,rfl,hty,hpy,hly⟩;have hsz:w.heap.size<W3.heap.size:=HS3.out.res.lt;have HS9:=h_ (HS3.out.call hpy hly);have HT9:=h_ (hty.mono (B:=(w.heap.size< ·)) fun g h1 _=>by show w.heap.size<g;omega);clear hty hpy hly HS3 KL;obtain ⟨xk,xo,xs,xt,xn,xla,xln,xlc⟩:=y;simp only [PN.v];obtain ⟨s9,hs9⟩:∃ s9,s9=m.2:=⟨_,rfl⟩
   rw [<- hs9] at HS9 HFs hd1;clear hs9;obtain ⟨⟨_,_,k4⟩,_,q4,hpl9⟩:=HS9.out.rs.cells;obtain ⟨D,hD⟩:∃ D:Int,D=(s9.deep:Int):=⟨_,rfl⟩
   rw [<- hD] at k4;have hdl:=HS9.out.rs.dp;have hsub:=IntWalk.i64_in (D - 1) (by omega);have HS:=h_ (show Rst w p g cap long T s' (W9.setCell ⟨p,4,none⟩ (.int .i64 (D - 1))) from by rw [hD,<- HFs.out];exact HS9.out.dec (by omega));have HD:=h_ hD;clear hD;have hrb:=HS.out.res;have HRr:=h_ hrb;have hrb9:=HS9.out.res;obtain ⟨cr,fr⟩:=hrb9.facts;have hrl:=hrb9.lt;have hp0:=HS9.out.hp;have hpr:p≠w.heap.size:=by omega
   clear hrb hrb9;go_simp
   repeat (first|go_values|go_skip|go_guarded|go_step|go_upon)
   have HTd:=HT9.out.same (w':=W9.setCell ⟨p,4,none⟩ (.int .i64 (D - 1))) (fun g h _=>heap_setCell_other W9 ⟨p,4,none⟩ g _ (by show g≠p;omega)) (by simp);refine bodyPost_ret (ret_ndP rfl _ rfl rfl (((blk6P HRr.out _ _ _ _ _ _).keep ((Ext.refl _).alloc _)).keep ((Ext.refl _).alloc _))) rfl ?_;have hdn:=HS.out.done1 5 20 [] [] 0 ⟨xk,xo,xs,xt,xn,xla,xln,xlc⟩ m.1 HTd;simp only [World.size_setCell] at hdn;exact (hdn _ _ _ _ _ _).ext ((Ext.refl _).alloc _)
theorem rexpr_four (p g cap long:Nat) (T:List Lx.Tok) (rec:RecR) (hrec:LevOkR p g cap long T rec) (hdp:DeepOk rec) (hinc:IncOk rec) (f:Nat) (s:PSt) (he:s.e=0) (r:Tr) (s':PSt) (w:World) (hf:((rec 5 s).bind fun m=>compareR rec T long f m.1 m.2)=some (r,s')) (h:RsAt w p g cap long T s) :
 Calls Tryz.prog 45 #[.pointer (some ⟨p,0,none⟩),.int .i64 4] w (LevPostR p g cap long T r s' w):=by
 have mixed:Tryz.prog.follows .mixedOrders=true:=by kernel_rfl
 have HS0:=h_ (show Rst w p g cap long T s (w.alloc (.cells #[.int .i64 0,.int .i64 0,.string ⟨#[]⟩,.string ⟨#[]⟩,.int .i64 0,.slice none 0 0] 24)) from Rst.start h);have KC:=h_ (fun (A:Nat->Prop) (ya:PN) (ta:Tr) (s:PSt) W (hf:compareR rec T long f ta s=some (r,s')) (hW:RsAt W p g cap long T s) (hA:∀ g,A g->g<W.heap.size/\g≠p) (hT:TrAt A W ya ta)=>rcompare_any A ya ta p g cap long T rec hrec hdp hinc f s r s' W hf hW hA hT);obtain ⟨m,hm,hq⟩:=Option.bind_eq_some_iff.1 hf;have HQ:=h_ hq;have KL:=h_ (fun W (hW:RsAt W p g cap long T s)=>hrec 5 5 s m.1 m.2 W rfl (by decide) hm hW);clear h hrec hdp hinc hf hm hq;go_enter Tryz.func45,Tryz.ntmps45;go_upto_region 1 with (fail)
 generalize (w.alloc (.cells #[.int .i64 0,.int .i64 0,.string ⟨#[]⟩,.string ⟨#[]⟩,.int .i64 0,.slice none 0 0] 24))=W0 at HS0 |-;obtain ⟨⟨c1,c2,c4⟩,f1,f4,hpl⟩:=HS0.out.rs.cells;rw [he] at c2;go_simp
 repeat (first|go_values|go_skip|go_guarded|go_step|go_upon)
 refine Calls.mono (KL.out W0 HS0.out.rs) ?_;rintro e W1 ⟨y,rfl,hty,hpy,hly⟩;have hsz:w.heap.size<W0.heap.size:=HS0.out.res.lt;have HS1:=h_ (HS0.out.call hpy hly);have HT1:=h_ (hty.mono (B:=fun g=>w.heap.size<g/\g<W1.heap.size/\g≠p) fun g h1 h2=>⟨by omega,h2,by have:=HS0.out.hp;omega⟩);clear hty hpy hly HS0 c1 c2 c4 f1 f4 hpl;have KC2:=h_ (KC.out _ y m.1 m.2 W1 HQ.out HS1.out.rs (fun g h=>h.2) HT1.out);obtain ⟨xk,xo,xs,xt,xn,xla,xln,xlc⟩:=y;simp only [PN.v] at KC2 |-;go_simp
 repeat (first|go_values|go_skip|go_guarded|go_step|go_upon)
 refine Calls.mono KC2.out ?_;rintro e W2 ⟨y,rfl,hty,hpy,hly⟩;have hsz1:w.heap.size<W1.heap.size:=HS1.out.res.lt;have HS:=h_ (HS1.out.call hpy hly);have HT:=h_ (hty.mono (B:=(w.heap.size< ·)) fun g h1 _=>by
  show w.heap.size<g;rcases h1 with h1|h1
  ·exact h1.1
  ·omega)
 clear hty hpy hly HS1 HT1 KC2 KL HQ;obtain ⟨zk,zo,zs,zt,zn,zla,zln,zlc⟩:=y;simp only [PN.v];have hrb:=HS.out.res;have HRr:=h_ hrb;obtain ⟨cr,fr⟩:=hrb.facts;have hrl:=hrb.lt;clear hrb;go_simp
 repeat (first|go_values|go_skip|go_guarded|go_step|go_upon)
 refine bodyPost_ret (ret_ndP rfl _ rfl rfl (blk6P HRr.out _ _ _ _ _ _)) rfl ?_;exact HS.out.done ⟨zk,zo,zs,zt,zn,zla,zln,zlc⟩ _ HT.out _ _ _ _ _ _
end Go.Proofs.YtimeipjcmffadaaGreatDoor
