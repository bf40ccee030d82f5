import Derived.Test.YtimeipjcmffadaaGreatDoorSnE
namespace Go.Proofs.YtimeipjcmffadaaGreatDoor
open Go.RowKit Go.Lib
set_option maxRecDepth 100000
set_option maxHeartbeats 16000000 in
theorem test_in (w0:World) (B q:Nat) (A:Nat->Prop) (l:List Tr) (hf:∀ z,z∈l->BareP w0 B q z) (hfz:BareP w0 B q zTr) (x:PN) (k o:Int) (s t:List UInt8) (n:Int) (hT:TrIn A w0 x (.mk k o s t n l)) (hA:∀ g,A g->g<B) (hl20:l.length<=20) (ws:Wds) (w:World) (hP:Pst w0 B q ws w) (hlen:ws.length+(pwTest k n (pwTs l)).length<=500000) (hk:k=8 ∨ k=9 ∨ k=10) :
 Calls Tryz.prog 101 #[.pointer (some ⟨q,0,none⟩),x.v] w (PPost w0 B q (ws++pwTest k n (pwTs l)) w):=by
 have H0:=h_ (Pbx.start hP x.cells);have KP:=h_ (fun ws xs b m W a b' c d=>put_st w0 B q ws xs b m W a b' c d);have KA:=h_ (fun (i:Nat) W (hb:Below B w0 W)=>at_in w0 B A x (.mk k o s t n l) i hT hA W hb);have KN:=h_ (fun (i:Nat) (y:PN) (lv:Int) (ws:Wds) (W:World) (a:TrIn A w0 y ((l[i]?).getD zTr)) b c=>kid_in w0 B q A l hf hfz hA i y lv ws W a b c);have KT:=h_ (fun (ws:Wds) W a b=>not_in w0 B q x ws W a b);have KL:=h_ (fun (ws:Wds) W a b=>nodes_in w0 B q A x.la x.ln x.lc l hf hT.parts.2.2.2.2.2 hA (by omega) ws W a b);have KL1:=h_ (fun (h0:0<l.length) (ws:Wds) W a b=>nodes1_in w0 B q A x.la x.ln x.lc l hf hT.parts.2.2.2.2.2 hA (by omega) h0 ws W a b);obtain ⟨e1,e2,e3,e4,e5,hK⟩:=hT.parts;have HK:=h_ hK;have HA:=h_ hA;have hxl:=hK.len;have HLl:=h_ (pwTs_len l);obtain ⟨out,hout⟩:∃ out,out=pwTest k n (pwTs l):=⟨_,rfl⟩
 rw [<- hout] at hlen |-;unfold pwTest at hout;have hnt:(pwNot n).length<=1:=by unfold pwNot;split<;>simp
 have HO:=h_ hout;clear hout;obtain ⟨xk,xo,xs,xt,xn,xla,xln,xlc⟩:=x;simp only at e1 e2 e3 e4 e5 hK hxl;simp only [PN.cells,PN.v] at *;subst e1 e5;have KLe:=h_ (fun (la':Option Addr) (lc':Nat) (ws:Wds) W (a:Pst w0 B q ws W) (b:ws.length+0<=500000)=>show Calls Tryz.prog 164 #[.pointer (some ⟨q,0,none⟩),.slice la' 0 lc'] W (PPost w0 B q (ws++[]) W) from by
  have h:=nodes_in w0 B q A la' 0 lc' [] (fun z hz=>by cases hz) (.inl ⟨rfl,rfl⟩) hA (by simp) ws W a (by simpa [pwTs,pwList] using b);simpa [pwTs,pwList] using h)
 have HXl:=h_ hxl;clear hxl;clear hT hA hP hf hfz hK e2 e3 e4;rcases hk with rfl|rfl|rfl
 ·have HO2:=HO.out;rw [if_pos rfl] at HO2;unfold pwLike at HO2;have HO3:=h_ HO2;clear HO HO2 KL KL1;have hol:=congrArg List.length HO3.out;simp only [List.length_append,List.length_cons,List.length_nil] at hol;go_enter Tryz.func101,Tryz.ntmps101;go_upto_region 1 with (fail)
  generalize w.alloc (.cells #[.int .i64 8,.int .i64 xo,.string xs,.string xt,.int .i64 xn,.slice xla xln xlc] 24)=W0 at H0 |-;obtain ⟨cb,fb⟩:=H0.out.bx.blk.facts;have hbl:=H0.out.bx.blk.lt;go_simp
  repeat (first|go_values|go_skip|go_guarded|go_step|go_upon)
  refine Calls.mono (KA.out 0 W0 H0.out.st.be) ?_;rintro e W1 ⟨⟨y1,rfl,hty⟩,hx⟩;have H1:=h_ (H0.out.ext hx);have HT1:=h_ hty;obtain ⟨yk,yo,ys,yt,yn,yla,yln,ylc⟩:=y1;clear hty;clear hx H0 cb fb hbl;obtain ⟨cb,fb⟩:=H1.out.bx.blk.facts;have hbl:=H1.out.bx.blk.lt;go_simp
  repeat (first|go_values|go_skip|go_guarded|go_step|go_upon)
  refine Calls.mono (KN.out 0 ⟨yk,yo,ys,yt,yn,yla,yln,ylc⟩ 5 _ W1 HT1.out H1.out.st (by first|omega|(simp only [List.length_append];(try simp only [List.length_cons]);(try simp only [List.length_nil]);omega))) ?_;rintro e W2 ⟨rfl,hp,hl⟩;have H2:=h_ (H1.out.step hp hl);clear hp hl H1 cb fb hbl;obtain ⟨cb,fb⟩:=H2.out.bx.blk.facts;have hbl:=H2.out.bx.blk.lt;clear HT1;go_simp
  repeat (first|go_values|go_skip|go_guarded|go_step|go_upon)
  refine Calls.mono (KT.out _ W2 H2.out.st (by first|omega|(simp only [List.length_append];(try simp only [List.length_cons]);(try simp only [List.length_nil]);omega))) ?_;rintro e W3 ⟨rfl,hp,hl⟩;have H3:=h_ (H2.out.step hp hl);clear hp hl H2 cb fb hbl;obtain ⟨cb,fb⟩:=H3.out.bx.blk.facts;have hbl:=H3.out.bx.blk.lt;go_simp
  repeat (first|go_values|go_skip|go_guarded|go_step|go_upon)
  refine Calls.mono (KP.out _ [[76,73,75,69]] W3.heap.size 1 _ (H3.out.st.ext ((Ext.refl W3).alloc _)) (Blk.new W3 _ 9 rfl) rfl (by first|omega|(simp only [List.length_append];(try simp only [List.length_cons]);(try simp only [List.length_nil]);omega))) ?_;rintro e W4 ⟨rfl,hp,hl⟩;have H4:=h_ ((H3.out.ext ((Ext.refl W3).alloc _)).step hp hl);clear hp hl H3 cb fb hbl;obtain ⟨cb,fb⟩:=H4.out.bx.blk.facts;have hbl:=H4.out.bx.blk.lt;go_simp
  repeat (first|go_values|go_skip|go_guarded|go_step|go_upon)
  refine Calls.mono (KA.out 1 W4 H4.out.st.be) ?_;rintro e W5 ⟨⟨y5,rfl,hty⟩,hx⟩;have H5:=h_ (H4.out.ext hx);have HT5:=h_ hty;obtain ⟨yk,yo,ys,yt,yn,yla,yln,ylc⟩:=y5;clear hty;clear hx H4 cb fb hbl;obtain ⟨cb,fb⟩:=H5.out.bx.blk.facts;have hbl:=H5.out.bx.blk.lt;go_simp
  repeat (first|go_values|go_skip|go_guarded|go_step|go_upon)
  refine Calls.mono (KN.out 1 ⟨yk,yo,ys,yt,yn,yla,yln,ylc⟩ 5 _ W5 HT5.out H5.out.st (by first|omega|(simp only [List.length_append];(try simp only [List.length_cons]);(try simp only [List.length_nil]);omega))) ?_;rintro e W6 ⟨rfl,hp,hl⟩;have H6:=h_ (H5.out.step hp hl);clear hp hl H5 cb fb hbl;obtain ⟨cb,fb⟩:=H6.out.bx.blk.facts;have hbl:=H6.out.bx.blk.lt;clear HT5;by_cases h2:2<xln
  ·have h2p:=h_ h2;have h2I:(2:Int)<(xln:Int):=by omega
   have h2G:decide ((xln:Int)>2)=true:=decide_eq_true (by omega);have h2L:2<(pwTs l).length:=by rw [HLl.out,<- HXl.out];exact h2
   rw [if_pos h2L] at hol;simp only [List.length_append,List.length_cons,List.length_nil] at hol;go_simp
   repeat (first|go_values|go_skip|go_guarded|go_step|go_upon)
   refine Calls.mono (KP.out _ [[69,83,67,65,80,69]] W6.heap.size 1 _ (H6.out.st.ext ((Ext.refl W6).alloc _)) (Blk.new W6 _ 9 rfl) rfl (by first|omega|(simp only [List.length_append];(try simp only [List.length_cons]);(try simp only [List.length_nil]);omega))) ?_;rintro e W7 ⟨rfl,hp,hl⟩;have H7:=h_ ((H6.out.ext ((Ext.refl W6).alloc _)).step hp hl);clear hp hl H6 cb fb hbl;obtain ⟨cb,fb⟩:=H7.out.bx.blk.facts;have hbl:=H7.out.bx.blk.lt;have hb:=H7.out.st.be;obtain ⟨g,off,y,z,hla,hz,hTy,hgl,hAg,hlc,c0,c1,c2,c3,c4,c5⟩:=HK.out.get 2 (by rw [<- HXl.out];exact h2p.out);have hgB:=HA.out g hAg;have hlc2:xln<=xlc:=by rw [HXl.out];exact hlc
   replace c0:=cellB hb hgB c0;replace c1:=cellB hb hgB c1;replace c2:=cellB hb hgB c2;replace c3:=cellB hb hgB c3;replace c4:=cellB hb hgB c4;replace c5:=cellB hb hgB c5;have hgW:g<W7.heap.size:=Nat.lt_of_lt_of_le hgl hb.size;obtain ⟨yk,yo,ys,yt,yn,yla,yln,ylc⟩:=y;have HT7:=h_ (show TrIn A w0 ⟨yk,yo,ys,yt,yn,yla,yln,ylc⟩ ((l[2]?).getD zTr) from by rw [hz,Option.getD_some];exact hTy);have h2x:=h2p.out;subst hla;simp only at c0 c1 c2 c3 c4 c5;clear hz hTy hAg hgl hb hlc;go_simp
   repeat (first|go_values|go_skip|go_guarded|go_step|go_upon)
   refine Calls.mono (KN.out 2 ⟨yk,yo,ys,yt,yn,yla,yln,ylc⟩ 5 _ W7 HT7.out H7.out.st (by first|omega|(simp only [List.length_append];(try simp only [List.length_cons]);(try simp only [List.length_nil]);omega))) ?_;rintro e W8 ⟨rfl,hp,hl⟩;have H8:=h_ (H7.out.step hp hl);clear hp hl H7 cb fb hbl;obtain ⟨cb,fb⟩:=H8.out.bx.blk.facts;have hbl:=H8.out.bx.blk.lt;clear HT7;clear c0 c1 c2 c3 c4 c5 hgW;go_simp
   repeat (first|go_values|go_skip|go_guarded|go_step|go_upon)
   go_returns;exact H8.out.post (by rw [HO3.out,if_pos (by rw [HLl.out,<- HXl.out];exact h2p.out)];simp only [List.append_assoc])
  ·have h2n:=h_ h2;have h2I:¬ (2:Int)<(xln:Int):=by omega
   have h2G:decide ((xln:Int)>2)=false:=decide_eq_false (by omega);have h2L:¬ 2<(pwTs l).length:=by rw [HLl.out,<- HXl.out];exact h2
   rw [if_neg h2L] at hol;simp only [List.length_nil] at hol;go_simp
   repeat (first|go_values|go_skip|go_guarded|go_step|go_upon)
   go_returns;exact H6.out.post (by rw [HO3.out,if_neg (by rw [HLl.out,<- HXl.out];exact h2n.out)];simp only [List.append_assoc,List.append_nil])
 ·have HO2:=HO.out;rw [if_neg (by decide),if_neg (by decide)] at HO2;unfold pwIn at HO2;have HO3:=h_ HO2;clear HO HO2 KL;have hol:=congrArg List.length HO3.out;simp only [List.length_append,List.length_cons,List.length_nil] at hol;go_enter Tryz.func101,Tryz.ntmps101;go_upto_region 1 with (fail)
  generalize w.alloc (.cells #[.int .i64 9,.int .i64 xo,.string xs,.string xt,.int .i64 xn,.slice xla xln xlc] 24)=W0 at H0 |-;obtain ⟨cb,fb⟩:=H0.out.bx.blk.facts;have hbl:=H0.out.bx.blk.lt;go_simp
  repeat (first|go_values|go_skip|go_guarded|go_step|go_upon)
  refine Calls.mono (KA.out 0 W0 H0.out.st.be) ?_;rintro e W1 ⟨⟨y1,rfl,hty⟩,hx⟩;have H1:=h_ (H0.out.ext hx);have HT1:=h_ hty;obtain ⟨yk,yo,ys,yt,yn,yla,yln,ylc⟩:=y1;clear hty;clear hx H0 cb fb hbl;obtain ⟨cb,fb⟩:=H1.out.bx.blk.facts;have hbl:=H1.out.bx.blk.lt;go_simp
  repeat (first|go_values|go_skip|go_guarded|go_step|go_upon)
  refine Calls.mono (KN.out 0 ⟨yk,yo,ys,yt,yn,yla,yln,ylc⟩ 5 _ W1 HT1.out H1.out.st (by first|omega|(simp only [List.length_append];(try simp only [List.length_cons]);(try simp only [List.length_nil]);omega))) ?_;rintro e W2 ⟨rfl,hp,hl⟩;have H2:=h_ (H1.out.step hp hl);clear hp hl H1 cb fb hbl;obtain ⟨cb,fb⟩:=H2.out.bx.blk.facts;have hbl:=H2.out.bx.blk.lt;clear HT1;go_simp
  repeat (first|go_values|go_skip|go_guarded|go_step|go_upon)
  refine Calls.mono (KT.out _ W2 H2.out.st (by first|omega|(simp only [List.length_append];(try simp only [List.length_cons]);(try simp only [List.length_nil]);omega))) ?_;rintro e W3 ⟨rfl,hp,hl⟩;have H3:=h_ (H2.out.step hp hl);clear hp hl H2 cb fb hbl;obtain ⟨cb,fb⟩:=H3.out.bx.blk.facts;have hbl:=H3.out.bx.blk.lt;go_simp
  repeat (first|go_values|go_skip|go_guarded|go_step|go_upon)
  refine Calls.mono (KP.out _ [[73,78],[40]] W3.heap.size 2 _ (H3.out.st.ext ((Ext.refl W3).alloc _)) (Blk.new W3 _ 9 rfl) rfl (by first|omega|(simp only [List.length_append];(try simp only [List.length_cons]);(try simp only [List.length_nil]);omega))) ?_;rintro e W4 ⟨rfl,hp,hl⟩;have H4:=h_ ((H3.out.ext ((Ext.refl W3).alloc _)).step hp hl);clear hp hl H3 cb fb hbl;obtain ⟨cb,fb⟩:=H4.out.bx.blk.facts;have hbl:=H4.out.bx.blk.lt;by_cases h0:xln=0
  ·obtain rfl:xln=0:=h0;have hl0:l=[]:=List.eq_nil_of_length_eq_zero HXl.out.symm;have hpl0:(pwList (pwTs l)).length=0:=by rw [hl0];simp [pwTs,pwList]
   clear KL1;go_simp
   repeat (first|go_values|go_skip|go_guarded|go_step|go_upon)
   refine Calls.mono (KLe.out _ _ _ W4 H4.out.st (by first|omega|(simp only [List.length_append];(try simp only [List.length_cons]);(try simp only [List.length_nil]);omega))) ?_;rintro e W5 ⟨rfl,hp,hl⟩;have H5:=h_ (H4.out.step hp hl);clear hp hl H4 cb fb hbl;obtain ⟨cb,fb⟩:=H5.out.bx.blk.facts;have hbl:=H5.out.bx.blk.lt;go_simp
   repeat (first|go_values|go_skip|go_guarded|go_step|go_upon)
   refine Calls.mono (KP.out _ [[41]] W5.heap.size 1 _ (H5.out.st.ext ((Ext.refl W5).alloc _)) (Blk.new W5 _ 9 rfl) rfl (by first|omega|(simp only [List.length_append];(try simp only [List.length_cons]);(try simp only [List.length_nil]);omega))) ?_;rintro e W6 ⟨rfl,hp,hl⟩;have H6:=h_ ((H5.out.ext ((Ext.refl W5).alloc _)).step hp hl);clear hp hl H5 cb fb hbl;obtain ⟨cb,fb⟩:=H6.out.bx.blk.facts;have hbl:=H6.out.bx.blk.lt;go_simp
   repeat (first|go_values|go_skip|go_guarded|go_step|go_upon)
   go_returns;exact H6.out.post (by rw [HO3.out,hl0];simp [pwTs,pwList])
  ·obtain ⟨g,off,hla,hKL⟩:=KL1.out (by rw [<- HXl.out];omega) _ W4 H4.out.st (by first|omega|(simp only [List.length_append];(try simp only [List.length_cons]);(try simp only [List.length_nil]);omega));subst hla;have KE:=h_ hKL;have hlc0:xln<=xlc:=by
    obtain ⟨_,_,_,_,_,_,_,_,_,hlc,_⟩:=HK.out.get 0 (by rw [<- HXl.out];omega);rw [HXl.out];exact hlc
   have hmin:min (1:Int) (xln:Int)=1:=by omega
   clear hKL KL1;go_simp
   repeat (first|go_values|go_skip|go_guarded|go_step|go_upon)
   refine Calls.mono KE.out ?_;rintro e W5 ⟨rfl,hp,hl⟩;have H5:=h_ (H4.out.step hp hl);clear hp hl H4 cb fb hbl;obtain ⟨cb,fb⟩:=H5.out.bx.blk.facts;have hbl:=H5.out.bx.blk.lt;go_simp
   repeat (first|go_values|go_skip|go_guarded|go_step|go_upon)
   refine Calls.mono (KP.out _ [[41]] W5.heap.size 1 _ (H5.out.st.ext ((Ext.refl W5).alloc _)) (Blk.new W5 _ 9 rfl) rfl (by first|omega|(simp only [List.length_append];(try simp only [List.length_cons]);(try simp only [List.length_nil]);omega))) ?_;rintro e W6 ⟨rfl,hp,hl⟩;have H6:=h_ ((H5.out.ext ((Ext.refl W5).alloc _)).step hp hl);clear hp hl H5 cb fb hbl;obtain ⟨cb,fb⟩:=H6.out.bx.blk.facts;have hbl:=H6.out.bx.blk.lt;go_simp
   repeat (first|go_values|go_skip|go_guarded|go_step|go_upon)
   go_returns;exact H6.out.post (by rw [HO3.out];simp only [List.append_assoc])
 ·have HO2:=HO.out;rw [if_neg (by decide),if_pos rfl] at HO2;unfold pwBtw at HO2;have HO3:=h_ HO2;clear HO HO2 KL KL1;have hol:=congrArg List.length HO3.out;simp only [List.length_append,List.length_cons,List.length_nil] at hol;go_enter Tryz.func101,Tryz.ntmps101;go_upto_region 1 with (fail)
  generalize w.alloc (.cells #[.int .i64 10,.int .i64 xo,.string xs,.string xt,.int .i64 xn,.slice xla xln xlc] 24)=W0 at H0 |-;obtain ⟨cb,fb⟩:=H0.out.bx.blk.facts;have hbl:=H0.out.bx.blk.lt;go_simp
  repeat (first|go_values|go_skip|go_guarded|go_step|go_upon)
  refine Calls.mono (KA.out 0 W0 H0.out.st.be) ?_;rintro e W1 ⟨⟨y1,rfl,hty⟩,hx⟩;have H1:=h_ (H0.out.ext hx);have HT1:=h_ hty;obtain ⟨yk,yo,ys,yt,yn,yla,yln,ylc⟩:=y1;clear hty;clear hx H0 cb fb hbl;obtain ⟨cb,fb⟩:=H1.out.bx.blk.facts;have hbl:=H1.out.bx.blk.lt;go_simp
  repeat (first|go_values|go_skip|go_guarded|go_step|go_upon)
  refine Calls.mono (KN.out 0 ⟨yk,yo,ys,yt,yn,yla,yln,ylc⟩ 5 _ W1 HT1.out H1.out.st (by first|omega|(simp only [List.length_append];(try simp only [List.length_cons]);(try simp only [List.length_nil]);omega))) ?_;rintro e W2 ⟨rfl,hp,hl⟩;have H2:=h_ (H1.out.step hp hl);clear hp hl H1 cb fb hbl;obtain ⟨cb,fb⟩:=H2.out.bx.blk.facts;have hbl:=H2.out.bx.blk.lt;clear HT1;go_simp
  repeat (first|go_values|go_skip|go_guarded|go_step|go_upon)
  refine Calls.mono (KT.out _ W2 H2.out.st (by first|omega|(simp only [List.length_append];(try simp only [List.length_cons]);(try simp only [List.length_nil]);omega))) ?_;rintro e W3 ⟨rfl,hp,hl⟩;have H3:=h_ (H2.out.step hp hl);clear hp hl H2 cb fb hbl;obtain ⟨cb,fb⟩:=H3.out.bx.blk.facts;have hbl:=H3.out.bx.blk.lt;go_simp
  repeat (first|go_values|go_skip|go_guarded|go_step|go_upon)
  refine Calls.mono (KP.out _ [[66,69,84,87,69,69,78]] W3.heap.size 1 _ (H3.out.st.ext ((Ext.refl W3).alloc _)) (Blk.new W3 _ 9 rfl) rfl (by first|omega|(simp only [List.length_append];(try simp only [List.length_cons]);(try simp only [List.length_nil]);omega))) ?_;rintro e W4 ⟨rfl,hp,hl⟩;have H4:=h_ ((H3.out.ext ((Ext.refl W3).alloc _)).step hp hl);clear hp hl H3 cb fb hbl;obtain ⟨cb,fb⟩:=H4.out.bx.blk.facts;have hbl:=H4.out.bx.blk.lt;go_simp
  repeat (first|go_values|go_skip|go_guarded|go_step|go_upon)
  refine Calls.mono (KA.out 1 W4 H4.out.st.be) ?_;rintro e W5 ⟨⟨y5,rfl,hty⟩,hx⟩;have H5:=h_ (H4.out.ext hx);have HT5:=h_ hty;obtain ⟨yk,yo,ys,yt,yn,yla,yln,ylc⟩:=y5;clear hty;clear hx H4 cb fb hbl;obtain ⟨cb,fb⟩:=H5.out.bx.blk.facts;have hbl:=H5.out.bx.blk.lt;go_simp
  repeat (first|go_values|go_skip|go_guarded|go_step|go_upon)
  refine Calls.mono (KN.out 1 ⟨yk,yo,ys,yt,yn,yla,yln,ylc⟩ 5 _ W5 HT5.out H5.out.st (by first|omega|(simp only [List.length_append];(try simp only [List.length_cons]);(try simp only [List.length_nil]);omega))) ?_;rintro e W6 ⟨rfl,hp,hl⟩;have H6:=h_ (H5.out.step hp hl);clear hp hl H5 cb fb hbl;obtain ⟨cb,fb⟩:=H6.out.bx.blk.facts;have hbl:=H6.out.bx.blk.lt;clear HT5;go_simp
  repeat (first|go_values|go_skip|go_guarded|go_step|go_upon)
  refine Calls.mono (KP.out _ [[65,78,68]] W6.heap.size 1 _ (H6.out.st.ext ((Ext.refl W6).alloc _)) (Blk.new W6 _ 9 rfl) rfl (by first|omega|(simp only [List.length_append];(try simp only [List.length_cons]);(try simp only [List.length_nil]);omega))) ?_;rintro e W7 ⟨rfl,hp,hl⟩;have H7:=h_ ((H6.out.ext ((Ext.refl W6).alloc _)).step hp hl);clear hp hl H6 cb fb hbl;obtain ⟨cb,fb⟩:=H7.out.bx.blk.facts;have hbl:=H7.out.bx.blk.lt;go_simp
  repeat (first|go_values|go_skip|go_guarded|go_step|go_upon)
  refine Calls.mono (KA.out 2 W7 H7.out.st.be) ?_;rintro e W8 ⟨⟨y8,rfl,hty⟩,hx⟩;have H8:=h_ (H7.out.ext hx);have HT8:=h_ hty;obtain ⟨yk,yo,ys,yt,yn,yla,yln,ylc⟩:=y8;clear hty;clear hx H7 cb fb hbl;obtain ⟨cb,fb⟩:=H8.out.bx.blk.facts;have hbl:=H8.out.bx.blk.lt;go_simp
  repeat (first|go_values|go_skip|go_guarded|go_step|go_upon)
  refine Calls.mono (KN.out 2 ⟨yk,yo,ys,yt,yn,yla,yln,ylc⟩ 5 _ W8 HT8.out H8.out.st (by first|omega|(simp only [List.length_append];(try simp only [List.length_cons]);(try simp only [List.length_nil]);omega))) ?_;rintro e W9 ⟨rfl,hp,hl⟩;have H9:=h_ (H8.out.step hp hl);clear hp hl H8 cb fb hbl;obtain ⟨cb,fb⟩:=H9.out.bx.blk.facts;have hbl:=H9.out.bx.blk.lt;clear HT8;go_simp
  repeat (first|go_values|go_skip|go_guarded|go_step|go_upon)
  go_returns;exact H9.out.post (by rw [HO3.out];simp only [List.append_assoc])
end Go.Proofs.YtimeipjcmffadaaGreatDoor
