import Derived.Test.YtimeipjcmffadaaGreatDoorSnE
set_option maxHeartbeats 16000000
namespace Go.Proofs.YtimeipjcmffadaaGreatDoor
open Go.RowKit Go.Lib
set_option maxRecDepth 100000
theorem kinds_any (n:Int) (w:World):Calls Tryz.prog 167 #[.int .i64 n] w fun e w'=>e= .returned (.string ⟨(pwKind n).toArray⟩)/\Ext w w':=by
 by_cases h:n<1 ∨ 3<n
 ·have hk:pwKind n=[]:=by
   unfold pwKind;rw [if_neg (by omega),if_neg (by omega),if_neg (by omega)]
  rw [hk];clear hk;by_cases h1:n<1
  ·have b1:decide (n<1)=true:=decide_eq_true h1;clear h;go_enter Tryz.func167,Tryz.ntmps167;go_simp
   repeat (first|go_values|go_skip|go_guarded|go_step|go_upon)
   go_returns;exact ⟨rfl,Ext.refl w⟩
  ·have b1:decide (n<1)=false:=decide_eq_false h1;have h3:n>3:=by omega
   have b3:decide (n>3)=true:=decide_eq_true h3;clear h;go_enter Tryz.func167,Tryz.ntmps167;go_simp
   repeat (first|go_values|go_skip|go_guarded|go_step|go_upon)
   go_returns;exact ⟨rfl,Ext.refl w⟩
 ·rcases (by omega:n=1 ∨ n=2 ∨ n=3) with rfl|rfl|rfl
  ·have hidx:∀ W,(Instr.index 278 (.agg #[.string ⟨#[]⟩,.string ⟨#[66,79,79,76]⟩,.string ⟨#[73,78,84]⟩,.string ⟨#[84,69,88,84]⟩]) (.int .i64 1)).run Tryz.prog W= .ok (.string ⟨#[66,79,79,76]⟩) W:=fun _=>by kernel_rfl
   clear h;go_enter Tryz.func167,Tryz.ntmps167;go_simp
   repeat (first|go_values|go_skip|go_guarded|go_step|go_upon)
   go_returns;exact ⟨rfl,Ext.refl w⟩
  ·have hidx:∀ W,(Instr.index 278 (.agg #[.string ⟨#[]⟩,.string ⟨#[66,79,79,76]⟩,.string ⟨#[73,78,84]⟩,.string ⟨#[84,69,88,84]⟩]) (.int .i64 2)).run Tryz.prog W= .ok (.string ⟨#[73,78,84]⟩) W:=fun _=>by kernel_rfl
   clear h;go_enter Tryz.func167,Tryz.ntmps167;go_simp
   repeat (first|go_values|go_skip|go_guarded|go_step|go_upon)
   go_returns;exact ⟨rfl,Ext.refl w⟩
  ·have hidx:∀ W,(Instr.index 278 (.agg #[.string ⟨#[]⟩,.string ⟨#[66,79,79,76]⟩,.string ⟨#[73,78,84]⟩,.string ⟨#[84,69,88,84]⟩]) (.int .i64 3)).run Tryz.prog W= .ok (.string ⟨#[84,69,88,84]⟩) W:=fun _=>by kernel_rfl
   clear h;go_enter Tryz.func167,Tryz.ntmps167;go_simp
   repeat (first|go_values|go_skip|go_guarded|go_step|go_upon)
   go_returns;exact ⟨rfl,Ext.refl w⟩
theorem prS_bool (b:Bool):prS 1 (bN b) emp=⟨(if b then trueL else falseL).toArray⟩:=by
 cases b<;>simp [prS,cK,cN,vOk,bN,prB,emp]
theorem prS_text (s:List UInt8):prS 3 0 ⟨s.toArray⟩=⟨(39::(escQ s++[39])).toArray⟩:=by
 have hv:vOk 3 0 ⟨s.toArray⟩=true:=by simp [vOk]
 unfold prS cK cN cS;rw [hv];simp only [if_true,prB];simp [bsl]
theorem plain_in (w0:World) (B q:Nat) (A:Nat->Prop) (l:List Tr) (hf:∀ z,z∈l->BareP w0 B q z) (hfz:BareP w0 B q zTr) (x:PN) (k o:Int) (s t:List UInt8) (n:Int) (hT:TrIn A w0 x (.mk k o s t n l)) (hA:∀ g,A g->g<B) (hl20:l.length<=20) (ws:Wds) (w:World) (hP:Pst w0 B q ws w) (hlen:ws.length+(pwPlain k s t n (pwTs l)).length<=500000) (hn:InR n) (hs:s.length<=500) (hG:GlobP w0) (hBw:B=w0.heap.size) :
 Calls Tryz.prog 102 #[.pointer (some ⟨q,0,none⟩),x.v] w (PPost w0 B q (ws++pwPlain k s t n (pwTs l)) w):=by
 have H0:=h_ (Pbx.start hP x.cells);have KP:=h_ (fun ws xs b m W a b' c d=>put_st w0 B q ws xs b m W a b' c d);have KA:=h_ (fun (i:Nat) W (hb:Below B w0 W)=>at_in w0 B A x (.mk k o s t n l) i hT hA W hb);have KN:=h_ (fun (i:Nat) (y:PN) (lv:Int) (ws:Wds) (W:World) (a:TrIn A w0 y ((l[i]?).getD zTr)) b c=>kid_in w0 B q A l hf hfz hA i y lv ws W a b c);have KT:=h_ (fun (ws:Wds) W a b=>not_in w0 B q x ws W a b);have KL:=h_ (fun (ws:Wds) W a b=>nodes_in w0 B q A x.la x.ln x.lc l hf hT.parts.2.2.2.2.2 hA (by omega) ws W a b);have KL1:=h_ (fun (h0:0<l.length) (ws:Wds) W a b=>nodes1_in w0 B q A x.la x.ln x.lc l hf hT.parts.2.2.2.2.2 hA (by omega) h0 ws W a b);obtain ⟨e1,e2,e3,e4,e5,hK⟩:=hT.parts;have HK:=h_ hK;have HA:=h_ hA;have hxl:=hK.len;have HLl:=h_ (pwTs_len l);have HGl:=h_ (fun W (hb:Below B w0 W)=>GlobP.keep hG (hBw ▸ hb));have KI:=h_ (fun W hb=>itext_any n W hn (HGl.out W hb));have KVB:=h_ (fun b W=>valbool_any b W);have KVT:=h_ (fun W=>valtext_any ⟨s.toArray⟩ W);have KVP:=h_ (fun b W (hb:Below B w0 W) (hB:B<=W.heap.size)=>valprint_any 1 (bN b) emp W (by cases b<;>(unfold InR bN;decide)) (by decide) fun W2 h2=>HGl.out W2 (hb.trans (h2.mono hB)));have KVQ:=h_ (fun W (hb:Below B w0 W) (hB:B<=W.heap.size)=>valprint_any 3 0 ⟨s.toArray⟩ W (by unfold InR;decide) (by show s.toArray.size<=4000;rw [List.size_toArray];omega) fun W2 h2=>HGl.out W2 (hb.trans (h2.mono hB)));have KK:=h_ (fun W=>kinds_any n W);obtain ⟨out,hout⟩:∃ out,out=pwPlain k s t n (pwTs l):=⟨_,rfl⟩
 rw [<- hout] at hlen |-;unfold pwPlain at hout;have HO:=h_ hout;have HS:=h_ e3;have HTt:=h_ e4;have HXl:=h_ hxl;clear hout;obtain ⟨xk,xo,xs,xt,xn,xla,xln,xlc⟩:=x;simp only at e1 e2 e3 e4 e5 hK hxl;simp only [PN.cells,PN.v] at *;subst e1 e5;rw [prS_text] at KVQ;rw [<- HS.out] at KVQ KVT;clear hT hA hP hf hfz hK e2 e3 e4 hn hG hxl;by_cases k1:xk=1
 ·subst k1;have HO:=h_ (HO.out.trans (if_pos rfl));have hol:=congrArg List.length HO.out;simp only [List.length_cons,List.length_nil] at hol;obtain ⟨bb,hbb⟩:∃ bb,bb=(xn == 1):=⟨_,rfl⟩
  have HBb:=h_ hbb;have KB1:=h_ (fun W=>KVB.out bb W);have KP1:=h_ (fun W a b=>KVP.out bb W a b);rw [prS_bool] at KP1;obtain ⟨bt,hbt⟩:∃ bt,bt=(if bb then trueL else falseL):=⟨_,rfl⟩
  rw [<- hbt] at KP1;have HBt:=h_ hbt;clear hbt KVB KVP KVQ KVT;generalize vV 1 (bN bb) emp=vb at KB1 KP1;go_enter Tryz.func102,Tryz.ntmps102;go_upto_region 1 with (fail)
  generalize w.alloc (.cells #[.int .i64 1,.int .i64 xo,.string xs,.string xt,.int .i64 xn,.slice xla xln xlc] 24)=W0 at H0 |-;obtain ⟨cb,fb⟩:=H0.out.bx.blk.facts;have hbl:=H0.out.bx.blk.lt;go_simp
  repeat (first|go_values|go_skip|go_guarded|go_step|go_upon)
  rw [<- HBb.out];refine Calls.mono (KB1.out W0) ?_;rintro e W1 ⟨rfl,hx⟩;have H1:=h_ (H0.out.ext hx);clear hx H0 cb fb hbl;obtain ⟨cb,fb⟩:=H1.out.bx.blk.facts;have hbl:=H1.out.bx.blk.lt;go_simp
  repeat (first|go_values|go_skip|go_guarded|go_step|go_upon)
  refine Calls.mono (KP1.out W1 H1.out.st.be H1.out.st.hB) ?_;rintro e W2 ⟨rfl,hx⟩;have H2:=h_ (H1.out.ext hx);clear hx H1 cb fb hbl;obtain ⟨cb,fb⟩:=H2.out.bx.blk.facts;have hbl:=H2.out.bx.blk.lt;go_simp
  repeat (first|go_values|go_skip|go_guarded|go_step|go_upon)
  refine Calls.mono (KP.out _ [bt] W2.heap.size 1 _ (H2.out.st.ext ((Ext.refl W2).alloc _)) (Blk.new W2 _ 9 rfl) rfl (by first|omega|(simp only [List.length_append];(try simp only [List.length_cons]);(try simp only [List.length_nil]);omega))) ?_;rintro e W3 ⟨rfl,hp,hl⟩;have H3:=h_ ((H2.out.ext ((Ext.refl W2).alloc _)).step hp hl);clear hp hl H2 cb fb hbl;obtain ⟨cb,fb⟩:=H3.out.bx.blk.facts;have hbl:=H3.out.bx.blk.lt;go_simp
  repeat (first|go_values|go_skip|go_guarded|go_step|go_upon)
  go_returns;exact H3.out.post (by rw [HO.out,HBt.out,HBb.out];simp)
 have n1:(xk == 1)=false:=beq_eq_false_iff_ne.2 k1;by_cases k2:xk=2
 ·subst k2;have HO:=h_ (HO.out.trans ((if_neg (by decide)).trans (if_pos rfl)));have hol:=congrArg List.length HO.out;simp only [List.length_cons,List.length_nil] at hol;go_enter Tryz.func102,Tryz.ntmps102;go_upto_region 1 with (fail)
  generalize w.alloc (.cells #[.int .i64 2,.int .i64 xo,.string xs,.string xt,.int .i64 xn,.slice xla xln xlc] 24)=W0 at H0 |-;obtain ⟨cb,fb⟩:=H0.out.bx.blk.facts;have hbl:=H0.out.bx.blk.lt;go_simp
  repeat (first|go_values|go_skip|go_guarded|go_step|go_upon)
  refine Calls.mono (KI.out W0 H0.out.st.be) ?_;rintro e W1 ⟨rfl,hx⟩;have H1:=h_ (H0.out.ext hx);clear hx H0 cb fb hbl;obtain ⟨cb,fb⟩:=H1.out.bx.blk.facts;have hbl:=H1.out.bx.blk.lt;go_simp
  repeat (first|go_values|go_skip|go_guarded|go_step|go_upon)
  refine Calls.mono (KP.out _ [Lib.itoa xn] W1.heap.size 1 _ (H1.out.st.ext ((Ext.refl W1).alloc _)) (Blk.new W1 _ 9 rfl) rfl (by first|omega|(simp only [List.length_append];(try simp only [List.length_cons]);(try simp only [List.length_nil]);omega))) ?_;rintro e W2 ⟨rfl,hp,hl⟩;have H2:=h_ ((H1.out.ext ((Ext.refl W1).alloc _)).step hp hl);clear hp hl H1 cb fb hbl;obtain ⟨cb,fb⟩:=H2.out.bx.blk.facts;have hbl:=H2.out.bx.blk.lt;go_simp
  repeat (first|go_values|go_skip|go_guarded|go_step|go_upon)
  go_returns;exact H2.out.post (by rw [HO.out])
 have n2:(xk == 2)=false:=beq_eq_false_iff_ne.2 k2;by_cases k3:xk=3
 ·subst k3;have HO:=h_ (HO.out.trans ((if_neg (by decide)).trans ((if_neg (by decide)).trans (if_pos rfl))));have hol:=congrArg List.length HO.out;simp only [List.length_cons,List.length_nil] at hol;generalize (39::(escQ s++[39]))=qt at HO KVQ;generalize vV 3 0 xs=vt at KVT KVQ;clear KVB KVP;go_enter Tryz.func102,Tryz.ntmps102;go_upto_region 1 with (fail)
  generalize w.alloc (.cells #[.int .i64 3,.int .i64 xo,.string xs,.string xt,.int .i64 xn,.slice xla xln xlc] 24)=W0 at H0 |-;obtain ⟨cb,fb⟩:=H0.out.bx.blk.facts;have hbl:=H0.out.bx.blk.lt;go_simp
  repeat (first|go_values|go_skip|go_guarded|go_step|go_upon)
  refine Calls.mono (KVT.out W0) ?_;rintro e W1 ⟨rfl,hx⟩;have H1:=h_ (H0.out.ext hx);clear hx H0 cb fb hbl;obtain ⟨cb,fb⟩:=H1.out.bx.blk.facts;have hbl:=H1.out.bx.blk.lt;go_simp
  repeat (first|go_values|go_skip|go_guarded|go_step|go_upon)
  refine Calls.mono (KVQ.out W1 H1.out.st.be H1.out.st.hB) ?_;rintro e W2 ⟨rfl,hx⟩;have H2:=h_ (H1.out.ext hx);clear hx H1 cb fb hbl;obtain ⟨cb,fb⟩:=H2.out.bx.blk.facts;have hbl:=H2.out.bx.blk.lt;go_simp
  repeat (first|go_values|go_skip|go_guarded|go_step|go_upon)
  refine Calls.mono (KP.out _ [qt] W2.heap.size 1 _ (H2.out.st.ext ((Ext.refl W2).alloc _)) (Blk.new W2 _ 9 rfl) rfl (by first|omega|(simp only [List.length_append];(try simp only [List.length_cons]);(try simp only [List.length_nil]);omega))) ?_;rintro e W3 ⟨rfl,hp,hl⟩;have H3:=h_ ((H2.out.ext ((Ext.refl W2).alloc _)).step hp hl);clear hp hl H2 cb fb hbl;obtain ⟨cb,fb⟩:=H3.out.bx.blk.facts;have hbl:=H3.out.bx.blk.lt;go_simp
  repeat (first|go_values|go_skip|go_guarded|go_step|go_upon)
  go_returns;exact H3.out.post (by rw [HO.out])
 have n3:(xk == 3)=false:=beq_eq_false_iff_ne.2 k3;by_cases k4:xk=4
 ·subst k4;have HO:=h_ (HO.out.trans ((if_neg (by decide)).trans ((if_neg (by decide)).trans ((if_neg (by decide)).trans (if_pos rfl)))));unfold pwName at HO;by_cases ht0:t=[]
  ·rw [if_pos ht0] at HO;have hol:=congrArg List.length HO.out;simp only [List.length_append,List.length_cons,List.length_nil] at hol;obtain rfl:xt=⟨#[]⟩:=by rw [HTt.out,ht0]
   obtain rfl:xs=⟨s.toArray⟩:=HS.out;go_enter Tryz.func102,Tryz.ntmps102;go_upto_region 1 with (fail)
   generalize w.alloc (.cells #[.int .i64 4,.int .i64 xo,.string ⟨s.toArray⟩,.string ⟨#[]⟩,.int .i64 xn,.slice xla xln xlc] 24)=W0 at H0 |-;obtain ⟨cb,fb⟩:=H0.out.bx.blk.facts;have hbl:=H0.out.bx.blk.lt;go_simp
   repeat (first|go_values|go_skip|go_guarded|go_step|go_upon)
   refine Calls.mono (KP.out _ [s] W0.heap.size 1 _ (H0.out.st.ext ((Ext.refl W0).alloc _)) (Blk.new W0 _ 9 rfl) rfl (by first|omega|(simp only [List.length_append];(try simp only [List.length_cons]);(try simp only [List.length_nil]);omega))) ?_;rintro e W1 ⟨rfl,hp,hl⟩;have H1:=h_ ((H0.out.ext ((Ext.refl W0).alloc _)).step hp hl);clear hp hl H0 cb fb hbl;obtain ⟨cb,fb⟩:=H1.out.bx.blk.facts;have hbl:=H1.out.bx.blk.lt;go_simp
   repeat (first|go_values|go_skip|go_guarded|go_step|go_upon)
   go_returns;exact H1.out.post (by rw [HO.out];simp)
  ·rw [if_neg ht0] at HO;have hol:=congrArg List.length HO.out;simp only [List.length_append,List.length_cons,List.length_nil] at hol;obtain rfl:xs=⟨s.toArray⟩:=HS.out;have htb:(xt.toList !=[])=true:=by
    rw [bne_iff_ne,HTt.out];intro e;exact ht0 (by simpa using e)
   have htb2:xt.toList.isEmpty=false:=by
    rw [<- Bool.not_eq_true,List.isEmpty_iff];exact bne_iff_ne.1 htb
   go_enter Tryz.func102,Tryz.ntmps102;go_upto_region 1 with (fail)
   generalize w.alloc (.cells #[.int .i64 4,.int .i64 xo,.string ⟨s.toArray⟩,.string xt,.int .i64 xn,.slice xla xln xlc] 24)=W0 at H0 |-;obtain ⟨cb,fb⟩:=H0.out.bx.blk.facts;have hbl:=H0.out.bx.blk.lt;go_simp
   repeat (first|go_values|go_skip|go_guarded|go_step|go_upon)
   refine Calls.mono (KP.out _ [t,[46]] W0.heap.size 2 _ (H0.out.st.ext ((Ext.refl W0).alloc _)) (by rw [HTt.out];exact Blk.new W0 _ 9 rfl) rfl (by first|omega|(simp only [List.length_append];(try simp only [List.length_cons]);(try simp only [List.length_nil]);omega))) ?_;rintro e W1 ⟨rfl,hp,hl⟩;have H1:=h_ ((H0.out.ext ((Ext.refl W0).alloc _)).step hp hl);clear hp hl H0 cb fb hbl;obtain ⟨cb,fb⟩:=H1.out.bx.blk.facts;have hbl:=H1.out.bx.blk.lt;go_simp
   repeat (first|go_values|go_skip|go_guarded|go_step|go_upon)
   refine Calls.mono (KP.out _ [s] W1.heap.size 1 _ (H1.out.st.ext ((Ext.refl W1).alloc _)) (Blk.new W1 _ 9 rfl) rfl (by first|omega|(simp only [List.length_append];(try simp only [List.length_cons]);(try simp only [List.length_nil]);omega))) ?_;rintro e W2 ⟨rfl,hp,hl⟩;have H2:=h_ ((H1.out.ext ((Ext.refl W1).alloc _)).step hp hl);clear hp hl H1 cb fb hbl;obtain ⟨cb,fb⟩:=H2.out.bx.blk.facts;have hbl:=H2.out.bx.blk.lt;go_simp
   repeat (first|go_values|go_skip|go_guarded|go_step|go_upon)
   go_returns;exact H2.out.post (by rw [HO.out];simp)
 have n4:(xk == 4)=false:=beq_eq_false_iff_ne.2 k4;by_cases k12:xk=12
 ·subst k12;have HO:=h_ (HO.out.trans ((if_neg (by decide)).trans ((if_neg (by decide)).trans ((if_neg (by decide)).trans ((if_neg (by decide)).trans (if_pos rfl))))));unfold pwCast at HO;obtain ⟨kw,hkw⟩:∃ kw,kw=pwKind xn:=⟨_,rfl⟩
  rw [<- hkw] at HO KK;clear hkw;have hol:=congrArg List.length HO.out;simp only [List.length_append,List.length_cons,List.length_nil] at hol;go_enter Tryz.func102,Tryz.ntmps102;go_upto_region 1 with (fail)
  generalize w.alloc (.cells #[.int .i64 12,.int .i64 xo,.string xs,.string xt,.int .i64 xn,.slice xla xln xlc] 24)=W0 at H0 |-;obtain ⟨cb,fb⟩:=H0.out.bx.blk.facts;have hbl:=H0.out.bx.blk.lt;go_simp
  repeat (first|go_values|go_skip|go_guarded|go_step|go_upon)
  refine Calls.mono (KP.out _ [[67,65,83,84],[40]] W0.heap.size 2 _ (H0.out.st.ext ((Ext.refl W0).alloc _)) (Blk.new W0 _ 9 rfl) rfl (by first|omega|(simp only [List.length_append];(try simp only [List.length_cons]);(try simp only [List.length_nil]);omega))) ?_;rintro e W1 ⟨rfl,hp,hl⟩;have H1:=h_ ((H0.out.ext ((Ext.refl W0).alloc _)).step hp hl);clear hp hl H0 cb fb hbl;obtain ⟨cb,fb⟩:=H1.out.bx.blk.facts;have hbl:=H1.out.bx.blk.lt;go_simp
  repeat (first|go_values|go_skip|go_guarded|go_step|go_upon)
  refine Calls.mono (KA.out 0 W1 H1.out.st.be) ?_;rintro e W2 ⟨⟨y2,rfl,hty⟩,hx⟩;have H2:=h_ (H1.out.ext hx);have HT2:=h_ hty;obtain ⟨yk,yo,ys,yt,yn,yla,yln,ylc⟩:=y2;clear hty;clear hx H1 cb fb hbl;obtain ⟨cb,fb⟩:=H2.out.bx.blk.facts;have hbl:=H2.out.bx.blk.lt;go_simp
  repeat (first|go_values|go_skip|go_guarded|go_step|go_upon)
  refine Calls.mono (KN.out 0 ⟨yk,yo,ys,yt,yn,yla,yln,ylc⟩ 1 _ W2 HT2.out H2.out.st (by first|omega|(simp only [List.length_append];(try simp only [List.length_cons]);(try simp only [List.length_nil]);omega))) ?_;rintro e W3 ⟨rfl,hp,hl⟩;have H3:=h_ (H2.out.step hp hl);clear hp hl H2 cb fb hbl;obtain ⟨cb,fb⟩:=H3.out.bx.blk.facts;have hbl:=H3.out.bx.blk.lt;clear HT2;go_simp
  repeat (first|go_values|go_skip|go_guarded|go_step|go_upon)
  refine Calls.mono (KK.out W3) ?_;rintro e W4 ⟨rfl,hx⟩;have H4:=h_ (H3.out.ext hx);clear hx H3 cb fb hbl;obtain ⟨cb,fb⟩:=H4.out.bx.blk.facts;have hbl:=H4.out.bx.blk.lt;go_simp
  repeat (first|go_values|go_skip|go_guarded|go_step|go_upon)
  refine Calls.mono (KP.out _ [[65,83],kw,[41]] W4.heap.size 3 _ (H4.out.st.ext ((Ext.refl W4).alloc _)) (Blk.new W4 _ 9 rfl) rfl (by first|omega|(simp only [List.length_append];(try simp only [List.length_cons]);(try simp only [List.length_nil]);omega))) ?_;rintro e W5 ⟨rfl,hp,hl⟩;have H5:=h_ ((H4.out.ext ((Ext.refl W4).alloc _)).step hp hl);clear hp hl H4 cb fb hbl;obtain ⟨cb,fb⟩:=H5.out.bx.blk.facts;have hbl:=H5.out.bx.blk.lt;go_simp
  repeat (first|go_values|go_skip|go_guarded|go_step|go_upon)
  go_returns;exact H5.out.post (by rw [HO.out];simp only [List.append_assoc])
 have n12:(xk == 12)=false:=beq_eq_false_iff_ne.2 k12;by_cases k13:xk=13 ∨ xk=14
 ·rcases k13 with rfl|rfl
  ·have HO:=h_ (HO.out.trans ((if_neg (by decide)).trans ((if_neg (by decide)).trans ((if_neg (by decide)).trans ((if_neg (by decide)).trans ((if_neg (by decide)).trans (if_pos (by decide))))))));unfold pwCall at HO;obtain rfl:xs=⟨s.toArray⟩:=HS.out;by_cases h0:xln=0
   ·have hl0:(pwTs l).length=0:=by rw [HLl.out,<- HXl.out];exact h0
    rw [if_pos hl0] at HO;have hol:=congrArg List.length HO.out;simp only [List.length_append,List.length_cons,List.length_nil] at hol;subst h0;go_enter Tryz.func102,Tryz.ntmps102;go_upto_region 1 with (fail)
    generalize w.alloc (.cells #[.int .i64 13,.int .i64 xo,.string ⟨s.toArray⟩,.string xt,.int .i64 xn,.slice xla 0 xlc] 24)=W0 at H0 |-;obtain ⟨cb,fb⟩:=H0.out.bx.blk.facts;have hbl:=H0.out.bx.blk.lt;go_simp
    repeat (first|go_values|go_skip|go_guarded|go_step|go_upon)
    refine Calls.mono (KP.out _ [s,[40]] W0.heap.size 2 _ (H0.out.st.ext ((Ext.refl W0).alloc _)) (Blk.new W0 _ 9 rfl) rfl (by first|omega|(simp only [List.length_append];(try simp only [List.length_cons]);(try simp only [List.length_nil]);omega))) ?_;rintro e W1 ⟨rfl,hp,hl⟩;have H1:=h_ ((H0.out.ext ((Ext.refl W0).alloc _)).step hp hl);clear hp hl H0 cb fb hbl;obtain ⟨cb,fb⟩:=H1.out.bx.blk.facts;have hbl:=H1.out.bx.blk.lt;go_simp
    repeat (first|go_values|go_skip|go_guarded|go_step|go_upon)
    refine Calls.mono (KP.out _ [[42]] W1.heap.size 1 _ (H1.out.st.ext ((Ext.refl W1).alloc _)) (Blk.new W1 _ 9 rfl) rfl (by first|omega|(simp only [List.length_append];(try simp only [List.length_cons]);(try simp only [List.length_nil]);omega))) ?_;rintro e W2 ⟨rfl,hp,hl⟩;have H2:=h_ ((H1.out.ext ((Ext.refl W1).alloc _)).step hp hl);clear hp hl H1 cb fb hbl;obtain ⟨cb,fb⟩:=H2.out.bx.blk.facts;have hbl:=H2.out.bx.blk.lt;go_simp
    repeat (first|go_values|go_skip|go_guarded|go_step|go_upon)
    refine Calls.mono (KL.out _ W2 H2.out.st (by first|omega|(simp only [List.length_append];(try simp only [List.length_cons]);(try simp only [List.length_nil]);omega))) ?_;rintro e W3 ⟨rfl,hp,hl⟩;have H3:=h_ (H2.out.step hp hl);clear hp hl H2 cb fb hbl;obtain ⟨cb,fb⟩:=H3.out.bx.blk.facts;have hbl:=H3.out.bx.blk.lt;go_simp
    repeat (first|go_values|go_skip|go_guarded|go_step|go_upon)
    refine Calls.mono (KP.out _ [[41]] W3.heap.size 1 _ (H3.out.st.ext ((Ext.refl W3).alloc _)) (Blk.new W3 _ 9 rfl) rfl (by first|omega|(simp only [List.length_append];(try simp only [List.length_cons]);(try simp only [List.length_nil]);omega))) ?_;rintro e W4 ⟨rfl,hp,hl⟩;have H4:=h_ ((H3.out.ext ((Ext.refl W3).alloc _)).step hp hl);clear hp hl H3 cb fb hbl;obtain ⟨cb,fb⟩:=H4.out.bx.blk.facts;have hbl:=H4.out.bx.blk.lt;go_simp
    repeat (first|go_values|go_skip|go_guarded|go_step|go_upon)
    go_returns;exact H4.out.post (by rw [HO.out];simp only [List.append_assoc])
   ·have hl0:¬ (pwTs l).length=0:=by rw [HLl.out,<- HXl.out];exact h0
    rw [if_neg hl0] at HO;have hol:=congrArg List.length HO.out;simp only [List.length_append,List.length_cons,List.length_nil] at hol;have h0I:¬ (xln:Int)=0:=by omega
    have h0b:((xln:Int) == 0)=false:=beq_eq_false_iff_ne.2 h0I;go_enter Tryz.func102,Tryz.ntmps102;go_upto_region 1 with (fail)
    generalize w.alloc (.cells #[.int .i64 13,.int .i64 xo,.string ⟨s.toArray⟩,.string xt,.int .i64 xn,.slice xla xln xlc] 24)=W0 at H0 |-;obtain ⟨cb,fb⟩:=H0.out.bx.blk.facts;have hbl:=H0.out.bx.blk.lt;go_simp
    repeat (first|go_values|go_skip|go_guarded|go_step|go_upon)
    refine Calls.mono (KP.out _ [s,[40]] W0.heap.size 2 _ (H0.out.st.ext ((Ext.refl W0).alloc _)) (Blk.new W0 _ 9 rfl) rfl (by first|omega|(simp only [List.length_append];(try simp only [List.length_cons]);(try simp only [List.length_nil]);omega))) ?_;rintro e W1 ⟨rfl,hp,hl⟩;have H1:=h_ ((H0.out.ext ((Ext.refl W0).alloc _)).step hp hl);clear hp hl H0 cb fb hbl;obtain ⟨cb,fb⟩:=H1.out.bx.blk.facts;have hbl:=H1.out.bx.blk.lt;go_simp
    repeat (first|go_values|go_skip|go_guarded|go_step|go_upon)
    refine Calls.mono (KL.out _ W1 H1.out.st (by first|omega|(simp only [List.length_append];(try simp only [List.length_cons]);(try simp only [List.length_nil]);omega))) ?_;rintro e W2 ⟨rfl,hp,hl⟩;have H2:=h_ (H1.out.step hp hl);clear hp hl H1 cb fb hbl;obtain ⟨cb,fb⟩:=H2.out.bx.blk.facts;have hbl:=H2.out.bx.blk.lt;go_simp
    repeat (first|go_values|go_skip|go_guarded|go_step|go_upon)
    refine Calls.mono (KP.out _ [[41]] W2.heap.size 1 _ (H2.out.st.ext ((Ext.refl W2).alloc _)) (Blk.new W2 _ 9 rfl) rfl (by first|omega|(simp only [List.length_append];(try simp only [List.length_cons]);(try simp only [List.length_nil]);omega))) ?_;rintro e W3 ⟨rfl,hp,hl⟩;have H3:=h_ ((H2.out.ext ((Ext.refl W2).alloc _)).step hp hl);clear hp hl H2 cb fb hbl;obtain ⟨cb,fb⟩:=H3.out.bx.blk.facts;have hbl:=H3.out.bx.blk.lt;go_simp
    repeat (first|go_values|go_skip|go_guarded|go_step|go_upon)
    go_returns;exact H3.out.post (by rw [HO.out];simp only [List.append_assoc,List.append_nil])
  ·have HO:=h_ (HO.out.trans ((if_neg (by decide)).trans ((if_neg (by decide)).trans ((if_neg (by decide)).trans ((if_neg (by decide)).trans ((if_neg (by decide)).trans (if_pos (by decide))))))));unfold pwCall at HO;obtain rfl:xs=⟨s.toArray⟩:=HS.out;by_cases h0:xln=0
   ·have hl0:(pwTs l).length=0:=by rw [HLl.out,<- HXl.out];exact h0
    rw [if_pos hl0] at HO;have hol:=congrArg List.length HO.out;simp only [List.length_append,List.length_cons,List.length_nil] at hol;subst h0;go_enter Tryz.func102,Tryz.ntmps102;go_upto_region 1 with (fail)
    generalize w.alloc (.cells #[.int .i64 14,.int .i64 xo,.string ⟨s.toArray⟩,.string xt,.int .i64 xn,.slice xla 0 xlc] 24)=W0 at H0 |-;obtain ⟨cb,fb⟩:=H0.out.bx.blk.facts;have hbl:=H0.out.bx.blk.lt;go_simp
    repeat (first|go_values|go_skip|go_guarded|go_step|go_upon)
    refine Calls.mono (KP.out _ [s,[40]] W0.heap.size 2 _ (H0.out.st.ext ((Ext.refl W0).alloc _)) (Blk.new W0 _ 9 rfl) rfl (by first|omega|(simp only [List.length_append];(try simp only [List.length_cons]);(try simp only [List.length_nil]);omega))) ?_;rintro e W1 ⟨rfl,hp,hl⟩;have H1:=h_ ((H0.out.ext ((Ext.refl W0).alloc _)).step hp hl);clear hp hl H0 cb fb hbl;obtain ⟨cb,fb⟩:=H1.out.bx.blk.facts;have hbl:=H1.out.bx.blk.lt;go_simp
    repeat (first|go_values|go_skip|go_guarded|go_step|go_upon)
    refine Calls.mono (KP.out _ [[42]] W1.heap.size 1 _ (H1.out.st.ext ((Ext.refl W1).alloc _)) (Blk.new W1 _ 9 rfl) rfl (by first|omega|(simp only [List.length_append];(try simp only [List.length_cons]);(try simp only [List.length_nil]);omega))) ?_;rintro e W2 ⟨rfl,hp,hl⟩;have H2:=h_ ((H1.out.ext ((Ext.refl W1).alloc _)).step hp hl);clear hp hl H1 cb fb hbl;obtain ⟨cb,fb⟩:=H2.out.bx.blk.facts;have hbl:=H2.out.bx.blk.lt;go_simp
    repeat (first|go_values|go_skip|go_guarded|go_step|go_upon)
    refine Calls.mono (KL.out _ W2 H2.out.st (by first|omega|(simp only [List.length_append];(try simp only [List.length_cons]);(try simp only [List.length_nil]);omega))) ?_;rintro e W3 ⟨rfl,hp,hl⟩;have H3:=h_ (H2.out.step hp hl);clear hp hl H2 cb fb hbl;obtain ⟨cb,fb⟩:=H3.out.bx.blk.facts;have hbl:=H3.out.bx.blk.lt;go_simp
    repeat (first|go_values|go_skip|go_guarded|go_step|go_upon)
    refine Calls.mono (KP.out _ [[41]] W3.heap.size 1 _ (H3.out.st.ext ((Ext.refl W3).alloc _)) (Blk.new W3 _ 9 rfl) rfl (by first|omega|(simp only [List.length_append];(try simp only [List.length_cons]);(try simp only [List.length_nil]);omega))) ?_;rintro e W4 ⟨rfl,hp,hl⟩;have H4:=h_ ((H3.out.ext ((Ext.refl W3).alloc _)).step hp hl);clear hp hl H3 cb fb hbl;obtain ⟨cb,fb⟩:=H4.out.bx.blk.facts;have hbl:=H4.out.bx.blk.lt;go_simp
    repeat (first|go_values|go_skip|go_guarded|go_step|go_upon)
    go_returns;exact H4.out.post (by rw [HO.out];simp only [List.append_assoc])
   ·have hl0:¬ (pwTs l).length=0:=by rw [HLl.out,<- HXl.out];exact h0
    rw [if_neg hl0] at HO;have hol:=congrArg List.length HO.out;simp only [List.length_append,List.length_cons,List.length_nil] at hol;have h0I:¬ (xln:Int)=0:=by omega
    have h0b:((xln:Int) == 0)=false:=beq_eq_false_iff_ne.2 h0I;go_enter Tryz.func102,Tryz.ntmps102;go_upto_region 1 with (fail)
    generalize w.alloc (.cells #[.int .i64 14,.int .i64 xo,.string ⟨s.toArray⟩,.string xt,.int .i64 xn,.slice xla xln xlc] 24)=W0 at H0 |-;obtain ⟨cb,fb⟩:=H0.out.bx.blk.facts;have hbl:=H0.out.bx.blk.lt;go_simp
    repeat (first|go_values|go_skip|go_guarded|go_step|go_upon)
    refine Calls.mono (KP.out _ [s,[40]] W0.heap.size 2 _ (H0.out.st.ext ((Ext.refl W0).alloc _)) (Blk.new W0 _ 9 rfl) rfl (by first|omega|(simp only [List.length_append];(try simp only [List.length_cons]);(try simp only [List.length_nil]);omega))) ?_;rintro e W1 ⟨rfl,hp,hl⟩;have H1:=h_ ((H0.out.ext ((Ext.refl W0).alloc _)).step hp hl);clear hp hl H0 cb fb hbl;obtain ⟨cb,fb⟩:=H1.out.bx.blk.facts;have hbl:=H1.out.bx.blk.lt;go_simp
    repeat (first|go_values|go_skip|go_guarded|go_step|go_upon)
    refine Calls.mono (KL.out _ W1 H1.out.st (by first|omega|(simp only [List.length_append];(try simp only [List.length_cons]);(try simp only [List.length_nil]);omega))) ?_;rintro e W2 ⟨rfl,hp,hl⟩;have H2:=h_ (H1.out.step hp hl);clear hp hl H1 cb fb hbl;obtain ⟨cb,fb⟩:=H2.out.bx.blk.facts;have hbl:=H2.out.bx.blk.lt;go_simp
    repeat (first|go_values|go_skip|go_guarded|go_step|go_upon)
    refine Calls.mono (KP.out _ [[41]] W2.heap.size 1 _ (H2.out.st.ext ((Ext.refl W2).alloc _)) (Blk.new W2 _ 9 rfl) rfl (by first|omega|(simp only [List.length_append];(try simp only [List.length_cons]);(try simp only [List.length_nil]);omega))) ?_;rintro e W3 ⟨rfl,hp,hl⟩;have H3:=h_ ((H2.out.ext ((Ext.refl W2).alloc _)).step hp hl);clear hp hl H2 cb fb hbl;obtain ⟨cb,fb⟩:=H3.out.bx.blk.facts;have hbl:=H3.out.bx.blk.lt;go_simp
    repeat (first|go_values|go_skip|go_guarded|go_step|go_upon)
    go_returns;exact H3.out.post (by rw [HO.out];simp only [List.append_assoc,List.append_nil])
 have n13:(xk == 13)=false:=beq_eq_false_iff_ne.2 fun e=>k13 (.inl e);have n14:(xk == 14)=false:=beq_eq_false_iff_ne.2 fun e=>k13 (.inr e);have HO:=h_ (HO.out.trans ((if_neg k1).trans ((if_neg k2).trans ((if_neg k3).trans ((if_neg k4).trans ((if_neg k12).trans (if_neg k13)))))));have hol:=congrArg List.length HO.out;simp only [List.length_cons,List.length_nil] at hol;clear k1 k2 k3 k4 k12 k13;go_enter Tryz.func102,Tryz.ntmps102;go_upto_region 1 with (fail)
 generalize w.alloc (.cells #[.int .i64 xk,.int .i64 xo,.string xs,.string xt,.int .i64 xn,.slice xla xln xlc] 24)=W0 at H0 |-;obtain ⟨cb,fb⟩:=H0.out.bx.blk.facts;have hbl:=H0.out.bx.blk.lt;go_simp
 repeat (first|go_values|go_skip|go_guarded|go_step|go_upon)
 refine Calls.mono (KP.out _ [[78,85,76,76]] W0.heap.size 1 _ (H0.out.st.ext ((Ext.refl W0).alloc _)) (Blk.new W0 _ 9 rfl) rfl (by first|omega|(simp only [List.length_append];(try simp only [List.length_cons]);(try simp only [List.length_nil]);omega))) ?_;rintro e W1 ⟨rfl,hp,hl⟩;have H1:=h_ ((H0.out.ext ((Ext.refl W0).alloc _)).step hp hl);clear hp hl H0 cb fb hbl;obtain ⟨cb,fb⟩:=H1.out.bx.blk.facts;have hbl:=H1.out.bx.blk.lt;go_simp
 repeat (first|go_values|go_skip|go_guarded|go_step|go_upon)
 go_returns;exact H1.out.post (by rw [HO.out])
end Go.Proofs.YtimeipjcmffadaaGreatDoor
