import Derived.Test.YtimeipjcmffadaaGreatDoorParH
import Derived.Test.YtimeipjcmffadaaGreatDoorSnF
import Derived.Test.YtimeipjcmffadaaGreatDoorSnG
set_option maxHeartbeats 16000000
namespace Go.Proofs.YtimeipjcmffadaaGreatDoor
open Go.RowKit Go.Lib
set_option maxRecDepth 100000
theorem plain0_in (w0:World) (B q:Nat) (x:PN) (hk:x.k=0) (ws:Wds) (w:World) (hP:Pst w0 B q ws w) (hlen:ws.length+1<=500000) :
 Calls Tryz.prog 102 #[.pointer (some ⟨q,0,none⟩),x.v] w (PPost w0 B q (ws++[[78,85,76,76]]) w):=by
 have H0:=h_ (Pbx.start hP x.cells);have KP:=h_ (fun ws xs b m W a b' c d=>put_st w0 B q ws xs b m W a b' c d);clear hP;obtain ⟨xk,xo,xs,xt,xn,xla,xln,xlc⟩:=x;simp only at hk;subst hk;simp only [PN.cells,PN.v] at *;go_enter Tryz.func102,Tryz.ntmps102;go_upto_region 1 with (fail)
 generalize w.alloc (.cells #[.int .i64 0,.int .i64 xo,.string xs,.string xt,.int .i64 xn,.slice xla xln xlc] 24)=W0 at H0 |-;obtain ⟨cb,fb⟩:=H0.out.bx.blk.facts;have hbl:=H0.out.bx.blk.lt;go_simp
 repeat (first|go_values|go_skip|go_guarded|go_step|go_upon)
 refine Calls.mono (KP.out _ [[78,85,76,76]] W0.heap.size 1 _ (H0.out.st.ext ((Ext.refl W0).alloc _)) (Blk.new W0 _ 9 rfl) rfl (by first|omega|(simp only [List.length_append];(try simp only [List.length_cons]);(try simp only [List.length_nil]);omega))) ?_;rintro e W1 ⟨rfl,hp,hl⟩;have H1:=h_ ((H0.out.ext ((Ext.refl W0).alloc _)).step hp hl);clear hp hl H0 cb fb hbl;obtain ⟨cb,fb⟩:=H1.out.bx.blk.facts;have hbl:=H1.out.bx.blk.lt;go_simp
 repeat (first|go_values|go_skip|go_guarded|go_step|go_upon)
 go_returns;exact H1.out.post (rfl)
theorem bare0_in (w0:World) (B q:Nat) (x:PN) (hk:x.k=0) (ws:Wds) (w:World) (hP:Pst w0 B q ws w) (hlen:ws.length+1<=500000) :
 Calls Tryz.prog 54 #[.pointer (some ⟨q,0,none⟩),x.v] w (PPost w0 B q (ws++[[78,85,76,76]]) w):=by
 have H0:=h_ (Pbx.start hP x.cells);have KP:=h_ (fun ws xs b m W a b' c d=>put_st w0 B q ws xs b m W a b' c d);have KPl:=h_ (fun ws W a b=>plain0_in w0 B q x hk ws W a b);clear hP;obtain ⟨xk,xo,xs,xt,xn,xla,xln,xlc⟩:=x;simp only at hk;subst hk;simp only [PN.cells,PN.v] at *;go_enter Tryz.func54,Tryz.ntmps54;go_upto_region 1 with (fail)
 generalize w.alloc (.cells #[.int .i64 0,.int .i64 xo,.string xs,.string xt,.int .i64 xn,.slice xla xln xlc] 24)=W0 at H0 |-;obtain ⟨cb,fb⟩:=H0.out.bx.blk.facts;have hbl:=H0.out.bx.blk.lt;go_simp
 repeat (first|go_values|go_skip|go_guarded|go_step|go_upon)
 refine Calls.mono (KPl.out _ W0 H0.out.st hlen) ?_;rintro e W1 ⟨rfl,hp,hl⟩;have H1:=h_ (H0.out.step hp hl);clear hp hl H0 cb fb hbl;obtain ⟨cb,fb⟩:=H1.out.bx.blk.facts;have hbl:=H1.out.bx.blk.lt;go_simp
 repeat (first|go_values|go_skip|go_guarded|go_step|go_upon)
 go_returns;exact H1.out.post (rfl)
theorem bare_z (w0:World) (B q:Nat):BareP w0 B q zTr:=by
 intro x ws A W hT _ hP hl;have hz:pwT zTr=[[78,85,76,76]]:=congrArg Prod.snd pwT_z;rw [hz] at hl |-;obtain ⟨h1,_⟩:=(show TrIn A w0 x (.mk 0 0 [] [] 0 []) from hT).parts;exact bare0_in w0 B q x h1 ws W hP (by simpa using hl)
def atPr (A:Nat->Prop) (w0:World) (z:Tr) (v:Value) (_:World):Prop:=∃ y:PN,v=y.v/\TrIn A w0 y z
namespace Y
theorem bare_in (w0:World) (B q:Nat) (A:Nat->Prop) (l:List Tr) (hf:∀ z,z∈l->BareP w0 B q z) (hfz:BareP w0 B q zTr) (x:PN) (k o:Int) (s t:List UInt8) (n:Int) (hT:TrIn A w0 x (.mk k o s t n l)) (hA:∀ g,A g->g<B) (hl20:l.length<=20) (ws:Wds) (w:World) (hP:Pst w0 B q ws w) (hlen:ws.length+(pwB k o s t n (pwTs l)).length<=500000) (hn:InR n) (hs:s.length<=500) (hG:GlobP w0) (hBw:B=w0.heap.size) :
 Calls Tryz.prog 54 #[.pointer (some ⟨q,0,none⟩),x.v] w (PPost w0 B q (ws++pwB k o s t n (pwTs l)) w):=by
 have mixed:Tryz.prog.follows .mixedOrders=true:=by kernel_rfl
 have KS:=h_ (fun W=>strength_pn x W);have KB2:=h_ (fun (hk:k=6) ws W a b=>binary_in w0 B q A l hf hfz x k o s t n hT hA hl20 ws W a b hk);have KT2:=h_ (fun (hk:k=8 ∨ k=9 ∨ k=10) ws W a b=>test_in w0 B q A l hf hfz x k o s t n hT hA hl20 ws W a b hk);have KPl:=h_ (fun ws W a b=>plain_in w0 B q A l hf hfz x k o s t n hT hA hl20 ws W a b hn hs hG hBw);have H0:=h_ (Pbx.start hP x.cells);have KP:=h_ (fun ws xs b m W a b' c d=>put_st w0 B q ws xs b m W a b' c d);have KA:=h_ (fun (i:Nat) W (hb:Below B w0 W)=>at_in w0 B A x (.mk k o s t n l) i hT hA W hb);have KN:=h_ (fun (i:Nat) (y:PN) (lv:Int) (ws:Wds) (W:World) (a:TrIn A w0 y ((l[i]?).getD zTr)) b c=>kid_in w0 B q A l hf hfz hA i y lv ws W a b c);have KT:=h_ (fun (ws:Wds) W a b=>not_in w0 B q x ws W a b);obtain ⟨e1,e2,e3,e4,e5,hK⟩:=hT.parts;have HK:=h_ hK;have HA:=h_ hA;have hxl:=hK.len;have HLl:=h_ (pwTs_len l);obtain ⟨out,hout⟩:∃ out,out=pwB k o s t n (pwTs l):=⟨_,rfl⟩
 rw [<- hout] at hlen |-;unfold pwB at hout;have HO:=h_ hout;have HS:=h_ e3;have hnt:(pwNot n).length<=1:=by unfold pwNot;split<;>simp
 rw [e1,e2] at KS;clear hout;obtain ⟨xk,xo,xs,xt,xn,xla,xln,xlc⟩:=x;simp only at e1 e2 e3 e4 e5 hK hxl;simp only [PN.cells,PN.v] at *;subst e1 e2 e5;clear hT hA hP hf hfz hK e3 e4 hn hG hxl HK HA HLl hBw;by_cases k5:xk=5
 ·subst k5;have HO:=h_ (HO.out.trans (if_pos rfl));by_cases ho:xo=21
  ·have HO:=h_ (show out=[[78,79,84]]++pwAt (pwTs l) 0 (strT 5 xo) from by rw [HO.out,if_pos ho]);obtain ⟨R,hR⟩:∃ R,R=strT 5 xo:=⟨_,rfl⟩
   rw [<- hR] at HO KS;clear hR;have hol:=congrArg List.length HO.out;simp only [List.length_append,List.length_cons,List.length_nil] at hol;have hob:(xo == 21)=true:=beq_iff_eq.2 ho;clear ho;go_enter Tryz.func54,Tryz.ntmps54;go_upto_region 1 with (fail)
   generalize w.alloc (.cells #[.int .i64 5,.int .i64 xo,.string xs,.string xt,.int .i64 xn,.slice xla xln xlc] 24)=W0 at H0 |-;obtain ⟨cb,fb⟩:=H0.out.bx.blk.facts;have hbl:=H0.out.bx.blk.lt;go_simp
   repeat (first|go_values|go_skip|go_guarded|go_step|go_upon)
   refine Calls.mono (KP.out _ [[78,79,84]] W0.heap.size 1 _ (H0.out.st.ext ((Ext.refl W0).alloc _)) (Blk.new W0 _ 9 rfl) rfl (by first|omega|(simp only [List.length_append];(try simp only [List.length_cons]);(try simp only [List.length_nil]);omega))) ?_;rintro e W1 ⟨rfl,hp,hl⟩;have H1:=h_ ((H0.out.ext ((Ext.refl W0).alloc _)).step hp hl);clear hp hl H0 cb fb hbl;obtain ⟨cb,fb⟩:=H1.out.bx.blk.facts;have hbl:=H1.out.bx.blk.lt;go_simp
   repeat (first|go_values|go_skip|go_guarded|go_step|go_upon)
   have HF:=h_ (show ∀ W,Ext W1 W->(∀ j,W.cell? ⟨w.heap.size,j,none⟩=(#[.int .i64 5,.int .i64 xo,.string xs,.string xt,.int .i64 xn,.slice xla xln xlc]:Array Value)[j]?) from fun W hW=>(H1.out.bx.blk.keep hW).cell);clear cb fb hbl;refine wp_parZH [0,1,2,3,4,5] 5 5 (fun
    |0=>fun v _=>v= .pointer (some ⟨q,0,none⟩)
    |1=>fun v _=>v= .agg #[.int .i64 5,.int .i64 xo,.string xs,.string xt,.int .i64 xn,.slice xla xln xlc]
    |2=>(atPr A w0 ((l[0]?).getD zTr))
    |3=>fun v _=>v= .agg #[.int .i64 5,.int .i64 xo,.string xs,.string xt,.int .i64 xn,.slice xla xln xlc]
    |4=>fun v _=>v= .int .i64 R
    |_=>fun _ _=>True) (fun
    |_=>undef) (by kernel_rfl) (by kernel_rfl) (by kernel_rfl) ?_ ?_ ?_
   ·simp (maxSteps:=20000000) only [permL,permOp,List.filterMap_cons,List.filterMap_nil,List.getElem?_cons_succ,List.getElem?_cons_zero,Option.map_some,Option.map_none,List.take_succ_cons,List.take_zero,ParAll,Act.put,List.setIfInBounds_toArray,List.set_cons_succ,List.set_cons_zero];refine ⟨?_,?_,?_,?_,?_,trivial⟩
    all_goals
     intro vals W hx hd;have hW:=HF.out W hx;simp [PDeps,pdeps,Region.binds,List.idxOf_cons] at hd
     first
      |refine ParOb.plain rfl ?_
      |refine ParOb.wanted (by simp [Region.wanted,yielded,hd]) ?_
    iterate 2
     next =>
      go_simp;exact ParPost.same fun _ _=>rfl
    ·go_simp;refine Calls.mono (KA.out 0 W (H1.out.ext hx).st.be) ?_;rintro e w2 ⟨⟨y,rfl,hty⟩,hb2⟩;exact ⟨_,rfl,hb2,fun _ _=>⟨y,rfl,hty⟩⟩
    ·go_simp;exact ParPost.same fun _ _=>rfl
    ·go_simp;refine Calls.mono (KS.out W) ?_;rintro e w2 ⟨rfl,hb2⟩;exact ⟨_,rfl,hb2,fun _ _=>rfl⟩
   ·simp (maxSteps:=20000000) only [permL,permOp,List.filterMap_cons,List.filterMap_nil,List.getElem?_cons_succ,List.getElem?_cons_zero,Option.map_some,Option.map_none,List.drop_succ_cons,List.drop_zero,List.take_succ_cons,List.take_zero,Nat.reduceSub,ZAll,ParEnd,Act.put,List.setIfInBounds_toArray,List.set_cons_succ,List.set_cons_zero]
   intro vals W hx hf hz;simp (maxSteps:=20000000) only [permL,permOp,List.filterMap_cons,List.filterMap_nil,List.getElem?_cons_succ,List.getElem?_cons_zero,Option.map_some,Option.map_none,ParFacts,List.take_succ_cons,List.take_zero,and_true,Nat.reduceAdd] at hf;obtain ⟨f0,f1,f2,f3,f4⟩:=hf;clear hz;simp (maxSteps:=20000000) only [permL,permOp,List.filterMap_cons,List.filterMap_nil,List.getElem?_cons_succ,List.getElem?_cons_zero,Option.map_some,Option.map_none,List.drop_succ_cons,List.drop_zero,List.take_succ_cons,List.take_zero,Nat.reduceSub,ParEnd,ZTail,Act.put,List.setIfInBounds_toArray,List.set_cons_succ,List.set_cons_zero,Nat.reduceAdd,f0,f1,f3,f4];clear f0 f1 f3 f4;generalize vals 2=y2 at f2 |-;obtain ⟨y,hvy,hty⟩:=f2;obtain ⟨yk,yo,ys,yt,yn,yla,yln,ylc⟩:=y;subst hvy;have H2:=h_ (H1.out.ext hx);have HT2:=h_ hty;clear hx H1 HF hty;refine ⟨?_⟩;simp only [PN.v];go_simp;refine Calls.mono (KN.out 0 ⟨yk,yo,ys,yt,yn,yla,yln,ylc⟩ R _ W HT2.out H2.out.st (by first|omega|(simp only [List.length_append];(try simp only [List.length_cons]);(try simp only [List.length_nil]);omega))) ?_;rintro e W3 ⟨rfl,hp,hl⟩;have H3:=h_ (H2.out.step hp hl);clear hp hl H2;have hfin:PPost w0 B q (ws++out) w (.returned (.tuple #[])) W3:=H3.out.post (by rw [HO.out];simp only [List.append_assoc]);go_simp
   repeat (first|go_values|go_skip|go_guarded|go_step|go_upon)
   go_returns;exact hfin
  ·have HO:=h_ (show out=[[45]]++pwAt (pwTs l) 0 (strT 5 xo) from by rw [HO.out,if_neg ho]);obtain ⟨R,hR⟩:∃ R,R=strT 5 xo:=⟨_,rfl⟩
   rw [<- hR] at HO KS;clear hR;have hol:=congrArg List.length HO.out;simp only [List.length_append,List.length_cons,List.length_nil] at hol;have hob:(xo == 21)=false:=beq_eq_false_iff_ne.2 ho;clear ho;go_enter Tryz.func54,Tryz.ntmps54;go_upto_region 1 with (fail)
   generalize w.alloc (.cells #[.int .i64 5,.int .i64 xo,.string xs,.string xt,.int .i64 xn,.slice xla xln xlc] 24)=W0 at H0 |-;obtain ⟨cb,fb⟩:=H0.out.bx.blk.facts;have hbl:=H0.out.bx.blk.lt;go_simp
   repeat (first|go_values|go_skip|go_guarded|go_step|go_upon)
   refine Calls.mono (KP.out _ [[45]] W0.heap.size 1 _ (H0.out.st.ext ((Ext.refl W0).alloc _)) (Blk.new W0 _ 9 rfl) rfl (by first|omega|(simp only [List.length_append];(try simp only [List.length_cons]);(try simp only [List.length_nil]);omega))) ?_;rintro e W1 ⟨rfl,hp,hl⟩;have H1:=h_ ((H0.out.ext ((Ext.refl W0).alloc _)).step hp hl);clear hp hl H0 cb fb hbl;obtain ⟨cb,fb⟩:=H1.out.bx.blk.facts;have hbl:=H1.out.bx.blk.lt;go_simp
   repeat (first|go_values|go_skip|go_guarded|go_step|go_upon)
   have HF:=h_ (show ∀ W,Ext W1 W->(∀ j,W.cell? ⟨w.heap.size,j,none⟩=(#[.int .i64 5,.int .i64 xo,.string xs,.string xt,.int .i64 xn,.slice xla xln xlc]:Array Value)[j]?) from fun W hW=>(H1.out.bx.blk.keep hW).cell);clear cb fb hbl;refine wp_parZH [0,1,2,3,4,5] 5 5 (fun
    |0=>fun v _=>v= .pointer (some ⟨q,0,none⟩)
    |1=>fun v _=>v= .agg #[.int .i64 5,.int .i64 xo,.string xs,.string xt,.int .i64 xn,.slice xla xln xlc]
    |2=>(atPr A w0 ((l[0]?).getD zTr))
    |3=>fun v _=>v= .agg #[.int .i64 5,.int .i64 xo,.string xs,.string xt,.int .i64 xn,.slice xla xln xlc]
    |4=>fun v _=>v= .int .i64 R
    |_=>fun _ _=>True) (fun
    |_=>undef) (by kernel_rfl) (by kernel_rfl) (by kernel_rfl) ?_ ?_ ?_
   ·simp (maxSteps:=20000000) only [permL,permOp,List.filterMap_cons,List.filterMap_nil,List.getElem?_cons_succ,List.getElem?_cons_zero,Option.map_some,Option.map_none,List.take_succ_cons,List.take_zero,ParAll,Act.put,List.setIfInBounds_toArray,List.set_cons_succ,List.set_cons_zero];refine ⟨?_,?_,?_,?_,?_,trivial⟩
    all_goals
     intro vals W hx hd;have hW:=HF.out W hx;simp [PDeps,pdeps,Region.binds,List.idxOf_cons] at hd
     first
      |refine ParOb.plain rfl ?_
      |refine ParOb.wanted (by simp [Region.wanted,yielded,hd]) ?_
    iterate 2
     next =>
      go_simp;exact ParPost.same fun _ _=>rfl
    ·go_simp;refine Calls.mono (KA.out 0 W (H1.out.ext hx).st.be) ?_;rintro e w2 ⟨⟨y,rfl,hty⟩,hb2⟩;exact ⟨_,rfl,hb2,fun _ _=>⟨y,rfl,hty⟩⟩
    ·go_simp;exact ParPost.same fun _ _=>rfl
    ·go_simp;refine Calls.mono (KS.out W) ?_;rintro e w2 ⟨rfl,hb2⟩;exact ⟨_,rfl,hb2,fun _ _=>rfl⟩
   ·simp (maxSteps:=20000000) only [permL,permOp,List.filterMap_cons,List.filterMap_nil,List.getElem?_cons_succ,List.getElem?_cons_zero,Option.map_some,Option.map_none,List.drop_succ_cons,List.drop_zero,List.take_succ_cons,List.take_zero,Nat.reduceSub,ZAll,ParEnd,Act.put,List.setIfInBounds_toArray,List.set_cons_succ,List.set_cons_zero]
   intro vals W hx hf hz;simp (maxSteps:=20000000) only [permL,permOp,List.filterMap_cons,List.filterMap_nil,List.getElem?_cons_succ,List.getElem?_cons_zero,Option.map_some,Option.map_none,ParFacts,List.take_succ_cons,List.take_zero,and_true,Nat.reduceAdd] at hf;obtain ⟨f0,f1,f2,f3,f4⟩:=hf;clear hz;simp (maxSteps:=20000000) only [permL,permOp,List.filterMap_cons,List.filterMap_nil,List.getElem?_cons_succ,List.getElem?_cons_zero,Option.map_some,Option.map_none,List.drop_succ_cons,List.drop_zero,List.take_succ_cons,List.take_zero,Nat.reduceSub,ParEnd,ZTail,Act.put,List.setIfInBounds_toArray,List.set_cons_succ,List.set_cons_zero,Nat.reduceAdd,f0,f1,f3,f4];clear f0 f1 f3 f4;generalize vals 2=y2 at f2 |-;obtain ⟨y,hvy,hty⟩:=f2;obtain ⟨yk,yo,ys,yt,yn,yla,yln,ylc⟩:=y;subst hvy;have H2:=h_ (H1.out.ext hx);have HT2:=h_ hty;clear hx H1 HF hty;refine ⟨?_⟩;simp only [PN.v];go_simp;refine Calls.mono (KN.out 0 ⟨yk,yo,ys,yt,yn,yla,yln,ylc⟩ R _ W HT2.out H2.out.st (by first|omega|(simp only [List.length_append];(try simp only [List.length_cons]);(try simp only [List.length_nil]);omega))) ?_;rintro e W3 ⟨rfl,hp,hl⟩;have H3:=h_ (H2.out.step hp hl);clear hp hl H2;have hfin:PPost w0 B q (ws++out) w (.returned (.tuple #[])) W3:=H3.out.post (by rw [HO.out];simp only [List.append_assoc]);go_simp
   repeat (first|go_values|go_skip|go_guarded|go_step|go_upon)
   go_returns;exact hfin
 have n5:(xk == 5)=false:=beq_eq_false_iff_ne.2 k5;have HO:=h_ (HO.out.trans (if_neg k5));by_cases k6:xk=6
 ·subst k6;have HO:=h_ (HO.out.trans (if_pos rfl));have hol:=congrArg List.length HO.out;go_enter Tryz.func54,Tryz.ntmps54;go_upto_region 1 with (fail)
  generalize w.alloc (.cells #[.int .i64 6,.int .i64 xo,.string xs,.string xt,.int .i64 xn,.slice xla xln xlc] 24)=W0 at H0 |-;obtain ⟨cb,fb⟩:=H0.out.bx.blk.facts;have hbl:=H0.out.bx.blk.lt;go_simp
  repeat (first|go_values|go_skip|go_guarded|go_step|go_upon)
  refine Calls.mono (KB2.out rfl _ W0 H0.out.st (by omega)) ?_;rintro e W1 ⟨rfl,hp,hl⟩;have H1:=h_ (H0.out.step hp hl);clear hp hl H0 cb fb hbl;obtain ⟨cb,fb⟩:=H1.out.bx.blk.facts;have hbl:=H1.out.bx.blk.lt;go_simp
  repeat (first|go_values|go_skip|go_guarded|go_step|go_upon)
  go_returns;exact H1.out.post (by rw [HO.out])
 have n6:(xk == 6)=false:=beq_eq_false_iff_ne.2 k6;have HO:=h_ (HO.out.trans (if_neg k6));by_cases k7:xk=7
 ·subst k7;have HO:=h_ (HO.out.trans (if_pos rfl));have hol:=congrArg List.length HO.out;simp only [List.length_append,List.length_cons,List.length_nil] at hol;go_enter Tryz.func54,Tryz.ntmps54;go_upto_region 1 with (fail)
  generalize w.alloc (.cells #[.int .i64 7,.int .i64 xo,.string xs,.string xt,.int .i64 xn,.slice xla xln xlc] 24)=W0 at H0 |-;obtain ⟨cb,fb⟩:=H0.out.bx.blk.facts;have hbl:=H0.out.bx.blk.lt;go_simp
  repeat (first|go_values|go_skip|go_guarded|go_step|go_upon)
  refine Calls.mono (KA.out 0 W0 H0.out.st.be) ?_;rintro e W1 ⟨⟨y1,rfl,hty⟩,hx⟩;have H1:=h_ (H0.out.ext hx);have HT1:=h_ hty;obtain ⟨yk,yo,ys,yt,yn,yla,yln,ylc⟩:=y1;clear hty;clear hx H0 cb fb hbl;obtain ⟨cb,fb⟩:=H1.out.bx.blk.facts;have hbl:=H1.out.bx.blk.lt;go_simp
  repeat (first|go_values|go_skip|go_guarded|go_step|go_upon)
  refine Calls.mono (KN.out 0 ⟨yk,yo,ys,yt,yn,yla,yln,ylc⟩ 5 _ W1 HT1.out H1.out.st (by first|omega|(simp only [List.length_append];(try simp only [List.length_cons]);(try simp only [List.length_nil]);omega))) ?_;rintro e W2 ⟨rfl,hp,hl⟩;have H2:=h_ (H1.out.step hp hl);clear hp hl H1 cb fb hbl;obtain ⟨cb,fb⟩:=H2.out.bx.blk.facts;have hbl:=H2.out.bx.blk.lt;clear HT1;go_simp
  repeat (first|go_values|go_skip|go_guarded|go_step|go_upon)
  refine Calls.mono (KP.out _ [[73,83]] W2.heap.size 1 _ (H2.out.st.ext ((Ext.refl W2).alloc _)) (Blk.new W2 _ 9 rfl) rfl (by first|omega|(simp only [List.length_append];(try simp only [List.length_cons]);(try simp only [List.length_nil]);omega))) ?_;rintro e W3 ⟨rfl,hp,hl⟩;have H3:=h_ ((H2.out.ext ((Ext.refl W2).alloc _)).step hp hl);clear hp hl H2 cb fb hbl;obtain ⟨cb,fb⟩:=H3.out.bx.blk.facts;have hbl:=H3.out.bx.blk.lt;go_simp
  repeat (first|go_values|go_skip|go_guarded|go_step|go_upon)
  refine Calls.mono (KT.out _ W3 H3.out.st (by first|omega|(simp only [List.length_append];(try simp only [List.length_cons]);(try simp only [List.length_nil]);omega))) ?_;rintro e W4 ⟨rfl,hp,hl⟩;have H4:=h_ (H3.out.step hp hl);clear hp hl H3 cb fb hbl;obtain ⟨cb,fb⟩:=H4.out.bx.blk.facts;have hbl:=H4.out.bx.blk.lt;go_simp
  repeat (first|go_values|go_skip|go_guarded|go_step|go_upon)
  refine Calls.mono (KP.out _ [[78,85,76,76]] W4.heap.size 1 _ (H4.out.st.ext ((Ext.refl W4).alloc _)) (Blk.new W4 _ 9 rfl) rfl (by first|omega|(simp only [List.length_append];(try simp only [List.length_cons]);(try simp only [List.length_nil]);omega))) ?_;rintro e W5 ⟨rfl,hp,hl⟩;have H5:=h_ ((H4.out.ext ((Ext.refl W4).alloc _)).step hp hl);clear hp hl H4 cb fb hbl;obtain ⟨cb,fb⟩:=H5.out.bx.blk.facts;have hbl:=H5.out.bx.blk.lt;go_simp
  repeat (first|go_values|go_skip|go_guarded|go_step|go_upon)
  go_returns;exact H5.out.post (by rw [HO.out];simp only [List.append_assoc])
 have n7:(xk == 7)=false:=beq_eq_false_iff_ne.2 k7;have HO:=h_ (HO.out.trans (if_neg k7));by_cases k8:xk=8 ∨ xk=9 ∨ xk=10
 ·have HO:=h_ (HO.out.trans (if_pos k8));have hol:=congrArg List.length HO.out;rcases k8 with rfl|rfl|rfl
  ·go_enter Tryz.func54,Tryz.ntmps54;go_upto_region 1 with (fail)
   generalize w.alloc (.cells #[.int .i64 8,.int .i64 xo,.string xs,.string xt,.int .i64 xn,.slice xla xln xlc] 24)=W0 at H0 |-;obtain ⟨cb,fb⟩:=H0.out.bx.blk.facts;have hbl:=H0.out.bx.blk.lt;go_simp
   repeat (first|go_values|go_skip|go_guarded|go_step|go_upon)
   refine Calls.mono (KT2.out (by decide) _ W0 H0.out.st (by omega)) ?_;rintro e W1 ⟨rfl,hp,hl⟩;have H1:=h_ (H0.out.step hp hl);clear hp hl H0 cb fb hbl;obtain ⟨cb,fb⟩:=H1.out.bx.blk.facts;have hbl:=H1.out.bx.blk.lt;go_simp
   repeat (first|go_values|go_skip|go_guarded|go_step|go_upon)
   go_returns;exact H1.out.post (by rw [HO.out])
  ·go_enter Tryz.func54,Tryz.ntmps54;go_upto_region 1 with (fail)
   generalize w.alloc (.cells #[.int .i64 9,.int .i64 xo,.string xs,.string xt,.int .i64 xn,.slice xla xln xlc] 24)=W0 at H0 |-;obtain ⟨cb,fb⟩:=H0.out.bx.blk.facts;have hbl:=H0.out.bx.blk.lt;go_simp
   repeat (first|go_values|go_skip|go_guarded|go_step|go_upon)
   refine Calls.mono (KT2.out (by decide) _ W0 H0.out.st (by omega)) ?_;rintro e W1 ⟨rfl,hp,hl⟩;have H1:=h_ (H0.out.step hp hl);clear hp hl H0 cb fb hbl;obtain ⟨cb,fb⟩:=H1.out.bx.blk.facts;have hbl:=H1.out.bx.blk.lt;go_simp
   repeat (first|go_values|go_skip|go_guarded|go_step|go_upon)
   go_returns;exact H1.out.post (by rw [HO.out])
  ·go_enter Tryz.func54,Tryz.ntmps54;go_upto_region 1 with (fail)
   generalize w.alloc (.cells #[.int .i64 10,.int .i64 xo,.string xs,.string xt,.int .i64 xn,.slice xla xln xlc] 24)=W0 at H0 |-;obtain ⟨cb,fb⟩:=H0.out.bx.blk.facts;have hbl:=H0.out.bx.blk.lt;go_simp
   repeat (first|go_values|go_skip|go_guarded|go_step|go_upon)
   refine Calls.mono (KT2.out (by decide) _ W0 H0.out.st (by omega)) ?_;rintro e W1 ⟨rfl,hp,hl⟩;have H1:=h_ (H0.out.step hp hl);clear hp hl H0 cb fb hbl;obtain ⟨cb,fb⟩:=H1.out.bx.blk.facts;have hbl:=H1.out.bx.blk.lt;go_simp
   repeat (first|go_values|go_skip|go_guarded|go_step|go_upon)
   go_returns;exact H1.out.post (by rw [HO.out])
 have n8:(xk == 8)=false:=beq_eq_false_iff_ne.2 fun e=>k8 (.inl e);have n9:(xk == 9)=false:=beq_eq_false_iff_ne.2 fun e=>k8 (.inr (.inl e));have n10:(xk == 10)=false:=beq_eq_false_iff_ne.2 fun e=>k8 (.inr (.inr e));have HO:=h_ (HO.out.trans (if_neg k8));by_cases k11:xk=11
 ·subst k11;have HO:=h_ (HO.out.trans (if_pos rfl));have hol:=congrArg List.length HO.out;simp only [List.length_append,List.length_cons,List.length_nil] at hol;obtain rfl:xs=⟨s.toArray⟩:=HS.out;go_enter Tryz.func54,Tryz.ntmps54;go_upto_region 1 with (fail)
  generalize w.alloc (.cells #[.int .i64 11,.int .i64 xo,.string ⟨s.toArray⟩,.string xt,.int .i64 xn,.slice xla xln xlc] 24)=W0 at H0 |-;obtain ⟨cb,fb⟩:=H0.out.bx.blk.facts;have hbl:=H0.out.bx.blk.lt;go_simp
  repeat (first|go_values|go_skip|go_guarded|go_step|go_upon)
  refine Calls.mono (KA.out 0 W0 H0.out.st.be) ?_;rintro e W1 ⟨⟨y1,rfl,hty⟩,hx⟩;have H1:=h_ (H0.out.ext hx);have HT1:=h_ hty;obtain ⟨yk,yo,ys,yt,yn,yla,yln,ylc⟩:=y1;clear hty;clear hx H0 cb fb hbl;obtain ⟨cb,fb⟩:=H1.out.bx.blk.facts;have hbl:=H1.out.bx.blk.lt;go_simp
  repeat (first|go_values|go_skip|go_guarded|go_step|go_upon)
  refine Calls.mono (KN.out 0 ⟨yk,yo,ys,yt,yn,yla,yln,ylc⟩ 11 _ W1 HT1.out H1.out.st (by first|omega|(simp only [List.length_append];(try simp only [List.length_cons]);(try simp only [List.length_nil]);omega))) ?_;rintro e W2 ⟨rfl,hp,hl⟩;have H2:=h_ (H1.out.step hp hl);clear hp hl H1 cb fb hbl;obtain ⟨cb,fb⟩:=H2.out.bx.blk.facts;have hbl:=H2.out.bx.blk.lt;clear HT1;go_simp
  repeat (first|go_values|go_skip|go_guarded|go_step|go_upon)
  refine Calls.mono (KP.out _ [[67,79,76,76,65,84,69],s] W2.heap.size 2 _ (H2.out.st.ext ((Ext.refl W2).alloc _)) (Blk.new W2 _ 9 rfl) rfl (by first|omega|(simp only [List.length_append];(try simp only [List.length_cons]);(try simp only [List.length_nil]);omega))) ?_;rintro e W3 ⟨rfl,hp,hl⟩;have H3:=h_ ((H2.out.ext ((Ext.refl W2).alloc _)).step hp hl);clear hp hl H2 cb fb hbl;obtain ⟨cb,fb⟩:=H3.out.bx.blk.facts;have hbl:=H3.out.bx.blk.lt;go_simp
  repeat (first|go_values|go_skip|go_guarded|go_step|go_upon)
  go_returns;exact H3.out.post (by rw [HO.out];simp only [List.append_assoc])
 have n11:(xk == 11)=false:=beq_eq_false_iff_ne.2 k11;have HO:=h_ (HO.out.trans (if_neg k11));have hol:=congrArg List.length HO.out;clear k5 k6 k7 k8 k11;go_enter Tryz.func54,Tryz.ntmps54;go_upto_region 1 with (fail)
 generalize w.alloc (.cells #[.int .i64 xk,.int .i64 xo,.string xs,.string xt,.int .i64 xn,.slice xla xln xlc] 24)=W0 at H0 |-;obtain ⟨cb,fb⟩:=H0.out.bx.blk.facts;have hbl:=H0.out.bx.blk.lt;go_simp
 repeat (first|go_values|go_skip|go_guarded|go_step|go_upon)
 refine Calls.mono (KPl.out _ W0 H0.out.st (by omega)) ?_;rintro e W1 ⟨rfl,hp,hl⟩;have H1:=h_ (H0.out.step hp hl);clear hp hl H0 cb fb hbl;obtain ⟨cb,fb⟩:=H1.out.bx.blk.facts;have hbl:=H1.out.bx.blk.lt;go_simp
 repeat (first|go_values|go_skip|go_guarded|go_step|go_upon)
 go_returns;exact H1.out.post (by rw [HO.out])
end Y
theorem bare_all (w0:World) (B q:Nat) (hG:GlobP w0) (hBw:B=w0.heap.size) {d:Nat} {t:Tr} (h:SmT d t):BareP w0 B q t:=by
 induction h with
 |mk d k o s t n l hd hn hl hs ht hch ih =>
  intro x ws A W hT hA hP hlen;rw [pwT_mk] at hlen |-;exact Y.bare_in w0 B q A l (fun z hz=>ih z hz) (bare_z w0 B q) x k o s t n hT hA hl ws W hP hlen hn hs hG hBw
end Go.Proofs.YtimeipjcmffadaaGreatDoor
