import Derived.Deep.LoopGhost
import Derived.Test.YtimeipjcmffadaaGreatDoorTrIn
set_option maxHeartbeats 16000000
namespace Go.Proofs.YtimeipjcmffadaaGreatDoor
open Go.RowKit Go.Lib
set_option maxRecDepth 100000
def SmPost (t:Tr) (d q:Nat) (L:Int) (w:World) (e:Ending) (w':World):Prop:=∃ (b:Bool) (L':Int),e= .returned (.bool b)/\Blk w' q #[.int .i64 L'] 3/\L'<=L/\ -1<=L'/\LeP q w w'/\(b=true->SmT d t/\L'+cntT t=L/\0<=L')
def SmalPost (t:Tr) (w:World) (e:Ending) (w':World):Prop:=∃ b:Bool,e= .returned (.bool b)/\Ext w w'/\(b=true->SmT 0 t/\cntT t<=300)
theorem cntTs_take:∀ (l:List Tr) (j:Nat) (z:Tr),l[j]?=some z->cntTs (l.take (j+1))=cntTs (l.take j)+cntT z
 |x::r,0,z,h=>by
  obtain rfl:x=z:=by simpa using h
  simp [cntTs]
 |x::r,j+1,z,h=>by
  have ih:=cntTs_take r j z (by simpa using h);rw [List.take_succ_cons,List.take_succ_cons,cntTs_cons,cntTs_cons,ih];omega
theorem small_any {t:Tr} (h:RgT t):∀ (x:PN) (A:Nat->Prop) (w:World) (d q:Nat) (L:Int),TrIn A w x t->Blk w q #[.int .i64 L] 3->0<=L->L<=300->d<=41->(∀ g,A g->g≠q)->Calls Tryz.prog 16 #[x.v,.int .i64 d,.pointer (some ⟨q,0,none⟩)] w (SmPost t d q L w):=by
 induction h with
 |mk k o s t n l hk ho hn hs ht hrg ih =>
  intro x A w d q L hT hq hL0 hL1 hd hA;obtain ⟨xk,xo,xs,xt,xn,xla,xln,xlc⟩:=x;obtain ⟨h1,h2,h3,h4,h5,hK⟩:=hT.parts;simp only at h1 h2 h3 h4 h5 hK;subst h1 h2 h5;have HLn:=h_ hK.len;have HSs:=h_ (show xs.size=s.length by rw [h3];show s.toArray.size=_;simp);have HSt:=h_ (show xt.size=t.length by rw [h4];show t.toArray.size=_;simp);clear h3 h4;have hql:=hq.lt;have HX0:=h_ (show Ext w (w.alloc (.cells #[.int .i64 xk,.int .i64 xo,.string xs,.string xt,.int .i64 xn,.slice xla xln xlc] 24)) from (Ext.refl w).alloc _);have HB0:=h_ (Blk.new w #[.int .i64 xk,.int .i64 xo,.string xs,.string xt,.int .i64 xn,.slice xla xln xlc] 24 rfl);have HQ0:=h_ (hq.keep HX0.out);have hwq:w.heap.size≠q:=by omega
  have HK0:=h_ (hK.ext HX0.out);have HIh:=h_ ih;have HA:=h_ hA;have HMk:=h_ (fun (hd:d<=40) (hl:l.length<=20) (h5:s.length<=500) (h6:t.length<=50) (hc:∀ y,y∈l->SmT (d+1) y)=>SmT.mk d xk xo s t xn l hd hn hl h5 h6 hc);have HCn:=h_ (cntT_mk xk xo s t xn l);obtain ⟨TT,hTT⟩:∃ TT,TT=Tr.mk xk xo s t xn l:=⟨_,rfl⟩
  rw [<- hTT] at HMk HCn |-;clear hTT hT hK hq ih hA hk ho hn hs ht hrg;simp only [PN.v];have hsub:=IntWalk.i64_in (L - 1) (by omega);have hsum:=IntWalk.i64_in ((d:Int)+1) (by omega);go_enter Tryz.func16,Tryz.ntmps16;go_upto_region 1 with (fail)
  generalize (w.alloc (.cells #[.int .i64 xk,.int .i64 xo,.string xs,.string xt,.int .i64 xn,.slice xla xln xlc] 24))=W0 at HX0 HB0 HQ0 HK0 |-;obtain ⟨cq,fq⟩:=HQ0.out.facts;have hql0:=HQ0.out.lt;go_upto_region 2 with (fail)
  have HQ1:=h_ (show Blk (W0.setCell ⟨q,0,none⟩ (.int .i64 (L - 1))) q #[.int .i64 (L - 1)] 3 from HQ0.out.set 0 _);have HB1:=h_ (HB0.out.other (a:=⟨q,0,none⟩) hwq (.int .i64 (L - 1)));have HL1:=h_ ((LeP.ofExt (p:=q) HX0.out).trans (LeP.set (w:=W0) 0 (.int .i64 (L - 1))));have HK1:=h_ (HK0.out.later HA.out (LeP.set (w:=W0) 0 (.int .i64 (L - 1))));clear cq fq hql0 HQ0 HB0 HX0 HK0;generalize (W0.setCell ⟨q,0,none⟩ (.int .i64 (L - 1)))=W1 at HQ1 HB1 HL1 HK1 |-;obtain ⟨cq,fq⟩:=HQ1.out.facts;have hql1:=HQ1.out.lt;obtain ⟨cb,fb⟩:=HB1.out.facts;have hbl:=HB1.out.lt;by_cases c1:L - 1<0
  ·have b1:decide (L - 1<0)=true:=by rw [decide_eq_true_iff];exact c1
   go_simp
   repeat (first|go_values|go_skip|go_guarded|go_step|go_upon)
   go_returns;exact ⟨false,L - 1,rfl,HQ1.out,by omega,by omega,HL1.out,fun h=>by cases h⟩
  have b1:decide (L - 1<0)=false:=by rw [decide_eq_false_iff_not];exact c1
  by_cases c2:40<d
  ·have b2:decide (40<(d:Int))=true:=by rw [decide_eq_true_iff];omega
   have b2':decide ((d:Int)>40)=true:=by rw [decide_eq_true_iff];omega
   have b2'':decide (40<d)=true:=by rw [decide_eq_true_iff];omega
   clear c1;go_simp
   repeat (first|go_values|go_skip|go_guarded|go_step|go_upon)
   go_returns;exact ⟨false,L - 1,rfl,HQ1.out,by omega,by omega,HL1.out,fun h=>by cases h⟩
  have b2:decide (40<(d:Int))=false:=by rw [decide_eq_false_iff_not];omega
  have b2':decide ((d:Int)>40)=false:=by rw [decide_eq_false_iff_not];omega
  have b2'':decide (40<d)=false:=by rw [decide_eq_false_iff_not];omega
  by_cases c3:20<xln
  ·have b3:decide (20<(xln:Int))=true:=by rw [decide_eq_true_iff];omega
   have b3':decide ((xln:Int)>20)=true:=by rw [decide_eq_true_iff];omega
   have b3'':decide (20<xln)=true:=by rw [decide_eq_true_iff];omega
   clear c1 c2;go_simp
   repeat (first|go_values|go_skip|go_guarded|go_step|go_upon)
   go_returns;exact ⟨false,L - 1,rfl,HQ1.out,by omega,by omega,HL1.out,fun h=>by cases h⟩
  have b3:decide (20<(xln:Int))=false:=by rw [decide_eq_false_iff_not];omega
  have b3':decide ((xln:Int)>20)=false:=by rw [decide_eq_false_iff_not];omega
  have b3'':decide (20<xln)=false:=by rw [decide_eq_false_iff_not];omega
  by_cases c4:500<xs.size
  ·have b4:decide (500<(xs.size:Int))=true:=by rw [decide_eq_true_iff];omega
   have b4':decide ((xs.size:Int)>500)=true:=by rw [decide_eq_true_iff];omega
   have b4'':decide (500<xs.size)=true:=by rw [decide_eq_true_iff];omega
   clear c1 c2 c3;go_simp
   repeat (first|go_values|go_skip|go_guarded|go_step|go_upon)
   go_returns;exact ⟨false,L - 1,rfl,HQ1.out,by omega,by omega,HL1.out,fun h=>by cases h⟩
  have b4:decide (500<(xs.size:Int))=false:=by rw [decide_eq_false_iff_not];omega
  have b4':decide ((xs.size:Int)>500)=false:=by rw [decide_eq_false_iff_not];omega
  have b4'':decide (500<xs.size)=false:=by rw [decide_eq_false_iff_not];omega
  by_cases c5:50<xt.size
  ·have b5:decide (50<(xt.size:Int))=true:=by rw [decide_eq_true_iff];omega
   have b5':decide ((xt.size:Int)>50)=true:=by rw [decide_eq_true_iff];omega
   have b5'':decide (50<xt.size)=true:=by rw [decide_eq_true_iff];omega
   clear c1 c2 c3 c4;go_simp
   repeat (first|go_values|go_skip|go_guarded|go_step|go_upon)
   go_returns;exact ⟨false,L - 1,rfl,HQ1.out,by omega,by omega,HL1.out,fun h=>by cases h⟩
  have b5:decide (50<(xt.size:Int))=false:=by rw [decide_eq_false_iff_not];omega
  have b5':decide ((xt.size:Int)>50)=false:=by rw [decide_eq_false_iff_not];omega
  have b5'':decide (50<xt.size)=false:=by rw [decide_eq_false_iff_not];omega
  have HM:=h_ (fun hc=>HMk.out (by omega) (by have:=HLn.out;omega) (by have:=HSs.out;omega) (by have:=HSt.out;omega) hc);have hl20:xln<=20:=by omega
  have hL2:0<=L - 1:=by omega
  have hd40:d+1<=41:=by omega
  clear c1 c2 c3 c4 c5 HMk HSs HSt;go_simp
  repeat (first|go_values|go_skip|go_guarded|go_step|go_upon)
  clear b1 b2 b2' b2'' b3 b3' b3'' b4 b4' b4'' b5 b5' b5'' cq fq hql1 cb fb hbl;go_loopw [7] (fun i wr=>∃ (j:Nat) (Lj:Int),j<=xln/\i= .int .i64 j/\Blk wr q #[.int .i64 Lj] 3/\LeP q W1 wr/\0<=Lj/\Lj+cntTs (l.take j)=L - 1/\∀ z,z∈l.take j->SmT (d+1) z) (fun i _=>xln - (intOf i).toNat)
  case atStart=>exact ⟨0,L - 1,Nat.zero_le _,rfl,HQ1.out,LeP.refl _ _,hL2,by simp [cntTs],fun z hz=>by simp at hz⟩
  case round =>
   obtain ⟨j,Lj,hj,rfl,hqj,hlj,hj0,hjc,hjs⟩:=hrel;have HQj:=h_ hqj;have HLj:=h_ hlj;have HJc:=h_ hjc;have HJs:=h_ hjs;have HBj:=h_ (hlj.blk HB1.out hwq);clear hqj hlj hjc hjs;obtain ⟨cb,fb⟩:=HBj.out.facts;have hbl:=HBj.out.lt;by_cases hlt:j<xln
   ·have hltI:(j:Int)<(xln:Int):=by omega
    obtain ⟨g,off,y,z,hla,hz,hTy,hgl,hAg,hlc,q0,q1,q2,q3,q4,q5⟩:=(HK1.out.later HA.out HLj.out).get j (by have:=HLn.out;omega);have hzm:=List.mem_of_getElem? hz;have KC:=h_ (HIh.out z hzm y A wr (d+1) q Lj hTy HQj.out hj0 (by
     have:=HJc.out;omega) hd40 HA.out)
    have HCt:=h_ (cntTs_take l j z hz);have HZm:=h_ hz;rw [show ((d+1:Nat):Int)=(d:Int)+1 from rfl] at KC;obtain ⟨yk,yo,ys,yt,yn,yla,yln,ylc⟩:=y;simp only [PN.v] at KC;simp only at q0 q1 q2 q3 q4 q5;subst hla;clear hTy hzm hz;go_simp
    repeat (first|go_values|go_skip|go_guarded|go_step|go_upon)
    refine Calls.mono KC.out ?_;rintro e W2 ⟨b,L2,rfl,hq2,hle2,hm2,hl2,hb2⟩;have HQ2:=h_ hq2;have HL2:=h_ (HLj.out.trans hl2);have HB2:=h_ hb2;clear hq2 hl2 hb2 KC q0 q1 q2 q3 q4 q5 cb fb hbl;have hjc2:=HJc.out;cases b
    ·go_simp
     repeat (first|go_values|go_skip|go_guarded|go_step|go_upon)
     go_returns;exact ⟨false,L2,rfl,HQ2.out,by omega,hm2,HL1.out.trans HL2.out,fun h=>by cases h⟩
    ·obtain ⟨hsm,hcn,hl0⟩:=HB2.out rfl;have HSm:=h_ hsm;clear hsm;go_simp
     repeat (first|go_values|go_skip|go_guarded|go_step|go_upon)
     go_roundw
     case measure=>simp [intOf];omega
     case rel =>
     refine ⟨u6,.int .i64 ((j+1:Nat):Int),⟨j+1,by omega,rfl,L2,HQ2.out,HL2.out,hl0,by have:=HCt.out;omega,fun z2 hz2=>?_⟩,by simp⟩;rw [List.take_add_one,HZm.out] at hz2;rcases List.mem_append.1 hz2 with h|h
     ·exact HJs.out z2 h
     ·simp at h;subst h;exact HSm.out
   ·have hltI:¬ (j:Int)<(xln:Int):=by omega
    go_simp
    repeat (first|go_values|go_skip|go_guarded|go_step|go_upon)
    go_returns;refine ⟨true,Lj,rfl,HQj.out,by have:=HJc.out;omega,by omega,HL1.out.trans HLj.out,fun _=>⟨HM.out fun z hz=>HJs.out z (by rw [List.take_of_length_le (by have:=HLn.out;omega)];exact hz),?_,hj0⟩⟩;have h1:=HJc.out;rw [List.take_of_length_le (by have:=HLn.out;omega)] at h1;have h2:=HCn.out;rw [h2];omega
theorem smalls_any {t:Tr} (h:RgT t) (x:PN) (A:Nat->Prop) (w:World) (hT:TrIn A w x t) (hA:∀ g,A g->g<w.heap.size) :
 Calls Tryz.prog 5 #[x.v,.int .i64 0] w (SmalPost t w):=by
 obtain ⟨xk,xo,xs,xt,xn,xla,xln,xlc⟩:=x;have hx0:Ext w ((w.alloc (.cells #[.int .i64 xk,.int .i64 xo,.string xs,.string xt,.int .i64 xn,.slice xla xln xlc] 24)).alloc (.cells #[.int .i64 300] 3)):=((Ext.refl w).alloc _).alloc _;have HQ:=h_ (show Blk ((w.alloc (.cells #[.int .i64 xk,.int .i64 xo,.string xs,.string xt,.int .i64 xn,.slice xla xln xlc] 24)).alloc (.cells #[.int .i64 300] 3)) (w.heap.size+1) #[.int .i64 300] 3 from Blk.new (w.alloc (.cells #[.int .i64 xk,.int .i64 xo,.string xs,.string xt,.int .i64 xn,.slice xla xln xlc] 24)) _ _ (by simp));have KS:=h_ (small_any h ⟨xk,xo,xs,xt,xn,xla,xln,xlc⟩ A _ 0 (w.heap.size+1) 300 (hT.ext hx0) HQ.out (by omega) (by omega) (by omega) (fun g hg=>by have:=hA g hg;omega));have HX:=h_ hx0;simp only [PN.v] at KS |-;rw [show ((0:Nat):Int)=0 from rfl] at KS;clear hx0 hT hA;go_enter Tryz.func5,Tryz.ntmps5;go_simp
 repeat (first|go_values|go_skip|go_guarded|go_step|go_upon)
 refine Calls.mono KS.out ?_;rintro e W2 ⟨b,L2,rfl,hq2,hle2,hm2,hl2,hb2⟩;have HX2:=h_ (show Ext w W2 from LeP.below HX.out hl2 (by omega));have HB2:=h_ hb2;clear hq2 hl2 hb2 KS;go_simp
 repeat (first|go_values|go_skip|go_guarded|go_step|go_upon)
 go_returns;refine ⟨b,rfl,HX2.out,fun hb=>?_⟩;obtain ⟨h1,h2,h3⟩:=HB2.out hb;exact ⟨h1,by omega⟩
noncomputable def eqT (a b:Tr):Bool:=@decide (a=b) (Classical.propDecidable _)
noncomputable def eqTs (a b:List Tr):Bool:=@decide (a=b) (Classical.propDecidable _)
theorem eqT_iff (a b:Tr):eqT a b=true↔a=b:=by unfold eqT;simp
theorem eqTs_iff (a b:List Tr):eqTs a b=true↔a=b:=by unfold eqTs;simp
theorem eqT_mk (k o n:Int) (s t:List UInt8) (l:List Tr) (k2 o2 n2:Int) (s2 t2:List UInt8) (l2:List Tr):eqT (.mk k o s t n l) (.mk k2 o2 s2 t2 n2 l2)=(((((k == k2 && o == o2) && s == s2) && t == t2) && n == n2) && eqTs l l2):=by
 rw [Bool.eq_iff_iff,eqT_iff];simp [eqTs_iff,Tr.mk.injEq,and_assoc]
theorem eqTs_false {a b:List Tr} (h:a≠b):eqTs a b=false:=by unfold eqTs;simp [h]
theorem take_eq_next {l1 l2:List Tr} {j:Nat} {z1 z2:Tr} (h:l1.take j=l2.take j) (h1:l1[j]?=some z1) (h2:l2[j]?=some z2) (e:z1=z2):l1.take (j+1)=l2.take (j+1):=by
 subst e;rw [List.take_add_one,List.take_add_one,h,h1,h2]
def SamePost (z1 z2:Tr) (w:World) (e:Ending) (w':World):Prop:=e= .returned (.bool (eqT z1 z2))/\Ext w w'
theorem cell_later {w W:World} {g:Nat} (hg:g<w.heap.size) (h:Ext w W) {a:Nat} {v:Option Value} (hc:w.cell? ⟨g,a,none⟩=v):W.cell? ⟨g,a,none⟩=v:=by
 rw [<- hc];simp [World.cell?,h.block g hg]
theorem snodes_any (A B:Nat->Prop) (la lb:Option Addr) (ln lc ln2 lc2:Nat) (l1 l2:List Tr) (w:World) (hk:KidsA A w la ln lc l1) (hk2:KidsA B w lb ln2 lc2 l2) (hlen:l2.length<=20)
 (hcall:∀ (z1 z2:Tr) (y1 y2:PN) W,z1∈l1->z2∈l2->TrIn A W y1 z1->TrIn B W y2 z2->Ext w W->Calls Tryz.prog 15 #[y1.v,y2.v] W (SamePost z1 z2 W)) :
 Calls Tryz.prog 32 #[.slice la ln lc,.slice lb ln2 lc2] w fun e w'=>e= .returned (.bool (eqTs l1 l2))/\Ext w w':=by
 have mixed:Tryz.prog.follows .mixedOrders=true:=by kernel_rfl
 have HLn:=h_ hk.len;have HLn2:=h_ hk2.len;have HK:=h_ hk;have HK2:=h_ hk2;have KC:=h_ hcall;have HLe:=h_ hlen;obtain ⟨R,hR⟩:∃ R,R=eqTs l1 l2:=⟨_,rfl⟩
 rw [<- hR];have HR:=h_ hR;clear hk hk2 hlen hcall hR;by_cases hne:ln=ln2
 ·subst hne;go_enter Tryz.func32,Tryz.ntmps32;go_simp
  repeat (first|go_values|go_skip|go_guarded|go_step|go_upon)
  go_loopw [5] (fun i wr=>∃ (j:Nat),i= .int .i64 j/\j<=ln/\Ext w wr/\l1.take j=l2.take j) (fun i _=>ln - (intOf i).toNat)
  case atStart=>exact ⟨0,rfl,Nat.zero_le _,Ext.refl w,by simp⟩
  case round =>
   obtain ⟨j,rfl,hj,hx,ht⟩:=hrel;have HX:=h_ hx;have HT:=h_ ht;clear hx ht;by_cases hlt:j<ln
   ·have hltI:(j:Int)<(ln:Int):=by omega
    obtain ⟨g1,off1,y1,z1,hla,hz1,hTy1,hgl1,hAg1,hlc1,p0,p1,p2,p3,p4,p5⟩:=(HK.out.ext HX.out).get j (by have:=HLn.out;omega);obtain ⟨g2,off2,y2,z2,hlb,hz2,hTy2,hgl2,hAg2,hlc2,q0,q1,q2,q3,q4,q5⟩:=(HK2.out.ext HX.out).get j (by have:=HLn2.out;omega);have hj20:ln<=20:=by have:=HLn2.out;have:=HLe.out;omega
    have hlc1:ln<=lc:=by have:=HLn.out;omega
    have hlc2:ln<=lc2:=by have:=HLn2.out;omega
    have KK:=h_ (fun W (hW:Ext wr W)=>KC.out z1 z2 y1 y2 W (List.mem_of_getElem? hz1) (List.mem_of_getElem? hz2) (hTy1.ext hW) (hTy2.ext hW) (Ext.trans HX.out hW));obtain ⟨E,hE⟩:∃ E,E=eqT z1 z2:=⟨_,rfl⟩
    unfold SamePost at KK;rw [<- hE] at KK;have HE:=h_ hE;have HZ:=h_ (And.intro hz1 hz2);obtain ⟨k1,o1,s1,t1,n1,a1,m1,c1⟩:=y1;obtain ⟨k2,o2,s2,t2,n2,a2,m2,c2⟩:=y2;simp only [PN.v] at KK;simp only at p0 p1 p2 p3 p4 p5 q0 q1 q2 q3 q4 q5;subst hla hlb;have HF:=h_ (show ∀ W,Ext wr W->(W.cell? ⟨g1,off1+j * 6,none⟩=some (.int .i64 k1)/\W.cell? ⟨g1,off1+j * 6+1,none⟩=some (.int .i64 o1)/\W.cell? ⟨g1,off1+j * 6+2,none⟩=some (.string s1)/\W.cell? ⟨g1,off1+j * 6+3,none⟩=some (.string t1)/\W.cell? ⟨g1,off1+j * 6+4,none⟩=some (.int .i64 n1)/\W.cell? ⟨g1,off1+j * 6+5,none⟩=some (.slice a1 m1 c1))/\(W.cell? ⟨g2,off2+j * 6,none⟩=some (.int .i64 k2)/\W.cell? ⟨g2,off2+j * 6+1,none⟩=some (.int .i64 o2)/\W.cell? ⟨g2,off2+j * 6+2,none⟩=some (.string s2)/\W.cell? ⟨g2,off2+j * 6+3,none⟩=some (.string t2)/\W.cell? ⟨g2,off2+j * 6+4,none⟩=some (.int .i64 n2)/\W.cell? ⟨g2,off2+j * 6+5,none⟩=some (.slice a2 m2 c2)) from fun W hW=>⟨⟨cell_later hgl1 hW p0,cell_later hgl1 hW p1,cell_later hgl1 hW p2,cell_later hgl1 hW p3,cell_later hgl1 hW p4,cell_later hgl1 hW p5⟩,cell_later hgl2 hW q0,cell_later hgl2 hW q1,cell_later hgl2 hW q2,cell_later hgl2 hW q3,cell_later hgl2 hW q4,cell_later hgl2 hW q5⟩);clear p0 p1 p2 p3 p4 p5 q0 q1 q2 q3 q4 q5 hTy1 hTy2 hz1 hz2 hE hAg1 hAg2 hgl1 hgl2;go_wp2_with fail;refine wp_par 10 (fun
     |0=>fun v _=>v= .slice (some ⟨g1,off1,none⟩) ln lc
     |1=>fun v _=>v= .int .i64 j
     |2=>fun v _=>v= .pointer (some ⟨g1,off1+j * 6,none⟩)
     |3=>fun v _=>v= .agg #[.int .i64 k1,.int .i64 o1,.string s1,.string t1,.int .i64 n1,.slice a1 m1 c1]
     |4=>fun v _=>v= .slice (some ⟨g2,off2,none⟩) ln lc2
     |5=>fun v _=>v= .int .i64 j
     |6=>fun v _=>v= .pointer (some ⟨g2,off2+j * 6,none⟩)
     |7=>fun v _=>v= .agg #[.int .i64 k2,.int .i64 o2,.string s2,.string t2,.int .i64 n2,.slice a2 m2 c2]
     |8=>fun v _=>v= .bool E
     |9=>fun v _=>v= .bool (!E)
     |_=>fun _ _=>True) (by kernel_rfl) (by kernel_rfl) (by kernel_rfl) ?_ ?_
    ·simp (maxSteps:=20000000) only [List.take_succ_cons,List.take_zero,ParAll,Act.put,List.setIfInBounds_toArray,List.set_cons_succ,List.set_cons_zero];refine ⟨?_,?_,?_,?_,?_,?_,?_,?_,?_,?_,trivial⟩
     all_goals
      intro vals W hx hd;have hW:=HF.out W hx;simp [PDeps,pdeps,Region.binds] at hd
      first
       |refine ParOb.plain rfl ?_
       |refine ParOb.wanted (by simp [Region.wanted,yielded,hd]) ?_
     iterate 8
      next =>
       go_simp;exact ParPost.same fun _ _=>rfl
     ·go_simp;refine Calls.mono (KK.out W hx) ?_;rintro e w2 ⟨rfl,hb2⟩;exact ⟨_,rfl,hb2,fun _ _=>rfl⟩
     ·go_simp;exact ParPost.same fun _ _=>rfl
    intro vals W hx hf;simp (maxSteps:=20000000) only [ParFacts,List.take_succ_cons,List.take_zero,and_true] at hf;simp (maxSteps:=20000000) only [List.drop_succ_cons,List.drop_zero,List.take_succ_cons,List.take_zero,ParEnd,Act.put,List.setIfInBounds_toArray,List.set_cons_succ,List.set_cons_zero,hf];clear hf;have HX2:=h_ (Ext.trans HX.out hx);clear hx HF KK;rename World=>W2
    have HE2:=h_ ((eqT_iff z1 z2));rw [<- HE.out] at HE2;cases E
    ·go_simp
     repeat (first|go_values|go_skip|go_guarded|go_step|go_upon)
     go_returns;refine ⟨congrArg (fun b=>Ending.returned (.bool b)) ?_,HX2.out⟩;rw [HR.out];refine (eqTs_false fun e=>?_).symm;subst e;have:=HE2.out.2 (by have h1:=HZ.out.1;have h2:=HZ.out.2;rw [h1] at h2;exact Option.some.inj h2);cases this
    ·go_simp
     repeat (first|go_values|go_skip|go_guarded|go_step|go_upon)
     go_roundw
     case measure=>simp [intOf];omega
     case rel =>
     have ee:=HE2.out.1 rfl;refine ⟨j+1,by simp,by omega,HX2.out,take_eq_next HT.out HZ.out.1 HZ.out.2 ee⟩
   ·have hltI:¬ (j:Int)<(ln:Int):=by omega
    go_simp
    repeat (first|go_values|go_skip|go_guarded|go_step|go_upon)
    go_returns;refine ⟨congrArg (fun b=>Ending.returned (.bool b)) ?_,HX.out⟩;rw [HR.out];refine ((eqTs_iff l1 l2).2 ?_).symm;have h:=HT.out;rw [List.take_of_length_le (by have:=HLn.out;omega),List.take_of_length_le (by have:=HLn2.out;omega)] at h;exact h
 ·have b1:¬ (ln:Int)=(ln2:Int):=by omega
  have b2:((ln:Int) !=(ln2:Int))=true:=by rw [bne_iff_ne];exact b1
  have b3:(ln !=ln2)=true:=by rw [bne_iff_ne];exact hne
  go_enter Tryz.func32,Tryz.ntmps32;go_simp
  repeat (first|go_values|go_skip|go_guarded|go_step|go_upon)
  go_returns;refine ⟨congrArg (fun b=>Ending.returned (.bool b)) ?_,Ext.refl w⟩;rw [HR.out];refine (eqTs_false fun e=>?_).symm;subst e;exact hne (HLn.out.trans HLn2.out.symm)
theorem same_fin {w w':World} {R:Bool} {z1 z2:Tr} (h:R=eqT z1 z2) (hx:Ext w w'):SamePost z1 z2 w (.returned (.bool R)) w':=⟨by rw [h],hx⟩
theorem snode_any {d:Nat} {t2:Tr} (h:SmT d t2):∀ (t1:Tr) (x y:PN) (A B:Nat->Prop) (w:World),TrIn A w x t1->TrIn B w y t2->Calls Tryz.prog 15 #[x.v,y.v] w (SamePost t1 t2 w):=by
 induction h with
 |mk d k2 o2 s2 t2 n2 l2 hd hn hl hs ht hch ih =>
  intro t1 x y A B w hx hy;obtain ⟨k1,o1,s1,t1,n1,l1⟩:=t1;obtain ⟨h1,h2,h3,h4,h5,hK⟩:=hx.parts;obtain ⟨g1,g2,g3,g4,g5,hK2⟩:=hy.parts;obtain ⟨xk,xo,xs,xt,xn,xla,xln,xlc⟩:=x;obtain ⟨yk,yo,ys,yt,yn,yla,yln,ylc⟩:=y;simp only at h1 h2 h3 h4 h5 g1 g2 g3 g4 g5 hK hK2;subst h1 h2 h5 g1 g2 g5;simp only [PN.v];have e1:(xs.toList == ys.toList)=(s1 == s2):=by
   rw [Bool.eq_iff_iff,Go.Lib.bytes_beq_iff,beq_iff_eq,h3,g3];simp
  have e2:(xt.toList == yt.toList)=(t1 == t2):=by
   rw [Bool.eq_iff_iff,Go.Lib.bytes_beq_iff,beq_iff_eq,h4,g4];simp
  have hq:=eqT_mk xk xo xn s1 t1 l1 yk yo yn s2 t2 l2;rw [<- e1,<- e2] at hq;have HQ:=h_ hq;obtain ⟨T1,hT1⟩:∃ T,T=Tr.mk xk xo s1 t1 xn l1:=⟨_,rfl⟩
  obtain ⟨T2,hT2⟩:∃ T,T=Tr.mk yk yo s2 t2 yn l2:=⟨_,rfl⟩
  rw [<- hT1,<- hT2] at HQ |-;have hx0:Ext w ((w.alloc (.cells #[.int .i64 xk,.int .i64 xo,.string xs,.string xt,.int .i64 xn,.slice xla xln xlc] 24)).alloc (.cells #[.int .i64 yk,.int .i64 yo,.string ys,.string yt,.int .i64 yn,.slice yla yln ylc] 24)):=((Ext.refl w).alloc _).alloc _;have KE:=h_ (snodes_any A B xla yla xln xlc yln ylc l1 l2 _ (hK.ext hx0) (hK2.ext hx0) hl fun z1 z2 y1 y2 W hz1 hz2 a b _=>ih z2 hz2 z1 y1 y2 A B W a b);have HX0:=h_ hx0;clear hx hy hK hK2 hx0 ih hq e1 e2 h3 h4 g3 g4 hT1 hT2 hch hd hn hl hs ht;have b0:xk=yk ∨ (xk == yk)=false:=by by_cases h:xk=yk<;>simp [h]
  rcases b0 with rfl|b0
  rotate_left
  ·have c0:¬ xk=yk:=by simpa using b0
   have c1:decide (xk=yk)=false:=by simpa using b0
   rw [b0] at HQ;go_enter Tryz.func15,Tryz.ntmps15;go_simp
   repeat (first|go_values|go_skip|go_guarded|go_step|go_upon)
   go_returns;exact same_fin (by rw [HQ.out];rfl) HX0.out
  have b0:xo=yo ∨ (xo == yo)=false:=by by_cases h:xo=yo<;>simp [h]
  rcases b0 with rfl|b0
  rotate_left
  ·have c0:¬ xo=yo:=by simpa using b0
   have c1:decide (xo=yo)=false:=by simpa using b0
   rw [b0] at HQ;go_enter Tryz.func15,Tryz.ntmps15;go_simp
   repeat (first|go_values|go_skip|go_guarded|go_step|go_upon)
   go_returns;exact same_fin (by rw [HQ.out];simp) HX0.out
  have b0:xs=ys ∨ (xs.toList == ys.toList)=false:=by
   rw [Go.Lib.bytes_beq_false_iff];exact Classical.em _
  rcases b0 with rfl|b0
  rotate_left
  ·rw [b0] at HQ;go_enter Tryz.func15,Tryz.ntmps15;go_simp
   repeat (first|go_values|go_skip|go_guarded|go_step|go_upon)
   go_returns;exact same_fin (by rw [HQ.out];simp) HX0.out
  have b0:xt=yt ∨ (xt.toList == yt.toList)=false:=by
   rw [Go.Lib.bytes_beq_false_iff];exact Classical.em _
  rcases b0 with rfl|b0
  rotate_left
  ·rw [b0] at HQ;go_enter Tryz.func15,Tryz.ntmps15;go_simp
   repeat (first|go_values|go_skip|go_guarded|go_step|go_upon)
   go_returns;exact same_fin (by rw [HQ.out];simp) HX0.out
  have b0:xn=yn ∨ (xn == yn)=false:=by by_cases h:xn=yn<;>simp [h]
  rcases b0 with rfl|b0
  rotate_left
  ·have c0:¬ xn=yn:=by simpa using b0
   have c1:decide (xn=yn)=false:=by simpa using b0
   rw [b0] at HQ;go_enter Tryz.func15,Tryz.ntmps15;go_simp
   repeat (first|go_values|go_skip|go_guarded|go_step|go_upon)
   go_returns;exact same_fin (by rw [HQ.out];simp) HX0.out
  have HQ2:=h_ (show eqTs l1 l2=eqT T1 T2 by rw [HQ.out];simp);clear HQ;go_enter Tryz.func15,Tryz.ntmps15;go_simp
  repeat (first|go_values|go_skip|go_guarded|go_step|go_upon)
  refine Calls.mono KE.out ?_;rintro e w2 ⟨rfl,hb⟩;have HB:=h_ (Ext.trans HX0.out hb);clear hb KE HX0;generalize eqTs l1 l2=E at HQ2 |-;go_simp
  repeat (first|go_values|go_skip|go_guarded|go_step|go_upon)
  go_returns;exact same_fin HQ2.out HB.out
end Go.Proofs.YtimeipjcmffadaaGreatDoor
