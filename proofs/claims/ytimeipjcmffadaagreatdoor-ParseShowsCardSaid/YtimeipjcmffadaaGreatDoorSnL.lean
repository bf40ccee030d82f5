import Derived.Test.YtimeipjcmffadaaGreatDoorPsrR
import Derived.Test.YtimeipjcmffadaaGreatDoorRwI
import Derived.Test.YtimeipjcmffadaaGreatDoorSnI
set_option maxHeartbeats 16000000
namespace Go.Proofs.YtimeipjcmffadaaGreatDoor
open Go.RowKit Go.Lib
set_option maxRecDepth 100000
theorem GlobP.lex {w:World} (h:GlobP w):GlobL w:=⟨h.g.maxLen,h.range,h.g.size⟩
noncomputable def showP (t:Tr):List UInt8 × Int:=@ite _ ((toldR (jn (pwNd (levP t,pwT t) 1))).2.2=0/\(toldR (jn (pwNd (levP t,pwT t) 1))).1=t) (Classical.propDecidable _) (jn (pwNd (levP t,pwT t) 1),0) ([],1)
theorem join_in {B:Nat} (g cap:Nat) (out:Wds) (w:World) (_:out≠[]) (ho:w.ownsRow B 9 1 (.slice (some ⟨g,0,none⟩) out.length cap) out.length (out.map strV)) (hlen:out.length<=500000) (hS:(jn out).length<=1000000000) :
 Calls Tryz.prog 27 #[.slice (some ⟨g,0,none⟩) out.length cap,.string ⟨#[32]⟩] w fun e w'=>e= .returned (.string ⟨(jn out).toArray⟩)/\Below w.heap.size w w':=by
 have hm:(out.map fun x=>(⟨x.toArray⟩:ByteArray)).map (·.data.toList)=out:=by rw [List.map_map];exact (List.map_congr_left fun x _=>by simp).trans (List.map_id _)
 have hj:=Tryz.strings_Join g 0 cap (out.map fun x=>(⟨x.toArray⟩:ByteArray)) ⟨#[32]⟩ w (fun j x hx=>by
  have hx2:(out.map strV)[j]?=some (.string x):=by
   rw [List.getElem?_map] at hx |-;cases h:out[j]? with
   |none=>rw [h] at hx;cases hx
   |some y=>rw [h] at hx;simp at hx;subst hx;rfl
  have:=ho.cells (g:=g) rfl j _ hx2;rw [Addr.add_lit] at this;exact this) (by
  rcases ho.2 with ⟨h,_⟩|⟨g2,cap2,cur,h,_,hb,_⟩
  ·cases h
  ·simp at h;obtain ⟨rfl,_⟩:=h;exact (Array.getElem?_eq_some_iff.1 hb).1) (by rw [List.length_map];omega) (by
  obtain ⟨ao,c2,h,hc⟩:=ownsRow_slice ho;simp at h;rw [List.length_map];omega) (by rw [hm];exact Nat.le_trans hS (by omega))
 rw [hm,List.length_map] at hj;exact hj
theorem show_in (t:Tr) (x:PN) (A:Nat->Prop) (w:World) (h:SmT 0 t) (hc:cntT t<=300) (hTr:TrIn A w x t) (hA:∀ g,A g->g<w.heap.size) (hG:GlobP w) :
 Calls Tryz.prog 13 #[x.v] w fun e w'=>e= .returned (.tuple #[.string ⟨(showP t).1.toArray⟩,.int .i64 (showP t).2])/\Below w.heap.size w w':=by
 have hx0:Ext w ((w.alloc (.cells x.cells 24)).alloc (.cells #[.int .i64 4000] 3)):=((Ext.refl w).alloc _).alloc _;have HX0:=h_ hx0;have HB0:=h_ (show Blk ((w.alloc (.cells x.cells 24)).alloc (.cells #[.int .i64 4000] 3)) w.heap.size x.cells 24 from (Blk.new w _ _ rfl).alloc _);have HQ0:=h_ (show Blk ((w.alloc (.cells x.cells 24)).alloc (.cells #[.int .i64 4000] 3)) (w.heap.size+1) #[.int .i64 4000] 3 from Blk.new _ _ _ (by simp));have HT0:=h_ (hTr.ext hx0);have HA:=h_ hA;have HG:=h_ hG;have KD:=h_ (fun W (hW2:TrIn A W x t)=>deepIn_any 41 t x A W 4000 (smT_deep h) (smT_wide h 41) hW2 (by omega) (by omega));have KS:=h_ (fun (t2:Tr) (y:PN) (B:Nat->Prop) W (h1:TrIn A W x t) (h2:TrIn B W y t2)=>same_any h t2 x y A B W h1 h2);have KGr:=h_ (fun la A q W (hK:KidsA A W la 1 1 [t]) hq hA2=>greatIn_any 41 [t] la 1 1 A q 4000 W (by simpa using smT_deep h) ⟨by simp,by simpa using smT_wide h 41⟩ hK hq (by have:=cntL_le (41+1) [t];rw [cntTs_cons,cntTs] at this;omega) (by omega) hA2);obtain ⟨out,hout⟩:∃ out,out=pwNd (levP t,pwT t) 1:=⟨_,rfl⟩
 have hpl:=pwT_len t;have hnl:=pwNd_len (levP t,pwT t) 1;have h0:out≠[]:=by rw [hout];exact pwNd_pos (pwT_pos t) 1
 rw [<- hout] at hnl;simp only at hnl;have hlen:out.length<=500000:=by omega
 have hS:(jn out).length<=1000000000:=by
  have h1:=jn_len 1100 out (by rw [hout];exact allLe_nd (allLe_pwT h) 1);have h2:out.length * (1100+1)<=7000 * 1101:=Nat.mul_le_mul_right _ (by omega);omega
 have KN:=h_ (fun w0 q W (hG0:GlobP w0) a b c=>node_in w0 w0.heap.size q t (bare_all w0 w0.heap.size q hG0 rfl h) x 1 [] A W a b c (by rw [<- hout];simpa using hlen));rw [<- hout] at KN;have KJ:=h_ (fun B g cap W ho=>join_in (B:=B) g cap out W h0 ho hlen hS);have hsz:(⟨(jn out).toArray⟩:ByteArray).size=(jn out).length:=by simp [ByteArray.size]
 have KE:=h_ (fun W (h0:0<W.heap.size) (hG:GlobL W)=>pexpr_all ⟨(jn out).toArray⟩ W h0 hG (by rw [hsz];unfold maxLen;omega));rw [bsl_mk] at KE;have hsp1:((toldR (jn out)).2.2=0/\(toldR (jn out)).1=t)->showP t=(jn out,0):=fun h=>by
  unfold showP;rw [<- hout];exact if_pos h
 have hsp2:¬ ((toldR (jn out)).2.2=0/\(toldR (jn out)).1=t)->showP t=([],1):=fun h=>by
  unfold showP;rw [<- hout];exact if_neg h
 have hsp:=And.intro hsp1 hsp2;clear hsp1 hsp2;obtain ⟨R,hR⟩:∃ R,R=showP t:=⟨_,rfl⟩
 rw [<- hR] at hsp |-;have HR:=h_ hsp;clear hsp hR hsz;generalize jn out=S at KJ KE HR |-;generalize toldR S=Q at KE HR;obtain ⟨Qt,Qa,Qe⟩:=Q;simp only at KE HR;have H0:=h_ h0;clear hx0 hTr hA hG hc h0 hlen hS hpl hnl hout h;obtain ⟨xk,xo,xs,xt,xn,xla,xln,xlc⟩:=x;simp only [PN.cells,PN.v] at *;obtain ⟨cb,fb⟩:=HB0.out.facts;have hbl:=HB0.out.lt;go_enter Tryz.func13,Tryz.ntmps13;go_simp
 repeat (first|go_values|go_skip|go_guarded|go_step|go_upon)
 generalize (w.alloc (.cells #[.int .i64 xk,.int .i64 xo,.string xs,.string xt,.int .i64 xn,.slice xla xln xlc] 24)).alloc (.cells #[.int .i64 4000] 3)=W0 at HX0 HB0 HQ0 HT0 cb fb hbl |-;refine Calls.mono (KD.out W0 HT0.out) ?_;rintro e W1 ⟨rfl,hx1⟩;have HX1:=h_ (Ext.trans HX0.out hx1);have HB1:=h_ (HB0.out.keep hx1);have HQ1:=h_ (HQ0.out.keep hx1);have HT1:=h_ (HT0.out.ext hx1);clear hx1 HX0 HB0 HQ0 HT0 cb fb hbl KD;obtain ⟨cb,fb⟩:=HB1.out.facts;have hbl:=HB1.out.lt;have hql:=HQ1.out.lt;go_simp
 repeat (first|go_values|go_skip|go_guarded|go_step|go_upon)
 have hx2:Ext W1 (W1.alloc (.cells #[.int .i64 xk,.int .i64 xo,.string xs,.string xt,.int .i64 xn,.slice xla xln xlc] 24)):=(Ext.refl W1).alloc _;have HN2:=h_ (Blk.new W1 #[.int .i64 xk,.int .i64 xo,.string xs,.string xt,.int .i64 xn,.slice xla xln xlc] 24 rfl);have HK2:=h_ (show KidsA (fun g=>g≠w.heap.size+1) (W1.alloc (.cells #[.int .i64 xk,.int .i64 xo,.string xs,.string xt,.int .i64 xn,.slice xla xln xlc] 24)) (some ⟨W1.heap.size,0,none⟩) 1 1 [t] from .inr ⟨W1.heap.size,0,[⟨xk,xo,xs,xt,xn,xla,xln,xlc⟩],rfl,rfl,Nat.le_refl _,rfl,by show W1.heap.size≠_;omega,PnIn.ofAt (pnAt_of [⟨xk,xo,xs,xt,xn,xla,xln,xlc⟩] HN2.out),fun i y z hy hz=>by
  have hi:i=0:=by have:=(List.getElem?_eq_some_iff.1 hy).1;simp at this;omega
  subst hi;obtain rfl:=Option.some.inj hy;obtain rfl:=Option.some.inj hz;exact (HT1.out.ext hx2).mono fun g h _=>by have:=HA.out g h;omega,by simp⟩)
 refine Calls.mono (KGr.out _ _ _ _ HK2.out (HQ1.out.keep hx2) (fun g h=>h)) ?_;rintro e W3 ⟨rfl,hq3,hl3⟩;have HL3:=h_ ((LeP.ofExt (p:=w.heap.size+1) (Ext.trans HX1.out hx2)).trans hl3);have HB3:=h_ (hl3.blk (HB1.out.keep hx2) (by omega));have HT3:=h_ ((HT1.out.ext hx2).later (p:=w.heap.size+1) (fun g h=>by have:=HA.out g h;omega) hl3);clear hq3 hl3 hx2 HK2 HX1 HB1 HQ1 HT1 cb fb hbl hql KGr;obtain ⟨cb,fb⟩:=HB3.out.facts;have hbl:=HB3.out.lt;go_simp
 repeat (first|go_values|go_skip|go_guarded|go_step|go_upon)
 have hw3:w.heap.size+1<=W3.heap.size:=by omega
 have hx3:Ext w W3:=⟨HL3.out.os,HL3.out.tape,HL3.out.out,HL3.out.size,fun i hi=>HL3.out.old i hi (by omega)⟩
 have HX3:=h_ hx3;have HP4:=h_ (show Pst W3 W3.heap.size W3.heap.size [] (W3.alloc (.cells #[.slice none 0 0] 67)) from ⟨⟨Nat.le_refl _,_,Blk.new W3 _ _ rfl,World.ownsRow_nil _ _ _ _⟩,(Ext.refl W3).alloc _,by simp⟩);have KN4:=h_ (KN.out W3 W3.heap.size _ (HG.out.keep hx3) HT3.out (fun g h=>by have:=HA.out g h;omega) HP4.out);clear hx3 HL3 KN;generalize W3.alloc (.cells #[.slice none 0 0] 67)=W4 at HP4 KN4 |-;have HB4:=h_ (show Blk W4 w.heap.size _ 24 from (HP4.out.be.block _ (by omega)).trans HB3.out);clear cb fb hbl;obtain ⟨cb,fb⟩:=HB4.out.facts;have hbl:=HB4.out.lt;generalize hqq:W3.heap.size=q at KN4 |-;go_simp
 repeat (first|go_values|go_skip|go_guarded|go_step|go_upon)
 refine Calls.mono KN4.out ?_;rintro e W5 ⟨rfl,hp5,hl5⟩;rw [List.nil_append] at hp5;have hbel5:=hp5.be;have HB5:=h_ (show Blk W5 w.heap.size _ 24 from (hbel5.block _ (by omega)).trans HB3.out);have HT5:=h_ (show TrIn A W5 _ t from HT3.out.same (fun g hg _=>hbel5.block _ (by have:=HA.out g hg;omega)) hbel5.size);have HX5:=h_ (show Ext w W5 from HX3.out.trans (show Ext W3 W5 from by rw [<- hqq] at hbel5;exact hbel5));obtain ⟨v,hq5,ho5⟩:=hp5.pr.ex;have HO5:=h_ ho5;have HQ5:=h_ hq5;clear hp5 hl5 hbel5 ho5 hq5 HX3 HB4 HT3 HP4 KN4 HB3 cb fb hbl;rcases HO5.out.2 with ⟨rfl,h00⟩|⟨g5,cap,cur,rfl,_⟩
 ·exact absurd (by simpa using h00) H0.out
 obtain ⟨cq,fq⟩:=HQ5.out.facts;have hql:=HQ5.out.lt;go_simp
 repeat (first|go_values|go_skip|go_guarded|go_step|go_upon)
 refine Calls.mono (KJ.out _ g5 cap W5 HO5.out) ?_;rintro e W6 ⟨rfl,hx6⟩;have HX6:=h_ (Ext.trans HX5.out hx6);have HB6:=h_ (HB5.out.keep hx6);have HT6:=h_ (HT5.out.ext hx6);clear hx6 HX5 HB5 HT5 HO5 HQ5 cq fq hql KJ;go_simp
 repeat (first|go_values|go_skip|go_guarded|go_step|go_upon)
 obtain ⟨r,hr,hcall⟩:=KE.out W6 (by have:=HX6.out.size;have:=HB6.out.lt;omega) (HG.out.keep HX6.out).lex;have HRr:=h_ hr;refine Calls.mono hcall ?_;rintro e W7 ⟨y,rfl,hty,hx7⟩;have HX7:=h_ (Ext.trans HX6.out hx7);have HB7:=h_ (HB6.out.keep hx7);have HT7:=h_ (HT6.out.ext hx7);have HY7:=h_ (TrIn.ofAt hty);clear hx7 hty HX6 HB6 HT6 KE hr hcall;obtain ⟨yk,yo,ys,yt,yn,yla,yln,ylc⟩:=y;simp only [PN.v];obtain ⟨cb,fb⟩:=HB7.out.facts;have hbl:=HB7.out.lt;have hx8:Ext W7 (W7.alloc (.cells #[.int .i64 yk,.int .i64 yo,.string ys,.string yt,.int .i64 yn,.slice yla yln ylc] 24)):=(Ext.refl W7).alloc _;have KS8:=h_ (KS.out r ⟨yk,yo,ys,yt,yn,yla,yln,ylc⟩ _ _ (HT7.out.ext hx8) (HY7.out.ext hx8));simp only [] at KS8;have HX8:=h_ (Ext.trans HX7.out hx8);clear hx8 HX7 HT7 HY7 KS;cases hQ:Qe == 0
 ·have hn0:¬ Qe=0:=beq_eq_false_iff_ne.1 hQ;have hEb:(Qe !=0)=true:=by simp only [bne,hQ];rfl
  have HR2:=h_ (show R=([],1) from HR.out.2 fun e=>hn0 e.1);clear hn0 HR HRr KS8;go_simp
  repeat (first|go_values|go_skip|go_guarded|go_step|go_upon)
  go_returns;exact ⟨by rw [HR2.out];rfl,HX8.out⟩
 ·obtain rfl:Qe=0:=eq_of_beq hQ;have hrq:r=Qt:=HRr.out rfl;subst hrq;unfold SamePost at KS8;obtain ⟨E,hE⟩:∃ E,E=eqT t r:=⟨_,rfl⟩
  rw [<- hE] at KS8;have HE:=h_ hE;clear hE;go_simp
  repeat (first|go_values|go_skip|go_guarded|go_step|go_upon)
  refine Calls.mono KS8.out ?_;rintro e W9 ⟨rfl,hx9⟩;have HX9:=h_ (Ext.trans HX8.out hx9);clear hx9 HX8 HB7 cb fb hbl KS8;cases E
  ·have hne:¬ t=r:=fun e=>by
    have h1:=(eqT_iff t r).2 e;rw [<- HE.out] at h1;cases h1
   have HR2:=h_ (show R=([],1) from HR.out.2 fun e=>hne e.2.symm);clear hne;go_simp
   repeat (first|go_values|go_skip|go_guarded|go_step|go_upon)
   go_returns;exact ⟨by rw [HR2.out];rfl,HX9.out⟩
  ·have heq:t=r:=(eqT_iff t r).1 HE.out.symm;have HR2:=h_ (show R=(S,0) from HR.out.1 ⟨rfl,heq.symm⟩);clear heq;go_simp
   repeat (first|go_values|go_skip|go_guarded|go_step|go_upon)
   go_returns;exact ⟨by rw [HR2.out];rfl,HX9.out⟩
theorem jn_consN (x:List UInt8) (B:Wds) (h:B≠[]):jn (x::B)=x++32::jn B:=by
 cases B with
 |nil=>exact absurd rfl h
 |cons y r=>exact jn_cons x y r
theorem op_eq (o:Int) (h:1<=o/\o<=19 ∨ o=22):strT 6 o=lvR 6 o/\sgn o 9 1=opN o:=by
 rcases (by omega:o=1 ∨ o=2 ∨ o=3 ∨ o=4 ∨ o=5 ∨ o=6 ∨ o=7 ∨ o=8 ∨ o=9 ∨ o=10 ∨ o=11 ∨ o=12 ∨ o=13 ∨ o=14 ∨ o=15 ∨ o=16 ∨ o=17 ∨ o=18 ∨ o=19 ∨ o=22) with rfl|rfl|rfl|rfl|rfl|rfl|rfl|rfl|rfl|rfl|rfl|rfl|rfl|rfl|rfl|rfl|rfl|rfl|rfl|rfl<;>decide
theorem lev_shape {k o:Int} {s t:List UInt8} {n:Int} {m:Nat} (h:Shape k o s t n m):strT k o=lvR k o:=by
 rcases h with ⟨rfl,_⟩|⟨rfl,_⟩|⟨rfl,_⟩|⟨rfl,_⟩|⟨rfl,_⟩|⟨rfl,h,_⟩|⟨rfl,h,_⟩|⟨rfl,_⟩|⟨rfl,_⟩|⟨rfl,_⟩|⟨rfl,_⟩|⟨rfl,_⟩|⟨rfl,_⟩|⟨rfl,_⟩|⟨rfl,_⟩
 case inr.inr.inr.inr.inr.inr.inl=>exact (op_eq o h).1
 all_goals simp [strT,lvR]
theorem lev_wf {t:Tr} (h:Wf t):levP t=lvT t:=by
 cases h with
 |mk k o s t n l hs _=>exact lev_shape hs
theorem jn_nd {c:Int × Wds} (h:c.2≠[]) (lv:Int):jn (pwNd c lv)=atB (c.1,jn c.2) lv:=by
 unfold pwNd atB;split
 ·rw [List.append_assoc,List.cons_append,List.nil_append,jn_consN _ _ (by simp),jn_append _ _ h (by simp),jn_one];simp
 ·rfl
theorem kid_jn {z:Tr} (h:Wf z) (ih:jn (pwT z)=wordsT z) (lv:Int):jn (pwNd (levP z,pwT z) lv)=atB (lvT z,wordsT z) lv:=by
 rw [jn_nd (pwT_pos z),lev_wf h];simp only;rw [ih]
theorem kid_ne (z:Tr) (lv:Int):pwNd (levP z,pwT z) lv≠[]:=pwNd_pos (pwT_pos z) lv
theorem jn_more:∀ (l:List Tr),(∀ z∈l,Wf z/\jn (pwT z)=wordsT z)->∀ A:Wds,A≠[]->jn (A++pwMore (pwTs l))=jn A++commaB (wordsTs l)
 | [],_,A,_=>by rw [pwTs,wordsTs];simp [pwMore,commaB]
 |z::l,h,A,hA=>by
  obtain ⟨h1,h2⟩:=h z (by simp);have ih:=jn_more l (fun y hy=>h y (List.mem_cons_of_mem _ hy)) (A++([[44]]++pwNd (levP z,pwT z) 1)) (by simp);rw [pwTs_cons,wordsTs_cons];simp only [pwMore,commaB];rw [<- List.append_assoc] ;rw [ih,jn_append _ _ hA (by simp),List.cons_append,List.nil_append,jn_consN _ _ (kid_ne z 1),kid_jn h1 h2];simp
theorem jn_list (z:Tr) (l:List Tr) (h:∀ y∈z::l,Wf y/\jn (pwT y)=wordsT y):jn (pwList (pwTs (z::l)))=commasB (wordsTs (z::l)):=by
 obtain ⟨h1,h2⟩:=h z (by simp);rw [pwTs_cons,wordsTs_cons];simp only [pwList,commasB];rw [jn_more l (fun y hy=>h y (List.mem_cons_of_mem _ hy)) _ (kid_ne z 1),kid_jn h1 h2]
theorem list_ne (z:Tr) (l:List Tr):pwList (pwTs (z::l))≠[]:=by
 rw [pwTs_cons];simp only [pwList];exact fun e=>kid_ne z 1 (List.append_eq_nil_iff.1 e).1
theorem jn_wf {t:Tr} (h:Wf t):jn (pwT t)=wordsT t:=by
 induction h with
 |mk k o s t n l hs hl ih =>
  rw [pwT_mk,wordsT_mk];have hk:∀ z∈l,∀ lv,jn (pwNd (levP z,pwT z) lv)=atB (lvT z,wordsT z) lv:=fun z hz lv=>kid_jn (hl z hz) (ih z hz) lv;have hn:=fun z lv=>kid_ne z lv;rcases hs with ⟨rfl,rfl,rfl,rfl,rfl,hm⟩|⟨rfl,rfl,rfl,rfl,hnn,hm⟩|⟨rfl,rfl,rfl,rfl,hm⟩|⟨rfl,rfl,rfl,rfl,hm⟩|⟨rfl,rfl,rfl,hm⟩|⟨rfl,ho,rfl,rfl,rfl,hm⟩|⟨rfl,ho,rfl,rfl,rfl,hm⟩|⟨rfl,rfl,rfl,rfl,hnn,hm⟩|⟨rfl,rfl,rfl,rfl,hnn,hm⟩|⟨rfl,rfl,rfl,rfl,hnn,hm⟩|⟨rfl,rfl,rfl,rfl,hnn,hm⟩|⟨rfl,rfl,rfl,rfl,hm⟩|⟨rfl,rfl,rfl,rfl,h1,h3,hm⟩|⟨rfl,rfl,_,rfl,rfl,hm⟩|⟨rfl,rfl,_,rfl,rfl,hm⟩
  ·obtain rfl:=List.eq_nil_of_length_eq_zero hm;simp [pwB,pwPlain,wordsB,testB,callB,leafB,nullL,jn_one]
  ·obtain rfl:=List.eq_nil_of_length_eq_zero hm;rcases hnn with rfl|rfl<;>simp [pwB,pwPlain,wordsB,testB,callB,leafB,jn_one]
  ·obtain rfl:=List.eq_nil_of_length_eq_zero hm;simp [pwB,pwPlain,wordsB,testB,callB,leafB,jn_one]
  ·obtain rfl:=List.eq_nil_of_length_eq_zero hm;simp [pwB,pwPlain,wordsB,testB,callB,leafB,jn_one]
  ·obtain rfl:=List.eq_nil_of_length_eq_zero hm;by_cases ht:t=[]
   ·subst ht;simp [pwB,pwPlain,pwName,wordsB,testB,callB,leafB,jn_one]
   ·simp [pwB,pwPlain,pwName,ht,wordsB,testB,callB,leafB,jn_one,jn_cons]
  ·obtain ⟨a,rfl⟩:=List.length_eq_one_iff.1 hm;rw [pwTs_cons,wordsTs_cons,pwTs,wordsTs];rcases ho with rfl|rfl<;>simp [pwB,strT,pwAt,wordsB,atI,hn,hk,jn_consN]
  ·obtain ⟨a,b,rfl⟩:=len_two hm;obtain ⟨h1,h2⟩:=op_eq o ho;rw [pwTs_cons,pwTs_cons,wordsTs_cons,wordsTs_cons,pwTs,wordsTs];simp only [pwB,pwBin,wordsB,h1,h2];by_cases h4:lvR 6 o=4
   ·simp [h4,pwAt,atI,hn,hk,jn_append,jn_consN]
   ·simp [h4,pwAt,atI,hn,hk,jn_append,jn_consN]
  ·obtain ⟨a,rfl⟩:=List.length_eq_one_iff.1 hm;rw [pwTs_cons,wordsTs_cons,pwTs,wordsTs];rcases hnn with rfl|rfl<;>simp [pwB,pwNot,notB,pwAt,wordsB,testB,atI,hn,hk,jn_append,jn_consN,jn_one]
  ·rcases hm with hm|hm
   ·obtain ⟨a,b,rfl⟩:=len_two hm;rw [pwTs_cons,pwTs_cons,wordsTs_cons,wordsTs_cons,pwTs,wordsTs];rcases hnn with rfl|rfl<;>simp [pwB,pwTest,pwLike,pwNot,notB,pwAt,wordsB,testB,atI,hn,hk,jn_append,jn_consN]
   ·obtain ⟨a,b,c,rfl⟩:=len_three hm;rw [pwTs_cons,pwTs_cons,pwTs_cons,wordsTs_cons,wordsTs_cons,wordsTs_cons,pwTs,wordsTs];rcases hnn with rfl|rfl<;>simp [pwB,pwTest,pwLike,pwNot,notB,pwAt,wordsB,testB,atI,hn,hk,jn_append,jn_consN]
  ·cases l with
   |nil=>simp at hm
   |cons a r =>
    cases r with
    |nil=>simp at hm
    |cons b r =>
     have hjl:=jn_list b r (fun y hy=>⟨hl y (List.mem_cons_of_mem _ hy),ih y (List.mem_cons_of_mem _ hy)⟩);have hne:=list_ne b r;rw [pwTs_cons a,wordsTs_cons a];have hD:0<(wordsTs (b::r)).length:=by rw [wordsTs_len];simp
     generalize pwTs (b::r)=P at hjl hne |-;generalize wordsTs (b::r)=D at hjl hD |-;rcases hnn with rfl|rfl<;>simp [pwB,pwTest,pwIn,pwNot,notB,pwAt,wordsB,testB,atI,hn,hk,jn_append,jn_consN,jn_one,hjl,hne,hD]
  ·obtain ⟨a,b,c,rfl⟩:=len_three hm;rw [pwTs_cons,pwTs_cons,pwTs_cons,wordsTs_cons,wordsTs_cons,wordsTs_cons,pwTs,wordsTs];rcases hnn with rfl|rfl<;>simp [pwB,pwTest,pwBtw,pwNot,notB,pwAt,wordsB,testB,atI,hn,hk,jn_append,jn_consN]
  ·obtain ⟨a,rfl⟩:=List.length_eq_one_iff.1 hm;rw [pwTs_cons,wordsTs_cons,pwTs,wordsTs];simp [pwB,pwAt,wordsB,testB,callB,atI,hn,hk,jn_append,jn_consN,jn_one]
  ·obtain ⟨a,rfl⟩:=List.length_eq_one_iff.1 hm;rw [pwTs_cons,wordsTs_cons,pwTs,wordsTs];rcases (by omega:n=1 ∨ n=2 ∨ n=3) with rfl|rfl|rfl<;>simp [pwB,pwPlain,pwCast,pwKind,kwB,pwAt,wordsB,testB,callB,atI,hn,hk,jn_append,jn_consN,jn_one]
  ·obtain ⟨a,rfl⟩:=List.length_eq_one_iff.1 hm;rw [pwTs_cons,wordsTs_cons,pwTs,wordsTs];simp [pwB,pwPlain,pwCall,pwList,pwMore,wordsB,testB,callB,atI,hn,hk,jn_append,jn_consN,jn_one]
  ·rcases (by omega:l.length=0 ∨ l.length=1) with hm|hm
   ·obtain rfl:=List.eq_nil_of_length_eq_zero hm;simp [pwTs,wordsTs,pwB,pwPlain,pwCall,pwList,wordsB,testB,callB,jn_consN,jn_one]
   ·obtain ⟨a,rfl⟩:=List.length_eq_one_iff.1 hm;rw [pwTs_cons,wordsTs_cons,pwTs,wordsTs];simp [pwB,pwPlain,pwCall,pwList,pwMore,wordsB,testB,callB,atI,hn,hk,jn_append,jn_consN,jn_one]
set_option maxRecDepth 1000000
theorem lvl_pos (o:Int):∀ m k,1<=k->1<=lvl o m k
 |0,k,_=>by simp [lvl]
 |m+1,k,h=>by
  have:=lvl_pos o m (k+1) (by omega);rw [lvl];split
  ·omega
  ·exact this
theorem levP_pos (t:Tr):¬ levP t<1:=by
 cases t with
 |mk k o s t n l =>
  have:=lvl_pos o 9 1 (by omega);show ¬ strT k o<1;unfold strT
  repeat' split
  all_goals omega
theorem top_words (t:Tr):pwNd (levP t,pwT t) 1=pwT t:=by
 unfold pwNd;rw [if_neg (levP_pos t)]
theorem showP_pos {t:Tr} (h:(toldR (jn (pwT t))).2.2=0/\(toldR (jn (pwT t))).1=t):showP t=(jn (pwT t),0):=by
 unfold showP;rw [top_words];exact if_pos h
theorem showP_neg {t:Tr} (h:¬ ((toldR (jn (pwT t))).2.2=0/\(toldR (jn (pwT t))).1=t)):showP t=([],1):=by
 unfold showP;rw [top_words];exact if_neg h
theorem okR_is {t:Tr}:okR t=true↔(toldR (wordsT t)).2.2=0/\(toldR (wordsT t)).1=t:=by
 unfold okR;rw [Bool.and_eq_true,beq_iff_eq,eqT_iff]
theorem showP_ok {t:Tr} (h:okR t=true):showP t=(wordsT t,0):=by
 have hj:=jn_wf (okR_wf h);rw [okR_is] at h;rw [showP_pos (by rw [hj];exact h),hj]
theorem showP_no {t:Tr} (h:okR t=false):showP t=([],1):=by
 refine showP_neg fun e=>?_;have hw:Wf t:=by
  have:=toldR_wf _ e.1
  rwa [e.2] at this
 rw [jn_wf hw] at e;rw [okR_is.2 e] at h;cases h
theorem told_at0 (l:List UInt8) (h:(toldR l).2.2=0):(toldR l).2.1=0:=by
 unfold toldR at h |-;by_cases h1:(lexR l).2.2≠0
 ·rw [if_pos h1] at h;exact absurd h h1
 ·rw [if_neg h1] at h |-;by_cases h2:(endR (lexR l).1 l.length (readT (lexR l).1 l.length).2).e≠0
  ·rw [if_pos h2] at h;exact absurd h h2
  ·rw [if_neg h2]
def awS:List UInt8:=[97,32,43,32,98,32,42,32,50,32,60,32,51]
def awT0:Tr:= .mk 6 3 [] [] 0 [.mk 6 7 [] [] 0 [.mk 4 0 [97] [] 0 [],.mk 6 9 [] [] 0 [.mk 4 0 [98] [] 0 [],.mk 2 0 [] [] 2 []]],.mk 2 0 [] [] 3 []]
theorem aw_told:toldR awS=(awT0,0,0):=by kernel_rfl
theorem aw_words:wordsT awT0=awS:=by kernel_rfl
theorem smT_mk {d:Nat} {k o:Int} {s t:List UInt8} {n:Int} {l:List Tr} (hd:d<=40) (hn:InR n) (hl:l.length<=20) (hs:s.length<=500) (ht:t.length<=50) (h:∀ y,y∈l->SmT (d+1) y):SmT d (.mk k o s t n l):= .mk d k o s t n l hd hn hl hs ht h
theorem aw_small:SmT 0 awT0:=by
 unfold awT0;have lf:∀ (d:Nat) (k:Int) (s:List UInt8) (n:Int),d<=40->s.length<=500->InR n->SmT d (.mk k 0 s [] n []):=fun d k s n hd hs hn=>smT_mk hd hn (by simp) hs (by simp) (fun y hy=>by cases hy);have h0:InR 0:=by unfold InR;decide
 have h2:InR 2:=by unfold InR;decide
 have h3:InR 3:=by unfold InR;decide
 refine smT_mk (by decide) h0 (by decide) (by decide) (by decide) fun y hy=>?_;rcases List.mem_cons.1 hy with rfl|hy
 ·refine smT_mk (by decide) h0 (by decide) (by decide) (by decide) fun y hy=>?_;rcases List.mem_cons.1 hy with rfl|hy
  ·exact lf _ _ _ _ (by decide) (by decide) h0
  ·obtain rfl:=List.mem_singleton.1 hy;refine smT_mk (by decide) h0 (by decide) (by decide) (by decide) fun y hy=>?_;rcases List.mem_cons.1 hy with rfl|hy
   ·exact lf _ _ _ _ (by decide) (by decide) h0
   ·obtain rfl:=List.mem_singleton.1 hy;exact lf _ _ _ _ (by decide) (by decide) h2
 ·obtain rfl:=List.mem_singleton.1 hy;exact lf _ _ _ _ (by decide) (by decide) h3
theorem aw_ok:okR awT0=true:=okR_is.2 (by rw [aw_words,aw_told];exact ⟨rfl,rfl⟩)
theorem aw_cnt:cntT awT0<=300:=by
 unfold awT0;simp [cntT,cntTs]
def awT:List Lx.Tok:=[⟨2,[68,82,79,80],0,0⟩,⟨2,[84,65,66,76,69],0,5⟩,⟨1,[116],0,11⟩]
theorem aw_lex:Lx.lex [68,82,79,80,32,84,65,66,76,69,32,116]= .ok awT:=by rfl
theorem awakeS_any (w:World) (hG:GlobP w):Calls Tryz.prog 12 #[] w fun e w'=>e= .returned (.bool true)/\Below w.heap.size w w':=by
 have KE:=h_ (pexpr_all ⟨awS.toArray⟩ w (by have:=hG.g.size;omega) hG.lex (by decide));rw [bsl_mk,aw_told] at KE;have KS:=h_ (fun x A W a b c=>show_in awT0 x A W aw_small aw_cnt a b c);rw [showP_ok aw_ok,aw_words] at KS;have KD:=h_ (fun W (hG:GlobP W)=>stmt_any ⟨#[68,82,79,80,32,84,65,66,76,69,32,116]⟩ awT aw_lex (by decide) (by decide) (by rfl) (by rfl) (by rfl) (by rfl) (by rfl) W hG.lex (by decide));rw [show (takeT awT ⟨2,0,0,0⟩ 1).text=[116] from rfl] at KD;have HG:=h_ hG;clear hG;unfold awS at KE KS;go_enter Tryz.func12,Tryz.ntmps12;go_simp
 repeat (first|go_values|go_skip|go_guarded|go_step|go_upon)
 obtain ⟨r,hr,hcall⟩:=KE.out;obtain rfl:=hr rfl;refine Calls.mono hcall ?_;rintro e W1 ⟨x,rfl,hx0,hb1⟩;have hx:=TrIn.ofAt hx0;obtain ⟨e1,e2,_,_,_,hK⟩:=(show TrIn _ _ _ (.mk 6 3 [] [] 0 [.mk 6 7 [] [] 0 [.mk 4 0 [97] [] 0 [],.mk 6 9 [] [] 0 [.mk 4 0 [98] [] 0 [],.mk 2 0 [] [] 2 []]],.mk 2 0 [] [] 3 []]) from hx).parts;have hln:x.ln=2:=hK.len;clear hcall hr hx0;have HX1:=h_ hb1;have HT1:=h_ hx;have hs1:=hb1.size;clear hb1 hx hK KE;obtain ⟨xk,xo,xs,xt,xn,xla,xln,xlc⟩:=x;simp only at e1 e2 hln;subst e1 e2 hln;simp only [PN.v];have hx2:Ext W1 (W1.alloc (.cells #[.int .i64 6,.int .i64 3,.string xs,.string xt,.int .i64 xn,.slice xla 2 xlc] 24)):=(Ext.refl W1).alloc _;have HB2:=h_ (Blk.new W1 #[.int .i64 6,.int .i64 3,.string xs,.string xt,.int .i64 xn,.slice xla 2 xlc] 24 rfl);have HX2:=h_ (Ext.trans HX1.out hx2);have HT2:=h_ ((HT1.out.ext hx2).mono (B:=fun g=>g<W1.heap.size+1) fun g h1 h2=>by simpa using h2);clear HX1 HT1;go_simp
 repeat (first|go_values|go_skip|go_guarded|go_step|go_upon)
 refine Calls.mono (KS.out ⟨6,3,xs,xt,xn,xla,2,xlc⟩ _ _ HT2.out (fun g h=>by simpa using h) (HG.out.keep HX2.out)) ?_;rintro e W3 ⟨rfl,hb3⟩;have HX3:=h_ (Ext.trans HX2.out hb3);have HB3:=h_ (HB2.out.keep hb3);clear hb3 hx2 HX2 HB2 HT2 KS;go_simp
 repeat (first|go_values|go_skip|go_guarded|go_step|go_upon)
 refine Calls.mono (KD.out W3 (HG.out.keep HX3.out)) ?_;rintro e W4 ⟨rfl,hb4⟩;unfold dropV;have HX4:=h_ (Ext.trans HX3.out hb4);have HB4:=h_ (HB3.out.keep hb4);clear hb4 HX3 HB3 KD HG;have hx5:Ext W4 (W4.alloc (.cells #[.int .i64 4,.string ⟨#[116]⟩,.string ⟨#[]⟩,.string ⟨#[]⟩,.int .i64 0,.int .i64 0,.slice none 0 0,.bool false,.bool false,.slice none 0 0,.slice none 0 0,.slice none 0 0,.slice none 0 0,.pointer none,.pointer none,.slice none 0 0,.slice none 0 0,.int .i64 0,.int .i64 0] 56)):=(Ext.refl W4).alloc _;have HX5:=h_ (Ext.trans HX4.out hx5);have HB5:=h_ (HB4.out.keep hx5);have HD5:=h_ (Blk.new W4 #[.int .i64 4,.string ⟨#[116]⟩,.string ⟨#[]⟩,.string ⟨#[]⟩,.int .i64 0,.int .i64 0,.slice none 0 0,.bool false,.bool false,.slice none 0 0,.slice none 0 0,.slice none 0 0,.slice none 0 0,.pointer none,.pointer none,.slice none 0 0,.slice none 0 0,.int .i64 0,.int .i64 0] 56 rfl);clear hx5;go_wp2_with (refine wpList_store_row rfl 56 (.tmp 6) (.tmp 21) rfl W4.heap.size #[.int .i64 4,.string ⟨#[116]⟩,.string ⟨#[]⟩,.string ⟨#[]⟩,.int .i64 0,.int .i64 0,.slice none 0 0,.bool false,.bool false,.slice none 0 0,.slice none 0 0,.slice none 0 0,.slice none 0 0,.pointer none,.pointer none,.slice none 0 0,.slice none 0 0,.int .i64 0,.int .i64 0] rfl rfl 56 #[.int .i64 0,.string ⟨#[]⟩,.string ⟨#[]⟩,.string ⟨#[]⟩,.int .i64 0,.int .i64 0,.slice none 0 0,.bool false,.bool false,.slice none 0 0,.slice none 0 0,.slice none 0 0,.slice none 0 0,.pointer none,.pointer none,.slice none 0 0,.slice none 0 0,.int .i64 0,.int .i64 0] (Blk.new W4 _ _ rfl) infoSt rfl (by simp [Value.oneCell']) ?_;rw [World.setRow_alloc_new];generalize (W4.alloc (.cells #[.int .i64 4,.string ⟨#[116]⟩,.string ⟨#[]⟩,.string ⟨#[]⟩,.int .i64 0,.int .i64 0,.slice none 0 0,.bool false,.bool false,.slice none 0 0,.slice none 0 0,.slice none 0 0,.slice none 0 0,.pointer none,.pointer none,.slice none 0 0,.slice none 0 0,.int .i64 0,.int .i64 0] 56))=W5 at HX5 HB5 HD5 |-;clear HX4 HB4;obtain ⟨cb,fb⟩:=HB5.out.facts;have hbl:=HB5.out.lt;obtain ⟨cd,fd⟩:=HD5.out.facts;have hdl:=HD5.out.lt);go_returns;exact ⟨rfl,HX5.out⟩
set_option maxRecDepth 100000
def ShowsPost (b:Bool) (w:World) (e:Ending) (w':World):Prop:=e= .returned (.bool b)/\Ext w w'
theorem law_shows {t:Tr} (hRg:RgT t) (x:PN) (w:World) (hG:GlobP w) (hT:TrIn (· < w.heap.size) w x t):Calls Tryz.prog 4 #[x.v] w (ShowsPost true w):=by
 obtain ⟨xk,xo,xs,xt,xn,xla,xln,xlc⟩:=x;have HX0:=h_ (show Ext w (w.alloc (.cells #[.int .i64 xk,.int .i64 xo,.string xs,.string xt,.int .i64 xn,.slice xla xln xlc] 24)) from (Ext.refl w).alloc _);have HB0:=h_ (Blk.new w #[.int .i64 xk,.int .i64 xo,.string xs,.string xt,.int .i64 xn,.slice xla xln xlc] 24 rfl);have HT0:=h_ (hT.ext HX0.out);have HA:=h_ (fun W (h:w.heap.size<=W.heap.size) (hW:TrIn (· < w.heap.size) W ⟨xk,xo,xs,xt,xn,xla,xln,xlc⟩ t)=>smalls_any hRg ⟨xk,xo,xs,xt,xn,xla,xln,xlc⟩ (· < w.heap.size) W hW (fun g hg=>Nat.lt_of_lt_of_le hg h));have HG:=h_ hG;have KW:=h_ (fun W (hx:Ext w W)=>awakeS_any W (hG.keep hx));have hsz:=HX0.out.size;simp only [PN.v] at HA |-;clear hT hRg hG;go_enter Tryz.func4,Tryz.ntmps4;go_upto_region 1 with (fail)
 generalize (w.alloc (.cells #[.int .i64 xk,.int .i64 xo,.string xs,.string xt,.int .i64 xn,.slice xla xln xlc] 24))=W0 at HX0 HB0 HT0 hsz |-;obtain ⟨cb,fb⟩:=HB0.out.facts;have hbl:=HB0.out.lt;go_simp
 repeat (first|go_values|go_skip|go_guarded|go_step|go_upon)
 refine Calls.mono (HA.out W0 hsz HT0.out) ?_;rintro e W1 ⟨b,rfl,hb1,hsm⟩;have HSm:=h_ hsm;have HX1:=h_ (Ext.trans HX0.out hb1);have HB1:=h_ (HB0.out.keep hb1);have HT1:=h_ (HT0.out.ext hb1);clear hb1 hsm HX0 HB0 HT0 HA cb fb hbl hsz;obtain ⟨cb,fb⟩:=HB1.out.facts;have hbl:=HB1.out.lt;cases b
 ·go_simp
  repeat (first|go_values|go_skip|go_guarded|go_step|go_upon)
  refine Calls.mono (KW.out _ HX1.out) ?_;rintro e W2 ⟨rfl,hb2⟩;have HX2:=h_ (Ext.trans HX1.out hb2);clear hb2;go_simp
  repeat (first|go_values|go_skip|go_guarded|go_step|go_upon)
  go_returns;exact ⟨rfl,HX2.out⟩
 obtain ⟨hs0,hc0⟩:=HSm.out rfl;have KSh:=h_ (show_in t ⟨xk,xo,xs,xt,xn,xla,xln,xlc⟩ (· < w.heap.size) W1 hs0 hc0 HT1.out (fun g hg=>Nat.lt_of_lt_of_le hg HX1.out.size) (HG.out.keep HX1.out));have KRf:=h_ (fun W (hW:Ext W1 W)=>showR_any hs0 hc0 ⟨xk,xo,xs,xt,xn,xla,xln,xlc⟩ (· < w.heap.size) W (HT1.out.ext hW));have KSn:=h_ (fun (t1:Tr) (y:PN) (B:Nat->Prop) W (hW:Ext W1 W) (h1:TrIn B W y t1)=>snode_any hs0 t1 y ⟨xk,xo,xs,xt,xn,xla,xln,xlc⟩ B (· < w.heap.size) W h1 (HT1.out.ext hW));unfold ShownPost shownB at KRf;simp only [PN.v] at KSh KRf KSn;have HSl:=h_ (show (wordsT t).length<=maxLen from by have:=wordsT_len hs0;unfold maxLen;omega);clear hs0 hc0 HSm;cases hok:okR t
 ·rw [showP_no hok] at KSh;rw [hok] at KRf;go_simp
  repeat (first|go_values|go_skip|go_guarded|go_step|go_upon)
  refine Calls.mono KSh.out ?_;rintro e W2 ⟨rfl,hb2⟩;have HX2:=h_ hb2;have HB2:=h_ (HB1.out.keep hb2);clear hb2 HB1 HT1 KSh cb fb hbl KSn;obtain ⟨cb,fb⟩:=HB2.out.facts;have hbl:=HB2.out.lt;go_simp
  repeat (first|go_values|go_skip|go_guarded|go_step|go_upon)
  refine Calls.mono (KRf.out W2 HX2.out) ?_;rintro e W3 ⟨rfl,hb3⟩;have HX3:=h_ (Ext.trans HX1.out (Ext.trans HX2.out hb3));clear hb3 HX2 HB2 KRf cb fb hbl;go_simp
  repeat (first|go_values|go_skip|go_guarded|go_step|go_upon)
  refine Calls.mono (KW.out _ HX3.out) ?_;rintro e W4 ⟨rfl,hb4⟩;have HX4:=h_ (Ext.trans HX3.out hb4);clear hb4;go_simp
  repeat (first|go_values|go_skip|go_guarded|go_step|go_upon)
  go_returns;exact ⟨rfl,HX4.out⟩
 ·have hq:=okR_is.1 hok;have hsml:=HSl.out;have KE:=h_ (fun W (hx:Ext w W) (h0:0<W.heap.size)=>pexpr_all ⟨(wordsT t).toArray⟩ W h0 (HG.out.keep hx).lex (by simpa [ByteArray.size] using hsml));rw [bsl_mk,told_at0 _ hq.1,hq.1,hq.2] at KE;rw [showP_ok hok] at KSh;rw [hok] at KRf;simp only [if_true] at KRf;clear hq hsml;generalize wordsT t=S at KSh KRf KE;go_simp
  repeat (first|go_values|go_skip|go_guarded|go_step|go_upon)
  refine Calls.mono KSh.out ?_;rintro e W2 ⟨rfl,hb2⟩;have HX2:=h_ hb2;have HB2:=h_ (HB1.out.keep hb2);clear hb2 HB1 HT1 KSh cb fb hbl;obtain ⟨cb,fb⟩:=HB2.out.facts;have hbl:=HB2.out.lt;go_simp
  repeat (first|go_values|go_skip|go_guarded|go_step|go_upon)
  refine Calls.mono (KRf.out W2 HX2.out) ?_;rintro e W3 ⟨rfl,hb3⟩;have HX3:=h_ (Ext.trans HX2.out hb3);have HB3:=h_ (HB2.out.keep hb3);clear hb3 HX2 HB2 KRf cb fb hbl;obtain ⟨cb,fb⟩:=HB3.out.facts;have hbl:=HB3.out.lt;obtain ⟨r,hr,hcall⟩:=KE.out W3 (Ext.trans HX1.out HX3.out) (by omega);obtain rfl:=hr rfl;have KE3:=h_ hcall;clear hcall KE hr;go_simp
  repeat (first|go_values|go_skip|go_guarded|go_step|go_upon)
  refine Calls.mono KE3.out ?_;rintro e W4 ⟨y,rfl,hty,hb4⟩;have HY4:=h_ (TrIn.ofAt hty);have HX4:=h_ (Ext.trans HX3.out hb4);have HB4:=h_ (HB3.out.keep hb4);clear hb4 HX3 HB3 KE3 cb fb hbl hty;obtain ⟨yk,yo,ys,yt,yn,yla,yln,ylc⟩:=y;simp only [PN.v];obtain ⟨cb,fb⟩:=HB4.out.facts;have hbl:=HB4.out.lt;have hx5:Ext W4 (W4.alloc (.cells #[.int .i64 yk,.int .i64 yo,.string ys,.string yt,.int .i64 yn,.slice yla yln ylc] 24)):=(Ext.refl W4).alloc _;have KS5:=h_ (KSn.out _ ⟨yk,yo,ys,yt,yn,yla,yln,ylc⟩ _ _ (Ext.trans HX4.out hx5) (HY4.out.ext hx5));unfold SamePost at KS5;simp only [(eqT_iff _ _).2 rfl] at KS5;have HX5:=h_ (Ext.trans HX1.out (Ext.trans HX4.out hx5));clear hx5 KSn HY4;go_simp
  repeat (first|go_values|go_skip|go_guarded|go_step|go_upon)
  refine Calls.mono KS5.out ?_;rintro e W6 ⟨rfl,hb6⟩;have HX6:=h_ (Ext.trans HX5.out hb6);clear hb6 KS5 HX5 HB4 cb fb hbl;go_simp
  repeat (first|go_values|go_skip|go_guarded|go_step|go_upon)
  refine Calls.mono (KW.out _ HX6.out) ?_;rintro e W7 ⟨rfl,hb7⟩;have HX7:=h_ (Ext.trans HX6.out hb7);clear hb7;go_simp
  repeat (first|go_values|go_skip|go_guarded|go_step|go_upon)
  go_returns;exact ⟨rfl,HX7.out⟩
end Go.Proofs.YtimeipjcmffadaaGreatDoor
