import Derived.Test.YtimeipjcmffadaaGreatDoorShowB
import Derived.Test.YtimeipjcmffadaaGreatDoorSnH
namespace Go.Proofs.YtimeipjcmffadaaGreatDoor
open Go.RowKit Go.Lib
set_option maxRecDepth 100000
theorem words_cap:∀ x∈Lx.words,capB x=true:=by decide
theorem ops2_cap:∀ x∈Lx.ops2,capB x=false:=by decide
theorem ops1_cap:∀ c∈Lx.ops1,capB [c]=false:=by decide
theorem tok1_cap (l:List UInt8) (x:Nat × List UInt8 × Int × Nat) (h:Lx.tok1 l=some x):(x.1=5->capB x.2.1=false)/\(x.1=2->capB x.2.1=true):=by
 cases l with
 |nil=>cases h
 |cons c r =>
  simp only [Lx.tok1] at h;split at h
  ·split at h
   ·obtain rfl:=Option.some.inj h;exact ⟨fun e=>absurd e (by simp),fun e=>absurd e (by simp)⟩
   ·cases h
  split at h
  ·split at h
   ·split at h
    ·rename_i hw;obtain rfl:=Option.some.inj h;refine ⟨fun e=>absurd e (by simp),fun _=>words_cap _ ?_⟩;unfold Lx.isWord at hw;simpa using hw
    ·obtain rfl:=Option.some.inj h;exact ⟨fun e=>absurd e (by simp),fun e=>absurd e (by simp)⟩
   ·cases h
  split at h
  ·obtain ⟨y,_,hq⟩:=Option.map_eq_some_iff.1 h;subst hq;exact ⟨fun e=>absurd e (by simp),fun e=>absurd e (by simp)⟩
  split at h
  ·rename_i ho;obtain rfl:=Option.some.inj h;exact ⟨fun _=>ops2_cap ((c::r).take 2) (by simpa using ho),fun e=>absurd e (by simp)⟩
  split at h
  ·rename_i ho;obtain rfl:=Option.some.inj h;exact ⟨fun _=>ops1_cap c (by simpa using ho),fun e=>absurd e (by simp)⟩
  ·cases h
theorem tokW_snoc {T:List Lx.Tok} {t:Lx.Tok} (h:TokW T) (ht:(t.kind=5->capB t.text=false)/\(t.kind=2->capB t.text=true)):TokW (T++[t]):=by
 intro i u hu;by_cases hi:i<T.length
 ·rw [List.getElem?_append_left hi] at hu;exact h i u hu
 ·rw [List.getElem?_append_right (by omega)] at hu;have h1:=List.mem_of_getElem? hu;simp at h1;subst h1;exact ht
theorem lexGo_cap:∀ (f:Nat) (acc:List Lx.Tok) (pos:Nat) (l:List UInt8) (L:List Lx.Tok),Lx.lexGo f acc pos l= .ok L->TokW acc->TokW L
 |0,acc,pos,l,L,h,ha=>by
  unfold Lx.lexGo at h;obtain rfl:=Except.ok.inj h;exact ha
 |f+1,acc,pos,l,L,h,ha=>by
  unfold Lx.lexGo at h;split at h
  ·obtain rfl:=Except.ok.inj h;exact ha
  ·split at h
   ·cases h
   ·rename_i x hx;exact lexGo_cap f _ _ _ L h (tokW_snoc ha (tok1_cap _ x hx))
theorem lexR_cap (l:List UInt8):TokW (lexR l).1:=by
 have hn:TokW []:=fun i t h=>by cases h
 unfold lexR;by_cases h1:4000<l.length
 ·rw [if_pos h1];exact hn
 ·rw [if_neg h1];cases hL:Lx.lex l with
  |error p=>exact hn
  |ok L=>exact lexGo_cap _ _ _ _ L hL hn
theorem lexR_ok0 (l:List UInt8) (h:(lexR l).2.2=0):(lexR l).2.1=0:=by
 unfold lexR at h |-;by_cases h1:4000<l.length
 ·rw [if_pos h1] at h;cases h
 ·rw [if_neg h1] at h |-;cases hL:Lx.lex l with
  |error p=>rw [hL] at h;cases h
  |ok L=>rfl
set_option maxHeartbeats 8000000 in
theorem pexpr_all (s:ByteArray) (w:World) (h0:0<w.heap.size) (hG:GlobL w) (hs:s.size<=maxLen) :
 ∃ r,((toldR (bsl s)).2.2=0->r=(toldR (bsl s)).1)/\Calls Tryz.prog 14 #[.string s] w (ExprPost r (toldR (bsl s)).2.1 (toldR (bsl s)).2.2 w):=by
 have HR0:=h_ (Blk.new w #[.int .i64 0,.int .i64 0,.string ⟨#[]⟩,.string ⟨#[]⟩,.int .i64 0,.slice none 0 0] 24 rfl);have hx0:Ext w (w.alloc (.cells #[.int .i64 0,.int .i64 0,.string ⟨#[]⟩,.string ⟨#[]⟩,.int .i64 0,.slice none 0 0] 24)):=(Ext.refl w).alloc _;have KB:=h_ (pbegin_all s _ (show 0<(w.alloc (.cells #[.int .i64 0,.int .i64 0,.string ⟨#[]⟩,.string ⟨#[]⟩,.int .i64 0,.slice none 0 0] 24)).heap.size by simp) (hG.keep hx0) hs);have HX0:=h_ hx0;have hcap:=lexR_cap (bsl s);have hok0:=lexR_ok0 (bsl s);have hfew:=lexR_few (bsl s);have hsl:(bsl s).length=s.size:=bsl_length s;unfold toldR;rw [hsl];generalize lexR (bsl s)=R at KB hcap hok0 hfew |-;obtain ⟨T,a,er⟩:=R;simp only at hcap hok0 hfew |-
 -- what the levels read
 have hlev:∃ n s1,plev T s.size (16 * T.length+14) 1 ⟨0,0,a,er⟩=some (n,s1)/\(er≠0->n=zTr/\s1=⟨0,0,a,er⟩)/\(er=0->s1=(readT T s.size).2/\((readT T s.size).2.e=0->n=(readT T s.size).1)):=by
  by_cases he:er=0
  ·subst he;obtain rfl:=hok0 rfl;obtain ⟨r',h1,h2⟩:=toldP_eq T hcap s.size;exact ⟨r',_,h1,fun e=>absurd rfl e,fun _=>⟨rfl,h2⟩⟩
  ·refine ⟨zTr,⟨0,0,a,er⟩,?_,fun _=>⟨rfl,rfl⟩,fun e=>absurd e he⟩;rw [plev,if_pos (show (PSt.mk 0 0 a er).e≠0 from he)]
 obtain ⟨n,s1,hlv,hne,hz⟩:=hlev;have hE:∃ ea ee,endA (endP T s.size s1)=ea/\(endP T s.size s1).e=ee/\((if er≠0 then (zTr,a,er) else if (endR T s.size (readT T s.size).2).e≠0 then (zTr,(endR T s.size (readT T s.size).2).at_,(endR T s.size (readT T s.size).2).e) else ((readT T s.size).1,0,0)):Tr × Int × Int).2=(ea,ee)/\(ee=0->n=((if er≠0 then (zTr,a,er) else if (endR T s.size (readT T s.size).2).e≠0 then (zTr,(endR T s.size (readT T s.size).2).at_,(endR T s.size (readT T s.size).2).e) else ((readT T s.size).1,0,0)):Tr × Int × Int).1):=by
  refine ⟨_,_,rfl,rfl,?_⟩;by_cases he:er=0
  ·obtain ⟨h1,h2⟩:=hz he;rw [if_neg (by simpa using he),h1];have hpr:endP T s.size (readT T s.size).2=endR T s.size (readT T s.size).2:=by
    unfold endP endR;by_cases h3:(readT T s.size).2.e=0
    ·simp only [h3,true_and]
    ·rw [if_neg (fun e=>h3 e.1)];split
     ·exact (wrongP_same T s.size 10 _ h3).symm
     ·rfl
   rw [hpr];by_cases h4:(endR T s.size (readT T s.size).2).e=0
   ·rw [if_neg (by simpa using h4)];refine ⟨by unfold endA;rw [if_pos h4,h4],fun _=>h2 ?_⟩;unfold endR at h4;split at h4
    ·exact err_wrong _ _ _ _ h4
    ·exact h4
   ·rw [if_pos h4];exact ⟨by unfold endA;rw [if_neg h4],fun e=>absurd e h4⟩
  ·obtain ⟨h1,h2⟩:=hne he;rw [if_pos he,h1,h2];have h3:endP T s.size ⟨0,0,a,er⟩=⟨0,0,a,er⟩:=by unfold endP;rw [if_neg (fun e=>he e.1)]
   rw [h3];exact ⟨by unfold endA;rw [if_neg (show ¬ (PSt.mk 0 0 a er).e=0 from he)],fun _=>rfl⟩
 obtain ⟨ea,ee,hea,hee,hq1,hq2⟩:=hE;have HQ0:=h_ (show ee=0->ea=0 from fun e=>by rw [<- hea];unfold endA;rw [if_pos (hee.trans e)]);generalize ((if er≠0 then (zTr,a,er) else if (endR T s.size (readT T s.size).2).e≠0 then (zTr,(endR T s.size (readT T s.size).2).at_,(endR T s.size (readT T s.size).2).e) else ((readT T s.size).1,0,0)):Tr × Int × Int)=Q at hq1 hq2 |-;obtain ⟨Qt,Qa,Qe⟩:=Q;obtain ⟨rfl,rfl⟩:=Prod.mk.inj hq1;simp only at hq2 |-;obtain ⟨RR,hRR⟩:∃ RR,RR=(if Qe=0 then n else zTr):=⟨_,rfl⟩
 refine ⟨RR,fun h=>by rw [hRR,if_pos h];exact hq2 h,?_⟩;have HRR:=h_ hRR;clear hRR;have HEa:=h_ hea;have HEe:=h_ hee;have HLv:=h_ hlv;clear hea hee hlv hne hz hq1 hq2 hcap hok0 hx0 hG hsl;go_enter Tryz.func14,Tryz.ntmps14;go_simp
 repeat (first|go_values|go_skip|go_guarded|go_step|go_upon)
 refine Calls.mono KB.out ?_;rintro e W1 ⟨p,g,cap,rfl,hpw,hgw0,hp1,hb1⟩;have hwp:w.heap.size≠p:=by simp at hpw;omega
 have hwl:w.heap.size+1<=p:=by simpa using hpw
 have HR1:=h_ (HR0.out.keep hb1);have HX1:=h_ (HX0.out.trans hb1);have KL:=h_ (plev_ok p g cap s.size T (16 * T.length+14) (by omega) 1 1 ⟨0,0,a,er⟩ n s1 W1 rfl (by decide) HLv.out hp1);have KE:=h_ (fun W (hW:PsAt W p g cap s.size T s1)=>end_any p g cap s.size T s1 W hW);have hw1:w.heap.size<W1.heap.size:=HR1.out.lt;have hpl1:p<W1.heap.size:=hp1.blk.lt;have hgw:g≠w.heap.size:=by simp at hgw0;omega
 clear hp1 hb1 HR0 HX0 KB hpw hgw0 HLv;go_simp
 repeat (first|go_values|go_skip|go_guarded|go_step|go_upon)
 refine Calls.mono KL.out ?_;rintro e W2 ⟨x,rfl,ht2,hp2,hl2⟩;have HP2:=h_ hp2;have HR2:=h_ (hl2.blk HR1.out hwp);have HL2:=h_ (LeP.below HX1.out hl2 (by omega));have HT2:=h_ (ht2.mono (B:=fun g=>w.heap.size<g/\g≠p) fun g h1 h2=>⟨by omega,by omega⟩);clear ht2 hp2 hl2 KL HR1 HX1;obtain ⟨xk,xo,xs,xt,xn,xla,xln,xlc⟩:=x;simp only [PN.v];obtain ⟨cr,fr⟩:=HR2.out.facts;have hrl:=HR2.out.lt;have hP3:=HP2.out.other6 (Ne.symm hwp) hgw (.int .i64 xk) (.int .i64 xo) (.string xs) (.string xt) (.int .i64 xn) (.slice xla xln xlc);have hR3:=blk6P HR2.out (.int .i64 xk) (.int .i64 xo) (.string xs) (.string xt) (.int .i64 xn) (.slice xla xln xlc);have hT3:=HT2.out.set6 (b:=w.heap.size) (fun g h=>by omega) (.int .i64 xk) (.int .i64 xo) (.string xs) (.string xt) (.int .i64 xn) (.slice xla xln xlc);have hL3:=Below.set6 HL2.out (Nat.le_refl _) (.int .i64 xk) (.int .i64 xo) (.string xs) (.string xt) (.int .i64 xn) (.slice xla xln xlc);have HP3:=h_ hP3;have HR3:=h_ hR3;have HT3:=h_ hT3;have HL3:=h_ hL3;clear hP3 hR3 hT3 hL3;go_simp
 repeat (first|go_values|go_skip|go_guarded|go_step|go_upon)
 generalize ((((((W2.setCell ⟨w.heap.size,0,none⟩ (.int .i64 xk)).setCell ⟨w.heap.size,1,none⟩ (.int .i64 xo)).setCell ⟨w.heap.size,2,none⟩ (.string xs)).setCell ⟨w.heap.size,3,none⟩ (.string xt)).setCell ⟨w.heap.size,4,none⟩ (.int .i64 xn)).setCell ⟨w.heap.size,5,none⟩ (.slice xla xln xlc))=W3 at HP3 HR3 HT3 HL3 |-;clear cr fr hrl HP2 HR2 HT2 HL2;refine Calls.mono (KE.out W3 HP3.out) ?_;rw [HEa.out,HEe.out];rintro e W4 ⟨rfl,hl4⟩;have HR4:=h_ (hl4.blk HR3.out hwp);have HT4:=h_ (HT3.out.later (p:=p) (fun g h=>h.2) hl4);have HL4:=h_ (LeP.below HL3.out hl4 (by omega));clear hl4 HP3 HR3 HT3 HL3 KE HEa HEe;obtain ⟨cr,fr⟩:=HR4.out.facts;have hrl:=HR4.out.lt;cases hE:Qe == 0
 ·have hn0:¬ Qe=0:=beq_eq_false_iff_ne.1 hE;have hEb:(Qe !=0)=true:=by simp only [bne,hE];rfl
  have HRz:=h_ (show RR=zTr from HRR.out.trans (if_neg hn0));clear hn0;go_simp
  repeat (first|go_values|go_skip|go_guarded|go_step|go_upon)
  refine bodyPost_ret (ret_ndP3 rfl _ rfl rfl (blk6P HR4.out _ _ _ _ _ _)) rfl ?_;exact ⟨⟨0,0,⟨#[]⟩,⟨#[]⟩,0,none,0,0⟩,rfl,by rw [HRz.out];exact .leaf 0 0 [] [] 0,Below.set6 HL4.out (Nat.le_refl _) _ _ _ _ _ _⟩
 ·obtain rfl:Qe=0:=eq_of_beq hE;have HRn:=h_ (show RR=n from HRR.out.trans (if_pos rfl));go_simp
  repeat (first|go_values|go_skip|go_guarded|go_step|go_upon)
  refine bodyPost_ret (ret_ndP3 rfl _ rfl rfl (blk6P HR4.out _ _ _ _ _ _)) rfl ?_;refine ⟨⟨xk,xo,xs,xt,xn,xla,xln,xlc⟩,by rw [HQ0.out rfl];rfl,?_,Below.set6 HL4.out (Nat.le_refl _) _ _ _ _ _ _⟩;rw [HRn.out];exact (HT4.out.set6 (b:=w.heap.size) (fun g h=>by omega) _ _ _ _ _ _).mono fun g h _=>Nat.le_of_lt h.1
def jn (L:Wds):List UInt8:=Lib.join L [32]
theorem jn_one (x:List UInt8):jn [x]=x:=by simp [jn,Lib.join,List.intercalate]
theorem jn_cons (x y:List UInt8) (r:Wds):jn (x::y::r)=x++32::jn (y::r):=by simp [jn,Lib.join,List.intercalate]
theorem jn_append:∀ (a b:Wds),a≠[]->b≠[]->jn (a++b)=jn a++32::jn b
 | [],_,h,_=>absurd rfl h
 | [x],[],_,h=>absurd rfl h
 | [x],y::b,_,_=>by rw [List.cons_append,List.nil_append,jn_cons,jn_one]
 |x::y::a,b,_,h=>by
  have ih:=jn_append (y::a) b (by simp) h;rw [List.cons_append] at ih;rw [List.cons_append,List.cons_append,jn_cons,jn_cons,ih,List.append_assoc];rfl
theorem jn_len (M:Nat):∀ L:Wds,(∀ x∈L,x.length<=M)->(jn L).length<=L.length * (M+1)
 | [],_=>by simp [jn,Lib.join,List.intercalate]
 | [x],h=>by
  have:=h x (by simp);rw [jn_one];simp;omega
 |x::y::r,h=>by
  have h1:=h x (by simp);have ih:=jn_len M (y::r) (fun z hz=>h z (List.mem_cons_of_mem _ hz));rw [jn_cons];simp only [List.length_append,List.length_cons] at ih |-;rw [Nat.succ_mul];omega
def AllLe (L:Wds):Prop:=∀ x∈L,x.length<=1100
theorem allLe_app {a b:Wds} (ha:AllLe a) (hb:AllLe b):AllLe (a++b):=fun x hx=>by
 rcases List.mem_append.1 hx with h|h
 ·exact ha x h
 ·exact hb x h
theorem allLe_nd {c:Int × Wds} (h:AllLe c.2) (lv:Int):AllLe (pwNd c lv):=by
 unfold pwNd;split
 ·exact allLe_app (allLe_app (fun x hx=>by simp at hx;subst hx;simp) h) (fun x hx=>by simp at hx;subst hx;simp)
 ·exact h
theorem allLe_at {L:List (Int × Wds)} (h:∀ c∈L,AllLe c.2) (i:Nat) (lv:Int):AllLe (pwAt L i lv):=by
 unfold pwAt;cases hc:L[i]? with
 |none=>exact allLe_nd (fun x hx=>by simp [pwZ] at hx;subst hx;simp) lv
 |some c=>exact allLe_nd (h c (List.mem_of_getElem? hc)) lv
theorem allLe_more:∀ {L:List (Int × Wds)},(∀ c∈L,AllLe c.2)->AllLe (pwMore L)
 | [],_=>fun x hx=>by simp [pwMore] at hx
 |c::L,h=>allLe_app (allLe_app (fun x hx=>by simp at hx;subst hx;simp) (allLe_nd (h c (by simp)) 1)) (allLe_more fun d hd=>h d (List.mem_cons_of_mem _ hd))
theorem allLe_list {L:List (Int × Wds)} (h:∀ c∈L,AllLe c.2):AllLe (pwList L):=by
 cases L with
 |nil=>exact fun x hx=>by simp [pwList] at hx
 |cons c L=>exact allLe_app (allLe_nd (h c (by simp)) 1) (allLe_more fun d hd=>h d (List.mem_cons_of_mem _ hd))
theorem allLe_one {x:List UInt8} (h:x.length<=1100):AllLe [x]:=fun y hy=>by simp at hy;subst hy;exact h
theorem allLe_two {x y:List UInt8} (h:x.length<=1100) (k:y.length<=1100):AllLe [x,y]:=allLe_app (a:=[x]) (allLe_one h) (allLe_one k)
theorem allLe_not (n:Int):AllLe (pwNot n):=by
 unfold pwNot;split
 ·exact allLe_one (by simp)
 ·exact fun x hx=>by cases hx
theorem sgn_len (o:Int):∀ m k,(sgn o m k).length<=1100
 |0,k=>by simp [sgn]
 |m+1,k=>by
  have ih:=sgn_len o m (k+1);rw [sgn];split
  ·rename_i b hb;have h1:b∈binsL k:=List.mem_of_find?_eq_some hb;have h2:∀ k,∀ b∈binsL k,b.2.1.length<=3:=fun k=>by
    unfold binsL;split<;>decide
   have:=h2 k b h1;omega
  ·exact ih
theorem allLe_pwB {k o:Int} {s t:List UInt8} {n:Int} {L:List (Int × Wds)} (hn:InR n) (hs:s.length<=500) (ht:t.length<=50) (h:∀ c∈L,AllLe c.2):AllLe (pwB k o s t n L):=by
 have ha:=fun i lv=>allLe_at h i lv;have hl:=allLe_list h;have hd:AllLe (pwList (L.drop 1)):=allLe_list fun c hc=>h c (List.mem_of_mem_drop hc);have hnt:=allLe_not n;unfold pwB;split
 ·exact allLe_app (allLe_one (by split<;>simp)) (ha _ _)
 split
 ·exact allLe_app (allLe_app (ha _ _) (allLe_one (sgn_len o 9 1))) (ha _ _)
 split
 ·exact allLe_app (allLe_app (allLe_app (ha _ _) (allLe_one (by simp))) hnt) (allLe_one (by simp))
 split
 ·unfold pwTest;refine allLe_app (allLe_app (ha _ _) hnt) ?_;split
  ·unfold pwLike;refine allLe_app (allLe_app (allLe_one (by simp)) (ha _ _)) ?_;split
   ·exact allLe_app (allLe_one (by simp)) (ha _ _)
   ·exact fun x hx=>by cases hx
  split
  ·exact allLe_app (allLe_app (allLe_app (allLe_one (by simp)) (ha _ _)) (allLe_one (by simp))) (ha _ _)
  ·exact allLe_app (allLe_app (allLe_two (by simp) (by simp)) hd) (allLe_one (by simp))
 split
 ·exact allLe_app (ha _ _) (allLe_two (by simp) (by omega))
 ·unfold pwPlain;split
  ·exact allLe_one (by split<;>simp [trueL,falseL])
  split
  ·exact allLe_one (by have:=itoa_len n hn;omega)
  split
  ·exact allLe_one (by have:=escQ_len s;simp;omega)
  split
  ·unfold pwName;refine allLe_app ?_ (allLe_one (by omega));split
   ·exact fun x hx=>by cases hx
   ·exact allLe_two (by omega) (by simp)
  split
  ·exact allLe_app (allLe_app (allLe_two (by simp) (by simp)) (ha _ _)) (allLe_app (a:=[[65,83]]) (allLe_one (by simp)) (allLe_two (by unfold pwKind;split<;>(try split)<;>(try split)<;>simp) (by simp)))
  split
  ·refine allLe_app (allLe_app (allLe_app (allLe_two (by omega) (by simp)) ?_) hl) (allLe_one (by simp));split
   ·exact allLe_one (by simp)
   ·exact fun x hx=>by cases hx
  ·exact allLe_one (by simp)
theorem allLe_pwT {d:Nat} {t:Tr} (h:SmT d t):AllLe (pwT t):=by
 induction h with
 |mk d k o s t n l hd hn hl hs ht hch ih =>
  rw [pwT_mk];refine allLe_pwB hn hs ht fun c hc=>?_;rw [pwTs_map] at hc;obtain ⟨z,hz,rfl⟩:=List.mem_map.1 hc;exact ih z hz
theorem pwB_pos (k o:Int) (s t:List UInt8) (n:Int) (L:List (Int × Wds)):pwB k o s t n L≠[]:=by
 unfold pwB;split
 ·simp
 split
 ·unfold pwBin;simp
 split
 ·simp
 split
 ·unfold pwTest;split
  ·unfold pwLike;simp
  split
  ·unfold pwBtw;simp
  ·unfold pwIn;simp
 split
 ·simp
 ·unfold pwPlain;split
  ·simp
  split
  ·simp
  split
  ·simp
  split
  ·unfold pwName;simp
  split
  ·unfold pwCast;simp
  split
  ·unfold pwCall;simp
  ·simp
theorem pwT_pos (t:Tr):pwT t≠[]:=by cases t;rw [pwT_mk];exact pwB_pos _ _ _ _ _ _
theorem pwNd_pos {c:Int × Wds} (h:c.2≠[]) (lv:Int):pwNd c lv≠[]:=by
 unfold pwNd;split
 ·simp
 ·exact h
theorem smT_deep {d:Nat} {t:Tr} (h:SmT d t):trD (41 - d) t=true:=by
 induction h with
 |mk d k o s t n l hd hn hl hs ht hch ih =>
  rw [show 41 - d=(40 - d)+1 by omega,trD];simp only [List.all_eq_true];intro z hz;have:=ih z hz
  rwa [show 41 - (d+1)=40 - d by omega] at this
theorem smT_wide {d:Nat} {t:Tr} (h:SmT d t):∀ m,trW m t=true:=by
 induction h with
 |mk d k o s t n l hd hn hl hs ht hch ih =>
  intro m;cases m with
  |zero=>rfl
  |succ m =>
   rw [trW];simp only [Bool.and_eq_true,decide_eq_true_eq,List.all_eq_true];exact ⟨by omega,fun z hz=>ih z hz m⟩
theorem cntL_le:∀ (m:Nat) (l:List Tr),cntL m l<=cntTs l
 |0,l=>by simp [cntL]
 |m+1,[]=>by simp [cntL,cntTs]
 |m+1,x::l=>by
  have h1:=cntL_le (m+1) l;have h2:=cntL_le m (kidsT x);have h3:=cntL_drop m (x::l) 0 x rfl;simp only [List.drop_zero,Nat.zero_add,List.drop_succ_cons] at h3;rw [h3,cntTs_cons];cases x with
  |mk k o s t n lk =>
   rw [cntT_mk];simp only [kidsT] at h2 |-;omega
end Go.Proofs.YtimeipjcmffadaaGreatDoor
