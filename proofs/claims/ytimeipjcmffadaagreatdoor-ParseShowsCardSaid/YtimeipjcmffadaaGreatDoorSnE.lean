import Derived.Test.YtimeipjcmffadaaGreatDoorShowB
import Derived.Test.YtimeipjcmffadaaGreatDoorShowsFrame
import Derived.Test.YtimeipjcmffadaaGreatDoorSnC
set_option maxHeartbeats 16000000
namespace Go.Proofs.YtimeipjcmffadaaGreatDoor
open Go.RowKit Go.Lib
set_option maxRecDepth 100000
theorem cellB {B:Nat} {w0 W:World} (h:Below B w0 W) {g:Nat} (hg:g<B) {a:Nat} {v:Option Value} (hc:w0.cell? ⟨g,a,none⟩=v):W.cell? ⟨g,a,none⟩=v:=by
 rw [<- hc];simp [World.cell?,h.block g hg]
theorem at_in (w0:World) (B:Nat) (A:Nat->Prop) (x:PN) (t:Tr) (i:Nat) (hT:TrIn A w0 x t) (hA:∀ g,A g->g<B) (W:World) (hb:Below B w0 W) :
 Calls Tryz.prog 98 #[x.v,.int .i64 i] W fun e w'=>(∃ y:PN,e= .returned y.v/\TrIn A w0 y (((kidsT t)[i]?).getD zTr))/\Ext W w':=by
 obtain ⟨k,o,s,t',n,l⟩:=t;obtain ⟨_,_,_,_,_,hK⟩:=hT.parts;obtain ⟨xk,xo,xs,xt,xn,xla,xln,xlc⟩:=x;simp only [kidsT] at hK |-;simp only [PN.v];have hln:=hK.len;clear hT;by_cases hlt:i<l.length
 ·obtain ⟨g,off,y,z,hla,hz,hTy,hgl,hAg,hlc,c0,c1,c2,c3,c4,c5⟩:=hK.get i hlt;rw [hz,Option.getD_some];have hgB:=hA g hAg;have hltI:(i:Int)<(xln:Int):=by omega
  have hlc2:xln<=xlc:=by omega
  have HT:=h_ hTy;replace c0:=cellB hb hgB c0;replace c1:=cellB hb hgB c1;replace c2:=cellB hb hgB c2;replace c3:=cellB hb hgB c3;replace c4:=cellB hb hgB c4;replace c5:=cellB hb hgB c5;have hgW:g<W.heap.size:=Nat.lt_of_lt_of_le hgl hb.size;subst hla;obtain ⟨yk,yo,ys,yt,yn,yla,yln,ylc⟩:=y;simp only at c0 c1 c2 c3 c4 c5;clear hK hz hTy hb hA hAg;go_enter Tryz.func98,Tryz.ntmps98;go_simp
  repeat (first|go_values|go_skip|go_guarded|go_step|go_upon)
  refine bodyPost_ret (ret_ndP rfl _ rfl rfl (Blk.new _ _ _ (by simp))) rfl ?_;exact ⟨⟨⟨yk,yo,ys,yt,yn,yla,yln,ylc⟩,rfl,HT.out⟩,((Ext.refl W).alloc _).alloc _⟩
 ·have hltI:¬ (i:Int)<(xln:Int):=by omega
  rw [List.getElem?_eq_none (by omega),Option.getD_none];clear hK hb hA;go_enter Tryz.func98,Tryz.ntmps98;go_simp
  repeat (first|go_values|go_skip|go_guarded|go_step|go_upon)
  refine bodyPost_ret (ret_ndP rfl _ rfl rfl (Blk.new _ _ _ (by simp))) rfl ?_;exact ⟨⟨⟨0,0,⟨#[]⟩,⟨#[]⟩,0,none,0,0⟩,rfl,.leaf 0 0 [] [] 0 none 0⟩,((Ext.refl W).alloc _).alloc _⟩
def BareP (w0:World) (B q:Nat) (t:Tr):Prop:=∀ (x:PN) (ws:Wds) (A:Nat->Prop) (W:World),TrIn A w0 x t->(∀ g,A g->g<B)->Pst w0 B q ws W->ws.length+(pwT t).length<=500000 ->
 Calls Tryz.prog 54 #[.pointer (some ⟨q,0,none⟩),x.v] W (PPost w0 B q (ws++pwT t) W)
theorem node_in (w0:World) (B q:Nat) (t:Tr) (hf:BareP w0 B q t) (x:PN) (level:Int) (ws:Wds) (A:Nat->Prop) (w:World) (hT:TrIn A w0 x t) (hA:∀ g,A g->g<B) (hP:Pst w0 B q ws w) (hlen:ws.length+(pwNd (levP t,pwT t) level).length<=500000) :
 Calls Tryz.prog 26 #[.pointer (some ⟨q,0,none⟩),x.v,.int .i64 level] w (PPost w0 B q (ws++pwNd (levP t,pwT t) level) w):=by
 have H0:=h_ (Pbx.start hP x.cells);have hlev:levP t=strT x.k x.o:=by
  obtain ⟨k,o,s,t',n,l⟩:=t;obtain ⟨h1,h2,_⟩:=hT.parts;rw [h1,h2];rfl
 have KS:=h_ (fun W=>strength_pn x W);have KB:=h_ (fun ws W hP hl=>hf x ws A W hT hA hP hl);have KP:=h_ (fun ws xs b m W a b' c d=>put_st w0 B q ws xs b m W a b' c d);clear hP hT hA hf;obtain ⟨xk,xo,xs,xt,xn,xla,xln,xlc⟩:=x;simp only at hlev;simp only [PN.cells,PN.v] at *;obtain ⟨R,hR⟩:∃ R,R=strT xk xo:=⟨_,rfl⟩
 rw [<- hR] at hlev KS;obtain ⟨out,hout⟩:∃ out,out=pwNd (levP t,pwT t) level:=⟨_,rfl⟩
 rw [<- hout] at hlen |-;unfold pwNd at hout;rw [hlev] at hout;have HO:=h_ hout;clear hR hlev hout;obtain ⟨cb,fb⟩:=H0.out.bx.blk.facts;have hbl:=H0.out.bx.blk.lt;go_enter Tryz.func26,Tryz.ntmps26;go_simp
 repeat (first|go_values|go_skip|go_guarded|go_step|go_upon)
 generalize w.alloc (.cells #[.int .i64 xk,.int .i64 xo,.string xs,.string xt,.int .i64 xn,.slice xla xln xlc] 24)=W0 at H0 cb fb hbl |-;refine Calls.mono (KS.out W0) ?_;rintro e W1 ⟨rfl,hx1⟩;have H1:=h_ (H0.out.ext hx1);clear hx1 H0 cb fb hbl KS;obtain ⟨cb,fb⟩:=H1.out.bx.blk.facts;have hbl:=H1.out.bx.blk.lt;have hout:=HO.out;simp only at hout;clear HO;by_cases hlt:R<level
 ·rw [if_pos hlt] at hout;have hol:=congrArg List.length hout;have HO:=h_ hout;clear hout;simp only [List.length_append,List.length_cons,List.length_nil] at hol;go_simp
  repeat (first|go_values|go_skip|go_guarded|go_step|go_upon)
  refine Calls.mono (KP.out _ [[40]] W1.heap.size 1 _ (H1.out.st.ext ((Ext.refl W1).alloc _)) (Blk.new W1 _ 9 rfl) rfl (by omega)) ?_;rintro e W2 ⟨rfl,hp,hl⟩;have H2:=h_ ((H1.out.ext ((Ext.refl W1).alloc _)).step hp hl);clear hp hl H1 cb fb hbl;obtain ⟨cb,fb⟩:=H2.out.bx.blk.facts;have hbl:=H2.out.bx.blk.lt;go_simp
  repeat (first|go_values|go_skip|go_guarded|go_step|go_upon)
  refine Calls.mono (KB.out _ W2 H2.out.st (by simp only [List.length_append,List.length_cons,List.length_nil];omega)) ?_;rintro e W3 ⟨rfl,hp,hl⟩;have H3:=h_ (H2.out.step hp hl);clear hp hl H2 cb fb hbl;go_simp
  repeat (first|go_values|go_skip|go_guarded|go_step|go_upon)
  refine Calls.mono (KP.out _ [[41]] W3.heap.size 1 _ (H3.out.st.ext ((Ext.refl W3).alloc _)) (Blk.new W3 _ 9 rfl) rfl (by simp only [List.length_append,List.length_cons,List.length_nil];omega)) ?_;rintro e W4 ⟨rfl,hp,hl⟩;have H4:=h_ ((H3.out.ext ((Ext.refl W3).alloc _)).step hp hl);clear hp hl H3;go_simp
  repeat (first|go_values|go_skip|go_guarded|go_step|go_upon)
  go_returns;exact H4.out.post (by rw [HO.out];simp)
 ·rw [if_neg hlt] at hout;have HO:=h_ hout;rw [hout] at hlen;clear hout;go_simp
  repeat (first|go_values|go_skip|go_guarded|go_step|go_upon)
  refine Calls.mono (KB.out ws W1 H1.out.st hlen) ?_;rintro e W2 ⟨rfl,hp,hl⟩;have H2:=h_ (H1.out.step hp hl);clear hp hl H1 cb fb hbl;go_simp
  repeat (first|go_values|go_skip|go_guarded|go_step|go_upon)
  go_returns;exact H2.out.post (by rw [HO.out])
theorem not_in (w0:World) (B q:Nat) (x:PN) (ws:Wds) (w:World) (hP:Pst w0 B q ws w) (hlen:ws.length<=600000) :
 Calls Tryz.prog 100 #[.pointer (some ⟨q,0,none⟩),x.v] w (PPost w0 B q (ws++pwNot x.n) w):=by
 have H0:=h_ (Pbx.start hP x.cells);have KP:=h_ (fun ws xs b m W a b' c d=>put_st w0 B q ws xs b m W a b' c d);clear hP;obtain ⟨xk,xo,xs,xt,xn,xla,xln,xlc⟩:=x;simp only [PN.cells,PN.v] at *;obtain ⟨cb,fb⟩:=H0.out.bx.blk.facts;have hbl:=H0.out.bx.blk.lt;obtain ⟨out,hout⟩:∃ out,out=pwNot xn:=⟨_,rfl⟩
 rw [<- hout];unfold pwNot at hout;have HO:=h_ hout;clear hout;cases hb:xn == 1
 ·have hn:¬ xn=1:=beq_eq_false_iff_ne.1 hb;go_enter Tryz.func100,Tryz.ntmps100;go_simp
  repeat (first|go_values|go_skip|go_guarded|go_step|go_upon)
  go_returns;exact H0.out.post (by rw [HO.out,if_neg hn];simp)
 ·have hn:xn=1:=eq_of_beq hb;have HN:=h_ hn;clear hn;go_enter Tryz.func100,Tryz.ntmps100;go_upto_region 1 with (fail)
  generalize w.alloc (.cells #[.int .i64 xk,.int .i64 xo,.string xs,.string xt,.int .i64 xn,.slice xla xln xlc] 24)=W1 at H0 cb fb hbl |-;go_simp
  repeat (first|go_values|go_skip|go_guarded|go_step|go_upon)
  refine Calls.mono (KP.out _ [[78,79,84]] W1.heap.size 1 _ (H0.out.st.ext ((Ext.refl W1).alloc _)) (Blk.new W1 _ 9 rfl) rfl (by omega)) ?_;rintro e W2 ⟨rfl,hp,hl⟩;have H2:=h_ ((H0.out.ext ((Ext.refl W1).alloc _)).step hp hl);clear hp hl H0 cb fb hbl;go_simp
  repeat (first|go_values|go_skip|go_guarded|go_step|go_upon)
  go_returns;exact H2.out.post (by rw [HO.out,if_pos HN.out])
theorem pwMore_snoc (c:Int × Wds):∀ L:List (Int × Wds),pwMore (L++[c])=pwMore L++[[44]]++pwNd c 1
 | []=>by simp [pwMore]
 |a::L=>by simp only [List.cons_append,pwMore,pwMore_snoc c L,List.append_assoc]
theorem pwList_snoc (c:Int × Wds) (L:List (Int × Wds)):pwList (L++[c])=pwList L++(if L.length=0 then [] else [[44]])++pwNd c 1:=by
 cases L with
 |nil=>simp [pwList,pwMore]
 |cons a L=>simp only [List.cons_append,pwList,pwMore_snoc,List.append_assoc,List.length_cons];simp
theorem pwList_take:∀ (L:List (Int × Wds)) (j:Nat),(pwList (L.take j)).length<=(pwList L).length
 |L,j=>by
  have h:∀ (L:List (Int × Wds)) (j:Nat),(pwMore (L.take j)).length<=(pwMore L).length:=fun L=>by
   induction L with
   |nil=>intro j;simp
   |cons c L ih =>
    intro j;cases j with
    |zero=>simp [pwMore]
    |succ j =>
     have:=ih j;rw [List.take_succ_cons];simp only [pwMore,List.length_append];omega
  cases L with
  |nil=>simp
  |cons c L =>
   cases j with
   |zero=>simp [pwList]
   |succ j =>
    have:=h L j;rw [List.take_succ_cons];simp only [pwList,List.length_append];omega
theorem nodes_in (w0:World) (B q:Nat) (A:Nat->Prop) (la:Option Addr) (ln lc:Nat) (l:List Tr) (hf:∀ z,z∈l->BareP w0 B q z) (hK:KidsA A w0 la ln lc l) (hA:∀ g,A g->g<B) (hl20:l.length<=1000) (ws:Wds) (w:World) (hP:Pst w0 B q ws w) (hlen:ws.length+(pwList (pwTs l)).length<=500000) :
 Calls Tryz.prog 164 #[.pointer (some ⟨q,0,none⟩),.slice la ln lc] w (PPost w0 B q (ws++pwList (pwTs l)) w):=by
 have HK:=h_ hK;have HLn:=h_ hK.len;have HA:=h_ hA;have HF:=h_ hf;have HP:=h_ hP;have HI:=h_ hP.pr.is;have KP:=h_ (fun ws xs b m W a b' c d=>put_st w0 B q ws xs b m W a b' c d);have KN:=h_ (fun (z:Tr) (hz:z∈l) (x:PN) (ws:Wds) (W:World) (hT:TrIn A w0 x z) (hP:Pst w0 B q ws W) hl=>node_in w0 B q z (HF.out z hz) x 1 ws A W hT HA.out hP hl);clear hK hA hf hP;go_enter Tryz.func164,Tryz.ntmps164;go_simp
 repeat (first|go_values|go_skip|go_guarded|go_step|go_upon)
 go_loopg [4,5,8] ln (fun jj _ _ ix wr=>∃ j:Nat,ix= .int .i64 j/\j+jj=ln/\Pst w0 B q (ws++pwList ((pwTs l).take j)) wr/\LeR q w wr)
 case atStart=>exact ⟨0,rfl,by omega,HP.out.eq (by simp [pwList]),LeR.refl _ _⟩
 case round =>
  obtain ⟨j,rfl,hj,hst,hle⟩:=hrel;have HS:=h_ hst;have HL:=h_ hle;clear hst hle HP;by_cases hlt:j<ln
  ·obtain ⟨jj,rfl⟩:∃ jj,gk=jj+1:=⟨gk - 1,by omega⟩
   have hltI:(j:Int)<(ln:Int):=by omega
   have hll:=HLn.out;obtain ⟨g,off,y,z,hla,hz,hTy,hgl,hAg,hlc,c0,c1,c2,c3,c4,c5⟩:=HK.out.get j (by omega);have hgB:=HA.out g hAg;have hlc2:ln<=lc:=by omega
   have hb:=HS.out.be;replace c0:=cellB hb hgB c0;replace c1:=cellB hb hgB c1;replace c2:=cellB hb hgB c2;replace c3:=cellB hb hgB c3;replace c4:=cellB hb hgB c4;replace c5:=cellB hb hgB c5;have hgW:g<wr.heap.size:=Nat.lt_of_lt_of_le hgl hb.size;subst hla;have HZ:=h_ hz;have HTy:=h_ hTy;have hzl:(pwTs l)[j]?=some (levP z,pwT z):=by rw [pwTs_map,List.getElem?_map,hz];rfl
   have htk:=pwList_take (pwTs l) (j+1);have hsn:pwList ((pwTs l).take (j+1))=pwList ((pwTs l).take j)++(if j=0 then [] else [[44]])++pwNd (levP z,pwT z) 1:=by
    rw [List.take_add_one,hzl,Option.toList_some,pwList_snoc,List.length_take,pwTs_len,Nat.min_eq_left (by omega)]
   have HSn:=h_ hsn;have hsl:=congrArg List.length hsn;simp only [List.length_append] at hsl;obtain ⟨yk,yo,ys,yt,yn,yla,yln,ylc⟩:=y;simp only at c0 c1 c2 c3 c4 c5;clear hz hTy hsn hzl hAg hll hlc;have H1:=h_ (Pbx.start HS.out #[.int .i64 yk,.int .i64 yo,.string ys,.string yt,.int .i64 yn,.slice yla yln ylc]);clear hb;have hsum:=IntWalk.i64_in ((j:Int)+1) (by have:=HLn.out;omega);have hj0:j=0 ∨ 0<j:=by omega
   rcases hj0 with h0|h0
   ·have h0I:¬ (0:Int)<(j:Int):=by omega
    rw [if_pos h0,List.length_nil] at hsl;have H0j:=h_ h0;clear h0;go_upto_region 3 with (fail)
    generalize wr.alloc (.cells #[.int .i64 yk,.int .i64 yo,.string ys,.string yt,.int .i64 yn,.slice yla yln ylc] 24)=W1 at H1 |-;clear c0 c1 c2 c3 c4 c5 hgW;obtain ⟨cb,fb⟩:=H1.out.bx.blk.facts;have hbl:=H1.out.bx.blk.lt;go_simp
    repeat (first|go_values|go_skip|go_guarded|go_step|go_upon)
    refine Calls.mono (KN.out z (List.mem_of_getElem? HZ.out) ⟨yk,yo,ys,yt,yn,yla,yln,ylc⟩ _ W1 HTy.out H1.out.st (by simp only [List.length_append];omega)) ?_;rintro e W2 ⟨rfl,hp,hl⟩;have H2:=h_ (H1.out.step hp hl);clear hp hl H1 cb fb hbl;go_simp
    repeat (first|go_values|go_skip|go_guarded|go_step|go_upon)
    go_roundg jj
    case measure=>omega
    case rel=>exact ⟨j+1,by simp,by omega,H2.out.st.eq (by rw [HSn.out,H0j.out];simp),LeR.trans HI.out HL.out H2.out.le⟩
   ·have h0I:(0:Int)<(j:Int):=by omega
    rw [if_neg (by omega),List.length_cons,List.length_nil] at hsl;have H0j:=h_ h0;clear h0;go_upto_region 3 with (fail)
    generalize wr.alloc (.cells #[.int .i64 yk,.int .i64 yo,.string ys,.string yt,.int .i64 yn,.slice yla yln ylc] 24)=W1 at H1 |-;clear c0 c1 c2 c3 c4 c5 hgW;obtain ⟨cb,fb⟩:=H1.out.bx.blk.facts;have hbl:=H1.out.bx.blk.lt;go_simp
    repeat (first|go_values|go_skip|go_guarded|go_step|go_upon)
    refine Calls.mono (KP.out _ [[44]] W1.heap.size 1 _ (H1.out.st.ext ((Ext.refl W1).alloc _)) (Blk.new W1 _ 9 rfl) rfl (by simp only [List.length_append];omega)) ?_;rintro e W2 ⟨rfl,hp,hl⟩;have H2:=h_ ((H1.out.ext ((Ext.refl W1).alloc _)).step hp hl);clear hp hl H1 cb fb hbl;obtain ⟨cb,fb⟩:=H2.out.bx.blk.facts;have hbl:=H2.out.bx.blk.lt;go_simp
    repeat (first|go_values|go_skip|go_guarded|go_step|go_upon)
    refine Calls.mono (KN.out z (List.mem_of_getElem? HZ.out) ⟨yk,yo,ys,yt,yn,yla,yln,ylc⟩ _ W2 HTy.out H2.out.st (by simp only [List.length_append,List.length_cons,List.length_nil];omega)) ?_;rintro e W3 ⟨rfl,hp,hl⟩;have H3:=h_ (H2.out.step hp hl);clear hp hl H2 cb fb hbl;go_simp
    repeat (first|go_values|go_skip|go_guarded|go_step|go_upon)
    go_roundg jj
    case measure=>omega
    case rel=>exact ⟨j+1,by simp,by omega,H3.out.st.eq (by rw [HSn.out,if_neg (by have:=H0j.out;omega)];simp),LeR.trans HI.out HL.out H3.out.le⟩
  ·obtain rfl:j=ln:=by omega
   have hltI:¬ (j:Int)<(j:Int):=by omega
   go_simp
   repeat (first|go_values|go_skip|go_guarded|go_step|go_upon)
   go_returns;refine ⟨rfl,HS.out.eq ?_,HL.out⟩;rw [List.take_of_length_le (by rw [pwTs_len,<- HLn.out];exact Nat.le_refl _)]
theorem lvl_rangeP (o:Int):∀ m k,k+m<=12->0<=lvl o m k/\lvl o m k<=12
 |0,k,_=>by simp [lvl]
 |m+1,k,h=>by
  have:=lvl_rangeP o m (k+1) (by omega);rw [lvl];split
  ·omega
  ·exact this
theorem kid_ok {w0:World} {B q:Nat} {l:List Tr} (hf:∀ z,z∈l->BareP w0 B q z) (hfz:BareP w0 B q zTr) (i:Nat):BareP w0 B q ((l[i]?).getD zTr):=by
 cases h:l[i]? with
 |none=>exact hfz
 |some z=>exact hf z (List.mem_of_getElem? h)
theorem kid_in (w0:World) (B q:Nat) (A:Nat->Prop) (l:List Tr) (hf:∀ z,z∈l->BareP w0 B q z) (hfz:BareP w0 B q zTr) (hA:∀ g,A g->g<B) (i:Nat) (y:PN) (lv:Int) (ws:Wds) (W:World) (hT:TrIn A w0 y ((l[i]?).getD zTr)) (hP:Pst w0 B q ws W) (hl:ws.length+(pwAt (pwTs l) i lv).length<=500000) :
 Calls Tryz.prog 26 #[.pointer (some ⟨q,0,none⟩),y.v,.int .i64 lv] W (PPost w0 B q (ws++pwAt (pwTs l) i lv) W):=by
 rw [pwAt_kid] at hl |-;exact node_in w0 B q _ (kid_ok hf hfz i) y lv ws A W hT hA hP hl
theorem pwTs_drop1 (l:List Tr):(pwTs l).drop 1=pwTs (l.drop 1):=by rw [pwTs_map,pwTs_map,List.map_drop]
theorem KidsA.drop1 {A:Nat->Prop} {w:World} {g off ln lc:Nat} {l:List Tr} (h:KidsA A w (some ⟨g,off,none⟩) ln lc l) (h0:0<l.length):KidsA A w (some ⟨g,off+6,none⟩) (ln - 1) (lc - 1) (l.drop 1):=by
 rcases h with ⟨_,rfl⟩|⟨g2,off2,L,h1,h2,h3,h4,h5,h6,h7,_⟩
 ·simp at h0
 ·obtain ⟨rfl,rfl⟩:g=g2/\off=off2:=by simp at h1;exact h1
  by_cases h1l:l.length=1
  ·exact .inl ⟨by omega,List.eq_nil_of_length_eq_zero (by simp;omega)⟩
  ·refine .inr ⟨g,off+6,L.drop 1,rfl,by simp;omega,by simp;omega,by simp;omega,h5,⟨h6.1,fun i x hx j hj=>?_⟩,fun i x y hx hy=>h7 (1+i) x y (by rw [<- List.getElem?_drop];exact hx) (by rw [<- List.getElem?_drop];exact hy),by simp;omega⟩;have:=h6.2 (1+i) x (by rw [<- List.getElem?_drop];exact hx) j hj;rw [<- this];congr 2;omega
theorem nodes1_in (w0:World) (B q:Nat) (A:Nat->Prop) (la:Option Addr) (ln lc:Nat) (l:List Tr) (hf:∀ z,z∈l->BareP w0 B q z) (hK:KidsA A w0 la ln lc l) (hA:∀ g,A g->g<B) (hl20:l.length<=1000) (h0:0<l.length) (ws:Wds) (w:World) (hP:Pst w0 B q ws w) (hlen:ws.length+(pwList ((pwTs l).drop 1)).length<=500000) :
 ∃ g off,la=some ⟨g,off,none⟩/\Calls Tryz.prog 164 #[.pointer (some ⟨q,0,none⟩),.slice (if lc=1 then some ⟨g,off,none⟩ else some ⟨g,off+6,none⟩) (ln - 1) (lc - 1)] w (PPost w0 B q (ws++pwList ((pwTs l).drop 1)) w):=by
 obtain ⟨g,off,y,z,hla,_,_,_,_,hlc,_⟩:=hK.get 0 h0;have hln:=hK.len;subst hla;refine ⟨g,off,rfl,?_⟩;rw [pwTs_drop1];rw [pwTs_drop1] at hlen;by_cases h1:lc=1
 ·rw [if_pos h1];exact nodes_in w0 B q A _ _ _ (l.drop 1) (fun z hz=>hf z (List.mem_of_mem_drop hz)) (.inl ⟨by omega,List.eq_nil_of_length_eq_zero (by simp;omega)⟩) hA (by simp;omega) ws w hP hlen
 ·rw [if_neg h1];exact nodes_in w0 B q A _ _ _ (l.drop 1) (fun z hz=>hf z (List.mem_of_mem_drop hz)) (hK.drop1 h0) hA (by simp;omega) ws w hP hlen
theorem binary_in (w0:World) (B q:Nat) (A:Nat->Prop) (l:List Tr) (hf:∀ z,z∈l->BareP w0 B q z) (hfz:BareP w0 B q zTr) (x:PN) (k o:Int) (s t:List UInt8) (n:Int) (hT:TrIn A w0 x (.mk k o s t n l)) (hA:∀ g,A g->g<B) (hl20:l.length<=20) (ws:Wds) (w:World) (hP:Pst w0 B q ws w) (hlen:ws.length+(pwBin o (pwTs l)).length<=500000) (hk:k=6) :
 Calls Tryz.prog 99 #[.pointer (some ⟨q,0,none⟩),x.v] w (PPost w0 B q (ws++pwBin o (pwTs l)) w):=by
 have KS:=h_ (fun W=>strength_pn x W);have KG:=h_ (fun W=>sign_nd o W);have H0:=h_ (Pbx.start hP x.cells);have KP:=h_ (fun ws xs b m W a b' c d=>put_st w0 B q ws xs b m W a b' c d);have KA:=h_ (fun (i:Nat) W (hb:Below B w0 W)=>at_in w0 B A x (.mk k o s t n l) i hT hA W hb);have KN:=h_ (fun (i:Nat) (y:PN) (lv:Int) (ws:Wds) (W:World) (a:TrIn A w0 y ((l[i]?).getD zTr)) b c=>kid_in w0 B q A l hf hfz hA i y lv ws W a b c);have KT:=h_ (fun (ws:Wds) W a b=>not_in w0 B q x ws W a b);have KL:=h_ (fun (ws:Wds) W a b=>nodes_in w0 B q A x.la x.ln x.lc l hf hT.parts.2.2.2.2.2 hA (by omega) ws W a b);have KL1:=h_ (fun (h0:0<l.length) (ws:Wds) W a b=>nodes1_in w0 B q A x.la x.ln x.lc l hf hT.parts.2.2.2.2.2 hA (by omega) h0 ws W a b);obtain ⟨e1,e2,e3,e4,e5,hK⟩:=hT.parts;have HK:=h_ hK;have HA:=h_ hA;have hxl:=hK.len;have HLl:=h_ (pwTs_len l);rw [e1,e2,hk] at KS;obtain ⟨out,hout⟩:∃ out,out=pwBin o (pwTs l):=⟨_,rfl⟩
 rw [<- hout] at hlen |-;unfold pwBin at hout;have hrg:0<=strT 6 o/\strT 6 o<=12:=lvl_rangeP o 9 1 (by decide);obtain ⟨R,hR⟩:∃ R,R=strT 6 o:=⟨_,rfl⟩
 rw [<- hR] at hout KS hrg;obtain ⟨sg,hsg⟩:∃ sg,sg=sgn o 9 1:=⟨_,rfl⟩
 rw [<- hsg] at hout KG;have HO:=h_ hout;clear hout hsg hR;have hR1:=IntWalk.i64_in (R+1) (by omega);obtain ⟨xk,xo,xs,xt,xn,xla,xln,xlc⟩:=x;simp only at e1 e2 e3 e4 e5 hK hxl;simp only [PN.cells,PN.v] at *;subst e2;clear hT hA hP hf hfz hK HK e1 e3 e4 e5 hxl;cases hb:R == 4
 ·have hn:¬ R=4:=beq_eq_false_iff_ne.1 hb;have HN:=h_ hn;clear hn;have hol:=congrArg List.length HO.out;rw [if_neg HN.out] at hol;simp only [List.length_append,List.length_cons,List.length_nil] at hol;go_enter Tryz.func99,Tryz.ntmps99;go_upto_region 1 with (fail)
  generalize w.alloc (.cells #[.int .i64 xk,.int .i64 xo,.string xs,.string xt,.int .i64 xn,.slice xla xln xlc] 24)=W0 at H0 |-;obtain ⟨cb,fb⟩:=H0.out.bx.blk.facts;have hbl:=H0.out.bx.blk.lt;go_simp
  repeat (first|go_values|go_skip|go_guarded|go_step|go_upon)
  refine Calls.mono (KS.out W0) ?_;rintro e W1 ⟨rfl,hx⟩;have H1:=h_ (H0.out.ext hx);clear hx H0 cb fb hbl;obtain ⟨cb,fb⟩:=H1.out.bx.blk.facts;have hbl:=H1.out.bx.blk.lt;go_simp
  repeat (first|go_values|go_skip|go_guarded|go_step|go_upon)
  refine Calls.mono (KA.out 0 W1 H1.out.st.be) ?_;rintro e W2 ⟨⟨y2,rfl,hty⟩,hx⟩;have H2:=h_ (H1.out.ext hx);have HT2:=h_ hty;obtain ⟨yk,yo,ys,yt,yn,yla,yln,ylc⟩:=y2;clear hty;clear hx H1 cb fb hbl;obtain ⟨cb,fb⟩:=H2.out.bx.blk.facts;have hbl:=H2.out.bx.blk.lt;go_simp
  repeat (first|go_values|go_skip|go_guarded|go_step|go_upon)
  refine Calls.mono (KN.out 0 ⟨yk,yo,ys,yt,yn,yla,yln,ylc⟩ R _ W2 HT2.out H2.out.st (by first|omega|(simp only [List.length_append];(try simp only [List.length_cons]);(try simp only [List.length_nil]);omega))) ?_;rintro e W3 ⟨rfl,hp,hl⟩;have H3:=h_ (H2.out.step hp hl);clear hp hl H2 cb fb hbl;obtain ⟨cb,fb⟩:=H3.out.bx.blk.facts;have hbl:=H3.out.bx.blk.lt;clear HT2;go_simp
  repeat (first|go_values|go_skip|go_guarded|go_step|go_upon)
  refine Calls.mono (KG.out W3) ?_;rintro e W4 ⟨rfl,hx⟩;have H4:=h_ (H3.out.ext hx);clear hx H3 cb fb hbl;obtain ⟨cb,fb⟩:=H4.out.bx.blk.facts;have hbl:=H4.out.bx.blk.lt;go_simp
  repeat (first|go_values|go_skip|go_guarded|go_step|go_upon)
  refine Calls.mono (KP.out _ [sg] W4.heap.size 1 _ (H4.out.st.ext ((Ext.refl W4).alloc _)) (Blk.new W4 _ 9 rfl) rfl (by first|omega|(simp only [List.length_append];(try simp only [List.length_cons]);(try simp only [List.length_nil]);omega))) ?_;rintro e W5 ⟨rfl,hp,hl⟩;have H5:=h_ ((H4.out.ext ((Ext.refl W4).alloc _)).step hp hl);clear hp hl H4 cb fb hbl;obtain ⟨cb,fb⟩:=H5.out.bx.blk.facts;have hbl:=H5.out.bx.blk.lt;go_simp
  repeat (first|go_values|go_skip|go_guarded|go_step|go_upon)
  refine Calls.mono (KA.out 1 W5 H5.out.st.be) ?_;rintro e W6 ⟨⟨y6,rfl,hty⟩,hx⟩;have H6:=h_ (H5.out.ext hx);have HT6:=h_ hty;obtain ⟨yk,yo,ys,yt,yn,yla,yln,ylc⟩:=y6;clear hty;clear hx H5 cb fb hbl;obtain ⟨cb,fb⟩:=H6.out.bx.blk.facts;have hbl:=H6.out.bx.blk.lt;go_simp
  repeat (first|go_values|go_skip|go_guarded|go_step|go_upon)
  refine Calls.mono (KN.out 1 ⟨yk,yo,ys,yt,yn,yla,yln,ylc⟩ (R+1) _ W6 HT6.out H6.out.st (by first|omega|(simp only [List.length_append];(try simp only [List.length_cons]);(try simp only [List.length_nil]);omega))) ?_;rintro e W7 ⟨rfl,hp,hl⟩;have H7:=h_ (H6.out.step hp hl);clear hp hl H6 cb fb hbl;obtain ⟨cb,fb⟩:=H7.out.bx.blk.facts;have hbl:=H7.out.bx.blk.lt;clear HT6;go_simp
  repeat (first|go_values|go_skip|go_guarded|go_step|go_upon)
  go_returns;exact H7.out.post (by rw [HO.out,if_neg HN.out];simp only [List.append_assoc])
 ·have hn:R=4:=eq_of_beq hb;have HN:=h_ hn;clear hn;have hol:=congrArg List.length HO.out;rw [if_pos HN.out,show (5:Int)=R+1 by rw [HN.out];rfl] at hol;simp only [List.length_append,List.length_cons,List.length_nil] at hol;go_enter Tryz.func99,Tryz.ntmps99;go_upto_region 1 with (fail)
  generalize w.alloc (.cells #[.int .i64 xk,.int .i64 xo,.string xs,.string xt,.int .i64 xn,.slice xla xln xlc] 24)=W0 at H0 |-;obtain ⟨cb,fb⟩:=H0.out.bx.blk.facts;have hbl:=H0.out.bx.blk.lt;go_simp
  repeat (first|go_values|go_skip|go_guarded|go_step|go_upon)
  refine Calls.mono (KS.out W0) ?_;rintro e W1 ⟨rfl,hx⟩;have H1:=h_ (H0.out.ext hx);clear hx H0 cb fb hbl;obtain ⟨cb,fb⟩:=H1.out.bx.blk.facts;have hbl:=H1.out.bx.blk.lt;go_simp
  repeat (first|go_values|go_skip|go_guarded|go_step|go_upon)
  refine Calls.mono (KA.out 0 W1 H1.out.st.be) ?_;rintro e W2 ⟨⟨y2,rfl,hty⟩,hx⟩;have H2:=h_ (H1.out.ext hx);have HT2:=h_ hty;obtain ⟨yk,yo,ys,yt,yn,yla,yln,ylc⟩:=y2;clear hty;clear hx H1 cb fb hbl;obtain ⟨cb,fb⟩:=H2.out.bx.blk.facts;have hbl:=H2.out.bx.blk.lt;go_simp
  repeat (first|go_values|go_skip|go_guarded|go_step|go_upon)
  refine Calls.mono (KN.out 0 ⟨yk,yo,ys,yt,yn,yla,yln,ylc⟩ (R+1) _ W2 HT2.out H2.out.st (by first|omega|(simp only [List.length_append];(try simp only [List.length_cons]);(try simp only [List.length_nil]);omega))) ?_;rintro e W3 ⟨rfl,hp,hl⟩;have H3:=h_ (H2.out.step hp hl);clear hp hl H2 cb fb hbl;obtain ⟨cb,fb⟩:=H3.out.bx.blk.facts;have hbl:=H3.out.bx.blk.lt;clear HT2;go_simp
  repeat (first|go_values|go_skip|go_guarded|go_step|go_upon)
  refine Calls.mono (KG.out W3) ?_;rintro e W4 ⟨rfl,hx⟩;have H4:=h_ (H3.out.ext hx);clear hx H3 cb fb hbl;obtain ⟨cb,fb⟩:=H4.out.bx.blk.facts;have hbl:=H4.out.bx.blk.lt;go_simp
  repeat (first|go_values|go_skip|go_guarded|go_step|go_upon)
  refine Calls.mono (KP.out _ [sg] W4.heap.size 1 _ (H4.out.st.ext ((Ext.refl W4).alloc _)) (Blk.new W4 _ 9 rfl) rfl (by first|omega|(simp only [List.length_append];(try simp only [List.length_cons]);(try simp only [List.length_nil]);omega))) ?_;rintro e W5 ⟨rfl,hp,hl⟩;have H5:=h_ ((H4.out.ext ((Ext.refl W4).alloc _)).step hp hl);clear hp hl H4 cb fb hbl;obtain ⟨cb,fb⟩:=H5.out.bx.blk.facts;have hbl:=H5.out.bx.blk.lt;go_simp
  repeat (first|go_values|go_skip|go_guarded|go_step|go_upon)
  refine Calls.mono (KA.out 1 W5 H5.out.st.be) ?_;rintro e W6 ⟨⟨y6,rfl,hty⟩,hx⟩;have H6:=h_ (H5.out.ext hx);have HT6:=h_ hty;obtain ⟨yk,yo,ys,yt,yn,yla,yln,ylc⟩:=y6;clear hty;clear hx H5 cb fb hbl;obtain ⟨cb,fb⟩:=H6.out.bx.blk.facts;have hbl:=H6.out.bx.blk.lt;go_simp
  repeat (first|go_values|go_skip|go_guarded|go_step|go_upon)
  refine Calls.mono (KN.out 1 ⟨yk,yo,ys,yt,yn,yla,yln,ylc⟩ (R+1) _ W6 HT6.out H6.out.st (by first|omega|(simp only [List.length_append];(try simp only [List.length_cons]);(try simp only [List.length_nil]);omega))) ?_;rintro e W7 ⟨rfl,hp,hl⟩;have H7:=h_ (H6.out.step hp hl);clear hp hl H6 cb fb hbl;obtain ⟨cb,fb⟩:=H7.out.bx.blk.facts;have hbl:=H7.out.bx.blk.lt;clear HT6;go_simp
  repeat (first|go_values|go_skip|go_guarded|go_step|go_upon)
  go_returns;exact H7.out.post (by rw [HO.out,if_pos HN.out,show (5:Int)=R+1 by rw [HN.out];rfl];simp only [List.append_assoc])
end Go.Proofs.YtimeipjcmffadaaGreatDoor
