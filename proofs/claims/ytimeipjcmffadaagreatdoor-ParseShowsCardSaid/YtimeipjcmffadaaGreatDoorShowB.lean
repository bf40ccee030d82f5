import Derived.Test.YtimeipjcmffadaaGreatDoorPsrM
import Derived.Test.YtimeipjcmffadaaGreatDoorPxC
import Derived.Test.YtimeipjcmffadaaGreatDoorRpT
set_option maxHeartbeats 16000000
namespace Go.Proofs.YtimeipjcmffadaaGreatDoor
open Go.RowKit Go.Lib
set_option maxRecDepth 100000
theorem tokAt_own {w:World} {B:Nat} {v:Value} {L:List Lx.Tok} (h:w.ownsRow B 162 4 v L.length (tokCs L)) (h0:L≠[]):∃ g cap,v= .slice (some ⟨g,0,none⟩) L.length cap/\L.length<=cap/\B<=g/\TokAt w g L:=by
 obtain ⟨_,ho⟩:=h;rcases ho with ⟨_,h1⟩|⟨g,cap,cur,rfl,hge,hb,hn,_,hs,ht⟩
 ·exact absurd (List.eq_nil_of_length_eq_zero h1) h0
 ·refine ⟨g,cap,rfl,by omega,hge,lt_of_block hb,fun j hj=>?_⟩;rw [cell_of_row w g _ cur _ (0,0) hb,<- ht,List.getElem?_take,if_pos (by omega),Array.getElem?_toList]
def BeginPost (T:List Lx.Tok) (long:Nat) (w:World) (e:Ending) (w':World):Prop:=∃ p g cap,e= .returned (.pointer (some ⟨p,0,none⟩))/\w.heap.size<=p/\w.heap.size<=g/\PsAt w' p g cap long T ⟨0,0,0,0⟩/\Below w.heap.size w w'
theorem begin_any (s:ByteArray) (T:List Lx.Tok) (hl:Lx.lex (bsl s)= .ok T) (h0:T≠[]) (hT:T.length<=4000) (w:World) (hG:GlobL w) (hs:s.size<=4000) :
 Calls Tryz.prog 29 #[.string s] w (BeginPost T s.size w):=by
 have KT:=h_ (tokens_any s w hG hs);rw [hl] at KT;clear hG hl;go_enter Tryz.func29,Tryz.ntmps29;go_simp
 repeat (first|go_values|go_skip|go_guarded|go_step|go_upon)
 refine Calls.mono KT.out ?_;rintro e W1 ⟨⟨v,rfl,hown⟩,hb1⟩;obtain ⟨g,cap,rfl,hcap,hge,hat⟩:=tokAt_own hown h0;have HT:=h_ hat;have HX:=h_ hb1;clear hown hat hb1 KT;go_simp
 repeat (first|go_values|go_skip|go_guarded|go_step|go_upon)
 go_returns;have hx1:Ext W1 (W1.alloc (.cells #[.slice (some ⟨g,0,none⟩) T.length cap,.int .i64 0,.int .i64 s.size,.int .i64 0,.int .i64 0,.int .i64 0] 125)):=(Ext.refl W1).alloc _;refine ⟨W1.heap.size,g,cap,rfl,HX.out.size,hge,⟨by
  unfold psC;rw [psA_pos (List.length_pos_iff.2 h0)];exact Blk.new W1 _ 125 rfl,HT.out.ext (hx1.block g HT.out.1) hx1.size,by have:=HT.out.1;omega,Nat.zero_le _,hcap,hT⟩,Ext.trans HX.out hx1⟩
def endP (T:List Lx.Tok) (long:Nat) (s:PSt):PSt:=if s.e=0/\s.i<T.length then wrongP T long 10 s else s
def endA (s:PSt):Int:=if s.e=0 then 0 else s.at_
theorem end_any (p g cap long:Nat) (T:List Lx.Tok) (s:PSt) (w:World) (h:PsAt w p g cap long T s) :
 Calls Tryz.prog 31 #[.pointer (some ⟨p,0,none⟩)] w fun e w'=>e= .returned (.tuple #[.int .i64 (endA (endP T long s)),.int .i64 (endP T long s).e])/\LeP p w w':=by
 have mixed:Tryz.prog.follows .mixedOrders=true:=by kernel_rfl
 have KW:=h_ (fun W (hW:PsAt W p g cap long T s)=>wrong_any p g cap long T s 10 W hW);have HP:=h_ h;have hle:=h.le;have hcap:=h.cap;have hfew:=h.few;obtain ⟨E,hE⟩:∃ E,E=endP T long s:=⟨_,rfl⟩
 rw [<- hE];unfold endP at hE;obtain ⟨cb,fb⟩:=h.blk.facts;unfold psC at cb;have hbl:=h.blk.lt;clear h;cases he:s.e == 0
 ·have he2:¬ s.e=0:=by intro e;rw [e] at he;cases he
  rw [if_neg (fun h=>he2 h.1)] at hE;have hA:endA E=s.at_:=by rw [hE];unfold endA;rw [if_neg he2]
  have hEe:E.e=s.e:=by rw [hE]
  rw [hA,hEe];clear hE;go_enter Tryz.func31,Tryz.ntmps31;go_simp
  repeat (first|go_values|go_skip|go_guarded|go_step|go_upon)
  go_quiet (fail);go_simp
  repeat (first|go_values|go_skip|go_guarded|go_step|go_upon)
  go_quiet (fail);go_wp2;go_returns;exact ⟨rfl,LeP.ofExt (Ext.trans (bel_drewN _ _) (bel_drewN _ _))⟩
 ·have he2:s.e=0:=by simpa using he
  by_cases hlt:s.i<T.length
  ·rw [if_pos ⟨he2,hlt⟩] at hE;have hltI:(s.i:Int)<(T.length:Int):=by omega
   have hltB:decide ((s.i:Int)<(T.length:Int))=true:=by rw [decide_eq_true_iff];exact hltI
   have hw:wrongP T long 10 s=E:=hE.symm;rw [hw] at KW;have hEe:(E.e == 0)=false:=by
    rw [hE];unfold wrongP;rw [if_pos he2];rfl
   have hA:endA E=E.at_:=by unfold endA;rw [if_neg (by intro e;rw [e] at hEe;cases hEe)]
   rw [hA];clear hE hw hA;obtain ⟨i2,d2,a2,e2⟩:=E;simp only at hEe |-;go_enter Tryz.func31,Tryz.ntmps31;go_simp
   repeat (first|go_values|go_skip|go_guarded|go_step|go_upon)
   go_quiet (fail);go_simp
   repeat (first|go_values|go_skip|go_guarded|go_step|go_upon)
   refine Calls.mono (KW.out _ (HP.out.ext (bel_drewN _ _))) ?_;rintro e W2 ⟨rfl,hp2,hl2⟩;have hl3:LeP p w W2:=(LeP.ofExt (bel_drewN _ _)).trans hl2;have HB2:=h_ hp2.blk;have HL2:=h_ hl3;clear hp2 hl2 hl3 cb fb hbl KW HP;simp only [psC] at HB2;obtain ⟨cb,fb⟩:=HB2.out.facts;have hbl:=HB2.out.lt;go_simp
   repeat (first|go_values|go_skip|go_guarded|go_step|go_upon)
   go_quiet (fail);go_wp2;go_returns;exact ⟨rfl,HL2.out.trans (LeP.ofExt (bel_drewN _ _))⟩
  ·rw [if_neg (fun h=>hlt h.2)] at hE;have hnl:decide ((s.i:Int)<(T.length:Int))=false:=by rw [decide_eq_false_iff_not];omega
   have hnl2:decide (s.i<T.length)=false:=by rw [decide_eq_false_iff_not];omega
   have hA:endA E=0:=by rw [hE];unfold endA;rw [if_pos he2]
   have hEe:E.e=0:=by rw [hE];exact he2
   rw [hA,hEe];clear hE;go_enter Tryz.func31,Tryz.ntmps31;go_simp
   repeat (first|go_values|go_skip|go_guarded|go_step|go_upon)
   go_quiet (fail);go_simp
   repeat (first|go_values|go_skip|go_guarded|go_step|go_upon)
   go_returns;exact ⟨rfl,LeP.ofExt (bel_drewN _ _)⟩
theorem ret_ndP3 {t u v:Tmp} {fn:Func} (h:fn.results= #[.cell t 24,.tmp u,.tmp v]) (tmps:Array Value) {w:World} {g:Nat} {cs:Array Value} (hc:cs.size=6) (hp:tmps.getD t undef= .pointer (some ⟨g,0,none⟩)) (hg:Blk w g cs 24) :
 (results fn tmps).run Tryz.prog w= .ok (.tuple #[.agg cs,tmps.getD u undef,tmps.getD v undef]) w:=by
 have hp':tmps[t]?.getD undef= .pointer (some ⟨g,0,none⟩):=by simpa using hp
 have hr:=run_loadVar_row w g 24 24 cs (0,0) _ hg Tryz.underlying24 rfl (by rw [hc];kernel_rfl);simp [results,h,hp',asAddr,hr]
def ExprPost (r:Tr) (a er:Int) (w:World) (e:Ending) (w':World):Prop:=∃ x:PN,e= .returned (.tuple #[x.v,.int .i64 a,.int .i64 er])/\TrAt (w.heap.size<= ·) w' x r/\Below w.heap.size w w'
theorem Below.set6 {B:Nat} {w0 w:World} (h:Below B w0 w) {g:Nat} (hg:B<=g) (a b c d e f:Value):Below B w0 ((((((w.setCell ⟨g,0,none⟩ a).setCell ⟨g,1,none⟩ b).setCell ⟨g,2,none⟩ c).setCell ⟨g,3,none⟩ d).setCell ⟨g,4,none⟩ e).setCell ⟨g,5,none⟩ f) :=
 (((((h.setCell (p:=⟨g,0,none⟩) hg a).setCell (p:=⟨g,1,none⟩) hg b).setCell (p:=⟨g,2,none⟩) hg c).setCell (p:=⟨g,3,none⟩) hg d).setCell (p:=⟨g,4,none⟩) hg e).setCell (p:=⟨g,5,none⟩) hg f
def trD:Nat->Tr->Bool
 |0,_=>false
 |d+1,.mk _ _ _ _ _ l=>l.all (trD d)
def KidsAt (A:Nat->Prop) (w:World) (la:Option Addr) (ln lc:Nat) (l:List Tr):Prop :=
 (la=none/\ln=0/\lc=0/\l=[]) ∨ ∃ (g:Nat) (L:List PN),la=some ⟨g,0,none⟩/\ln=l.length/\l.length<=lc/\L.length=l.length/\A g/\PnAt w g L/\(∀ (i:Nat) (x:PN) (y:Tr),L[i]?=some x->l[i]?=some y->TrAt A w x y)/\0<l.length
theorem TrAt.parts {A:Nat->Prop} {w:World} {x:PN} {k o n:Int} {s t:List UInt8} {l:List Tr} (h:TrAt A w x (.mk k o s t n l)):x.k=k/\x.o=o/\x.s=⟨s.toArray⟩/\x.t=⟨t.toArray⟩/\x.n=n/\KidsAt A w x.la x.ln x.lc l:=by
 cases h with
 |leaf=>exact ⟨rfl,rfl,rfl,rfl,rfl,.inl ⟨rfl,rfl,rfl,rfl⟩⟩
 |node _ _ _ _ _ g lc L _ hl h0 hc hg hN h=>exact ⟨rfl,rfl,rfl,rfl,rfl,.inr ⟨g,L,rfl,rfl,hc,hl,hg,hN,h,h0⟩⟩
theorem TrAt.ext {A:Nat->Prop} {w w':World} {x:PN} {t:Tr} (h:TrAt A w x t) (hx:Ext w w'):TrAt A w' x t:=h.same (fun g _ hl=>hx.block g hl) hx.size
theorem KidsAt.ext {A:Nat->Prop} {w w':World} {la:Option Addr} {ln lc:Nat} {l:List Tr} (h:KidsAt A w la ln lc l) (hx:Ext w w'):KidsAt A w' la ln lc l:=by
 rcases h with h|⟨g,L,h1,h2,h3,h4,h5,h6,h7,h8⟩
 ·exact .inl h
 ·exact .inr ⟨g,L,h1,h2,h3,h4,h5,h6.same (hx.block g h6.1) hx.size,fun i x y hx1 hy=>(h7 i x y hx1 hy).ext hx,h8⟩
theorem KidsAt.later {A:Nat->Prop} {p:Nat} {w w':World} {la:Option Addr} {ln lc:Nat} {l:List Tr} (h:KidsAt A w la ln lc l) (hA:∀ g,A g->g≠p) (hx:LeP p w w'):KidsAt A w' la ln lc l:=by
 rcases h with h|⟨g,L,h1,h2,h3,h4,h5,h6,h7,h8⟩
 ·exact .inl h
 ·exact .inr ⟨g,L,h1,h2,h3,h4,h5,h6.same (hx.old g h6.1 (hA g h5)) hx.size,fun i x y hx1 hy=>(h7 i x y hx1 hy).later hA hx,h8⟩
theorem PnAt.at6 {w:World} {g i:Nat} {L:List PN} {y:PN} (h:PnAt w g L) (hy:L[i]?=some y) :
 w.cell? ⟨g,i * 6,none⟩=some (.int .i64 y.k)/\w.cell? ⟨g,i * 6+1,none⟩=some (.int .i64 y.o)/\w.cell? ⟨g,i * 6+2,none⟩=some (.string y.s)/\w.cell? ⟨g,i * 6+3,none⟩=some (.string y.t)/\w.cell? ⟨g,i * 6+4,none⟩=some (.int .i64 y.n)/\w.cell? ⟨g,i * 6+5,none⟩=some (.slice y.la y.ln y.lc) :=
 ⟨h.2 i y hy 0 (by omega),h.2 i y hy 1 (by omega),h.2 i y hy 2 (by omega),h.2 i y hy 3 (by omega),h.2 i y hy 4 (by omega),h.2 i y hy 5 (by omega)⟩
theorem deepclo_any (x:PN) (b:Nat) (most:Int) (w:World) (hb:Blk w b #[.int .i64 most] 3) (hm:1<=most/\most<=1000000)
 (hcall:∀ W,Ext w W->Calls Tryz.prog 24 #[x.v,.int .i64 (most - 1)] W fun e w'=>e= .returned (.bool false)/\Ext W w') :
 Calls Tryz.prog 51 #[x.v,.pointer (some ⟨b,0,none⟩)] w fun e w'=>e= .returned (.bool false)/\Ext w w':=by
 obtain ⟨cb,fb⟩:=hb.facts;have hbl:=hb.lt;have hsub:=IntWalk.i64_in (most - 1) (by omega);have HC:=h_ hcall;obtain ⟨yk,yo,ys,yt,yn,yla,yln,ylc⟩:=x;simp only [PN.v] at HC |-;clear hb hcall;go_enter Tryz.func51,Tryz.ntmps51;go_simp
 repeat (first|go_values|go_skip|go_guarded|go_step|go_upon)
 refine Calls.mono (HC.out _ ((Ext.refl _).alloc _)) ?_;rintro e w2 ⟨rfl,hb⟩;have HB:=h_ (Ext.trans ((Ext.refl w).alloc _) hb);clear hb;go_simp
 repeat (first|go_values|go_skip|go_guarded|go_step|go_upon)
 go_returns;exact ⟨rfl,HB.out⟩
def trW:Nat->Tr->Bool
 |0,_=>true
 |d+1,.mk _ _ _ _ _ l=>decide (l.length<=100000) && l.all (trW d)
def cntL:Nat->List Tr->Nat
 |0,_=>0
 |d+1,l=>(l.map fun| .mk _ _ _ _ _ m=>1+cntL d m).sum
def kidsT:Tr->List Tr
 | .mk _ _ _ _ _ l=>l
theorem cntL_succ (d:Nat) (l:List Tr):cntL (d+1) l=(l.map fun z=>1+cntL d (kidsT z)).sum:=by
 rw [cntL];congr 1;exact List.map_congr_left fun z _=>by cases z;rfl
theorem cntL_drop (d:Nat) (l:List Tr) (j:Nat) (z:Tr) (h:l[j]?=some z):cntL (d+1) (l.drop j)=1+cntL d (kidsT z)+cntL (d+1) (l.drop (j+1)):=by
 obtain ⟨hlt,rfl⟩:=List.getElem?_eq_some_iff.1 h;rw [cntL_succ,cntL_succ,List.drop_eq_getElem_cons hlt,List.map_cons,List.sum_cons]
theorem cntL_drop_le (d:Nat):∀ (l:List Tr) (k:Nat),cntL (d+1) (l.drop k)<=cntL (d+1) l
 | [],k=>by simp
 |z::l,0=>by simp
 |z::l,k+1=>by
  have:=cntL_drop_le d l k;have h:=cntL_drop d (z::l) 0 z rfl;simp only [List.drop_zero,List.drop_succ_cons,Nat.zero_add] at h;rw [List.drop_succ_cons];omega
theorem first_none {l:List UInt8} (hl:Lx.lex l= .ok []):l.length<=Lx.skip false l:=by
 refine Classical.byContradiction fun hn=>?_;have h:=TokensAt.start l;cases ht:Lx.tok1 (l.drop (Lx.skip false l)) with
 |none=>have:=h.err (by omega) ht;rw [hl] at this;cases this
 |some x =>
  have h2:=(h.next (by omega) ht).is;rw [hl] at h2;have:=lexGo_len _ _ _ _ _ h2.symm;simp at this
theorem tokens_none (s:ByteArray) (w:World) (hs:s.size<=4000) (hL:Lx.lex (bsl s)= .ok []) :
 Calls Tryz.prog 59 #[.string s] w fun e w'=>e= .returned (.tuple #[.slice none 0 0,.int .i64 0,.int .i64 0])/\Below w.heap.size w w':=by
 have hk:=first_none hL;have hsk:=Lx.skip_le false (bsl s);rw [bsl_length] at hk hsk;clear hL;go_enter Tryz.func59,Tryz.ntmps59;go_wp2_with fail;refine (skip_any s w (by unfold maxLen;omega)).mono ?_;rintro e w' ⟨rfl,rfl⟩;generalize Lx.skip false (bsl s)=k0 at hk hsk |-;have hkI:¬ (k0:Int)<(s.size:Int):=by omega
 go_wp2_with fail;refine wp_loop_rounds 1 ?_;rw [rounds_succ];go_wp2_with fail;exact bodyPost_ret (v:= .tuple #[.slice none 0 0,.int .i64 0,.int .i64 0]) (by simp [results,Tryz.results59,go_sem]) rfl ⟨rfl,Below.refl _ _⟩
def LexPostP (R:List Lx.Tok × Int × Int) (w1:World) (e:Ending) (w':World):Prop :=
 (∃ g c,e= .returned (.tuple #[.slice (psA g R.1.length) R.1.length c,.int .i64 R.2.1,.int .i64 R.2.2])/\R.1.length<=c/\(R.1=[]->g=0)/\(R.1≠[]->w1.heap.size<=g)/\TokAt w' g R.1)/\Below w1.heap.size w1 w'
theorem ptokens_all (s:ByteArray) (w1:World) (h0:0<w1.heap.size) (hG:GlobL w1) (hs:s.size<=maxLen):Calls Tryz.prog 59 #[.string s] w1 (LexPostP (lexR (bsl s)) w1):=by
 have hnil:∀ (a er:Int) w',Below w1.heap.size w1 w'->LexPostP ([],a,er) w1 (.returned (.tuple #[.slice none 0 0,.int .i64 a,.int .i64 er])) w':=fun a er w' hb =>
  ⟨⟨0,0,rfl,Nat.le_refl _,fun _=>rfl,fun h=>absurd rfl h,by have:=hb.size;show 0<w'.heap.size;omega,fun j hj=>by simp at hj⟩,hb⟩
 unfold lexR;by_cases hl:4000<(bsl s).length
 ·rw [if_pos hl];refine (tokens_long s w1 (by rw [<- bsl_length];exact hl) hs).mono ?_;rintro e w' ⟨rfl,rfl⟩;exact hnil 0 2 _ (Below.refl _ _)
 ·rw [if_neg hl];have hsz:s.size<=4000:=by rw [<- bsl_length];omega
  cases hx1:Lx.lex (bsl s) with
  |error p =>
   refine (tokens_any s w1 hG hsz).mono ?_;rintro e w' ⟨he,hb⟩;rw [hx1] at he;simp only [TokensE] at he;subst he;exact hnil p 10 w' hb
  |ok T =>
   by_cases hT:T=[]
   ·subst hT;refine (tokens_none s w1 hsz hx1).mono ?_;rintro e w' ⟨rfl,hb⟩;exact hnil 0 0 w' hb
   ·refine (tokens_any s w1 hG hsz).mono ?_;rintro e w' ⟨he,hb⟩;rw [hx1] at he;obtain ⟨v,rfl,hown⟩:=he;obtain ⟨g,cap,rfl,hcap,hge,hat⟩:=tokAt_own hown hT;refine ⟨⟨g,cap,?_,hcap,fun h=>absurd h hT,fun _=>hge,hat⟩,hb⟩;simp only [psA_pos (List.length_pos_iff.2 hT)]
def BeginPostP (R:List Lx.Tok × Int × Int) (long:Nat) (w:World) (e:Ending) (w':World):Prop:=∃ p g cap,e= .returned (.pointer (some ⟨p,0,none⟩))/\w.heap.size<=p/\(g=0 ∨ w.heap.size<=g)/\PsAt w' p g cap long R.1 ⟨0,0,R.2.1,R.2.2⟩/\Below w.heap.size w w'
theorem pbegin_all (s:ByteArray) (w:World) (h0:0<w.heap.size) (hG:GlobL w) (hs:s.size<=maxLen) :
 Calls Tryz.prog 29 #[.string s] w (BeginPostP (lexR (bsl s)) s.size w):=by
 have KT:=h_ (ptokens_all s w h0 hG hs);have hfew:=lexR_few (bsl s);generalize lexR (bsl s)=R at KT hfew |-;obtain ⟨T,a,er⟩:=R;simp only at hfew;clear hG;go_enter Tryz.func29,Tryz.ntmps29;go_simp
 repeat (first|go_values|go_skip|go_guarded|go_step|go_upon)
 refine Calls.mono KT.out ?_;rintro e W1 ⟨⟨g,cap,rfl,hcap,hg0,hge,hat⟩,hb1⟩;simp only at hcap hg0 hge hat;have HT:=h_ hat;have HX:=h_ hb1;have HG:=h_ (show g=0 ∨ w.heap.size<=g from by
  by_cases hT:T=[]
  ·exact .inl (hg0 hT)
  ·exact .inr (hge hT))
 clear hat hb1 KT hg0 hge;obtain ⟨ga,hga⟩:∃ ga,ga=psA g T.length:=⟨_,rfl⟩
 simp only;rw [<- hga];have HGa:=h_ hga;clear hga;go_simp
 repeat (first|go_values|go_skip|go_guarded|go_step|go_upon)
 go_returns;have hx1:Ext W1 (W1.alloc (.cells #[.slice ga T.length cap,.int .i64 0,.int .i64 s.size,.int .i64 0,.int .i64 a,.int .i64 er] 125)):=(Ext.refl W1).alloc _;refine ⟨W1.heap.size,g,cap,rfl,HX.out.size,HG.out,⟨by
  unfold psC;rw [<- HGa.out];exact Blk.new W1 _ 125 rfl,HT.out.ext (hx1.block g HT.out.1) hx1.size,by have:=HT.out.1;omega,Nat.zero_le _,hcap,hfew⟩,Ext.trans HX.out hx1⟩
theorem toldP_eq (T:List Lx.Tok) (hT:TokW T) (long:Nat):∃ r',plev T long (16 * T.length+14) 1 ⟨0,0,0,0⟩=some (r',(readT T long).2)/\((readT T long).2.e=0->r'=(readT T long).1) :=
 plev_sim hT _ 1 ⟨0,0,0,0⟩ (by decide) (by decide) (by decide) _ _ (readT_ok T long)
def opB (o:Int) (b:Int × List UInt8 × Int):Bool:=b.2.2 == o
def lvl (o:Int):Nat->Nat->Int
 |0,_=>12
 |m+1,k=>if ((binsL k).find? (opB o)).isSome then (k:Int) else lvl o m (k+1)
def strT (k o:Int):Int:=if k=7 ∨ k=8 ∨ k=9 ∨ k=10 then 4 else if k=11 then 11 else if k=5 then (if o=21 then 3 else 10) else if k=6 then lvl o 9 1 else 12
def sgn (o:Int):Nat->Nat->List UInt8
 |0,_=>[]
 |m+1,k=>match (binsL k).find? (opB o) with|some b=>b.2.1|none=>sgn o m (k+1)
theorem find_drop {α:Type} (p:α->Bool) (L:List α) (j:Nat) (b:α) (h:L[j]?=some b) (hb:p b=false):(L.drop (j+1)).find? p=(L.drop j).find? p:=by
 obtain ⟨hlt,rfl⟩:=List.getElem?_eq_some_iff.1 h;rw [List.drop_eq_getElem_cons hlt,List.find?_cons_of_neg (by simp [hb])]
theorem find_here {α:Type} (p:α->Bool) (L:List α) (j:Nat) (b:α) (h:L[j]?=some b) (hb:p b=true):(L.drop j).find? p=some b:=by
 obtain ⟨hlt,rfl⟩:=List.getElem?_eq_some_iff.1 h;rw [List.drop_eq_getElem_cons hlt,List.find?_cons_of_pos (by simp [hb])]
theorem binsL_few (k:Nat) (hk:k<=12):(binsL k).length<=6:=by
 rcases (by omega:k=0 ∨ k=1 ∨ k=2 ∨ k=3 ∨ k=4 ∨ k=5 ∨ k=6 ∨ k=7 ∨ k=8 ∨ k=9 ∨ k=10 ∨ k=11 ∨ k=12) with rfl|rfl|rfl|rfl|rfl|rfl|rfl|rfl|rfl|rfl|rfl|rfl|rfl<;>decide
theorem sign_nd (o:Int) (w:World):Calls Tryz.prog 163 #[.int .i64 o] w fun e w'=>e= .returned (.string ⟨(sgn o 9 1).toArray⟩)/\Ext w w':=by
 have KB:=h_ (fun k hk W=>binaries_any k hk W);obtain ⟨R,hR⟩:∃ R,R=sgn o 9 1:=⟨_,rfl⟩
 rw [<- hR];have HR:=h_ hR;clear hR;go_enter Tryz.func163,Tryz.ntmps163;go_simp
 repeat (first|go_values|go_skip|go_guarded|go_step|go_upon)
 go_loopg [3] 9 (fun m lv wr=>∃ kk:Nat,lv= .int .i64 kk/\kk+m=10/\Ext w wr/\sgn o m kk=R)
 case atStart=>exact ⟨1,rfl,rfl,Ext.refl w,HR.out.symm⟩
 case round =>
  obtain ⟨kk,rfl,hkm,hx,hs⟩:=hrel;have HX:=h_ hx;have HS:=h_ hs;clear hx hs;cases gk with
  |zero =>
   obtain rfl:kk=10:=by omega
   obtain rfl:R=[]:=HS.out.symm;go_simp
   repeat (first|go_values|go_skip|go_guarded|go_step|go_upon)
   go_returns;exact ⟨rfl,HX.out⟩
  |succ m =>
   have hle:(kk:Int)<=9:=by omega
   have hs:=HS.out;rw [sgn] at hs;have HS2:=h_ hs;have hlen:=binsL_few kk (by omega);clear hs;go_simp
   repeat (first|go_values|go_skip|go_guarded|go_step|go_upon)
   refine Calls.mono (KB.out kk (by omega) wr) ?_;rintro e W0 ⟨⟨v,rfl,a,bcap,rfl,hbc,hc⟩,hx0⟩;have HC:=h_ hc;have HX0:=h_ (Ext.trans HX.out hx0);clear hc hx0;generalize binsL kk=L at HS2 HC hlen hbc |-;go_simp
   repeat (first|go_values|go_skip|go_guarded|go_step|go_upon)
   go_loopg [5,13] L.length (fun jj _ ix wr2=>∃ i:Nat,ix= .int .i64 i/\i+jj=L.length/\Ext W0 wr2/\(L.drop i).find? (opB o)=L.find? (opB o))
   case atStart=>exact ⟨0,rfl,by omega,Ext.refl _,by rw [List.drop_zero]⟩
   case round =>
    obtain ⟨i,rfl,hij,hx2,hfd⟩:=hrel;have HX2:=h_ (Ext.trans HX0.out hx2);have HF:=h_ hfd;by_cases hlt:i<L.length
    ·obtain ⟨jj,rfl⟩:∃ jj,gk=jj+1:=⟨gk - 1,by omega⟩
     have hltI:(i:Int)<(L.length:Int):=by omega
     obtain ⟨b,hbe⟩:∃ b,L[i]?=some b:=⟨_,List.getElem?_eq_getElem hlt⟩
     obtain ⟨gb,rfl,hgb,c0,c1,c2⟩:=HC.out i b hbe;have HBE:=h_ hbe;have d0:=(hx2.cell (p:=⟨gb,i * 3,none⟩) hgb).trans c0;have d1:=(hx2.cell (p:=⟨gb,i * 3+1,none⟩) hgb).trans c1;have d2:=(hx2.cell (p:=⟨gb,i * 3+2,none⟩) hgb).trans c2;have hbl:gb<wr.heap.size:=Nat.lt_of_lt_of_le hgb hx2.size;have HX3:=h_ hx2;obtain ⟨bk,bt,bo⟩:=b;simp only at d0 d1 d2;clear c0 c1 c2 hgb hbe hx2 hfd;cases hB:bo == o
     ·go_simp
      repeat (first|go_values|go_skip|go_guarded|go_step|go_upon)
      go_roundg jj
      case measure=>omega
      case rel =>
       exact ⟨i+1,by simp,by omega,HX3.out.trans ((Ext.refl _).alloc _),by rw [<- HF.out];exact find_drop (opB o) L i _ HBE.out hB⟩
     ·go_simp
      repeat (first|go_values|go_skip|go_guarded|go_step|go_upon)
      have hs:=HS2.out;rw [<- HF.out,find_here (opB o) L i _ HBE.out hB] at hs;obtain rfl:R=bt:=hs.symm;go_returns;exact ⟨rfl,HX2.out.trans ((Ext.refl _).alloc _)⟩
    ·obtain rfl:i=L.length:=by omega
     obtain rfl:gk=0:=by omega
     have hltI:¬ (L.length:Int)<(L.length:Int):=by omega
     have hnone:L.find? (opB o)=none:=by rw [<- HF.out,List.drop_length];rfl
     have hs:=HS2.out;rw [hnone] at hs;have HS3:=h_ hs;have hk1:=IntWalk.i64_in ((kk:Int)+1) (by omega);clear hx2 hfd hs;go_simp
     repeat (first|go_values|go_skip|go_guarded|go_step|go_upon)
     go_roundg m
     case measure=>omega
     case rel=>exact ⟨kk+1,by simp,by omega,HX2.out,HS3.out⟩
theorem strength_pn (x:PN) (w:World):Calls Tryz.prog 52 #[x.v] w fun e w'=>e= .returned (.int .i64 (strT x.k x.o))/\Ext w w':=by
 obtain ⟨xk,xo,xs,xt,xn,xla,xln,xlc⟩:=x;simp only [PN.v];unfold strT;by_cases k7:xk=7 ∨ xk=8 ∨ xk=9 ∨ xk=10
 ·rw [if_pos k7];rcases k7 with rfl|rfl|rfl|rfl
  all_goals
   go_enter Tryz.func52,Tryz.ntmps52;go_simp
   repeat (first|go_values|go_skip|go_guarded|go_step|go_upon)
   go_returns;exact ⟨rfl,(Ext.refl w).alloc _⟩
 rw [if_neg k7];have n7:(xk == 7)=false:=by rw [beq_eq_false_iff_ne];omega
 have n8:(xk == 8)=false:=by rw [beq_eq_false_iff_ne];omega
 have n9:(xk == 9)=false:=by rw [beq_eq_false_iff_ne];omega
 have n10:(xk == 10)=false:=by rw [beq_eq_false_iff_ne];omega
 by_cases k11:xk=11
 ·rw [if_pos k11];subst k11;go_enter Tryz.func52,Tryz.ntmps52;go_simp
  repeat (first|go_values|go_skip|go_guarded|go_step|go_upon)
  go_returns;exact ⟨rfl,(Ext.refl w).alloc _⟩
 rw [if_neg k11];have n11:(xk == 11)=false:=by rw [beq_eq_false_iff_ne];omega
 by_cases k5:xk=5
 ·rw [if_pos k5];subst k5;by_cases o21:xo=21
  ·rw [if_pos o21];subst o21;go_enter Tryz.func52,Tryz.ntmps52;go_simp
   repeat (first|go_values|go_skip|go_guarded|go_step|go_upon)
   go_returns;exact ⟨rfl,(Ext.refl w).alloc _⟩
  ·rw [if_neg o21];have no:(xo == 21)=false:=by rw [beq_eq_false_iff_ne];omega
   go_enter Tryz.func52,Tryz.ntmps52;go_simp
   repeat (first|go_values|go_skip|go_guarded|go_step|go_upon)
   go_returns;exact ⟨rfl,(Ext.refl w).alloc _⟩
 rw [if_neg k5];have n5:(xk == 5)=false:=by rw [beq_eq_false_iff_ne];omega
 by_cases k6:xk=6
 ·rw [if_pos k6];subst k6;have KB:=h_ (fun k hk W=>binaries_any k hk W);obtain ⟨R,hR⟩:∃ R,R=lvl xo 9 1:=⟨_,rfl⟩
  rw [<- hR];have HR:=h_ hR;have HXa:=h_ (show Ext w (w.alloc (.cells #[.int .i64 6,.int .i64 xo,.string xs,.string xt,.int .i64 xn,.slice xla xln xlc] 24)) from (Ext.refl w).alloc _);have HBa:=h_ (Blk.new w #[.int .i64 6,.int .i64 xo,.string xs,.string xt,.int .i64 xn,.slice xla xln xlc] 24 rfl);clear hR;go_enter Tryz.func52,Tryz.ntmps52;go_simp
  repeat (first|go_values|go_skip|go_guarded|go_step|go_upon)
  generalize w.alloc (.cells #[.int .i64 6,.int .i64 xo,.string xs,.string xt,.int .i64 xn,.slice xla xln xlc] 24)=Wa at HXa HBa |-;go_loopg [3] 9 (fun m lv wr=>∃ kk:Nat,lv= .int .i64 kk/\kk+m=10/\Ext Wa wr/\lvl xo m kk=R)
  case atStart=>exact ⟨1,rfl,rfl,Ext.refl _,HR.out.symm⟩
  case round =>
   obtain ⟨kk,rfl,hkm,hx,hs⟩:=hrel;have HX:=h_ hx;have HS:=h_ hs;clear hx hs;cases gk with
   |zero =>
    obtain rfl:kk=10:=by omega
    obtain rfl:R=12:=HS.out.symm;go_simp
    repeat (first|go_values|go_skip|go_guarded|go_step|go_upon)
    go_returns;exact ⟨rfl,HXa.out.trans HX.out⟩
   |succ m =>
    have hle:(kk:Int)<=9:=by omega
    have hs:=HS.out;rw [lvl] at hs;have HS2:=h_ hs;have hlen:=binsL_few kk (by omega);clear hs;go_simp
    repeat (first|go_values|go_skip|go_guarded|go_step|go_upon)
    refine Calls.mono (KB.out kk (by omega) wr) ?_;rintro e W0 ⟨⟨v,rfl,a,bcap,rfl,hbc,hc⟩,hx0⟩;have HC:=h_ hc;have HX0:=h_ (Ext.trans HX.out hx0);clear hc hx0;generalize binsL kk=L at HS2 HC hlen hbc |-;go_simp
    repeat (first|go_values|go_skip|go_guarded|go_step|go_upon)
    go_loopg [5,29] L.length (fun jj _ ix wr2=>∃ i:Nat,ix= .int .i64 i/\i+jj=L.length/\Ext W0 wr2/\(L.drop i).find? (opB xo)=L.find? (opB xo))
    case atStart=>exact ⟨0,rfl,by omega,Ext.refl _,by rw [List.drop_zero]⟩
    case round =>
     obtain ⟨i,rfl,hij,hx2,hfd⟩:=hrel;have HX2:=h_ (Ext.trans HX0.out hx2);have HF:=h_ hfd;by_cases hlt:i<L.length
     ·obtain ⟨jj,rfl⟩:∃ jj,gk=jj+1:=⟨gk - 1,by omega⟩
      have hltI:(i:Int)<(L.length:Int):=by omega
      obtain ⟨b,hbe⟩:∃ b,L[i]?=some b:=⟨_,List.getElem?_eq_getElem hlt⟩
      obtain ⟨gb,rfl,hgb,c0,c1,c2⟩:=HC.out i b hbe;have HBE:=h_ hbe;have d0:=(hx2.cell (p:=⟨gb,i * 3,none⟩) hgb).trans c0;have d1:=(hx2.cell (p:=⟨gb,i * 3+1,none⟩) hgb).trans c1;have d2:=(hx2.cell (p:=⟨gb,i * 3+2,none⟩) hgb).trans c2;have hbl:gb<wr.heap.size:=Nat.lt_of_lt_of_le hgb hx2.size;have HX3:=h_ hx2;obtain ⟨bk,bt,bo⟩:=b;simp only at d0 d1 d2;clear c0 c1 c2 hgb hbe hx2 hfd;obtain ⟨ca,fa⟩:=(HBa.out.keep HX2.out).facts;have hal:=(HBa.out.keep HX2.out).lt;cases hB:bo == xo
      ·go_simp
       repeat (first|go_values|go_skip|go_guarded|go_step|go_upon)
       go_roundg jj
       case measure=>omega
       case rel =>
        exact ⟨i+1,by simp,by omega,HX3.out.trans ((Ext.refl _).alloc _),by rw [<- HF.out];exact find_drop (opB xo) L i _ HBE.out hB⟩
      ·go_simp
       repeat (first|go_values|go_skip|go_guarded|go_step|go_upon)
       have hs:=HS2.out;rw [<- HF.out,find_here (opB xo) L i _ HBE.out hB] at hs;obtain rfl:R=(kk:Int):=hs.symm;go_returns;exact ⟨rfl,HXa.out.trans (HX2.out.trans ((Ext.refl _).alloc _))⟩
     ·obtain rfl:i=L.length:=by omega
      obtain rfl:gk=0:=by omega
      have hltI:¬ (L.length:Int)<(L.length:Int):=by omega
      have hnone:L.find? (opB xo)=none:=by rw [<- HF.out,List.drop_length];rfl
      have hs:=HS2.out;rw [hnone] at hs;have HS3:=h_ hs;have hk1:=IntWalk.i64_in ((kk:Int)+1) (by omega);clear hx2 hfd hs;go_simp
      repeat (first|go_values|go_skip|go_guarded|go_step|go_upon)
      go_roundg m
      case measure=>omega
      case rel=>exact ⟨kk+1,by simp,by omega,HX2.out,HS3.out⟩
 rw [if_neg k6];have n6:(xk == 6)=false:=by rw [beq_eq_false_iff_ne];omega
 go_enter Tryz.func52,Tryz.ntmps52;go_simp
 repeat (first|go_values|go_skip|go_guarded|go_step|go_upon)
 go_returns;exact ⟨rfl,(Ext.refl w).alloc _⟩
end Go.Proofs.YtimeipjcmffadaaGreatDoor
