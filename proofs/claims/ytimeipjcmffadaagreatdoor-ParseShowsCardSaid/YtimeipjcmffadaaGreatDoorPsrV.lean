import Derived.Test.YtimeipjcmffadaaGreatDoorPsrM
import Derived.Test.YtimeipjcmffadaaGreatDoorRpL
set_option maxHeartbeats 16000000
namespace Go.Proofs.YtimeipjcmffadaaGreatDoor
open Go.RowKit Go.Lib
set_option maxRecDepth 100000
structure KidsO (A:Nat->Prop) (B:Nat) (W:World) (v:Value) (L:List PN) (ts:List Tr):Prop where
 len:L.length=ts.length
 own:W.ownsRow B 24 6 v L.length (cellsP L)
 tr:∀ (i:Nat) (x:PN) (y:Tr),L[i]?=some x->ts[i]?=some y->TrAt (fun g=>A g/\v.ownBlock≠some g) W x y
theorem KidsO.later {A:Nat->Prop} {B p:Nat} {W W':World} {v:Value} {L:List PN} {ts:List Tr} (h:KidsO A B W v L ts) (hx:LeP p W W') (hp:p<B) (hA:∀ g,A g->g≠p):KidsO A B W' v L ts:=by
 refine ⟨h.len,h.own.kept (row:=some p) ⟨hx.os,hx.tape,hx.out,hx.size,fun k hk hne=>hx.old k hk (fun e=>hne (by rw [e]))⟩ ?_,fun i x y h1 h2=>(h.tr i x y h1 h2).later (p:=p) (fun g hg=>hA g hg.1) hx⟩;cases hv:v.ownBlock with
 |none=>exact .inl rfl
 |some k=>have:=(h.own.lt k hv).1;exact .inr (fun e=>by have:=Option.some.inj e;omega)
theorem KidsO.cell {A:Nat->Prop} {B:Nat} {W:World} {v:Value} {L:List PN} {ts:List Tr} (h:KidsO A B W v L ts) {b:Nat} (hb:v.ownBlock≠some b) (hA:∀ g,A g->g≠b) (o:Nat) (u:Value):KidsO A B (W.setCell ⟨b,o,none⟩ u) v L ts:=by
 refine ⟨h.len,h.own.kept (row:=some b) ⟨rfl,rfl,rfl,by simp,fun k hk hne=>heap_setCell_other W ⟨b,o,none⟩ k u (fun e=>hne (by rw [e]))⟩ ?_,fun i x y h1 h2=>(h.tr i x y h1 h2).same (fun g hg _=>heap_setCell_other W ⟨b,o,none⟩ g u (hA g hg.1)) (by simp)⟩;cases hv:v.ownBlock with
 |none=>exact .inl rfl
 |some k=>exact .inr (fun e=>hb (by rw [hv,e]))
theorem KidsO.push {A:Nat->Prop} {B:Nat} {W W':World} {v v':Value} {L:List PN} {ts:List Tr} (h:KidsO A B W v L ts) (x:PN) (y:Tr) (hT:TrAt (fun g=>A g/\v.ownBlock≠some g) W x y)
 (ho:W'.ownsRow B 24 6 v' (L.length+1) (cellsP (L++[x]))) (hg:W.grownBy W' v.ownBlock) (hb:v'.ownBlock=v.ownBlock ∨ v'.ownBlock=some W.heap.size):KidsO A B W' v' (L++[x]) (ts++[y]):=by
 have hm:∀ (a:PN) (b:Tr),TrAt (fun g=>A g/\v.ownBlock≠some g) W a b->TrAt (fun g=>A g/\v'.ownBlock≠some g) W' a b:=fun a b h1 =>
  ((
   h1.mono (B:=fun g=>g<W.heap.size/\A g/\v.ownBlock≠some g) fun g h2 h3=>⟨h3,h2⟩).same (fun g h2 h3=>hg.block g h3 (fun e=>h2.2.2 e.symm)) hg.size).mono fun g h2 _=>⟨h2.2.1,by
   rcases hb with e|e
   ·rw [e];exact h2.2.2
   ·rw [e];intro e2;have:=Option.some.inj e2;omega⟩
 refine ⟨by simp [h.len],by rw [List.length_append];exact ho,fun i a b h1 h2=>?_⟩;by_cases hi:i<L.length
 ·rw [List.getElem?_append_left hi] at h1;rw [List.getElem?_append_left (by rw [<- h.len];exact hi)] at h2;exact hm a b (h.tr i a b h1 h2)
 ·have hi1:=(List.getElem?_eq_some_iff.1 h1).1;simp only [List.length_append,List.length_cons,List.length_nil] at hi1;have e1:i=L.length:=by omega
  subst e1;rw [List.getElem?_append_right (Nat.le_refl _)] at h1;rw [List.getElem?_append_right (by rw [h.len];exact Nat.le_refl _),h.len] at h2;simp at h1 h2;subst h1 h2;exact hm _ _ hT
theorem KidsO.node {A C:Nat->Prop} {B:Nat} {W:World} {v:Value} {L:List PN} {ts:List Tr} (h:KidsO A B W v L ts) (h0:0<L.length) (hA:∀ g,A g->C g) (hC:∀ g,B<=g->v.ownBlock=some g->C g) (k o n:Int):∃ g c,v= .slice (some ⟨g,0,none⟩) L.length c/\TrAt C W ⟨k,o,⟨#[]⟩,⟨#[]⟩,n,some ⟨g,0,none⟩,L.length,c⟩ (.mk k o [] [] n ts):=by
 obtain ⟨g,c,rfl,hg,hc,hP⟩:=pnAt_own h.own h0;refine ⟨g,c,rfl,?_⟩;have hl:=h.len;rw [hl];exact .node k o [] [] n g c L ts hl (hl ▸ h0) (hl ▸ hc) (hC g hg rfl) hP fun i x y h1 h2=>(h.tr i x y h1 h2).mono fun g h _=>hA g h.1
def readVD (n0 p g cap long:Nat) (T:List Lx.Tok) (r:Tr) (s':PSt) (lo hi:Nat) (v:Value) (w:World):Prop:=n0<=lo/\∃ y:PN,v=y.v/\TrAt (fun g=>lo<=g/\g<hi) w y r/\PsAt w p g cap long T s'
def readV (n0 p g cap long:Nat) (T:List Lx.Tok) (r:Tr) (s':PSt) (v:Value) (w:World):Prop:=∃ y:PN,v=y.v/\TrAt (n0<= ·) w y r/\PsAt w p g cap long T s'
def inlLoop (rec:Nat->PSt->Option (Tr × PSt)) (T:List Lx.Tok):Nat->List Tr->PSt->Option (List Tr × PSt)
 |0,_,_=>none
 |f+1,out,s=>if isB T s 5 [44] then (rec 1 (advP true s)).bind fun m=>inlLoop rec T f (out++[m.1]) m.2 else some (out,s)
def inlBody (rec:Nat->PSt->Option (Tr × PSt)) (T:List Lx.Tok) (long f:Nat) (a:Tr) (nt:Int) (s:PSt):Option (Tr × PSt) :=
 if s.i<T.length then (rec 1 { s with i:=s.i+1 }).bind fun m=>(inlLoop rec T f [a,m.1] m.2).map fun q=>(.mk 9 0 [] [] nt q.1,wantF T long q.2 [41]) else none
def inlF (rec:Nat->PSt->Option (Tr × PSt)) (T:List Lx.Tok) (long f:Nat) (a:Tr) (nt:Int) (s:PSt):Option (Tr × PSt):=withinF T long (inlBody rec T long f a nt) (if isB T s 5 [40] then s else wrongP T long 10 s)
theorem inclo2_any (X:Nat->Prop) (b0 b1 b2:Nat) (ya:PN) (ta:Tr) (nt:Int) (p g cap long:Nat) (T:List Lx.Tok) (rec:Nat->PSt->Option (Tr × PSt)) (hrec:LevOk p g cap long T rec) (f:Nat) (hfu:f<=99000) (s:PSt) (r:Tr) (s':PSt) (w:World) (hf:inlBody rec T long f ta nt s=some (r,s')) (h:PsAt w p g cap long T s)
 (hX:∀ g,X g->g<w.heap.size/\g≠p) (hT:TrAt X w ya ta)
 (h0:Blk w b0 #[.pointer (some ⟨p,0,none⟩)] 70) (h1:Blk w b1 #[.int .i64 nt] 2) (h2:Blk w b2 ya.cells 24) (h0p:b0≠p) (h1p:b1≠p) (h2p:b2≠p) :
 Calls Tryz.prog 232 #[.pointer (some ⟨b0,0,none⟩),.pointer (some ⟨b1,0,none⟩),.pointer (some ⟨b2,0,none⟩)] w (LevPostX X p g cap long T r s' w):=by
 have mixed:Tryz.prog.follows .mixedOrders=true:=by kernel_rfl
 have hpl:p<w.heap.size:=h.blk.lt;have hpw:p≠w.heap.size:=by omega
 have hgl:g<w.heap.size:=h.tok.1;have hgw:g≠w.heap.size:=by omega
 have hwp:w.heap.size≠p:=Ne.symm hpw;have hb0w:b0<w.heap.size:=h0.lt;have hb1w:b1<w.heap.size:=h1.lt;have hb2w:b2<w.heap.size:=h2.lt;unfold inlBody at hf;by_cases hlt:s.i<T.length
 ·rw [if_pos hlt] at hf;cases hr1:rec 1 { s with i:=s.i+1 } with
  |none=>rw [hr1] at hf;cases hf
  |some m1 =>
  obtain ⟨m,s2⟩:=m1;rw [hr1] at hf;simp only [Option.bind_some] at hf;obtain ⟨lq,hlo2,hfq⟩:=Option.map_eq_some_iff.1 hf;have HLo:=h_ hlo2;have HFf:=h_ hfq;clear hf hlo2 hfq;obtain ⟨i,deep,at_,er⟩:=s;simp only at hr1 hlt;have hfew:=h.few;obtain ⟨yk,yo,ys,yt,yn,yla,yln,ylc⟩:=ya;simp only [PN.cells] at h2;have HL0:=h_ (show LeP p w ((w.setCell ⟨p,1,none⟩ (.int .i64 ((i:Int)+1))).alloc (.cells #[.int .i64 0,.int .i64 0,.string ⟨#[]⟩,.string ⟨#[]⟩,.int .i64 0,.slice none 0 0] 24)) from (LeP.set 1 _).trans (LeP.ofExt ((Ext.refl _).alloc _)));have HP0:=h_ (show PsAt ((w.setCell ⟨p,1,none⟩ (.int .i64 ((i:Int)+1))).alloc (.cells #[.int .i64 0,.int .i64 0,.string ⟨#[]⟩,.string ⟨#[]⟩,.int .i64 0,.slice none 0 0] 24)) p g cap long T ⟨i+1,deep,at_,er⟩ from
   PsAt.ext (w:=w.setCell ⟨p,1,none⟩ (.int .i64 ((i:Int)+1))) (h.set (LeP.set 1 _) (h.blk.set 1 _) (by show i+1<=_;omega)) ((Ext.refl _).alloc _))
  have HR0:=h_ (show Blk ((w.setCell ⟨p,1,none⟩ (.int .i64 ((i:Int)+1))).alloc (.cells #[.int .i64 0,.int .i64 0,.string ⟨#[]⟩,.string ⟨#[]⟩,.int .i64 0,.slice none 0 0] 24)) w.heap.size #[.int .i64 0,.int .i64 0,.string ⟨#[]⟩,.string ⟨#[]⟩,.int .i64 0,.slice none 0 0] 24 from Blk.new _ _ _ (by simp));have HT0:=h_ (hT.later (fun g h=>(hX g h).2) HL0.out);have HA0:=h_ (HL0.out.blk h0 h0p);have HA1:=h_ (HL0.out.blk h1 h1p);have HA2:=h_ (HL0.out.blk h2 h2p);have HX:=h_ hX;have HRec:=h_ hrec;have HR1:=h_ hr1;have KW:=h_ (fun (s:PSt) (x:ByteArray) W (hW:PsAt W p g cap long T s)=>wantOp_any p g cap long T s x W hW);have KO:=h_ (fun (s:PSt) (x:ByteArray) W (hW:PsAt W p g cap long T s)=>pop_any p g cap long T s x W hW);have hb:=h.blk;simp only [psC] at hb;have hsum:=IntWalk.i64_in ((i:Int)+1) (by omega);obtain ⟨cb,fb⟩:=hb.facts;obtain ⟨c0,f0⟩:=h0.facts;have hbl:=hb.lt;clear hb h h0 h1 h2 hT hX hrec hr1 hlt;go_enter Tryz.func232,Tryz.ntmps232;go_simp
  repeat (first|go_values|go_skip|go_guarded|go_step|go_upon)
  generalize (w.setCell ⟨p,1,none⟩ (.int .i64 ((i:Int)+1))).alloc (.cells #[.int .i64 0,.int .i64 0,.string ⟨#[]⟩,.string ⟨#[]⟩,.int .i64 0,.slice none 0 0] 24)=W0 at HL0 HP0 HR0 HT0 HA0 HA1 HA2 |-;clear cb fb c0 f0 hbl;have hw0:w.heap.size<W0.heap.size:=HR0.out.lt;have hp0:p<W0.heap.size:=HP0.out.blk.lt;have HF:=h_ (show ∀ W,LeP p W0 W->(∀ j,W.cell? ⟨b0,j,none⟩=(#[.pointer (some ⟨p,0,none⟩)]:Array Value)[j]?)/\(∀ j,W.cell? ⟨b1,j,none⟩=(#[.int .i64 nt]:Array Value)[j]?)/\(∀ j,W.cell? ⟨b2,j,none⟩=(#[.int .i64 yk,.int .i64 yo,.string ys,.string yt,.int .i64 yn,.slice yla yln ylc]:Array Value)[j]?) from fun W hW=>⟨(hW.blk HA0.out h0p).cell,(hW.blk HA1.out h1p).cell,(hW.blk HA2.out h2p).cell⟩);obtain ⟨c0,f0⟩:=HA0.out.facts;have hb0l:=HA0.out.lt;go_simp
  repeat (first|go_values|go_skip|go_guarded|go_step|go_upon)
  refine wp_parZD 3 6 (readD W0.heap.size p g cap long T m s2) (by decide) (LeP.size) (leX) (leP p) (LeP.ofExt) [0,1,2,3,4,5,6,7] 7 7 (fun
   |0=>fun _ v _=>v= .int .i64 nt
   |1=>fun _ v _=>v= .agg #[.int .i64 yk,.int .i64 yo,.string ys,.string yt,.int .i64 yn,.slice yla yln ylc]
   |2=>fun _ v _=>v= .pointer (some ⟨p,0,none⟩)
   |3=>fun _ v w=>∃ lo hi,hi<=w.heap.size/\(readD W0.heap.size p g cap long T m s2) lo hi v w
   |4=>pairD W0.heap.size 1 ⟨yk,yo,ys,yt,yn,yla,yln,ylc⟩ m
   |5=>builtD 1 0 9 0 ⟨#[]⟩ ⟨#[]⟩ nt
   |6=>fun _=>allocD W0.heap.size
   |_=>fun _ _ _=>True) (fun
   |_=>undef) (by kernel_rfl) (by kernel_rfl) (by kernel_rfl) (by decide) (by decide) (fun _ _ _ lo hi h1 h2=>⟨lo,hi,h1,h2⟩) ?_ ?_ ?_
  ·simp (maxSteps:=20000000) only [permL,permOp,List.filterMap_cons,List.filterMap_nil,List.getElem?_cons_succ,List.getElem?_cons_zero,Option.map_some,Option.map_none,List.take_succ_cons,List.take_zero,ParAllD,Act.put,List.setIfInBounds_toArray,List.set_cons_succ,List.set_cons_zero];refine ⟨?_,?_,?_,?_,?_,?_,?_,trivial⟩
   iterate 3
    next =>
     intro vals W hx hd;rw [if_neg (by decide)] at hx;have hW:=HF.out W hx;simp [PDepsG,pdeps,Region.binds,List.idxOf_cons] at hd;refine ParObD.plain rfl ?_;go_simp
     first|exact IsLe.refl (leX) _|exact ⟨IsLe.refl (leX) _,fun _ _=>rfl⟩
   ·intro vals W hx hd;rw [if_pos (by decide)] at hx;simp [PDepsG,pdeps,Region.binds,List.idxOf_cons] at hd;refine ParObD.call rfl ?_;go_simp;refine Calls.mono (HRec.out 1 1 ⟨i+1,deep,at_,er⟩ m s2 W rfl (by decide) HR1.out (HP0.out.ext hx)) ?_;rintro e w9 ⟨y,rfl,hty,hpy,hly⟩;have hs:=hx.size;exact ⟨_,rfl,hly,fun w3 h3=>⟨hs,y,rfl,(hty.mono (B:=fun g=>W.heap.size<=g/\g<w9.heap.size) fun g h1 h2=>⟨h1,h2⟩).later (p:=p) (fun g h=>by omega) (LeP.ofExt h3),hpy.ext h3⟩⟩
   ·intro vals W hx hd;rw [if_neg (by decide)] at hx;have hW:=HF.out W hx;simp [PDepsG,pdeps,Region.binds,List.idxOf_cons] at hd;refine ParObD.plain rfl ?_;obtain ⟨h1,lo,hi,hhi,hlo,y,hvy,hty,hpy⟩:=hd;replace hvy:vals _= .agg _:=hvy;have hs:=hx.size;go_simp;refine ⟨(Ext.refl _).alloc _,fun w3 h3=>⟨W.heap.size,y,?_,rfl,?_,hs,?_⟩⟩
    ·simp [dv,ldeps,pdeps,Region.binds,List.idxOf_cons,hvy,PN.v]
    ·exact h3.blk (Blk.new W _ 24 rfl) (by omega)
    ·exact (hty.mono (B:=fun g=>W0.heap.size<=g/\g<W.heap.size) fun g h1 h2=>by omega).later (p:=p) (fun g h=>by omega) ((LeP.ofExt ((Ext.refl W).alloc _)).trans h3)
   ·intro vals W hx hd;rw [if_neg (by decide)] at hx;have hW:=HF.out W hx;simp [PDepsG,pdeps,Region.binds,List.idxOf_cons] at hd;refine ParObD.plain rfl ?_;obtain ⟨h0,gs,y,_,hv4,_⟩:=hd;go_simp;exact ⟨IsLe.refl leX _,fun w3 h3=>⟨.slice (some ⟨gs,0,none⟩) 2 2,by simp [dv,ldeps,pdeps,Region.binds,List.idxOf_cons,hv4],rfl,rfl⟩⟩
   ·intro vals W hx hd;rw [if_neg (by decide)] at hx;have hW:=HF.out W hx;simp [PDepsG,pdeps,Region.binds,List.idxOf_cons] at hd;refine ParObD.made rfl ?_;have hs:=hx.size;go_simp;exact ⟨⟨(Ext.refl _).alloc _,fun w3 h3=>⟨W.heap.size,rfl,hs,h3.blk (Blk.new W _ _ rfl) (by omega)⟩⟩,⟨W.heap.size,rfl,Nat.le_refl _,by simp⟩⟩
  ·simp (maxSteps:=20000000) only [permL,permOp,List.filterMap_cons,List.filterMap_nil,List.getElem?_cons_succ,List.getElem?_cons_zero,Option.map_some,Option.map_none,List.drop_succ_cons,List.drop_zero,List.take_succ_cons,List.take_zero,Nat.reduceSub,ZAll,ParEnd,Act.put,List.setIfInBounds_toArray,List.set_cons_succ,List.set_cons_zero]
  intro vals W hx hap hf hz;obtain ⟨lo,hi,gq,hRc,hhi,hvq,hgq,hap⟩:=hap;simp (maxSteps:=20000000) only [permL,permOp,List.filterMap_cons,List.filterMap_nil,List.getElem?_cons_succ,List.getElem?_cons_zero,Option.map_some,Option.map_none,ParFactsG,List.take_succ_cons,List.take_zero,and_true,Nat.reduceAdd] at hf;obtain ⟨f0,f1,f2,f3,f4,f5,f6⟩:=hf;clear hz;simp (maxSteps:=20000000) only [permL,permOp,List.filterMap_cons,List.filterMap_nil,List.getElem?_cons_succ,List.getElem?_cons_zero,Option.map_some,Option.map_none,List.drop_succ_cons,List.drop_zero,List.take_succ_cons,List.take_zero,Nat.reduceSub,ParEnd,ZTail,Act.put,List.setIfInBounds_toArray,List.set_cons_succ,List.set_cons_zero,Nat.reduceAdd,f0,f1,f2];clear f0 f1 f2;obtain ⟨gs,y,hds4,hv4,hB4,hge4,hT4⟩:=f4;simp [dv,ldeps,pdeps,Region.binds,List.idxOf_cons] at hds4;obtain ⟨u,hds5,hv5,_⟩:=f5;simp [dv,ldeps,pdeps,Region.binds,List.idxOf_cons] at hds5;obtain ⟨ga,hva,hgea,hBa⟩:=f6;obtain rfl:gq=ga:=by
   have:=hvq.symm.trans hva;simpa using this
  obtain ⟨hlo,y2,hv3,hT3,hP3⟩:=hRc;obtain rfl:y=y2:=PN.v_inj (hds4.symm.trans hv3);have hTy:=hT3.and hT4;have hne:gs≠gq:=by
   intro e;subst e;have:=hB4.symm.trans hBa;simp [PN.cells,cellsP] at this
  have hv5b:vals 5= .agg #[.int .i64 9,.int .i64 0,.string ⟨#[]⟩,.string ⟨#[]⟩,.int .i64 nt,.slice (some ⟨gs,0,none⟩) 2 2]:=by rw [hv5,<- hds5,hv4]
  have hqp:gq≠p:=by omega
  have hqg:g≠gq:=by have:=HP0.out.tok.1;omega
  have hwq:w.heap.size≠gq:=by omega
  refine ⟨?_⟩;refine yields_storeP (g:=gq) (cs:= #[.int .i64 9,.int .i64 0,.string ⟨#[]⟩,.string ⟨#[]⟩,.int .i64 nt,.slice (some ⟨gs,0,none⟩) 2 2]) rfl (by simp [Act.eval,hvq]) (by simp [Act.eval,hv5b]) hBa rfl rfl (by simp [Value.oneCell']) ?_;have HP5:=h_ (hP3.row (Ne.symm hqp) hqg #[.int .i64 9,.int .i64 0,.string ⟨#[]⟩,.string ⟨#[]⟩,.int .i64 nt,.slice (some ⟨gs,0,none⟩) 2 2]);have HV5:=h_ (show Blk _ gq #[.int .i64 9,.int .i64 0,.string ⟨#[]⟩,.string ⟨#[]⟩,.int .i64 nt,.slice (some ⟨gs,0,none⟩) 2 2] 24 from setRow_heap W gq _ #[.int .i64 9,.int .i64 0,.string ⟨#[]⟩,.string ⟨#[]⟩,.int .i64 nt,.slice (some ⟨gs,0,none⟩) 2 2] _ _ hBa);have HR5:=h_ (show Blk _ w.heap.size _ 24 from (setRow_other W gq w.heap.size #[.int .i64 9,.int .i64 0,.string ⟨#[]⟩,.string ⟨#[]⟩,.int .i64 nt,.slice (some ⟨gs,0,none⟩) 2 2] hwq).trans (hx.blk HR0.out hwp));have HL5:=h_ ((HL0.out.trans hx).row (show w.heap.size<=gq by omega) #[.int .i64 9,.int .i64 0,.string ⟨#[]⟩,.string ⟨#[]⟩,.int .i64 nt,.slice (some ⟨gs,0,none⟩) 2 2]);have HA5:=h_ (show Blk _ b0 _ 70 from (setRow_other W gq b0 #[.int .i64 9,.int .i64 0,.string ⟨#[]⟩,.string ⟨#[]⟩,.int .i64 nt,.slice (some ⟨gs,0,none⟩) 2 2] (by omega)).trans (hx.blk HA0.out h0p));have HB5:=h_ (show Blk (W.setRow gq #[.int .i64 9,.int .i64 0,.string ⟨#[]⟩,.string ⟨#[]⟩,.int .i64 nt,.slice (some ⟨gs,0,none⟩) 2 2]) gs _ 24 from (setRow_other W gq gs _ hne).trans hB4);have HTa:=h_ (((HT0.out.mono (B:=fun g=>g<w.heap.size/\g≠p/\X g) fun g h1 _=>⟨(HX.out g h1).1,(HX.out g h1).2,h1⟩).later (p:=p) (fun g h=>h.2.1) hx).row (b:=gq) (fun g h=>by omega) #[.int .i64 9,.int .i64 0,.string ⟨#[]⟩,.string ⟨#[]⟩,.int .i64 nt,.slice (some ⟨gs,0,none⟩) 2 2]);have HTy:=h_ ((hTy.mono (B:=fun g=>g≠gq/\g≠gs/\W0.heap.size<=g) fun g h1 _=>by
   obtain ⟨⟨a1,a2⟩,a3,a4⟩:=h1;omega).row (b:=gq) (fun g h=>h.1) #[.int .i64 9,.int .i64 0,.string ⟨#[]⟩,.string ⟨#[]⟩,.int .i64 nt,.slice (some ⟨gs,0,none⟩) 2 2])
  generalize W.setRow gq #[.int .i64 9,.int .i64 0,.string ⟨#[]⟩,.string ⟨#[]⟩,.int .i64 nt,.slice (some ⟨gs,0,none⟩) 2 2]=W5 at HP5 HV5 HR5 HL5 HA5 HB5 HTa HTy |-;have HK5:=h_ (show KidsO (fun g=>(X g ∨ w.heap.size<g)/\g≠gq) (w.heap.size+1) W5 (.slice (some ⟨gs,0,none⟩) 2 2) [⟨yk,yo,ys,yt,yn,yla,yln,ylc⟩,y] [ta,m] from ⟨rfl,own_blk [⟨yk,yo,ys,yt,yn,yla,yln,ylc⟩,y] (by omega) HB5.out (by simp),fun i x z h1 h2=>by
   have hi:i=0 ∨ i=1:=by have:=(List.getElem?_eq_some_iff.1 h1).1;simp at this;omega
   rcases hi with rfl|rfl
   ·obtain rfl:=Option.some.inj h1;obtain rfl:=Option.some.inj h2;exact HTa.out.mono fun g h _=>⟨⟨.inl h.2.2,by have:=h.1;omega⟩,fun e=>by have:=h.1;have:gs=g:=Option.some.inj e;omega⟩
   ·obtain rfl:=Option.some.inj h1;obtain rfl:=Option.some.inj h2;exact HTy.out.mono fun g h _=>⟨⟨.inr (by have:=h.2.2;omega),h.1⟩,fun e=>h.2.1 (show gs=g from Option.some.inj e).symm⟩⟩)
  clear hx hT3 hT4 hTy hP3 hB4 hBa HF HP0 HR0 HT0 HL0 HA0 HA1 HA2 hv4 hv5 hv5b hds4 hds5 hva hhi hgq hap hlo f0 c0 hb0l f3;generalize vals 3=v3;generalize vals 4=v4;generalize vals 5=v5;rw [hvq];clear hvq;obtain ⟨c0,f0⟩:=HA5.out.facts;have hb0l:=HA5.out.lt;go_simp
  repeat (first|go_values|go_skip|go_guarded|go_step|go_upon)
  have hgl5:g<w.heap.size:=hgl;clear HTa HTy HB5;go_loopg [] f (fun kk wr=>∃ (L:List PN) (ts:List Tr) (sa:PSt) (v:Value),Blk wr gq #[.int .i64 9,.int .i64 0,.string ⟨#[]⟩,.string ⟨#[]⟩,.int .i64 nt,v] 24/\KidsO (fun g=>(X g ∨ w.heap.size<g)/\g≠gq) (w.heap.size+1) wr v L ts/\v.ownBlock≠some gq/\PsAt wr p g cap long T sa/\LeP p w wr/\Blk wr b0 #[.pointer (some ⟨p,0,none⟩)] 70/\Blk wr w.heap.size z6 24/\0<L.length/\L.length+kk=f+2/\inlLoop rec T kk ts sa=some lq)
  case atStart=>exact ⟨_,_,_,_,HV5.out,HK5.out,by simpa [Value.ownBlock] using hne,HP5.out,HL5.out,HA5.out,HR5.out,by simp,by simp;omega,HLo.out⟩
  case round =>
   obtain ⟨L,ts,sa,v,hv,hk,hvq,hp,hl,ha,hr,h0l,hcnt,hst⟩:=hrel;obtain ⟨f2,hf2⟩:∃ f2,gk=f2+1:=by
    cases gk with
    |zero=>cases hst
    |succ f2=>exact ⟨f2,rfl⟩
   rw [hf2,inlLoop] at hst;have HF2:=h_ hf2;have HCn:=h_ hcnt;have HVa:=h_ hv;have HKa:=h_ hk;have HVq:=h_ hvq;have HPa:=h_ hp;have HLa:=h_ hl;have HAa:=h_ ha;have HRa:=h_ hr;have HSa:=h_ hst;have hlen:L.length<=99001:=by omega
   clear hv hk hvq hp hl ha hr hst hcnt hf2 HV5 HK5 HP5 HL5 HA5 HR5 HLo c0 f0 hb0l;obtain ⟨gv,cv0,rfl,hgv,hcv,hPv⟩:=pnAt_own HKa.out.own h0l;obtain ⟨c0,f0⟩:=HAa.out.facts;have hb0l:=HAa.out.lt;go_simp
   repeat (first|go_values|go_skip|go_guarded|go_step|go_upon)
   refine Calls.mono (KO.out sa ⟨#[44]⟩ _ HPa.out) ?_;rw [show bsl ⟨#[44]⟩=[44] from rfl];have hst:=HSa.out;clear HSa c0 f0 hb0l;cases hcm:isB T sa 5 [44]
   ·rw [hcm,if_neg (by decide)] at hst;have hlo3:=Option.some.inj hst;rintro e W6 ⟨rfl,hp6,hl6⟩;have HP6:=h_ (show PsAt W6 p g cap long T sa from hp6);have HV6:=h_ (hl6.blk HVa.out hqp);have HR6:=h_ (hl6.blk HRa.out hwp);have HL6:=h_ (HLa.out.trans hl6);have HA6:=h_ (hl6.blk HAa.out h0p);have HK6:=h_ (HKa.out.later hl6 (by omega) (fun g h=>by
     rcases h.1 with h|h
     ·exact (HX.out g h).2
     ·omega))
    clear hp6 hl6 HPa HVa HRa HLa HAa HKa KO hPv;obtain ⟨c0,f0⟩:=HA6.out.facts;have hb0l:=HA6.out.lt;go_simp
    repeat (first|go_values|go_skip|go_guarded|go_step|go_upon)
    refine Calls.mono (KW.out sa ⟨#[41]⟩ W6 HP6.out) ?_;rw [show bsl ⟨#[41]⟩=[41] from rfl];rintro e W7 ⟨rfl,hp7,hl7⟩;have HP7:=h_ hp7;have HV7:=h_ (hl7.blk HV6.out hqp);have HR7:=h_ (hl7.blk HR6.out hwp);have HL7:=h_ (HL6.out.trans hl7);have HK7:=h_ (HK6.out.later hl7 (by omega) (fun g h=>by
     rcases h.1 with h|h
     ·exact (HX.out g h).2
     ·omega))
    clear hp7 hl7 HP6 HV6 HR6 HL6 HA6 HK6 c0 f0 hb0l KW;obtain ⟨cv,fv⟩:=HV7.out.facts;have hvl:=HV7.out.lt;obtain ⟨cr,fr⟩:=HR7.out.facts;have hrl:=HR7.out.lt;obtain ⟨g2,c2,he2,hT⟩:=HK7.out.node (C:=fun g=>(X g ∨ w.heap.size<g)) h0l (fun g h=>h.1) (fun g h _=> .inr (by omega)) 9 0 nt;have hTF:=h_ hT;obtain ⟨rfl,rfl⟩:g2=gv/\c2=cv0:=by
     simp at he2;exact ⟨he2.1.symm,he2.2.symm⟩
    clear hT he2;have HFq:=HFf.out;subst hlo3;obtain ⟨rfl,rfl⟩:=Prod.mk.inj HFq;generalize L.length=M at hTF cv |-;go_simp
    repeat (first|go_values|go_skip|go_guarded|go_step|go_upon)
    refine bodyPost_ret (ret_ndP rfl _ rfl rfl (blk6P HR7.out _ _ _ _ _ _)) rfl ?_;refine ⟨⟨9,0,⟨#[]⟩,⟨#[]⟩,nt,some ⟨g2,0,none⟩,M,c2⟩,rfl,?_,HP7.out.other6 hpw hgw _ _ _ _ _ _,HL7.out.other6 (Nat.le_refl _) _ _ _ _ _ _⟩;exact (hTF.out.set6 (b:=w.heap.size) (fun g h=>by rcases h with h|h;exact Nat.ne_of_lt (HX.out g h).1;omega) _ _ _ _ _ _).mono fun g h _=>by
     rcases h with h|h
     ·exact .inl h
     ·exact .inr (Nat.le_of_lt h)
   ·rw [hcm,if_pos rfl] at hst;obtain ⟨m2,hm2,hst2⟩:=Option.bind_eq_some_iff.1 hst;obtain ⟨m2,s3⟩:=m2;have HSt:=h_ hst2;rintro e W6 ⟨rfl,hp6,hl6⟩;have hwl6:w.heap.size<W6.heap.size:=by have:=HLa.out.size;have:=hl6.size;have:=HRa.out.lt;omega
    have KM:=h_ (fun W (hW:Ext W6 W)=>HRec.out 1 1 (advP true sa) m2 s3 W rfl (by decide) hm2 (hp6.ext hW));have HV6:=h_ (hl6.blk HVa.out hqp);have HR6:=h_ (hl6.blk HRa.out hwp);have HL6:=h_ (HLa.out.trans hl6);have HA6:=h_ (hl6.blk HAa.out h0p);have HK6:=h_ (HKa.out.later hl6 (by omega) (fun g h=>by
     rcases h.1 with h|h
     ·exact (HX.out g h).2
     ·omega))
    have hq6:=HV6.out.lt;have hgv6:gv<W6.heap.size:=by have:=(HK6.out.own.lt gv rfl).2;exact this
    have hgvq:gv≠gq:=fun e=>HVq.out (by rw [e];rfl);clear hp6 hl6 hst hst2 hm2 HPa HVa HRa HLa HAa HKa hPv;have HF:=h_ (show ∀ W,LeP p W6 W->(∀ j,W.cell? ⟨gq,j,none⟩=(#[.int .i64 9,.int .i64 0,.string ⟨#[]⟩,.string ⟨#[]⟩,.int .i64 nt,.slice (some ⟨gv,0,none⟩) L.length cv0]:Array Value)[j]?)/\(∀ j,W.cell? ⟨b0,j,none⟩=(#[.pointer (some ⟨p,0,none⟩)]:Array Value)[j]?) from fun W hW=>⟨(hW.blk HV6.out hqp).cell,(hW.blk HA6.out h0p).cell⟩);go_simp
    repeat (first|go_values|go_skip|go_guarded|go_step|go_upon)
    refine wp_parZC 3 (leX) (leP p) (LeP.ofExt) [0,1,2,3,4,5,6,7] 5 5 (fun
     |0=>fun _ v _=>v= .pointer (some ⟨gq,5,none⟩)
     |1=>fun _ v _=>v= .slice (some ⟨gv,0,none⟩) L.length cv0
     |2=>fun _ v _=>v= .pointer (some ⟨p,0,none⟩)
     |3=>fun _=>readV W6.heap.size p g cap long T m2 s3
     |4=>fun _=>oneR W6.heap.size m2
     |_=>fun _ _ _=>True) (fun
     |_=>undef) (by kernel_rfl) (by kernel_rfl) (by kernel_rfl) (by decide) ?_ ?_ ?_
    ·simp (maxSteps:=20000000) only [permL,permOp,List.filterMap_cons,List.filterMap_nil,List.getElem?_cons_succ,List.getElem?_cons_zero,Option.map_some,Option.map_none,List.take_succ_cons,List.take_zero,ParAllC,Act.put,List.setIfInBounds_toArray,List.set_cons_succ,List.set_cons_zero];refine ⟨?_,?_,?_,?_,?_,trivial⟩
     iterate 3
      next =>
       intro vals W hx hd;rw [if_neg (by decide)] at hx;have hW:=HF.out W hx;simp [PDepsG,pdeps,Region.binds,List.idxOf_cons] at hd;refine ParObC.plain rfl ?_;go_simp
       first|exact IsLe.refl (leX) _|exact ⟨IsLe.refl (leX) _,fun _ _=>rfl⟩
     ·intro vals W hx hd;rw [if_pos (by decide)] at hx;simp [PDepsG,pdeps,Region.binds,List.idxOf_cons] at hd;refine ParObC.call rfl ?_;go_simp;refine Calls.mono (KM.out W hx) ?_;rintro e w9 ⟨y,rfl,hty,hpy,hly⟩;have hs:=hx.size;exact ⟨_,rfl,hly,fun w3 h3=>⟨y,rfl,(((hty.mono (B:=fun g=>W6.heap.size<=g/\g≠p) fun g h1 h2=>by omega).later (p:=p) (fun g h=>h.2) (LeP.ofExt h3)).mono fun g h _=>h.1),hpy.ext h3⟩⟩
     ·intro vals W hx hd;rw [if_neg (by decide)] at hx;have hW:=HF.out W hx;simp [PDepsG,pdeps,Region.binds,List.idxOf_cons] at hd;refine ParObC.plain rfl ?_;obtain ⟨y,hvy,hty,hpy⟩:=hd;replace hvy:vals _= .agg _:=hvy;go_simp;have hs:=hx.size;refine ⟨(Ext.refl _).alloc _,fun w3 h3=>⟨W.heap.size,y,rfl,by omega,?_,?_⟩⟩
      ·exact h3.blk (Blk.new W _ 24 rfl) (by omega)
      ·exact hty.later (p:=p) (fun g h=>by omega) ((LeP.ofExt ((Ext.refl W).alloc _)).trans h3)
    ·simp (maxSteps:=20000000) only [permL,permOp,List.filterMap_cons,List.filterMap_nil,List.getElem?_cons_succ,List.getElem?_cons_zero,Option.map_some,Option.map_none,List.drop_succ_cons,List.drop_zero,List.take_succ_cons,List.take_zero,Nat.reduceSub,ZAll,ParEnd,Act.put,List.setIfInBounds_toArray,List.set_cons_succ,List.set_cons_zero]
    intro vals W hx hf hz;simp (maxSteps:=20000000) only [permL,permOp,List.filterMap_cons,List.filterMap_nil,List.getElem?_cons_succ,List.getElem?_cons_zero,Option.map_some,Option.map_none,ParFactsG,List.take_succ_cons,List.take_zero,and_true,Nat.reduceAdd] at hf;obtain ⟨f0,f1,f2,f3,f4⟩:=hf;clear hz;simp (maxSteps:=20000000) only [permL,permOp,List.filterMap_cons,List.filterMap_nil,List.getElem?_cons_succ,List.getElem?_cons_zero,Option.map_some,Option.map_none,List.drop_succ_cons,List.drop_zero,List.take_succ_cons,List.take_zero,Nat.reduceSub,ParEnd,ZTail,Act.put,List.setIfInBounds_toArray,List.set_cons_succ,List.set_cons_zero,Nat.reduceAdd,f0,f1,f2];clear f0 f1 f2;obtain ⟨g1,y1,hv4,hge1,hB1,hT1⟩:=f4;obtain ⟨_,_,_,hPb⟩:=f3;have HP7:=h_ hPb;have HV7:=h_ (hx.blk HV6.out hqp);have HR7:=h_ (hx.blk HR6.out hwp);have HL7:=h_ (HL6.out.trans hx);have HA7:=h_ (hx.blk HA6.out h0p);have HK7:=h_ (HK6.out.later hx (by omega) (fun g h=>by
     rcases h.1 with h|h
     ·exact (HX.out g h).2
     ·omega))
    have hs7:=hx.size;refine ⟨?_⟩;refine yields_pushN rfl (w.heap.size+1) (.slice (some ⟨gv,0,none⟩) L.length cv0) L (by simp [Act.eval]) HK7.out.own g1 1 [y1] (by simp [Act.eval,hv4]) (fun j u hj=>by rw [hB1.cell];simpa [cellsP] using hj) (by simp;omega) (by have:=HV7.out.lt;omega) ?_;intro v5 w5 hown hgr hat;have hgr2:World.grownBy W w5 (some gv):=hgr;have hgvp:gv≠p:=by omega
    have HK8:=h_ (HK7.out.push y1 m2 (hT1.mono fun g h _=>⟨⟨.inr (by omega),by omega⟩,fun e=>by have:gv=g:=Option.some.inj e;omega⟩) hown hgr hat);have HV8:=h_ (show Blk w5 gq _ _ from (hgr2.block gq HV7.out.lt (fun e=>hgvq (Option.some.inj e).symm)).trans HV7.out);have HR8:=h_ (show Blk w5 w.heap.size _ _ from (hgr2.block _ HR7.out.lt (fun e=>by have:=Option.some.inj e;omega)).trans HR7.out);have HA8:=h_ (show Blk w5 b0 _ _ from (hgr2.block _ HA7.out.lt (fun e=>by have:=Option.some.inj e;omega)).trans HA7.out);have HL8:=h_ (leP_grown HL7.out hgr (fun k hk=>by have:gv=k:=Option.some.inj hk;omega));have HP8:=h_ (show PsAt w5 p g cap long T s3 from ⟨(hgr2.block p HP7.out.blk.lt (fun e=>hgvp (Option.some.inj e).symm)).trans HP7.out.blk,HP7.out.tok.ext (hgr2.block g HP7.out.tok.1 (fun e=>by have:=Option.some.inj e;omega)) hgr2.size,HP7.out.ne,HP7.out.le,HP7.out.cap,HP7.out.few⟩);have hvq5:v5.ownBlock≠some gq:=by
     have h1:=HV7.out.lt;rcases hat with h2|h2
     ·rw [h2];exact HVq.out
     ·rw [h2];intro e;have:=Option.some.inj e;omega
    obtain ⟨gz,cz,rfl,hgz,hcz,hPz⟩:=pnAt_own HK8.out.own (by simp);clear hown hgr hgr2 hat HP7 HV7 HR7 HL7 HA7 HK7 hT1 hB1 hPb HF KM hx hPz HV6 HR6 HL6 HA6 HK6;generalize vals 3=v3;generalize vals 4=v4;have hlz:(L++[y1]).length=L.length+1:=by simp
    obtain ⟨cv,fv⟩:=HV8.out.facts;have hvl:=HV8.out.lt;have HV9:=h_ (show Blk (w5.setCell ⟨gq,5,none⟩ (.slice (some ⟨gz,0,none⟩) (L++[y1]).length cz)) gq #[.int .i64 9,.int .i64 0,.string ⟨#[]⟩,.string ⟨#[]⟩,.int .i64 nt,.slice (some ⟨gz,0,none⟩) (L++[y1]).length cz] 24 from HV8.out.set 5 _);have HK9:=h_ (HK8.out.cell (b:=gq) hvq5 (fun g h=>h.2) 5 (.slice (some ⟨gz,0,none⟩) (L++[y1]).length cz));have HP9:=h_ (HP8.out.other (x:=gq) (Ne.symm hqp) hqg 5 (.slice (some ⟨gz,0,none⟩) (L++[y1]).length cz));have HR9:=h_ (HR8.out.other (a:=⟨gq,5,none⟩) (by show w.heap.size≠gq;omega) (.slice (some ⟨gz,0,none⟩) (L++[y1]).length cz));have HA9:=h_ (HA8.out.other (a:=⟨gq,5,none⟩) (by show b0≠gq;omega) (.slice (some ⟨gz,0,none⟩) (L++[y1]).length cz));have HL9:=h_ (HL8.out.other (g:=gq) (by omega) 5 (.slice (some ⟨gz,0,none⟩) (L++[y1]).length cz));clear HV8 HK8 HP8 HR8 HA8 HL8;have HCn2:(L++[y1]).length+f2=f+2:=by have:=HCn.out;have:=HF2.out;rw [hlz];omega
    have h0l2:0<(L++[y1]).length:=by rw [hlz];omega
    clear hlz hcz;generalize (L++[y1]).length=M at HV9 HK9 HP9 HR9 HA9 HL9 HCn2 h0l2 |-;go_simp
    repeat (first|go_values|go_skip|go_guarded|go_step|go_upon)
    go_roundg f2
    case measure=>have:=HF2.out;omega
    case rel=>exact ⟨L++[y1],_,s3,_,HV9.out,HK9.out,hvq5,HP9.out,HL9.out,HA9.out,HR9.out,by simp,by have:=HCn.out;have:=HF2.out;simp;omega,HSt.out⟩
 ·rw [if_neg hlt] at hf;cases hf
theorem in2_any (X:Nat->Prop) (ya:PN) (ta:Tr) (nt:Int) (p g cap long:Nat) (T:List Lx.Tok) (rec:Nat->PSt->Option (Tr × PSt)) (hrec:LevOk p g cap long T rec) (f:Nat) (hfu:f<=99000) (s:PSt) (r:Tr) (s':PSt) (w:World) (hf:inlF rec T long f ta nt s=some (r,s')) (h:PsAt w p g cap long T s)
 (hX:∀ g,X g->g<w.heap.size/\g≠p) (hT:TrAt X w ya ta) :
 Calls Tryz.prog 183 #[.pointer (some ⟨p,0,none⟩),ya.v,.int .i64 nt] w (LevPostX X p g cap long T r s' w):=by
 have hpl:p<w.heap.size:=h.blk.lt;have hgl:g<w.heap.size:=h.tok.1;have hpw:p≠w.heap.size+1+1+1:=by omega
 have hgw:g≠w.heap.size+1+1+1:=by omega
 have hwp:w.heap.size+1+1+1≠p:=Ne.symm hpw;have hAp:w.heap.size≠p:=by omega
 have hBp:w.heap.size+1≠p:=by omega
 have hCp:w.heap.size+1+1≠p:=by omega
 obtain ⟨yk,yo,ys,yt,yn,yla,yln,ylc⟩:=ya;simp only [PN.v];have hx0:Ext w ((((w.alloc (.cells #[.pointer (some ⟨p,0,none⟩)] 70)).alloc (.cells #[.int .i64 yk,.int .i64 yo,.string ys,.string yt,.int .i64 yn,.slice yla yln ylc] 24)).alloc (.cells #[.int .i64 nt] 2)).alloc (.cells #[.int .i64 0,.int .i64 0,.string ⟨#[]⟩,.string ⟨#[]⟩,.int .i64 0,.slice none 0 0] 24)):=((((Ext.refl w).alloc _).alloc _).alloc _).alloc _;have HL0:=h_ (LeP.ofExt (p:=p) hx0);have HP0:=h_ (h.ext hx0);have HA0:=h_ (show Blk ((((w.alloc (.cells #[.pointer (some ⟨p,0,none⟩)] 70)).alloc (.cells #[.int .i64 yk,.int .i64 yo,.string ys,.string yt,.int .i64 yn,.slice yla yln ylc] 24)).alloc (.cells #[.int .i64 nt] 2)).alloc (.cells #[.int .i64 0,.int .i64 0,.string ⟨#[]⟩,.string ⟨#[]⟩,.int .i64 0,.slice none 0 0] 24)) w.heap.size #[.pointer (some ⟨p,0,none⟩)] 70 from (((Blk.new w _ _ rfl).alloc _).alloc _).alloc _);have HB0:=h_ (show Blk ((((w.alloc (.cells #[.pointer (some ⟨p,0,none⟩)] 70)).alloc (.cells #[.int .i64 yk,.int .i64 yo,.string ys,.string yt,.int .i64 yn,.slice yla yln ylc] 24)).alloc (.cells #[.int .i64 nt] 2)).alloc (.cells #[.int .i64 0,.int .i64 0,.string ⟨#[]⟩,.string ⟨#[]⟩,.int .i64 0,.slice none 0 0] 24)) (w.heap.size+1) #[.int .i64 yk,.int .i64 yo,.string ys,.string yt,.int .i64 yn,.slice yla yln ylc] 24 from ((Blk.new (w.alloc (.cells #[.pointer (some ⟨p,0,none⟩)] 70)) _ _ (by simp)).alloc _).alloc _);have HC0:=h_ (show Blk ((((w.alloc (.cells #[.pointer (some ⟨p,0,none⟩)] 70)).alloc (.cells #[.int .i64 yk,.int .i64 yo,.string ys,.string yt,.int .i64 yn,.slice yla yln ylc] 24)).alloc (.cells #[.int .i64 nt] 2)).alloc (.cells #[.int .i64 0,.int .i64 0,.string ⟨#[]⟩,.string ⟨#[]⟩,.int .i64 0,.slice none 0 0] 24)) (w.heap.size+1+1) #[.int .i64 nt] 2 from (Blk.new ((w.alloc (.cells #[.pointer (some ⟨p,0,none⟩)] 70)).alloc (.cells #[.int .i64 yk,.int .i64 yo,.string ys,.string yt,.int .i64 yn,.slice yla yln ylc] 24)) _ _ (by simp)).alloc _);have HR0:=h_ (show Blk ((((w.alloc (.cells #[.pointer (some ⟨p,0,none⟩)] 70)).alloc (.cells #[.int .i64 yk,.int .i64 yo,.string ys,.string yt,.int .i64 yn,.slice yla yln ylc] 24)).alloc (.cells #[.int .i64 nt] 2)).alloc (.cells #[.int .i64 0,.int .i64 0,.string ⟨#[]⟩,.string ⟨#[]⟩,.int .i64 0,.slice none 0 0] 24)) (w.heap.size+1+1+1) #[.int .i64 0,.int .i64 0,.string ⟨#[]⟩,.string ⟨#[]⟩,.int .i64 0,.slice none 0 0] 24 from Blk.new (((w.alloc (.cells #[.pointer (some ⟨p,0,none⟩)] 70)).alloc (.cells #[.int .i64 yk,.int .i64 yo,.string ys,.string yt,.int .i64 yn,.slice yla yln ylc] 24)).alloc (.cells #[.int .i64 nt] 2)) _ _ (by simp));have HT0:=h_ (hT.later (fun g h=>(hX g h).2) HL0.out);have HX:=h_ hX;have HRec:=h_ hrec;have HFu:=h_ hfu;have HFf:=h_ hf;have KI:=h_ (fun W (hW:PsAt W p g cap long T s)=>is_any p g cap long T s 5 ⟨#[40]⟩ W hW);have KG:=h_ (fun W (hW:PsAt W p g cap long T s)=>wrong_any p g cap long T s 10 W hW);clear h hX hT hrec hf hx0 hfu;obtain ⟨ca,fa⟩:=HA0.out.facts;have hal:=HA0.out.lt;go_enter Tryz.func183,Tryz.ntmps183;go_simp
 repeat (first|go_values|go_skip|go_guarded|go_step|go_upon)
 generalize ((((w.alloc (.cells #[.pointer (some ⟨p,0,none⟩)] 70)).alloc (.cells #[.int .i64 yk,.int .i64 yo,.string ys,.string yt,.int .i64 yn,.slice yla yln ylc] 24)).alloc (.cells #[.int .i64 nt] 2)).alloc (.cells #[.int .i64 0,.int .i64 0,.string ⟨#[]⟩,.string ⟨#[]⟩,.int .i64 0,.slice none 0 0] 24))=W0 at HL0 HP0 HA0 HB0 HC0 HR0 HT0 ca fa hal |-;refine Calls.mono (KI.out W0 HP0.out) ?_;rw [show bsl ⟨#[40]⟩=[40] from rfl];have hf:=HFf.out;clear HFf;unfold inlF at hf;cases hpar:isB T s 5 [40]
 ·rw [hpar,if_neg (by decide)] at hf;rintro e W5 ⟨rfl,hl⟩;have HP5:=h_ (HP0.out.ext hl);have hl:=LeP.ofExt (p:=p) hl;have HA5:=h_ (hl.blk HA0.out hAp);have HB5:=h_ (hl.blk HB0.out hBp);have HC5:=h_ (hl.blk HC0.out hCp);have HR5:=h_ (hl.blk HR0.out hwp);have HL5:=h_ (HL0.out.trans hl);have HT5:=h_ (HT0.out.later (fun g h=>(HX.out g h).2) hl);clear hl HP0 HA0 HB0 HC0 HR0 HL0 HT0 ca fa hal;obtain ⟨ca,fa⟩:=HA5.out.facts;have hal:=HA5.out.lt;go_simp
  repeat (first|go_values|go_skip|go_guarded|go_step|go_upon)
  refine Calls.mono (KG.out W5 HP5.out) ?_;rintro e W6 ⟨rfl,hp6,hl⟩;generalize wrongP T long 10 s=s1 at hp6 hf;have HFf:=h_ hf;have HP6:=h_ hp6;have HA6:=h_ (hl.blk HA5.out hAp);have HB6:=h_ (hl.blk HB5.out hBp);have HC6:=h_ (hl.blk HC5.out hCp);have HR6:=h_ (hl.blk HR5.out hwp);have HL6:=h_ (HL5.out.trans hl);have HT6:=h_ (HT5.out.later (fun g h=>(HX.out g h).2) hl);have hw6:w.heap.size+1+1+1<W6.heap.size:=HR6.out.lt;clear hl hp6 hf HP5 HA5 HB5 HC5 HR5 HL5 HT5 ca fa hal;have KL:=h_ (within_three X 232 (.pointer (some ⟨w.heap.size,0,none⟩)) (.pointer (some ⟨w.heap.size+1+1,0,none⟩)) (.pointer (some ⟨w.heap.size+1,0,none⟩)) (fun _ _=>by kernel_rfl) p g cap long T (inlBody rec T long f ta nt) s1 r s' W6 (fun g h=>⟨by have:=(HX.out g h).1;omega,(HX.out g h).2⟩) HFf.out HP6.out (fun s1 r1 s2 W hs hl hp=>inclo2_any X w.heap.size (w.heap.size+1+1) (w.heap.size+1) ⟨yk,yo,ys,yt,yn,yla,yln,ylc⟩ ta nt p g cap long T rec HRec.out f HFu.out s1 r1 s2 W hs hp (fun g h=>⟨by have:=(HX.out g h).1;have:=hl.size;omega,(HX.out g h).2⟩) (HT6.out.later (fun g h=>(HX.out g h).2) hl) (hl.blk HA6.out hAp) (hl.blk HC6.out hCp) (hl.blk HB6.out hBp) hAp hCp hBp));obtain ⟨ca,fa⟩:=HA6.out.facts;have hal:=HA6.out.lt;go_simp
  repeat (first|go_values|go_skip|go_guarded|go_step|go_upon)
  refine Calls.mono KL.out ?_;rintro e W7 ⟨x,rfl,ht,hp7,hl7⟩;have HR7:=h_ (hl7.blk HR6.out hwp);have HL7:=h_ (HL6.out.trans hl7);have HT7:=h_ (ht.mono (B:=fun g=>g≠w.heap.size+1+1+1/\(X g ∨ w.heap.size<=g)) fun g h1 h2=>by
   rcases h1 with h1|h1
   ·exact ⟨by have:=(HX.out g h1).1;omega,.inl h1⟩
   ·exact ⟨by omega,.inr (by omega)⟩)
  have HP7:=h_ hp7;clear ht hp7 hl7 HP6 HR6 HL6 HA6 HB6 HC6 HT6 ca fa hal KL;obtain ⟨xk,xo,xs,xt,xn,xla,xln,xlc⟩:=x;simp only [PN.v];obtain ⟨cr,fr⟩:=HR7.out.facts;have hrl:=HR7.out.lt;go_simp
  repeat (first|go_values|go_skip|go_guarded|go_step|go_upon)
  refine bodyPost_ret (ret_ndP rfl _ rfl rfl (blk6P HR7.out _ _ _ _ _ _)) rfl ?_;refine ⟨⟨xk,xo,xs,xt,xn,xla,xln,xlc⟩,rfl,?_,HP7.out.other6 hpw hgw _ _ _ _ _ _,HL7.out.other6 (by omega) _ _ _ _ _ _⟩;exact (HT7.out.set6 (b:=w.heap.size+1+1+1) (fun g h=>h.1) _ _ _ _ _ _).mono fun g h _=>h.2
 ·rw [hpar,if_pos rfl] at hf;rintro e W6 ⟨rfl,hl⟩;have HFf:=h_ hf;have HP6:=h_ (HP0.out.ext hl);have hl:=LeP.ofExt (p:=p) hl;have HA6:=h_ (hl.blk HA0.out hAp);have HB6:=h_ (hl.blk HB0.out hBp);have HC6:=h_ (hl.blk HC0.out hCp);have HR6:=h_ (hl.blk HR0.out hwp);have HL6:=h_ (HL0.out.trans hl);have HT6:=h_ (HT0.out.later (fun g h=>(HX.out g h).2) hl);have hw6:w.heap.size+1+1+1<W6.heap.size:=HR6.out.lt;clear hl hf HP0 HA0 HB0 HC0 HR0 HL0 HT0 ca fa hal;obtain ⟨s1,hs1⟩:∃ s1,s1=s:=⟨_,rfl⟩
  rw [<- hs1] at HP6 HFf;clear hs1;have KL:=h_ (within_three X 232 (.pointer (some ⟨w.heap.size,0,none⟩)) (.pointer (some ⟨w.heap.size+1+1,0,none⟩)) (.pointer (some ⟨w.heap.size+1,0,none⟩)) (fun _ _=>by kernel_rfl) p g cap long T (inlBody rec T long f ta nt) s1 r s' W6 (fun g h=>⟨by have:=(HX.out g h).1;omega,(HX.out g h).2⟩) HFf.out HP6.out (fun s1 r1 s2 W hs hl hp=>inclo2_any X w.heap.size (w.heap.size+1+1) (w.heap.size+1) ⟨yk,yo,ys,yt,yn,yla,yln,ylc⟩ ta nt p g cap long T rec HRec.out f HFu.out s1 r1 s2 W hs hp (fun g h=>⟨by have:=(HX.out g h).1;have:=hl.size;omega,(HX.out g h).2⟩) (HT6.out.later (fun g h=>(HX.out g h).2) hl) (hl.blk HA6.out hAp) (hl.blk HC6.out hCp) (hl.blk HB6.out hBp) hAp hCp hBp));obtain ⟨ca,fa⟩:=HA6.out.facts;have hal:=HA6.out.lt;go_simp
  repeat (first|go_values|go_skip|go_guarded|go_step|go_upon)
  refine Calls.mono KL.out ?_;rintro e W7 ⟨x,rfl,ht,hp7,hl7⟩;have HR7:=h_ (hl7.blk HR6.out hwp);have HL7:=h_ (HL6.out.trans hl7);have HT7:=h_ (ht.mono (B:=fun g=>g≠w.heap.size+1+1+1/\(X g ∨ w.heap.size<=g)) fun g h1 h2=>by
   rcases h1 with h1|h1
   ·exact ⟨by have:=(HX.out g h1).1;omega,.inl h1⟩
   ·exact ⟨by omega,.inr (by omega)⟩)
  have HP7:=h_ hp7;clear ht hp7 hl7 HP6 HR6 HL6 HA6 HB6 HC6 HT6 ca fa hal KL;obtain ⟨xk,xo,xs,xt,xn,xla,xln,xlc⟩:=x;simp only [PN.v];obtain ⟨cr,fr⟩:=HR7.out.facts;have hrl:=HR7.out.lt;go_simp
  repeat (first|go_values|go_skip|go_guarded|go_step|go_upon)
  refine bodyPost_ret (ret_ndP rfl _ rfl rfl (blk6P HR7.out _ _ _ _ _ _)) rfl ?_;refine ⟨⟨xk,xo,xs,xt,xn,xla,xln,xlc⟩,rfl,?_,HP7.out.other6 hpw hgw _ _ _ _ _ _,HL7.out.other6 (by omega) _ _ _ _ _ _⟩;exact (HT7.out.set6 (b:=w.heap.size+1+1+1) (fun g h=>h.1) _ _ _ _ _ _).mono fun g h _=>h.2
end Go.Proofs.YtimeipjcmffadaaGreatDoor
