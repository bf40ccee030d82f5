import Derived.Test.YtimeipjcmffadaaGreatDoorPsrX
set_option maxHeartbeats 16000000
namespace Go.Proofs.YtimeipjcmffadaaGreatDoor
open Go.RowKit Go.Lib
set_option maxRecDepth 100000
def rsC (g cap n long:Nat) (s:PSt):Array Value:= #[.slice (psA g n) n cap,.int .i64 s.i,.int .i64 s.e,.int .i64 s.at_,.int .i64 s.deep,.int .i64 long]
structure RsAt (w:World) (p g cap long:Nat) (T:List Lx.Tok) (s:PSt):Prop where
 blk:Blk w p (rsC g cap T.length long s) 104
 tok:TokAt w g T
 ne:g≠p
 le:s.i<=T.length
 cap:T.length<=cap
 few:T.length<=4000
 dp:s.deep<=24
theorem RsAt.ext {w w':World} {p g cap long:Nat} {T:List Lx.Tok} {s:PSt} (h:RsAt w p g cap long T s) (hx:Ext w w'):RsAt w' p g cap long T s :=
 ⟨h.blk.keep hx,h.tok.ext (hx.block g h.tok.1) hx.size,h.ne,h.le,h.cap,h.few,h.dp⟩
theorem RsAt.set {w w':World} {p g cap long:Nat} {T:List Lx.Tok} {s s':PSt} (h:RsAt w p g cap long T s) (hx:LeP p w w') (hb:Blk w' p (rsC g cap T.length long s') 104) (hi:s'.i<=T.length) (hd:s'.deep<=24):RsAt w' p g cap long T s' :=
 ⟨hb,h.tok.ext (hx.old g h.tok.1 h.ne) hx.size,h.ne,hi,h.cap,h.few,hd⟩
def kindR (T:List Lx.Tok) (s:PSt):Int:=match T[s.i]? with|some t=>(t.kind:Int)|none=>0
def isR (T:List Lx.Tok) (s:PSt) (x:List UInt8):Bool:=(kindR T s == 5 ||kindR T s == 2) && (textP T s == x)
def takeB (T:List Lx.Tok) (s:PSt) (x:List UInt8):Bool:=(s.e == 0) && isR T s x
def wantR (T:List Lx.Tok) (long:Nat) (s:PSt) (x:List UInt8):PSt:=if takeB T s x then { s with i:=s.i+1 } else wrongP T long 10 s
def nameB (T:List Lx.Tok) (s:PSt):Bool:=(s.e == 0) && (kindR T s == 1)
def nameT (T:List Lx.Tok) (s:PSt):List UInt8:=if nameB T s then textP T s else []
def nameS (T:List Lx.Tok) (long:Nat) (s:PSt):PSt:=if nameB T s then { s with i:=s.i+1 } else wrongP T long 10 s
def inB (s:PSt):Bool:=(s.e == 0) && decide (s.deep<24)
def inS (T:List Lx.Tok) (long:Nat) (s:PSt):PSt:=if inB s then { s with deep:=s.deep+1 } else wrongP T long 21 s
theorem kindR_lt {T:List Lx.Tok} {s:PSt} (h:kindR T s≠0):s.i<T.length:=by
 unfold kindR at h;split at h
 ·rename_i t ht;exact (List.getElem?_eq_some_iff.1 ht).1
 ·exact absurd rfl h
theorem isR_lt {T:List Lx.Tok} {s:PSt} {x:List UInt8} (h:isR T s x=true):s.i<T.length:=by
 unfold isR at h;rw [Bool.and_eq_true,Bool.or_eq_true,beq_iff_eq,beq_iff_eq] at h;exact kindR_lt (by omega)
theorem takeB_lt {T:List Lx.Tok} {s:PSt} {x:List UInt8} (h:takeB T s x=true):s.i<T.length:=by
 unfold takeB at h;rw [Bool.and_eq_true] at h;exact isR_lt h.2
theorem nameB_lt {T:List Lx.Tok} {s:PSt} (h:nameB T s=true):s.i<T.length:=by
 unfold nameB at h;rw [Bool.and_eq_true,beq_iff_eq,beq_iff_eq] at h;exact kindR_lt (by omega)
theorem rkind_any (p g cap long:Nat) (T:List Lx.Tok) (s:PSt) (w:World) (h:RsAt w p g cap long T s) :
 Calls Tryz.prog 146 #[.pointer (some ⟨p,0,none⟩)] w fun e w'=>e= .returned (.int .i64 (kindR T s))/\Below w.heap.size w w':=by
 have mixed:Tryz.prog.follows .mixedOrders=true:=by kernel_rfl
 obtain ⟨i,deep,at_,e⟩:=s;obtain ⟨hb,ht,hne,hle,hcap,hfew,_⟩:=h;unfold rsC at hb;simp only at hb hle;obtain ⟨n,hn⟩:∃ n,n=T.length:=⟨_,rfl⟩
 rw [<- hn] at hb hle hcap hfew;obtain ⟨ga,hga⟩:∃ ga,ga=psA g n:=⟨_,rfl⟩
 rw [<- hga] at hb;obtain ⟨cb,fb⟩:=hb.facts;have hbl:=hb.lt;unfold kindR;simp only;cases hti:T[i]? with
 |none =>
  have hge:n<=i:=by rw [hn];exact List.getElem?_eq_none_iff.1 hti
  have hnl:decide ((i:Int)<(n:Int))=false:=by rw [decide_eq_false_iff_not];omega
  have hnl2:decide (i<n)=false:=by rw [decide_eq_false_iff_not];omega
  simp only;clear hle hcap hfew hn ht hti hge hb;go_enter Tryz.func146,Tryz.ntmps146;go_simp
  repeat (first|go_values|go_skip|go_guarded|go_step|go_upon)
  go_quiet (fail);go_wp2;go_returns;exact ⟨rfl,bel_drewN _ _⟩
 |some tok =>
  have hlt:i<n:=by rw [hn];exact (List.getElem?_eq_some_iff.1 hti).1
  have hltI:(i:Int)<(n:Int):=by omega
  rw [psA_pos (by omega)] at hga;subst hga;have hltB:decide ((i:Int)<(n:Int))=true:=by rw [decide_eq_true_iff];exact hltI
  obtain ⟨q0,_,_,_⟩:=ht.get hti;have hgl:=ht.1;obtain ⟨tk',tt,tn,tp⟩:=tok;simp only at q0 |-;obtain ⟨tk,htk⟩:∃ z:Int,z=(tk':Int):=⟨_,rfl⟩
  rw [<- htk] at q0 |-;clear hle hn ht hti htk hb;go_enter Tryz.func146,Tryz.ntmps146;go_simp
  repeat (first|go_values|go_skip|go_guarded|go_step|go_upon)
  go_quiet (fail);go_wp2_with fail;go_quiet (fail);go_wp2;go_returns;exact ⟨rfl,Ext.trans (bel_drewN _ _) (bel_drewN _ _)⟩
theorem ris_any (p g cap long:Nat) (T:List Lx.Tok) (s:PSt) (text:ByteArray) (w:World) (h:RsAt w p g cap long T s) :
 Calls Tryz.prog 80 #[.pointer (some ⟨p,0,none⟩),.string text] w fun e w'=>e= .returned (.bool (isR T s (bsl text)))/\Below w.heap.size w w':=by
 have mixed:Tryz.prog.follows .mixedOrders=true:=by kernel_rfl
 have HK:=h_ (rkind_any p g cap long T s w h);obtain ⟨i,deep,at_,e⟩:=s;obtain ⟨hb,ht,hne,hle,hcap,hfew,_⟩:=h;unfold rsC at hb;simp only at hb hle;have HB:=h_ hb;have HT:=h_ ht;clear hb ht;obtain ⟨k,hk⟩:∃ k,k=kindR T ⟨i,deep,at_,e⟩:=⟨_,rfl⟩
 unfold isR;rw [<- hk] at HK |-;have Hk:=h_ hk;clear hk;by_cases hw:k=5 ∨ k=2
 ·have hpos:(k == 5 ||k == 2)=true:=by rw [Bool.or_eq_true,beq_iff_eq,beq_iff_eq];exact hw
  rw [hpos,Bool.true_and];have hlt:i<T.length:=kindR_lt (T:=T) (s:=⟨i,deep,at_,e⟩) (by rw [<- Hk.out];omega);obtain ⟨n,hn⟩:∃ n,n=T.length:=⟨_,rfl⟩
  rw [<- hn] at HB hlt hle hcap hfew;rw [psA_pos (by omega)] at HB;have hltI:(i:Int)<(n:Int):=by omega
  have hltB:decide ((i:Int)<(n:Int))=true:=by rw [decide_eq_true_iff];exact hltI
  obtain ⟨tok,hti⟩:∃ tok,T[i]?=some tok:=⟨_,List.getElem?_eq_getElem (by omega)⟩
  have htx:textP T ⟨i,deep,at_,e⟩=tok.text:=by unfold textP;simp only;rw [hti]
  rw [htx];have HQ:=eq_texts tok.text text;clear hn htx hpos;have HT2:=h_ hti;clear hti;rcases hw with rfl|rfl
  all_goals
   go_enter Tryz.func80,Tryz.ntmps80;go_wp2_with fail;refine Calls.mono HK.out ?_;rintro e1 W ⟨rfl,hx⟩;have hB:=HB.out.keep hx;obtain ⟨cb,fb⟩:=hB.facts;have hbl:=hB.lt;have hT:=HT.out.ext (hx.block g HT.out.1) hx.size;obtain ⟨_,q1,_,_⟩:=hT.get HT2.out;have hgl:=hT.1;obtain ⟨tk,tt,tn,tp⟩:=tok;simp only at q1 HQ |-;clear hB hT;go_simp
   repeat (first|go_values|go_skip|go_guarded|go_step|go_upon)
   go_quiet (fail);go_wp2;go_returns;exact ⟨rfl,Ext.trans hx (bel_drewN _ _)⟩
 ·have h5:(k == 5)=false:=by rw [beq_eq_false_iff_ne];omega
  have h2:(k == 2)=false:=by rw [beq_eq_false_iff_ne];omega
  rw [h5,h2,Bool.or_false,Bool.false_and];go_enter Tryz.func80,Tryz.ntmps80;go_wp2_with fail;refine Calls.mono HK.out ?_;rintro e1 W ⟨rfl,hx⟩;go_simp
  repeat (first|go_values|go_skip|go_guarded|go_step|go_upon)
  go_quiet (fail);go_wp2;go_returns;exact ⟨rfl,Ext.trans hx (bel_drewN _ _)⟩
theorem rfail_any (p g cap long:Nat) (T:List Lx.Tok) (s:PSt) (er:Int) (w:World) (h:RsAt w p g cap long T s) :
 Calls Tryz.prog 46 #[.pointer (some ⟨p,0,none⟩),.int .i64 er] w fun e w'=>e= .returned (.tuple #[])/\RsAt w' p g cap long T (wrongP T long er s)/\LeP p w w':=by
 have mixed:Tryz.prog.follows .mixedOrders=true:=by kernel_rfl
 have HP:=h_ h;have HB:=h_ h.blk;obtain ⟨i,deep,at_,ee⟩:=s;have hle:=h.le;have hcap:=h.cap;have hdp:=h.dp;obtain ⟨n,hn⟩:∃ n,n=T.length:=⟨_,rfl⟩
 simp only [rsC] at HB hle hdp;rw [<- hn] at HB hle hcap;obtain ⟨ga,hga⟩:∃ ga,ga=psA g n:=⟨_,rfl⟩
 rw [<- hga] at HB;clear h;obtain ⟨cb,fb⟩:=HB.out.facts;have hbl:=HB.out.lt;by_cases he:ee=0
 ·subst he;obtain ⟨A,hA⟩:∃ A:Int,A=(wrongP T long er ⟨i,deep,at_,0⟩).at_:=⟨_,rfl⟩
  rw [show wrongP T long er ⟨i,deep,at_,0⟩=⟨i,deep,A,er⟩ by rw [hA];rfl];have HA:=h_ hA;clear hA;go_enter Tryz.func46,Tryz.ntmps46;go_simp
  repeat (first|go_values|go_skip|go_guarded|go_step|go_upon)
  have HB1:=h_ (show Blk ((w.setCell ⟨p,2,none⟩ (.int .i64 er)).setCell ⟨p,3,none⟩ (.int .i64 long)) p #[.slice ga n cap,.int .i64 i,.int .i64 er,.int .i64 long,.int .i64 deep,.int .i64 long] 104 from (HB.out.set 2 _).set 3 _);have HL1:=h_ (show LeP p w ((w.setCell ⟨p,2,none⟩ (.int .i64 er)).setCell ⟨p,3,none⟩ (.int .i64 long)) from (LeP.set 2 _).trans (LeP.set 3 _));generalize ((w.setCell ⟨p,2,none⟩ (.int .i64 er)).setCell ⟨p,3,none⟩ (.int .i64 long))=W1 at HB1 HL1 |-;have HT1:=h_ (HP.out.tok.ext (HL1.out.old g HP.out.tok.1 HP.out.ne) HL1.out.size);clear cb fb hbl;obtain ⟨cb,fb⟩:=HB1.out.facts;have hbl:=HB1.out.lt;cases hti:T[i]? with
  |none =>
   have hge:n<=i:=by rw [hn];exact List.getElem?_eq_none_iff.1 hti
   have hnl:decide ((i:Int)<(n:Int))=false:=by rw [decide_eq_false_iff_not];omega
   have hnl2:decide (i<n)=false:=by rw [decide_eq_false_iff_not];omega
   go_quiet (fail);go_wp2;go_returns;refine ⟨rfl,HP.out.set (HL1.out.trans (LeP.ofExt (bel_drewN _ _))) ?_ HP.out.le hdp,HL1.out.trans (LeP.ofExt (bel_drewN _ _))⟩;have hB:=HB1.out.keep (bel_drewN W1 nq);have hA:=HA.out;simp only [wrongP,if_pos,hti] at hA;subst hA;rw [hga,hn] at hB;exact hB
  |some tok =>
   have hlt:i<n:=by rw [hn];exact (List.getElem?_eq_some_iff.1 hti).1
   have hltI:(i:Int)<(n:Int):=by omega
   rw [psA_pos (by omega)] at hga;subst hga;have hltB:decide ((i:Int)<(n:Int))=true:=by rw [decide_eq_true_iff];exact hltI
   obtain ⟨_,_,_,q3⟩:=HT1.out.get hti;have hgl:=HT1.out.1;obtain ⟨tk,tt,tn,tp⟩:=tok;simp only at q3;go_quiet (fail);have HF:=h_ (show ∀ W,Ext (W1.drewN nq) W->(∀ j,W.cell? ⟨p,j,none⟩=(#[.slice (some ⟨g,0,none⟩) n cap,.int .i64 i,.int .i64 er,.int .i64 long,.int .i64 deep,.int .i64 long]:Array Value)[j]?)/\(∀ j,W.frozen? ⟨p,j,none⟩=false)/\W.cell? ⟨g,i * 4+3,none⟩=some (.int .i64 tp) from fun W hW=>by
    have hx:=Ext.trans (bel_drewN W1 nq) hW;exact ⟨(HB1.out.keep hx).cell,(HB1.out.keep hx).free,(hx.cell (p:=⟨g,_,none⟩) hgl).trans q3⟩)
   go_simp
   repeat (first|go_values|go_skip|go_guarded|go_step|go_upon)
   refine wp_parZF [] (leX) [0,1,2,3,4,5,6,7,8,9,10,11,12,13,14] 14 14 (fun
    |0=>fun _ v _=>v= .pointer (some ⟨p,0,none⟩)
    |1=>fun _ v _=>v= .pointer (some ⟨p,0,none⟩)
    |2=>fun _ v _=>v= .pointer (some ⟨p,0,none⟩)
    |3=>fun _ v _=>v= .pointer (some ⟨p,0,none⟩)
    |4=>fun _ v _=>v= .slice (some ⟨g,0,none⟩) n cap
    |5=>fun _ v _=>v= .pointer (some ⟨p,0,none⟩)
    |6=>fun _ v _=>v= .pointer (some ⟨p,0,none⟩)
    |7=>fun _ v _=>v= .pointer (some ⟨p,1,none⟩)
    |8=>fun _ v _=>v= .int .i64 i
    |9=>fun _ v _=>v= .pointer (some ⟨g,i * 4,none⟩)
    |10=>fun _ v _=>v= .pointer (some ⟨g,i * 4+3,none⟩)
    |11=>fun _ v _=>v= .int .i64 tp
    |12=>fun _ v _=>v= .pointer (some ⟨p,0,none⟩)
    |13=>fun _ v _=>v= .pointer (some ⟨p,3,none⟩)
    |_=>fun _ _ _=>True) (fun
    |_=>undef) (by kernel_rfl) (by kernel_rfl) (by kernel_rfl) ?_ ?_ ?_ ?_ ?_
   ·simp (maxSteps:=20000000) only [permL,permOp,List.filterMap_cons,List.filterMap_nil,List.getElem?_cons_succ,List.getElem?_cons_zero,Option.map_some,Option.map_none,List.take_succ_cons,List.take_zero,ParAllG,Act.put,List.setIfInBounds_toArray,List.set_cons_succ,List.set_cons_zero];refine ⟨?_,?_,?_,?_,?_,?_,?_,?_,?_,?_,?_,?_,?_,?_,trivial⟩
    all_goals
     intro vals W hx hd;have hW:=HF.out W hx;simp [PDepsG,pdeps,Region.binds,List.idxOf_cons] at hd
     first
      |refine ParObG.plain rfl ?_
      |refine ParObG.wanted (by simp [Region.wanted,yielded,hd]) ?_
    iterate 14
     next =>
      go_simp;exact ParPostG.same (leX) fun _ _=>rfl
   ·simp (maxSteps:=20000000) only [permL,permOp,List.filterMap_cons,List.filterMap_nil,List.getElem?_cons_succ,List.getElem?_cons_zero,Option.map_some,Option.map_none,List.drop_succ_cons,List.drop_zero,List.take_succ_cons,List.take_zero,Nat.reduceSub,ZAll,ParEnd,Act.put,List.setIfInBounds_toArray,List.set_cons_succ,List.set_cons_zero]
   ·intro i hi;cases hi
   ·intro i hi;cases hi
   intro vals W hx hf hz hdist;simp (maxSteps:=20000000) only [permL,permOp,List.filterMap_cons,List.filterMap_nil,List.getElem?_cons_succ,List.getElem?_cons_zero,Option.map_some,Option.map_none,ParFactsG,List.take_succ_cons,List.take_zero,and_true,Nat.reduceAdd] at hf;obtain ⟨f0,f1,f2,f3,f4,f5,f6,f7,f8,f9,f10,f11,f12,f13⟩:=hf;clear hz;simp (maxSteps:=20000000) only [permL,permOp,List.filterMap_cons,List.filterMap_nil,List.getElem?_cons_succ,List.getElem?_cons_zero,Option.map_some,Option.map_none,List.drop_succ_cons,List.drop_zero,List.take_succ_cons,List.take_zero,Nat.reduceSub,ParEnd,ZTail,Act.put,List.setIfInBounds_toArray,List.set_cons_succ,List.set_cons_zero,Nat.reduceAdd,f0,f1,f2,f3,f4,f5,f6,f7,f8,f9,f10,f11,f12,f13];clear f0 f1 f2 f3 f4 f5 f6 f7 f8 f9 f10 f11 f12 f13;have hW:=HF.out W hx;have hx2:=Ext.trans (bel_drewN W1 nq) hx;have HB2:=h_ (HB1.out.keep hx2);clear cb fb hbl q3 hgl HF;have hbl:=HB2.out.lt;refine ⟨?_⟩;go_simp
   repeat (first|go_values|go_skip|go_guarded|go_step|go_upon)
   go_returns;have hl2:LeP p w (W.setCell ⟨p,3,none⟩ (.int .i64 tp)):=(HL1.out.trans (LeP.ofExt hx2)).trans (LeP.set 3 _);refine ⟨rfl,HP.out.set hl2 ?_ HP.out.le hdp,hl2⟩;have hB:=HB2.out.set 3 (.int .i64 tp);have hA:=HA.out;simp only [wrongP,if_pos,hti] at hA;subst hA;rw [<- psA_pos (g:=g) (show 0<n by omega),hn] at hB;exact hB
 ·rw [show wrongP T long er ⟨i,deep,at_,ee⟩=⟨i,deep,at_,ee⟩ from if_neg he];go_enter Tryz.func46,Tryz.ntmps46;go_wp2_with fail;go_returns;exact ⟨rfl,HP.out,LeP.refl _ _⟩
theorem rtake_any (p g cap long:Nat) (T:List Lx.Tok) (s:PSt) (text:ByteArray) (w:World) (h:RsAt w p g cap long T s) :
 Calls Tryz.prog 84 #[.pointer (some ⟨p,0,none⟩),.string text] w fun e w'=>e= .returned (.bool (takeB T s (bsl text)))/\RsAt w' p g cap long T (advP (takeB T s (bsl text)) s)/\LeP p w w':=by
 have KI:=h_ (fun W (hW:Ext w W)=>ris_any p g cap long T s text W (h.ext hW));have HP:=h_ h;have hlt:=fun hb=>isR_lt (T:=T) (s:=s) (x:=bsl text) hb;have HB:=h_ h.blk;clear h;unfold takeB;cases he:s.e == 0
 ·have hne:(s.e !=0)=true:=by simp [bne,he]
  rw [Bool.false_and];obtain ⟨i,deep,at_,er⟩:=s;simp only [rsC] at HB hne;obtain ⟨cb,fb⟩:=HB.out.facts;have hbl:=HB.out.lt;clear he hlt KI;go_enter Tryz.func84,Tryz.ntmps84;go_simp
  repeat (first|go_values|go_skip|go_guarded|go_step|go_upon)
  go_returns;exact ⟨rfl,HP.out,LeP.refl _ _⟩
 ·have hne:(s.e !=0)=false:=by simp [bne,he]
  rw [Bool.true_and];generalize isR T s (bsl text)=b at KI hlt |-;obtain ⟨i,deep,at_,er⟩:=s;simp only [rsC] at HB hne hlt;obtain ⟨cb,fb⟩:=HB.out.facts;have hbl:=HB.out.lt;have hle:=HP.out.few;have hdp:=HP.out.dp;simp only at hdp;clear he;go_enter Tryz.func84,Tryz.ntmps84;go_simp
  repeat (first|go_values|go_skip|go_guarded|go_step|go_upon)
  go_wp2_with fail;refine Calls.mono (KI.out _ (Ext.refl _)) ?_;rintro e W ⟨rfl,hx⟩;cases b
  ·go_simp
   repeat (first|go_values|go_skip|go_guarded|go_step|go_upon)
   go_returns;exact ⟨rfl,HP.out.ext hx,LeP.ofExt hx⟩
  ·have hB:=HB.out.keep hx;have hl:=hlt rfl;clear cb fb hbl;obtain ⟨cb,fb⟩:=hB.facts;have hbl:=hB.lt;have hsum:=IntWalk.i64_in ((i:Int)+1) (by omega);have HB2:=h_ hB;clear hB;go_simp
   repeat (first|go_values|go_skip|go_guarded|go_step|go_upon)
   go_returns;exact ⟨rfl,(HP.out.ext hx).set (LeP.set 1 _) (HB2.out.set 1 _) hl hdp,(LeP.ofExt hx).trans (LeP.set 1 _)⟩
theorem rwant_any (p g cap long:Nat) (T:List Lx.Tok) (s:PSt) (text:ByteArray) (w:World) (h:RsAt w p g cap long T s) :
 Calls Tryz.prog 147 #[.pointer (some ⟨p,0,none⟩),.string text] w fun e w'=>e= .returned (.tuple #[])/\RsAt w' p g cap long T (wantR T long s (bsl text))/\LeP p w w':=by
 have HK:=h_ (rtake_any p g cap long T s text w h);have HF:=h_ (fun W hW=>rfail_any p g cap long T s 10 W hW);unfold wantR;unfold advP at HK;generalize takeB T s (bsl text)=b at HK |-;clear h;cases b
 ·go_enter Tryz.func147,Tryz.ntmps147;go_wp2_with fail;refine Calls.mono HK.out ?_;rintro e W ⟨rfl,h1,hx⟩;go_simp
  repeat (first|go_values|go_skip|go_guarded|go_step|go_upon)
  refine Calls.mono (HF.out W h1) ?_;rintro e W2 ⟨rfl,h2,hx2⟩;go_simp
  repeat (first|go_values|go_skip|go_guarded|go_step|go_upon)
  go_returns;exact ⟨rfl,h2,hx.trans hx2⟩
 ·go_enter Tryz.func147,Tryz.ntmps147;go_wp2_with fail;refine Calls.mono HK.out ?_;rintro e W ⟨rfl,h1,hx⟩;go_simp
  repeat (first|go_values|go_skip|go_guarded|go_step|go_upon)
  go_returns;exact ⟨rfl,h1,hx⟩
theorem rin_any (p g cap long:Nat) (T:List Lx.Tok) (s:PSt) (w:World) (h:RsAt w p g cap long T s) :
 Calls Tryz.prog 81 #[.pointer (some ⟨p,0,none⟩)] w fun e w'=>e= .returned (.bool (inB s))/\RsAt w' p g cap long T (inS T long s)/\LeP p w w':=by
 have HP:=h_ h;have HB:=h_ h.blk;have HF:=h_ (rfail_any p g cap long T s 21 w h);have hdp:=h.dp;have hlt:=h.le;clear h;unfold inB inS inB;obtain ⟨i,deep,at_,er⟩:=s;simp only [rsC] at HB hdp hlt |-;obtain ⟨cb,fb⟩:=HB.out.facts;have hbl:=HB.out.lt;cases he:er == 0
 ·have hne:(er !=0)=true:=by simp [bne,he]
  have hn0:er≠0:=by simpa using he
  rw [Bool.false_and];have hw:wrongP T long 21 ⟨i,deep,at_,er⟩=⟨i,deep,at_,er⟩:=if_neg hn0;simp only [Bool.false_eq_true,if_false];rw [hw];clear he hn0 HF;go_enter Tryz.func81,Tryz.ntmps81;go_simp
  repeat (first|go_values|go_skip|go_guarded|go_step|go_upon)
  go_returns;exact ⟨rfl,HP.out,LeP.refl _ _⟩
 ·have hne:(er !=0)=false:=by simp [bne,he]
  rw [Bool.true_and];clear he;by_cases hd:deep<24
  ·rw [decide_eq_true hd];simp only [if_true];have hD:decide ((24:Int)<=(deep:Int))=false:=by rw [decide_eq_false_iff_not];omega
   have hD2:decide (24<=deep)=false:=by rw [decide_eq_false_iff_not];omega
   have hsum:=IntWalk.i64_in ((deep:Int)+1) (by omega);clear HF;go_enter Tryz.func81,Tryz.ntmps81;go_simp
   repeat (first|go_values|go_skip|go_guarded|go_step|go_upon)
   go_returns;exact ⟨rfl,HP.out.set (LeP.set 4 _) (HB.out.set 4 _) hlt hd,LeP.set 4 _⟩
  ·rw [decide_eq_false hd];simp only [Bool.false_eq_true,if_false];have hD:decide ((24:Int)<=(deep:Int))=true:=by rw [decide_eq_true_iff];omega
   have hD2:decide (24<=deep)=true:=by rw [decide_eq_true_iff];omega
   go_enter Tryz.func81,Tryz.ntmps81;go_simp
   repeat (first|go_values|go_skip|go_guarded|go_step|go_upon)
   go_wp2_with fail;refine Calls.mono HF.out ?_;rintro e W2 ⟨rfl,h2,hx2⟩;go_simp
   repeat (first|go_values|go_skip|go_guarded|go_step|go_upon)
   go_returns;exact ⟨rfl,h2,hx2⟩
theorem nameT_get {T:List Lx.Tok} {s:PSt} (h:nameB T s=true):∃ t,T[s.i]?=some t/\nameT T s=t.text:=by
 have hl:=nameB_lt h;refine ⟨_,List.getElem?_eq_getElem hl,?_⟩;unfold nameT textP;rw [if_pos h,List.getElem?_eq_getElem hl]
theorem rname_any (p g cap long:Nat) (T:List Lx.Tok) (s:PSt) (w:World) (h:RsAt w p g cap long T s) :
 Calls Tryz.prog 85 #[.pointer (some ⟨p,0,none⟩)] w fun e w'=>e= .returned (.string ⟨(nameT T s).toArray⟩)/\RsAt w' p g cap long T (nameS T long s)/\LeP p w w':=by
 have mixed:Tryz.prog.follows .mixedOrders=true:=by kernel_rfl
 have KI:=h_ (fun W (hW:Ext w W)=>rkind_any p g cap long T s W (h.ext hW));have HF:=h_ (fun W hW=>rfail_any p g cap long T s 10 W hW);have HP:=h_ h;have HB:=h_ h.blk;clear h;by_cases hb:nameB T s=true
 ·obtain ⟨t,ht,hT⟩:=nameT_get hb;have hl:=nameB_lt hb;unfold nameS;rw [if_pos hb,hT];clear hT HF;unfold nameB at hb;rw [Bool.and_eq_true,beq_iff_eq] at hb;have hk:=eq_of_beq hb.2;rw [hk] at KI;have hne:(s.e !=0)=false:=by simp [bne,hb.1]
  clear hb hk;obtain ⟨i,deep,at_,er⟩:=s;have hle:=HP.out.few;have hdp:=HP.out.dp;simp only [rsC] at HB hne hl ht hdp |-;obtain ⟨cb,fb⟩:=HB.out.facts;have hbl:=HB.out.lt;go_enter Tryz.func85,Tryz.ntmps85;go_simp
  repeat (first|go_values|go_skip|go_guarded|go_step|go_upon)
  go_wp2_with fail;refine Calls.mono (KI.out _ (Ext.refl _)) ?_;rintro e W ⟨rfl,hx⟩;have hB:=HB.out.keep hx;clear cb fb hbl;obtain ⟨cb,fb⟩:=hB.facts;have hbl:=hB.lt;have hsum:=IntWalk.i64_in ((i:Int)+1) (by omega);have HB2:=h_ hB;clear hB;go_simp
  repeat (first|go_values|go_skip|go_guarded|go_step|go_upon)
  have HB3:=h_ (HB2.out.set 1 (.int .i64 ((i:Int)+1)));have HL:=h_ ((LeP.ofExt hx).trans (LeP.set (p:=p) (w:=W) 1 (.int .i64 ((i:Int)+1))));generalize W.setCell ⟨p,1,none⟩ (.int .i64 ((i:Int)+1))=W1 at HB3 HL |-;have hTk:=HP.out.tok.ext (HL.out.old g HP.out.tok.1 HP.out.ne) HL.out.size;obtain ⟨_,q1,_,_⟩:=hTk.get ht;have hgl:=hTk.1;clear hTk cb fb hbl hsum;obtain ⟨n,hn⟩:∃ n,n=T.length:=⟨_,rfl⟩
  rw [<- hn] at HB3 hl hle;rw [psA_pos (by omega)] at HB3;obtain ⟨cb,fb⟩:=HB3.out.facts;have hbl:=HB3.out.lt;obtain ⟨tk,tt,tn,tp⟩:=t;simp only at q1 |-;have hdif:=IntWalk.i64_in ((i:Int)+1 - 1) (by omega);rw [show (i:Int)+1 - 1=(i:Int) by omega] at hdif;have hltI:(i:Int)<(n:Int):=by omega
  have hHn:=h_ hn;have hHt:=h_ ht;clear hn ht;go_quiet (fail);go_wp2;go_returns;refine ⟨rfl,(HP.out.set HL.out ?_ ?_ hdp).ext (bel_drewN _ _),HL.out.trans (LeP.ofExt (bel_drewN _ _))⟩
  ·have hB:=HB3.out;rw [<- psA_pos (g:=g) (show 0<n by omega),hHn.out] at hB;exact hB
  ·have:=hHn.out;show i+1<=T.length;omega
 ·have hb':nameB T s=false:=by simpa using hb
  have hT:nameT T s=[]:=by unfold nameT;rw [if_neg hb]
  unfold nameS;rw [if_neg hb,hT];clear hT hb;unfold nameB at hb';cases he:s.e == 0
  ·have hne:(s.e !=0)=true:=by simp [bne,he]
   clear KI he hb';have HF1:=h_ (HF.out w HP.out);obtain ⟨i,deep,at_,er⟩:=s;simp only [rsC] at HB hne |-;obtain ⟨cb,fb⟩:=HB.out.facts;have hbl:=HB.out.lt;go_enter Tryz.func85,Tryz.ntmps85;go_simp
   repeat (first|go_values|go_skip|go_guarded|go_step|go_upon)
   go_wp2_with fail;refine Calls.mono HF1.out ?_;rintro e W2 ⟨rfl,h2,hx2⟩;go_simp
   repeat (first|go_values|go_skip|go_guarded|go_step|go_upon)
   go_returns;exact ⟨rfl,h2,hx2⟩
  ·rw [he,Bool.true_and] at hb';have hne:(s.e !=0)=false:=by simp [bne,he]
   generalize kindR T s=k at KI hb';have hk:(k !=1)=true:=by simp [bne,hb']
   obtain ⟨i,deep,at_,er⟩:=s;simp only [rsC] at HB hne |-;obtain ⟨cb,fb⟩:=HB.out.facts;have hbl:=HB.out.lt;clear he;go_enter Tryz.func85,Tryz.ntmps85;go_simp
   repeat (first|go_values|go_skip|go_guarded|go_step|go_upon)
   go_wp2_with fail;refine Calls.mono (KI.out _ (Ext.refl _)) ?_;rintro e W ⟨rfl,hx⟩;go_simp
   repeat (first|go_values|go_skip|go_guarded|go_step|go_upon)
   refine Calls.mono (HF.out W (HP.out.ext hx)) ?_;rintro e W2 ⟨rfl,h2,hx2⟩;go_simp
   repeat (first|go_values|go_skip|go_guarded|go_step|go_upon)
   go_returns;exact ⟨rfl,h2,(LeP.ofExt hx).trans hx2⟩
def opR (T:List Lx.Tok) (s:PSt):List (Int × List UInt8 × Int)->Int
 | []=>0
 |b::L=>if isR T s b.2.1 then b.2.2 else opR T s L
theorem opR_drop (T:List Lx.Tok) (s:PSt):∀ (L:List (Int × List UInt8 × Int)) (j:Nat) (b:Int × List UInt8 × Int),L[j]?=some b->isR T s b.2.1=false->opR T s (L.drop j)=opR T s (L.drop (j+1))
 |y::L,0,b,h,hb=>by
  obtain rfl:y=b:=by simpa using h
  simp only [List.drop_zero,List.drop_succ_cons,opR,hb];rfl
 |y::L,j+1,b,h,hb=>by
  simp only [List.drop_succ_cons];exact opR_drop T s L j b (by simpa using h) hb
def row2 (k:Nat):Array Value:=((binsL k).flatMap fun b=>[Value.string ⟨b.2.1.toArray⟩,.int .i64 b.2.2]).toArray
theorem row2_get:∀ (L:List (Int × List UInt8 × Int)) (i:Nat) (b:Int × List UInt8 × Int),L[i]?=some b ->
 (L.flatMap fun b=>[Value.string ⟨b.2.1.toArray⟩,.int .i64 b.2.2])[i * 2]?=some (.string ⟨b.2.1.toArray⟩)/\(L.flatMap fun b=>[Value.string ⟨b.2.1.toArray⟩,.int .i64 b.2.2])[i * 2+1]?=some (.int .i64 b.2.2)
 |y::L,0,b,h=>by
  obtain rfl:y=b:=by simpa using h
  exact ⟨rfl,rfl⟩
 |y::L,i+1,b,h=>by
  have ih:=row2_get L i b (by simpa using h);simp only [List.flatMap_cons,show (i+1) * 2=i * 2+1+1 by omega,List.cons_append,List.nil_append,List.getElem?_cons_succ];exact ih
def opA (w:World) (k:Nat):World:=w.alloc (.cells (row2 k) 211)
def op7 (w:World):World:=opA (opA (opA (opA (opA (opA (opA w 1) 2) 5) 6) 7) 8) 9
def opC (H:Nat):Array Value:= #[.slice none 0 0,.slice (some ⟨H,0,none⟩) 2 2,.slice (some ⟨H+1,0,none⟩) 1 1,.slice none 0 0,.slice none 0 0,.slice (some ⟨H+1+1,0,none⟩) 2 2,.slice (some ⟨H+1+1+1,0,none⟩) 1 1,.slice (some ⟨H+1+1+1+1,0,none⟩) 2 2,.slice (some ⟨H+1+1+1+1+1,0,none⟩) 3 3,.slice (some ⟨H+1+1+1+1+1+1,0,none⟩) 3 3]
def opW (w:World):World:=(op7 w).alloc (.cells (opC w.heap.size) 212)
structure OpAt (W:World) (H k gb:Nat):Prop where
 lt:gb<W.heap.size
 hlt:H<W.heap.size
 cell:W.cell? ⟨H,k,none⟩=some (.slice (some ⟨gb,0,none⟩) (binsL k).length (binsL k).length)
 row:∀ (j:Nat) (b:Int × List UInt8 × Int),(binsL k)[j]?=some b->W.cell? ⟨gb,j * 2,none⟩=some (.string ⟨b.2.1.toArray⟩)/\W.cell? ⟨gb,j * 2+1,none⟩=some (.int .i64 b.2.2)
theorem OpAt.ext {W W':World} {H k gb:Nat} (h:OpAt W H k gb) (hx:Ext W W'):OpAt W' H k gb :=
 ⟨Nat.lt_of_lt_of_le h.lt hx.size,Nat.lt_of_lt_of_le h.hlt hx.size,(hx.cell (p:=⟨H,k,none⟩) h.hlt).trans h.cell,fun j b hb=>⟨(hx.cell (p:=⟨gb,j * 2,none⟩) h.lt).trans (h.row j b hb).1,(hx.cell (p:=⟨gb,j * 2+1,none⟩) h.lt).trans (h.row j b hb).2⟩⟩
theorem opA_size (w:World) (k:Nat):(opA w k).heap.size=w.heap.size+1:=by simp only [opA,World.alloc,Array.size_push]
theorem opA_ext (w:World) (k:Nat):Ext w (opA w k):=(Ext.refl w).alloc _
theorem opA_blk (w:World) (k:Nat):Blk (opA w k) w.heap.size (row2 k) 211:=Blk.new w _ _ rfl
theorem opAt_of {W:World} {H k gb n:Nat} (t t2:TypeId) (hb:Blk W gb (row2 k) t) (hH:Blk W H (opC n) t2) (hc:(opC n)[k]?=some (.slice (some ⟨gb,0,none⟩) (binsL k).length (binsL k).length)):OpAt W H k gb :=
 ⟨hb.lt,hH.lt,(hH.cell k).trans hc,fun j b hj=>by
  have h2:=row2_get _ j b hj;rw [hb.cell,hb.cell];unfold row2;rw [List.getElem?_toArray,List.getElem?_toArray];exact h2⟩
theorem opW_ext (w:World):Ext w (opW w):=by
 unfold opW op7;exact Ext.trans (opA_ext w 1) (Ext.trans (opA_ext _ 2) (Ext.trans (opA_ext _ 5) (Ext.trans (opA_ext _ 6) (Ext.trans (opA_ext _ 7) (Ext.trans (opA_ext _ 8) (Ext.trans (opA_ext _ 9) ((Ext.refl _).alloc _)))))))
theorem opW_at (w:World) (k:Nat) (hk:k=1 ∨ k=2 ∨ k=5 ∨ k=6 ∨ k=7 ∨ k=8 ∨ k=9):∃ gb,OpAt (opW w) (w.heap.size+1+1+1+1+1+1+1) k gb:=by
 have hs:(op7 w).heap.size=w.heap.size+1+1+1+1+1+1+1:=by unfold op7;simp only [opA_size]
 have hH:Blk (opW w) (w.heap.size+1+1+1+1+1+1+1) (opC w.heap.size) 212:=by rw [<- hs];exact Blk.new (op7 w) _ _ rfl
 have e8:Ext (op7 w) (opW w):=(Ext.refl _).alloc _;unfold op7 at e8;have e7:=Ext.trans (opA_ext _ 9) e8;have e6:=Ext.trans (opA_ext _ 8) e7;have e5:=Ext.trans (opA_ext _ 7) e6;have e4:=Ext.trans (opA_ext _ 6) e5;have e3:=Ext.trans (opA_ext _ 5) e4;have e2:=Ext.trans (opA_ext _ 2) e3;have b1:=(opA_blk w 1).keep e2;have b2:=(opA_blk (opA w 1) 2).keep e3;have b3:=(opA_blk (opA (opA w 1) 2) 5).keep e4;have b4:=(opA_blk (opA (opA (opA w 1) 2) 5) 6).keep e5;have b5:=(opA_blk (opA (opA (opA (opA w 1) 2) 5) 6) 7).keep e6;have b6:=(opA_blk (opA (opA (opA (opA (opA w 1) 2) 5) 6) 7) 8).keep e7;have b7:=(opA_blk (opA (opA (opA (opA (opA (opA w 1) 2) 5) 6) 7) 8) 9).keep e8;simp only [opA_size] at b2 b3 b4 b5 b6 b7;rcases hk with rfl|rfl|rfl|rfl|rfl|rfl|rfl
 ·exact ⟨_,opAt_of _ _ b1 hH rfl⟩
 ·exact ⟨_,opAt_of _ _ b2 hH rfl⟩
 ·exact ⟨_,opAt_of _ _ b3 hH rfl⟩
 ·exact ⟨_,opAt_of _ _ b4 hH rfl⟩
 ·exact ⟨_,opAt_of _ _ b5 hH rfl⟩
 ·exact ⟨_,opAt_of _ _ b6 hH rfl⟩
 ·exact ⟨_,opAt_of _ _ b7 hH rfl⟩
theorem ropOf_any (k:Nat) (hk:k=1 ∨ k=2 ∨ k=5 ∨ k=6 ∨ k=7 ∨ k=8 ∨ k=9) (p g cap long:Nat) (T:List Lx.Tok) (s:PSt) (w:World) (h:RsAt w p g cap long T s) :
 Calls Tryz.prog 86 #[.pointer (some ⟨p,0,none⟩),.int .i64 k] w fun e w'=>e= .returned (.int .i64 (opR T s (binsL k)))/\Ext w w':=by
 have HP:=h_ h;have KI:=h_ (fun text W (hW:RsAt W p g cap long T s)=>ris_any p g cap long T s text W hW);obtain ⟨R,hR⟩:∃ R,R=opR T s (binsL k):=⟨_,rfl⟩
 rw [<- hR];have HRf:=h_ hR;have hO:=opW_at w k hk;obtain ⟨gb,hO1,hO2,hO3,hO4⟩:=hO;have HO:=h_ (And.intro hO1 (And.intro hO2 (And.intro hO3 hO4)));have HX0:=h_ (opW_ext w);have hlen:(binsL k).length<=6/\(k:Int)<10/\k<10:=by rcases hk with rfl|rfl|rfl|rfl|rfl|rfl|rfl<;>decide
 obtain ⟨hlen,hk1,hk2⟩:=hlen;clear h hR hO1 hO2 hO3 hO4 hk;generalize binsL k=L at HO hlen HRf |-;have hkB:decide ((k:Int)<10)=true:=by rw [decide_eq_true_iff];exact hk1
 go_enter Tryz.func86,Tryz.ntmps86;go_simp
 repeat (first|go_values|go_skip|go_guarded|go_step|go_upon)
 go_loopw [6] (fun i wr=>∃ j:Nat,j<=L.length/\i= .int .i64 j/\Ext (opW w) wr/\opR T s (L.drop j)=R) (fun i _=>L.length - (intOf i).toNat)
 case atStart=>exact ⟨0,Nat.zero_le _,rfl,Ext.refl _,HRf.out.symm⟩
 case round =>
  obtain ⟨j,hj,rfl,hx,hf⟩:=hrel;have HX:=h_ (Ext.trans HX0.out hx);have HX2:=h_ hx;have HFd:=h_ hf;have h7:w.heap.size+1+1+1+1+1+1+1<wr.heap.size:=Nat.lt_of_lt_of_le HO.out.2.1 hx.size;have c7:=(hx.cell (p:=⟨w.heap.size+1+1+1+1+1+1+1,k,none⟩) HO.out.2.1).trans HO.out.2.2.1;clear hx hf;by_cases hlt:j<L.length
  ·have hltI:(j:Int)<(L.length:Int):=by omega
   obtain ⟨b,hbe⟩:∃ b,L[j]?=some b:=⟨_,List.getElem?_eq_getElem hlt⟩
   obtain ⟨c0,c1⟩:=HO.out.2.2.2 j b hbe;have HBE:=h_ hbe;have d0:=(HX2.out.cell (p:=⟨gb,j * 2,none⟩) HO.out.1).trans c0;have d1:=(HX2.out.cell (p:=⟨gb,j * 2+1,none⟩) HO.out.1).trans c1;have hbl:gb<wr.heap.size:=Nat.lt_of_lt_of_le HO.out.1 HX2.out.size;obtain ⟨bk,bt,bo⟩:=b;simp only at d0 d1;clear c0 c1 hbe;go_simp
   repeat (first|go_values|go_skip|go_guarded|go_step|go_upon)
   refine Calls.mono (KI.out _ _ (HP.out.ext HX.out)) ?_;rintro e W2 ⟨rfl,hb2⟩;rw [bsl_mk];cases hB:isR T s bt
   ·clear c7 d0 d1 hbl h7;go_simp
    repeat (first|go_values|go_skip|go_guarded|go_step|go_upon)
    go_roundw
    case measure=>simp [intOf];omega
    case rel =>
    refine ⟨u4,.int .i64 ((j+1:Nat):Int),⟨j+1,by omega,rfl,Ext.trans HX2.out hb2,?_⟩,by simp⟩;rw [<- HFd.out];exact (opR_drop T s L j _ HBE.out hB).symm
   ·obtain rfl:R=bo:=by
     rw [<- HFd.out,List.drop_eq_getElem_cons hlt];have e:=Option.some.inj ((List.getElem?_eq_getElem hlt).symm.trans HBE.out);rw [e];simp only [opR,hB,if_true]
    have c7':=(hb2.cell (p:=⟨w.heap.size+1+1+1+1+1+1+1,k,none⟩) h7).trans c7;have d1':=(hb2.cell (p:=⟨gb,j * 2+1,none⟩) hbl).trans d1;have h7':=Nat.lt_of_lt_of_le h7 hb2.size;have hbl':=Nat.lt_of_lt_of_le hbl hb2.size;clear c7 d0 d1 hbl h7;go_simp
    repeat (first|go_values|go_skip|go_guarded|go_step|go_upon)
    go_returns;exact ⟨rfl,Ext.trans HX.out hb2⟩
  ·have hltI:¬ (j:Int)<(L.length:Int):=by omega
   obtain rfl:R=0:=by
    rw [<- HFd.out,List.drop_eq_nil_of_le (by omega)];rfl
   go_simp
   repeat (first|go_values|go_skip|go_guarded|go_step|go_upon)
   go_returns;exact ⟨rfl,HX.out⟩
def typL:List (List UInt8):=[[66,79,79,76],[73,78,84],[84,69,88,84]]
def typR (T:List Lx.Tok) (long:Nat) (s:PSt):Nat->List (List UInt8)->Int × PSt
 |_,[]=>(0,wrongP T long 10 s)
 |j,x::L=>if takeB T s x then (((j+1:Nat):Int),{ s with i:=s.i+1 }) else typR T long s (j+1) L
def typV:Array Value:= #[.string ⟨#[66,79,79,76]⟩,.string ⟨#[73,78,84]⟩,.string ⟨#[84,69,88,84]⟩]
theorem typV_get (j:Nat) (hj:j<3):∃ x:List UInt8,typL[j]?=some x/\typV[j]?=some (.string ⟨x.toArray⟩):=by
 rcases (by omega:j=0 ∨ j=1 ∨ j=2) with rfl|rfl|rfl<;>exact ⟨_,rfl,rfl⟩
theorem typR_drop (T:List Lx.Tok) (long:Nat) (s:PSt):∀ (L:List (List UInt8)) (j m:Nat) (x:List UInt8),L[j]?=some x->typR T long s (m+j) (L.drop j)=if takeB T s x then (((m+j+1:Nat):Int),{ s with i:=s.i+1 }) else typR T long s (m+j+1) (L.drop (j+1))
 |y::L,0,m,x,h=>by
  obtain rfl:y=x:=by simpa using h
  simp only [List.drop_zero,List.drop_succ_cons,typR,Nat.add_zero]
 |y::L,j+1,m,x,h=>by
  simp only [List.drop_succ_cons];have ih:=typR_drop T long s L j (m+1) x (by simpa using h);rw [show m+1+j=m+(j+1) by omega] at ih;exact ih
theorem rtyped_any (p g cap long:Nat) (T:List Lx.Tok) (s:PSt) (w:World) (h:RsAt w p g cap long T s) :
 Calls Tryz.prog 150 #[.pointer (some ⟨p,0,none⟩)] w fun e w'=>e= .returned (.int .i64 (typR T long s 0 typL).1)/\RsAt w' p g cap long T (typR T long s 0 typL).2/\LeP p w w':=by
 have KO:=h_ (fun (x:ByteArray) W (hW:RsAt W p g cap long T s)=>rtake_any p g cap long T s x W hW);have KF:=h_ (fun W (hW:RsAt W p g cap long T s)=>rfail_any p g cap long T s 10 W hW);have HP:=h_ h;obtain ⟨R,hR⟩:∃ R,R=typR T long s 0 typL:=⟨_,rfl⟩
 rw [<- hR];have HRf:=h_ hR;have hpl:=h.blk.lt;have HX0:=h_ (show Ext w (w.alloc (.cells typV 9)) from (Ext.refl _).alloc _);have HBL:=h_ (Blk.new w typV 9 rfl);have hnp:w.heap.size≠p:=by omega
 have Hnp:=h_ hnp;clear h hR hnp hpl;go_enter Tryz.func150,Tryz.ntmps150;go_simp
 repeat (first|go_values|go_skip|go_guarded|go_step|go_upon)
 go_loopw [4] (fun i wr=>∃ j:Nat,j<=3/\i= .int .i64 j/\LeP p (w.alloc (.cells typV 9)) wr/\RsAt wr p g cap long T s/\typR T long s j (typL.drop j)=R) (fun i _=>3 - (intOf i).toNat)
 case atStart=>exact ⟨0,Nat.zero_le _,rfl,LeP.refl _ _,HP.out.ext HX0.out,HRf.out.symm⟩
 case round =>
  obtain ⟨j,hj,rfl,hx,hp,hf⟩:=hrel;have HX:=h_ hx;have HPr:=h_ hp;have HFd:=h_ hf;have hb:=hx.blk HBL.out Hnp.out;clear hx hf hp;by_cases hlt:j<3
  ·have hltI:(j:Int)<3:=by omega
   obtain ⟨x,hx1,hx2⟩:=typV_get j hlt;have d0:=(hb.cell j).trans hx2;have hbl:=hb.lt;have HX1:=h_ hx1;clear hb hx1 hx2;go_simp
   repeat (first|go_values|go_skip|go_guarded|go_step|go_upon)
   refine Calls.mono (KO.out _ _ HPr.out) ?_;rintro e W2 ⟨rfl,hp2,hl2⟩;have HP2:=h_ hp2;have HL2:=h_ hl2;clear hp2 hl2 d0 hbl;rw [bsl_mk] at HP2 |-;have HD:=h_ ((typR_drop T long s typL j 0 x HX1.out).symm.trans ((congrArg (fun m=>typR T long s m (typL.drop j)) (Nat.zero_add j)).trans HFd.out));cases hB:takeB T s x
   ·rw [hB] at HP2;have hD:=HD.out;rw [hB] at hD;clear HD;go_simp
    repeat (first|go_values|go_skip|go_guarded|go_step|go_upon)
    go_roundw
    case measure=>simp [intOf];omega
    case rel =>
    refine ⟨u2,.int .i64 ((j+1:Nat):Int),⟨j+1,by omega,rfl,HX.out.trans HL2.out,HP2.out,?_⟩,by simp⟩;rw [Nat.zero_add] at hD;exact hD
   ·rw [hB] at HP2;obtain rfl:R=(((j+1:Nat):Int),{ s with i:=s.i+1 }):=by
     have hD:=HD.out;rw [hB,if_pos rfl,Nat.zero_add] at hD;exact hD.symm
    clear HD;have hsum:=IntWalk.i64_in (1+(j:Int)) (by omega);go_simp
    repeat (first|go_values|go_skip|go_guarded|go_step|go_upon)
    go_returns;exact ⟨by simp;omega,HP2.out,(LeP.ofExt HX0.out).trans (HX.out.trans HL2.out)⟩
  ·have hltI:¬ (j:Int)<3:=by omega
   obtain rfl:R=(0,wrongP T long 10 s):=by
    rw [<- HFd.out,List.drop_eq_nil_of_le (show typL.length<=j from (show 3<=j by omega))];rfl
   clear hb;go_simp
   repeat (first|go_values|go_skip|go_guarded|go_step|go_upon)
   refine Calls.mono (KF.out _ HPr.out) ?_;rintro e W2 ⟨rfl,hp2,hl2⟩;go_simp
   repeat (first|go_values|go_skip|go_guarded|go_step|go_upon)
   go_returns;exact ⟨rfl,hp2,(LeP.ofExt HX0.out).trans (HX.out.trans hl2)⟩
end Go.Proofs.YtimeipjcmffadaaGreatDoor
