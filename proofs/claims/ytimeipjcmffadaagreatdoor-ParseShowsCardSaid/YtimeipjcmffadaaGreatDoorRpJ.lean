import Derived.Test.YtimeipjcmffadaaGreatDoorRpE
import Derived.Test.YtimeipjcmffadaaGreatDoorRpG
set_option maxHeartbeats 16000000
namespace Go.Proofs.YtimeipjcmffadaaGreatDoor
open Go.RowKit Go.Lib
set_option maxRecDepth 100000
structure KidsIn (B:Nat) (W:World) (v:Value) (L:List PN) (out:List Tr):Prop where
 len:L.length=out.length
 own:W.ownsRow B 24 6 v L.length (cellsP L)
 tr:∀ (i:Nat) (x:PN) (y:Tr),L[i]?=some x->out[i]?=some y->TrAt (fun g=>B<=g/\g<W.heap.size/\v.ownBlock≠some g) W x y
theorem KidsIn.nil (B:Nat) (W:World):KidsIn B W (.slice none 0 0) [] []:=⟨rfl,World.ownsRow_nil ..,fun i x y h=>by cases h⟩
theorem KidsIn.later {B p:Nat} {W W':World} {v:Value} {L:List PN} {out:List Tr} (h:KidsIn B W v L out) (hx:LeP p W W') (hp:p<B):KidsIn B W' v L out:=by
 refine ⟨h.len,h.own.kept (row:=some p) ⟨hx.os,hx.tape,hx.out,hx.size,fun k hk hne=>hx.old k hk (fun e=>hne (by rw [e]))⟩ ?_,fun i x y h1 h2=>?_⟩
 ·cases hv:v.ownBlock with
  |none=>exact .inl rfl
  |some k=>have:=(h.own.lt k hv).1;exact .inr (fun e=>by have:=Option.some.inj e;omega)
 ·exact ((h.tr i x y h1 h2).later (p:=p) (fun g hg=>by omega) hx).mono fun g hg _=>⟨hg.1,Nat.lt_of_lt_of_le hg.2.1 hx.size,hg.2.2⟩
theorem KidsIn.push {B:Nat} {W W':World} {v v':Value} {L:List PN} {out:List Tr} (h:KidsIn B W v L out) (x:PN) (y:Tr) (hT:TrAt (fun g=>B<=g/\g<W.heap.size/\v.ownBlock≠some g) W x y)
 (ho:W'.ownsRow B 24 6 v' (L.length+1) (cellsP L++x.cells.toList)) (hg:W.grownBy W' v.ownBlock) (hb:v'.ownBlock=v.ownBlock ∨ v'.ownBlock=some W.heap.size):KidsIn B W' v' (L++[x]) (out++[y]):=by
 have hm:∀ (a:PN) (b:Tr),TrAt (fun g=>B<=g/\g<W.heap.size/\v.ownBlock≠some g) W a b->TrAt (fun g=>B<=g/\g<W'.heap.size/\v'.ownBlock≠some g) W' a b:=fun a b h1 =>
  (h1.same (fun g h2 h3=>hg.block g h3 (fun e=>h2.2.2 e.symm)) hg.size).mono fun g h2 _=>⟨h2.1,Nat.lt_of_lt_of_le h2.2.1 hg.size,by
   rcases hb with e|e
   ·rw [e];exact h2.2.2
   ·rw [e];intro e2;have:=Option.some.inj e2;omega⟩
 refine ⟨by simp [h.len],?_,fun i a b h1 h2=>?_⟩
 ·rw [List.length_append,show cellsP (L++[x])=cellsP L++x.cells.toList by simp [cellsP]];exact ho
 ·by_cases hi:i<L.length
  ·rw [List.getElem?_append_left hi] at h1;rw [List.getElem?_append_left (by rw [<- h.len];exact hi)] at h2;exact hm a b (h.tr i a b h1 h2)
  ·have hi1:=(List.getElem?_eq_some_iff.1 h1).1;simp only [List.length_append,List.length_cons,List.length_nil] at hi1;have e1:i=L.length:=by omega
   subst e1;rw [List.getElem?_append_right (Nat.le_refl _)] at h1;rw [List.getElem?_append_right (by rw [h.len];exact Nat.le_refl _),h.len] at h2;simp at h1 h2;subst h1 h2;exact hm _ _ hT
def ListPostR (p g cap long:Nat) (T:List Lx.Tok) (r:List Tr) (s':PSt) (w:World) (e:Ending) (w':World):Prop:=∃ (v:Value) (L:List PN),e= .returned v/\KidsIn w.heap.size w' v L r/\RsAt w' p g cap long T s'/\LeP p w w'
theorem leP_grown {p:Nat} {w W W':World} {v:Value} (h:LeP p w W) (hg:W.grownBy W' v.ownBlock) (hv:∀ k,v.ownBlock=some k->w.heap.size<=k):LeP p w W' :=
 ⟨hg.os.trans h.os,hg.tape.trans h.tape,hg.output.trans h.out,Nat.le_trans h.size hg.size,fun i hi hn=>(hg.block i (Nat.lt_of_lt_of_le hi h.size) (fun e=>by have:=hv i e.symm;omega)).trans (h.old i hi hn)⟩
theorem RsAt.grown {p g cap long:Nat} {T:List Lx.Tok} {s:PSt} {W W':World} {B:Nat} {v:Value} (h:RsAt W p g cap long T s) (hg:W.grownBy W' v.ownBlock) (hv:∀ k,v.ownBlock=some k->B<=k) (hp:p<B) (hgB:g<B):RsAt W' p g cap long T s :=
 ⟨(hg.block p h.blk.lt (fun e=>by have:=hv p e.symm;omega)).trans h.blk,h.tok.ext (hg.block g h.tok.1 (fun e=>by have:=hv g e.symm;omega)) hg.size,h.ne,h.le,h.cap,h.few,h.dp⟩
theorem rlist_any (p g cap long:Nat) (T:List Lx.Tok) (rec:RecR) (hrec:LevOkR p g cap long T rec) (hdp:DeepOk rec) (hinc:IncOk rec) (f:Nat) (s:PSt) (r:List Tr) (s':PSt) (w:World) (hf:listR rec T long f s=some (r,s')) (h:RsAt w p g cap long T s) :
 Calls Tryz.prog 148 #[.pointer (some ⟨p,0,none⟩)] w (ListPostR p g cap long T r s' w):=by
 have HP:=h_ h;have KT:=h_ (fun (s:PSt) (x:ByteArray) W (hW:RsAt W p g cap long T s)=>rtake_any p g cap long T s x W hW);have KI:=h_ (fun (s:PSt) (x:ByteArray) W (hW:RsAt W p g cap long T s)=>ris_any p g cap long T s x W hW);have KW:=h_ (fun (s:PSt) (x:ByteArray) W (hW:RsAt W p g cap long T s)=>rwant_any p g cap long T s x W hW);have KD:=h_ (fun (s:PSt) W (hW:RsAt W p g cap long T s)=>rin_any p g cap long T s W hW);have KF:=h_ (fun (s:PSt) W (hW:RsAt W p g cap long T s)=>rfail_any p g cap long T s 10 W hW);have HRec:=h_ hrec;have HDp:=h_ hdp;have HIn:=h_ hinc;have HFf:=h_ hf;have hpw:=h.blk.lt;have hgw:=h.tok.1;clear h hrec hdp hf hinc;unfold listR takeB at HFf;obtain ⟨⟨c1,c2,c4⟩,f1,f4,hpl⟩:=HP.out.cells;cases he:s.e == 0
 ·rw [he,Bool.false_and,if_neg (by decide)] at HFf;have hne:(s.e !=0)=true:=by simp only [bne,he];rfl
  obtain ⟨rfl,hfs⟩:=Prod.mk.inj (Option.some.inj HFf.out);have HFs:=h_ hfs;clear hfs HFf;go_enter Tryz.func148,Tryz.ntmps148;go_simp
  repeat (first|go_values|go_skip|go_guarded|go_step|go_upon)
  refine Calls.mono (KF.out s w HP.out) ?_;rw [HFs.out];rintro e W2 ⟨rfl,hp2,hl2⟩;go_simp
  repeat (first|go_values|go_skip|go_guarded|go_step|go_upon)
  go_returns;exact ⟨_,[],rfl,KidsIn.nil _ _,hp2,hl2⟩
 ·rw [he,Bool.true_and] at HFf;have hne:(s.e !=0)=false:=by simp only [bne,he];rfl
  go_enter Tryz.func148,Tryz.ntmps148;go_simp
  repeat (first|go_values|go_skip|go_guarded|go_step|go_upon)
  refine Calls.mono (KI.out s ⟨#[40]⟩ w HP.out) ?_;rw [show bsl ⟨#[40]⟩=[40] from rfl];cases hpar:isR T s [40]
  ·rw [hpar,if_neg (by decide)] at HFf;obtain ⟨rfl,hfs⟩:=Prod.mk.inj (Option.some.inj HFf.out);have HFs:=h_ hfs;clear hfs HFf;rintro e W1 ⟨rfl,hx1⟩;go_simp
   repeat (first|go_values|go_skip|go_guarded|go_step|go_upon)
   refine Calls.mono (KF.out s W1 (HP.out.ext hx1)) ?_;rw [HFs.out];rintro e W2 ⟨rfl,hp2,hl2⟩;go_simp
   repeat (first|go_values|go_skip|go_guarded|go_step|go_upon)
   go_returns;exact ⟨_,[],rfl,KidsIn.nil _ _,hp2,(LeP.ofExt hx1).trans hl2⟩
  ·rw [hpar,if_pos rfl] at HFf;have hil:=isR_lt hpar;rintro e W1 ⟨rfl,hx1⟩;have HP1:=h_ (HP.out.ext hx1);have HX1:=h_ (LeP.ofExt (p:=p) hx1);clear hx1 c1 c2 c4 f1 f4 hpl;go_simp
   repeat (first|go_values|go_skip|go_guarded|go_step|go_upon)
   refine Calls.mono (KD.out s W1 HP1.out) ?_;cases hin:inB s
   ·rw [hin,if_neg (by decide)] at HFf;obtain ⟨rfl,hfs⟩:=Prod.mk.inj (Option.some.inj HFf.out);have HFs:=h_ hfs;clear hfs HFf;rw [HFs.out];rintro e W2 ⟨rfl,hp2,hl2⟩;go_simp
    repeat (first|go_values|go_skip|go_guarded|go_step|go_upon)
    go_returns;exact ⟨_,[],rfl,KidsIn.nil _ _,hp2,HX1.out.trans hl2⟩
   ·rw [hin,if_pos rfl] at HFf;have hins:inS T long s={ s with deep:=s.deep+1 }:=by unfold inS;rw [hin];rfl
    rw [hins] at HFf |-;rintro e W2 ⟨rfl,hp2,hl2⟩;have HP2:=h_ hp2;have HX2:=h_ (HX1.out.trans hl2);clear hp2 hl2 HP1 HX1 HP;obtain ⟨i,deep,at_,er⟩:=s;simp only [advR] at HFf hil;obtain ⟨⟨c1,c2,c4⟩,f1,f4,hpl⟩:=HP2.out.cells;have hfew:=HP2.out.few;simp only at c1 c2 c4;have hsum:=IntWalk.i64_in ((i:Int)+1) (by omega);obtain ⟨m,hm,hq⟩:=Option.map_eq_some_iff.1 HFf.out;obtain ⟨hq1,hfs⟩:=Prod.mk.inj hq;have HFs:=h_ hfs;have HLp:=h_ hm;subst hq1;clear hm hq hfs HFf;go_simp
    repeat (first|go_values|go_skip|go_guarded|go_step|go_upon)
    have HP3:=h_ (show RsAt (W2.setCell ⟨p,1,none⟩ (.int .i64 ((i:Int)+1))) p g cap long T ⟨i+1,deep+1,at_,er⟩ from HP2.out.at (i+1) hil);have HX3:=h_ (HX2.out.trans (LeP.set (p:=p) (w:=W2) 1 (.int .i64 ((i:Int)+1))));clear c1 c2 c4 f1 f4 hpl HP2 HX2 hsum;generalize W2.setCell ⟨p,1,none⟩ (.int .i64 ((i:Int)+1))=W3 at HP3 HX3 |-;go_loopg [3] f (fun kk v wr=>∃ (L:List PN) (out:List Tr) (sa:PSt),KidsIn w.heap.size wr v L out/\RsAt wr p g cap long T sa/\LeP p w wr/\out.length<=sa.i/\listLoopR rec T kk out sa=some m/\sa.deep=deep+1)
    case atStart=>exact ⟨[],[],_,KidsIn.nil _ _,HP3.out,HX3.out,Nat.zero_le _,HLp.out,rfl⟩
    case round =>
     obtain ⟨L,out,sa,hk,hp,hx,hle,hst,hdd⟩:=hrel;have HK:=h_ hk;have HPa:=h_ hp;have HXa:=h_ hx;clear hk hp hx HP3 HX3 HLp;obtain ⟨⟨_,c2,_⟩,_,_,hpl⟩:=HPa.out.cells;cases gk with
     |zero=>cases hst
     |succ k' =>
      unfold listLoopR at hst;by_cases hea:sa.e=0
      ·rw [if_pos hea] at hst;have heb:(sa.e == 0)=true:=by simpa using hea
       obtain ⟨q,hq,hst2⟩:=Option.bind_eq_some_iff.1 hst;have HSt:=h_ hst2;have KL:=h_ (HRec.out 1 1 sa q.1 q.2 _ rfl (by decide) hq HPa.out);have hdq:=(HDp.out _ _ q.1 q.2 hq).trans hdd;have hiq:=HIn.out _ _ q.1 q.2 hq;have hlen:L.length<=4000:=by have:=HK.out.len;have:=HPa.out.le;have:=HPa.out.few;omega
       clear hst hst2 hq;go_simp
       repeat (first|go_values|go_skip|go_guarded|go_step|go_upon)
       refine Calls.mono KL.out ?_;rintro e W4 ⟨y,rfl,hty,hpy,hly⟩;have HKb:=h_ (HK.out.later hly hpw);have HPb:=h_ hpy;have HXb:=h_ (HXa.out.trans hly);have HTb:=h_ (hty.mono (B:=fun g=>w.heap.size<=g/\g<W4.heap.size/\u3.ownBlock≠some g) fun g h1 h2=>⟨Nat.le_trans HXa.out.size h1,h2,fun e=>by have:=(HK.out.own.lt g e).2;omega⟩);clear hty hpy hly KL HK HPa HXa c2 hpl;obtain ⟨xk,xo,xs,xt,xn,xla,xln,xlc⟩:=y;simp only [PN.v];have hx5:Ext W4 (W4.alloc (.cells #[.int .i64 xk,.int .i64 xo,.string xs,.string xt,.int .i64 xn,.slice xla xln xlc] 24)):=(Ext.refl W4).alloc _;have HKc:=h_ (HKb.out.later (LeP.ofExt (p:=p) hx5) hpw);have HPc:=h_ (HPb.out.ext hx5);have HXc:=h_ (HXb.out.trans (LeP.ofExt (p:=p) hx5));have HTc:=h_ ((HTb.out.later (p:=p) (fun g h=>by omega) (LeP.ofExt hx5)).mono (B:=fun g=>w.heap.size<=g/\g<(W4.alloc (.cells #[.int .i64 xk,.int .i64 xo,.string xs,.string xt,.int .i64 xn,.slice xla xln xlc] 24)).heap.size/\u3.ownBlock≠some g) fun g h _=>⟨h.1,Nat.lt_of_lt_of_le h.2.1 hx5.size,h.2.2⟩);have HNb:=h_ (Blk.new W4 #[.int .i64 xk,.int .i64 xo,.string xs,.string xt,.int .i64 xn,.slice xla xln xlc] 24 rfl);clear hx5 HKb HPb HXb HTb;go_wp2_with (at_builtin;refine wpList_push rfl _ _ _ rfl w.heap.size 24 (.agg z6) 6 80 Tryz.underlying22 infoNd rfl (by decide) u3 L.length (cellsP L) rfl HKc.out.own W4.heap.size 24 #[.int .i64 xk,.int .i64 xo,.string xs,.string xt,.int .i64 xn,.slice xla xln xlc] rfl HNb.out rfl (by simp [Value.oneCell']) (by unfold maxLen;omega) (by omega) HXc.out.size ?_;intro v5 w5 hown hgr hat);have HKd:=h_ (HKc.out.push ⟨xk,xo,xs,xt,xn,xla,xln,xlc⟩ q.1 HTc.out hown hgr hat);have HPd:=h_ (HPc.out.grown hgr (fun k h=>(HKc.out.own.lt k h).1) hpw hgw);have HXd:=h_ (leP_grown HXc.out hgr (fun k h=>(HKc.out.own.lt k h).1));clear hown hgr hat HKc HPc HXc HTc HNb;go_simp
       repeat (first|go_values|go_skip|go_guarded|go_step|go_upon)
       refine Calls.mono (KT.out q.2 ⟨#[44]⟩ w5 HPd.out) ?_;rw [show bsl ⟨#[44]⟩=[44] from rfl];cases hcm:takeB T q.2 [44]
       ·have hst:=HSt.out;rw [hcm,if_neg (by decide)] at hst;obtain rfl:=Option.some.inj hst;rintro e W6 ⟨rfl,hp6,hl6⟩;have HPn:=h_ (show RsAt W6 p g cap long T q.2 from hp6);have HKn:=h_ (HKd.out.later hl6 hpw);have HXn:=h_ (HXd.out.trans hl6);have hdn:q.2.deep=deep+1:=hdq;clear hp6 hl6 HPd HKd HXd hst HSt;go_simp
        repeat (first|go_values|go_skip|go_guarded|go_step|go_upon)
        refine Calls.mono (KW.out q.2 ⟨#[41]⟩ W6 HPn.out) ?_;simp only at HFs;rw [show bsl ⟨#[41]⟩=[41] from rfl];have hd9:(wantR T long q.2 [41]).deep=deep+1:=(deep_want ..).trans hdn;generalize wantR T long q.2 [41]=s9 at hd9 HFs |-;rintro e W9 ⟨rfl,hp9,hl9⟩;have HP9:=h_ hp9;have HK9:=h_ ((HKn.out.later hl9 hpw).later (LeP.set (p:=p) (w:=W9) 4 (.int .i64 ((s9.deep:Int) - 1))) hpw);have HX9:=h_ (HXn.out.trans hl9);clear hp9 hl9 HPn HKn HXn;obtain ⟨⟨_,_,k4⟩,_,q4,hpl9⟩:=HP9.out.cells;have HP10:=h_ (show RsAt (W9.setCell ⟨p,4,none⟩ (.int .i64 ((s9.deep:Int) - 1))) p g cap long T s' from by rw [<- HFs.out];exact HP9.out.dec (by omega));obtain ⟨D,hD⟩:∃ D:Int,D=(s9.deep:Int):=⟨_,rfl⟩
        rw [<- hD] at k4 HP10 HK9;have hsub:=IntWalk.i64_in (D - 1) (by have:=HP9.out.dp;omega);have hD':=h_ hD;clear hD;go_simp
        repeat (first|go_values|go_skip|go_guarded|go_step|go_upon)
        go_returns;exact ⟨_,_,rfl,HK9.out,HP10.out,HX9.out.trans (LeP.set 4 _)⟩
       ·have hst:=HSt.out;rw [hcm,if_pos rfl] at hst;rintro e W6 ⟨rfl,hp6,hl6⟩;have HPn:=h_ (show RsAt W6 p g cap long T (advR q.2) from hp6);have HKn:=h_ (HKd.out.later hl6 hpw);have HXn:=h_ (HXd.out.trans hl6);have HSn:=h_ hst;clear hp6 hl6 HPd HKd HXd hst HSt;go_simp
        repeat (first|go_values|go_skip|go_guarded|go_step|go_upon)
        go_roundg k'
        case measure=>omega
        case rel=>exact ⟨_,_,advR q.2,HKn.out,HPn.out,HXn.out,(by simp only [List.length_append,List.length_cons,List.length_nil,advR];omega),HSn.out,hdq⟩
      ·rw [if_neg hea] at hst;obtain rfl:=Option.some.inj hst;have heb:(sa.e == 0)=false:=by simpa using hea
       have HPn:=HPa;have HKn:=HK;have HXn:=HXa;clear hst;go_simp
       repeat (first|go_values|go_skip|go_guarded|go_step|go_upon)
       refine Calls.mono (KW.out sa ⟨#[41]⟩ wr HPn.out) ?_;simp only at HFs;rw [show bsl ⟨#[41]⟩=[41] from rfl];have hd9:(wantR T long sa [41]).deep=deep+1:=(deep_want ..).trans hdd;generalize wantR T long sa [41]=s9 at hd9 HFs |-;rintro e W9 ⟨rfl,hp9,hl9⟩;have HP9:=h_ hp9;have HK9:=h_ ((HKn.out.later hl9 hpw).later (LeP.set (p:=p) (w:=W9) 4 (.int .i64 ((s9.deep:Int) - 1))) hpw);have HX9:=h_ (HXn.out.trans hl9);clear hp9 hl9 HPn HKn HXn;obtain ⟨⟨_,_,k4⟩,_,q4,hpl9⟩:=HP9.out.cells;have HP10:=h_ (show RsAt (W9.setCell ⟨p,4,none⟩ (.int .i64 ((s9.deep:Int) - 1))) p g cap long T s' from by rw [<- HFs.out];exact HP9.out.dec (by omega));obtain ⟨D,hD⟩:∃ D:Int,D=(s9.deep:Int):=⟨_,rfl⟩
       rw [<- hD] at k4 HP10 HK9;have hsub:=IntWalk.i64_in (D - 1) (by have:=HP9.out.dp;omega);have hD':=h_ hD;clear hD;go_simp
       repeat (first|go_values|go_skip|go_guarded|go_step|go_upon)
       go_returns;exact ⟨_,_,rfl,HK9.out,HP10.out,HX9.out.trans (LeP.set 4 _)⟩
theorem Rst.cells {w0 W:World} {p g cap long:Nat} {T:List Lx.Tok} {s:PSt} (h:Rst w0 p g cap long T s W):(∀ j,W.cell? ⟨p,j,none⟩=(rsC g cap T.length long s)[j]?)/\p<W.heap.size:=⟨h.rs.blk.cell,h.rs.blk.lt⟩
theorem rfirst_int (p g cap long:Nat) (T:List Lx.Tok) (s:PSt) (he:s.e=0) (hk:kindR T s=3) (w:World) (h:RsAt w p g cap long T s) :
 Calls Tryz.prog 83 #[.pointer (some ⟨p,0,none⟩)] w (LevPostR p g cap long T (.mk 2 0 [] [] (tokN T s) []) (advR s) w):=by
 have mixed:Tryz.prog.follows .mixedOrders=true:=by kernel_rfl
 have HS0:=h_ (Rst.start h);have KK:=h_ (rkind_any p g cap long T s _ (Rst.start h).rs);have hl:=kindR_lt (T:=T) (s:=s) (by rw [hk];decide);obtain ⟨t,ht⟩:∃ t,T[s.i]?=some t:=⟨_,List.getElem?_eq_getElem hl⟩
 have hn:tokN T s=t.n:=by unfold tokN;rw [ht]
 rw [hn];rw [hk] at KK;have HT:=h_ ht;obtain ⟨⟨c1,c2,c4⟩,f1,f4,hpl⟩:=(Rst.start h).rs.cells;have hfew:=h.few;clear hk ht hn h;obtain ⟨i,deep,at_,er⟩:=s;simp only at he hl c1 c2 c4 HT;subst he;go_enter Tryz.func83,Tryz.ntmps83;go_simp
 repeat (first|go_values|go_skip|go_guarded|go_step|go_upon)
 refine Calls.mono KK.out ?_;rintro e W1 ⟨rfl,hx1⟩;have HS1:=h_ (HS0.out.ext hx1);clear hx1 KK HS0 c1 c2 c4 f1 f4 hpl;obtain ⟨⟨c1,c2,c4⟩,f1,f4,hpl⟩:=HS1.out.rs.cells;simp only at c1 c2 c4;have hsum:=IntWalk.i64_in ((i:Int)+1) (by omega);go_simp
 repeat (first|go_values|go_skip|go_guarded|go_step|go_upon)
 have HS2:=h_ (show Rst w p g cap long T ⟨i+1,deep,at_,0⟩ (W1.setCell ⟨p,1,none⟩ (.int .i64 ((i:Int)+1))) from HS1.out.at (i+1) hl);clear HS1 c1 c2 c4 f1 f4 hpl;generalize W1.setCell ⟨p,1,none⟩ (.int .i64 ((i:Int)+1))=W2 at HS2 |-;have hnw:w.heap.size≠p:=by have:=HS2.out.hp;omega
 obtain ⟨n,hnn⟩:∃ n,n=T.length:=⟨_,rfl⟩
 have HF:=h_ (show ∀ W,Ext W2 W->(∀ j,W.cell? ⟨p,j,none⟩=(#[.slice (some ⟨g,0,none⟩) n cap,.int .i64 ((i:Int)+1),.int .i64 0,.int .i64 at_,.int .i64 deep,.int .i64 long]:Array Value)[j]?)/\W.cell? ⟨g,i * 4+2,none⟩=some (.int .i64 t.n) from fun W hW=>by
  have h3:=HS2.out.rs.ext hW;refine ⟨fun j=>?_,(h3.tok.get HT.out).2.2.1⟩;have hb:=h3.blk.cell j;unfold rsC at hb;rw [psA_pos (by omega),<- hnn] at hb;exact hb)
 have hlI:(i:Int)<(n:Int):=by omega
 have hdif:=IntWalk.i64_in ((i:Int)+1 - 1) (by omega);rw [show (i:Int)+1 - 1=(i:Int) by omega] at hdif;obtain ⟨N,hN⟩:∃ N:Int,N=(t.n:Int):=⟨_,rfl⟩
 rw [<- hN] at HF |-;refine wp_parZF [] (leX) [0,1,2,3,4,5,6,7,8,9,10,11,12,13] 13 13 (fun
  |0=>fun _ v _=>v= .pointer (some ⟨p,0,none⟩)
  |1=>fun _ v _=>v= .pointer (some ⟨p,0,none⟩)
  |2=>fun _ v _=>v= .pointer (some ⟨p,0,none⟩)
  |3=>fun _ v _=>v= .slice (some ⟨g,0,none⟩) n cap
  |4=>fun _ v _=>v= .pointer (some ⟨p,0,none⟩)
  |5=>fun _ v _=>v= .pointer (some ⟨p,0,none⟩)
  |6=>fun _ v _=>v= .pointer (some ⟨p,1,none⟩)
  |7=>fun _ v _=>v= .int .i64 ((i:Int)+1)
  |8=>fun _ v _=>v= .int .i64 i
  |9=>fun _ v _=>v= .pointer (some ⟨g,i * 4,none⟩)
  |10=>fun _ v _=>v= .pointer (some ⟨g,i * 4+2,none⟩)
  |11=>fun _ v _=>v= .int .i64 N
  |12=>fun _ v _=>v= .agg #[.int .i64 2,.int .i64 0,.string ⟨#[]⟩,.string ⟨#[]⟩,.int .i64 N,.slice none 0 0]
  |_=>fun _ _ _=>True) (fun
  |_=>undef) (by kernel_rfl) (by kernel_rfl) (by kernel_rfl) ?_ ?_ ?_ ?_ ?_
 ·simp (maxSteps:=20000000) only [permL,permOp,List.filterMap_cons,List.filterMap_nil,List.getElem?_cons_succ,List.getElem?_cons_zero,Option.map_some,Option.map_none,List.take_succ_cons,List.take_zero,ParAllG,Act.put,List.setIfInBounds_toArray,List.set_cons_succ,List.set_cons_zero];refine ⟨?_,?_,?_,?_,?_,?_,?_,?_,?_,?_,?_,?_,?_,trivial⟩
  all_goals
   intro vals W hx hd;have hW:=HF.out W hx;simp [PDepsG,pdeps,Region.binds,List.idxOf_cons] at hd
   first
    |refine ParObG.plain rfl ?_
    |refine ParObG.wanted (by simp [Region.wanted,yielded,hd]) ?_
  iterate 13
   next =>
    go_simp;exact ParPostG.same (leX) fun _ _=>rfl
 ·simp (maxSteps:=20000000) only [permL,permOp,List.filterMap_cons,List.filterMap_nil,List.getElem?_cons_succ,List.getElem?_cons_zero,Option.map_some,Option.map_none,List.drop_succ_cons,List.drop_zero,List.take_succ_cons,List.take_zero,Nat.reduceSub,ZAll,ParEnd,Act.put,List.setIfInBounds_toArray,List.set_cons_succ,List.set_cons_zero]
 ·intro i hi;cases hi
 ·intro i hi;cases hi
 intro vals W hx hf hz hdist;simp (maxSteps:=20000000) only [permL,permOp,List.filterMap_cons,List.filterMap_nil,List.getElem?_cons_succ,List.getElem?_cons_zero,Option.map_some,Option.map_none,ParFactsG,List.take_succ_cons,List.take_zero,and_true,Nat.reduceAdd] at hf;obtain ⟨f0,f1,f2,f3,f4,f5,f6,f7,f8,f9,f10,f11,f12⟩:=hf;clear hz;simp (maxSteps:=20000000) only [permL,permOp,List.filterMap_cons,List.filterMap_nil,List.getElem?_cons_succ,List.getElem?_cons_zero,Option.map_some,Option.map_none,List.drop_succ_cons,List.drop_zero,List.take_succ_cons,List.take_zero,Nat.reduceSub,ParEnd,ZTail,Act.put,List.setIfInBounds_toArray,List.set_cons_succ,List.set_cons_zero,Nat.reduceAdd,f0,f1,f2,f3,f4,f5,f6,f7,f8,f9,f10,f11,f12];clear f0 f1 f2 f3 f4 f5 f6 f7 f8 f9 f10 f11 f12;have HS:=h_ (HS2.out.ext hx);refine ⟨?_⟩;have hrb:=HS.out.res;have HRr:=h_ hrb;obtain ⟨cr,fr⟩:=hrb.facts;have hrl:=hrb.lt;clear hrb;go_simp
 repeat (first|go_values|go_skip|go_guarded|go_step|go_upon)
 refine bodyPost_ret (ret_ndP rfl _ rfl rfl (blk6P HRr.out _ _ _ _ _ _)) rfl ?_;subst hN;exact HS.out.done ⟨2,0,⟨#[]⟩,⟨#[]⟩,t.n,none,0,0⟩ _ (.leaf 2 0 [] [] t.n) _ _ _ _ _ _
theorem rfirst_text (p g cap long:Nat) (T:List Lx.Tok) (s:PSt) (he:s.e=0) (hk:kindR T s=4) (w:World) (h:RsAt w p g cap long T s) :
 Calls Tryz.prog 83 #[.pointer (some ⟨p,0,none⟩)] w (LevPostR p g cap long T (.mk 3 0 (textP T s) [] 0 []) (advR s) w):=by
 have mixed:Tryz.prog.follows .mixedOrders=true:=by kernel_rfl
 have HS0:=h_ (Rst.start h);have KK:=h_ (fun W (hW:RsAt W p g cap long T s)=>rkind_any p g cap long T s W hW);have hl:=kindR_lt (T:=T) (s:=s) (by rw [hk];decide);obtain ⟨t,ht⟩:∃ t,T[s.i]?=some t:=⟨_,List.getElem?_eq_getElem hl⟩
 have hn:textP T s=t.text:=by unfold textP;rw [ht]
 rw [hn];rw [hk] at KK;have HT:=h_ ht;obtain ⟨⟨c1,c2,c4⟩,f1,f4,hpl⟩:=(Rst.start h).rs.cells;have hfew:=h.few;clear hk ht hn h;obtain ⟨i,deep,at_,er⟩:=s;simp only at he hl c1 c2 c4 HT;subst he;go_enter Tryz.func83,Tryz.ntmps83;go_simp
 repeat (first|go_values|go_skip|go_guarded|go_step|go_upon)
 refine Calls.mono (KK.out _ HS0.out.rs) ?_;rintro e W0 ⟨rfl,hx0⟩;have HS0b:=h_ (HS0.out.ext hx0);clear hx0 HS0;go_simp
 repeat (first|go_values|go_skip|go_guarded|go_step|go_upon)
 refine Calls.mono (KK.out _ HS0b.out.rs) ?_;rintro e W1 ⟨rfl,hx1⟩;have HS1:=h_ (HS0b.out.ext hx1);clear hx1 KK HS0b c1 c2 c4 f1 f4 hpl;obtain ⟨⟨c1,c2,c4⟩,f1,f4,hpl⟩:=HS1.out.rs.cells;simp only at c1 c2 c4;have hsum:=IntWalk.i64_in ((i:Int)+1) (by omega);go_simp
 repeat (first|go_values|go_skip|go_guarded|go_step|go_upon)
 have HS2:=h_ (show Rst w p g cap long T ⟨i+1,deep,at_,0⟩ (W1.setCell ⟨p,1,none⟩ (.int .i64 ((i:Int)+1))) from HS1.out.at (i+1) hl);clear HS1 c1 c2 c4 f1 f4 hpl;generalize W1.setCell ⟨p,1,none⟩ (.int .i64 ((i:Int)+1))=W2 at HS2 |-;have hnw:w.heap.size≠p:=by have:=HS2.out.hp;omega
 obtain ⟨n,hnn⟩:∃ n,n=T.length:=⟨_,rfl⟩
 have HF:=h_ (show ∀ W,Ext W2 W->(∀ j,W.cell? ⟨p,j,none⟩=(#[.slice (some ⟨g,0,none⟩) n cap,.int .i64 ((i:Int)+1),.int .i64 0,.int .i64 at_,.int .i64 deep,.int .i64 long]:Array Value)[j]?)/\W.cell? ⟨g,i * 4+1,none⟩=some (.string ⟨t.text.toArray⟩) from fun W hW=>by
  have h3:=HS2.out.rs.ext hW;refine ⟨fun j=>?_,(h3.tok.get HT.out).2.1⟩;have hb:=h3.blk.cell j;unfold rsC at hb;rw [psA_pos (by omega),<- hnn] at hb;exact hb)
 have hlI:(i:Int)<(n:Int):=by omega
 have hdif:=IntWalk.i64_in ((i:Int)+1 - 1) (by omega);rw [show (i:Int)+1 - 1=(i:Int) by omega] at hdif;refine wp_parZF [] (leX) [0,1,2,3,4,5,6,7,8,9,10,11,12,13] 13 13 (fun
  |0=>fun _ v _=>v= .pointer (some ⟨p,0,none⟩)
  |1=>fun _ v _=>v= .pointer (some ⟨p,0,none⟩)
  |2=>fun _ v _=>v= .pointer (some ⟨p,0,none⟩)
  |3=>fun _ v _=>v= .slice (some ⟨g,0,none⟩) n cap
  |4=>fun _ v _=>v= .pointer (some ⟨p,0,none⟩)
  |5=>fun _ v _=>v= .pointer (some ⟨p,0,none⟩)
  |6=>fun _ v _=>v= .pointer (some ⟨p,1,none⟩)
  |7=>fun _ v _=>v= .int .i64 ((i:Int)+1)
  |8=>fun _ v _=>v= .int .i64 i
  |9=>fun _ v _=>v= .pointer (some ⟨g,i * 4,none⟩)
  |10=>fun _ v _=>v= .pointer (some ⟨g,i * 4+1,none⟩)
  |11=>fun _ v _=>v= .string ⟨t.text.toArray⟩
  |12=>fun _ v _=>v= .agg #[.int .i64 3,.int .i64 0,.string ⟨t.text.toArray⟩,.string ⟨#[]⟩,.int .i64 0,.slice none 0 0]
  |_=>fun _ _ _=>True) (fun
  |_=>undef) (by kernel_rfl) (by kernel_rfl) (by kernel_rfl) ?_ ?_ ?_ ?_ ?_
 ·simp (maxSteps:=20000000) only [permL,permOp,List.filterMap_cons,List.filterMap_nil,List.getElem?_cons_succ,List.getElem?_cons_zero,Option.map_some,Option.map_none,List.take_succ_cons,List.take_zero,ParAllG,Act.put,List.setIfInBounds_toArray,List.set_cons_succ,List.set_cons_zero];refine ⟨?_,?_,?_,?_,?_,?_,?_,?_,?_,?_,?_,?_,?_,trivial⟩
  all_goals
   intro vals W hx hd;have hW:=HF.out W hx;simp [PDepsG,pdeps,Region.binds,List.idxOf_cons] at hd
   first
    |refine ParObG.plain rfl ?_
    |refine ParObG.wanted (by simp [Region.wanted,yielded,hd]) ?_
  iterate 13
   next =>
    go_simp;exact ParPostG.same (leX) fun _ _=>rfl
 ·simp (maxSteps:=20000000) only [permL,permOp,List.filterMap_cons,List.filterMap_nil,List.getElem?_cons_succ,List.getElem?_cons_zero,Option.map_some,Option.map_none,List.drop_succ_cons,List.drop_zero,List.take_succ_cons,List.take_zero,Nat.reduceSub,ZAll,ParEnd,Act.put,List.setIfInBounds_toArray,List.set_cons_succ,List.set_cons_zero]
 ·intro i hi;cases hi
 ·intro i hi;cases hi
 intro vals W hx hf hz hdist;simp (maxSteps:=20000000) only [permL,permOp,List.filterMap_cons,List.filterMap_nil,List.getElem?_cons_succ,List.getElem?_cons_zero,Option.map_some,Option.map_none,ParFactsG,List.take_succ_cons,List.take_zero,and_true,Nat.reduceAdd] at hf;obtain ⟨f0,f1,f2,f3,f4,f5,f6,f7,f8,f9,f10,f11,f12⟩:=hf;clear hz;simp (maxSteps:=20000000) only [permL,permOp,List.filterMap_cons,List.filterMap_nil,List.getElem?_cons_succ,List.getElem?_cons_zero,Option.map_some,Option.map_none,List.drop_succ_cons,List.drop_zero,List.take_succ_cons,List.take_zero,Nat.reduceSub,ParEnd,ZTail,Act.put,List.setIfInBounds_toArray,List.set_cons_succ,List.set_cons_zero,Nat.reduceAdd,f0,f1,f2,f3,f4,f5,f6,f7,f8,f9,f10,f11,f12];clear f0 f1 f2 f3 f4 f5 f6 f7 f8 f9 f10 f11 f12;have HS:=h_ (HS2.out.ext hx);refine ⟨?_⟩;have hrb:=HS.out.res;have HRr:=h_ hrb;obtain ⟨cr,fr⟩:=hrb.facts;have hrl:=hrb.lt;clear hrb;go_simp
 repeat (first|go_values|go_skip|go_guarded|go_step|go_upon)
 refine bodyPost_ret (ret_ndP rfl _ rfl rfl (blk6P HRr.out _ _ _ _ _ _)) rfl ?_;exact HS.out.done ⟨3,0,⟨t.text.toArray⟩,⟨#[]⟩,0,none,0,0⟩ _ (.leaf 3 0 t.text [] 0) _ _ _ _ _ _
theorem rfirst_err (p g cap long:Nat) (T:List Lx.Tok) (s:PSt) (he:s.e≠0) (w:World) (h:RsAt w p g cap long T s) :
 Calls Tryz.prog 83 #[.pointer (some ⟨p,0,none⟩)] w (LevPostR p g cap long T zTr s w):=by
 have HS:=h_ (show Rst w p g cap long T s (w.alloc (.cells #[.int .i64 0,.int .i64 0,.string ⟨#[]⟩,.string ⟨#[]⟩,.int .i64 0,.slice none 0 0] 24)) from Rst.start h);have heb:(s.e !=0)=true:=by simpa [bne] using he
 clear h;go_enter Tryz.func83,Tryz.ntmps83;go_upto_region 1 with (fail)
 generalize (w.alloc (.cells #[.int .i64 0,.int .i64 0,.string ⟨#[]⟩,.string ⟨#[]⟩,.int .i64 0,.slice none 0 0] 24))=W0 at HS |-;obtain ⟨⟨c1,c2,c4⟩,f1,f4,hpl⟩:=HS.out.rs.cells;obtain ⟨E,hE⟩:∃ E,E=s.e:=⟨_,rfl⟩
 rw [<- hE] at c2 heb;clear hE he;have hrb:=HS.out.res;have HRr:=h_ hrb;obtain ⟨cr,fr⟩:=hrb.facts;have hrl:=hrb.lt;clear hrb;go_simp
 repeat (first|go_values|go_skip|go_guarded|go_step|go_upon)
 refine bodyPost_ret (ret_ndP rfl _ rfl rfl (blk6P HRr.out _ _ _ _ _ _)) rfl ?_;exact HS.out.done ⟨0,0,⟨#[]⟩,⟨#[]⟩,0,none,0,0⟩ _ (.leaf 0 0 [] [] 0) _ _ _ _ _ _
theorem rfirst_name (p g cap long:Nat) (T:List Lx.Tok) (rec:RecR) (hrec:LevOkR p g cap long T rec) (hdp:DeepOk rec) (s:PSt) (he:s.e=0) (hk:kindR T s=1) (r:Tr) (s':PSt) (hf:namedR rec T long s=some (r,s')) (w:World) (h:RsAt w p g cap long T s) :
 Calls Tryz.prog 83 #[.pointer (some ⟨p,0,none⟩)] w (LevPostR p g cap long T r s' w):=by
 have HS0:=h_ (Rst.start h);have KK:=h_ (fun W (hW:RsAt W p g cap long T s)=>rkind_any p g cap long T s W hW);have KN:=h_ (fun W (hW:RsAt W p g cap long T s)=>rnamed_any p g cap long T rec hrec hdp s (by unfold nameB;rw [hk,he];rfl) r s' W hf hW);rw [hk] at KK;obtain ⟨⟨c1,c2,c4⟩,f1,f4,hpl⟩:=(Rst.start h).rs.cells;rw [he] at c2;clear h hk hf hrec hdp he;go_enter Tryz.func83,Tryz.ntmps83;go_simp
 repeat (first|go_values|go_skip|go_guarded|go_step|go_upon)
 refine Calls.mono (KK.out _ HS0.out.rs) ?_;rintro e W0 ⟨rfl,hx0⟩;have HS1:=h_ (HS0.out.ext hx0);clear hx0 HS0;go_simp
 repeat (first|go_values|go_skip|go_guarded|go_step|go_upon)
 refine Calls.mono (KK.out _ HS1.out.rs) ?_;rintro e W1 ⟨rfl,hx1⟩;have HS2:=h_ (HS1.out.ext hx1);clear hx1 HS1;go_simp
 repeat (first|go_values|go_skip|go_guarded|go_step|go_upon)
 refine Calls.mono (KK.out _ HS2.out.rs) ?_;rintro e W2 ⟨rfl,hx2⟩;have HS3:=h_ (HS2.out.ext hx2);clear hx2 HS2 KK;go_simp
 repeat (first|go_values|go_skip|go_guarded|go_step|go_upon)
 refine Calls.mono (KN.out _ HS3.out.rs) ?_;rintro e W3 ⟨y,rfl,hty,hpy,hly⟩;have hsz:w.heap.size<W2.heap.size:=HS3.out.res.lt;have HS:=h_ (HS3.out.call hpy hly);have HT:=h_ (hty.mono (B:=(w.heap.size< ·)) fun g h1 _=>by show w.heap.size<g;omega);clear hty hpy hly HS3 KN c1 c2 c4 f1 f4 hpl;obtain ⟨xk,xo,xs,xt,xn,xla,xln,xlc⟩:=y;simp only [PN.v];have hrb:=HS.out.res;have HRr:=h_ hrb;obtain ⟨cr,fr⟩:=hrb.facts;have hrl:=hrb.lt;clear hrb;go_simp
 repeat (first|go_values|go_skip|go_guarded|go_step|go_upon)
 refine bodyPost_ret (ret_ndP rfl _ rfl rfl (blk6P HRr.out _ _ _ _ _ _)) rfl ?_;exact HS.out.done ⟨xk,xo,xs,xt,xn,xla,xln,xlc⟩ _ HT.out _ _ _ _ _ _
end Go.Proofs.YtimeipjcmffadaaGreatDoor
