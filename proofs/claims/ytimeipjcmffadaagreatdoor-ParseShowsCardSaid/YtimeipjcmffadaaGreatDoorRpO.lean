import Derived.Test.YtimeipjcmffadaaGreatDoorRpN
import Derived.Test.YtimeipjcmffadaaGreatDoorRpW
set_option maxHeartbeats 16000000
namespace Go.Proofs.YtimeipjcmffadaaGreatDoor
open Go.RowKit Go.Lib
set_option maxRecDepth 100000
def nameRR (p g cap long:Nat) (T:List Lx.Tok) (x:List UInt8) (s':PSt) (v:Value) (w:World):Prop:=v= .string ⟨x.toArray⟩/\RsAt w p g cap long T s'
def soloR (n0:Nat) (x:PN) (v:Value) (w:World):Prop:=∃ gs:Nat,v= .slice (some ⟨gs,0,none⟩) 1 1/\n0<=gs/\PnAt w gs [x]
def collR (n0:Nat) (s:List UInt8) (x:PN) (v:Value) (w:World):Prop:=∃ gs:Nat,v= .agg #[.int .i64 11,.int .i64 0,.string ⟨s.toArray⟩,.string ⟨#[]⟩,.int .i64 0,.slice (some ⟨gs,0,none⟩) 1 1]/\n0<=gs/\PnAt w gs [x]
theorem Rst.row {w0 W:World} {p g cap long:Nat} {T:List Lx.Tok} {s:PSt} (h:Rst w0 p g cap long T s W) {b:Nat} (hb:w0.heap.size<b) (V:Array Value):Rst w0 p g cap long T s (W.setRow b V) :=
 ⟨h.rs.row (by have:=h.hp;omega) (by have:=h.hg;omega) V,h.le.row (by omega) V,(setRow_other W b w0.heap.size V (by omega)).trans h.res,h.hp,h.hg⟩
theorem rexpr_coll (p g cap long:Nat) (T:List Lx.Tok) (rec:RecR) (hrec:LevOkR p g cap long T rec) (hdp:DeepOk rec) (f:Nat) (s:PSt) (he:s.e=0) (r:Tr) (s':PSt) (w:World) (hf:((firstR rec T long s).bind fun m=>collLoopR T long f m.1 m.2)=some (r,s')) (h:RsAt w p g cap long T s) :
 Calls Tryz.prog 45 #[.pointer (some ⟨p,0,none⟩),.int .i64 11] w (LevPostR p g cap long T r s' w):=by
 have mixed:Tryz.prog.follows .mixedOrders=true:=by kernel_rfl
 have HS0:=h_ (show Rst w p g cap long T s (w.alloc (.cells #[.int .i64 0,.int .i64 0,.string ⟨#[]⟩,.string ⟨#[]⟩,.int .i64 0,.slice none 0 0] 24)) from Rst.start h);have KT:=h_ (fun (s:PSt) (x:ByteArray) W (hW:RsAt W p g cap long T s)=>rtake_any p g cap long T s x W hW);have KN:=h_ (fun (s:PSt) W (hW:RsAt W p g cap long T s)=>rname_any p g cap long T s W hW);obtain ⟨m,hm,hq⟩:=Option.bind_eq_some_iff.1 hf;have HQ:=h_ hq;have KL:=h_ (fun W (hW:RsAt W p g cap long T s)=>rfirst_any p g cap long T rec hrec hdp s m.1 m.2 hm W hW);clear h hrec hdp hf hm hq;go_enter Tryz.func45,Tryz.ntmps45;go_upto_region 1 with (fail)
 generalize (w.alloc (.cells #[.int .i64 0,.int .i64 0,.string ⟨#[]⟩,.string ⟨#[]⟩,.int .i64 0,.slice none 0 0] 24))=W0 at HS0 |-;obtain ⟨⟨c1,c2,c4⟩,f1,f4,hpl⟩:=HS0.out.rs.cells;rw [he] at c2;go_simp
 repeat (first|go_values|go_skip|go_guarded|go_step|go_upon)
 refine Calls.mono (KL.out W0 HS0.out.rs) ?_;rintro e W1 ⟨y,rfl,hty,hpy,hly⟩;have hsz:w.heap.size<W0.heap.size:=HS0.out.res.lt;have HS1:=h_ (HS0.out.call hpy hly);have HT1:=h_ (hty.mono (B:=fun g=>w.heap.size<g/\g<W1.heap.size) fun g h1 h2=>⟨by omega,h2⟩);have hly1:=hly.size;clear hty hpy hly HS0 c1 c2 c4 f1 f4 hpl KL;obtain ⟨xk,xo,xs,xt,xn,xla,xln,xlc⟩:=y;simp only [PN.v];go_simp
 repeat (first|go_values|go_skip|go_guarded|go_step|go_upon)
 have hx2:Ext W1 (W1.alloc (.cells #[.int .i64 xk,.int .i64 xo,.string xs,.string xt,.int .i64 xn,.slice xla xln xlc] 24)):=(Ext.refl W1).alloc _;have HV2:=h_ (show Blk (W1.alloc (.cells #[.int .i64 xk,.int .i64 xo,.string xs,.string xt,.int .i64 xn,.slice xla xln xlc] 24)) W1.heap.size (PN.cells ⟨xk,xo,xs,xt,xn,xla,xln,xlc⟩) 24 from Blk.new W1 #[.int .i64 xk,.int .i64 xo,.string xs,.string xt,.int .i64 xn,.slice xla xln xlc] 24 rfl);have HS2:=h_ (HS1.out.ext hx2);have HT2:=h_ (((HT1.out.later (p:=p) (fun g h=>by have:=HS1.out.hp;omega) (LeP.ofExt hx2))).mono (B:=fun g=>w.heap.size<g/\g≠W1.heap.size) fun g h _=>⟨h.1,by omega⟩);clear hx2 HS1 HT1;generalize (W1.alloc (.cells #[.int .i64 xk,.int .i64 xo,.string xs,.string xt,.int .i64 xn,.slice xla xln xlc] 24))=W2 at HV2 HS2 HT2 |-;have hwb:w.heap.size<W1.heap.size:=by omega
 clear hly1 hsz;generalize W1.heap.size=b7 at HV2 HT2 hwb |-;have hp0:=HS2.out.hp;have hb7p:b7≠p:=by omega
 go_loopg [] f (fun kk wr=>∃ (sa:PSt) (na:Tr) (ya:PN),Rst w p g cap long T sa wr/\Blk wr b7 ya.cells 24/\TrAt (fun g=>w.heap.size<g/\g≠b7) wr ya na/\collLoopR T long kk na sa=some (r,s'))
 case atStart=>exact ⟨m.2,m.1,_,HS2.out,HV2.out,HT2.out,HQ.out⟩
 case round =>
  obtain ⟨sa,na,ya,hs,hv,ht,hst⟩:=hrel;have HSa:=h_ hs;have HVa:=h_ hv;have HTa:=h_ ht;clear hs hv ht HS2 HV2 HT2 HQ;cases gk with
  |zero=>cases hst
  |succ k' =>
   unfold collLoopR at hst;go_simp
   repeat (first|go_values|go_skip|go_guarded|go_step|go_upon)
   refine Calls.mono (KT.out sa ⟨#[67,79,76,76,65,84,69]⟩ wr HSa.out.rs) ?_;rw [show bsl ⟨#[67,79,76,76,65,84,69]⟩=[67,79,76,76,65,84,69] from rfl];obtain ⟨yk,yo,ys,yt,yn,yla,yln,ylc⟩:=ya;simp only [PN.cells] at HVa;cases hco:takeB T sa [67,79,76,76,65,84,69]
   ·rw [hco,if_neg (by decide)] at hst;obtain ⟨rfl,hfs⟩:=Prod.mk.inj (Option.some.inj hst);subst hfs;rintro e W3 ⟨rfl,hp3,hl3⟩;have HS:=h_ (HSa.out.call (show RsAt W3 p g cap long T sa from hp3) hl3);have HV3:=h_ (hl3.blk HVa.out hb7p);have HT3:=h_ (HTa.out.later (p:=p) (fun g h=>by omega) hl3);clear hp3 hl3 HSa HVa HTa hst;obtain ⟨cv,fv⟩:=HV3.out.facts;have hvl:=HV3.out.lt;have hrb:=HS.out.res;have HRr:=h_ hrb;obtain ⟨cr,fr⟩:=hrb.facts;have hrl:=hrb.lt;clear hrb;go_simp
    repeat (first|go_values|go_skip|go_guarded|go_step|go_upon)
    refine bodyPost_ret (ret_ndP rfl _ rfl rfl (blk6P HRr.out _ _ _ _ _ _)) rfl ?_;exact HS.out.done ⟨yk,yo,ys,yt,yn,yla,yln,ylc⟩ _ (HT3.out.mono fun g h _=>h.1) _ _ _ _ _ _
   ·rw [hco,if_pos rfl] at hst;rintro e W3 ⟨rfl,hp3,hl3⟩;have HS3:=h_ (HSa.out.call (show RsAt W3 p g cap long T (advR sa) from hp3) hl3);have HV3:=h_ (hl3.blk HVa.out hb7p);have HT3:=h_ (HTa.out.later (p:=p) (fun g h=>by omega) hl3);have HSt:=h_ hst;clear hp3 hl3 HSa HVa HTa hst;have HF:=h_ (show ∀ W,LeP p W3 W->(∀ j,W.cell? ⟨b7,j,none⟩=(#[.int .i64 yk,.int .i64 yo,.string ys,.string yt,.int .i64 yn,.slice yla yln ylc]:Array Value)[j]?) from fun W hW=>(hW.blk HV3.out hb7p).cell);have hvl:=HV3.out.lt;have hrl:=HS3.out.res.lt;have hpl:=HS3.out.rs.blk.lt;go_simp
    repeat (first|go_values|go_skip|go_guarded|go_step|go_upon)
    refine wp_parZC 1 (leX) (leP p) (LeP.ofExt) [0,1,2,3,4,5] 5 5 (fun
     |0=>fun _ v _=>v= .pointer (some ⟨p,0,none⟩)
     |1=>fun _=>nameRR p g cap long T (nameT T (advR sa)) (nameS T long (advR sa))
     |2=>fun _ v _=>v= .agg #[.int .i64 yk,.int .i64 yo,.string ys,.string yt,.int .i64 yn,.slice yla yln ylc]
     |3=>fun _=>soloR W3.heap.size ⟨yk,yo,ys,yt,yn,yla,yln,ylc⟩
     |4=>fun _=>collR W3.heap.size (nameT T (advR sa)) ⟨yk,yo,ys,yt,yn,yla,yln,ylc⟩
     |_=>fun _ _ _=>True) (fun
     |_=>undef) (by kernel_rfl) (by kernel_rfl) (by kernel_rfl) (by decide) ?_ ?_ ?_
    ·simp (maxSteps:=20000000) only [permL,permOp,List.filterMap_cons,List.filterMap_nil,List.getElem?_cons_succ,List.getElem?_cons_zero,Option.map_some,Option.map_none,List.take_succ_cons,List.take_zero,ParAllC,Act.put,List.setIfInBounds_toArray,List.set_cons_succ,List.set_cons_zero];refine ⟨?_,?_,?_,?_,?_,trivial⟩
     ·intro vals W hx hd;rw [if_neg (by decide)] at hx;have hW:=HF.out W hx;simp [PDepsG,pdeps,Region.binds,List.idxOf_cons] at hd;refine ParObC.plain rfl ?_;go_simp
      first|exact IsLe.refl (leX) _|exact ⟨IsLe.refl (leX) _,fun _ _=>rfl⟩
     ·intro vals W hx hd;rw [if_pos (by decide)] at hx;simp [PDepsG,pdeps,Region.binds,List.idxOf_cons] at hd;refine ParObC.call rfl ?_;go_simp;refine Calls.mono (KN.out (advR sa) W (HS3.out.rs.ext hx)) ?_;rintro e w9 ⟨rfl,hpy,hly⟩;exact ⟨_,rfl,hly,fun w3 h3=>⟨rfl,hpy.ext h3⟩⟩
     ·intro vals W hx hd;rw [if_neg (by decide)] at hx;have hW:=HF.out W hx;simp [PDepsG,pdeps,Region.binds,List.idxOf_cons] at hd;refine ParObC.plain rfl ?_;go_simp
      first|exact IsLe.refl (leX) _|exact ⟨IsLe.refl (leX) _,fun _ _=>rfl⟩
     ·intro vals W hx hd;rw [if_neg (by decide)] at hx;have hW:=HF.out W hx;simp [PDepsG,pdeps,Region.binds,List.idxOf_cons] at hd;refine ParObC.plain rfl ?_;have hs:=hx.size;go_simp;refine ⟨(Ext.refl _).alloc _,fun w3 h3=>⟨W.heap.size,rfl,by omega,?_⟩⟩;exact (pnAt_of [⟨yk,yo,ys,yt,yn,yla,yln,ylc⟩] (Blk.new W _ 24 rfl)).same (h3.old _ (by simp) (by omega)) h3.size
     ·intro vals W hx hd;rw [if_neg (by decide)] at hx;have hW:=HF.out W hx;simp [PDepsG,pdeps,Region.binds,List.idxOf_cons] at hd;refine ParObC.plain rfl ?_;obtain ⟨⟨hn1,hn2⟩,gs,hv6,hge,hP⟩:=hd;go_simp;exact ⟨IsLe.refl leX _,fun w3 h3=>⟨gs,rfl,hge,hP.same (h3.old _ hP.1 (by omega)) h3.size⟩⟩
    ·simp (maxSteps:=20000000) only [permL,permOp,List.filterMap_cons,List.filterMap_nil,List.getElem?_cons_succ,List.getElem?_cons_zero,Option.map_some,Option.map_none,List.drop_succ_cons,List.drop_zero,List.take_succ_cons,List.take_zero,Nat.reduceSub,ZAll,ParEnd,Act.put,List.setIfInBounds_toArray,List.set_cons_succ,List.set_cons_zero]
    intro vals W hx hf hz;simp (maxSteps:=20000000) only [permL,permOp,List.filterMap_cons,List.filterMap_nil,List.getElem?_cons_succ,List.getElem?_cons_zero,Option.map_some,Option.map_none,ParFactsG,List.take_succ_cons,List.take_zero,and_true,Nat.reduceAdd] at hf;obtain ⟨f0,f1,f2,f3,f4⟩:=hf;clear hz;simp (maxSteps:=20000000) only [permL,permOp,List.filterMap_cons,List.filterMap_nil,List.getElem?_cons_succ,List.getElem?_cons_zero,Option.map_some,Option.map_none,List.drop_succ_cons,List.drop_zero,List.take_succ_cons,List.take_zero,Nat.reduceSub,ParEnd,ZTail,Act.put,List.setIfInBounds_toArray,List.set_cons_succ,List.set_cons_zero,Nat.reduceAdd,f0,f2];clear f0 f2;obtain ⟨gs,hv6,hge,hP⟩:=f4;obtain ⟨_,hPb⟩:=f1;clear f3;generalize nameT T (advR sa)=x at hv6 HSt;generalize nameS T long (advR sa)=sb at hPb HSt;refine ⟨?_⟩;have HS4:=h_ (HS3.out.call hPb hx);have HV4:=h_ (hx.blk HV3.out hb7p);have HT4:=h_ (HT3.out.later (p:=p) (fun g h=>by omega) hx);refine yields_storeP (g:=b7) (cs:= #[.int .i64 11,.int .i64 0,.string ⟨x.toArray⟩,.string ⟨#[]⟩,.int .i64 0,.slice (some ⟨gs,0,none⟩) 1 1]) rfl (by simp [Act.eval]) (by simp [Act.eval,hv6]) HV4.out rfl rfl (by simp [Value.oneCell']) ?_;have HV5:=h_ (show Blk _ b7 #[.int .i64 11,.int .i64 0,.string ⟨x.toArray⟩,.string ⟨#[]⟩,.int .i64 0,.slice (some ⟨gs,0,none⟩) 1 1] 24 from setRow_heap W b7 _ #[.int .i64 11,.int .i64 0,.string ⟨x.toArray⟩,.string ⟨#[]⟩,.int .i64 0,.slice (some ⟨gs,0,none⟩) 1 1] _ _ HV4.out);have HS5:=h_ (HS4.out.row hwb #[.int .i64 11,.int .i64 0,.string ⟨x.toArray⟩,.string ⟨#[]⟩,.int .i64 0,.slice (some ⟨gs,0,none⟩) 1 1]);have HT5:=h_ (oneTr (fun g=>w.heap.size<g/\g≠b7) 11 0 x [] 0 gs 1 ⟨yk,yo,ys,yt,yn,yla,yln,ylc⟩ na _ (Nat.le_refl _) (by show w.heap.size<gs/\gs≠b7;omega) (hP.same (w':=W.setRow b7 #[.int .i64 11,.int .i64 0,.string ⟨x.toArray⟩,.string ⟨#[]⟩,.int .i64 0,.slice (some ⟨gs,0,none⟩) 1 1]) (setRow_other W b7 gs _ (by omega)) (by simp)) (HT4.out.row (b:=b7) (fun g h=>h.2) #[.int .i64 11,.int .i64 0,.string ⟨x.toArray⟩,.string ⟨#[]⟩,.int .i64 0,.slice (some ⟨gs,0,none⟩) 1 1]));generalize W.setRow b7 #[.int .i64 11,.int .i64 0,.string ⟨x.toArray⟩,.string ⟨#[]⟩,.int .i64 0,.slice (some ⟨gs,0,none⟩) 1 1]=W5 at HV5 HS5 HT5 |-;clear hx hPb HF HS3 HV3 HT3 HS4 HV4 HT4 hP hv6 hvl hrl hpl;generalize vals 1=v1;generalize vals 3=v3;generalize vals 4=v4;go_simp
    repeat (first|go_values|go_skip|go_guarded|go_step|go_upon)
    go_roundg k'
    case measure=>omega
    case rel=>exact ⟨sb,_,⟨11,0,⟨x.toArray⟩,⟨#[]⟩,0,some ⟨gs,0,none⟩,1,1⟩,HS5.out,HV5.out,HT5.out,HSt.out⟩
abbrev set6N (W:World) (b:Nat) (o:Int) (n:Nat):World:=(((((W.setCell ⟨b,0,none⟩ (.int .i64 6)).setCell ⟨b,1,none⟩ (.int .i64 o)).setCell ⟨b,2,none⟩ (.string ⟨#[]⟩)).setCell ⟨b,3,none⟩ (.string ⟨#[]⟩)).setCell ⟨b,4,none⟩ (.int .i64 0)).setCell ⟨b,5,none⟩ (.slice (some ⟨n,0,none⟩) 2 2)
theorem row_step {w0 W:World} {p g cap long:Nat} {T:List Lx.Tok} {s:PSt} (h:Rst w0 p g cap long T s W) {b:Nat} (hb:w0.heap.size<b) {ya z:PN} {na m:Tr} (hv:Blk W b ya.cells 24) (hn:TrAt (fun g=>w0.heap.size<g/\g≠b) W ya na) (hz:TrAt (fun g=>w0.heap.size<g/\g≠b/\g<W.heap.size) W z m) (o:Int) (C D:Array Value) (hD:D=(cellsP [ya,z]).toArray) :
 Rst w0 p g cap long T s (((set6N W b o (W.heap.size+1)).alloc (.cells C 24)).alloc (.cells D 24))/\Blk (((set6N W b o (W.heap.size+1)).alloc (.cells C 24)).alloc (.cells D 24)) b (PN.cells ⟨6,o,⟨#[]⟩,⟨#[]⟩,0,some ⟨W.heap.size+1,0,none⟩,2,2⟩) 24 /\
  TrAt (fun g=>w0.heap.size<g/\g≠b) (((set6N W b o (W.heap.size+1)).alloc (.cells C 24)).alloc (.cells D 24)) ⟨6,o,⟨#[]⟩,⟨#[]⟩,0,some ⟨W.heap.size+1,0,none⟩,2,2⟩ (.mk 6 o [] [] 0 [na,m]):=by
 have hS:Rst w0 p g cap long T s (set6N W b o (W.heap.size+1)):=(((((h.store hb 0 _).store hb 1 _).store hb 2 _).store hb 3 _).store hb 4 _).store hb 5 _;have hB:Blk (set6N W b o (W.heap.size+1)) b (PN.cells ⟨6,o,⟨#[]⟩,⟨#[]⟩,0,some ⟨W.heap.size+1,0,none⟩,2,2⟩) 24:=by
  obtain ⟨yk,yo,ys,yt,yn,yla,yln,ylc⟩:=ya;exact blk6P hv _ _ _ _ _ _
 have hN:=hn.set6 (b:=b) (fun g h=>h.2) (.int .i64 6) (.int .i64 o) (.string ⟨#[]⟩) (.string ⟨#[]⟩) (.int .i64 0) (.slice (some ⟨W.heap.size+1,0,none⟩) 2 2);have hZ:=hz.set6 (b:=b) (fun g h=>h.2.1) (.int .i64 6) (.int .i64 o) (.string ⟨#[]⟩) (.string ⟨#[]⟩) (.int .i64 0) (.slice (some ⟨W.heap.size+1,0,none⟩) 2 2);have hs:(set6N W b o (W.heap.size+1)).heap.size=W.heap.size:=by simp
 have hl:=hv.lt;generalize hG:set6N W b o (W.heap.size+1)=G at hS hB hs |-;replace hN:TrAt (fun g=>w0.heap.size<g/\g≠b) G ya na:=by rw [<- hG];exact hN
 replace hZ:TrAt (fun g=>w0.heap.size<g/\g≠b/\g<W.heap.size) G z m:=by rw [<- hG];exact hZ
 have hx:Ext G ((G.alloc (.cells C 24)).alloc (.cells D 24)):=((Ext.refl G).alloc _).alloc _;refine ⟨hS.ext hx,hB.keep hx,?_⟩;have hP:PnAt ((G.alloc (.cells C 24)).alloc (.cells D 24)) (W.heap.size+1) [ya,z]:=by
  rw [hD];exact pnAt_of [ya,z] (t:=24) (Blk.new (G.alloc (.cells C 24)) _ _ (by simp [hs]))
 have hp:=h.hp;refine two_kids (s:=[]) (t:=[]) (Nat.le_refl _) (by show w0.heap.size<_/\_≠b;omega) hP ?_ ?_
 ·exact hN.same (fun g _ hl=>hx.block g hl) hx.size
 ·exact (hZ.same (fun g _ hl=>hx.block g hl) hx.size).mono fun g h _=>⟨h.1,h.2.1⟩
theorem opR_nil (T:List Lx.Tok) (s:PSt):opR T s (binsL 0)=0:=rfl
theorem ropOf_zero (p:Nat) (T:List Lx.Tok) (s:PSt) (w:World) :
 Calls Tryz.prog 86 #[.pointer (some ⟨p,0,none⟩),.int .i64 0] w fun e w'=>e= .returned (.int .i64 (opR T s (binsL 0)))/\Ext w w':=by
 rw [opR_nil];have HX0:=h_ (opW_ext w);go_enter Tryz.func86,Tryz.ntmps86;go_simp
 repeat (first|go_values|go_skip|go_guarded|go_step|go_upon)
 refine wp_loop_rounds 1 ?_;rw [rounds_succ];go_simp
 repeat (first|go_values|go_skip|go_guarded|go_step|go_upon)
 go_returns;exact ⟨rfl,HX0.out⟩
theorem rexpr_row (k:Nat) (hk:k=0 ∨ k=1 ∨ k=2 ∨ k=5 ∨ k=6 ∨ k=7 ∨ k=8 ∨ k=9) (p g cap long:Nat) (T:List Lx.Tok) (rec:RecR) (hrec:LevOkR p g cap long T rec) (f:Nat) (s:PSt) (he:s.e=0) (r:Tr) (s':PSt) (w:World) (hf:((rec (k+1) s).bind fun m=>rowLoopR rec T k f m.1 m.2)=some (r,s')) (h:RsAt w p g cap long T s) :
 Calls Tryz.prog 45 #[.pointer (some ⟨p,0,none⟩),.int .i64 k] w (LevPostR p g cap long T r s' w):=by
 have HS0:=h_ (show Rst w p g cap long T s (w.alloc (.cells #[.int .i64 0,.int .i64 0,.string ⟨#[]⟩,.string ⟨#[]⟩,.int .i64 0,.slice none 0 0] 24)) from Rst.start h);obtain ⟨K,hK⟩:∃ K:Int,K=(k:Int):=⟨_,rfl⟩
 have KO:=h_ (show ∀ (s:PSt) W,RsAt W p g cap long T s->Calls Tryz.prog 86 #[.pointer (some ⟨p,0,none⟩),.int .i64 K] W fun e w'=>e= .returned (.int .i64 (opR T s (binsL k)))/\Ext W w' from fun s W hW=>by
  rw [hK];rcases hk with rfl|hk
  ·exact ropOf_zero p T s W
  ·exact ropOf_any k hk p g cap long T s W hW)
 obtain ⟨m,hm,hq⟩:=Option.bind_eq_some_iff.1 hf;have HQ:=h_ hq;have HRec:=h_ (fun (s:PSt) (r:Tr) (s':PSt) W (hr:rec (k+1) s=some (r,s')) (hW:RsAt W p g cap long T s)=>hrec (k+1) (K+1) s r s' W (by omega) (by omega) hr hW);have HM:=h_ hm;have hb3:(K == 3)=false:=by rw [beq_eq_false_iff_ne];omega
 have hb4:(K == 4)=false:=by rw [beq_eq_false_iff_ne];omega
 have hb10:(K == 10)=false:=by rw [beq_eq_false_iff_ne];omega
 have hb11:(K == 11)=false:=by rw [beq_eq_false_iff_ne];omega
 have hsumK:=IntWalk.i64_in (K+1) (by omega);rw [<- hK];clear h hrec hf hm hq hk hK;go_enter Tryz.func45,Tryz.ntmps45;go_upto_region 1 with (fail)
 generalize (w.alloc (.cells #[.int .i64 0,.int .i64 0,.string ⟨#[]⟩,.string ⟨#[]⟩,.int .i64 0,.slice none 0 0] 24))=W0 at HS0 |-;obtain ⟨⟨c1,c2,c4⟩,f1,f4,hpl⟩:=HS0.out.rs.cells;rw [he] at c2;go_simp
 repeat (first|go_values|go_skip|go_guarded|go_step|go_upon)
 refine Calls.mono (HRec.out s m.1 m.2 W0 HM.out HS0.out.rs) ?_;rintro e W1 ⟨y,rfl,hty,hpy,hly⟩;have hsz:w.heap.size<W0.heap.size:=HS0.out.res.lt;have HS1:=h_ (HS0.out.call hpy hly);have HT1:=h_ (hty.mono (B:=fun g=>w.heap.size<g/\g<W1.heap.size) fun g h1 h2=>⟨by omega,h2⟩);have hly1:=hly.size;clear hty hpy hly HS0 c1 c2 c4 f1 f4 hpl HM;obtain ⟨xk,xo,xs,xt,xn,xla,xln,xlc⟩:=y;simp only [PN.v];go_simp
 repeat (first|go_values|go_skip|go_guarded|go_step|go_upon)
 have hx2:Ext W1 (W1.alloc (.cells #[.int .i64 xk,.int .i64 xo,.string xs,.string xt,.int .i64 xn,.slice xla xln xlc] 24)):=(Ext.refl W1).alloc _;have HV2:=h_ (show Blk (W1.alloc (.cells #[.int .i64 xk,.int .i64 xo,.string xs,.string xt,.int .i64 xn,.slice xla xln xlc] 24)) W1.heap.size (PN.cells ⟨xk,xo,xs,xt,xn,xla,xln,xlc⟩) 24 from Blk.new W1 #[.int .i64 xk,.int .i64 xo,.string xs,.string xt,.int .i64 xn,.slice xla xln xlc] 24 rfl);have HS2:=h_ (HS1.out.ext hx2);have HT2:=h_ (((HT1.out.later (p:=p) (fun g h=>by have:=HS1.out.hp;omega) (LeP.ofExt hx2))).mono (B:=fun g=>w.heap.size<g/\g≠W1.heap.size) fun g h _=>⟨h.1,by omega⟩);clear hx2 HS1 HT1;generalize (W1.alloc (.cells #[.int .i64 xk,.int .i64 xo,.string xs,.string xt,.int .i64 xn,.slice xla xln xlc] 24))=W2 at HV2 HS2 HT2 |-;have hwb:w.heap.size<W1.heap.size:=by omega
 clear hly1 hsz;generalize W1.heap.size=b7 at HV2 HT2 hwb |-;have hp0:=HS2.out.hp;have hb7p:b7≠p:=by omega
 go_loopg [9,10] f (fun kk _ _ wr=>∃ (sa:PSt) (na:Tr) (ya:PN),Rst w p g cap long T sa wr/\Blk wr b7 ya.cells 24/\TrAt (fun g=>w.heap.size<g/\g≠b7) wr ya na/\rowLoopR rec T k kk na sa=some (r,s'))
 case atStart=>exact ⟨m.2,m.1,_,HS2.out,HV2.out,HT2.out,HQ.out⟩
 case round =>
  obtain ⟨sa,na,ya,hs,hv,ht,hst⟩:=hrel;have HSa:=h_ hs;have HVa:=h_ hv;have HTa:=h_ ht;clear hs hv ht HS2 HV2 HT2 HQ;obtain ⟨yk,yo,ys,yt,yn,yla,yln,ylc⟩:=ya;simp only [PN.cells] at HVa;cases gk with
  |zero=>cases hst
  |succ k' =>
   unfold rowLoopR at hst;obtain ⟨⟨c1,c2,c4⟩,f1,f4,hpl⟩:=HSa.out.rs.cells;by_cases hea:sa.e=0
   ·rw [hea] at c2;go_simp
    repeat (first|go_values|go_skip|go_guarded|go_step|go_upon)
    refine Calls.mono (KO.out sa wr HSa.out.rs) ?_;rintro e W3 ⟨rfl,hx3⟩;have HS3:=h_ (HSa.out.ext hx3);have HV3:=h_ (HVa.out.keep hx3);have HT3:=h_ (HTa.out.later (p:=p) (fun g h=>by have:=h.1;omega) (LeP.ofExt hx3));have hlt0:opR T sa (binsL k)≠0->sa.i<T.length:=opR_lt _;clear hx3 HSa HVa HTa c1 c2 c4 f1 f4 hpl;generalize opR T sa (binsL k)=o at hst hlt0 |-;by_cases ho:o=0
    ·subst ho;rw [if_pos (.inr rfl)] at hst;obtain ⟨rfl,hfs⟩:=Prod.mk.inj (Option.some.inj hst);subst hfs;have HS:=HS3;clear HS3 hst hlt0;obtain ⟨cv,fv⟩:=HV3.out.facts;have hvl:=HV3.out.lt;have hrb:=HS.out.res;have HRr:=h_ hrb;obtain ⟨cr,fr⟩:=hrb.facts;have hrl:=hrb.lt;clear hrb;go_simp
     repeat (first|go_values|go_skip|go_guarded|go_step|go_upon)
     refine bodyPost_ret (ret_ndP rfl _ rfl rfl (blk6P HRr.out _ _ _ _ _ _)) rfl ?_;exact HS.out.done ⟨yk,yo,ys,yt,yn,yla,yln,ylc⟩ _ (HT3.out.mono fun g h _=>h.1) _ _ _ _ _ _
    ·rw [if_neg (by intro e;rcases e with e|e;exact e hea;exact ho e)] at hst;have hil:=hlt0 ho;have hob:(o == 0)=false:=by rw [beq_eq_false_iff_ne];exact ho
     clear hlt0;obtain ⟨q,hq1,hq2⟩:=Option.bind_eq_some_iff.1 hst;have HSt:=h_ hq2;have HQ1:=h_ hq1;clear hst hq1 hq2;obtain ⟨i,deep,at_,er⟩:=sa;simp only at hil hea;subst hea;obtain ⟨⟨c1,c2,c4⟩,f1,f4,hpl⟩:=HS3.out.rs.cells;simp only at c1 c2 c4;have hfew:=HS3.out.rs.few;have hsum:=IntWalk.i64_in ((i:Int)+1) (by omega);go_simp
     repeat (first|go_values|go_skip|go_guarded|go_step|go_upon)
     have HS4:=h_ (show Rst w p g cap long T (advR ⟨i,deep,at_,0⟩) (W3.setCell ⟨p,1,none⟩ (.int .i64 ((i:Int)+1))) from HS3.out.at (i+1) hil);have HV4:=h_ (HV3.out.other (a:=⟨p,1,none⟩) hb7p (.int .i64 ((i:Int)+1)));have HT4:=h_ (HT3.out.later (p:=p) (fun g h=>by have:=h.1;omega) (LeP.set (w:=W3) 1 (.int .i64 ((i:Int)+1))));clear c1 c2 c4 f1 f4 hpl HS3 HV3 HT3 hsum;generalize W3.setCell ⟨p,1,none⟩ (.int .i64 ((i:Int)+1))=W4 at HS4 HV4 HT4 |-;generalize advR ⟨i,deep,at_,0⟩=sb at HS4 HQ1;refine Calls.mono (HRec.out sb q.1 q.2 W4 HQ1.out HS4.out.rs) ?_;rintro e W5 ⟨z,rfl,hty,hpy,hly⟩;have hsz4:w.heap.size<W4.heap.size:=HS4.out.res.lt;have hvl4:=HV4.out.lt;have HS5:=h_ (HS4.out.call hpy hly);have HV5:=h_ (hly.blk HV4.out hb7p);have HT5:=h_ (HT4.out.later (p:=p) (fun g h=>by have:=h.1;omega) hly);have HZ5:=h_ (hty.mono (B:=fun g=>w.heap.size<g/\g≠b7/\g<W5.heap.size) fun g h1 h2=>⟨by omega,by omega,h2⟩);clear hty hpy hly HS4 HV4 HT4 HQ1;obtain ⟨zk,zo,zs,zt,zn,zla,zln,zlc⟩:=z;simp only [PN.v];obtain ⟨cv,fv⟩:=HV5.out.facts;have hvl:=HV5.out.lt;go_simp
     repeat (first|go_values|go_skip|go_guarded|go_step|go_upon)
     have hst:=row_step (ya:=⟨yk,yo,ys,yt,yn,yla,yln,ylc⟩) (z:=⟨zk,zo,zs,zt,zn,zla,zln,zlc⟩) HS5.out hwb HV5.out HT5.out HZ5.out o #[.int .i64 zk,.int .i64 zo,.string zs,.string zt,.int .i64 zn,.slice zla zln zlc] #[.int .i64 yk,.int .i64 yo,.string ys,.string yt,.int .i64 yn,.slice yla yln ylc,.int .i64 zk,.int .i64 zo,.string zs,.string zt,.int .i64 zn,.slice zla zln zlc] rfl;go_roundg k'
     case measure=>omega
     case rel=>exact ⟨q.2,_,_,hst.1,hst.2.1,hst.2.2,HSt.out⟩
   ·rw [if_pos (.inl hea)] at hst;obtain ⟨rfl,hfs⟩:=Prod.mk.inj (Option.some.inj hst);subst hfs;have heb:(sa.e == 0)=false:=by rw [beq_eq_false_iff_ne];exact hea
    have HS:=HSa;clear HSa hst;obtain ⟨cv,fv⟩:=HVa.out.facts;have hvl:=HVa.out.lt;obtain ⟨E,hE⟩:∃ E,E=sa.e:=⟨_,rfl⟩
    rw [<- hE] at c2 heb;clear hE hea;have hrb:=HS.out.res;have HRr:=h_ hrb;obtain ⟨cr,fr⟩:=hrb.facts;have hrl:=hrb.lt;clear hrb;go_simp
    repeat (first|go_values|go_skip|go_guarded|go_step|go_upon)
    refine bodyPost_ret (ret_ndP rfl _ rfl rfl (blk6P HRr.out _ _ _ _ _ _)) rfl ?_;exact HS.out.done ⟨yk,yo,ys,yt,yn,yla,yln,ylc⟩ _ (HTa.out.mono fun g h _=>h.1) _ _ _ _ _ _
theorem rexpr_any (p g cap long:Nat) (T:List Lx.Tok):∀ f,LevOkR p g cap long T (rExpr T long f)
 |0=>fun k kz s r s' w hkz hk hr h=>by cases hr
 |f+1=>fun k kz s r s' w hkz hk hr h=>by
  have ih:=rexpr_any p g cap long T f;have hd:=deep_expr T long f;have hi:=inc_expr T long f;subst hkz;by_cases he:s.e=0
  ·by_cases h12:k=12
   ·rw [none_expr T long (f+1) k s (by omega) he] at hr;cases hr
   rw [rExpr,if_neg (by simpa using he)] at hr;by_cases h3:k=3
   ·subst h3;rw [if_pos rfl] at hr;exact rexpr_not p g cap long T _ ih hd s he r s' w hr h
   rw [if_neg h3] at hr;by_cases h4:k=4
   ·subst h4;rw [if_pos rfl] at hr;exact rexpr_four p g cap long T _ ih hd hi f s he r s' w hr h
   rw [if_neg h4] at hr;by_cases h10:k=10
   ·subst h10;rw [if_pos rfl] at hr;exact rexpr_neg p g cap long T _ ih hd s he r s' w hr h
   rw [if_neg h10] at hr;by_cases h11:k=11
   ·subst h11;rw [if_pos rfl] at hr;exact rexpr_coll p g cap long T _ ih hd f s he r s' w hr h
   rw [if_neg h11] at hr;exact rexpr_row k (by omega) p g cap long T _ ih f s he r s' w hr h
  ·rw [rExpr,if_pos he] at hr;obtain ⟨rfl,rfl⟩:=Prod.mk.inj (Option.some.inj hr);exact rexpr_err p g cap long T k s he w h
end Go.Proofs.YtimeipjcmffadaaGreatDoor
