import Derived.Test.YtimeipjcmffadaaGreatDoorRwE
set_option maxHeartbeats 16000000
namespace Go.Proofs.YtimeipjcmffadaaGreatDoor
open Go.RowKit Go.Lib
set_option maxRecDepth 100000
theorem kids_tail {A:Nat->Prop} {w:World} {g off lc:Nat} {y0:PN} {L:List PN} {x0:Tr} {r:List Tr} (hL:L.length=r.length) (hlc:r.length+1<=lc) (hA:A g) (hN:PnIn w g off (y0::L)) (hch:∀ (i:Nat) (x:PN) (y:Tr),(y0::L)[i]?=some x->(x0::r)[i]?=some y->TrIn A w x y):KidsA A w (some ⟨g,off+6,none⟩) r.length (lc - 1) r:=by
 by_cases h0:0<r.length
 ·refine .inr ⟨g,off+6,L,rfl,rfl,by omega,hL,hA,⟨hN.1,fun i x hx j hj=>?_⟩,fun i x y hx hy=>hch (i+1) x y (by simpa using hx) (by simpa using hy),h0⟩;have:=hN.2 (i+1) x (by simpa using hx) j hj;rw [show off+6+i * 6+j=off+(i+1) * 6+j by omega];exact this
 ·have:r.length=0:=by omega
  exact .inl ⟨this,List.eq_nil_of_length_eq_zero this⟩
theorem words_in (A:Nat->Prop) (w:World) (o n:Int) (s t:ByteArray) (la:Option Addr) (xln lc:Nat) (x0:Tr) (r:List Tr) (hr:0<r.length) (hrl:r.length<=1000) (htot:totB (wordsTs r)<=900000) (hk:KidsA A w la xln lc (x0::r)) (hw:WordsOk w A (x0::r)) :
 Calls Tryz.prog 19 #[.agg #[.int .i64 9,.int .i64 o,.string s,.string t,.int .i64 n,.slice la xln lc]] w fun e w'=>e= .returned (.string ⟨(wordsB 9 o (bsl s) (bsl t) n ((lvT x0,wordsT x0)::wordsTs r)).toArray⟩)/\Ext w w':=by
 have mixed:Tryz.prog.follows .mixedOrders=true:=by kernel_rfl
 rcases hk with ⟨_,hk⟩|⟨g,off,L,rfl,rfl,hlc,hL,hA,hN,hch,_⟩
 ·cases hk
 match L,hL with
 |y0::L,hL =>
 simp only [List.length_cons,Nat.add_right_cancel_iff] at hL hlc |-;have hT0:=hch 0 y0 x0 rfl rfl;obtain ⟨hl0,hq0⟩:=hw x0 (by simp);obtain ⟨S0,hS0⟩:∃ S:ByteArray,S=⟨(atB (lvT x0,wordsT x0) 5).toArray⟩:=⟨_,rfl⟩
 have hz0:S0.size<=1000000:=by rw [hS0,sizeL];have:=atB_len (lvT x0,wordsT x0) 5;simp only at this;omega
 have KA0:=h_ (fun W (hW:Ext w W)=>at_anyR y0 5 (wordsT x0) (by omega) W fun W2 h2=>hq0 y0 W2 (hT0.ext (Ext.trans hW h2)) (Ext.trans hW h2));rw [lv_of hT0,<- hS0] at KA0;have hc0:=fun W (hW:Ext w W)=>(hN.same (hW.block g hN.1) hW.size).at6 (i:=0) (y:=y0) rfl;have hgl:=hN.1;have hkt:=kids_tail hL hlc hA hN hch;obtain ⟨CM,hCM⟩:∃ S:ByteArray,S=⟨(commasB (wordsTs r)).toArray⟩:=⟨_,rfl⟩
 have hzc:CM.size<=900000:=by rw [hCM,sizeL];exact Nat.le_trans (commasB_len _) htot
 have KCM:=h_ (fun W (hW:Ext w W)=>commas_any A W (some ⟨g,off+6,none⟩) r.length (lc - 1) r (hkt.ext hW) (fun z hz=>⟨(hw z (by simp [hz])).1,fun y W2 hT2 h2=>(hw z (by simp [hz])).2 y W2 hT2 (Ext.trans hW h2)⟩) htot (by omega));rw [<- hCM] at KCM;have KNT:=h_ (fun W=>not_anyR 9 o s t n (some ⟨g,off,none⟩) (r.length+1) lc W);obtain ⟨NT,hNT⟩:∃ S:ByteArray,S=⟨(notB n).toArray⟩:=⟨_,rfl⟩
 have hzn:NT.size<=4:=by rw [hNT,sizeL];exact notB_len n
 rw [<- hNT] at KNT;have hres:Ending.returned (.string ⟨(wordsB 9 o (bsl s) (bsl t) n ((lvT x0,wordsT x0)::wordsTs r)).toArray⟩)=Ending.returned (.string (((((S0++⟨#[32]⟩)++NT)++⟨#[73,78,32,40,32]⟩)++CM)++⟨#[32,41]⟩)):=by
  refine congrArg (fun x=>Ending.returned (.string x)) (ba_ext ?_);rw [hS0,hNT,hCM];have hrl2:1<(wordsTs r).length+1:=by rw [wordsTs_len];omega
  have hr0:0<(wordsTs r).length:=by rw [wordsTs_len];omega
  simp [wordsB,testB,atI,hr0]
 rw [hres];have HX:=h_ (show Ext w (w.alloc (.cells #[.int .i64 9,.int .i64 o,.string s,.string t,.int .i64 n,.slice (some ⟨g,off,none⟩) (r.length+1) lc] 24)) from (Ext.refl w).alloc _);have HB:=h_ (Blk.new w #[.int .i64 9,.int .i64 o,.string s,.string t,.int .i64 n,.slice (some ⟨g,off,none⟩) (r.length+1) lc] 24 rfl);clear hN hch hw hA hS0 hl0 hq0 hT0 hNT hCM hres hkt htot hL;obtain ⟨k0,o0,s0,t0,n0,a0,m0,c0⟩:=y0;simp only [PN.v,Nat.zero_mul,Nat.add_zero] at KA0 hc0;have q0:decide (((r.length:Int)+1)>1)=true:=by rw [decide_eq_true_iff];omega
 have q1:decide (1<(r.length:Int)+1)=true:=by rw [decide_eq_true_iff];omega
 have q2:(1:Int)<(r.length:Int)+1:=by omega
 have q3:decide (1<r.length+1)=true:=by rw [decide_eq_true_iff];omega
 go_enter Tryz.func19,Tryz.ntmps19;go_upto_region 1 with (fail)
 generalize (w.alloc (.cells #[.int .i64 9,.int .i64 o,.string s,.string t,.int .i64 n,.slice (some ⟨g,off,none⟩) (r.length+1) lc] 24))=W0 at HX HB |-;obtain ⟨cb,fb⟩:=HB.out.facts;have hbl:=HB.out.lt;go_upto_region 17 with (fail)
 have HF:=h_ (show ∀ W,Ext W0 W->(∀ j,W.cell? ⟨w.heap.size,j,none⟩=(#[.int .i64 9,.int .i64 o,.string s,.string t,.int .i64 n,.slice (some ⟨g,off,none⟩) (r.length+1) lc]:Array Value)[j]?)/\(W.cell? ⟨g,off,none⟩=some (.int .i64 k0)/\W.cell? ⟨g,off+1,none⟩=some (.int .i64 o0)/\W.cell? ⟨g,off+2,none⟩=some (.string s0)/\W.cell? ⟨g,off+3,none⟩=some (.string t0)/\W.cell? ⟨g,off+4,none⟩=some (.int .i64 n0)/\W.cell? ⟨g,off+5,none⟩=some (.slice a0 m0 c0)) from fun W hW=>⟨(HB.out.keep hW).cell,hc0 W (Ext.trans HX.out hW)⟩);replace KA0:=h_ (fun W (hW:Ext W0 W)=>KA0.out W (Ext.trans HX.out hW));replace KCM:=h_ (fun W (hW:Ext W0 W)=>KCM.out W (Ext.trans HX.out hW));replace KNT:=h_ (fun W (_:Ext W0 W)=>KNT.out W);clear hc0;refine wp_par 17 (fun
  |0=>fun v _=>v= .pointer (some ⟨w.heap.size,5,none⟩)
  |1=>fun v _=>v= .slice (some ⟨g,off,none⟩) (r.length+1) lc
  |2=>fun v _=>v= .pointer (some ⟨g,off,none⟩)
  |3=>fun v _=>v= .agg #[.int .i64 k0,.int .i64 o0,.string s0,.string t0,.int .i64 n0,.slice a0 m0 c0]
  |4=>fun v _=>v= .string S0
  |5=>fun v _=>v= .string (S0++⟨#[32]⟩)
  |6=>fun v _=>v= .agg #[.int .i64 9,.int .i64 o,.string s,.string t,.int .i64 n,.slice (some ⟨g,off,none⟩) (r.length+1) lc]
  |7=>fun v _=>v= .string NT
  |8=>fun v _=>v= .string ((S0++⟨#[32]⟩)++NT)
  |9=>fun v _=>v= .string (((S0++⟨#[32]⟩)++NT)++⟨#[73,78,32,40,32]⟩)
  |10=>fun v _=>v= .pointer (some ⟨w.heap.size,5,none⟩)
  |11=>fun v _=>v= .slice (some ⟨g,off,none⟩) (r.length+1) lc
  |12=>fun v _=>v= .slice (some ⟨g,off+6,none⟩) r.length (lc - 1)
  |13=>fun v _=>v= .string CM
  |14=>fun v _=>v= .string ((((S0++⟨#[32]⟩)++NT)++⟨#[73,78,32,40,32]⟩)++CM)
  |15=>fun v _=>v= .string (((((S0++⟨#[32]⟩)++NT)++⟨#[73,78,32,40,32]⟩)++CM)++⟨#[32,41]⟩)
  |16=>fun v _=>v= .string (((((S0++⟨#[32]⟩)++NT)++⟨#[73,78,32,40,32]⟩)++CM)++⟨#[32,41]⟩)
  |_=>fun _ _=>True) (by kernel_rfl) (by kernel_rfl) (by kernel_rfl) ?_ ?_
 ·simp (maxSteps:=20000000) only [List.take_succ_cons,List.take_zero,ParAll,Act.put,List.setIfInBounds_toArray,List.set_cons_succ,List.set_cons_zero];refine ⟨?_,?_,?_,?_,?_,?_,?_,?_,?_,?_,?_,?_,?_,?_,?_,?_,?_,trivial⟩
  all_goals
   intro vals W hx hd;have hW:=HF.out W hx;simp [PDeps,pdeps,Region.binds] at hd
   first
    |refine ParOb.plain rfl ?_
    |refine ParOb.wanted (by simp [Region.wanted,yielded,hd]) ?_
  iterate 4
   next =>
    go_simp;exact ParPost.same fun _ _=>rfl
  ·go_simp;refine Calls.mono (KA0.out W hx) ?_;rintro e w2 ⟨rfl,hb2⟩;exact ⟨_,rfl,hb2,fun _ _=>rfl⟩
  ·go_simp;rw [if_neg (by omega),yieldsUpon_value];exact ParPost.same fun _ _=>rfl
  ·go_simp;exact ParPost.same fun _ _=>rfl
  ·go_simp;refine Calls.mono (KNT.out W hx) ?_;rintro e w2 ⟨rfl,hb2⟩;exact ⟨_,rfl,hb2,fun _ _=>rfl⟩
  ·go_simp;rw [if_neg (by omega),yieldsUpon_value];exact ParPost.same fun _ _=>rfl
  ·go_simp;rw [if_neg (by omega),yieldsUpon_value];exact ParPost.same fun _ _=>rfl
  iterate 2
   next =>
    go_simp;exact ParPost.same fun _ _=>rfl
  ·go_simp;rw [if_pos (by omega),if_neg (show ¬ lc=1 by omega),yieldsUpon_value];exact ParPost.same fun _ _=>rfl
  ·go_simp;refine Calls.mono (KCM.out W hx) ?_;rintro e w2 ⟨rfl,hb2⟩;exact ⟨_,rfl,hb2,fun _ _=>rfl⟩
  ·go_simp;rw [if_neg (by omega),yieldsUpon_value];exact ParPost.same fun _ _=>rfl
  ·go_simp;rw [if_neg (by omega),yieldsUpon_value];exact ParPost.same fun _ _=>rfl
  ·go_simp;exact ParPost.same fun _ _=>rfl
 intro vals W hx hf;simp (maxSteps:=20000000) only [ParFacts,List.take_succ_cons,List.take_zero,and_true] at hf;simp (maxSteps:=20000000) only [List.drop_succ_cons,List.drop_zero,List.take_succ_cons,List.take_zero,ParEnd,Act.put,List.setIfInBounds_toArray,List.set_cons_succ,List.set_cons_zero,hf];clear hf;have HX3:=h_ (Ext.trans HX.out hx);clear hx HF;go_simp
 repeat (first|go_values|go_skip|go_guarded|go_step|go_upon)
 go_returns;exact ⟨rfl,HX3.out⟩
def kwR (v:Value) (W:World):Prop:=∃ b,v= .slice (some ⟨b,0,none⟩) 3 3/\Blk W b typV 9
def kwQ (j:Nat) (v:Value) (W:World):Prop:=∃ b,v= .pointer (some ⟨b,j,none⟩)/\Blk W b typV 9
theorem words_cast0 (A:Nat->Prop) (w:World) (o:Int) (s t:ByteArray) (la:Option Addr) (xln lc:Nat) (x0:Tr) (hk:KidsA A w la xln lc [x0]) (hw:WordsOk w A [x0]) :
 Calls Tryz.prog 19 #[.agg #[.int .i64 12,.int .i64 o,.string s,.string t,.int .i64 1,.slice la xln lc]] w fun e w'=>e= .returned (.string ⟨(wordsB 12 o (bsl s) (bsl t) 1 [(lvT x0,wordsT x0)]).toArray⟩)/\Ext w w':=by
 have mixed:Tryz.prog.follows .mixedOrders=true:=by kernel_rfl
 rcases hk with ⟨_,hk⟩|⟨g,off,L,rfl,rfl,hlc,hL,hA,hN,hch,_⟩
 ·cases hk
 obtain ⟨y0,rfl⟩:=len_one (show L.length=1 from hL);simp only [List.length_cons,List.length_nil,Nat.zero_add] at hlc |-;have hT0:=hch 0 y0 x0 rfl rfl;obtain ⟨hl0,hq0⟩:=hw x0 (by simp);obtain ⟨S0,hS0⟩:∃ S:ByteArray,S=⟨(atB (lvT x0,wordsT x0) 1).toArray⟩:=⟨_,rfl⟩
 have hz0:S0.size<=1000000:=by rw [hS0,sizeL];have:=atB_len (lvT x0,wordsT x0) 1;simp only at this;omega
 have KA0:=h_ (fun W (hW:Ext w W)=>at_anyR y0 1 (wordsT x0) (by omega) W fun W2 h2=>hq0 y0 W2 (hT0.ext (Ext.trans hW h2)) (Ext.trans hW h2));rw [lv_of hT0,<- hS0] at KA0;have hc0:=fun W (hW:Ext w W)=>(hN.same (hW.block g hN.1) hW.size).at6 (i:=0) (y:=y0) rfl;have hgl:=hN.1;have hres:Ending.returned (.string ⟨(wordsB 12 o (bsl s) (bsl t) 1 [(lvT x0,wordsT x0)]).toArray⟩)=Ending.returned (.string ((((⟨#[67,65,83,84,32,40,32]⟩++S0)++⟨#[32,65,83,32]⟩)++⟨#[66,79,79,76]⟩)++⟨#[32,41]⟩)):=by
  refine congrArg (fun x=>Ending.returned (.string x)) (ba_ext ?_);rw [hS0];simp [wordsB,testB,callB,kwB,atI]
 rw [hres];have HX:=h_ (show Ext w (w.alloc (.cells #[.int .i64 12,.int .i64 o,.string s,.string t,.int .i64 1,.slice (some ⟨g,off,none⟩) 1 lc] 24)) from (Ext.refl w).alloc _);have HB:=h_ (Blk.new w #[.int .i64 12,.int .i64 o,.string s,.string t,.int .i64 1,.slice (some ⟨g,off,none⟩) 1 lc] 24 rfl);clear hN hch hw hA hS0 hl0 hq0 hT0 hres;obtain ⟨k0,o0,s0,t0,n0,a0,m0,c0⟩:=y0;simp only [PN.v,Nat.zero_mul,Nat.add_zero] at KA0 hc0;go_enter Tryz.func19,Tryz.ntmps19;go_upto_region 1 with (fail)
 generalize (w.alloc (.cells #[.int .i64 12,.int .i64 o,.string s,.string t,.int .i64 1,.slice (some ⟨g,off,none⟩) 1 lc] 24))=W0 at HX HB |-;obtain ⟨cb,fb⟩:=HB.out.facts;have hbl:=HB.out.lt;go_upto_region 23 with (fail)
 have HF:=h_ (show ∀ W,Ext W0 W->(∀ j,W.cell? ⟨w.heap.size,j,none⟩=(#[.int .i64 12,.int .i64 o,.string s,.string t,.int .i64 1,.slice (some ⟨g,off,none⟩) 1 lc]:Array Value)[j]?)/\(W.cell? ⟨g,off,none⟩=some (.int .i64 k0)/\W.cell? ⟨g,off+1,none⟩=some (.int .i64 o0)/\W.cell? ⟨g,off+2,none⟩=some (.string s0)/\W.cell? ⟨g,off+3,none⟩=some (.string t0)/\W.cell? ⟨g,off+4,none⟩=some (.int .i64 n0)/\W.cell? ⟨g,off+5,none⟩=some (.slice a0 m0 c0)) from fun W hW=>⟨(HB.out.keep hW).cell,hc0 W (Ext.trans HX.out hW)⟩);replace KA0:=h_ (fun W (hW:Ext W0 W)=>KA0.out W (Ext.trans HX.out hW));clear hc0;refine wp_par 16 (fun
  |0=>fun v _=>v= .pointer (some ⟨w.heap.size,5,none⟩)
  |1=>fun v _=>v= .slice (some ⟨g,off,none⟩) 1 lc
  |2=>fun v _=>v= .pointer (some ⟨g,off,none⟩)
  |3=>fun v _=>v= .agg #[.int .i64 k0,.int .i64 o0,.string s0,.string t0,.int .i64 n0,.slice a0 m0 c0]
  |4=>fun v _=>v= .string S0
  |5=>fun v _=>v= .string (⟨#[67,65,83,84,32,40,32]⟩++S0)
  |6=>fun v _=>v= .string ((⟨#[67,65,83,84,32,40,32]⟩++S0)++⟨#[32,65,83,32]⟩)
  |7=>kwR
  |8=>fun v _=>v= .pointer (some ⟨w.heap.size,4,none⟩)
  |9=>fun v _=>v= .int .i64 1
  |10=>fun v _=>v= .int .i64 0
  |11=>kwQ 0
  |12=>fun v _=>v= .string ⟨#[66,79,79,76]⟩
  |13=>fun v _=>v= .string (((⟨#[67,65,83,84,32,40,32]⟩++S0)++⟨#[32,65,83,32]⟩)++⟨#[66,79,79,76]⟩)
  |14=>fun v _=>v= .string ((((⟨#[67,65,83,84,32,40,32]⟩++S0)++⟨#[32,65,83,32]⟩)++⟨#[66,79,79,76]⟩)++⟨#[32,41]⟩)
  |15=>fun v _=>v= .string ((((⟨#[67,65,83,84,32,40,32]⟩++S0)++⟨#[32,65,83,32]⟩)++⟨#[66,79,79,76]⟩)++⟨#[32,41]⟩)
  |_=>fun _ _=>True) (by kernel_rfl) (by kernel_rfl) (by kernel_rfl) ?_ ?_
 ·simp (maxSteps:=20000000) only [List.take_succ_cons,List.take_zero,ParAll,Act.put,List.setIfInBounds_toArray,List.set_cons_succ,List.set_cons_zero];refine ⟨?_,?_,?_,?_,?_,?_,?_,?_,?_,?_,?_,?_,?_,?_,?_,?_,trivial⟩
  all_goals
   intro vals W hx hd;have hW:=HF.out W hx;simp [PDeps,pdeps,Region.binds] at hd
   first
    |refine ParOb.plain rfl ?_
    |refine ParOb.wanted (by simp [Region.wanted,yielded,hd]) ?_
  iterate 4
   next =>
    go_simp;exact ParPost.same fun _ _=>rfl
  ·go_simp;refine Calls.mono (KA0.out W hx) ?_;rintro e w2 ⟨rfl,hb2⟩;exact ⟨_,rfl,hb2,fun _ _=>rfl⟩
  ·go_simp;rw [if_neg (by omega),yieldsUpon_value];exact ParPost.same fun _ _=>rfl
  ·go_simp;rw [if_neg (by omega),yieldsUpon_value];exact ParPost.same fun _ _=>rfl
  ·go_simp;exact ⟨(Ext.refl _).alloc _,fun w3 h3=>⟨W.heap.size,rfl,(Blk.new W typV 9 rfl).keep h3⟩⟩
  iterate 3
   next =>
    go_simp;exact ParPost.same fun _ _=>rfl
  ·obtain ⟨⟨b,hv,hb⟩,hd2⟩:=hd;go_simp;exact ⟨Ext.refl _,fun w3 h3=>⟨b,rfl,hb.keep h3⟩⟩
  ·obtain ⟨b,hv,hb⟩:=hd;have hc:=hb.cell 0;have hcl:=hb.lt;simp [typV] at hc;go_simp;exact ParPost.same fun _ _=>rfl
  ·go_simp;rw [if_neg (by omega),yieldsUpon_value];exact ParPost.same fun _ _=>rfl
  ·go_simp;rw [if_neg (by omega),yieldsUpon_value];exact ParPost.same fun _ _=>rfl
  ·go_simp;exact ParPost.same fun _ _=>rfl
 intro vals W hx hf;simp (maxSteps:=20000000) only [ParFacts,List.take_succ_cons,List.take_zero,and_true,Nat.reduceAdd] at hf;obtain ⟨f0,f1,f2,f3,f4,f5,f6,f7,f8,f9,f10,f11,f12,f13,f14,f15⟩:=hf;simp (maxSteps:=20000000) only [List.drop_succ_cons,List.drop_zero,List.take_succ_cons,List.take_zero,ParEnd,Act.put,List.setIfInBounds_toArray,List.set_cons_succ,List.set_cons_zero,Nat.reduceAdd,f0,f1,f2,f3,f4,f5,f6,f8,f9,f10,f12,f13,f14,f15];clear f0 f1 f2 f3 f4 f5 f6 f8 f9 f10 f12 f13 f14 f15;generalize vals 7=y7 at f7 |-;generalize vals 11=y11 at f11 |-;have HX3:=h_ (Ext.trans HX.out hx);clear hx HF;go_simp
 repeat (first|go_values|go_skip|go_guarded|go_step|go_upon)
 go_returns;exact ⟨rfl,HX3.out⟩
theorem words_cast1 (A:Nat->Prop) (w:World) (o:Int) (s t:ByteArray) (la:Option Addr) (xln lc:Nat) (x0:Tr) (hk:KidsA A w la xln lc [x0]) (hw:WordsOk w A [x0]) :
 Calls Tryz.prog 19 #[.agg #[.int .i64 12,.int .i64 o,.string s,.string t,.int .i64 2,.slice la xln lc]] w fun e w'=>e= .returned (.string ⟨(wordsB 12 o (bsl s) (bsl t) 2 [(lvT x0,wordsT x0)]).toArray⟩)/\Ext w w':=by
 have mixed:Tryz.prog.follows .mixedOrders=true:=by kernel_rfl
 rcases hk with ⟨_,hk⟩|⟨g,off,L,rfl,rfl,hlc,hL,hA,hN,hch,_⟩
 ·cases hk
 obtain ⟨y0,rfl⟩:=len_one (show L.length=1 from hL);simp only [List.length_cons,List.length_nil,Nat.zero_add] at hlc |-;have hT0:=hch 0 y0 x0 rfl rfl;obtain ⟨hl0,hq0⟩:=hw x0 (by simp);obtain ⟨S0,hS0⟩:∃ S:ByteArray,S=⟨(atB (lvT x0,wordsT x0) 1).toArray⟩:=⟨_,rfl⟩
 have hz0:S0.size<=1000000:=by rw [hS0,sizeL];have:=atB_len (lvT x0,wordsT x0) 1;simp only at this;omega
 have KA0:=h_ (fun W (hW:Ext w W)=>at_anyR y0 1 (wordsT x0) (by omega) W fun W2 h2=>hq0 y0 W2 (hT0.ext (Ext.trans hW h2)) (Ext.trans hW h2));rw [lv_of hT0,<- hS0] at KA0;have hc0:=fun W (hW:Ext w W)=>(hN.same (hW.block g hN.1) hW.size).at6 (i:=0) (y:=y0) rfl;have hgl:=hN.1;have hres:Ending.returned (.string ⟨(wordsB 12 o (bsl s) (bsl t) 2 [(lvT x0,wordsT x0)]).toArray⟩)=Ending.returned (.string ((((⟨#[67,65,83,84,32,40,32]⟩++S0)++⟨#[32,65,83,32]⟩)++⟨#[73,78,84]⟩)++⟨#[32,41]⟩)):=by
  refine congrArg (fun x=>Ending.returned (.string x)) (ba_ext ?_);rw [hS0];simp [wordsB,testB,callB,kwB,atI]
 rw [hres];have HX:=h_ (show Ext w (w.alloc (.cells #[.int .i64 12,.int .i64 o,.string s,.string t,.int .i64 2,.slice (some ⟨g,off,none⟩) 1 lc] 24)) from (Ext.refl w).alloc _);have HB:=h_ (Blk.new w #[.int .i64 12,.int .i64 o,.string s,.string t,.int .i64 2,.slice (some ⟨g,off,none⟩) 1 lc] 24 rfl);clear hN hch hw hA hS0 hl0 hq0 hT0 hres;obtain ⟨k0,o0,s0,t0,n0,a0,m0,c0⟩:=y0;simp only [PN.v,Nat.zero_mul,Nat.add_zero] at KA0 hc0;go_enter Tryz.func19,Tryz.ntmps19;go_upto_region 1 with (fail)
 generalize (w.alloc (.cells #[.int .i64 12,.int .i64 o,.string s,.string t,.int .i64 2,.slice (some ⟨g,off,none⟩) 1 lc] 24))=W0 at HX HB |-;obtain ⟨cb,fb⟩:=HB.out.facts;have hbl:=HB.out.lt;go_upto_region 23 with (fail)
 have HF:=h_ (show ∀ W,Ext W0 W->(∀ j,W.cell? ⟨w.heap.size,j,none⟩=(#[.int .i64 12,.int .i64 o,.string s,.string t,.int .i64 2,.slice (some ⟨g,off,none⟩) 1 lc]:Array Value)[j]?)/\(W.cell? ⟨g,off,none⟩=some (.int .i64 k0)/\W.cell? ⟨g,off+1,none⟩=some (.int .i64 o0)/\W.cell? ⟨g,off+2,none⟩=some (.string s0)/\W.cell? ⟨g,off+3,none⟩=some (.string t0)/\W.cell? ⟨g,off+4,none⟩=some (.int .i64 n0)/\W.cell? ⟨g,off+5,none⟩=some (.slice a0 m0 c0)) from fun W hW=>⟨(HB.out.keep hW).cell,hc0 W (Ext.trans HX.out hW)⟩);replace KA0:=h_ (fun W (hW:Ext W0 W)=>KA0.out W (Ext.trans HX.out hW));clear hc0;refine wp_par 16 (fun
  |0=>fun v _=>v= .pointer (some ⟨w.heap.size,5,none⟩)
  |1=>fun v _=>v= .slice (some ⟨g,off,none⟩) 1 lc
  |2=>fun v _=>v= .pointer (some ⟨g,off,none⟩)
  |3=>fun v _=>v= .agg #[.int .i64 k0,.int .i64 o0,.string s0,.string t0,.int .i64 n0,.slice a0 m0 c0]
  |4=>fun v _=>v= .string S0
  |5=>fun v _=>v= .string (⟨#[67,65,83,84,32,40,32]⟩++S0)
  |6=>fun v _=>v= .string ((⟨#[67,65,83,84,32,40,32]⟩++S0)++⟨#[32,65,83,32]⟩)
  |7=>kwR
  |8=>fun v _=>v= .pointer (some ⟨w.heap.size,4,none⟩)
  |9=>fun v _=>v= .int .i64 2
  |10=>fun v _=>v= .int .i64 1
  |11=>kwQ 1
  |12=>fun v _=>v= .string ⟨#[73,78,84]⟩
  |13=>fun v _=>v= .string (((⟨#[67,65,83,84,32,40,32]⟩++S0)++⟨#[32,65,83,32]⟩)++⟨#[73,78,84]⟩)
  |14=>fun v _=>v= .string ((((⟨#[67,65,83,84,32,40,32]⟩++S0)++⟨#[32,65,83,32]⟩)++⟨#[73,78,84]⟩)++⟨#[32,41]⟩)
  |15=>fun v _=>v= .string ((((⟨#[67,65,83,84,32,40,32]⟩++S0)++⟨#[32,65,83,32]⟩)++⟨#[73,78,84]⟩)++⟨#[32,41]⟩)
  |_=>fun _ _=>True) (by kernel_rfl) (by kernel_rfl) (by kernel_rfl) ?_ ?_
 ·simp (maxSteps:=20000000) only [List.take_succ_cons,List.take_zero,ParAll,Act.put,List.setIfInBounds_toArray,List.set_cons_succ,List.set_cons_zero];refine ⟨?_,?_,?_,?_,?_,?_,?_,?_,?_,?_,?_,?_,?_,?_,?_,?_,trivial⟩
  all_goals
   intro vals W hx hd;have hW:=HF.out W hx;simp [PDeps,pdeps,Region.binds] at hd
   first
    |refine ParOb.plain rfl ?_
    |refine ParOb.wanted (by simp [Region.wanted,yielded,hd]) ?_
  iterate 4
   next =>
    go_simp;exact ParPost.same fun _ _=>rfl
  ·go_simp;refine Calls.mono (KA0.out W hx) ?_;rintro e w2 ⟨rfl,hb2⟩;exact ⟨_,rfl,hb2,fun _ _=>rfl⟩
  ·go_simp;rw [if_neg (by omega),yieldsUpon_value];exact ParPost.same fun _ _=>rfl
  ·go_simp;rw [if_neg (by omega),yieldsUpon_value];exact ParPost.same fun _ _=>rfl
  ·go_simp;exact ⟨(Ext.refl _).alloc _,fun w3 h3=>⟨W.heap.size,rfl,(Blk.new W typV 9 rfl).keep h3⟩⟩
  iterate 3
   next =>
    go_simp;exact ParPost.same fun _ _=>rfl
  ·obtain ⟨⟨b,hv,hb⟩,hd2⟩:=hd;go_simp;exact ⟨Ext.refl _,fun w3 h3=>⟨b,rfl,hb.keep h3⟩⟩
  ·obtain ⟨b,hv,hb⟩:=hd;have hc:=hb.cell 1;have hcl:=hb.lt;simp [typV] at hc;go_simp;exact ParPost.same fun _ _=>rfl
  ·go_simp;rw [if_neg (by omega),yieldsUpon_value];exact ParPost.same fun _ _=>rfl
  ·go_simp;rw [if_neg (by omega),yieldsUpon_value];exact ParPost.same fun _ _=>rfl
  ·go_simp;exact ParPost.same fun _ _=>rfl
 intro vals W hx hf;simp (maxSteps:=20000000) only [ParFacts,List.take_succ_cons,List.take_zero,and_true,Nat.reduceAdd] at hf;obtain ⟨f0,f1,f2,f3,f4,f5,f6,f7,f8,f9,f10,f11,f12,f13,f14,f15⟩:=hf;simp (maxSteps:=20000000) only [List.drop_succ_cons,List.drop_zero,List.take_succ_cons,List.take_zero,ParEnd,Act.put,List.setIfInBounds_toArray,List.set_cons_succ,List.set_cons_zero,Nat.reduceAdd,f0,f1,f2,f3,f4,f5,f6,f8,f9,f10,f12,f13,f14,f15];clear f0 f1 f2 f3 f4 f5 f6 f8 f9 f10 f12 f13 f14 f15;generalize vals 7=y7 at f7 |-;generalize vals 11=y11 at f11 |-;have HX3:=h_ (Ext.trans HX.out hx);clear hx HF;go_simp
 repeat (first|go_values|go_skip|go_guarded|go_step|go_upon)
 go_returns;exact ⟨rfl,HX3.out⟩
theorem words_cast2 (A:Nat->Prop) (w:World) (o:Int) (s t:ByteArray) (la:Option Addr) (xln lc:Nat) (x0:Tr) (hk:KidsA A w la xln lc [x0]) (hw:WordsOk w A [x0]) :
 Calls Tryz.prog 19 #[.agg #[.int .i64 12,.int .i64 o,.string s,.string t,.int .i64 3,.slice la xln lc]] w fun e w'=>e= .returned (.string ⟨(wordsB 12 o (bsl s) (bsl t) 3 [(lvT x0,wordsT x0)]).toArray⟩)/\Ext w w':=by
 have mixed:Tryz.prog.follows .mixedOrders=true:=by kernel_rfl
 rcases hk with ⟨_,hk⟩|⟨g,off,L,rfl,rfl,hlc,hL,hA,hN,hch,_⟩
 ·cases hk
 obtain ⟨y0,rfl⟩:=len_one (show L.length=1 from hL);simp only [List.length_cons,List.length_nil,Nat.zero_add] at hlc |-;have hT0:=hch 0 y0 x0 rfl rfl;obtain ⟨hl0,hq0⟩:=hw x0 (by simp);obtain ⟨S0,hS0⟩:∃ S:ByteArray,S=⟨(atB (lvT x0,wordsT x0) 1).toArray⟩:=⟨_,rfl⟩
 have hz0:S0.size<=1000000:=by rw [hS0,sizeL];have:=atB_len (lvT x0,wordsT x0) 1;simp only at this;omega
 have KA0:=h_ (fun W (hW:Ext w W)=>at_anyR y0 1 (wordsT x0) (by omega) W fun W2 h2=>hq0 y0 W2 (hT0.ext (Ext.trans hW h2)) (Ext.trans hW h2));rw [lv_of hT0,<- hS0] at KA0;have hc0:=fun W (hW:Ext w W)=>(hN.same (hW.block g hN.1) hW.size).at6 (i:=0) (y:=y0) rfl;have hgl:=hN.1;have hres:Ending.returned (.string ⟨(wordsB 12 o (bsl s) (bsl t) 3 [(lvT x0,wordsT x0)]).toArray⟩)=Ending.returned (.string ((((⟨#[67,65,83,84,32,40,32]⟩++S0)++⟨#[32,65,83,32]⟩)++⟨#[84,69,88,84]⟩)++⟨#[32,41]⟩)):=by
  refine congrArg (fun x=>Ending.returned (.string x)) (ba_ext ?_);rw [hS0];simp [wordsB,testB,callB,kwB,atI]
 rw [hres];have HX:=h_ (show Ext w (w.alloc (.cells #[.int .i64 12,.int .i64 o,.string s,.string t,.int .i64 3,.slice (some ⟨g,off,none⟩) 1 lc] 24)) from (Ext.refl w).alloc _);have HB:=h_ (Blk.new w #[.int .i64 12,.int .i64 o,.string s,.string t,.int .i64 3,.slice (some ⟨g,off,none⟩) 1 lc] 24 rfl);clear hN hch hw hA hS0 hl0 hq0 hT0 hres;obtain ⟨k0,o0,s0,t0,n0,a0,m0,c0⟩:=y0;simp only [PN.v,Nat.zero_mul,Nat.add_zero] at KA0 hc0;go_enter Tryz.func19,Tryz.ntmps19;go_upto_region 1 with (fail)
 generalize (w.alloc (.cells #[.int .i64 12,.int .i64 o,.string s,.string t,.int .i64 3,.slice (some ⟨g,off,none⟩) 1 lc] 24))=W0 at HX HB |-;obtain ⟨cb,fb⟩:=HB.out.facts;have hbl:=HB.out.lt;go_upto_region 23 with (fail)
 have HF:=h_ (show ∀ W,Ext W0 W->(∀ j,W.cell? ⟨w.heap.size,j,none⟩=(#[.int .i64 12,.int .i64 o,.string s,.string t,.int .i64 3,.slice (some ⟨g,off,none⟩) 1 lc]:Array Value)[j]?)/\(W.cell? ⟨g,off,none⟩=some (.int .i64 k0)/\W.cell? ⟨g,off+1,none⟩=some (.int .i64 o0)/\W.cell? ⟨g,off+2,none⟩=some (.string s0)/\W.cell? ⟨g,off+3,none⟩=some (.string t0)/\W.cell? ⟨g,off+4,none⟩=some (.int .i64 n0)/\W.cell? ⟨g,off+5,none⟩=some (.slice a0 m0 c0)) from fun W hW=>⟨(HB.out.keep hW).cell,hc0 W (Ext.trans HX.out hW)⟩);replace KA0:=h_ (fun W (hW:Ext W0 W)=>KA0.out W (Ext.trans HX.out hW));clear hc0;refine wp_par 16 (fun
  |0=>fun v _=>v= .pointer (some ⟨w.heap.size,5,none⟩)
  |1=>fun v _=>v= .slice (some ⟨g,off,none⟩) 1 lc
  |2=>fun v _=>v= .pointer (some ⟨g,off,none⟩)
  |3=>fun v _=>v= .agg #[.int .i64 k0,.int .i64 o0,.string s0,.string t0,.int .i64 n0,.slice a0 m0 c0]
  |4=>fun v _=>v= .string S0
  |5=>fun v _=>v= .string (⟨#[67,65,83,84,32,40,32]⟩++S0)
  |6=>fun v _=>v= .string ((⟨#[67,65,83,84,32,40,32]⟩++S0)++⟨#[32,65,83,32]⟩)
  |7=>kwR
  |8=>fun v _=>v= .pointer (some ⟨w.heap.size,4,none⟩)
  |9=>fun v _=>v= .int .i64 3
  |10=>fun v _=>v= .int .i64 2
  |11=>kwQ 2
  |12=>fun v _=>v= .string ⟨#[84,69,88,84]⟩
  |13=>fun v _=>v= .string (((⟨#[67,65,83,84,32,40,32]⟩++S0)++⟨#[32,65,83,32]⟩)++⟨#[84,69,88,84]⟩)
  |14=>fun v _=>v= .string ((((⟨#[67,65,83,84,32,40,32]⟩++S0)++⟨#[32,65,83,32]⟩)++⟨#[84,69,88,84]⟩)++⟨#[32,41]⟩)
  |15=>fun v _=>v= .string ((((⟨#[67,65,83,84,32,40,32]⟩++S0)++⟨#[32,65,83,32]⟩)++⟨#[84,69,88,84]⟩)++⟨#[32,41]⟩)
  |_=>fun _ _=>True) (by kernel_rfl) (by kernel_rfl) (by kernel_rfl) ?_ ?_
 ·simp (maxSteps:=20000000) only [List.take_succ_cons,List.take_zero,ParAll,Act.put,List.setIfInBounds_toArray,List.set_cons_succ,List.set_cons_zero];refine ⟨?_,?_,?_,?_,?_,?_,?_,?_,?_,?_,?_,?_,?_,?_,?_,?_,trivial⟩
  all_goals
   intro vals W hx hd;have hW:=HF.out W hx;simp [PDeps,pdeps,Region.binds] at hd
   first
    |refine ParOb.plain rfl ?_
    |refine ParOb.wanted (by simp [Region.wanted,yielded,hd]) ?_
  iterate 4
   next =>
    go_simp;exact ParPost.same fun _ _=>rfl
  ·go_simp;refine Calls.mono (KA0.out W hx) ?_;rintro e w2 ⟨rfl,hb2⟩;exact ⟨_,rfl,hb2,fun _ _=>rfl⟩
  ·go_simp;rw [if_neg (by omega),yieldsUpon_value];exact ParPost.same fun _ _=>rfl
  ·go_simp;rw [if_neg (by omega),yieldsUpon_value];exact ParPost.same fun _ _=>rfl
  ·go_simp;exact ⟨(Ext.refl _).alloc _,fun w3 h3=>⟨W.heap.size,rfl,(Blk.new W typV 9 rfl).keep h3⟩⟩
  iterate 3
   next =>
    go_simp;exact ParPost.same fun _ _=>rfl
  ·obtain ⟨⟨b,hv,hb⟩,hd2⟩:=hd;go_simp;exact ⟨Ext.refl _,fun w3 h3=>⟨b,rfl,hb.keep h3⟩⟩
  ·obtain ⟨b,hv,hb⟩:=hd;have hc:=hb.cell 2;have hcl:=hb.lt;simp [typV] at hc;go_simp;exact ParPost.same fun _ _=>rfl
  ·go_simp;rw [if_neg (by omega),yieldsUpon_value];exact ParPost.same fun _ _=>rfl
  ·go_simp;rw [if_neg (by omega),yieldsUpon_value];exact ParPost.same fun _ _=>rfl
  ·go_simp;exact ParPost.same fun _ _=>rfl
 intro vals W hx hf;simp (maxSteps:=20000000) only [ParFacts,List.take_succ_cons,List.take_zero,and_true,Nat.reduceAdd] at hf;obtain ⟨f0,f1,f2,f3,f4,f5,f6,f7,f8,f9,f10,f11,f12,f13,f14,f15⟩:=hf;simp (maxSteps:=20000000) only [List.drop_succ_cons,List.drop_zero,List.take_succ_cons,List.take_zero,ParEnd,Act.put,List.setIfInBounds_toArray,List.set_cons_succ,List.set_cons_zero,Nat.reduceAdd,f0,f1,f2,f3,f4,f5,f6,f8,f9,f10,f12,f13,f14,f15];clear f0 f1 f2 f3 f4 f5 f6 f8 f9 f10 f12 f13 f14 f15;generalize vals 7=y7 at f7 |-;generalize vals 11=y11 at f11 |-;have HX3:=h_ (Ext.trans HX.out hx);clear hx HF;go_simp
 repeat (first|go_values|go_skip|go_guarded|go_step|go_upon)
 go_returns;exact ⟨rfl,HX3.out⟩
theorem words_any {d:Nat} {t:Tr} (h:SmT d t):∀ (x:PN) (A:Nat->Prop) (w:World),TrIn A w x t->cntT t<=300->Calls Tryz.prog 19 #[x.v] w fun e w'=>e= .returned (.string ⟨(wordsT t).toArray⟩)/\Ext w w':=by
 induction h with
 |mk d k o s t n l hd hn hl hs ht hch ih =>
  intro x A w hT hc;obtain ⟨xk,xo,xs,xt,xn,xla,xln,xlc⟩:=x;obtain ⟨h1,h2,h3,h4,h5,hK⟩:=hT.parts;simp only at h1 h2 h3 h4 h5 hK;subst h1 h2 h3 h4 h5;have hln:=hK.len;rw [cntT_mk] at hc;have hcl:=cntTs_mem l;have hw:WordsOk w A l:=fun z hz=>by
   have h1:=wordsT_len (hch z hz);have h2:=hcl z hz;exact ⟨by omega,fun y W hTy hW=>ih z hz y A W hTy (by omega)⟩
  have hss:(ByteArray.mk s.toArray).size<=500:=by rw [sizeL];exact hs
  have hst:(ByteArray.mk t.toArray).size<=50:=by rw [sizeL];exact ht
  have hLl:(wordsTs l).length=xln:=by rw [wordsTs_len,hln]
  rw [wordsT_mk];rw [show wordsB xk xo s t xn (wordsTs l)=wordsB xk xo (bsl ⟨s.toArray⟩) (bsl ⟨t.toArray⟩) xn (wordsTs l) by rw [bsl_mk,bsl_mk]];simp only [PN.v];by_cases h6:xk=6
  ·subst h6;by_cases hx:xln=2
   ·obtain ⟨a,b,rfl⟩:=len_two (hln.symm.trans hx);rw [show wordsTs [a,b]=[(lvT a,wordsT a),(lvT b,wordsT b)] by rw [wordsTs_map];rfl];by_cases h4:lvR 6 xo=4
    ·exact words_bin4 A w xo xn _ _ _ _ _ a b h4 hK hw
    ·exact words_bin A w xo xn _ _ _ _ _ a b _ rfl h4 hK hw
   ·exact words_no6 w xo xn _ _ _ _ _ _ hLl hx
  by_cases h5:xk=5
  ·subst h5;by_cases hx:xln=1
   ·obtain ⟨a,rfl⟩:=len_one (hln.symm.trans hx);rw [show wordsTs [a]=[(lvT a,wordsT a)] by rw [wordsTs_map];rfl];by_cases ho:xo=21
    ·subst ho;exact words_not A w 0 xn _ _ _ _ _ a hK hw
    ·exact words_neg A w xo xn _ _ _ _ _ a ho hK hw
   ·exact words_no5 w xo xn _ _ _ _ _ _ hLl hx
  by_cases h7:xk=7
  ·subst h7;by_cases hx:xln=1
   ·obtain ⟨a,rfl⟩:=len_one (hln.symm.trans hx);rw [show wordsTs [a]=[(lvT a,wordsT a)] by rw [wordsTs_map];rfl];exact words_is A w xo xn _ _ _ _ _ a hK hw
   ·exact words_no7 w xo xn _ _ _ _ _ _ hLl hx
  by_cases h8:xk=8
  ·subst h8;by_cases hx:xln=2
   ·obtain ⟨a,b,rfl⟩:=len_two (hln.symm.trans hx);rw [show wordsTs [a,b]=[(lvT a,wordsT a),(lvT b,wordsT b)] by rw [wordsTs_map];rfl];exact words_like2 A w xo xn _ _ _ _ _ a b hK hw
   by_cases hx3:xln=3
   ·obtain ⟨a,b,c,rfl⟩:=len_three (hln.symm.trans hx3);rw [show wordsTs [a,b,c]=[(lvT a,wordsT a),(lvT b,wordsT b),(lvT c,wordsT c)] by rw [wordsTs_map];rfl];exact words_like3 A w xo xn _ _ _ _ _ a b c hK hw
   ·exact words_no8 w xo xn _ _ _ _ _ _ hLl ⟨hx,hx3⟩
  by_cases h9:xk=9
  ·subst h9;by_cases hx:1<xln
   ·match l,hln with
    | [],hln=>rw [hln] at hx;simp at hx
    |a::r,hln =>
     rw [hln,List.length_cons] at hx;rw [wordsTs_cons];rw [List.length_cons] at hl;rw [cntTs_cons] at hc;have htot:=totB_le r fun y hy=>wordsT_len (hch y (by simp [hy]));exact words_in A w xo xn _ _ _ _ _ a r (by omega) (by omega) (by omega) hK hw
   ·exact words_no9 w xo xn _ _ _ _ _ _ hLl hx
  by_cases h10:xk=10
  ·subst h10;by_cases hx3:xln=3
   ·obtain ⟨a,b,c,rfl⟩:=len_three (hln.symm.trans hx3);rw [show wordsTs [a,b,c]=[(lvT a,wordsT a),(lvT b,wordsT b),(lvT c,wordsT c)] by rw [wordsTs_map];rfl];exact words_betw A w xo xn _ _ _ _ _ a b c hK hw
   ·exact words_no10 w xo xn _ _ _ _ _ _ hLl hx3
  by_cases h11:xk=11
  ·subst h11;by_cases hx:xln=1
   ·obtain ⟨a,rfl⟩:=len_one (hln.symm.trans hx);rw [show wordsTs [a]=[(lvT a,wordsT a)] by rw [wordsTs_map];rfl];exact words_coll A w xo xn _ _ _ _ _ a hK hw hss
   ·exact words_no11 w xo xn _ _ _ _ _ _ hLl hx
  by_cases h12:xk=12
  ·subst h12;by_cases hx:xln=1
   ·obtain ⟨a,rfl⟩:=len_one (hln.symm.trans hx);rw [show wordsTs [a]=[(lvT a,wordsT a)] by rw [wordsTs_map];rfl] at hLl |-;by_cases hn1:xn<1
    ·exact words_no12b w xo xn _ _ _ _ _ _ rfl hx hn1
    by_cases hn3:3<xn
    ·exact words_no12c w xo xn _ _ _ _ _ _ rfl hx (by omega) hn3
    rcases (show xn=1 ∨ xn=2 ∨ xn=3 by omega) with rfl|rfl|rfl
    ·exact words_cast0 A w xo _ _ _ _ _ a hK hw
    ·exact words_cast1 A w xo _ _ _ _ _ a hK hw
    ·exact words_cast2 A w xo _ _ _ _ _ a hK hw
   ·exact words_no12a w xo xn _ _ _ _ _ _ hLl hx
  by_cases h13:xk=13
  ·subst h13;by_cases hx:xln=1
   ·obtain ⟨a,rfl⟩:=len_one (hln.symm.trans hx);rw [show wordsTs [a]=[(lvT a,wordsT a)] by rw [wordsTs_map];rfl];exact words_call13 A w xo xn _ _ _ _ _ a hK hw hss
   ·exact words_no13 w xo xn _ _ _ _ _ _ hLl hx
  by_cases h14:xk=14
  ·subst h14;by_cases hx0:xln=0
   ·have hl0:l=[]:=List.eq_nil_of_length_eq_zero (hln.symm.trans hx0);exact words_star w xo xn _ _ _ _ _ _ hx0 (by rw [hl0,wordsTs]) hss
   by_cases hx:xln=1
   ·obtain ⟨a,rfl⟩:=len_one (hln.symm.trans hx);rw [show wordsTs [a]=[(lvT a,wordsT a)] by rw [wordsTs_map];rfl];exact words_call14 A w xo xn _ _ _ _ _ a hK hw hss
   ·exact words_no14 w xo xn _ _ _ _ _ _ hLl ⟨hx0,hx⟩
  by_cases h4:xk=4
  ·subst h4;by_cases ht0:bsl ⟨t.toArray⟩=[]
   ·exact words_name w xo xn _ _ _ _ _ _ ht0
   ·exact words_col w xo xn _ _ _ _ _ _ ht0 hss hst
  by_cases h2:xk=2
  ·subst h2;exact words_int w xo xn _ _ _ _ _ _ hn
  by_cases h3:xk=3
  ·subst h3;exact words_text w xo xn _ _ _ _ _ _ hss
  by_cases h1:xk=1
  ·subst h1;by_cases hn1:xn=1
   ·subst hn1;exact words_true w xo 0 _ _ _ _ _ _
   ·exact words_false w xo xn _ _ _ _ _ _ hn1
  by_cases h0:xk=0
  ·subst h0;exact words_null w xo xn _ _ _ _ _ _
  exact words_none w xo xn _ _ _ _ _ _ xk (by omega)
end Go.Proofs.YtimeipjcmffadaaGreatDoor
