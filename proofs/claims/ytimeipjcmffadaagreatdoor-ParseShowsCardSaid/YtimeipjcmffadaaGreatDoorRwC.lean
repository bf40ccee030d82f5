import Derived.Test.YtimeipjcmffadaaGreatDoorSnB
set_option maxHeartbeats 16000000
namespace Go.Proofs.YtimeipjcmffadaaGreatDoor
open Go.RowKit Go.Lib
set_option maxRecDepth 100000
theorem words_bin4 (A:Nat->Prop) (w:World) (o n:Int) (s t:ByteArray) (la:Option Addr) (xln lc:Nat) (x0 x1:Tr) (hK:lvR 6 o=4) (hk:KidsA A w la xln lc [x0,x1]) (hw:WordsOk w A [x0,x1]) :
 Calls Tryz.prog 19 #[.agg #[.int .i64 6,.int .i64 o,.string s,.string t,.int .i64 n,.slice la xln lc]] w fun e w'=>e= .returned (.string ⟨(wordsB 6 o (bsl s) (bsl t) n [(lvT x0,wordsT x0),(lvT x1,wordsT x1)]).toArray⟩)/\Ext w w':=by
 have mixed:Tryz.prog.follows .mixedOrders=true:=by kernel_rfl
 rcases hk with ⟨_,hk⟩|⟨g,off,L,rfl,rfl,hlc,hL,hA,hN,hch,_⟩
 ·cases hk
 obtain ⟨y0,y1,rfl⟩:=len_two (show L.length=2 from hL);simp only [List.length_cons,List.length_nil,Nat.zero_add] at hlc |-;have hT0:=hch 0 y0 x0 rfl rfl;obtain ⟨hl0,hq0⟩:=hw x0 (by simp);obtain ⟨S0,hS0⟩:∃ S:ByteArray,S=⟨(atB (lvT x0,wordsT x0) 5).toArray⟩:=⟨_,rfl⟩
 have hz0:S0.size<=1000000:=by rw [hS0,sizeL];have:=atB_len (lvT x0,wordsT x0) 5;simp only at this;omega
 have KA0:=h_ (fun W (hW:Ext w W)=>at_anyR y0 5 (wordsT x0) (by omega) W fun W2 h2=>hq0 y0 W2 (hT0.ext (Ext.trans hW h2)) (Ext.trans hW h2));rw [lv_of hT0,<- hS0] at KA0;have hc0:=fun W (hW:Ext w W)=>(hN.same (hW.block g hN.1) hW.size).at6 (i:=0) (y:=y0) rfl;have hT1:=hch 1 y1 x1 rfl rfl;obtain ⟨hl1,hq1⟩:=hw x1 (by simp);obtain ⟨S1,hS1⟩:∃ S:ByteArray,S=⟨(atB (lvT x1,wordsT x1) 5).toArray⟩:=⟨_,rfl⟩
 have hz1:S1.size<=1000000:=by rw [hS1,sizeL];have:=atB_len (lvT x1,wordsT x1) 5;simp only at this;omega
 have KA1:=h_ (fun W (hW:Ext w W)=>at_anyR y1 5 (wordsT x1) (by omega) W fun W2 h2=>hq1 y1 W2 (hT1.ext (Ext.trans hW h2)) (Ext.trans hW h2));rw [lv_of hT1,<- hS1] at KA1;have hc1:=fun W (hW:Ext w W)=>(hN.same (hW.block g hN.1) hW.size).at6 (i:=1) (y:=y1) rfl;have hgl:=hN.1;have KOP:=h_ (fun W=>opName_any o W);obtain ⟨OP,hOP⟩:∃ S:ByteArray,S=⟨(opN o).toArray⟩:=⟨_,rfl⟩
 have hzo:OP.size<=3:=by rw [hOP,sizeL];exact opN_len o
 rw [<- hOP] at KOP;have hres:Ending.returned (.string ⟨(wordsB 6 o (bsl s) (bsl t) n [(lvT x0,wordsT x0),(lvT x1,wordsT x1)]).toArray⟩)=Ending.returned (.string ((((S0++⟨#[32]⟩)++OP)++⟨#[32]⟩)++S1)):=by
  refine congrArg (fun x=>Ending.returned (.string x)) (ba_ext ?_);rw [hS0,hS1,hOP];simp [wordsB,hK,atI]
 rw [hres];have HX:=h_ (show Ext w (w.alloc (.cells #[.int .i64 6,.int .i64 o,.string s,.string t,.int .i64 n,.slice (some ⟨g,off,none⟩) 2 lc] 24)) from (Ext.refl w).alloc _);have HB:=h_ (Blk.new w #[.int .i64 6,.int .i64 o,.string s,.string t,.int .i64 n,.slice (some ⟨g,off,none⟩) 2 lc] 24 rfl);clear hN hch hw hA hS0 hl0 hq0 hT0 hS1 hl1 hq1 hT1 hOP hres;obtain ⟨k0,o0,s0,t0,n0,a0,m0,c0⟩:=y0;obtain ⟨k1,o1,s1,t1,n1,a1,m1,c1⟩:=y1;simp only [PN.v,Nat.zero_mul,Nat.add_zero,Nat.one_mul] at KA0 hc0 KA1 hc1;have KLV:=h_ (fun W=>level_any 6 o s t n (some ⟨g,off,none⟩) 2 lc W);rw [hK] at KLV;clear hK;go_enter Tryz.func19,Tryz.ntmps19;go_upto_region 1 with (fail)
 generalize (w.alloc (.cells #[.int .i64 6,.int .i64 o,.string s,.string t,.int .i64 n,.slice (some ⟨g,off,none⟩) 2 lc] 24))=W0 at HX HB |-;obtain ⟨cb,fb⟩:=HB.out.facts;have hbl:=HB.out.lt;go_simp
 repeat (first|go_values|go_skip|go_guarded|go_step|go_upon)
 refine Calls.mono (KLV.out W0) ?_;rintro e W1 ⟨rfl,hx1⟩;replace HB:=h_ (HB.out.keep hx1);replace HX:=h_ (Ext.trans HX.out hx1);clear hx1 cb fb hbl KLV;obtain ⟨cb,fb⟩:=HB.out.facts;have hbl:=HB.out.lt;go_upto_region 4 with (fail)
 have HF:=h_ (show ∀ W,Ext W1 W->(∀ j,W.cell? ⟨w.heap.size,j,none⟩=(#[.int .i64 6,.int .i64 o,.string s,.string t,.int .i64 n,.slice (some ⟨g,off,none⟩) 2 lc]:Array Value)[j]?)/\(W.cell? ⟨g,off,none⟩=some (.int .i64 k0)/\W.cell? ⟨g,off+1,none⟩=some (.int .i64 o0)/\W.cell? ⟨g,off+2,none⟩=some (.string s0)/\W.cell? ⟨g,off+3,none⟩=some (.string t0)/\W.cell? ⟨g,off+4,none⟩=some (.int .i64 n0)/\W.cell? ⟨g,off+5,none⟩=some (.slice a0 m0 c0))/\(W.cell? ⟨g,off+6,none⟩=some (.int .i64 k1)/\W.cell? ⟨g,off+6+1,none⟩=some (.int .i64 o1)/\W.cell? ⟨g,off+6+2,none⟩=some (.string s1)/\W.cell? ⟨g,off+6+3,none⟩=some (.string t1)/\W.cell? ⟨g,off+6+4,none⟩=some (.int .i64 n1)/\W.cell? ⟨g,off+6+5,none⟩=some (.slice a1 m1 c1)) from fun W hW=>⟨(HB.out.keep hW).cell,hc0 W (Ext.trans HX.out hW),hc1 W (Ext.trans HX.out hW)⟩);have HKA:=h_ HX.out;replace KA0:=h_ (fun W (hW:Ext W1 W)=>KA0.out W (Ext.trans HX.out hW));replace KA1:=h_ (fun W (hW:Ext W1 W)=>KA1.out W (Ext.trans HX.out hW));replace KOP:=h_ (fun W (_:Ext W1 W)=>KOP.out W);clear hc0 hc1;refine wp_par 18 (fun
  |0=>fun v _=>v= .pointer (some ⟨w.heap.size,5,none⟩)
  |1=>fun v _=>v= .slice (some ⟨g,off,none⟩) 2 lc
  |2=>fun v _=>v= .pointer (some ⟨g,off,none⟩)
  |3=>fun v _=>v= .agg #[.int .i64 k0,.int .i64 o0,.string s0,.string t0,.int .i64 n0,.slice a0 m0 c0]
  |4=>fun v _=>v= .string S0
  |5=>fun v _=>v= .string (S0++⟨#[32]⟩)
  |6=>fun v _=>v= .pointer (some ⟨w.heap.size,1,none⟩)
  |7=>fun v _=>v= .int .i64 o
  |8=>fun v _=>v= .string OP
  |9=>fun v _=>v= .string ((S0++⟨#[32]⟩)++OP)
  |10=>fun v _=>v= .string (((S0++⟨#[32]⟩)++OP)++⟨#[32]⟩)
  |11=>fun v _=>v= .pointer (some ⟨w.heap.size,5,none⟩)
  |12=>fun v _=>v= .slice (some ⟨g,off,none⟩) 2 lc
  |13=>fun v _=>v= .pointer (some ⟨g,off+6,none⟩)
  |14=>fun v _=>v= .agg #[.int .i64 k1,.int .i64 o1,.string s1,.string t1,.int .i64 n1,.slice a1 m1 c1]
  |15=>fun v _=>v= .string S1
  |16=>fun v _=>v= .string ((((S0++⟨#[32]⟩)++OP)++⟨#[32]⟩)++S1)
  |17=>fun v _=>v= .string ((((S0++⟨#[32]⟩)++OP)++⟨#[32]⟩)++S1)
  |_=>fun _ _=>True) (by kernel_rfl) (by kernel_rfl) (by kernel_rfl) ?_ ?_
 ·simp (maxSteps:=20000000) only [List.take_succ_cons,List.take_zero,ParAll,Act.put,List.setIfInBounds_toArray,List.set_cons_succ,List.set_cons_zero];refine ⟨?_,?_,?_,?_,?_,?_,?_,?_,?_,?_,?_,?_,?_,?_,?_,?_,?_,?_,trivial⟩
  all_goals
   intro vals W hx hd;have hW:=HF.out W hx;simp [PDeps,pdeps,Region.binds] at hd
   first
    |refine ParOb.plain rfl ?_
    |refine ParOb.wanted (by simp [Region.wanted,yielded,hd]) ?_
  iterate 4
   next =>
    go_simp;exact ParPost.same fun _ _=>rfl
  ·go_simp;refine Calls.mono (KA0.out W hx) ?_;rintro e w2 ⟨rfl,hb2⟩;exact ⟨_,rfl,hb2,fun _ _=>rfl⟩
  ·go_simp;rw [if_neg (by omega),yieldsUpon_value];exact ParPost.same fun _ _=>rfl
  iterate 2
   next =>
    go_simp;exact ParPost.same fun _ _=>rfl
  ·go_simp;refine Calls.mono (KOP.out W hx) ?_;rintro e w2 ⟨rfl,hb2⟩;exact ⟨_,rfl,hb2,fun _ _=>rfl⟩
  ·go_simp;rw [if_neg (by omega),yieldsUpon_value];exact ParPost.same fun _ _=>rfl
  ·go_simp;rw [if_neg (by omega),yieldsUpon_value];exact ParPost.same fun _ _=>rfl
  iterate 4
   next =>
    go_simp;exact ParPost.same fun _ _=>rfl
  ·go_simp;refine Calls.mono (KA1.out W hx) ?_;rintro e w2 ⟨rfl,hb2⟩;exact ⟨_,rfl,hb2,fun _ _=>rfl⟩
  ·go_simp;rw [if_neg (by omega),yieldsUpon_value];exact ParPost.same fun _ _=>rfl
  ·go_simp;exact ParPost.same fun _ _=>rfl
 intro vals W hx hf;simp (maxSteps:=20000000) only [ParFacts,List.take_succ_cons,List.take_zero,and_true] at hf;simp (maxSteps:=20000000) only [List.drop_succ_cons,List.drop_zero,List.take_succ_cons,List.take_zero,ParEnd,Act.put,List.setIfInBounds_toArray,List.set_cons_succ,List.set_cons_zero,hf];clear hf;have HX3:=h_ (Ext.trans HX.out hx);clear hx HF;go_simp
 repeat (first|go_values|go_skip|go_guarded|go_step|go_upon)
 go_returns;exact ⟨rfl,HX3.out⟩
theorem words_bin (A:Nat->Prop) (w:World) (o n:Int) (s t:ByteArray) (la:Option Addr) (xln lc:Nat) (x0 x1:Tr) (K:Int) (hKe:lvR 6 o=K) (hK:K≠4) (hk:KidsA A w la xln lc [x0,x1]) (hw:WordsOk w A [x0,x1]) :
 Calls Tryz.prog 19 #[.agg #[.int .i64 6,.int .i64 o,.string s,.string t,.int .i64 n,.slice la xln lc]] w fun e w'=>e= .returned (.string ⟨(wordsB 6 o (bsl s) (bsl t) n [(lvT x0,wordsT x0),(lvT x1,wordsT x1)]).toArray⟩)/\Ext w w':=by
 have mixed:Tryz.prog.follows .mixedOrders=true:=by kernel_rfl
 rcases hk with ⟨_,hk⟩|⟨g,off,L,rfl,rfl,hlc,hL,hA,hN,hch,_⟩
 ·cases hk
 obtain ⟨y0,y1,rfl⟩:=len_two (show L.length=2 from hL);simp only [List.length_cons,List.length_nil,Nat.zero_add] at hlc |-;have hT0:=hch 0 y0 x0 rfl rfl;obtain ⟨hl0,hq0⟩:=hw x0 (by simp);obtain ⟨S0,hS0⟩:∃ S:ByteArray,S=⟨(atB (lvT x0,wordsT x0) K).toArray⟩:=⟨_,rfl⟩
 have hz0:S0.size<=1000000:=by rw [hS0,sizeL];have:=atB_len (lvT x0,wordsT x0) K;simp only at this;omega
 have KA0:=h_ (fun W (hW:Ext w W)=>at_anyR y0 K (wordsT x0) (by omega) W fun W2 h2=>hq0 y0 W2 (hT0.ext (Ext.trans hW h2)) (Ext.trans hW h2));rw [lv_of hT0,<- hS0] at KA0;have hc0:=fun W (hW:Ext w W)=>(hN.same (hW.block g hN.1) hW.size).at6 (i:=0) (y:=y0) rfl;have hT1:=hch 1 y1 x1 rfl rfl;obtain ⟨hl1,hq1⟩:=hw x1 (by simp);obtain ⟨S1,hS1⟩:∃ S:ByteArray,S=⟨(atB (lvT x1,wordsT x1) (K+1)).toArray⟩:=⟨_,rfl⟩
 have hz1:S1.size<=1000000:=by rw [hS1,sizeL];have:=atB_len (lvT x1,wordsT x1) (K+1);simp only at this;omega
 have KA1:=h_ (fun W (hW:Ext w W)=>at_anyR y1 (K+1) (wordsT x1) (by omega) W fun W2 h2=>hq1 y1 W2 (hT1.ext (Ext.trans hW h2)) (Ext.trans hW h2));rw [lv_of hT1,<- hS1] at KA1;have hc1:=fun W (hW:Ext w W)=>(hN.same (hW.block g hN.1) hW.size).at6 (i:=1) (y:=y1) rfl;have hgl:=hN.1;have KOP:=h_ (fun W=>opName_any o W);obtain ⟨OP,hOP⟩:∃ S:ByteArray,S=⟨(opN o).toArray⟩:=⟨_,rfl⟩
 have hzo:OP.size<=3:=by rw [hOP,sizeL];exact opN_len o
 rw [<- hOP] at KOP;have hres:Ending.returned (.string ⟨(wordsB 6 o (bsl s) (bsl t) n [(lvT x0,wordsT x0),(lvT x1,wordsT x1)]).toArray⟩)=Ending.returned (.string ((((S0++⟨#[32]⟩)++OP)++⟨#[32]⟩)++S1)):=by
  refine congrArg (fun x=>Ending.returned (.string x)) (ba_ext ?_);rw [hS0,hS1,hOP];simp [wordsB,hKe,hK,atI]
 rw [hres];have HX:=h_ (show Ext w (w.alloc (.cells #[.int .i64 6,.int .i64 o,.string s,.string t,.int .i64 n,.slice (some ⟨g,off,none⟩) 2 lc] 24)) from (Ext.refl w).alloc _);have HB:=h_ (Blk.new w #[.int .i64 6,.int .i64 o,.string s,.string t,.int .i64 n,.slice (some ⟨g,off,none⟩) 2 lc] 24 rfl);clear hN hch hw hA hS0 hl0 hq0 hT0 hS1 hl1 hq1 hT1 hOP hres;obtain ⟨k0,o0,s0,t0,n0,a0,m0,c0⟩:=y0;obtain ⟨k1,o1,s1,t1,n1,a1,m1,c1⟩:=y1;simp only [PN.v,Nat.zero_mul,Nat.add_zero,Nat.one_mul] at KA0 hc0 KA1 hc1;have KLV:=h_ (fun W=>level_any 6 o s t n (some ⟨g,off,none⟩) 2 lc W);rw [hKe] at KLV;have hKb:(K == 4)=false:=by rw [beq_eq_false_iff_ne];exact hK
 have hsum:=IntWalk.i64_in (K+1) (by have:=lvR_bd 6 o;omega);clear hKe hK;go_enter Tryz.func19,Tryz.ntmps19;go_upto_region 1 with (fail)
 generalize (w.alloc (.cells #[.int .i64 6,.int .i64 o,.string s,.string t,.int .i64 n,.slice (some ⟨g,off,none⟩) 2 lc] 24))=W0 at HX HB |-;obtain ⟨cb,fb⟩:=HB.out.facts;have hbl:=HB.out.lt;go_simp
 repeat (first|go_values|go_skip|go_guarded|go_step|go_upon)
 refine Calls.mono (KLV.out W0) ?_;rintro e W1 ⟨rfl,hx1⟩;replace HB:=h_ (HB.out.keep hx1);replace HX:=h_ (Ext.trans HX.out hx1);clear hx1 cb fb hbl KLV;obtain ⟨cb,fb⟩:=HB.out.facts;have hbl:=HB.out.lt;go_upto_region 5 with (fail)
 have HF:=h_ (show ∀ W,Ext W1 W->(∀ j,W.cell? ⟨w.heap.size,j,none⟩=(#[.int .i64 6,.int .i64 o,.string s,.string t,.int .i64 n,.slice (some ⟨g,off,none⟩) 2 lc]:Array Value)[j]?)/\(W.cell? ⟨g,off,none⟩=some (.int .i64 k0)/\W.cell? ⟨g,off+1,none⟩=some (.int .i64 o0)/\W.cell? ⟨g,off+2,none⟩=some (.string s0)/\W.cell? ⟨g,off+3,none⟩=some (.string t0)/\W.cell? ⟨g,off+4,none⟩=some (.int .i64 n0)/\W.cell? ⟨g,off+5,none⟩=some (.slice a0 m0 c0))/\(W.cell? ⟨g,off+6,none⟩=some (.int .i64 k1)/\W.cell? ⟨g,off+6+1,none⟩=some (.int .i64 o1)/\W.cell? ⟨g,off+6+2,none⟩=some (.string s1)/\W.cell? ⟨g,off+6+3,none⟩=some (.string t1)/\W.cell? ⟨g,off+6+4,none⟩=some (.int .i64 n1)/\W.cell? ⟨g,off+6+5,none⟩=some (.slice a1 m1 c1)) from fun W hW=>⟨(HB.out.keep hW).cell,hc0 W (Ext.trans HX.out hW),hc1 W (Ext.trans HX.out hW)⟩);have HKA:=h_ HX.out;replace KA0:=h_ (fun W (hW:Ext W1 W)=>KA0.out W (Ext.trans HX.out hW));replace KA1:=h_ (fun W (hW:Ext W1 W)=>KA1.out W (Ext.trans HX.out hW));replace KOP:=h_ (fun W (_:Ext W1 W)=>KOP.out W);clear hc0 hc1;refine wp_par 21 (fun
  |0=>fun v _=>v= .pointer (some ⟨w.heap.size,5,none⟩)
  |1=>fun v _=>v= .slice (some ⟨g,off,none⟩) 2 lc
  |2=>fun v _=>v= .pointer (some ⟨g,off,none⟩)
  |3=>fun v _=>v= .agg #[.int .i64 k0,.int .i64 o0,.string s0,.string t0,.int .i64 n0,.slice a0 m0 c0]
  |4=>fun v _=>v= .int .i64 K
  |5=>fun v _=>v= .string S0
  |6=>fun v _=>v= .string (S0++⟨#[32]⟩)
  |7=>fun v _=>v= .pointer (some ⟨w.heap.size,1,none⟩)
  |8=>fun v _=>v= .int .i64 o
  |9=>fun v _=>v= .string OP
  |10=>fun v _=>v= .string ((S0++⟨#[32]⟩)++OP)
  |11=>fun v _=>v= .string (((S0++⟨#[32]⟩)++OP)++⟨#[32]⟩)
  |12=>fun v _=>v= .pointer (some ⟨w.heap.size,5,none⟩)
  |13=>fun v _=>v= .slice (some ⟨g,off,none⟩) 2 lc
  |14=>fun v _=>v= .pointer (some ⟨g,off+6,none⟩)
  |15=>fun v _=>v= .agg #[.int .i64 k1,.int .i64 o1,.string s1,.string t1,.int .i64 n1,.slice a1 m1 c1]
  |16=>fun v _=>v= .int .i64 K
  |17=>fun v _=>v= .int .i64 (K+1)
  |18=>fun v _=>v= .string S1
  |19=>fun v _=>v= .string ((((S0++⟨#[32]⟩)++OP)++⟨#[32]⟩)++S1)
  |20=>fun v _=>v= .string ((((S0++⟨#[32]⟩)++OP)++⟨#[32]⟩)++S1)
  |_=>fun _ _=>True) (by kernel_rfl) (by kernel_rfl) (by kernel_rfl) ?_ ?_
 ·simp (maxSteps:=20000000) only [List.take_succ_cons,List.take_zero,ParAll,Act.put,List.setIfInBounds_toArray,List.set_cons_succ,List.set_cons_zero];refine ⟨?_,?_,?_,?_,?_,?_,?_,?_,?_,?_,?_,?_,?_,?_,?_,?_,?_,?_,?_,?_,?_,trivial⟩
  all_goals
   intro vals W hx hd;have hW:=HF.out W hx;simp [PDeps,pdeps,Region.binds] at hd
   first
    |refine ParOb.plain rfl ?_
    |refine ParOb.wanted (by simp [Region.wanted,yielded,hd]) ?_
  iterate 5
   next =>
    go_simp;exact ParPost.same fun _ _=>rfl
  ·go_simp;refine Calls.mono (KA0.out W hx) ?_;rintro e w2 ⟨rfl,hb2⟩;exact ⟨_,rfl,hb2,fun _ _=>rfl⟩
  ·go_simp;rw [if_neg (by omega),yieldsUpon_value];exact ParPost.same fun _ _=>rfl
  iterate 2
   next =>
    go_simp;exact ParPost.same fun _ _=>rfl
  ·go_simp;refine Calls.mono (KOP.out W hx) ?_;rintro e w2 ⟨rfl,hb2⟩;exact ⟨_,rfl,hb2,fun _ _=>rfl⟩
  ·go_simp;rw [if_neg (by omega),yieldsUpon_value];exact ParPost.same fun _ _=>rfl
  ·go_simp;rw [if_neg (by omega),yieldsUpon_value];exact ParPost.same fun _ _=>rfl
  iterate 6
   next =>
    go_simp;exact ParPost.same fun _ _=>rfl
  ·go_simp;refine Calls.mono (KA1.out W hx) ?_;rintro e w2 ⟨rfl,hb2⟩;exact ⟨_,rfl,hb2,fun _ _=>rfl⟩
  ·go_simp;rw [if_neg (by omega),yieldsUpon_value];exact ParPost.same fun _ _=>rfl
  ·go_simp;exact ParPost.same fun _ _=>rfl
 intro vals W hx hf;simp (maxSteps:=20000000) only [ParFacts,List.take_succ_cons,List.take_zero,and_true] at hf;simp (maxSteps:=20000000) only [List.drop_succ_cons,List.drop_zero,List.take_succ_cons,List.take_zero,ParEnd,Act.put,List.setIfInBounds_toArray,List.set_cons_succ,List.set_cons_zero,hf];clear hf;have HX3:=h_ (Ext.trans HX.out hx);clear hx HF;go_simp
 repeat (first|go_values|go_skip|go_guarded|go_step|go_upon)
 go_returns;exact ⟨rfl,HX3.out⟩
theorem words_is (A:Nat->Prop) (w:World) (o n:Int) (s t:ByteArray) (la:Option Addr) (xln lc:Nat) (x0:Tr) (hk:KidsA A w la xln lc [x0]) (hw:WordsOk w A [x0]) :
 Calls Tryz.prog 19 #[.agg #[.int .i64 7,.int .i64 o,.string s,.string t,.int .i64 n,.slice la xln lc]] w fun e w'=>e= .returned (.string ⟨(wordsB 7 o (bsl s) (bsl t) n [(lvT x0,wordsT x0)]).toArray⟩)/\Ext w w':=by
 have mixed:Tryz.prog.follows .mixedOrders=true:=by kernel_rfl
 rcases hk with ⟨_,hk⟩|⟨g,off,L,rfl,rfl,hlc,hL,hA,hN,hch,_⟩
 ·cases hk
 obtain ⟨y0,rfl⟩:=len_one (show L.length=1 from hL);simp only [List.length_cons,List.length_nil,Nat.zero_add] at hlc |-;have hT0:=hch 0 y0 x0 rfl rfl;obtain ⟨hl0,hq0⟩:=hw x0 (by simp);obtain ⟨S0,hS0⟩:∃ S:ByteArray,S=⟨(atB (lvT x0,wordsT x0) 5).toArray⟩:=⟨_,rfl⟩
 have hz0:S0.size<=1000000:=by rw [hS0,sizeL];have:=atB_len (lvT x0,wordsT x0) 5;simp only at this;omega
 have KA0:=h_ (fun W (hW:Ext w W)=>at_anyR y0 5 (wordsT x0) (by omega) W fun W2 h2=>hq0 y0 W2 (hT0.ext (Ext.trans hW h2)) (Ext.trans hW h2));rw [lv_of hT0,<- hS0] at KA0;have hc0:=fun W (hW:Ext w W)=>(hN.same (hW.block g hN.1) hW.size).at6 (i:=0) (y:=y0) rfl;have hgl:=hN.1;have KNT:=h_ (fun W=>not_anyR 7 o s t n (some ⟨g,off,none⟩) 1 lc W);obtain ⟨NT,hNT⟩:∃ S:ByteArray,S=⟨(notB n).toArray⟩:=⟨_,rfl⟩
 have hzn:NT.size<=4:=by rw [hNT,sizeL];exact notB_len n
 rw [<- hNT] at KNT;have hres:Ending.returned (.string ⟨(wordsB 7 o (bsl s) (bsl t) n [(lvT x0,wordsT x0)]).toArray⟩)=Ending.returned (.string (((S0++⟨#[32,73,83,32]⟩)++NT)++⟨#[78,85,76,76]⟩)):=by
  refine congrArg (fun x=>Ending.returned (.string x)) (ba_ext ?_);rw [hS0,hNT];simp [wordsB,testB,atI]
 rw [hres];have HX:=h_ (show Ext w (w.alloc (.cells #[.int .i64 7,.int .i64 o,.string s,.string t,.int .i64 n,.slice (some ⟨g,off,none⟩) 1 lc] 24)) from (Ext.refl w).alloc _);have HB:=h_ (Blk.new w #[.int .i64 7,.int .i64 o,.string s,.string t,.int .i64 n,.slice (some ⟨g,off,none⟩) 1 lc] 24 rfl);clear hN hch hw hA hS0 hl0 hq0 hT0 hNT hres;obtain ⟨k0,o0,s0,t0,n0,a0,m0,c0⟩:=y0;simp only [PN.v,Nat.zero_mul,Nat.add_zero] at KA0 hc0;go_enter Tryz.func19,Tryz.ntmps19;go_upto_region 1 with (fail)
 generalize (w.alloc (.cells #[.int .i64 7,.int .i64 o,.string s,.string t,.int .i64 n,.slice (some ⟨g,off,none⟩) 1 lc] 24))=W0 at HX HB |-;obtain ⟨cb,fb⟩:=HB.out.facts;have hbl:=HB.out.lt;go_upto_region 11 with (fail)
 have HF:=h_ (show ∀ W,Ext W0 W->(∀ j,W.cell? ⟨w.heap.size,j,none⟩=(#[.int .i64 7,.int .i64 o,.string s,.string t,.int .i64 n,.slice (some ⟨g,off,none⟩) 1 lc]:Array Value)[j]?)/\(W.cell? ⟨g,off,none⟩=some (.int .i64 k0)/\W.cell? ⟨g,off+1,none⟩=some (.int .i64 o0)/\W.cell? ⟨g,off+2,none⟩=some (.string s0)/\W.cell? ⟨g,off+3,none⟩=some (.string t0)/\W.cell? ⟨g,off+4,none⟩=some (.int .i64 n0)/\W.cell? ⟨g,off+5,none⟩=some (.slice a0 m0 c0)) from fun W hW=>⟨(HB.out.keep hW).cell,hc0 W (Ext.trans HX.out hW)⟩);have HKA:=h_ HX.out;replace KA0:=h_ (fun W (hW:Ext W0 W)=>KA0.out W (Ext.trans HX.out hW));replace KNT:=h_ (fun W (_:Ext W0 W)=>KNT.out W);clear hc0;refine wp_par 11 (fun
  |0=>fun v _=>v= .pointer (some ⟨w.heap.size,5,none⟩)
  |1=>fun v _=>v= .slice (some ⟨g,off,none⟩) 1 lc
  |2=>fun v _=>v= .pointer (some ⟨g,off,none⟩)
  |3=>fun v _=>v= .agg #[.int .i64 k0,.int .i64 o0,.string s0,.string t0,.int .i64 n0,.slice a0 m0 c0]
  |4=>fun v _=>v= .string S0
  |5=>fun v _=>v= .string (S0++⟨#[32,73,83,32]⟩)
  |6=>fun v _=>v= .agg #[.int .i64 7,.int .i64 o,.string s,.string t,.int .i64 n,.slice (some ⟨g,off,none⟩) 1 lc]
  |7=>fun v _=>v= .string NT
  |8=>fun v _=>v= .string ((S0++⟨#[32,73,83,32]⟩)++NT)
  |9=>fun v _=>v= .string (((S0++⟨#[32,73,83,32]⟩)++NT)++⟨#[78,85,76,76]⟩)
  |10=>fun v _=>v= .string (((S0++⟨#[32,73,83,32]⟩)++NT)++⟨#[78,85,76,76]⟩)
  |_=>fun _ _=>True) (by kernel_rfl) (by kernel_rfl) (by kernel_rfl) ?_ ?_
 ·simp (maxSteps:=20000000) only [List.take_succ_cons,List.take_zero,ParAll,Act.put,List.setIfInBounds_toArray,List.set_cons_succ,List.set_cons_zero];refine ⟨?_,?_,?_,?_,?_,?_,?_,?_,?_,?_,?_,trivial⟩
  all_goals
   intro vals W hx hd;have hW:=HF.out W hx;simp [PDeps,pdeps,Region.binds] at hd
   first
    |refine ParOb.plain rfl ?_
    |refine ParOb.wanted (by simp [Region.wanted,yielded,hd]) ?_
  iterate 4
   next =>
    go_simp;exact ParPost.same fun _ _=>rfl
  ·go_simp;refine Calls.mono (KA0.out W hx) ?_;rintro e w2 ⟨rfl,hb2⟩;exact ⟨_,rfl,hb2,fun _ _=>rfl⟩
  ·go_simp;rw [if_neg (by omega),yieldsUpon_value];exact ParPost.same fun _ _=>rfl
  ·go_simp;exact ParPost.same fun _ _=>rfl
  ·go_simp;refine Calls.mono (KNT.out W hx) ?_;rintro e w2 ⟨rfl,hb2⟩;exact ⟨_,rfl,hb2,fun _ _=>rfl⟩
  ·go_simp;rw [if_neg (by omega),yieldsUpon_value];exact ParPost.same fun _ _=>rfl
  ·go_simp;rw [if_neg (by omega),yieldsUpon_value];exact ParPost.same fun _ _=>rfl
  ·go_simp;exact ParPost.same fun _ _=>rfl
 intro vals W hx hf;simp (maxSteps:=20000000) only [ParFacts,List.take_succ_cons,List.take_zero,and_true] at hf;simp (maxSteps:=20000000) only [List.drop_succ_cons,List.drop_zero,List.take_succ_cons,List.take_zero,ParEnd,Act.put,List.setIfInBounds_toArray,List.set_cons_succ,List.set_cons_zero,hf];clear hf;have HX3:=h_ (Ext.trans HX.out hx);clear hx HF;go_simp
 repeat (first|go_values|go_skip|go_guarded|go_step|go_upon)
 go_returns;exact ⟨rfl,HX3.out⟩
theorem words_like2 (A:Nat->Prop) (w:World) (o n:Int) (s t:ByteArray) (la:Option Addr) (xln lc:Nat) (x0 x1:Tr) (hk:KidsA A w la xln lc [x0,x1]) (hw:WordsOk w A [x0,x1]) :
 Calls Tryz.prog 19 #[.agg #[.int .i64 8,.int .i64 o,.string s,.string t,.int .i64 n,.slice la xln lc]] w fun e w'=>e= .returned (.string ⟨(wordsB 8 o (bsl s) (bsl t) n [(lvT x0,wordsT x0),(lvT x1,wordsT x1)]).toArray⟩)/\Ext w w':=by
 have mixed:Tryz.prog.follows .mixedOrders=true:=by kernel_rfl
 rcases hk with ⟨_,hk⟩|⟨g,off,L,rfl,rfl,hlc,hL,hA,hN,hch,_⟩
 ·cases hk
 obtain ⟨y0,y1,rfl⟩:=len_two (show L.length=2 from hL);simp only [List.length_cons,List.length_nil,Nat.zero_add] at hlc |-;have hT0:=hch 0 y0 x0 rfl rfl;obtain ⟨hl0,hq0⟩:=hw x0 (by simp);obtain ⟨S0,hS0⟩:∃ S:ByteArray,S=⟨(atB (lvT x0,wordsT x0) 5).toArray⟩:=⟨_,rfl⟩
 have hz0:S0.size<=1000000:=by rw [hS0,sizeL];have:=atB_len (lvT x0,wordsT x0) 5;simp only at this;omega
 have KA0:=h_ (fun W (hW:Ext w W)=>at_anyR y0 5 (wordsT x0) (by omega) W fun W2 h2=>hq0 y0 W2 (hT0.ext (Ext.trans hW h2)) (Ext.trans hW h2));rw [lv_of hT0,<- hS0] at KA0;have hc0:=fun W (hW:Ext w W)=>(hN.same (hW.block g hN.1) hW.size).at6 (i:=0) (y:=y0) rfl;have hT1:=hch 1 y1 x1 rfl rfl;obtain ⟨hl1,hq1⟩:=hw x1 (by simp);obtain ⟨S1,hS1⟩:∃ S:ByteArray,S=⟨(atB (lvT x1,wordsT x1) 5).toArray⟩:=⟨_,rfl⟩
 have hz1:S1.size<=1000000:=by rw [hS1,sizeL];have:=atB_len (lvT x1,wordsT x1) 5;simp only at this;omega
 have KA1:=h_ (fun W (hW:Ext w W)=>at_anyR y1 5 (wordsT x1) (by omega) W fun W2 h2=>hq1 y1 W2 (hT1.ext (Ext.trans hW h2)) (Ext.trans hW h2));rw [lv_of hT1,<- hS1] at KA1;have hc1:=fun W (hW:Ext w W)=>(hN.same (hW.block g hN.1) hW.size).at6 (i:=1) (y:=y1) rfl;have hgl:=hN.1;have KNT:=h_ (fun W=>not_anyR 8 o s t n (some ⟨g,off,none⟩) 2 lc W);obtain ⟨NT,hNT⟩:∃ S:ByteArray,S=⟨(notB n).toArray⟩:=⟨_,rfl⟩
 have hzn:NT.size<=4:=by rw [hNT,sizeL];exact notB_len n
 rw [<- hNT] at KNT;have hres:Ending.returned (.string ⟨(wordsB 8 o (bsl s) (bsl t) n [(lvT x0,wordsT x0),(lvT x1,wordsT x1)]).toArray⟩)=Ending.returned (.string ((((S0++⟨#[32]⟩)++NT)++⟨#[76,73,75,69,32]⟩)++S1)):=by
  refine congrArg (fun x=>Ending.returned (.string x)) (ba_ext ?_);rw [hS0,hS1,hNT];simp [wordsB,testB,atI]
 rw [hres];have HX:=h_ (show Ext w (w.alloc (.cells #[.int .i64 8,.int .i64 o,.string s,.string t,.int .i64 n,.slice (some ⟨g,off,none⟩) 2 lc] 24)) from (Ext.refl w).alloc _);have HB:=h_ (Blk.new w #[.int .i64 8,.int .i64 o,.string s,.string t,.int .i64 n,.slice (some ⟨g,off,none⟩) 2 lc] 24 rfl);clear hN hch hw hA hS0 hl0 hq0 hT0 hS1 hl1 hq1 hT1 hNT hres;obtain ⟨k0,o0,s0,t0,n0,a0,m0,c0⟩:=y0;obtain ⟨k1,o1,s1,t1,n1,a1,m1,c1⟩:=y1;simp only [PN.v,Nat.zero_mul,Nat.add_zero,Nat.one_mul] at KA0 hc0 KA1 hc1;go_enter Tryz.func19,Tryz.ntmps19;go_upto_region 1 with (fail)
 generalize (w.alloc (.cells #[.int .i64 8,.int .i64 o,.string s,.string t,.int .i64 n,.slice (some ⟨g,off,none⟩) 2 lc] 24))=W0 at HX HB |-;obtain ⟨cb,fb⟩:=HB.out.facts;have hbl:=HB.out.lt;go_upto_region 13 with (fail)
 have HF:=h_ (show ∀ W,Ext W0 W->(∀ j,W.cell? ⟨w.heap.size,j,none⟩=(#[.int .i64 8,.int .i64 o,.string s,.string t,.int .i64 n,.slice (some ⟨g,off,none⟩) 2 lc]:Array Value)[j]?)/\(W.cell? ⟨g,off,none⟩=some (.int .i64 k0)/\W.cell? ⟨g,off+1,none⟩=some (.int .i64 o0)/\W.cell? ⟨g,off+2,none⟩=some (.string s0)/\W.cell? ⟨g,off+3,none⟩=some (.string t0)/\W.cell? ⟨g,off+4,none⟩=some (.int .i64 n0)/\W.cell? ⟨g,off+5,none⟩=some (.slice a0 m0 c0))/\(W.cell? ⟨g,off+6,none⟩=some (.int .i64 k1)/\W.cell? ⟨g,off+6+1,none⟩=some (.int .i64 o1)/\W.cell? ⟨g,off+6+2,none⟩=some (.string s1)/\W.cell? ⟨g,off+6+3,none⟩=some (.string t1)/\W.cell? ⟨g,off+6+4,none⟩=some (.int .i64 n1)/\W.cell? ⟨g,off+6+5,none⟩=some (.slice a1 m1 c1)) from fun W hW=>⟨(HB.out.keep hW).cell,hc0 W (Ext.trans HX.out hW),hc1 W (Ext.trans HX.out hW)⟩);have HKA:=h_ HX.out;replace KA0:=h_ (fun W (hW:Ext W0 W)=>KA0.out W (Ext.trans HX.out hW));replace KA1:=h_ (fun W (hW:Ext W0 W)=>KA1.out W (Ext.trans HX.out hW));replace KNT:=h_ (fun W (_:Ext W0 W)=>KNT.out W);clear hc0 hc1;refine wp_par 17 (fun
  |0=>fun v _=>v= .pointer (some ⟨w.heap.size,5,none⟩)
  |1=>fun v _=>v= .slice (some ⟨g,off,none⟩) 2 lc
  |2=>fun v _=>v= .pointer (some ⟨g,off,none⟩)
  |3=>fun v _=>v= .agg #[.int .i64 k0,.int .i64 o0,.string s0,.string t0,.int .i64 n0,.slice a0 m0 c0]
  |4=>fun v _=>v= .string S0
  |5=>fun v _=>v= .string (S0++⟨#[32]⟩)
  |6=>fun v _=>v= .agg #[.int .i64 8,.int .i64 o,.string s,.string t,.int .i64 n,.slice (some ⟨g,off,none⟩) 2 lc]
  |7=>fun v _=>v= .string NT
  |8=>fun v _=>v= .string ((S0++⟨#[32]⟩)++NT)
  |9=>fun v _=>v= .string (((S0++⟨#[32]⟩)++NT)++⟨#[76,73,75,69,32]⟩)
  |10=>fun v _=>v= .pointer (some ⟨w.heap.size,5,none⟩)
  |11=>fun v _=>v= .slice (some ⟨g,off,none⟩) 2 lc
  |12=>fun v _=>v= .pointer (some ⟨g,off+6,none⟩)
  |13=>fun v _=>v= .agg #[.int .i64 k1,.int .i64 o1,.string s1,.string t1,.int .i64 n1,.slice a1 m1 c1]
  |14=>fun v _=>v= .string S1
  |15=>fun v _=>v= .string ((((S0++⟨#[32]⟩)++NT)++⟨#[76,73,75,69,32]⟩)++S1)
  |16=>fun v _=>v= .string ((((S0++⟨#[32]⟩)++NT)++⟨#[76,73,75,69,32]⟩)++S1)
  |_=>fun _ _=>True) (by kernel_rfl) (by kernel_rfl) (by kernel_rfl) ?_ ?_
 ·simp (maxSteps:=20000000) only [List.take_succ_cons,List.take_zero,ParAll,Act.put,List.setIfInBounds_toArray,List.set_cons_succ,List.set_cons_zero];refine ⟨?_,?_,?_,?_,?_,?_,?_,?_,?_,?_,?_,?_,?_,?_,?_,?_,?_,trivial⟩
  all_goals
   intro vals W hx hd;have hW:=HF.out W hx;simp [PDeps,pdeps,Region.binds] at hd
   first
    |refine ParOb.plain rfl ?_
    |refine ParOb.wanted (by simp [Region.wanted,yielded,hd]) ?_
  iterate 4
   next =>
    go_simp;exact ParPost.same fun _ _=>rfl
  ·go_simp;refine Calls.mono (KA0.out W hx) ?_;rintro e w2 ⟨rfl,hb2⟩;exact ⟨_,rfl,hb2,fun _ _=>rfl⟩
  ·go_simp;rw [if_neg (by omega),yieldsUpon_value];exact ParPost.same fun _ _=>rfl
  ·go_simp;exact ParPost.same fun _ _=>rfl
  ·go_simp;refine Calls.mono (KNT.out W hx) ?_;rintro e w2 ⟨rfl,hb2⟩;exact ⟨_,rfl,hb2,fun _ _=>rfl⟩
  ·go_simp;rw [if_neg (by omega),yieldsUpon_value];exact ParPost.same fun _ _=>rfl
  ·go_simp;rw [if_neg (by omega),yieldsUpon_value];exact ParPost.same fun _ _=>rfl
  iterate 4
   next =>
    go_simp;exact ParPost.same fun _ _=>rfl
  ·go_simp;refine Calls.mono (KA1.out W hx) ?_;rintro e w2 ⟨rfl,hb2⟩;exact ⟨_,rfl,hb2,fun _ _=>rfl⟩
  ·go_simp;rw [if_neg (by omega),yieldsUpon_value];exact ParPost.same fun _ _=>rfl
  ·go_simp;exact ParPost.same fun _ _=>rfl
 intro vals W hx hf;simp (maxSteps:=20000000) only [ParFacts,List.take_succ_cons,List.take_zero,and_true] at hf;simp (maxSteps:=20000000) only [List.drop_succ_cons,List.drop_zero,List.take_succ_cons,List.take_zero,ParEnd,Act.put,List.setIfInBounds_toArray,List.set_cons_succ,List.set_cons_zero,hf];clear hf;have HX3:=h_ (Ext.trans HX.out hx);clear hx HF;go_simp
 repeat (first|go_values|go_skip|go_guarded|go_step|go_upon)
 go_returns;exact ⟨rfl,HX3.out⟩
theorem words_like3 (A:Nat->Prop) (w:World) (o n:Int) (s t:ByteArray) (la:Option Addr) (xln lc:Nat) (x0 x1 x2:Tr) (hk:KidsA A w la xln lc [x0,x1,x2]) (hw:WordsOk w A [x0,x1,x2]) :
 Calls Tryz.prog 19 #[.agg #[.int .i64 8,.int .i64 o,.string s,.string t,.int .i64 n,.slice la xln lc]] w fun e w'=>e= .returned (.string ⟨(wordsB 8 o (bsl s) (bsl t) n [(lvT x0,wordsT x0),(lvT x1,wordsT x1),(lvT x2,wordsT x2)]).toArray⟩)/\Ext w w':=by
 have mixed:Tryz.prog.follows .mixedOrders=true:=by kernel_rfl
 rcases hk with ⟨_,hk⟩|⟨g,off,L,rfl,rfl,hlc,hL,hA,hN,hch,_⟩
 ·cases hk
 obtain ⟨y0,y1,y2,rfl⟩:=len_three (show L.length=3 from hL);simp only [List.length_cons,List.length_nil,Nat.zero_add] at hlc |-;have hT0:=hch 0 y0 x0 rfl rfl;obtain ⟨hl0,hq0⟩:=hw x0 (by simp);obtain ⟨S0,hS0⟩:∃ S:ByteArray,S=⟨(atB (lvT x0,wordsT x0) 5).toArray⟩:=⟨_,rfl⟩
 have hz0:S0.size<=1000000:=by rw [hS0,sizeL];have:=atB_len (lvT x0,wordsT x0) 5;simp only at this;omega
 have KA0:=h_ (fun W (hW:Ext w W)=>at_anyR y0 5 (wordsT x0) (by omega) W fun W2 h2=>hq0 y0 W2 (hT0.ext (Ext.trans hW h2)) (Ext.trans hW h2));rw [lv_of hT0,<- hS0] at KA0;have hc0:=fun W (hW:Ext w W)=>(hN.same (hW.block g hN.1) hW.size).at6 (i:=0) (y:=y0) rfl;have hT1:=hch 1 y1 x1 rfl rfl;obtain ⟨hl1,hq1⟩:=hw x1 (by simp);obtain ⟨S1,hS1⟩:∃ S:ByteArray,S=⟨(atB (lvT x1,wordsT x1) 5).toArray⟩:=⟨_,rfl⟩
 have hz1:S1.size<=1000000:=by rw [hS1,sizeL];have:=atB_len (lvT x1,wordsT x1) 5;simp only at this;omega
 have KA1:=h_ (fun W (hW:Ext w W)=>at_anyR y1 5 (wordsT x1) (by omega) W fun W2 h2=>hq1 y1 W2 (hT1.ext (Ext.trans hW h2)) (Ext.trans hW h2));rw [lv_of hT1,<- hS1] at KA1;have hc1:=fun W (hW:Ext w W)=>(hN.same (hW.block g hN.1) hW.size).at6 (i:=1) (y:=y1) rfl;have hT2:=hch 2 y2 x2 rfl rfl;obtain ⟨hl2,hq2⟩:=hw x2 (by simp);obtain ⟨S2,hS2⟩:∃ S:ByteArray,S=⟨(atB (lvT x2,wordsT x2) 5).toArray⟩:=⟨_,rfl⟩
 have hz2:S2.size<=1000000:=by rw [hS2,sizeL];have:=atB_len (lvT x2,wordsT x2) 5;simp only at this;omega
 have KA2:=h_ (fun W (hW:Ext w W)=>at_anyR y2 5 (wordsT x2) (by omega) W fun W2 h2=>hq2 y2 W2 (hT2.ext (Ext.trans hW h2)) (Ext.trans hW h2));rw [lv_of hT2,<- hS2] at KA2;have hc2:=fun W (hW:Ext w W)=>(hN.same (hW.block g hN.1) hW.size).at6 (i:=2) (y:=y2) rfl;have hgl:=hN.1;have KNT:=h_ (fun W=>not_anyR 8 o s t n (some ⟨g,off,none⟩) 3 lc W);obtain ⟨NT,hNT⟩:∃ S:ByteArray,S=⟨(notB n).toArray⟩:=⟨_,rfl⟩
 have hzn:NT.size<=4:=by rw [hNT,sizeL];exact notB_len n
 rw [<- hNT] at KNT;have hres:Ending.returned (.string ⟨(wordsB 8 o (bsl s) (bsl t) n [(lvT x0,wordsT x0),(lvT x1,wordsT x1),(lvT x2,wordsT x2)]).toArray⟩)=Ending.returned (.string ((((((S0++⟨#[32]⟩)++NT)++⟨#[76,73,75,69,32]⟩)++S1)++⟨#[32,69,83,67,65,80,69,32]⟩)++S2)):=by
  refine congrArg (fun x=>Ending.returned (.string x)) (ba_ext ?_);rw [hS0,hS1,hS2,hNT];simp [wordsB,testB,atI]
 rw [hres];have HX:=h_ (show Ext w (w.alloc (.cells #[.int .i64 8,.int .i64 o,.string s,.string t,.int .i64 n,.slice (some ⟨g,off,none⟩) 3 lc] 24)) from (Ext.refl w).alloc _);have HB:=h_ (Blk.new w #[.int .i64 8,.int .i64 o,.string s,.string t,.int .i64 n,.slice (some ⟨g,off,none⟩) 3 lc] 24 rfl);clear hN hch hw hA hS0 hl0 hq0 hT0 hS1 hl1 hq1 hT1 hS2 hl2 hq2 hT2 hNT hres;obtain ⟨k0,o0,s0,t0,n0,a0,m0,c0⟩:=y0;obtain ⟨k1,o1,s1,t1,n1,a1,m1,c1⟩:=y1;obtain ⟨k2,o2,s2,t2,n2,a2,m2,c2⟩:=y2;simp only [PN.v,Nat.zero_mul,Nat.add_zero,Nat.one_mul,Nat.reduceMul] at KA0 hc0 KA1 hc1 KA2 hc2;go_enter Tryz.func19,Tryz.ntmps19;go_upto_region 1 with (fail)
 generalize (w.alloc (.cells #[.int .i64 8,.int .i64 o,.string s,.string t,.int .i64 n,.slice (some ⟨g,off,none⟩) 3 lc] 24))=W0 at HX HB |-;obtain ⟨cb,fb⟩:=HB.out.facts;have hbl:=HB.out.lt;go_upto_region 15 with (fail)
 have HF:=h_ (show ∀ W,Ext W0 W->(∀ j,W.cell? ⟨w.heap.size,j,none⟩=(#[.int .i64 8,.int .i64 o,.string s,.string t,.int .i64 n,.slice (some ⟨g,off,none⟩) 3 lc]:Array Value)[j]?)/\(W.cell? ⟨g,off,none⟩=some (.int .i64 k0)/\W.cell? ⟨g,off+1,none⟩=some (.int .i64 o0)/\W.cell? ⟨g,off+2,none⟩=some (.string s0)/\W.cell? ⟨g,off+3,none⟩=some (.string t0)/\W.cell? ⟨g,off+4,none⟩=some (.int .i64 n0)/\W.cell? ⟨g,off+5,none⟩=some (.slice a0 m0 c0))/\(W.cell? ⟨g,off+6,none⟩=some (.int .i64 k1)/\W.cell? ⟨g,off+6+1,none⟩=some (.int .i64 o1)/\W.cell? ⟨g,off+6+2,none⟩=some (.string s1)/\W.cell? ⟨g,off+6+3,none⟩=some (.string t1)/\W.cell? ⟨g,off+6+4,none⟩=some (.int .i64 n1)/\W.cell? ⟨g,off+6+5,none⟩=some (.slice a1 m1 c1))/\(W.cell? ⟨g,off+12,none⟩=some (.int .i64 k2)/\W.cell? ⟨g,off+12+1,none⟩=some (.int .i64 o2)/\W.cell? ⟨g,off+12+2,none⟩=some (.string s2)/\W.cell? ⟨g,off+12+3,none⟩=some (.string t2)/\W.cell? ⟨g,off+12+4,none⟩=some (.int .i64 n2)/\W.cell? ⟨g,off+12+5,none⟩=some (.slice a2 m2 c2)) from fun W hW=>⟨(HB.out.keep hW).cell,hc0 W (Ext.trans HX.out hW),hc1 W (Ext.trans HX.out hW),hc2 W (Ext.trans HX.out hW)⟩);have HKA:=h_ HX.out;replace KA0:=h_ (fun W (hW:Ext W0 W)=>KA0.out W (Ext.trans HX.out hW));replace KA1:=h_ (fun W (hW:Ext W0 W)=>KA1.out W (Ext.trans HX.out hW));replace KA2:=h_ (fun W (hW:Ext W0 W)=>KA2.out W (Ext.trans HX.out hW));replace KNT:=h_ (fun W (_:Ext W0 W)=>KNT.out W);clear hc0 hc1 hc2;refine wp_par 24 (fun
  |0=>fun v _=>v= .pointer (some ⟨w.heap.size,5,none⟩)
  |1=>fun v _=>v= .slice (some ⟨g,off,none⟩) 3 lc
  |2=>fun v _=>v= .pointer (some ⟨g,off,none⟩)
  |3=>fun v _=>v= .agg #[.int .i64 k0,.int .i64 o0,.string s0,.string t0,.int .i64 n0,.slice a0 m0 c0]
  |4=>fun v _=>v= .string S0
  |5=>fun v _=>v= .string (S0++⟨#[32]⟩)
  |6=>fun v _=>v= .agg #[.int .i64 8,.int .i64 o,.string s,.string t,.int .i64 n,.slice (some ⟨g,off,none⟩) 3 lc]
  |7=>fun v _=>v= .string NT
  |8=>fun v _=>v= .string ((S0++⟨#[32]⟩)++NT)
  |9=>fun v _=>v= .string (((S0++⟨#[32]⟩)++NT)++⟨#[76,73,75,69,32]⟩)
  |10=>fun v _=>v= .pointer (some ⟨w.heap.size,5,none⟩)
  |11=>fun v _=>v= .slice (some ⟨g,off,none⟩) 3 lc
  |12=>fun v _=>v= .pointer (some ⟨g,off+6,none⟩)
  |13=>fun v _=>v= .agg #[.int .i64 k1,.int .i64 o1,.string s1,.string t1,.int .i64 n1,.slice a1 m1 c1]
  |14=>fun v _=>v= .string S1
  |15=>fun v _=>v= .string ((((S0++⟨#[32]⟩)++NT)++⟨#[76,73,75,69,32]⟩)++S1)
  |16=>fun v _=>v= .string (((((S0++⟨#[32]⟩)++NT)++⟨#[76,73,75,69,32]⟩)++S1)++⟨#[32,69,83,67,65,80,69,32]⟩)
  |17=>fun v _=>v= .pointer (some ⟨w.heap.size,5,none⟩)
  |18=>fun v _=>v= .slice (some ⟨g,off,none⟩) 3 lc
  |19=>fun v _=>v= .pointer (some ⟨g,off+12,none⟩)
  |20=>fun v _=>v= .agg #[.int .i64 k2,.int .i64 o2,.string s2,.string t2,.int .i64 n2,.slice a2 m2 c2]
  |21=>fun v _=>v= .string S2
  |22=>fun v _=>v= .string ((((((S0++⟨#[32]⟩)++NT)++⟨#[76,73,75,69,32]⟩)++S1)++⟨#[32,69,83,67,65,80,69,32]⟩)++S2)
  |23=>fun v _=>v= .string ((((((S0++⟨#[32]⟩)++NT)++⟨#[76,73,75,69,32]⟩)++S1)++⟨#[32,69,83,67,65,80,69,32]⟩)++S2)
  |_=>fun _ _=>True) (by kernel_rfl) (by kernel_rfl) (by kernel_rfl) ?_ ?_
 ·simp (maxSteps:=20000000) only [List.take_succ_cons,List.take_zero,ParAll,Act.put,List.setIfInBounds_toArray,List.set_cons_succ,List.set_cons_zero];refine ⟨?_,?_,?_,?_,?_,?_,?_,?_,?_,?_,?_,?_,?_,?_,?_,?_,?_,?_,?_,?_,?_,?_,?_,?_,trivial⟩
  all_goals
   intro vals W hx hd;have hW:=HF.out W hx;simp [PDeps,pdeps,Region.binds] at hd
   first
    |refine ParOb.plain rfl ?_
    |refine ParOb.wanted (by simp [Region.wanted,yielded,hd]) ?_
  iterate 4
   next =>
    go_simp;exact ParPost.same fun _ _=>rfl
  ·go_simp;refine Calls.mono (KA0.out W hx) ?_;rintro e w2 ⟨rfl,hb2⟩;exact ⟨_,rfl,hb2,fun _ _=>rfl⟩
  ·go_simp;rw [if_neg (by omega),yieldsUpon_value];exact ParPost.same fun _ _=>rfl
  ·go_simp;exact ParPost.same fun _ _=>rfl
  ·go_simp;refine Calls.mono (KNT.out W hx) ?_;rintro e w2 ⟨rfl,hb2⟩;exact ⟨_,rfl,hb2,fun _ _=>rfl⟩
  ·go_simp;rw [if_neg (by omega),yieldsUpon_value];exact ParPost.same fun _ _=>rfl
  ·go_simp;rw [if_neg (by omega),yieldsUpon_value];exact ParPost.same fun _ _=>rfl
  iterate 4
   next =>
    go_simp;exact ParPost.same fun _ _=>rfl
  ·go_simp;refine Calls.mono (KA1.out W hx) ?_;rintro e w2 ⟨rfl,hb2⟩;exact ⟨_,rfl,hb2,fun _ _=>rfl⟩
  ·go_simp;rw [if_neg (by omega),yieldsUpon_value];exact ParPost.same fun _ _=>rfl
  ·go_simp;rw [if_neg (by omega),yieldsUpon_value];exact ParPost.same fun _ _=>rfl
  iterate 4
   next =>
    go_simp;exact ParPost.same fun _ _=>rfl
  ·go_simp;refine Calls.mono (KA2.out W hx) ?_;rintro e w2 ⟨rfl,hb2⟩;exact ⟨_,rfl,hb2,fun _ _=>rfl⟩
  ·go_simp;rw [if_neg (by omega),yieldsUpon_value];exact ParPost.same fun _ _=>rfl
  ·go_simp;exact ParPost.same fun _ _=>rfl
 intro vals W hx hf;simp (maxSteps:=20000000) only [ParFacts,List.take_succ_cons,List.take_zero,and_true] at hf;simp (maxSteps:=20000000) only [List.drop_succ_cons,List.drop_zero,List.take_succ_cons,List.take_zero,ParEnd,Act.put,List.setIfInBounds_toArray,List.set_cons_succ,List.set_cons_zero,hf];clear hf;have HX3:=h_ (Ext.trans HX.out hx);clear hx HF;go_simp
 repeat (first|go_values|go_skip|go_guarded|go_step|go_upon)
 go_returns;exact ⟨rfl,HX3.out⟩
theorem words_betw (A:Nat->Prop) (w:World) (o n:Int) (s t:ByteArray) (la:Option Addr) (xln lc:Nat) (x0 x1 x2:Tr) (hk:KidsA A w la xln lc [x0,x1,x2]) (hw:WordsOk w A [x0,x1,x2]) :
 Calls Tryz.prog 19 #[.agg #[.int .i64 10,.int .i64 o,.string s,.string t,.int .i64 n,.slice la xln lc]] w fun e w'=>e= .returned (.string ⟨(wordsB 10 o (bsl s) (bsl t) n [(lvT x0,wordsT x0),(lvT x1,wordsT x1),(lvT x2,wordsT x2)]).toArray⟩)/\Ext w w':=by
 have mixed:Tryz.prog.follows .mixedOrders=true:=by kernel_rfl
 rcases hk with ⟨_,hk⟩|⟨g,off,L,rfl,rfl,hlc,hL,hA,hN,hch,_⟩
 ·cases hk
 obtain ⟨y0,y1,y2,rfl⟩:=len_three (show L.length=3 from hL);simp only [List.length_cons,List.length_nil,Nat.zero_add] at hlc |-;have hT0:=hch 0 y0 x0 rfl rfl;obtain ⟨hl0,hq0⟩:=hw x0 (by simp);obtain ⟨S0,hS0⟩:∃ S:ByteArray,S=⟨(atB (lvT x0,wordsT x0) 5).toArray⟩:=⟨_,rfl⟩
 have hz0:S0.size<=1000000:=by rw [hS0,sizeL];have:=atB_len (lvT x0,wordsT x0) 5;simp only at this;omega
 have KA0:=h_ (fun W (hW:Ext w W)=>at_anyR y0 5 (wordsT x0) (by omega) W fun W2 h2=>hq0 y0 W2 (hT0.ext (Ext.trans hW h2)) (Ext.trans hW h2));rw [lv_of hT0,<- hS0] at KA0;have hc0:=fun W (hW:Ext w W)=>(hN.same (hW.block g hN.1) hW.size).at6 (i:=0) (y:=y0) rfl;have hT1:=hch 1 y1 x1 rfl rfl;obtain ⟨hl1,hq1⟩:=hw x1 (by simp);obtain ⟨S1,hS1⟩:∃ S:ByteArray,S=⟨(atB (lvT x1,wordsT x1) 5).toArray⟩:=⟨_,rfl⟩
 have hz1:S1.size<=1000000:=by rw [hS1,sizeL];have:=atB_len (lvT x1,wordsT x1) 5;simp only at this;omega
 have KA1:=h_ (fun W (hW:Ext w W)=>at_anyR y1 5 (wordsT x1) (by omega) W fun W2 h2=>hq1 y1 W2 (hT1.ext (Ext.trans hW h2)) (Ext.trans hW h2));rw [lv_of hT1,<- hS1] at KA1;have hc1:=fun W (hW:Ext w W)=>(hN.same (hW.block g hN.1) hW.size).at6 (i:=1) (y:=y1) rfl;have hT2:=hch 2 y2 x2 rfl rfl;obtain ⟨hl2,hq2⟩:=hw x2 (by simp);obtain ⟨S2,hS2⟩:∃ S:ByteArray,S=⟨(atB (lvT x2,wordsT x2) 5).toArray⟩:=⟨_,rfl⟩
 have hz2:S2.size<=1000000:=by rw [hS2,sizeL];have:=atB_len (lvT x2,wordsT x2) 5;simp only at this;omega
 have KA2:=h_ (fun W (hW:Ext w W)=>at_anyR y2 5 (wordsT x2) (by omega) W fun W2 h2=>hq2 y2 W2 (hT2.ext (Ext.trans hW h2)) (Ext.trans hW h2));rw [lv_of hT2,<- hS2] at KA2;have hc2:=fun W (hW:Ext w W)=>(hN.same (hW.block g hN.1) hW.size).at6 (i:=2) (y:=y2) rfl;have hgl:=hN.1;have KNT:=h_ (fun W=>not_anyR 10 o s t n (some ⟨g,off,none⟩) 3 lc W);obtain ⟨NT,hNT⟩:∃ S:ByteArray,S=⟨(notB n).toArray⟩:=⟨_,rfl⟩
 have hzn:NT.size<=4:=by rw [hNT,sizeL];exact notB_len n
 rw [<- hNT] at KNT;have hres:Ending.returned (.string ⟨(wordsB 10 o (bsl s) (bsl t) n [(lvT x0,wordsT x0),(lvT x1,wordsT x1),(lvT x2,wordsT x2)]).toArray⟩)=Ending.returned (.string ((((((S0++⟨#[32]⟩)++NT)++⟨#[66,69,84,87,69,69,78,32]⟩)++S1)++⟨#[32,65,78,68,32]⟩)++S2)):=by
  refine congrArg (fun x=>Ending.returned (.string x)) (ba_ext ?_);rw [hS0,hS1,hS2,hNT];simp [wordsB,testB,atI]
 rw [hres];have HX:=h_ (show Ext w (w.alloc (.cells #[.int .i64 10,.int .i64 o,.string s,.string t,.int .i64 n,.slice (some ⟨g,off,none⟩) 3 lc] 24)) from (Ext.refl w).alloc _);have HB:=h_ (Blk.new w #[.int .i64 10,.int .i64 o,.string s,.string t,.int .i64 n,.slice (some ⟨g,off,none⟩) 3 lc] 24 rfl);clear hN hch hw hA hS0 hl0 hq0 hT0 hS1 hl1 hq1 hT1 hS2 hl2 hq2 hT2 hNT hres;obtain ⟨k0,o0,s0,t0,n0,a0,m0,c0⟩:=y0;obtain ⟨k1,o1,s1,t1,n1,a1,m1,c1⟩:=y1;obtain ⟨k2,o2,s2,t2,n2,a2,m2,c2⟩:=y2;simp only [PN.v,Nat.zero_mul,Nat.add_zero,Nat.one_mul,Nat.reduceMul] at KA0 hc0 KA1 hc1 KA2 hc2;go_enter Tryz.func19,Tryz.ntmps19;go_upto_region 1 with (fail)
 generalize (w.alloc (.cells #[.int .i64 10,.int .i64 o,.string s,.string t,.int .i64 n,.slice (some ⟨g,off,none⟩) 3 lc] 24))=W0 at HX HB |-;obtain ⟨cb,fb⟩:=HB.out.facts;have hbl:=HB.out.lt;go_upto_region 19 with (fail)
 have HF:=h_ (show ∀ W,Ext W0 W->(∀ j,W.cell? ⟨w.heap.size,j,none⟩=(#[.int .i64 10,.int .i64 o,.string s,.string t,.int .i64 n,.slice (some ⟨g,off,none⟩) 3 lc]:Array Value)[j]?)/\(W.cell? ⟨g,off,none⟩=some (.int .i64 k0)/\W.cell? ⟨g,off+1,none⟩=some (.int .i64 o0)/\W.cell? ⟨g,off+2,none⟩=some (.string s0)/\W.cell? ⟨g,off+3,none⟩=some (.string t0)/\W.cell? ⟨g,off+4,none⟩=some (.int .i64 n0)/\W.cell? ⟨g,off+5,none⟩=some (.slice a0 m0 c0))/\(W.cell? ⟨g,off+6,none⟩=some (.int .i64 k1)/\W.cell? ⟨g,off+6+1,none⟩=some (.int .i64 o1)/\W.cell? ⟨g,off+6+2,none⟩=some (.string s1)/\W.cell? ⟨g,off+6+3,none⟩=some (.string t1)/\W.cell? ⟨g,off+6+4,none⟩=some (.int .i64 n1)/\W.cell? ⟨g,off+6+5,none⟩=some (.slice a1 m1 c1))/\(W.cell? ⟨g,off+12,none⟩=some (.int .i64 k2)/\W.cell? ⟨g,off+12+1,none⟩=some (.int .i64 o2)/\W.cell? ⟨g,off+12+2,none⟩=some (.string s2)/\W.cell? ⟨g,off+12+3,none⟩=some (.string t2)/\W.cell? ⟨g,off+12+4,none⟩=some (.int .i64 n2)/\W.cell? ⟨g,off+12+5,none⟩=some (.slice a2 m2 c2)) from fun W hW=>⟨(HB.out.keep hW).cell,hc0 W (Ext.trans HX.out hW),hc1 W (Ext.trans HX.out hW),hc2 W (Ext.trans HX.out hW)⟩);have HKA:=h_ HX.out;replace KA0:=h_ (fun W (hW:Ext W0 W)=>KA0.out W (Ext.trans HX.out hW));replace KA1:=h_ (fun W (hW:Ext W0 W)=>KA1.out W (Ext.trans HX.out hW));replace KA2:=h_ (fun W (hW:Ext W0 W)=>KA2.out W (Ext.trans HX.out hW));replace KNT:=h_ (fun W (_:Ext W0 W)=>KNT.out W);clear hc0 hc1 hc2;refine wp_par 24 (fun
  |0=>fun v _=>v= .pointer (some ⟨w.heap.size,5,none⟩)
  |1=>fun v _=>v= .slice (some ⟨g,off,none⟩) 3 lc
  |2=>fun v _=>v= .pointer (some ⟨g,off,none⟩)
  |3=>fun v _=>v= .agg #[.int .i64 k0,.int .i64 o0,.string s0,.string t0,.int .i64 n0,.slice a0 m0 c0]
  |4=>fun v _=>v= .string S0
  |5=>fun v _=>v= .string (S0++⟨#[32]⟩)
  |6=>fun v _=>v= .agg #[.int .i64 10,.int .i64 o,.string s,.string t,.int .i64 n,.slice (some ⟨g,off,none⟩) 3 lc]
  |7=>fun v _=>v= .string NT
  |8=>fun v _=>v= .string ((S0++⟨#[32]⟩)++NT)
  |9=>fun v _=>v= .string (((S0++⟨#[32]⟩)++NT)++⟨#[66,69,84,87,69,69,78,32]⟩)
  |10=>fun v _=>v= .pointer (some ⟨w.heap.size,5,none⟩)
  |11=>fun v _=>v= .slice (some ⟨g,off,none⟩) 3 lc
  |12=>fun v _=>v= .pointer (some ⟨g,off+6,none⟩)
  |13=>fun v _=>v= .agg #[.int .i64 k1,.int .i64 o1,.string s1,.string t1,.int .i64 n1,.slice a1 m1 c1]
  |14=>fun v _=>v= .string S1
  |15=>fun v _=>v= .string ((((S0++⟨#[32]⟩)++NT)++⟨#[66,69,84,87,69,69,78,32]⟩)++S1)
  |16=>fun v _=>v= .string (((((S0++⟨#[32]⟩)++NT)++⟨#[66,69,84,87,69,69,78,32]⟩)++S1)++⟨#[32,65,78,68,32]⟩)
  |17=>fun v _=>v= .pointer (some ⟨w.heap.size,5,none⟩)
  |18=>fun v _=>v= .slice (some ⟨g,off,none⟩) 3 lc
  |19=>fun v _=>v= .pointer (some ⟨g,off+12,none⟩)
  |20=>fun v _=>v= .agg #[.int .i64 k2,.int .i64 o2,.string s2,.string t2,.int .i64 n2,.slice a2 m2 c2]
  |21=>fun v _=>v= .string S2
  |22=>fun v _=>v= .string ((((((S0++⟨#[32]⟩)++NT)++⟨#[66,69,84,87,69,69,78,32]⟩)++S1)++⟨#[32,65,78,68,32]⟩)++S2)
  |23=>fun v _=>v= .string ((((((S0++⟨#[32]⟩)++NT)++⟨#[66,69,84,87,69,69,78,32]⟩)++S1)++⟨#[32,65,78,68,32]⟩)++S2)
  |_=>fun _ _=>True) (by kernel_rfl) (by kernel_rfl) (by kernel_rfl) ?_ ?_
 ·simp (maxSteps:=20000000) only [List.take_succ_cons,List.take_zero,ParAll,Act.put,List.setIfInBounds_toArray,List.set_cons_succ,List.set_cons_zero];refine ⟨?_,?_,?_,?_,?_,?_,?_,?_,?_,?_,?_,?_,?_,?_,?_,?_,?_,?_,?_,?_,?_,?_,?_,?_,trivial⟩
  all_goals
   intro vals W hx hd;have hW:=HF.out W hx;simp [PDeps,pdeps,Region.binds] at hd
   first
    |refine ParOb.plain rfl ?_
    |refine ParOb.wanted (by simp [Region.wanted,yielded,hd]) ?_
  iterate 4
   next =>
    go_simp;exact ParPost.same fun _ _=>rfl
  ·go_simp;refine Calls.mono (KA0.out W hx) ?_;rintro e w2 ⟨rfl,hb2⟩;exact ⟨_,rfl,hb2,fun _ _=>rfl⟩
  ·go_simp;rw [if_neg (by omega),yieldsUpon_value];exact ParPost.same fun _ _=>rfl
  ·go_simp;exact ParPost.same fun _ _=>rfl
  ·go_simp;refine Calls.mono (KNT.out W hx) ?_;rintro e w2 ⟨rfl,hb2⟩;exact ⟨_,rfl,hb2,fun _ _=>rfl⟩
  ·go_simp;rw [if_neg (by omega),yieldsUpon_value];exact ParPost.same fun _ _=>rfl
  ·go_simp;rw [if_neg (by omega),yieldsUpon_value];exact ParPost.same fun _ _=>rfl
  iterate 4
   next =>
    go_simp;exact ParPost.same fun _ _=>rfl
  ·go_simp;refine Calls.mono (KA1.out W hx) ?_;rintro e w2 ⟨rfl,hb2⟩;exact ⟨_,rfl,hb2,fun _ _=>rfl⟩
  ·go_simp;rw [if_neg (by omega),yieldsUpon_value];exact ParPost.same fun _ _=>rfl
  ·go_simp;rw [if_neg (by omega),yieldsUpon_value];exact ParPost.same fun _ _=>rfl
  iterate 4
   next =>
    go_simp;exact ParPost.same fun _ _=>rfl
  ·go_simp;refine Calls.mono (KA2.out W hx) ?_;rintro e w2 ⟨rfl,hb2⟩;exact ⟨_,rfl,hb2,fun _ _=>rfl⟩
  ·go_simp;rw [if_neg (by omega),yieldsUpon_value];exact ParPost.same fun _ _=>rfl
  ·go_simp;exact ParPost.same fun _ _=>rfl
 intro vals W hx hf;simp (maxSteps:=20000000) only [ParFacts,List.take_succ_cons,List.take_zero,and_true] at hf;simp (maxSteps:=20000000) only [List.drop_succ_cons,List.drop_zero,List.take_succ_cons,List.take_zero,ParEnd,Act.put,List.setIfInBounds_toArray,List.set_cons_succ,List.set_cons_zero,hf];clear hf;have HX3:=h_ (Ext.trans HX.out hx);clear hx HF;go_simp
 repeat (first|go_values|go_skip|go_guarded|go_step|go_upon)
 go_returns;exact ⟨rfl,HX3.out⟩
theorem words_coll (A:Nat->Prop) (w:World) (o n:Int) (s t:ByteArray) (la:Option Addr) (xln lc:Nat) (x0:Tr) (hk:KidsA A w la xln lc [x0]) (hw:WordsOk w A [x0]) (hss:s.size<=500) :
 Calls Tryz.prog 19 #[.agg #[.int .i64 11,.int .i64 o,.string s,.string t,.int .i64 n,.slice la xln lc]] w fun e w'=>e= .returned (.string ⟨(wordsB 11 o (bsl s) (bsl t) n [(lvT x0,wordsT x0)]).toArray⟩)/\Ext w w':=by
 have mixed:Tryz.prog.follows .mixedOrders=true:=by kernel_rfl
 rcases hk with ⟨_,hk⟩|⟨g,off,L,rfl,rfl,hlc,hL,hA,hN,hch,_⟩
 ·cases hk
 obtain ⟨y0,rfl⟩:=len_one (show L.length=1 from hL);simp only [List.length_cons,List.length_nil,Nat.zero_add] at hlc |-;have hT0:=hch 0 y0 x0 rfl rfl;obtain ⟨hl0,hq0⟩:=hw x0 (by simp);obtain ⟨S0,hS0⟩:∃ S:ByteArray,S=⟨(atB (lvT x0,wordsT x0) 11).toArray⟩:=⟨_,rfl⟩
 have hz0:S0.size<=1000000:=by rw [hS0,sizeL];have:=atB_len (lvT x0,wordsT x0) 11;simp only at this;omega
 have KA0:=h_ (fun W (hW:Ext w W)=>at_anyR y0 11 (wordsT x0) (by omega) W fun W2 h2=>hq0 y0 W2 (hT0.ext (Ext.trans hW h2)) (Ext.trans hW h2));rw [lv_of hT0,<- hS0] at KA0;have hc0:=fun W (hW:Ext w W)=>(hN.same (hW.block g hN.1) hW.size).at6 (i:=0) (y:=y0) rfl;have hgl:=hN.1;have hres:Ending.returned (.string ⟨(wordsB 11 o (bsl s) (bsl t) n [(lvT x0,wordsT x0)]).toArray⟩)=Ending.returned (.string ((S0++⟨#[32,67,79,76,76,65,84,69,32]⟩)++s)):=by
  refine congrArg (fun x=>Ending.returned (.string x)) (ba_ext ?_);rw [hS0];simp [wordsB,testB,callB,atI,bsl]
 rw [hres];have HX:=h_ (show Ext w (w.alloc (.cells #[.int .i64 11,.int .i64 o,.string s,.string t,.int .i64 n,.slice (some ⟨g,off,none⟩) 1 lc] 24)) from (Ext.refl w).alloc _);have HB:=h_ (Blk.new w #[.int .i64 11,.int .i64 o,.string s,.string t,.int .i64 n,.slice (some ⟨g,off,none⟩) 1 lc] 24 rfl);clear hN hch hw hA hS0 hl0 hq0 hT0 hres;obtain ⟨k0,o0,s0,t0,n0,a0,m0,c0⟩:=y0;simp only [PN.v,Nat.zero_mul,Nat.add_zero] at KA0 hc0;go_enter Tryz.func19,Tryz.ntmps19;go_upto_region 1 with (fail)
 generalize (w.alloc (.cells #[.int .i64 11,.int .i64 o,.string s,.string t,.int .i64 n,.slice (some ⟨g,off,none⟩) 1 lc] 24))=W0 at HX HB |-;obtain ⟨cb,fb⟩:=HB.out.facts;have hbl:=HB.out.lt;go_upto_region 21 with (fail)
 have HF:=h_ (show ∀ W,Ext W0 W->(∀ j,W.cell? ⟨w.heap.size,j,none⟩=(#[.int .i64 11,.int .i64 o,.string s,.string t,.int .i64 n,.slice (some ⟨g,off,none⟩) 1 lc]:Array Value)[j]?)/\(W.cell? ⟨g,off,none⟩=some (.int .i64 k0)/\W.cell? ⟨g,off+1,none⟩=some (.int .i64 o0)/\W.cell? ⟨g,off+2,none⟩=some (.string s0)/\W.cell? ⟨g,off+3,none⟩=some (.string t0)/\W.cell? ⟨g,off+4,none⟩=some (.int .i64 n0)/\W.cell? ⟨g,off+5,none⟩=some (.slice a0 m0 c0)) from fun W hW=>⟨(HB.out.keep hW).cell,hc0 W (Ext.trans HX.out hW)⟩);have HKA:=h_ HX.out;replace KA0:=h_ (fun W (hW:Ext W0 W)=>KA0.out W (Ext.trans HX.out hW));clear hc0;refine wp_par 10 (fun
  |0=>fun v _=>v= .pointer (some ⟨w.heap.size,5,none⟩)
  |1=>fun v _=>v= .slice (some ⟨g,off,none⟩) 1 lc
  |2=>fun v _=>v= .pointer (some ⟨g,off,none⟩)
  |3=>fun v _=>v= .agg #[.int .i64 k0,.int .i64 o0,.string s0,.string t0,.int .i64 n0,.slice a0 m0 c0]
  |4=>fun v _=>v= .string S0
  |5=>fun v _=>v= .string (S0++⟨#[32,67,79,76,76,65,84,69,32]⟩)
  |6=>fun v _=>v= .pointer (some ⟨w.heap.size,2,none⟩)
  |7=>fun v _=>v= .string s
  |8=>fun v _=>v= .string ((S0++⟨#[32,67,79,76,76,65,84,69,32]⟩)++s)
  |9=>fun v _=>v= .string ((S0++⟨#[32,67,79,76,76,65,84,69,32]⟩)++s)
  |_=>fun _ _=>True) (by kernel_rfl) (by kernel_rfl) (by kernel_rfl) ?_ ?_
 ·simp (maxSteps:=20000000) only [List.take_succ_cons,List.take_zero,ParAll,Act.put,List.setIfInBounds_toArray,List.set_cons_succ,List.set_cons_zero];refine ⟨?_,?_,?_,?_,?_,?_,?_,?_,?_,?_,trivial⟩
  all_goals
   intro vals W hx hd;have hW:=HF.out W hx;simp [PDeps,pdeps,Region.binds] at hd
   first
    |refine ParOb.plain rfl ?_
    |refine ParOb.wanted (by simp [Region.wanted,yielded,hd]) ?_
  iterate 4
   next =>
    go_simp;exact ParPost.same fun _ _=>rfl
  ·go_simp;refine Calls.mono (KA0.out W hx) ?_;rintro e w2 ⟨rfl,hb2⟩;exact ⟨_,rfl,hb2,fun _ _=>rfl⟩
  ·go_simp;rw [if_neg (by omega),yieldsUpon_value];exact ParPost.same fun _ _=>rfl
  iterate 2
   next =>
    go_simp;exact ParPost.same fun _ _=>rfl
  ·go_simp;rw [if_neg (by omega),yieldsUpon_value];exact ParPost.same fun _ _=>rfl
  ·go_simp;exact ParPost.same fun _ _=>rfl
 intro vals W hx hf;simp (maxSteps:=20000000) only [ParFacts,List.take_succ_cons,List.take_zero,and_true] at hf;simp (maxSteps:=20000000) only [List.drop_succ_cons,List.drop_zero,List.take_succ_cons,List.take_zero,ParEnd,Act.put,List.setIfInBounds_toArray,List.set_cons_succ,List.set_cons_zero,hf];clear hf;have HX3:=h_ (Ext.trans HX.out hx);clear hx HF;go_simp
 repeat (first|go_values|go_skip|go_guarded|go_step|go_upon)
 go_returns;exact ⟨rfl,HX3.out⟩
theorem words_call13 (A:Nat->Prop) (w:World) (o n:Int) (s t:ByteArray) (la:Option Addr) (xln lc:Nat) (x0:Tr) (hk:KidsA A w la xln lc [x0]) (hw:WordsOk w A [x0]) (hss:s.size<=500) :
 Calls Tryz.prog 19 #[.agg #[.int .i64 13,.int .i64 o,.string s,.string t,.int .i64 n,.slice la xln lc]] w fun e w'=>e= .returned (.string ⟨(wordsB 13 o (bsl s) (bsl t) n [(lvT x0,wordsT x0)]).toArray⟩)/\Ext w w':=by
 have mixed:Tryz.prog.follows .mixedOrders=true:=by kernel_rfl
 rcases hk with ⟨_,hk⟩|⟨g,off,L,rfl,rfl,hlc,hL,hA,hN,hch,_⟩
 ·cases hk
 obtain ⟨y0,rfl⟩:=len_one (show L.length=1 from hL);simp only [List.length_cons,List.length_nil,Nat.zero_add] at hlc |-;have hT0:=hch 0 y0 x0 rfl rfl;obtain ⟨hl0,hq0⟩:=hw x0 (by simp);obtain ⟨S0,hS0⟩:∃ S:ByteArray,S=⟨(atB (lvT x0,wordsT x0) 1).toArray⟩:=⟨_,rfl⟩
 have hz0:S0.size<=1000000:=by rw [hS0,sizeL];have:=atB_len (lvT x0,wordsT x0) 1;simp only at this;omega
 have KA0:=h_ (fun W (hW:Ext w W)=>at_anyR y0 1 (wordsT x0) (by omega) W fun W2 h2=>hq0 y0 W2 (hT0.ext (Ext.trans hW h2)) (Ext.trans hW h2));rw [lv_of hT0,<- hS0] at KA0;have hc0:=fun W (hW:Ext w W)=>(hN.same (hW.block g hN.1) hW.size).at6 (i:=0) (y:=y0) rfl;have hgl:=hN.1;have hres:Ending.returned (.string ⟨(wordsB 13 o (bsl s) (bsl t) n [(lvT x0,wordsT x0)]).toArray⟩)=Ending.returned (.string (((s++⟨#[32,40,32]⟩)++S0)++⟨#[32,41]⟩)):=by
  refine congrArg (fun x=>Ending.returned (.string x)) (ba_ext ?_);rw [hS0];simp [wordsB,testB,callB,atI,bsl]
 rw [hres];have HX:=h_ (show Ext w (w.alloc (.cells #[.int .i64 13,.int .i64 o,.string s,.string t,.int .i64 n,.slice (some ⟨g,off,none⟩) 1 lc] 24)) from (Ext.refl w).alloc _);have HB:=h_ (Blk.new w #[.int .i64 13,.int .i64 o,.string s,.string t,.int .i64 n,.slice (some ⟨g,off,none⟩) 1 lc] 24 rfl);clear hN hch hw hA hS0 hl0 hq0 hT0 hres;obtain ⟨k0,o0,s0,t0,n0,a0,m0,c0⟩:=y0;simp only [PN.v,Nat.zero_mul,Nat.add_zero] at KA0 hc0;go_enter Tryz.func19,Tryz.ntmps19;go_upto_region 1 with (fail)
 generalize (w.alloc (.cells #[.int .i64 13,.int .i64 o,.string s,.string t,.int .i64 n,.slice (some ⟨g,off,none⟩) 1 lc] 24))=W0 at HX HB |-;obtain ⟨cb,fb⟩:=HB.out.facts;have hbl:=HB.out.lt;go_upto_region 27 with (fail)
 have HF:=h_ (show ∀ W,Ext W0 W->(∀ j,W.cell? ⟨w.heap.size,j,none⟩=(#[.int .i64 13,.int .i64 o,.string s,.string t,.int .i64 n,.slice (some ⟨g,off,none⟩) 1 lc]:Array Value)[j]?)/\(W.cell? ⟨g,off,none⟩=some (.int .i64 k0)/\W.cell? ⟨g,off+1,none⟩=some (.int .i64 o0)/\W.cell? ⟨g,off+2,none⟩=some (.string s0)/\W.cell? ⟨g,off+3,none⟩=some (.string t0)/\W.cell? ⟨g,off+4,none⟩=some (.int .i64 n0)/\W.cell? ⟨g,off+5,none⟩=some (.slice a0 m0 c0)) from fun W hW=>⟨(HB.out.keep hW).cell,hc0 W (Ext.trans HX.out hW)⟩);have HKA:=h_ HX.out;replace KA0:=h_ (fun W (hW:Ext W0 W)=>KA0.out W (Ext.trans HX.out hW));clear hc0;refine wp_par 11 (fun
  |0=>fun v _=>v= .pointer (some ⟨w.heap.size,2,none⟩)
  |1=>fun v _=>v= .string s
  |2=>fun v _=>v= .string (s++⟨#[32,40,32]⟩)
  |3=>fun v _=>v= .pointer (some ⟨w.heap.size,5,none⟩)
  |4=>fun v _=>v= .slice (some ⟨g,off,none⟩) 1 lc
  |5=>fun v _=>v= .pointer (some ⟨g,off,none⟩)
  |6=>fun v _=>v= .agg #[.int .i64 k0,.int .i64 o0,.string s0,.string t0,.int .i64 n0,.slice a0 m0 c0]
  |7=>fun v _=>v= .string S0
  |8=>fun v _=>v= .string ((s++⟨#[32,40,32]⟩)++S0)
  |9=>fun v _=>v= .string (((s++⟨#[32,40,32]⟩)++S0)++⟨#[32,41]⟩)
  |10=>fun v _=>v= .string (((s++⟨#[32,40,32]⟩)++S0)++⟨#[32,41]⟩)
  |_=>fun _ _=>True) (by kernel_rfl) (by kernel_rfl) (by kernel_rfl) ?_ ?_
 ·simp (maxSteps:=20000000) only [List.take_succ_cons,List.take_zero,ParAll,Act.put,List.setIfInBounds_toArray,List.set_cons_succ,List.set_cons_zero];refine ⟨?_,?_,?_,?_,?_,?_,?_,?_,?_,?_,?_,trivial⟩
  all_goals
   intro vals W hx hd;have hW:=HF.out W hx;simp [PDeps,pdeps,Region.binds] at hd
   first
    |refine ParOb.plain rfl ?_
    |refine ParOb.wanted (by simp [Region.wanted,yielded,hd]) ?_
  iterate 2
   next =>
    go_simp;exact ParPost.same fun _ _=>rfl
  ·go_simp;rw [if_neg (by omega),yieldsUpon_value];exact ParPost.same fun _ _=>rfl
  iterate 4
   next =>
    go_simp;exact ParPost.same fun _ _=>rfl
  ·go_simp;refine Calls.mono (KA0.out W hx) ?_;rintro e w2 ⟨rfl,hb2⟩;exact ⟨_,rfl,hb2,fun _ _=>rfl⟩
  ·go_simp;rw [if_neg (by omega),yieldsUpon_value];exact ParPost.same fun _ _=>rfl
  ·go_simp;rw [if_neg (by omega),yieldsUpon_value];exact ParPost.same fun _ _=>rfl
  ·go_simp;exact ParPost.same fun _ _=>rfl
 intro vals W hx hf;simp (maxSteps:=20000000) only [ParFacts,List.take_succ_cons,List.take_zero,and_true] at hf;simp (maxSteps:=20000000) only [List.drop_succ_cons,List.drop_zero,List.take_succ_cons,List.take_zero,ParEnd,Act.put,List.setIfInBounds_toArray,List.set_cons_succ,List.set_cons_zero,hf];clear hf;have HX3:=h_ (Ext.trans HX.out hx);clear hx HF;go_simp
 repeat (first|go_values|go_skip|go_guarded|go_step|go_upon)
 go_returns;exact ⟨rfl,HX3.out⟩
theorem words_call14 (A:Nat->Prop) (w:World) (o n:Int) (s t:ByteArray) (la:Option Addr) (xln lc:Nat) (x0:Tr) (hk:KidsA A w la xln lc [x0]) (hw:WordsOk w A [x0]) (hss:s.size<=500) :
 Calls Tryz.prog 19 #[.agg #[.int .i64 14,.int .i64 o,.string s,.string t,.int .i64 n,.slice la xln lc]] w fun e w'=>e= .returned (.string ⟨(wordsB 14 o (bsl s) (bsl t) n [(lvT x0,wordsT x0)]).toArray⟩)/\Ext w w':=by
 have mixed:Tryz.prog.follows .mixedOrders=true:=by kernel_rfl
 rcases hk with ⟨_,hk⟩|⟨g,off,L,rfl,rfl,hlc,hL,hA,hN,hch,_⟩
 ·cases hk
 obtain ⟨y0,rfl⟩:=len_one (show L.length=1 from hL);simp only [List.length_cons,List.length_nil,Nat.zero_add] at hlc |-;have hT0:=hch 0 y0 x0 rfl rfl;obtain ⟨hl0,hq0⟩:=hw x0 (by simp);obtain ⟨S0,hS0⟩:∃ S:ByteArray,S=⟨(atB (lvT x0,wordsT x0) 1).toArray⟩:=⟨_,rfl⟩
 have hz0:S0.size<=1000000:=by rw [hS0,sizeL];have:=atB_len (lvT x0,wordsT x0) 1;simp only at this;omega
 have KA0:=h_ (fun W (hW:Ext w W)=>at_anyR y0 1 (wordsT x0) (by omega) W fun W2 h2=>hq0 y0 W2 (hT0.ext (Ext.trans hW h2)) (Ext.trans hW h2));rw [lv_of hT0,<- hS0] at KA0;have hc0:=fun W (hW:Ext w W)=>(hN.same (hW.block g hN.1) hW.size).at6 (i:=0) (y:=y0) rfl;have hgl:=hN.1;have hres:Ending.returned (.string ⟨(wordsB 14 o (bsl s) (bsl t) n [(lvT x0,wordsT x0)]).toArray⟩)=Ending.returned (.string (((s++⟨#[32,40,32]⟩)++S0)++⟨#[32,41]⟩)):=by
  refine congrArg (fun x=>Ending.returned (.string x)) (ba_ext ?_);rw [hS0];simp [wordsB,testB,callB,atI,bsl]
 rw [hres];have HX:=h_ (show Ext w (w.alloc (.cells #[.int .i64 14,.int .i64 o,.string s,.string t,.int .i64 n,.slice (some ⟨g,off,none⟩) 1 lc] 24)) from (Ext.refl w).alloc _);have HB:=h_ (Blk.new w #[.int .i64 14,.int .i64 o,.string s,.string t,.int .i64 n,.slice (some ⟨g,off,none⟩) 1 lc] 24 rfl);clear hN hch hw hA hS0 hl0 hq0 hT0 hres;obtain ⟨k0,o0,s0,t0,n0,a0,m0,c0⟩:=y0;simp only [PN.v,Nat.zero_mul,Nat.add_zero] at KA0 hc0;go_enter Tryz.func19,Tryz.ntmps19;go_upto_region 1 with (fail)
 generalize (w.alloc (.cells #[.int .i64 14,.int .i64 o,.string s,.string t,.int .i64 n,.slice (some ⟨g,off,none⟩) 1 lc] 24))=W0 at HX HB |-;obtain ⟨cb,fb⟩:=HB.out.facts;have hbl:=HB.out.lt;go_upto_region 27 with (fail)
 have HF:=h_ (show ∀ W,Ext W0 W->(∀ j,W.cell? ⟨w.heap.size,j,none⟩=(#[.int .i64 14,.int .i64 o,.string s,.string t,.int .i64 n,.slice (some ⟨g,off,none⟩) 1 lc]:Array Value)[j]?)/\(W.cell? ⟨g,off,none⟩=some (.int .i64 k0)/\W.cell? ⟨g,off+1,none⟩=some (.int .i64 o0)/\W.cell? ⟨g,off+2,none⟩=some (.string s0)/\W.cell? ⟨g,off+3,none⟩=some (.string t0)/\W.cell? ⟨g,off+4,none⟩=some (.int .i64 n0)/\W.cell? ⟨g,off+5,none⟩=some (.slice a0 m0 c0)) from fun W hW=>⟨(HB.out.keep hW).cell,hc0 W (Ext.trans HX.out hW)⟩);have HKA:=h_ HX.out;replace KA0:=h_ (fun W (hW:Ext W0 W)=>KA0.out W (Ext.trans HX.out hW));clear hc0;refine wp_par 11 (fun
  |0=>fun v _=>v= .pointer (some ⟨w.heap.size,2,none⟩)
  |1=>fun v _=>v= .string s
  |2=>fun v _=>v= .string (s++⟨#[32,40,32]⟩)
  |3=>fun v _=>v= .pointer (some ⟨w.heap.size,5,none⟩)
  |4=>fun v _=>v= .slice (some ⟨g,off,none⟩) 1 lc
  |5=>fun v _=>v= .pointer (some ⟨g,off,none⟩)
  |6=>fun v _=>v= .agg #[.int .i64 k0,.int .i64 o0,.string s0,.string t0,.int .i64 n0,.slice a0 m0 c0]
  |7=>fun v _=>v= .string S0
  |8=>fun v _=>v= .string ((s++⟨#[32,40,32]⟩)++S0)
  |9=>fun v _=>v= .string (((s++⟨#[32,40,32]⟩)++S0)++⟨#[32,41]⟩)
  |10=>fun v _=>v= .string (((s++⟨#[32,40,32]⟩)++S0)++⟨#[32,41]⟩)
  |_=>fun _ _=>True) (by kernel_rfl) (by kernel_rfl) (by kernel_rfl) ?_ ?_
 ·simp (maxSteps:=20000000) only [List.take_succ_cons,List.take_zero,ParAll,Act.put,List.setIfInBounds_toArray,List.set_cons_succ,List.set_cons_zero];refine ⟨?_,?_,?_,?_,?_,?_,?_,?_,?_,?_,?_,trivial⟩
  all_goals
   intro vals W hx hd;have hW:=HF.out W hx;simp [PDeps,pdeps,Region.binds] at hd
   first
    |refine ParOb.plain rfl ?_
    |refine ParOb.wanted (by simp [Region.wanted,yielded,hd]) ?_
  iterate 2
   next =>
    go_simp;exact ParPost.same fun _ _=>rfl
  ·go_simp;rw [if_neg (by omega),yieldsUpon_value];exact ParPost.same fun _ _=>rfl
  iterate 4
   next =>
    go_simp;exact ParPost.same fun _ _=>rfl
  ·go_simp;refine Calls.mono (KA0.out W hx) ?_;rintro e w2 ⟨rfl,hb2⟩;exact ⟨_,rfl,hb2,fun _ _=>rfl⟩
  ·go_simp;rw [if_neg (by omega),yieldsUpon_value];exact ParPost.same fun _ _=>rfl
  ·go_simp;rw [if_neg (by omega),yieldsUpon_value];exact ParPost.same fun _ _=>rfl
  ·go_simp;exact ParPost.same fun _ _=>rfl
 intro vals W hx hf;simp (maxSteps:=20000000) only [ParFacts,List.take_succ_cons,List.take_zero,and_true] at hf;simp (maxSteps:=20000000) only [List.drop_succ_cons,List.drop_zero,List.take_succ_cons,List.take_zero,ParEnd,Act.put,List.setIfInBounds_toArray,List.set_cons_succ,List.set_cons_zero,hf];clear hf;have HX3:=h_ (Ext.trans HX.out hx);clear hx HF;go_simp
 repeat (first|go_values|go_skip|go_guarded|go_step|go_upon)
 go_returns;exact ⟨rfl,HX3.out⟩
end Go.Proofs.YtimeipjcmffadaaGreatDoor
