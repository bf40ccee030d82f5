import Derived.Test.YtimeipjcmffadaaGreatDoorShowsFrame
import Derived.Test.YtimeipjcmffadaaGreatDoorSnB
set_option maxHeartbeats 16000000
namespace Go.Proofs.YtimeipjcmffadaaGreatDoor
open Go.RowKit Go.Lib
set_option maxRecDepth 100000
theorem words_not (A:Nat->Prop) (w:World) (_o n:Int) (s t:ByteArray) (la:Option Addr) (xln lc:Nat) (x0:Tr) (hk:KidsA A w la xln lc [x0]) (hw:WordsOk w A [x0]) :
 Calls Tryz.prog 19 #[.agg #[.int .i64 5,.int .i64 21,.string s,.string t,.int .i64 n,.slice la xln lc]] w fun e w'=>e= .returned (.string ⟨(wordsB 5 21 (bsl s) (bsl t) n [(lvT x0,wordsT x0)]).toArray⟩)/\Ext w w':=by
 rcases hk with ⟨_,hk⟩|⟨g,off,L,rfl,rfl,hlc,hL,hA,hN,hch,_⟩
 ·cases hk
 obtain ⟨y0,rfl⟩:=len_one (show L.length=1 from hL);simp only [List.length_cons,List.length_nil,Nat.zero_add] at hlc |-;have hT0:=hch 0 y0 x0 rfl rfl;obtain ⟨hl0,hq0⟩:=hw x0 (by simp);obtain ⟨S0,hS0⟩:∃ S:ByteArray,S=⟨(atB (lvT x0,wordsT x0) 3).toArray⟩:=⟨_,rfl⟩
 have hz0:S0.size<=1000000:=by rw [hS0,sizeL];have:=atB_len (lvT x0,wordsT x0) 3;simp only at this;omega
 have KA0:=h_ (fun W (hW:Ext w W)=>at_anyR y0 3 (wordsT x0) (by omega) W fun W2 h2=>hq0 y0 W2 (hT0.ext (Ext.trans hW h2)) (Ext.trans hW h2));rw [lv_of hT0,<- hS0] at KA0;have hres:Ending.returned (.string ⟨(wordsB 5 21 (bsl s) (bsl t) n [(lvT x0,wordsT x0)]).toArray⟩)=Ending.returned (.string ((⟨#[78,79,84,32]⟩:ByteArray)++S0)):=by
  refine congrArg (fun x=>Ending.returned (.string x)) (ba_ext ?_);rw [hS0];simp [wordsB,atI]
 rw [hres];have HX:=h_ (show Ext w (w.alloc (.cells #[.int .i64 5,.int .i64 21,.string s,.string t,.int .i64 n,.slice (some ⟨g,off,none⟩) 1 lc] 24)) from (Ext.refl w).alloc _);have HB:=h_ (Blk.new w #[.int .i64 5,.int .i64 21,.string s,.string t,.int .i64 n,.slice (some ⟨g,off,none⟩) 1 lc] 24 rfl);have hc0:=fun W (hW:Ext w W)=>(hN.same (hW.block g hN.1) hW.size).at6 (i:=0) (y:=y0) rfl;have hgl:=hN.1;clear hN hch hw hA hS0 hl0 hq0 hT0 hres;obtain ⟨k0,o0,s0,t0,n0,a0,m0,c0⟩:=y0;simp only [PN.v,Nat.zero_mul,Nat.add_zero] at KA0 hc0;go_enter Tryz.func19,Tryz.ntmps19;go_upto_region 1 with (fail)
 generalize (w.alloc (.cells #[.int .i64 5,.int .i64 21,.string s,.string t,.int .i64 n,.slice (some ⟨g,off,none⟩) 1 lc] 24))=W0 at HX HB |-;obtain ⟨cb,fb⟩:=HB.out.facts;have hbl:=HB.out.lt;obtain ⟨d0,d1,d2,d3,d4,d5⟩:=hc0 W0 HX.out;have hgl2:=Nat.lt_of_lt_of_le hgl HX.out.size;clear hc0;go_simp
 repeat (first|go_values|go_skip|go_guarded|go_step|go_upon)
 refine Calls.mono (KA0.out W0 HX.out) ?_;rintro e W1 ⟨rfl,hx1⟩;have HX3:=h_ (Ext.trans HX.out hx1);clear hx1 cb fb hbl d0 d1 d2 d3 d4 d5;go_simp
 repeat (first|go_values|go_skip|go_guarded|go_step|go_upon)
 go_returns;exact ⟨rfl,HX3.out⟩
theorem words_neg (A:Nat->Prop) (w:World) (o n:Int) (s t:ByteArray) (la:Option Addr) (xln lc:Nat) (x0:Tr) (ho:o≠21) (hk:KidsA A w la xln lc [x0]) (hw:WordsOk w A [x0]) :
 Calls Tryz.prog 19 #[.agg #[.int .i64 5,.int .i64 o,.string s,.string t,.int .i64 n,.slice la xln lc]] w fun e w'=>e= .returned (.string ⟨(wordsB 5 o (bsl s) (bsl t) n [(lvT x0,wordsT x0)]).toArray⟩)/\Ext w w':=by
 rcases hk with ⟨_,hk⟩|⟨g,off,L,rfl,rfl,hlc,hL,hA,hN,hch,_⟩
 ·cases hk
 obtain ⟨y0,rfl⟩:=len_one (show L.length=1 from hL);simp only [List.length_cons,List.length_nil,Nat.zero_add] at hlc |-;have hT0:=hch 0 y0 x0 rfl rfl;obtain ⟨hl0,hq0⟩:=hw x0 (by simp);obtain ⟨S0,hS0⟩:∃ S:ByteArray,S=⟨(atB (lvT x0,wordsT x0) 10).toArray⟩:=⟨_,rfl⟩
 have hz0:S0.size<=1000000:=by rw [hS0,sizeL];have:=atB_len (lvT x0,wordsT x0) 10;simp only at this;omega
 have KA0:=h_ (fun W (hW:Ext w W)=>at_anyR y0 10 (wordsT x0) (by omega) W fun W2 h2=>hq0 y0 W2 (hT0.ext (Ext.trans hW h2)) (Ext.trans hW h2));rw [lv_of hT0,<- hS0] at KA0;have hres:Ending.returned (.string ⟨(wordsB 5 o (bsl s) (bsl t) n [(lvT x0,wordsT x0)]).toArray⟩)=Ending.returned (.string ((⟨#[45,32]⟩:ByteArray)++S0)):=by
  refine congrArg (fun x=>Ending.returned (.string x)) (ba_ext ?_);rw [hS0];simp [wordsB,atI,ho]
 rw [hres];have HX:=h_ (show Ext w (w.alloc (.cells #[.int .i64 5,.int .i64 o,.string s,.string t,.int .i64 n,.slice (some ⟨g,off,none⟩) 1 lc] 24)) from (Ext.refl w).alloc _);have HB:=h_ (Blk.new w #[.int .i64 5,.int .i64 o,.string s,.string t,.int .i64 n,.slice (some ⟨g,off,none⟩) 1 lc] 24 rfl);have hc0:=fun W (hW:Ext w W)=>(hN.same (hW.block g hN.1) hW.size).at6 (i:=0) (y:=y0) rfl;have hgl:=hN.1;clear hN hch hw hA hS0 hl0 hq0 hT0 hres;obtain ⟨k0,o0,s0,t0,n0,a0,m0,c0⟩:=y0;simp only [PN.v,Nat.zero_mul,Nat.add_zero] at KA0 hc0;have hob:(o == 21)=false:=by rw [beq_eq_false_iff_ne];exact ho
 clear ho;go_enter Tryz.func19,Tryz.ntmps19;go_upto_region 1 with (fail)
 generalize (w.alloc (.cells #[.int .i64 5,.int .i64 o,.string s,.string t,.int .i64 n,.slice (some ⟨g,off,none⟩) 1 lc] 24))=W0 at HX HB |-;obtain ⟨cb,fb⟩:=HB.out.facts;have hbl:=HB.out.lt;obtain ⟨d0,d1,d2,d3,d4,d5⟩:=hc0 W0 HX.out;have hgl2:=Nat.lt_of_lt_of_le hgl HX.out.size;clear hc0;go_simp
 repeat (first|go_values|go_skip|go_guarded|go_step|go_upon)
 refine Calls.mono (KA0.out W0 HX.out) ?_;rintro e W1 ⟨rfl,hx1⟩;have HX3:=h_ (Ext.trans HX.out hx1);clear hx1 cb fb hbl d0 d1 d2 d3 d4 d5;go_simp
 repeat (first|go_values|go_skip|go_guarded|go_step|go_upon)
 go_returns;exact ⟨rfl,HX3.out⟩
theorem words_star (w:World) (o n:Int) (s t:ByteArray) (la:Option Addr) (xln lc:Nat) (L:List (Int × List UInt8)) (h0:xln=0) (hL:L=[]) (hss:s.size<=500) :
 Calls Tryz.prog 19 #[.agg #[.int .i64 14,.int .i64 o,.string s,.string t,.int .i64 n,.slice la xln lc]] w fun e w'=>e= .returned (.string ⟨(wordsB 14 o (bsl s) (bsl t) n L).toArray⟩)/\Ext w w':=by
 have hres:Ending.returned (.string ⟨(wordsB 14 o (bsl s) (bsl t) n L).toArray⟩)=Ending.returned (.string (s++⟨#[32,40,32,42,32,41]⟩)):=by
  refine congrArg (fun x=>Ending.returned (.string x)) (ba_ext ?_);subst hL;simp [wordsB,testB,callB,bsl]
 rw [hres];clear hres;have HX:=h_ (show Ext w (w.alloc (.cells #[.int .i64 14,.int .i64 o,.string s,.string t,.int .i64 n,.slice la xln lc] 24)) from (Ext.refl w).alloc _);have HB:=h_ (Blk.new w #[.int .i64 14,.int .i64 o,.string s,.string t,.int .i64 n,.slice la xln lc] 24 rfl);have q9:((xln:Int) == 0)=true:=by rw [h0];rfl
 have r9:(xln == 0)=true:=by rw [h0];rfl
 clear h0;go_enter Tryz.func19,Tryz.ntmps19;go_upto_region 1 with (fail)
 generalize (w.alloc (.cells #[.int .i64 14,.int .i64 o,.string s,.string t,.int .i64 n,.slice la xln lc] 24))=W0 at HX HB |-;obtain ⟨cb,fb⟩:=HB.out.facts;have hbl:=HB.out.lt;go_simp
 repeat (first|go_values|go_skip|go_guarded|go_step|go_upon)
 go_returns;exact ⟨rfl,HX.out⟩
theorem words_col (w:World) (o n:Int) (s t:ByteArray) (la:Option Addr) (xln lc:Nat) (L:List (Int × List UInt8)) (ht:bsl t≠[]) (hss:s.size<=500) (hst:t.size<=50) :
 Calls Tryz.prog 19 #[.agg #[.int .i64 4,.int .i64 o,.string s,.string t,.int .i64 n,.slice la xln lc]] w fun e w'=>e= .returned (.string ⟨(wordsB 4 o (bsl s) (bsl t) n L).toArray⟩)/\Ext w w':=by
 have hres:Ending.returned (.string ⟨(wordsB 4 o (bsl s) (bsl t) n L).toArray⟩)=Ending.returned (.string (t++⟨#[32,46,32]⟩++s)):=by
  refine congrArg (fun x=>Ending.returned (.string x)) (ba_ext ?_);simp [wordsB,testB,callB,leafB,ht];simp [bsl]
 rw [hres];clear hres;have HX:=h_ (show Ext w (w.alloc (.cells #[.int .i64 4,.int .i64 o,.string s,.string t,.int .i64 n,.slice la xln lc] 24)) from (Ext.refl w).alloc _);have HB:=h_ (Blk.new w #[.int .i64 4,.int .i64 o,.string s,.string t,.int .i64 n,.slice la xln lc] 24 rfl);have htb:(t.toList == [])=false:=by
  cases h:t.toList == []
  ·rfl
  ·exact absurd (toList_nil.1 h) ht
 have htn:(t.toList !=[])=true:=by simp only [bne,htb];rfl
 clear ht;go_enter Tryz.func19,Tryz.ntmps19;go_upto_region 1 with (fail)
 generalize (w.alloc (.cells #[.int .i64 4,.int .i64 o,.string s,.string t,.int .i64 n,.slice la xln lc] 24))=W0 at HX HB |-;obtain ⟨cb,fb⟩:=HB.out.facts;have hbl:=HB.out.lt;go_simp
 repeat (first|go_values|go_skip|go_guarded|go_step|go_upon)
 go_returns;exact ⟨rfl,HX.out⟩
theorem words_name (w:World) (o n:Int) (s t:ByteArray) (la:Option Addr) (xln lc:Nat) (L:List (Int × List UInt8)) (ht:bsl t=[]) :
 Calls Tryz.prog 19 #[.agg #[.int .i64 4,.int .i64 o,.string s,.string t,.int .i64 n,.slice la xln lc]] w fun e w'=>e= .returned (.string ⟨(wordsB 4 o (bsl s) (bsl t) n L).toArray⟩)/\Ext w w':=by
 have hres:Ending.returned (.string ⟨(wordsB 4 o (bsl s) (bsl t) n L).toArray⟩)=Ending.returned (.string s):=by
  refine congrArg (fun x=>Ending.returned (.string x)) (ba_ext ?_);simp [wordsB,testB,callB,leafB,ht];simp [bsl]
 rw [hres];clear hres;have HX:=h_ (show Ext w (w.alloc (.cells #[.int .i64 4,.int .i64 o,.string s,.string t,.int .i64 n,.slice la xln lc] 24)) from (Ext.refl w).alloc _);have HB:=h_ (Blk.new w #[.int .i64 4,.int .i64 o,.string s,.string t,.int .i64 n,.slice la xln lc] 24 rfl);have htb:(t.toList == [])=true:=toList_nil.2 ht;have htn:(t.toList !=[])=false:=by simp only [bne,htb];rfl
 clear ht;go_enter Tryz.func19,Tryz.ntmps19;go_upto_region 1 with (fail)
 generalize (w.alloc (.cells #[.int .i64 4,.int .i64 o,.string s,.string t,.int .i64 n,.slice la xln lc] 24))=W0 at HX HB |-;obtain ⟨cb,fb⟩:=HB.out.facts;have hbl:=HB.out.lt;go_simp
 repeat (first|go_values|go_skip|go_guarded|go_step|go_upon)
 go_returns;exact ⟨rfl,HX.out⟩
theorem words_int (w:World) (o n:Int) (s t:ByteArray) (la:Option Addr) (xln lc:Nat) (L:List (Int × List UInt8)) (hn:InR n) :
 Calls Tryz.prog 19 #[.agg #[.int .i64 2,.int .i64 o,.string s,.string t,.int .i64 n,.slice la xln lc]] w fun e w'=>e= .returned (.string ⟨(wordsB 2 o (bsl s) (bsl t) n L).toArray⟩)/\Ext w w':=by
 have hres:Ending.returned (.string ⟨(wordsB 2 o (bsl s) (bsl t) n L).toArray⟩)=Ending.returned (.string ⟨(Lib.itoa n).toArray⟩):=by
  refine congrArg (fun x=>Ending.returned (.string x)) (ba_ext ?_);simp [wordsB,testB,callB,leafB]
 rw [hres];clear hres;have HX:=h_ (show Ext w (w.alloc (.cells #[.int .i64 2,.int .i64 o,.string s,.string t,.int .i64 n,.slice la xln lc] 24)) from (Ext.refl w).alloc _);have HB:=h_ (Blk.new w #[.int .i64 2,.int .i64 o,.string s,.string t,.int .i64 n,.slice la xln lc] 24 rfl);have KT:=h_ (fun W=>reftextZ_any n W hn);clear hn;go_enter Tryz.func19,Tryz.ntmps19;go_upto_region 1 with (fail)
 generalize (w.alloc (.cells #[.int .i64 2,.int .i64 o,.string s,.string t,.int .i64 n,.slice la xln lc] 24))=W0 at HX HB |-;obtain ⟨cb,fb⟩:=HB.out.facts;have hbl:=HB.out.lt;go_simp
 repeat (first|go_values|go_skip|go_guarded|go_step|go_upon)
 refine Calls.mono (KT.out W0) ?_;rintro e W1 ⟨rfl,rfl⟩;go_simp
 repeat (first|go_values|go_skip|go_guarded|go_step|go_upon)
 go_returns;exact ⟨rfl,HX.out⟩
theorem words_true (w:World) (o _n:Int) (s t:ByteArray) (la:Option Addr) (xln lc:Nat) (L:List (Int × List UInt8)) :
 Calls Tryz.prog 19 #[.agg #[.int .i64 1,.int .i64 o,.string s,.string t,.int .i64 1,.slice la xln lc]] w fun e w'=>e= .returned (.string ⟨(wordsB 1 o (bsl s) (bsl t) 1 L).toArray⟩)/\Ext w w':=by
 have hres:Ending.returned (.string ⟨(wordsB 1 o (bsl s) (bsl t) 1 L).toArray⟩)=Ending.returned (.string ⟨#[84,82,85,69]⟩):=by
  refine congrArg (fun x=>Ending.returned (.string x)) (ba_ext ?_);simp [wordsB,testB,callB,leafB,trueL]
 rw [hres];clear hres;have HX:=h_ (show Ext w (w.alloc (.cells #[.int .i64 1,.int .i64 o,.string s,.string t,.int .i64 1,.slice la xln lc] 24)) from (Ext.refl w).alloc _);have HB:=h_ (Blk.new w #[.int .i64 1,.int .i64 o,.string s,.string t,.int .i64 1,.slice la xln lc] 24 rfl);go_enter Tryz.func19,Tryz.ntmps19;go_upto_region 1 with (fail)
 generalize (w.alloc (.cells #[.int .i64 1,.int .i64 o,.string s,.string t,.int .i64 1,.slice la xln lc] 24))=W0 at HX HB |-;obtain ⟨cb,fb⟩:=HB.out.facts;have hbl:=HB.out.lt;go_simp
 repeat (first|go_values|go_skip|go_guarded|go_step|go_upon)
 go_returns;exact ⟨rfl,HX.out⟩
theorem words_false (w:World) (o n:Int) (s t:ByteArray) (la:Option Addr) (xln lc:Nat) (L:List (Int × List UInt8)) (hn:n≠1) :
 Calls Tryz.prog 19 #[.agg #[.int .i64 1,.int .i64 o,.string s,.string t,.int .i64 n,.slice la xln lc]] w fun e w'=>e= .returned (.string ⟨(wordsB 1 o (bsl s) (bsl t) n L).toArray⟩)/\Ext w w':=by
 have hres:Ending.returned (.string ⟨(wordsB 1 o (bsl s) (bsl t) n L).toArray⟩)=Ending.returned (.string ⟨#[70,65,76,83,69]⟩):=by
  refine congrArg (fun x=>Ending.returned (.string x)) (ba_ext ?_);simp [wordsB,testB,callB,leafB,falseL,hn]
 rw [hres];clear hres;have HX:=h_ (show Ext w (w.alloc (.cells #[.int .i64 1,.int .i64 o,.string s,.string t,.int .i64 n,.slice la xln lc] 24)) from (Ext.refl w).alloc _);have HB:=h_ (Blk.new w #[.int .i64 1,.int .i64 o,.string s,.string t,.int .i64 n,.slice la xln lc] 24 rfl);have hnb:(n == 1)=false:=by rw [beq_eq_false_iff_ne];exact hn
 clear hn;go_enter Tryz.func19,Tryz.ntmps19;go_upto_region 1 with (fail)
 generalize (w.alloc (.cells #[.int .i64 1,.int .i64 o,.string s,.string t,.int .i64 n,.slice la xln lc] 24))=W0 at HX HB |-;obtain ⟨cb,fb⟩:=HB.out.facts;have hbl:=HB.out.lt;go_simp
 repeat (first|go_values|go_skip|go_guarded|go_step|go_upon)
 go_returns;exact ⟨rfl,HX.out⟩
theorem words_null (w:World) (o n:Int) (s t:ByteArray) (la:Option Addr) (xln lc:Nat) (L:List (Int × List UInt8)) :
 Calls Tryz.prog 19 #[.agg #[.int .i64 0,.int .i64 o,.string s,.string t,.int .i64 n,.slice la xln lc]] w fun e w'=>e= .returned (.string ⟨(wordsB 0 o (bsl s) (bsl t) n L).toArray⟩)/\Ext w w':=by
 have hres:Ending.returned (.string ⟨(wordsB 0 o (bsl s) (bsl t) n L).toArray⟩)=Ending.returned (.string ⟨#[78,85,76,76]⟩):=by
  refine congrArg (fun x=>Ending.returned (.string x)) (ba_ext ?_);simp [wordsB,testB,callB,leafB,nullL]
 rw [hres];clear hres;have HX:=h_ (show Ext w (w.alloc (.cells #[.int .i64 0,.int .i64 o,.string s,.string t,.int .i64 n,.slice la xln lc] 24)) from (Ext.refl w).alloc _);have HB:=h_ (Blk.new w #[.int .i64 0,.int .i64 o,.string s,.string t,.int .i64 n,.slice la xln lc] 24 rfl);go_enter Tryz.func19,Tryz.ntmps19;go_upto_region 1 with (fail)
 generalize (w.alloc (.cells #[.int .i64 0,.int .i64 o,.string s,.string t,.int .i64 n,.slice la xln lc] 24))=W0 at HX HB |-;obtain ⟨cb,fb⟩:=HB.out.facts;have hbl:=HB.out.lt;go_simp
 repeat (first|go_values|go_skip|go_guarded|go_step|go_upon)
 go_returns;exact ⟨rfl,HX.out⟩
theorem words_no6 (w:World) (o n:Int) (s t:ByteArray) (la:Option Addr) (xln lc:Nat) (L:List (Int × List UInt8)) (hL:L.length=xln) (h:xln≠2) :
 Calls Tryz.prog 19 #[.agg #[.int .i64 6,.int .i64 o,.string s,.string t,.int .i64 n,.slice la xln lc]] w fun e w'=>e= .returned (.string ⟨(wordsB 6 o (bsl s) (bsl t) n L).toArray⟩)/\Ext w w':=by
 have hres:Ending.returned (.string ⟨(wordsB 6 o (bsl s) (bsl t) n L).toArray⟩)=Ending.returned (.string ⟨#[63]⟩):=by
  refine congrArg (fun x=>Ending.returned (.string x)) (ba_ext ?_);have hLl:=hL;simp [wordsB,testB,callB,leafB,hLl,h]
 rw [hres];clear hres;have HX:=h_ (show Ext w (w.alloc (.cells #[.int .i64 6,.int .i64 o,.string s,.string t,.int .i64 n,.slice la xln lc] 24)) from (Ext.refl w).alloc _);have HB:=h_ (Blk.new w #[.int .i64 6,.int .i64 o,.string s,.string t,.int .i64 n,.slice la xln lc] 24 rfl);have q0:((xln:Int) == 2)=false:=by rw [beq_eq_false_iff_ne];omega
 have r0:(xln == 2)=false:=by rw [beq_eq_false_iff_ne];omega
 clear h;go_enter Tryz.func19,Tryz.ntmps19;go_upto_region 1 with (fail)
 generalize (w.alloc (.cells #[.int .i64 6,.int .i64 o,.string s,.string t,.int .i64 n,.slice la xln lc] 24))=W0 at HX HB |-;obtain ⟨cb,fb⟩:=HB.out.facts;have hbl:=HB.out.lt;go_simp
 repeat (first|go_values|go_skip|go_guarded|go_step|go_upon)
 go_returns;exact ⟨rfl,HX.out⟩
theorem words_no5 (w:World) (o n:Int) (s t:ByteArray) (la:Option Addr) (xln lc:Nat) (L:List (Int × List UInt8)) (hL:L.length=xln) (h:xln≠1) :
 Calls Tryz.prog 19 #[.agg #[.int .i64 5,.int .i64 o,.string s,.string t,.int .i64 n,.slice la xln lc]] w fun e w'=>e= .returned (.string ⟨(wordsB 5 o (bsl s) (bsl t) n L).toArray⟩)/\Ext w w':=by
 have hres:Ending.returned (.string ⟨(wordsB 5 o (bsl s) (bsl t) n L).toArray⟩)=Ending.returned (.string ⟨#[63]⟩):=by
  refine congrArg (fun x=>Ending.returned (.string x)) (ba_ext ?_);have hLl:=hL;simp [wordsB,testB,callB,leafB,hLl,h]
 rw [hres];clear hres;have HX:=h_ (show Ext w (w.alloc (.cells #[.int .i64 5,.int .i64 o,.string s,.string t,.int .i64 n,.slice la xln lc] 24)) from (Ext.refl w).alloc _);have HB:=h_ (Blk.new w #[.int .i64 5,.int .i64 o,.string s,.string t,.int .i64 n,.slice la xln lc] 24 rfl);have q0:((xln:Int) == 1)=false:=by rw [beq_eq_false_iff_ne];omega
 have r0:(xln == 1)=false:=by rw [beq_eq_false_iff_ne];omega
 clear h;go_enter Tryz.func19,Tryz.ntmps19;go_upto_region 1 with (fail)
 generalize (w.alloc (.cells #[.int .i64 5,.int .i64 o,.string s,.string t,.int .i64 n,.slice la xln lc] 24))=W0 at HX HB |-;obtain ⟨cb,fb⟩:=HB.out.facts;have hbl:=HB.out.lt;go_simp
 repeat (first|go_values|go_skip|go_guarded|go_step|go_upon)
 go_returns;exact ⟨rfl,HX.out⟩
theorem words_no7 (w:World) (o n:Int) (s t:ByteArray) (la:Option Addr) (xln lc:Nat) (L:List (Int × List UInt8)) (hL:L.length=xln) (h:xln≠1) :
 Calls Tryz.prog 19 #[.agg #[.int .i64 7,.int .i64 o,.string s,.string t,.int .i64 n,.slice la xln lc]] w fun e w'=>e= .returned (.string ⟨(wordsB 7 o (bsl s) (bsl t) n L).toArray⟩)/\Ext w w':=by
 have hres:Ending.returned (.string ⟨(wordsB 7 o (bsl s) (bsl t) n L).toArray⟩)=Ending.returned (.string ⟨#[63]⟩):=by
  refine congrArg (fun x=>Ending.returned (.string x)) (ba_ext ?_);have hLl:=hL;simp [wordsB,testB,callB,leafB,hLl,h]
 rw [hres];clear hres;have HX:=h_ (show Ext w (w.alloc (.cells #[.int .i64 7,.int .i64 o,.string s,.string t,.int .i64 n,.slice la xln lc] 24)) from (Ext.refl w).alloc _);have HB:=h_ (Blk.new w #[.int .i64 7,.int .i64 o,.string s,.string t,.int .i64 n,.slice la xln lc] 24 rfl);have q0:((xln:Int) == 1)=false:=by rw [beq_eq_false_iff_ne];omega
 have r0:(xln == 1)=false:=by rw [beq_eq_false_iff_ne];omega
 clear h;go_enter Tryz.func19,Tryz.ntmps19;go_upto_region 1 with (fail)
 generalize (w.alloc (.cells #[.int .i64 7,.int .i64 o,.string s,.string t,.int .i64 n,.slice la xln lc] 24))=W0 at HX HB |-;obtain ⟨cb,fb⟩:=HB.out.facts;have hbl:=HB.out.lt;go_simp
 repeat (first|go_values|go_skip|go_guarded|go_step|go_upon)
 go_returns;exact ⟨rfl,HX.out⟩
theorem words_no8 (w:World) (o n:Int) (s t:ByteArray) (la:Option Addr) (xln lc:Nat) (L:List (Int × List UInt8)) (hL:L.length=xln) (h:xln≠2/\xln≠3) :
 Calls Tryz.prog 19 #[.agg #[.int .i64 8,.int .i64 o,.string s,.string t,.int .i64 n,.slice la xln lc]] w fun e w'=>e= .returned (.string ⟨(wordsB 8 o (bsl s) (bsl t) n L).toArray⟩)/\Ext w w':=by
 have hres:Ending.returned (.string ⟨(wordsB 8 o (bsl s) (bsl t) n L).toArray⟩)=Ending.returned (.string ⟨#[63]⟩):=by
  refine congrArg (fun x=>Ending.returned (.string x)) (ba_ext ?_);have hLl:=hL;simp [wordsB,testB,callB,leafB,hLl,h]
 rw [hres];clear hres;have HX:=h_ (show Ext w (w.alloc (.cells #[.int .i64 8,.int .i64 o,.string s,.string t,.int .i64 n,.slice la xln lc] 24)) from (Ext.refl w).alloc _);have HB:=h_ (Blk.new w #[.int .i64 8,.int .i64 o,.string s,.string t,.int .i64 n,.slice la xln lc] 24 rfl);have q0:((xln:Int) == 2)=false:=by rw [beq_eq_false_iff_ne];omega
 have r0:(xln == 2)=false:=by rw [beq_eq_false_iff_ne];omega
 have q1:((xln:Int) == 3)=false:=by rw [beq_eq_false_iff_ne];omega
 have r1:(xln == 3)=false:=by rw [beq_eq_false_iff_ne];omega
 clear h;go_enter Tryz.func19,Tryz.ntmps19;go_upto_region 1 with (fail)
 generalize (w.alloc (.cells #[.int .i64 8,.int .i64 o,.string s,.string t,.int .i64 n,.slice la xln lc] 24))=W0 at HX HB |-;obtain ⟨cb,fb⟩:=HB.out.facts;have hbl:=HB.out.lt;go_simp
 repeat (first|go_values|go_skip|go_guarded|go_step|go_upon)
 go_returns;exact ⟨rfl,HX.out⟩
theorem words_no10 (w:World) (o n:Int) (s t:ByteArray) (la:Option Addr) (xln lc:Nat) (L:List (Int × List UInt8)) (hL:L.length=xln) (h:xln≠3) :
 Calls Tryz.prog 19 #[.agg #[.int .i64 10,.int .i64 o,.string s,.string t,.int .i64 n,.slice la xln lc]] w fun e w'=>e= .returned (.string ⟨(wordsB 10 o (bsl s) (bsl t) n L).toArray⟩)/\Ext w w':=by
 have hres:Ending.returned (.string ⟨(wordsB 10 o (bsl s) (bsl t) n L).toArray⟩)=Ending.returned (.string ⟨#[63]⟩):=by
  refine congrArg (fun x=>Ending.returned (.string x)) (ba_ext ?_);have hLl:=hL;simp [wordsB,testB,callB,leafB,hLl,h]
 rw [hres];clear hres;have HX:=h_ (show Ext w (w.alloc (.cells #[.int .i64 10,.int .i64 o,.string s,.string t,.int .i64 n,.slice la xln lc] 24)) from (Ext.refl w).alloc _);have HB:=h_ (Blk.new w #[.int .i64 10,.int .i64 o,.string s,.string t,.int .i64 n,.slice la xln lc] 24 rfl);have q0:((xln:Int) == 3)=false:=by rw [beq_eq_false_iff_ne];omega
 have r0:(xln == 3)=false:=by rw [beq_eq_false_iff_ne];omega
 clear h;go_enter Tryz.func19,Tryz.ntmps19;go_upto_region 1 with (fail)
 generalize (w.alloc (.cells #[.int .i64 10,.int .i64 o,.string s,.string t,.int .i64 n,.slice la xln lc] 24))=W0 at HX HB |-;obtain ⟨cb,fb⟩:=HB.out.facts;have hbl:=HB.out.lt;go_simp
 repeat (first|go_values|go_skip|go_guarded|go_step|go_upon)
 go_returns;exact ⟨rfl,HX.out⟩
theorem words_no11 (w:World) (o n:Int) (s t:ByteArray) (la:Option Addr) (xln lc:Nat) (L:List (Int × List UInt8)) (hL:L.length=xln) (h:xln≠1) :
 Calls Tryz.prog 19 #[.agg #[.int .i64 11,.int .i64 o,.string s,.string t,.int .i64 n,.slice la xln lc]] w fun e w'=>e= .returned (.string ⟨(wordsB 11 o (bsl s) (bsl t) n L).toArray⟩)/\Ext w w':=by
 have hres:Ending.returned (.string ⟨(wordsB 11 o (bsl s) (bsl t) n L).toArray⟩)=Ending.returned (.string ⟨#[63]⟩):=by
  refine congrArg (fun x=>Ending.returned (.string x)) (ba_ext ?_);have hLl:=hL;simp [wordsB,testB,callB,leafB,hLl,h]
 rw [hres];clear hres;have HX:=h_ (show Ext w (w.alloc (.cells #[.int .i64 11,.int .i64 o,.string s,.string t,.int .i64 n,.slice la xln lc] 24)) from (Ext.refl w).alloc _);have HB:=h_ (Blk.new w #[.int .i64 11,.int .i64 o,.string s,.string t,.int .i64 n,.slice la xln lc] 24 rfl);have q0:((xln:Int) == 1)=false:=by rw [beq_eq_false_iff_ne];omega
 have r0:(xln == 1)=false:=by rw [beq_eq_false_iff_ne];omega
 clear h;go_enter Tryz.func19,Tryz.ntmps19;go_upto_region 1 with (fail)
 generalize (w.alloc (.cells #[.int .i64 11,.int .i64 o,.string s,.string t,.int .i64 n,.slice la xln lc] 24))=W0 at HX HB |-;obtain ⟨cb,fb⟩:=HB.out.facts;have hbl:=HB.out.lt;go_simp
 repeat (first|go_values|go_skip|go_guarded|go_step|go_upon)
 go_returns;exact ⟨rfl,HX.out⟩
theorem words_no13 (w:World) (o n:Int) (s t:ByteArray) (la:Option Addr) (xln lc:Nat) (L:List (Int × List UInt8)) (hL:L.length=xln) (h:xln≠1) :
 Calls Tryz.prog 19 #[.agg #[.int .i64 13,.int .i64 o,.string s,.string t,.int .i64 n,.slice la xln lc]] w fun e w'=>e= .returned (.string ⟨(wordsB 13 o (bsl s) (bsl t) n L).toArray⟩)/\Ext w w':=by
 have hres:Ending.returned (.string ⟨(wordsB 13 o (bsl s) (bsl t) n L).toArray⟩)=Ending.returned (.string ⟨#[63]⟩):=by
  refine congrArg (fun x=>Ending.returned (.string x)) (ba_ext ?_);have hLl:=hL;simp [wordsB,testB,callB,leafB,hLl,h]
 rw [hres];clear hres;have HX:=h_ (show Ext w (w.alloc (.cells #[.int .i64 13,.int .i64 o,.string s,.string t,.int .i64 n,.slice la xln lc] 24)) from (Ext.refl w).alloc _);have HB:=h_ (Blk.new w #[.int .i64 13,.int .i64 o,.string s,.string t,.int .i64 n,.slice la xln lc] 24 rfl);have q0:((xln:Int) == 1)=false:=by rw [beq_eq_false_iff_ne];omega
 have r0:(xln == 1)=false:=by rw [beq_eq_false_iff_ne];omega
 clear h;go_enter Tryz.func19,Tryz.ntmps19;go_upto_region 1 with (fail)
 generalize (w.alloc (.cells #[.int .i64 13,.int .i64 o,.string s,.string t,.int .i64 n,.slice la xln lc] 24))=W0 at HX HB |-;obtain ⟨cb,fb⟩:=HB.out.facts;have hbl:=HB.out.lt;go_simp
 repeat (first|go_values|go_skip|go_guarded|go_step|go_upon)
 go_returns;exact ⟨rfl,HX.out⟩
theorem words_no14 (w:World) (o n:Int) (s t:ByteArray) (la:Option Addr) (xln lc:Nat) (L:List (Int × List UInt8)) (hL:L.length=xln) (h:xln≠0/\xln≠1) :
 Calls Tryz.prog 19 #[.agg #[.int .i64 14,.int .i64 o,.string s,.string t,.int .i64 n,.slice la xln lc]] w fun e w'=>e= .returned (.string ⟨(wordsB 14 o (bsl s) (bsl t) n L).toArray⟩)/\Ext w w':=by
 have hres:Ending.returned (.string ⟨(wordsB 14 o (bsl s) (bsl t) n L).toArray⟩)=Ending.returned (.string ⟨#[63]⟩):=by
  refine congrArg (fun x=>Ending.returned (.string x)) (ba_ext ?_);have hLl:=hL;simp [wordsB,testB,callB,leafB,hLl,h]
 rw [hres];clear hres;have HX:=h_ (show Ext w (w.alloc (.cells #[.int .i64 14,.int .i64 o,.string s,.string t,.int .i64 n,.slice la xln lc] 24)) from (Ext.refl w).alloc _);have HB:=h_ (Blk.new w #[.int .i64 14,.int .i64 o,.string s,.string t,.int .i64 n,.slice la xln lc] 24 rfl);have q0:((xln:Int) == 0)=false:=by rw [beq_eq_false_iff_ne];omega
 have r0:(xln == 0)=false:=by rw [beq_eq_false_iff_ne];omega
 have q1:((xln:Int) == 1)=false:=by rw [beq_eq_false_iff_ne];omega
 have r1:(xln == 1)=false:=by rw [beq_eq_false_iff_ne];omega
 clear h;go_enter Tryz.func19,Tryz.ntmps19;go_upto_region 1 with (fail)
 generalize (w.alloc (.cells #[.int .i64 14,.int .i64 o,.string s,.string t,.int .i64 n,.slice la xln lc] 24))=W0 at HX HB |-;obtain ⟨cb,fb⟩:=HB.out.facts;have hbl:=HB.out.lt;go_simp
 repeat (first|go_values|go_skip|go_guarded|go_step|go_upon)
 go_returns;exact ⟨rfl,HX.out⟩
theorem words_no9 (w:World) (o n:Int) (s t:ByteArray) (la:Option Addr) (xln lc:Nat) (L:List (Int × List UInt8)) (hL:L.length=xln) (h:¬ 1<xln) :
 Calls Tryz.prog 19 #[.agg #[.int .i64 9,.int .i64 o,.string s,.string t,.int .i64 n,.slice la xln lc]] w fun e w'=>e= .returned (.string ⟨(wordsB 9 o (bsl s) (bsl t) n L).toArray⟩)/\Ext w w':=by
 have hres:Ending.returned (.string ⟨(wordsB 9 o (bsl s) (bsl t) n L).toArray⟩)=Ending.returned (.string ⟨#[63]⟩):=by
  refine congrArg (fun x=>Ending.returned (.string x)) (ba_ext ?_);have hLl:=hL;simp [wordsB,testB,callB,leafB,hLl,h]
 rw [hres];clear hres;have HX:=h_ (show Ext w (w.alloc (.cells #[.int .i64 9,.int .i64 o,.string s,.string t,.int .i64 n,.slice la xln lc] 24)) from (Ext.refl w).alloc _);have HB:=h_ (Blk.new w #[.int .i64 9,.int .i64 o,.string s,.string t,.int .i64 n,.slice la xln lc] 24 rfl);have q0:decide ((xln:Int)>1)=false:=by rw [decide_eq_false_iff_not];omega
 have q1:decide (1<(xln:Int))=false:=by rw [decide_eq_false_iff_not];omega
 have q2:decide (1<xln)=false:=by rw [decide_eq_false_iff_not];omega
 clear h;go_enter Tryz.func19,Tryz.ntmps19;go_upto_region 1 with (fail)
 generalize (w.alloc (.cells #[.int .i64 9,.int .i64 o,.string s,.string t,.int .i64 n,.slice la xln lc] 24))=W0 at HX HB |-;obtain ⟨cb,fb⟩:=HB.out.facts;have hbl:=HB.out.lt;go_simp
 repeat (first|go_values|go_skip|go_guarded|go_step|go_upon)
 go_returns;exact ⟨rfl,HX.out⟩
theorem words_no12a (w:World) (o n:Int) (s t:ByteArray) (la:Option Addr) (xln lc:Nat) (L:List (Int × List UInt8)) (hL:L.length=xln) (h:xln≠1) :
 Calls Tryz.prog 19 #[.agg #[.int .i64 12,.int .i64 o,.string s,.string t,.int .i64 n,.slice la xln lc]] w fun e w'=>e= .returned (.string ⟨(wordsB 12 o (bsl s) (bsl t) n L).toArray⟩)/\Ext w w':=by
 have hres:Ending.returned (.string ⟨(wordsB 12 o (bsl s) (bsl t) n L).toArray⟩)=Ending.returned (.string ⟨#[63]⟩):=by
  refine congrArg (fun x=>Ending.returned (.string x)) (ba_ext ?_);have hLl:=hL;simp [wordsB,testB,callB,leafB,hLl,h]
 rw [hres];clear hres;have HX:=h_ (show Ext w (w.alloc (.cells #[.int .i64 12,.int .i64 o,.string s,.string t,.int .i64 n,.slice la xln lc] 24)) from (Ext.refl w).alloc _);have HB:=h_ (Blk.new w #[.int .i64 12,.int .i64 o,.string s,.string t,.int .i64 n,.slice la xln lc] 24 rfl);have q0:((xln:Int) == 1)=false:=by rw [beq_eq_false_iff_ne];omega
 have r0:(xln == 1)=false:=by rw [beq_eq_false_iff_ne];omega
 clear h;go_enter Tryz.func19,Tryz.ntmps19;go_upto_region 1 with (fail)
 generalize (w.alloc (.cells #[.int .i64 12,.int .i64 o,.string s,.string t,.int .i64 n,.slice la xln lc] 24))=W0 at HX HB |-;obtain ⟨cb,fb⟩:=HB.out.facts;have hbl:=HB.out.lt;go_simp
 repeat (first|go_values|go_skip|go_guarded|go_step|go_upon)
 go_returns;exact ⟨rfl,HX.out⟩
theorem words_no12b (w:World) (o n:Int) (s t:ByteArray) (la:Option Addr) (xln lc:Nat) (L:List (Int × List UInt8)) (hL:L.length=1) (h1:xln=1) (h:n<1) :
 Calls Tryz.prog 19 #[.agg #[.int .i64 12,.int .i64 o,.string s,.string t,.int .i64 n,.slice la xln lc]] w fun e w'=>e= .returned (.string ⟨(wordsB 12 o (bsl s) (bsl t) n L).toArray⟩)/\Ext w w':=by
 have hres:Ending.returned (.string ⟨(wordsB 12 o (bsl s) (bsl t) n L).toArray⟩)=Ending.returned (.string ⟨#[63]⟩):=by
  refine congrArg (fun x=>Ending.returned (.string x)) (ba_ext ?_);have h2:¬ (1<=n/\n<=3):=by omega
  simp [wordsB,testB,callB,leafB,hL,h2]
 rw [hres];clear hres;have HX:=h_ (show Ext w (w.alloc (.cells #[.int .i64 12,.int .i64 o,.string s,.string t,.int .i64 n,.slice la xln lc] 24)) from (Ext.refl w).alloc _);have HB:=h_ (Blk.new w #[.int .i64 12,.int .i64 o,.string s,.string t,.int .i64 n,.slice la xln lc] 24 rfl);have q9:((xln:Int) == 1)=true:=by rw [h1];rfl
 have r9:(xln == 1)=true:=by rw [h1];rfl
 clear h1;have q0:decide (n ≥ 1)=false:=by rw [decide_eq_false_iff_not];omega
 have q1:decide (1<=n)=false:=by rw [decide_eq_false_iff_not];omega
 clear h;go_enter Tryz.func19,Tryz.ntmps19;go_upto_region 1 with (fail)
 generalize (w.alloc (.cells #[.int .i64 12,.int .i64 o,.string s,.string t,.int .i64 n,.slice la xln lc] 24))=W0 at HX HB |-;obtain ⟨cb,fb⟩:=HB.out.facts;have hbl:=HB.out.lt;go_simp
 repeat (first|go_values|go_skip|go_guarded|go_step|go_upon)
 go_returns;exact ⟨rfl,HX.out⟩
theorem words_no12c (w:World) (o n:Int) (s t:ByteArray) (la:Option Addr) (xln lc:Nat) (L:List (Int × List UInt8)) (hL:L.length=1) (h1:xln=1) (h0:1<=n) (h:3<n) :
 Calls Tryz.prog 19 #[.agg #[.int .i64 12,.int .i64 o,.string s,.string t,.int .i64 n,.slice la xln lc]] w fun e w'=>e= .returned (.string ⟨(wordsB 12 o (bsl s) (bsl t) n L).toArray⟩)/\Ext w w':=by
 have hres:Ending.returned (.string ⟨(wordsB 12 o (bsl s) (bsl t) n L).toArray⟩)=Ending.returned (.string ⟨#[63]⟩):=by
  refine congrArg (fun x=>Ending.returned (.string x)) (ba_ext ?_);have h2:¬ (1<=n/\n<=3):=by omega
  simp [wordsB,testB,callB,leafB,hL,h2]
 rw [hres];clear hres;have HX:=h_ (show Ext w (w.alloc (.cells #[.int .i64 12,.int .i64 o,.string s,.string t,.int .i64 n,.slice la xln lc] 24)) from (Ext.refl w).alloc _);have HB:=h_ (Blk.new w #[.int .i64 12,.int .i64 o,.string s,.string t,.int .i64 n,.slice la xln lc] 24 rfl);have q9:((xln:Int) == 1)=true:=by rw [h1];rfl
 have r9:(xln == 1)=true:=by rw [h1];rfl
 clear h1;have q0:decide (n ≥ 1)=true:=by rw [decide_eq_true_iff];omega
 have q1:decide (1<=n)=true:=by rw [decide_eq_true_iff];omega
 have q2:decide (n<=3)=false:=by rw [decide_eq_false_iff_not];omega
 clear h0 h;go_enter Tryz.func19,Tryz.ntmps19;go_upto_region 1 with (fail)
 generalize (w.alloc (.cells #[.int .i64 12,.int .i64 o,.string s,.string t,.int .i64 n,.slice la xln lc] 24))=W0 at HX HB |-;obtain ⟨cb,fb⟩:=HB.out.facts;have hbl:=HB.out.lt;go_simp
 repeat (first|go_values|go_skip|go_guarded|go_step|go_upon)
 go_returns;exact ⟨rfl,HX.out⟩
theorem words_none (w:World) (o n:Int) (s t:ByteArray) (la:Option Addr) (xln lc:Nat) (L:List (Int × List UInt8)) (k:Int) (h:k<0 ∨ 14<k) :
 Calls Tryz.prog 19 #[.agg #[.int .i64 k,.int .i64 o,.string s,.string t,.int .i64 n,.slice la xln lc]] w fun e w'=>e= .returned (.string ⟨(wordsB k o (bsl s) (bsl t) n L).toArray⟩)/\Ext w w':=by
 have hres:Ending.returned (.string ⟨(wordsB k o (bsl s) (bsl t) n L).toArray⟩)=Ending.returned (.string ⟨#[63]⟩):=by
  refine congrArg (fun x=>Ending.returned (.string x)) (ba_ext ?_);have e0:k≠0:=by omega
  have e1:k≠1:=by omega
  have e2:k≠2:=by omega
  have e3:k≠3:=by omega
  have e4:k≠4:=by omega
  have e5:k≠5:=by omega
  have e6:k≠6:=by omega
  have e7:k≠7:=by omega
  have e8:k≠8:=by omega
  have e9:k≠9:=by omega
  have e10:k≠10:=by omega
  have e11:k≠11:=by omega
  have e12:k≠12:=by omega
  have e13:k≠13:=by omega
  have e14:k≠14:=by omega
  simp [wordsB,testB,callB,leafB,e0,e1,e2,e3,e4,e5,e6,e7,e8,e9,e10,e11,e12,e13,e14]
 rw [hres];clear hres;have HX:=h_ (show Ext w (w.alloc (.cells #[.int .i64 k,.int .i64 o,.string s,.string t,.int .i64 n,.slice la xln lc] 24)) from (Ext.refl w).alloc _);have HB:=h_ (Blk.new w #[.int .i64 k,.int .i64 o,.string s,.string t,.int .i64 n,.slice la xln lc] 24 rfl);have q0:(k == 0)=false:=by rw [beq_eq_false_iff_ne];omega
 have q1:(k == 1)=false:=by rw [beq_eq_false_iff_ne];omega
 have q2:(k == 2)=false:=by rw [beq_eq_false_iff_ne];omega
 have q3:(k == 3)=false:=by rw [beq_eq_false_iff_ne];omega
 have q4:(k == 4)=false:=by rw [beq_eq_false_iff_ne];omega
 have q5:(k == 5)=false:=by rw [beq_eq_false_iff_ne];omega
 have q6:(k == 6)=false:=by rw [beq_eq_false_iff_ne];omega
 have q7:(k == 7)=false:=by rw [beq_eq_false_iff_ne];omega
 have q8:(k == 8)=false:=by rw [beq_eq_false_iff_ne];omega
 have q9:(k == 9)=false:=by rw [beq_eq_false_iff_ne];omega
 have q10:(k == 10)=false:=by rw [beq_eq_false_iff_ne];omega
 have q11:(k == 11)=false:=by rw [beq_eq_false_iff_ne];omega
 have q12:(k == 12)=false:=by rw [beq_eq_false_iff_ne];omega
 have q13:(k == 13)=false:=by rw [beq_eq_false_iff_ne];omega
 have q14:(k == 14)=false:=by rw [beq_eq_false_iff_ne];omega
 clear h;go_enter Tryz.func19,Tryz.ntmps19;go_upto_region 1 with (fail)
 generalize (w.alloc (.cells #[.int .i64 k,.int .i64 o,.string s,.string t,.int .i64 n,.slice la xln lc] 24))=W0 at HX HB |-;obtain ⟨cb,fb⟩:=HB.out.facts;have hbl:=HB.out.lt;go_simp
 repeat (first|go_values|go_skip|go_guarded|go_step|go_upon)
 go_returns;exact ⟨rfl,HX.out⟩
end Go.Proofs.YtimeipjcmffadaaGreatDoor
