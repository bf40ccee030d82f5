import Derived.Deep.LoopGhost
import Derived.Test.YtimeipjcmffadaaGreatDoorRwC
import Derived.Test.YtimeipjcmffadaaGreatDoorRwD
set_option maxHeartbeats 16000000
namespace Go.Proofs.YtimeipjcmffadaaGreatDoor
open Go.RowKit Go.Lib
set_option maxRecDepth 100000
theorem words_text (w:World) (o n:Int) (s t:ByteArray) (la:Option Addr) (xln lc:Nat) (L:List (Int × List UInt8)) (hs:s.size<=500) :
 Calls Tryz.prog 19 #[.agg #[.int .i64 3,.int .i64 o,.string s,.string t,.int .i64 n,.slice la xln lc]] w fun e w'=>e= .returned (.string ⟨(wordsB 3 o (bsl s) (bsl t) n L).toArray⟩)/\Ext w w':=by
 have hp:prS 3 0 s=⟨(wordsB 3 o (bsl s) (bsl t) n L).toArray⟩:=by
  unfold prS;have e1:cK 3 0 s=3:=by unfold cK vOk;simp
  have e2:cS 3 0 s=s:=cS_text 3 0 s e1;rw [e1,e2];simp [wordsB,testB,callB,leafB,prB]
 rw [<- hp];have HX:=h_ (show Ext w (w.alloc (.cells #[.int .i64 3,.int .i64 o,.string s,.string t,.int .i64 n,.slice la xln lc] 24)) from (Ext.refl w).alloc _);have HB:=h_ (Blk.new w #[.int .i64 3,.int .i64 o,.string s,.string t,.int .i64 n,.slice la xln lc] 24 rfl);have KT:=h_ (fun W=>reftextv_any s W);have KP:=h_ (fun W=>refprint_any 3 0 s W (by unfold InR;omega) (by omega));generalize prS 3 0 s=R at KP |-;unfold vV at KT KP;clear hp hs;go_enter Tryz.func19,Tryz.ntmps19;go_upto_region 1 with (fail)
 generalize (w.alloc (.cells #[.int .i64 3,.int .i64 o,.string s,.string t,.int .i64 n,.slice la xln lc] 24))=W0 at HX HB |-;obtain ⟨cb,fb⟩:=HB.out.facts;have hbl:=HB.out.lt;go_simp
 repeat (first|go_values|go_skip|go_guarded|go_step|go_upon)
 refine Calls.mono (KT.out W0) ?_;rintro e W1 ⟨rfl,hx1⟩;have HX1:=h_ (Ext.trans HX.out hx1);clear hx1 cb fb hbl HX HB;go_simp
 repeat (first|go_values|go_skip|go_guarded|go_step|go_upon)
 refine Calls.mono (KP.out W1) ?_;rintro e W2 ⟨rfl,hx2⟩;have HX2:=h_ (Ext.trans HX1.out hx2);clear hx2 HX1;go_simp
 repeat (first|go_values|go_skip|go_guarded|go_step|go_upon)
 go_returns;exact ⟨rfl,HX2.out⟩
theorem commaB_snoc:∀ (L:List (Int × List UInt8)) (c:Int × List UInt8),commaB (L++[c])=commaB L++([32,44,32]++atB c 1)
 | [],c=>by simp [commaB]
 |d::L,c=>by simp only [List.cons_append,commaB,commaB_snoc L c,List.append_assoc]
theorem commasB_snoc (L:List (Int × List UInt8)) (c:Int × List UInt8) (h:L≠[]):commasB (L++[c])=commasB L++([32,44,32]++atB c 1):=by
 cases L with
 |nil=>exact absurd rfl h
 |cons d L=>simp only [List.cons_append,commasB,commaB_snoc L c,List.append_assoc]
theorem totB_take:∀ (L:List (Int × List UInt8)) (i:Nat),totB (L.take i)<=totB L
 | [],i=>by simp [totB]
 |c::L,0=>by simp [totB]
 |c::L,i+1=>by
  have:=totB_take L i;rw [List.take_succ_cons,totB_cons,totB_cons];omega
theorem wordsTs_take (l:List Tr) (i:Nat):wordsTs (l.take i)=(wordsTs l).take i:=by rw [wordsTs_map,wordsTs_map,List.map_take]
theorem commas_any (A:Nat->Prop) (w:World) (la:Option Addr) (xln lc:Nat) (l:List Tr) (hk:KidsA A w la xln lc l) (hw:WordsOk w A l) (htot:totB (wordsTs l)<=900000) (hlen:l.length<=1000000) :
 Calls Tryz.prog 40 #[.slice la xln lc] w fun e w'=>e= .returned (.string ⟨(commasB (wordsTs l)).toArray⟩)/\Ext w w':=by
 have hln:=hk.len;subst hln;obtain ⟨R,hR⟩:∃ R:ByteArray,R=⟨(commasB (wordsTs l)).toArray⟩:=⟨_,rfl⟩
 rw [<- hR];have HR:=h_ hR;have HK:=h_ hk;have HW:=h_ hw;have HT:=h_ htot;clear hR hk hw htot;go_enter Tryz.func40,Tryz.ntmps40;go_simp
 repeat (first|go_values|go_skip|go_guarded|go_step|go_upon)
 go_loopw [3,4] (fun v i wr=>∃ (j:Nat),j<=l.length/\v= .string ⟨(commasB (wordsTs (l.take j))).toArray⟩/\i= .int .i64 j/\Ext w wr) (fun _ i _=>l.length - (intOf i).toNat)
 case atStart=>exact ⟨0,Nat.zero_le _,by simp [wordsTs,commasB],rfl,Ext.refl w⟩
 case round =>
  obtain ⟨j,hj,rfl,rfl,hx⟩:=hrel;obtain ⟨S,hS⟩:∃ S:ByteArray,S=⟨(commasB (wordsTs (l.take j))).toArray⟩:=⟨_,rfl⟩
  rw [<- hS];have HX:=h_ hx;have HS:=h_ hS;have hsz:S.size<=900000:=by
   rw [hS,sizeL];refine Nat.le_trans (commasB_len _) ?_;rw [wordsTs_take];exact Nat.le_trans (totB_take _ _) HT.out
  clear hx hS;by_cases hlt:j<l.length
  ·have hltI:(j:Int)<(l.length:Int):=by omega
   obtain ⟨g,off,y,z,hla,hz,hT,hgl,_,hlc,q0,q1,q2,q3,q4,q5⟩:=(HK.out.ext HX.out).get j hlt;obtain ⟨hl0,hq0⟩:=HW.out z (List.mem_of_getElem? hz);obtain ⟨S0,hS0⟩:∃ S:ByteArray,S=⟨(atB (lvT z,wordsT z) 1).toArray⟩:=⟨_,rfl⟩
   have hz0:S0.size<=1000000:=by rw [hS0,sizeL];have:=atB_len (lvT z,wordsT z) 1;simp only at this;omega
   have KA:=h_ (at_anyR y 1 (wordsT z) (by omega) wr fun W2 h2=>hq0 y W2 (hT.ext h2) (Ext.trans HX.out h2));rw [lv_of hT,<- hS0] at KA;have htk:wordsTs (l.take (j+1))=wordsTs (l.take j)++[(lvT z,wordsT z)]:=by
    rw [wordsTs_map,wordsTs_map,List.take_add_one,hz];simp
   have HTk:=h_ htk;have HS0:=h_ hS0;obtain ⟨yk,yo,ys,yt,yn,yla,yln,ylc⟩:=y;simp only [PN.v] at KA;simp only at q0 q1 q2 q3 q4 q5;subst hla;clear hT hq0 hl0 hS0 htk hz;by_cases hj0:j=0
   ·subst hj0;simp only [Nat.zero_mul,Nat.add_zero] at q0 q1 q2 q3 q4 q5;go_simp
    repeat (first|go_values|go_skip|go_guarded|go_step|go_upon)
    refine Calls.mono KA.out ?_;rintro e W2 ⟨rfl,hx2⟩;have HX2:=h_ (Ext.trans HX.out hx2);clear hx2 q0 q1 q2 q3 q4 q5;go_simp
    repeat (first|go_values|go_skip|go_guarded|go_step|go_upon)
    go_roundw
    case measure=>simp [intOf];omega
    case rel =>
    refine ⟨.string (S++S0),.int .i64 ((1:Nat):Int),⟨1,by omega,?_,rfl,HX2.out⟩,by simp⟩;refine congrArg Value.string ?_;rw [HS.out,HS0.out,show (1:Nat)=0+1 from rfl,HTk.out];exact ba_ext (by simp [wordsTs,commasB,commaB])
   ·have hjI:(0:Int)<(j:Int):=by omega
    have hjB:decide ((j:Int)>0)=true:=by rw [decide_eq_true_iff];exact hjI
    go_simp
    repeat (first|go_values|go_skip|go_guarded|go_step|go_upon)
    refine Calls.mono KA.out ?_;rintro e W2 ⟨rfl,hx2⟩;have HX2:=h_ (Ext.trans HX.out hx2);clear hx2 q0 q1 q2 q3 q4 q5;go_simp
    repeat (first|go_values|go_skip|go_guarded|go_step|go_upon)
    go_roundw
    case measure=>simp [intOf];omega
    case rel =>
    refine ⟨.string (S++⟨#[32,44,32]⟩++S0),.int .i64 ((j+1:Nat):Int),⟨j+1,by omega,?_,rfl,HX2.out⟩,by simp⟩;refine congrArg Value.string ?_;rw [HS.out,HS0.out,HTk.out,commasB_snoc _ _ (by
     intro e;have:=congrArg List.length e;rw [wordsTs_len,List.length_take] at this;rw [List.length_nil] at this;omega)]
    exact ba_ext (by simp)
  ·have hltI:¬ (j:Int)<(l.length:Int):=by omega
   obtain rfl:S=R:=by rw [HS.out,HR.out,List.take_of_length_le (by omega)]
   go_simp
   repeat (first|go_values|go_skip|go_guarded|go_step|go_upon)
   go_returns;exact ⟨rfl,HX.out⟩
end Go.Proofs.YtimeipjcmffadaaGreatDoor
