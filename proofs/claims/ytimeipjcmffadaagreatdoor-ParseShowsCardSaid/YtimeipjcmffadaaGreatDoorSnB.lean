import Derived.Test.YtimeipjcmffadaaGreatDoorRwH
import Derived.Test.YtimeipjcmffadaaGreatDoorShowB
import Derived.Test.YtimeipjcmffadaaGreatDoorTrIn
set_option maxHeartbeats 16000000
namespace Go.Proofs.YtimeipjcmffadaaGreatDoor
open Go.RowKit Go.Lib
set_option maxRecDepth 100000
theorem lvR_else (o:Int) (h:¬(o=19 ∨ o=22)) (h1:o≠18) (h2:¬(o=15 ∨ o=16)) (h3:o≠14) (h4:¬(o=12 ∨ o=13)) (h5:¬(o=7 ∨ o=8 ∨ o=17)) (h6:¬(o=9 ∨ o=10 ∨ o=11)):lvR 6 o=4:=by
 unfold lvR;rw [if_pos rfl,if_neg h,if_neg h1,if_neg h2,if_neg h3,if_neg h4,if_neg h5,if_neg h6]
theorem level_bin (o:Int) (s t:ByteArray) (n:Int) (la:Option Addr) (ln lc:Nat) (w:World) :
 Calls Tryz.prog 36 #[.agg #[.int .i64 6,.int .i64 o,.string s,.string t,.int .i64 n,.slice la ln lc]] w fun e w'=>e= .returned (.int .i64 (lvR 6 o))/\Ext w w':=by
 have HX:=h_ (show Ext w (w.alloc (.cells #[.int .i64 6,.int .i64 o,.string s,.string t,.int .i64 n,.slice la ln lc] 24)) from (Ext.refl w).alloc _);by_cases h:o=19 ∨ o=22 ∨ o=18 ∨ o=15 ∨ o=16 ∨ o=14 ∨ o=12 ∨ o=13 ∨ o=7 ∨ o=8 ∨ o=17 ∨ o=9 ∨ o=10 ∨ o=11
 ·obtain ⟨R,hR⟩:∃ R,R=lvR 6 o:=⟨_,rfl⟩
  rcases h with rfl|rfl|rfl|rfl|rfl|rfl|rfl|rfl|rfl|rfl|rfl|rfl|rfl|rfl
  all_goals
   rw [<- hR];unfold lvR at hR;simp at hR;subst hR;go_enter Tryz.func36,Tryz.ntmps36;go_simp
   repeat (first|go_values|go_skip|go_guarded|go_step|go_upon)
   go_returns;exact ⟨rfl,HX.out⟩
 ·rw [lvR_else o (by omega) (by omega) (by omega) (by omega) (by omega) (by omega) (by omega)];have q1:(o == 19)=false:=by rw [beq_eq_false_iff_ne];omega
  have q2:(o == 22)=false:=by rw [beq_eq_false_iff_ne];omega
  have q3:(o == 18)=false:=by rw [beq_eq_false_iff_ne];omega
  have q4:(o == 15)=false:=by rw [beq_eq_false_iff_ne];omega
  have q5:(o == 16)=false:=by rw [beq_eq_false_iff_ne];omega
  have q6:(o == 14)=false:=by rw [beq_eq_false_iff_ne];omega
  have q7:(o == 12)=false:=by rw [beq_eq_false_iff_ne];omega
  have q8:(o == 13)=false:=by rw [beq_eq_false_iff_ne];omega
  have q9:(o == 7)=false:=by rw [beq_eq_false_iff_ne];omega
  have q10:(o == 8)=false:=by rw [beq_eq_false_iff_ne];omega
  have q11:(o == 17)=false:=by rw [beq_eq_false_iff_ne];omega
  have q12:(o == 9)=false:=by rw [beq_eq_false_iff_ne];omega
  have q13:(o == 10)=false:=by rw [beq_eq_false_iff_ne];omega
  have q14:(o == 11)=false:=by rw [beq_eq_false_iff_ne];omega
  clear h;go_enter Tryz.func36,Tryz.ntmps36;go_simp
  repeat (first|go_values|go_skip|go_guarded|go_step|go_upon)
  go_returns;exact ⟨rfl,HX.out⟩
theorem level_any (k o:Int) (s t:ByteArray) (n:Int) (la:Option Addr) (ln lc:Nat) (w:World) :
 Calls Tryz.prog 36 #[.agg #[.int .i64 k,.int .i64 o,.string s,.string t,.int .i64 n,.slice la ln lc]] w fun e w'=>e= .returned (.int .i64 (lvR k o))/\Ext w w':=by
 have HX:=h_ (show Ext w (w.alloc (.cells #[.int .i64 k,.int .i64 o,.string s,.string t,.int .i64 n,.slice la ln lc] 24)) from (Ext.refl w).alloc _);by_cases h6:k=6
 ·subst h6;exact level_bin o s t n la ln lc w
 by_cases h5:k=5
 ·subst h5;by_cases ho:o=21
  ·subst ho;rw [show lvR 5 21=3 from rfl];go_enter Tryz.func36,Tryz.ntmps36;go_simp
   repeat (first|go_values|go_skip|go_guarded|go_step|go_upon)
   go_returns;exact ⟨rfl,HX.out⟩
  ·have q1:(o == 21)=false:=by rw [beq_eq_false_iff_ne];omega
   have e1:lvR 5 o=10:=by unfold lvR;rw [if_neg (by decide),if_pos rfl,if_neg ho]
   rw [e1];clear ho e1;go_enter Tryz.func36,Tryz.ntmps36;go_simp
   repeat (first|go_values|go_skip|go_guarded|go_step|go_upon)
   go_returns;exact ⟨rfl,HX.out⟩
 by_cases h4:k=7 ∨ k=8 ∨ k=9 ∨ k=10 ∨ k=11
 ·obtain ⟨R,hR⟩:∃ R,R=lvR k o:=⟨_,rfl⟩
  clear h6 h5;rcases h4 with rfl|rfl|rfl|rfl|rfl
  all_goals
   rw [<- hR];unfold lvR at hR;simp at hR;subst hR;go_enter Tryz.func36,Tryz.ntmps36;go_simp
   repeat (first|go_values|go_skip|go_guarded|go_step|go_upon)
   go_returns;exact ⟨rfl,HX.out⟩
 ·have e1:lvR k o=12:=by unfold lvR;rw [if_neg h6,if_neg h5,if_neg (by omega),if_neg (by omega)]
  rw [e1];have q1:(k == 6)=false:=by rw [beq_eq_false_iff_ne];omega
  have q2:(k == 5)=false:=by rw [beq_eq_false_iff_ne];omega
  have q3:(k == 7)=false:=by rw [beq_eq_false_iff_ne];omega
  have q4:(k == 8)=false:=by rw [beq_eq_false_iff_ne];omega
  have q5:(k == 9)=false:=by rw [beq_eq_false_iff_ne];omega
  have q6:(k == 10)=false:=by rw [beq_eq_false_iff_ne];omega
  have q7:(k == 11)=false:=by rw [beq_eq_false_iff_ne];omega
  clear h6 h5 h4 e1;go_enter Tryz.func36,Tryz.ntmps36;go_simp
  repeat (first|go_values|go_skip|go_guarded|go_step|go_upon)
  go_returns;exact ⟨rfl,HX.out⟩
theorem not_anyR (k o:Int) (s t:ByteArray) (n:Int) (la:Option Addr) (ln lc:Nat) (w:World) :
 Calls Tryz.prog 39 #[.agg #[.int .i64 k,.int .i64 o,.string s,.string t,.int .i64 n,.slice la ln lc]] w fun e w'=>e= .returned (.string ⟨(notB n).toArray⟩)/\Ext w w':=by
 have HX:=h_ (show Ext w (w.alloc (.cells #[.int .i64 k,.int .i64 o,.string s,.string t,.int .i64 n,.slice la ln lc] 24)) from (Ext.refl w).alloc _);unfold notB;by_cases hn:n=1
 ·subst hn;rw [if_pos rfl];go_enter Tryz.func39,Tryz.ntmps39;go_simp
  repeat (first|go_values|go_skip|go_guarded|go_step|go_upon)
  go_returns;exact ⟨rfl,HX.out⟩
 ·rw [if_neg hn];have hb:(n == 1)=false:=by rw [beq_eq_false_iff_ne];exact hn
  clear hn;go_enter Tryz.func39,Tryz.ntmps39;go_simp
  repeat (first|go_values|go_skip|go_guarded|go_step|go_upon)
  go_returns;exact ⟨rfl,HX.out⟩
def opNV:Array Value:= #[.string ⟨#[]⟩,.string ⟨#[61]⟩,.string ⟨#[60,62]⟩,.string ⟨#[60]⟩,.string ⟨#[60,61]⟩,.string ⟨#[62]⟩,.string ⟨#[62,61]⟩,.string ⟨#[43]⟩,.string ⟨#[45]⟩,.string ⟨#[42]⟩,.string ⟨#[47]⟩,.string ⟨#[37]⟩,.string ⟨#[60,60]⟩,.string ⟨#[62,62]⟩,.string ⟨#[38]⟩,.string ⟨#[124]⟩,.string ⟨#[94]⟩,.string ⟨#[124,124]⟩,.string ⟨#[65,78,68]⟩,.string ⟨#[79,82]⟩,.string ⟨#[]⟩,.string ⟨#[]⟩,.string ⟨#[88,79,82]⟩]
theorem opNV_get (m:Nat) (hm:m<23):opNV[m]?=some (.string ⟨(opN m).toArray⟩):=by
 have:m=0 ∨ m=1 ∨ m=2 ∨ m=3 ∨ m=4 ∨ m=5 ∨ m=6 ∨ m=7 ∨ m=8 ∨ m=9 ∨ m=10 ∨ m=11 ∨ m=12 ∨ m=13 ∨ m=14 ∨ m=15 ∨ m=16 ∨ m=17 ∨ m=18 ∨ m=19 ∨ m=20 ∨ m=21 ∨ m=22:=by omega
 rcases this with rfl|rfl|rfl|rfl|rfl|rfl|rfl|rfl|rfl|rfl|rfl|rfl|rfl|rfl|rfl|rfl|rfl|rfl|rfl|rfl|rfl|rfl|rfl<;>rfl
theorem opName_any (o:Int) (w:World) :
 Calls Tryz.prog 38 #[.int .i64 o] w fun e w'=>e= .returned (.string ⟨(opN o).toArray⟩)/\Ext w w':=by
 have HX:=h_ (show Ext w (w.alloc (.cells opNV 9)) from (Ext.refl w).alloc _);have HB:=h_ (Blk.new w opNV 9 rfl);by_cases h0:o<0
 ·have e1:opN o=[]:=by unfold opN;rw [if_pos h0]
  have hB:decide (o<0)=true:=by rw [decide_eq_true_iff];exact h0
  rw [e1];clear e1 h0;go_enter Tryz.func38,Tryz.ntmps38;go_simp
  repeat (first|go_values|go_skip|go_guarded|go_step|go_upon)
  go_returns;exact ⟨rfl,HX.out⟩
 ·have hB:decide (o<0)=false:=by rw [decide_eq_false_iff_not];exact h0
  by_cases h1:23<=o
  ·have e1:opN o=[]:=by unfold opN;rw [if_neg h0,List.getElem?_eq_none (by simp [opNR];omega)];rfl
   have hB2:decide (23<=o)=true:=by rw [decide_eq_true_iff];exact h1
   rw [e1];clear e1 h0;go_enter Tryz.func38,Tryz.ntmps38;go_simp
   repeat (first|go_values|go_skip|go_guarded|go_step|go_upon)
   go_returns;exact ⟨rfl,HX.out⟩
  ·have hB2:decide (23<=o)=false:=by rw [decide_eq_false_iff_not];exact h1
   obtain ⟨m,rfl⟩:∃ m:Nat,o=(m:Int):=⟨o.toNat,by omega⟩
   have hm:m<23:=by omega
   have hg:=(HB.out.cell m).trans (opNV_get m hm);have hl:=HB.out.lt;generalize opN m=x at hg |-;obtain ⟨W,hW⟩:∃ W,W=w.alloc (.cells opNV 9):=⟨_,rfl⟩
   rw [<- hW] at HX HB hg hl;have hmI:(m:Int)<23:=by omega
   clear hB h0 h1;go_enter Tryz.func38,Tryz.ntmps38;go_upto_region 2 with (fail)
   rw [show w.alloc (.cells #[.string ⟨#[]⟩,.string ⟨#[61]⟩,.string ⟨#[60,62]⟩,.string ⟨#[60]⟩,.string ⟨#[60,61]⟩,.string ⟨#[62]⟩,.string ⟨#[62,61]⟩,.string ⟨#[43]⟩,.string ⟨#[45]⟩,.string ⟨#[42]⟩,.string ⟨#[47]⟩,.string ⟨#[37]⟩,.string ⟨#[60,60]⟩,.string ⟨#[62,62]⟩,.string ⟨#[38]⟩,.string ⟨#[124]⟩,.string ⟨#[94]⟩,.string ⟨#[124,124]⟩,.string ⟨#[65,78,68]⟩,.string ⟨#[79,82]⟩,.string ⟨#[]⟩,.string ⟨#[]⟩,.string ⟨#[88,79,82]⟩] 9)=W from hW.symm];clear hW;go_simp
   repeat (first|go_values|go_skip|go_guarded|go_step|go_upon)
   go_returns;exact ⟨rfl,HX.out⟩
theorem sizeL (l:List UInt8):(ByteArray.mk l.toArray).size=l.length:=by show l.toArray.size=_;simp
theorem at_anyR (x:PN) (lv:Int) (wd:List UInt8) (hl:wd.length<=1000000) (w:World) (hw:∀ W,Ext w W->Calls Tryz.prog 19 #[x.v] W fun e w'=>e= .returned (.string ⟨wd.toArray⟩)/\Ext W w') :
 Calls Tryz.prog 37 #[x.v,.int .i64 lv] w fun e w'=>e= .returned (.string ⟨(atB (lvR x.k x.o,wd) lv).toArray⟩)/\Ext w w':=by
 obtain ⟨xk,xo,xs,xt,xn,xla,xln,xlc⟩:=x;have HX:=h_ (show Ext w (w.alloc (.cells #[.int .i64 xk,.int .i64 xo,.string xs,.string xt,.int .i64 xn,.slice xla xln xlc] 24)) from (Ext.refl w).alloc _);have HB:=h_ (Blk.new w #[.int .i64 xk,.int .i64 xo,.string xs,.string xt,.int .i64 xn,.slice xla xln xlc] 24 rfl);have KL:=h_ (fun W=>level_any xk xo xs xt xn xla xln xlc W);have KW:=h_ hw;simp only [PN.v] at KW |-;unfold atB;simp only;obtain ⟨Q,hQ⟩:∃ Q,Q=lvR xk xo:=⟨_,rfl⟩
 rw [<- hQ] at KL |-;clear hw hQ;obtain ⟨S,hS⟩:∃ S:ByteArray,S=⟨wd.toArray⟩:=⟨_,rfl⟩
 have hSz:S.size<=1000000:=by rw [hS,sizeL];exact hl
 have HS:=h_ hS;rw [<- hS] at KW;clear hS hl;by_cases hlt:Q<lv
 ·rw [if_pos hlt];go_enter Tryz.func37,Tryz.ntmps37;go_upto_region 1 with (fail)
  generalize (w.alloc (.cells #[.int .i64 xk,.int .i64 xo,.string xs,.string xt,.int .i64 xn,.slice xla xln xlc] 24))=W0 at HX HB |-;obtain ⟨cb,fb⟩:=HB.out.facts;have hbl:=HB.out.lt;go_simp
  repeat (first|go_values|go_skip|go_guarded|go_step|go_upon)
  refine Calls.mono (KL.out W0) ?_;rintro e W1 ⟨rfl,hx1⟩;have HX1:=h_ (Ext.trans HX.out hx1);have HB1:=h_ (HB.out.keep hx1);clear hx1 HX HB cb fb hbl;obtain ⟨cb,fb⟩:=HB1.out.facts;have hbl:=HB1.out.lt;go_simp
  repeat (first|go_values|go_skip|go_guarded|go_step|go_upon)
  refine Calls.mono (KW.out W1 HX1.out) ?_;rintro e W2 ⟨rfl,hx2⟩;have HX2:=h_ (Ext.trans HX1.out hx2);clear hx2 HX1 HB1 cb fb hbl;go_simp
  repeat (first|go_values|go_skip|go_guarded|go_step|go_upon)
  go_returns;refine ⟨?_,HX2.out⟩;rw [HS.out];exact congrArg (fun x=>Ending.returned (.string x)) (ba_ext (by simp))
 ·rw [if_neg hlt];go_enter Tryz.func37,Tryz.ntmps37;go_upto_region 1 with (fail)
  generalize (w.alloc (.cells #[.int .i64 xk,.int .i64 xo,.string xs,.string xt,.int .i64 xn,.slice xla xln xlc] 24))=W0 at HX HB |-;obtain ⟨cb,fb⟩:=HB.out.facts;have hbl:=HB.out.lt;go_simp
  repeat (first|go_values|go_skip|go_guarded|go_step|go_upon)
  refine Calls.mono (KL.out W0) ?_;rintro e W1 ⟨rfl,hx1⟩;have HX1:=h_ (Ext.trans HX.out hx1);have HB1:=h_ (HB.out.keep hx1);clear hx1 HX HB cb fb hbl;obtain ⟨cb,fb⟩:=HB1.out.facts;have hbl:=HB1.out.lt;go_simp
  repeat (first|go_values|go_skip|go_guarded|go_step|go_upon)
  refine Calls.mono (KW.out W1 HX1.out) ?_;rintro e W2 ⟨rfl,hx2⟩;have HX2:=h_ (Ext.trans HX1.out hx2);clear hx2 HX1 HB1 cb fb hbl;go_simp
  repeat (first|go_values|go_skip|go_guarded|go_step|go_upon)
  go_returns;rw [HS.out];exact ⟨rfl,HX2.out⟩
def WordsOk (w:World) (A:Nat->Prop) (l:List Tr):Prop:=∀ z,z∈l->(wordsT z).length<=900000/\∀ (y:PN) (W:World),TrIn A W y z->Ext w W->Calls Tryz.prog 19 #[y.v] W fun e w'=>e= .returned (.string ⟨(wordsT z).toArray⟩)/\Ext W w'
theorem lv_of {A:Nat->Prop} {w:World} {y:PN} {z:Tr} (h:TrIn A w y z):lvR y.k y.o=lvT z:=by
 cases z with
 |mk k o s t n l =>
  obtain ⟨h1,h2,_⟩:=h.parts;rw [h1,h2];rfl
theorem PnIn.at6 {w:World} {g o i:Nat} {L:List PN} {y:PN} (h:PnIn w g o L) (hy:L[i]?=some y) :
 w.cell? ⟨g,o+i * 6,none⟩=some (.int .i64 y.k)/\w.cell? ⟨g,o+i * 6+1,none⟩=some (.int .i64 y.o)/\w.cell? ⟨g,o+i * 6+2,none⟩=some (.string y.s)/\w.cell? ⟨g,o+i * 6+3,none⟩=some (.string y.t)/\w.cell? ⟨g,o+i * 6+4,none⟩=some (.int .i64 y.n)/\w.cell? ⟨g,o+i * 6+5,none⟩=some (.slice y.la y.ln y.lc) :=
 ⟨h.2 i y hy 0 (by omega),h.2 i y hy 1 (by omega),h.2 i y hy 2 (by omega),h.2 i y hy 3 (by omega),h.2 i y hy 4 (by omega),h.2 i y hy 5 (by omega)⟩
theorem lvR_bd (k o:Int):1<=lvR k o/\lvR k o<=12:=by
 unfold lvR
 repeat' split
 all_goals decide
theorem indexIn_none (F:FuncId) (c:Value) (heg:∀ args W,(callFunc F args).run Tryz.prog W= .ok (.enter F args) W) (A:Nat->Prop) (la:Option Addr) (ln lc:Nat) (l:List Tr) (w:World) (hk:KidsA A w la ln lc l) (hlen:l.length<=1000000)
 (hcall:∀ (y:PN) (z:Tr) W,z∈l->TrIn A W y z->Ext w W->Calls Tryz.prog F #[y.v,c] W fun e w'=>e= .returned (.bool false)/\Ext W w') :
 Calls Tryz.prog 96 #[.slice la ln lc,.func (.func F) #[] #[c]] w fun e w'=>e= .returned (.int .i64 (-1))/\Ext w w':=by
 rcases hk with ⟨rfl,rfl⟩|⟨g,off,L,rfl,rfl,hlc,hL,_,hN,hch,_⟩
 ·clear hcall;go_enter Tryz.func96,Tryz.ntmps96;go_wp2_with fail;go_loopw [8] (fun i wr=>i= .int .i64 0/\Ext w wr) (fun _ _=>0)
  case atStart=>exact ⟨rfl,Ext.refl w⟩
  case round =>
   obtain ⟨rfl,hx⟩:=hrel;have HX:=h_ hx;clear hx;go_wp2_with fail;go_ret;exact ⟨rfl,HX.out⟩
 ·have HN:=h_ hN;have HCh:=h_ hch;have KC:=h_ hcall;have HEg:=h_ heg;have hgl:=hN.1;clear hN hch hcall heg;go_enter Tryz.func96,Tryz.ntmps96;go_wp2_with fail;go_loopw [8] (fun i wr=>∃ k:Nat,k<=l.length/\i= .int .i64 k/\Ext w wr) (fun i _=>l.length - (intOf i).toNat)
  case atStart=>exact ⟨0,Nat.zero_le _,rfl,Ext.refl w⟩
  case round =>
   obtain ⟨k,hk,rfl,hx⟩:=hrel;have HX:=h_ hx;by_cases hlt:k<l.length
   ·have hltI:(k:Int)<(l.length:Int):=by omega
    obtain ⟨y,hy⟩:∃ y,L[k]?=some y:=⟨_,List.getElem?_eq_getElem (by omega)⟩
    obtain ⟨z,hz⟩:∃ z,l[k]?=some z:=⟨_,List.getElem?_eq_getElem hlt⟩
    have hT:=(HCh.out k y z hy hz).ext hx;have KK:=h_ (KC.out y z wr (List.mem_of_getElem? hz) hT hx);obtain ⟨c0,c1,c2,c3,c4,c5⟩:=(HN.out.same (hx.block g hgl) hx.size).at6 hy;have hgw:g<wr.heap.size:=Nat.lt_of_lt_of_le hgl hx.size;obtain ⟨yk,yo,ys,yt,yn,yla,yln,ylc⟩:=y;simp only [PN.v] at KK;simp only at c0 c1 c2 c3 c4 c5;have hcf:=HEg.out;clear hx hT hy hz;go_simp
    repeat (first|go_values|go_skip|go_guarded|go_step|go_upon)
    refine Calls.mono KK.out ?_;rintro e w2 ⟨rfl,hb⟩;have HB:=h_ (Ext.trans HX.out hb);clear hb c0 c1 c2 c3 c4 c5 hcf KK hgw;go_simp
    repeat (first|go_values|go_skip|go_guarded|go_step|go_upon)
    go_roundw
    case rel =>
     refine ⟨u4,.int .i64 k,.int .i64 ((k+1:Nat):Int),⟨k+1,by omega,rfl,HB.out⟩,?_⟩;simp
    case measure=>simp [intOf];omega
   ·obtain rfl:k=l.length:=by omega
    have hltI:¬ (l.length:Int)<(l.length:Int):=by omega
    clear hx;go_wp2_with fail;go_ret;exact ⟨rfl,HX.out⟩
theorem containsIn_none (F:FuncId) (c:Value) (heg:∀ args W,(callFunc F args).run Tryz.prog W= .ok (.enter F args) W) (A:Nat->Prop) (la:Option Addr) (ln lc:Nat) (l:List Tr) (w:World) (hk:KidsA A w la ln lc l) (hlen:l.length<=1000000)
 (hcall:∀ (y:PN) (z:Tr) W,z∈l->TrIn A W y z->Ext w W->Calls Tryz.prog F #[y.v,c] W fun e w'=>e= .returned (.bool false)/\Ext W w') :
 Calls Tryz.prog 50 #[.slice la ln lc,.func (.func F) #[] #[c]] w fun e w'=>e= .returned (.bool false)/\Ext w w':=by
 have HC:=h_ (indexIn_none F c heg A la ln lc l w hk hlen hcall);clear hk hcall heg;go_enter Tryz.func50,Tryz.ntmps50;go_simp
 repeat (first|go_values|go_skip|go_guarded|go_step|go_upon)
 refine HC.out.mono ?_;rintro e w2 ⟨rfl,hb⟩;go_simp
 repeat (first|go_values|go_skip|go_guarded|go_step|go_upon)
 go_returns;exact ⟨rfl,hb⟩
theorem deepIn_any:∀ (d:Nat) (t:Tr) (x:PN) (A:Nat->Prop) (w:World) (most:Int),trD d t=true->trW d t=true->TrIn A w x t->(d:Int)<=most->most<=1000000->Calls Tryz.prog 24 #[x.v,.int .i64 most] w fun e w'=>e= .returned (.bool false)/\Ext w w'
 |0,t,x,A,w,most,h,_,_,_,_=>by simp [trD] at h
 |d+1,.mk k o s t n l,x,A,w,most,h,hW,hT,hm,hm2=>by
  have ih:=deepIn_any d;obtain ⟨_,_,_,_,_,hK⟩:=hT.parts;simp only [trD,List.all_eq_true] at h;simp only [trW,Bool.and_eq_true,decide_eq_true_eq,List.all_eq_true] at hW;obtain ⟨xk,xo,xs,xt,xn,xla,xln,xlc⟩:=x;simp only at hK;simp only [PN.v];have hx0:Ext w ((w.alloc (.cells #[.int .i64 xk,.int .i64 xo,.string xs,.string xt,.int .i64 xn,.slice xla xln xlc] 24)).alloc (.cells #[.int .i64 most] 3)):=((Ext.refl w).alloc _).alloc _;have HB:=h_ (show Blk ((w.alloc (.cells #[.int .i64 xk,.int .i64 xo,.string xs,.string xt,.int .i64 xn,.slice xla xln xlc] 24)).alloc (.cells #[.int .i64 most] 3)) (w.heap.size+1) #[.int .i64 most] 3 from Blk.new (w.alloc (.cells #[.int .i64 xk,.int .i64 xo,.string xs,.string xt,.int .i64 xn,.slice xla xln xlc] 24)) _ _ (by simp));have hne:(most == 0)=false:=by rw [beq_eq_false_iff_ne];omega
  have KC:=h_ (containsIn_none 51 (.pointer (some ⟨w.heap.size+1,0,none⟩)) (fun _ _=>by kernel_rfl) A xla xln xlc l _ (hK.ext hx0) (by omega) fun y z W hz hTy hx =>
   deepclo_any y (w.heap.size+1) most W (HB.out.keep hx) (by omega) fun W2 hx2=>ih z y A W2 (most - 1) (h z hz) (hW.2 z hz) (hTy.ext hx2) (by omega) (by omega))
  have HX0:=h_ hx0;clear h hW hT hK hx0 ih;go_enter Tryz.func24,Tryz.ntmps24;go_simp
  repeat (first|go_values|go_skip|go_guarded|go_step|go_upon)
  refine Calls.mono KC.out ?_;rintro e w2 ⟨rfl,hb⟩;have HB2:=h_ (Ext.trans HX0.out hb);clear hb KC HB HX0;go_simp
  repeat (first|go_values|go_skip|go_guarded|go_step|go_upon)
  go_returns;exact ⟨rfl,HB2.out⟩
theorem greatIn_any:∀ (d:Nat) (l:List Tr) (la:Option Addr) (ln lc:Nat) (A:Nat->Prop) (q:Nat) (v:Int) (w:World),l.all (trD d)=true->(l.length<=100000/\l.all (trW d)=true)->KidsA A w la ln lc l->Blk w q #[.int .i64 v] 3->(cntL (d+1) l:Int)<=v->v<=1000000->(∀ g,A g->g≠q) ->
 Calls Tryz.prog 25 #[.slice la ln lc,.pointer (some ⟨q,0,none⟩)] w fun e w'=>e= .returned (.bool false)/\Blk w' q #[.int .i64 (v - cntL (d+1) l)] 3/\LeP q w w'
 |d,l,la,ln,lc,A,q,v,w,hD,hW,hK,hq,hv,hv2,hA=>by
  rcases hK with ⟨rfl,rfl⟩|⟨g,off,L,rfl,rfl,hlc,hL,hAg,hN,hch,h0⟩
  ·have e0:v - (cntL (d+1) []:Int)=v:=by simp [cntL]
   rw [e0];have HQ:=h_ hq;clear hD hW hq hv hA e0;go_enter Tryz.func25,Tryz.ntmps25;go_wp2_with fail;refine wp_loop_rounds 1 ?_;rw [rounds_succ];go_simp
   repeat (first|go_values|go_skip|go_guarded|go_step|go_upon)
   go_returns;exact ⟨rfl,HQ.out,LeP.refl _ _⟩
  ·match d with
   |0 =>
    exfalso;cases l with
    |nil=>simp at h0
    |cons z l=>simp [trD] at hD
   |d+1 =>
    have HGr:=h_ (greatIn_any d);simp only [List.all_eq_true] at hD hW;have HN:=h_ hN;have HCh:=h_ hch;have HD:=h_ hD;have HWd:=h_ hW;have HA:=h_ hA;have HQ:=h_ hq;have HV:=h_ hv;have hgl:=hN.1;have hgq:=hA g hAg;have hlen:=hW.1;clear hD hW hq hv hA hN hch;obtain ⟨C,hC⟩:∃ C:Int,C=(cntL (d+1+1) l:Int):=⟨_,rfl⟩
    rw [<- hC] at HV |-;have HC:=h_ hC;clear hC;go_enter Tryz.func25,Tryz.ntmps25;go_simp
    repeat (first|go_values|go_skip|go_guarded|go_step|go_upon)
    go_loopw [6,9] (fun _ i wr=>∃ (k:Nat) (vv:Int),k<=l.length/\i= .int .i64 k/\vv=v - C+(cntL (d+1+1) (l.drop k):Int)/\Blk wr q #[.int .i64 vv] 3/\LeP q w wr) (fun _ i _=>l.length - (intOf i).toNat)
    case atStart=>exact ⟨0,v,Nat.zero_le _,rfl,by rw [List.drop_zero,HC.out];omega,HQ.out,LeP.refl _ _⟩
    case round =>
     obtain ⟨k,vv,hk,rfl,hvv,hb,hl⟩:=hrel;have HB:=h_ hb;have HL:=h_ hl;have HVV:=h_ hvv;clear hb hl hvv;by_cases hlt:k<l.length
     ·have hltI:(k:Int)<(l.length:Int):=by omega
      obtain ⟨y,hy⟩:∃ y,L[k]?=some y:=⟨_,List.getElem?_eq_getElem (by omega)⟩
      obtain ⟨z,hz⟩:∃ z,l[k]?=some z:=⟨_,List.getElem?_eq_getElem hlt⟩
      have hdrop:=cntL_drop (d+1) l k z hz;obtain ⟨zk,zo,zs,zt,zn,zl⟩:=z;simp only [kidsT] at hdrop;have hvv:=HVV.out;have hvC:=HV.out;rw [hdrop] at hvv;have HVD:=h_ hvv;have hc1:(cntL (d+1) zl:Int)<=vv - 1:=by omega
      have hc2:vv<=1000000:=by
       have:C<=v:=hvC;have h3:=HC.out;have:(cntL (d+1+1) (l.drop k):Int)<=C:=by
        rw [h3];exact Int.ofNat_le.2 (cntL_drop_le (d+1) l k)
       omega
      have hsub:=IntWalk.i64_in (vv - 1) (by omega);have hnn:¬ (vv - 1<0):=by omega
      have hTk:=(HCh.out k y _ hy hz).later HA.out HL.out;obtain ⟨_,_,_,_,_,hKz⟩:=hTk.parts;obtain ⟨c0,c1,c2,c3,c4,c5⟩:=(HN.out.same (HL.out.old g hgl hgq) HL.out.size).at6 hy;have hgw:g<wr.heap.size:=Nat.lt_of_lt_of_le hgl HL.out.size;obtain ⟨cq,fq⟩:=HB.out.facts;have hql:=HB.out.lt;have hzm:=List.mem_of_getElem? hz;have hDz:=HD.out _ hzm;have hWz:=HWd.out.2 _ hzm;simp only [trD,List.all_eq_true] at hDz;simp only [trW,Bool.and_eq_true,decide_eq_true_eq,List.all_eq_true] at hWz;have KG:=h_ (fun W (hx:LeP q wr W) (hB:Blk W q #[.int .i64 (vv - 1)] 3)=>HGr.out zl y.la y.ln y.lc A q (vv - 1) W (by simpa [List.all_eq_true] using hDz) ⟨hWz.1,by simpa [List.all_eq_true] using hWz.2⟩ (hKz.later HA.out hx) hB hc1 (by omega) HA.out);obtain ⟨yk,yo,ys,yt,yn,yla,yln,ylc⟩:=y;simp only at c0 c1 c2 c3 c4 c5 KG;clear hTk hKz hy hz hDz hWz hzm hdrop hvv hvC;go_simp
      repeat (first|go_values|go_skip|go_guarded|go_step|go_upon)
      refine Calls.mono (KG.out _ ((LeP.set 0 (.int .i64 (vv - 1))).trans (LeP.ofExt ((Ext.refl _).alloc _))) ((HB.out.set 0 _).keep ((Ext.refl _).alloc _))) ?_;rintro e w2 ⟨rfl,hb2,hl2⟩;have HB2:=h_ hb2;have HL2:=h_ ((HL.out.trans ((LeP.set 0 (.int .i64 (vv - 1))).trans (LeP.ofExt ((Ext.refl _).alloc _)))).trans hl2);clear hb2 hl2 c0 c1 c2 c3 c4 c5 cq fq hql HB HL KG;go_simp
      repeat (first|go_values|go_skip|go_guarded|go_step|go_upon)
      go_roundw
      case rel =>
       refine ⟨u4,.pointer (some ⟨wr.heap.size,0,none⟩),.int .i64 ((k+1:Nat):Int),⟨k+1,by omega,rfl,?_,HL2.out⟩,by simp⟩;have:=HVD.out;rw [show v - C+(cntL (d+1+1) (l.drop (k+1)):Int)=vv - 1 - (cntL (d+1) zl:Int) by omega];exact HB2.out
      case measure=>simp [intOf];omega
     ·obtain rfl:k=l.length:=by omega
      have hltI:¬ (l.length:Int)<(l.length:Int):=by omega
      have e1:vv=v - C:=by
       have:=HVV.out;rw [List.drop_length] at this;simpa [cntL] using this
      go_simp
      repeat (first|go_values|go_skip|go_guarded|go_step|go_upon)
      go_returns;rw [<- e1];exact ⟨rfl,HB.out,HL.out⟩
theorem equalIn_any (A B:Nat->Prop) (la lb:Option Addr) (ln lc ln2 lc2:Nat) (l1 l2:List Tr) (w:World) (hk:KidsA A w la ln lc l1) (hk2:KidsA B w lb ln2 lc2 l2) (hlen:l1.length<=20)
 (hcall:∀ (z1 z2:Tr) (y1 y2:PN) W,z1∈l1->z2∈l2->TrIn A W y1 z1->TrIn B W y2 z2->Ext w W->Calls Tryz.prog 28 #[y1.v,y2.v] W (SamePost z1 z2 W)) :
 Calls Tryz.prog 58 #[.slice la ln lc,.slice lb ln2 lc2,.func (.func 28) #[] #[]] w fun e w'=>e= .returned (.bool (eqTs l1 l2))/\Ext w w':=by
 have hcf:∀ args W,(callFunc 28 args).run Tryz.prog W= .ok (.enter 28 args) W:=fun _ _=>by kernel_rfl
 have HLn:=h_ hk.len;have HLn2:=h_ hk2.len;have HK:=h_ hk;have HK2:=h_ hk2;have KC:=h_ hcall;have HLe:=h_ hlen;obtain ⟨R,hR⟩:∃ R,R=eqTs l1 l2:=⟨_,rfl⟩
 rw [<- hR];have HR:=h_ hR;clear hk hk2 hlen hcall hR;by_cases hne:ln=ln2
 ·subst hne;go_enter Tryz.func58,Tryz.ntmps58;go_simp
  repeat (first|go_values|go_skip|go_guarded|go_step|go_upon)
  go_loopg [7,8,9,17] ln (fun jj _ _ _ ix wr=>∃ (j:Nat),ix= .int .i64 j/\j+jj=ln/\Ext w wr/\l1.take j=l2.take j)
  case atStart=>exact ⟨0,rfl,by omega,Ext.refl w,by simp⟩
  case round =>
   obtain ⟨j,rfl,hj,hx,ht⟩:=hrel;have HX:=h_ hx;have HT:=h_ ht;clear hx ht;by_cases hlt:j<ln
   ·obtain ⟨jj,rfl⟩:∃ jj,gk=jj+1:=⟨gk - 1,by omega⟩
    have hltI:(j:Int)<(ln:Int):=by omega
    obtain ⟨g1,off1,y1,z1,hla,hz1,hTy1,hgl1,hAg1,hlc1,p0,p1,p2,p3,p4,p5⟩:=(HK.out.ext HX.out).get j (by have:=HLn.out;omega);obtain ⟨g2,off2,y2,z2,hlb,hz2,hTy2,hgl2,hAg2,hlc2,q0,q1,q2,q3,q4,q5⟩:=(HK2.out.ext HX.out).get j (by have:=HLn2.out;omega);have hj20:ln<=20:=by have:=HLn.out;have:=HLe.out;omega
    have hlc1:ln<=lc:=by have:=HLn.out;omega
    have hlc2:ln<=lc2:=by have:=HLn2.out;omega
    have KK:=h_ (fun W (hW:Ext wr W)=>KC.out z1 z2 y1 y2 W (List.mem_of_getElem? hz1) (List.mem_of_getElem? hz2) (hTy1.ext hW) (hTy2.ext hW) (Ext.trans HX.out hW));obtain ⟨E,hE⟩:∃ E,E=eqT z1 z2:=⟨_,rfl⟩
    unfold SamePost at KK;rw [<- hE] at KK;have HE:=h_ hE;have HZ:=h_ (And.intro hz1 hz2);obtain ⟨k1,o1,s1,t1,n1,a1,m1,c1⟩:=y1;obtain ⟨k2,o2,s2,t2,n2,a2,m2,c2⟩:=y2;simp only [PN.v] at KK;simp only at p0 p1 p2 p3 p4 p5 q0 q1 q2 q3 q4 q5;subst hla hlb;clear hTy1 hTy2 hz1 hz2 hE hAg1 hAg2;go_simp
    repeat (first|go_values|go_skip|go_guarded|go_step|go_upon)
    refine Calls.mono (KK.out _ (((Ext.refl wr).alloc _).alloc _)) ?_;rintro e w2 ⟨rfl,hb⟩;have HX2:=h_ (Ext.trans HX.out (Ext.trans (((Ext.refl wr).alloc _).alloc _) hb));clear hb p0 p1 p2 p3 p4 p5 q0 q1 q2 q3 q4 q5 KK hgl1 hgl2;have HE2:=h_ ((eqT_iff z1 z2));rw [<- HE.out] at HE2;cases E
    ·go_simp
     repeat (first|go_values|go_skip|go_guarded|go_step|go_upon)
     go_returns;refine ⟨congrArg (fun b=>Ending.returned (.bool b)) ?_,HX2.out⟩;rw [HR.out];refine (eqTs_false fun e=>?_).symm;subst e;have:=HE2.out.2 (by have h1:=HZ.out.1;have h2:=HZ.out.2;rw [h1] at h2;exact Option.some.inj h2);cases this
    ·go_simp
     repeat (first|go_values|go_skip|go_guarded|go_step|go_upon)
     go_roundg jj
     case measure=>omega
     case rel=>exact ⟨j+1,by simp,by omega,HX2.out,take_eq_next HT.out HZ.out.1 HZ.out.2 (HE2.out.1 rfl)⟩
   ·have hltI:¬ (j:Int)<(ln:Int):=by omega
    go_simp
    repeat (first|go_values|go_skip|go_guarded|go_step|go_upon)
    go_returns;refine ⟨congrArg (fun b=>Ending.returned (.bool b)) ?_,HX.out⟩;rw [HR.out];refine ((eqTs_iff l1 l2).2 ?_).symm;have h:=HT.out;rw [List.take_of_length_le (by have:=HLn.out;omega),List.take_of_length_le (by have:=HLn2.out;omega)] at h;exact h
 ·have b1:¬ (ln:Int)=(ln2:Int):=by omega
  have b2:((ln:Int) !=(ln2:Int))=true:=by rw [bne_iff_ne];exact b1
  have b3:(ln !=ln2)=true:=by rw [bne_iff_ne];exact hne
  go_enter Tryz.func58,Tryz.ntmps58;go_simp
  repeat (first|go_values|go_skip|go_guarded|go_step|go_upon)
  go_returns;refine ⟨congrArg (fun b=>Ending.returned (.bool b)) ?_,Ext.refl w⟩;rw [HR.out];refine (eqTs_false fun e=>?_).symm;subst e;exact hne (HLn.out.trans HLn2.out.symm)
theorem same_any {d:Nat} {t1:Tr} (h:SmT d t1):∀ (t2:Tr) (x y:PN) (A B:Nat->Prop) (w:World),TrIn A w x t1->TrIn B w y t2->Calls Tryz.prog 28 #[x.v,y.v] w (SamePost t1 t2 w):=by
 induction h with
 |mk d k1 o1 s1 t1 n1 l1 hd hn hl hs ht hch ih =>
  intro t2 x y A B w hx hy;obtain ⟨k2,o2,s2,t2,n2,l2⟩:=t2;obtain ⟨h1,h2,h3,h4,h5,hK⟩:=hx.parts;obtain ⟨g1,g2,g3,g4,g5,hK2⟩:=hy.parts;obtain ⟨xk,xo,xs,xt,xn,xla,xln,xlc⟩:=x;obtain ⟨yk,yo,ys,yt,yn,yla,yln,ylc⟩:=y;simp only at h1 h2 h3 h4 h5 g1 g2 g3 g4 g5 hK hK2;subst h1 h2 h5 g1 g2 g5;simp only [PN.v];have e1:(xs.toList == ys.toList)=(s1 == s2):=by
   rw [Bool.eq_iff_iff,Go.Lib.bytes_beq_iff,beq_iff_eq,h3,g3];simp
  have e2:(xt.toList == yt.toList)=(t1 == t2):=by
   rw [Bool.eq_iff_iff,Go.Lib.bytes_beq_iff,beq_iff_eq,h4,g4];simp
  have hq:=eqT_mk xk xo xn s1 t1 l1 yk yo yn s2 t2 l2;rw [<- e1,<- e2] at hq;have HQ:=h_ hq;obtain ⟨T1,hT1⟩:∃ T,T=Tr.mk xk xo s1 t1 xn l1:=⟨_,rfl⟩
  obtain ⟨T2,hT2⟩:∃ T,T=Tr.mk yk yo s2 t2 yn l2:=⟨_,rfl⟩
  rw [<- hT1,<- hT2] at HQ |-;have hx0:Ext w ((w.alloc (.cells #[.int .i64 xk,.int .i64 xo,.string xs,.string xt,.int .i64 xn,.slice xla xln xlc] 24)).alloc (.cells #[.int .i64 yk,.int .i64 yo,.string ys,.string yt,.int .i64 yn,.slice yla yln ylc] 24)):=((Ext.refl w).alloc _).alloc _;have KE:=h_ (equalIn_any A B xla yla xln xlc yln ylc l1 l2 _ (hK.ext hx0) (hK2.ext hx0) hl fun z1 z2 y1 y2 W hz1 hz2 a b _=>ih z1 hz1 z2 y1 y2 A B W a b);have HX0:=h_ hx0;clear hx hy hK hK2 hx0 ih hq e1 e2 h3 h4 g3 g4 hT1 hT2 hch hd hn hl hs ht;have b0:xk=yk ∨ (xk == yk)=false:=by by_cases h:xk=yk<;>simp [h]
  rcases b0 with rfl|b0
  rotate_left
  ·have c0:¬ xk=yk:=by simpa using b0
   have c1:decide (xk=yk)=false:=by simpa using b0
   rw [b0] at HQ;go_enter Tryz.func28,Tryz.ntmps28;go_simp
   repeat (first|go_values|go_skip|go_guarded|go_step|go_upon)
   go_returns;exact same_fin (by rw [HQ.out];rfl) HX0.out
  have b0:xo=yo ∨ (xo == yo)=false:=by by_cases h:xo=yo<;>simp [h]
  rcases b0 with rfl|b0
  rotate_left
  ·have c0:¬ xo=yo:=by simpa using b0
   have c1:decide (xo=yo)=false:=by simpa using b0
   rw [b0] at HQ;go_enter Tryz.func28,Tryz.ntmps28;go_simp
   repeat (first|go_values|go_skip|go_guarded|go_step|go_upon)
   go_returns;exact same_fin (by rw [HQ.out];simp) HX0.out
  have b0:xs=ys ∨ (xs.toList == ys.toList)=false:=by
   rw [Go.Lib.bytes_beq_false_iff];exact Classical.em _
  rcases b0 with rfl|b0
  rotate_left
  ·rw [b0] at HQ;go_enter Tryz.func28,Tryz.ntmps28;go_simp
   repeat (first|go_values|go_skip|go_guarded|go_step|go_upon)
   go_returns;exact same_fin (by rw [HQ.out];simp) HX0.out
  have b0:xt=yt ∨ (xt.toList == yt.toList)=false:=by
   rw [Go.Lib.bytes_beq_false_iff];exact Classical.em _
  rcases b0 with rfl|b0
  rotate_left
  ·rw [b0] at HQ;go_enter Tryz.func28,Tryz.ntmps28;go_simp
   repeat (first|go_values|go_skip|go_guarded|go_step|go_upon)
   go_returns;exact same_fin (by rw [HQ.out];simp) HX0.out
  have b0:xn=yn ∨ (xn == yn)=false:=by by_cases h:xn=yn<;>simp [h]
  rcases b0 with rfl|b0
  rotate_left
  ·have c0:¬ xn=yn:=by simpa using b0
   have c1:decide (xn=yn)=false:=by simpa using b0
   rw [b0] at HQ;go_enter Tryz.func28,Tryz.ntmps28;go_simp
   repeat (first|go_values|go_skip|go_guarded|go_step|go_upon)
   go_returns;exact same_fin (by rw [HQ.out];simp) HX0.out
  have HQ2:=h_ (show eqTs l1 l2=eqT T1 T2 by rw [HQ.out];simp);clear HQ;go_enter Tryz.func28,Tryz.ntmps28;go_simp
  repeat (first|go_values|go_skip|go_guarded|go_step|go_upon)
  refine Calls.mono KE.out ?_;rintro e w2 ⟨rfl,hb⟩;have HB:=h_ (Ext.trans HX0.out hb);clear hb KE HX0;generalize eqTs l1 l2=E at HQ2 |-;go_simp
  repeat (first|go_values|go_skip|go_guarded|go_step|go_upon)
  go_returns;exact same_fin HQ2.out HB.out
end Go.Proofs.YtimeipjcmffadaaGreatDoor
