import Derived.Lib.SmallJoins
import Derived.Test.YtimeipjcmffadaaGreatDoorCards
import Derived.Test.YtimeipjcmffadaaGreatDoorTie
import Derived.Test.YtimeipjcmffadaaGreatDoorProg
import Derived.ProofKit
import Derived.OpenShut
import Derived.Lay
import Derived.LaidLaws
import Derived.Deep.DeepHandedRow
import Derived.ChangeSlices
import Derived.Carry
import Derived.ChangeMaps5
import Derived.Lib.LaidU8T
import Derived.Lib.LaidIn
import Derived.Test.YtimeipjcmffadaaGreatDoorPrintA
import Derived.Test.YtimeipjcmffadaaGreatDoorShelf
set_option maxHeartbeats 16000000
namespace Go.Proofs.YtimeipjcmffadaaGreatDoor
open Go.RowKit Go.Lib
set_option maxRecDepth 100000
structure GlobP (w:World):Prop where
 g:Glob w
 pow:Lib.TabIs Tryz.prog w "internal/strconv.uint64pow10" .u64 Lib.pow10Tab
 range:∃ tp p,w.var? Tryz.prog "strconv.ErrRange" = some #[.iface tp p]
theorem globalPow:Tryz.prog.globalNamed "internal/strconv.uint64pow10" = some 3:=by kernel_rfl
theorem globalRangeP:Tryz.prog.globalNamed "strconv.ErrRange" = some 6:=by kernel_rfl
theorem GlobP.keep {w w':World} (h:GlobP w) (hb:Below w.heap.size w w'):GlobP w':=by
 obtain ⟨tp,p,hr⟩:=h.range;exact ⟨h.g.keep hb,Joins.tab_stays globalPow h.pow hb (Nat.le_refl _),⟨tp,p,Joins.var_stays globalRangeP hr hb (Nat.le_refl _)⟩⟩
theorem below_num (w:World) (q:Nat) (os:Array Obj):Below w.heap.size w (Sort.grow (w.drewN q) os) :=
 ⟨rfl,rfl,rfl,by first|(simp [Sort.grow];done)|(simp [Sort.grow];omega),fun i hi=>by
  show ((w.drewN q).heap++os)[i]?=_;rw [Array.getElem?_append_left (by show i<w.heap.size;omega)];rfl⟩
theorem itext_any (n:Int) (w:World) (hn:InR n) (hG:GlobP w) :
 Calls Tryz.prog 166 #[.int .i64 n] w fun e w'=>e= .returned (.string ⟨(Lib.itoa n).toArray⟩)/\Below w.heap.size w w':=by
 have HK:=h_ (Tryz.strconv_FormatInt_10 n hn.1 hn.2 w hG.pow);go_enter Tryz.func166,Tryz.ntmps166;go_wp2_with fail;refine HK.out.mono ?_;rintro e w' ⟨rfl,k,os,rfl⟩;have hb:=h_ (below_num w k os);generalize Sort.grow (w.drewN k) os=w' at hb |-;go_wp2_with fail;go_ret;exact ⟨rfl,hb.out⟩
theorem toList_nil {s:ByteArray}:(s.toList == [])=true↔bsl s=[]:=by
 rw [ByteArray.toList_eq,beq_iff_eq];rfl
theorem cl_of (k n:Int) (s:ByteArray) (hn:InR n):Cl (cK k n s,cN k n s,bsl (cS k n s)):=by
 unfold cK cN cS;cases h:vOk k n s
 ·exact .inl ⟨rfl,rfl,rfl⟩
 ·simp only [if_true];unfold vOk at h;split at h
  ·rename_i hk;subst hk;rw [Bool.and_eq_true,beq_iff_eq] at h;exact .inl ⟨rfl,h.1,toList_nil.1 h.2⟩
  ·split at h
   ·rename_i hk;subst hk;rw [Bool.and_eq_true,Bool.or_eq_true,beq_iff_eq,beq_iff_eq] at h;exact .inr (.inl ⟨rfl,h.1,toList_nil.1 h.2⟩)
   ·split at h
    ·rename_i hk;subst hk;exact .inr (.inr (.inl ⟨rfl,hn,toList_nil.1 h⟩))
    ·rw [Bool.and_eq_true,beq_iff_eq,beq_iff_eq] at h;exact .inr (.inr (.inr ⟨h.1,h.2⟩))
theorem cS_le (k n:Int) (s:ByteArray):(cS k n s).size<=s.size:=by
 unfold cS;split
 ·exact Nat.le_refl _
 ·exact Nat.zero_le _
theorem cS_text (k n:Int) (s:ByteArray) (h:cK k n s=3):cS k n s=s:=by
 unfold cK at h;unfold cS;by_cases hok:vOk k n s=true
 ·rw [if_pos hok]
 ·rw [if_neg hok] at h;cases h
def prS (k n:Int) (s:ByteArray):ByteArray:=⟨(prB (cK k n s,cN k n s,bsl (cS k n s))).toArray⟩
theorem ret_vP {t:Tmp} {fn:Func} (h:fn.results= #[.cell t 41]) (tmps:Array Value) {w:World} {g:Nat} {cs:Array Value} (hc:cs.size=3) (hp:tmps.getD t undef= .pointer (some ⟨g,0,none⟩)) (hg:Blk w g cs 41) :
 (results fn tmps).run Tryz.prog w= .ok (.agg cs) w:=by
 have hp':tmps[t]?.getD undef= .pointer (some ⟨g,0,none⟩):=by simpa using hp
 have hr:=run_loadVar_row w g 41 41 cs (0,0) _ hg Tryz.underlying41 rfl (by rw [hc];kernel_rfl);simp [results,h,hp',asAddr,hr]
theorem refcleanP_any (k n:Int) (s:ByteArray) (w:World):Calls Tryz.prog 78 #[vV k n s] w fun e w'=>e= .returned (vV (cK k n s) (cN k n s) (cS k n s))/\Below w.heap.size w w':=by
 have KO:=h_ (refok_any k n s);unfold cK cN cS;cases h:vOk k n s
 ·rw [h] at KO;rw [if_neg (by simp),if_neg (by simp),if_neg (by simp)];rw [show vV k n s= .agg #[.int .i64 k,.int .i64 n,.string s] from rfl] at KO |-;rw [show vV 0 0 emp= .agg #[.int .i64 0,.int .i64 0,.string ⟨#[]⟩] from rfl];go_enter Tryz.func78,Tryz.ntmps78;go_wp2_with fail;have hR:=Blk.new (w.alloc (.cells #[.int .i64 k,.int .i64 n,.string s] 41)) #[.int .i64 0,.int .i64 0,.string ⟨#[]⟩] 41 (n:=w.heap.size+1) (by simp);have hx0:=((Ext.refl w).alloc (.cells #[.int .i64 k,.int .i64 n,.string s] 41)).alloc (.cells #[.int .i64 0,.int .i64 0,.string ⟨#[]⟩] 41);refine Calls.mono (KO.out _) ?_;rintro e w2 ⟨rfl,hb2⟩;have HR:=h_ (hR.keep hb2);have HX:=h_ (Ext.trans hx0 hb2);obtain ⟨cr,fr⟩:=(hR.keep hb2).facts;have hrl:=(hR.keep hb2).lt;clear hR hx0 hb2;go_simp
  repeat (first|go_values|go_skip|go_guarded|go_step|go_upon)
  refine bodyPost_ret (ret_vP rfl _ rfl rfl (blk3 HR.out _ _ _)) rfl ?_;exact ⟨rfl,below3 (show Below w.heap.size w w2 from HX.out) (by simp) _ _ _⟩
 ·rw [h] at KO;rw [if_pos rfl,if_pos rfl,if_pos rfl];rw [show vV k n s= .agg #[.int .i64 k,.int .i64 n,.string s] from rfl] at KO |-;go_enter Tryz.func78,Tryz.ntmps78;go_wp2_with fail;have hA:=(Blk.new w #[.int .i64 k,.int .i64 n,.string s] 41 rfl).alloc (.cells #[.int .i64 0,.int .i64 0,.string ⟨#[]⟩] 41);have hR:=Blk.new (w.alloc (.cells #[.int .i64 k,.int .i64 n,.string s] 41)) #[.int .i64 0,.int .i64 0,.string ⟨#[]⟩] 41 (n:=w.heap.size+1) (by simp);have hx0:=((Ext.refl w).alloc (.cells #[.int .i64 k,.int .i64 n,.string s] 41)).alloc (.cells #[.int .i64 0,.int .i64 0,.string ⟨#[]⟩] 41);refine Calls.mono (KO.out _) ?_;rintro e w2 ⟨rfl,hb2⟩;have HR:=h_ (hR.keep hb2);have HX:=h_ (Ext.trans hx0 hb2);obtain ⟨cr,fr⟩:=(hR.keep hb2).facts;have hrl:=(hR.keep hb2).lt;obtain ⟨ca,fa⟩:=(hA.keep hb2).facts;clear hA hR hx0 hb2;go_simp
  repeat (first|go_values|go_skip|go_guarded|go_step|go_upon)
  refine bodyPost_ret (ret_vP rfl _ rfl rfl (blk3 HR.out _ _ _)) rfl ?_;exact ⟨rfl,below3 (show Below w.heap.size w w2 from HX.out) (by simp) _ _ _⟩
theorem valprint_any (k n:Int) (s:ByteArray) (w:World) (hn:InR n) (hs:s.size<=4000) (hG:∀ W,Ext w W->GlobP W) :
 Calls Tryz.prog 165 #[vV k n s] w fun e w'=>e= .returned (.string (prS k n s))/\Below w.heap.size w w':=by
 have HG:=h_ hG;clear hG;have KI:=h_ (valis_any k n s);have hcl:=cl_of k n s hn;have hle:=cS_le k n s;unfold prS;generalize cK k n s=K at KI hcl |-;generalize cN k n s=M at KI hcl |-;generalize cS k n s=T at KI hcl hle |-;simp only [vV] at KI |-;rcases hcl with ⟨h1,h2,h3⟩|⟨h1,h2,h3⟩|⟨h1,h2,h3⟩|⟨h1,h2⟩
 ·simp only at h1 h2;subst h1 h2;go_enter Tryz.func165,Tryz.ntmps165;go_wp2_with fail;refine Calls.mono (KI.out _) ?_;rintro e w1 ⟨rfl,hb⟩;have hA:=(Blk.new w #[.int .i64 k,.int .i64 n,.string s] 41 rfl).keep hb;have hB0:Below w.heap.size w w1:=Below.trans (by go_grown) (hb.mono (by simp));have HA:=h_ hA;have HB:=h_ hB0;obtain ⟨ca,fa⟩:=hA.facts;clear hA hb hB0;go_simp
  repeat (first|go_values|go_skip|go_guarded|go_step|go_upon)
  go_ret;exact ⟨by simp [prB,nullL],below3 HB.out (Nat.le_refl _) _ _ _⟩
 ·simp only at h1 h2;subst h1;rcases h2 with rfl|rfl
  all_goals
   go_enter Tryz.func165,Tryz.ntmps165;go_wp2_with fail;refine Calls.mono (KI.out _) ?_;rintro e w1 ⟨rfl,hb⟩;have hA:=(Blk.new w #[.int .i64 k,.int .i64 n,.string s] 41 rfl).keep hb;have hB0:Below w.heap.size w w1:=Below.trans (by go_grown) (hb.mono (by simp));have HA:=h_ hA;have HB:=h_ hB0;obtain ⟨ca,fa⟩:=hA.facts;clear hA hb hB0;go_simp
   repeat (first|go_values|go_skip|go_guarded|go_step|go_upon)
   go_ret;exact ⟨by simp [prB,trueL,falseL],below3 HB.out (Nat.le_refl _) _ _ _⟩
 ·simp only at h1 h2;subst h1;have HM:=h_ h2;clear h2;go_enter Tryz.func165,Tryz.ntmps165;go_wp2_with fail;refine Calls.mono (KI.out _) ?_;rintro e w1 ⟨rfl,hb⟩;have hA:=(Blk.new w #[.int .i64 k,.int .i64 n,.string s] 41 rfl).keep hb;have hB0:Below w.heap.size w w1:=Below.trans (by go_grown) (hb.mono (by simp));have HA:=h_ hA;have HB:=h_ hB0;obtain ⟨ca,fa⟩:=hA.facts;clear hA hb hB0;go_simp
  repeat (first|go_values|go_skip|go_guarded|go_step|go_upon)
  refine Calls.mono (itext_any M _ HM.out (HG.out _ (below3 HB.out (Nat.le_refl _) _ _ _))) ?_;rintro e w2 ⟨rfl,hb2⟩;have HB2:=h_ (Below.trans (below3 HB.out (Nat.le_refl _) (.int .i64 2) (.int .i64 M) (.string T)) (hb2.mono (below3 HB.out (Nat.le_refl _) (.int .i64 2) (.int .i64 M) (.string T)).size));clear hb2;go_simp
  repeat (first|go_values|go_skip|go_guarded|go_step|go_upon)
  go_ret;exact ⟨by simp [prB],HB2.out⟩
 ·simp only at h1 h2;subst h1 h2;go_enter Tryz.func165,Tryz.ntmps165;go_wp2_with fail;refine Calls.mono (KI.out _) ?_;rintro e w1 ⟨rfl,hb⟩;have hA:=(Blk.new w #[.int .i64 k,.int .i64 n,.string s] 41 rfl).keep hb;have hB0:Below w.heap.size w w1:=Below.trans (by go_grown) (hb.mono (by simp));have HA:=h_ hA;have HB:=h_ hB0;obtain ⟨ca,fa⟩:=hA.facts;clear hA hb hB0;go_simp
  repeat (first|go_values|go_skip|go_guarded|go_step|go_upon)
  have hx3:=below3 HB.out (Nat.le_refl _) (.int .i64 3) (.int .i64 0) (.string T);have HX3:=h_ hx3;have HG3:=h_ (HG.out _ hx3).g.its;clear ca fa hx3;generalize (((w1.setCell ⟨w.heap.size,0,none⟩ (.int .i64 3)).setCell ⟨w.heap.size,1,none⟩ (.int .i64 0)).setCell ⟨w.heap.size,2,none⟩ (.string T))=W3 at HX3 HG3 |-;obtain ⟨m,hm3,_⟩:=HG3.out;have hcn:=Lib.countB_le ⟨#[39]⟩ (by decide) T.size T (Nat.le_refl _);refine Calls.mono (Tryz.strings_ReplaceAll T ⟨#[39]⟩ ⟨#[39,39]⟩ m W3 (by omega) hm3 (by decide) (by rw [show (ByteArray.mk #[39,39]).size=2 from rfl];omega)) ?_;rintro e w4 ⟨rfl,hb4⟩;have HB4:=h_ (HX3.out.trans (hb4.mono HX3.out.size));clear hb4 hm3 hcn;rw [show Lib.replaceAll T.data.toList (ByteArray.mk #[39]).data.toList (ByteArray.mk #[39,39]).data.toList=escQ (bsl T) from replaceAll_q _];have hq:=escQ_len (bsl T);rw [bsl_length] at hq;have hq2:(escQ (bsl T)).length<=8000:=by omega
  clear hq;go_wp2_with fail;go_ret;exact ⟨congrArg (fun x=>Ending.returned (.string x)) (ba_ext (by simp [prB])),HB4.out⟩
theorem ext1 (s:ByteArray) (k:Nat) (h:k<s.size):s.extract k (k+1)=⟨#[s[k]'h]⟩:=by
 refine ba_ext ?_;rw [Lib.extract_data];have hd:=bsl_dropZ s k h;unfold bsl at hd;rw [hd];simp
theorem escQ_take (l:List UInt8) (k:Nat) (c:UInt8) (h:l[k]?=some c):escQ (l.take (k+1))=escQ (l.take k)++(if c=39 then [39,39] else [c]):=by
 have hk:=(List.getElem?_eq_some_iff.1 h).1;rw [List.take_succ_eq_append_getElem hk,escQ_append];have:l[k]=c:=by rw [List.getElem?_eq_getElem hk] at h;exact Option.some.inj h
 rw [this];congr 1;by_cases hc:c=39
 ·subst hc;rfl
 ·rw [escQ_c c [] hc,if_neg hc];rfl
theorem refprint_any (k n:Int) (s:ByteArray) (w:World) (hn:InR n) (hs:s.size<=4000) :
 Calls Tryz.prog 42 #[vV k n s] w fun e w'=>e= .returned (.string (prS k n s))/\Below w.heap.size w w':=by
 have KI:=h_ (refcleanP_any k n s);have hcl:=cl_of k n s hn;have hle:=cS_le k n s;unfold prS;generalize cK k n s=K at KI hcl |-;generalize cN k n s=M at KI hcl |-;generalize cS k n s=T at KI hcl hle |-;simp only [vV] at KI |-;rcases hcl with ⟨h1,h2,h3⟩|⟨h1,h2,h3⟩|⟨h1,h2,h3⟩|⟨h1,h2⟩
 ·simp only at h1 h2;subst h1 h2;go_enter Tryz.func42,Tryz.ntmps42;go_wp2_with fail;refine Calls.mono (KI.out _) ?_;rintro e w1 ⟨rfl,hb⟩;have hA:=(Blk.new w #[.int .i64 k,.int .i64 n,.string s] 41 rfl).keep hb;have hB0:Below w.heap.size w w1:=Below.trans (by go_grown) (hb.mono (by simp));have HA:=h_ hA;have HB:=h_ hB0;obtain ⟨ca,fa⟩:=hA.facts;clear hA hb hB0;go_simp
  repeat (first|go_values|go_skip|go_guarded|go_step|go_upon)
  go_ret;exact ⟨by simp [prB,nullL],below3 HB.out (Nat.le_refl _) _ _ _⟩
 ·simp only at h1 h2;subst h1;rcases h2 with rfl|rfl
  all_goals
   go_enter Tryz.func42,Tryz.ntmps42;go_wp2_with fail;refine Calls.mono (KI.out _) ?_;rintro e w1 ⟨rfl,hb⟩;have hA:=(Blk.new w #[.int .i64 k,.int .i64 n,.string s] 41 rfl).keep hb;have hB0:Below w.heap.size w w1:=Below.trans (by go_grown) (hb.mono (by simp));have HA:=h_ hA;have HB:=h_ hB0;obtain ⟨ca,fa⟩:=hA.facts;clear hA hb hB0;go_simp
   repeat (first|go_values|go_skip|go_guarded|go_step|go_upon)
   go_ret;exact ⟨by simp [prB,trueL,falseL],below3 HB.out (Nat.le_refl _) _ _ _⟩
 ·simp only at h1 h2;subst h1;have HM:=h_ h2;clear h2;go_enter Tryz.func42,Tryz.ntmps42;go_wp2_with fail;refine Calls.mono (KI.out _) ?_;rintro e w1 ⟨rfl,hb⟩;have hA:=(Blk.new w #[.int .i64 k,.int .i64 n,.string s] 41 rfl).keep hb;have hB0:Below w.heap.size w w1:=Below.trans (by go_grown) (hb.mono (by simp));have HA:=h_ hA;have HB:=h_ hB0;obtain ⟨ca,fa⟩:=hA.facts;clear hA hb hB0;go_simp
  repeat (first|go_values|go_skip|go_guarded|go_step|go_upon)
  refine Calls.mono (reftextZ_any M _ HM.out) ?_;rintro e w2 ⟨rfl,rfl⟩;go_simp
  repeat (first|go_values|go_skip|go_guarded|go_step|go_upon)
  go_ret;exact ⟨by simp [prB],below3 HB.out (Nat.le_refl _) _ _ _⟩
 ·simp only at h1 h2;subst h1 h2;go_enter Tryz.func42,Tryz.ntmps42;go_wp2_with fail;refine Calls.mono (KI.out _) ?_;rintro e w1 ⟨rfl,hb⟩;have hA:=(Blk.new w #[.int .i64 k,.int .i64 n,.string s] 41 rfl).keep hb;have hB0:Below w.heap.size w w1:=Below.trans (by go_grown) (hb.mono (by simp));have HA:=h_ hA;have HB:=h_ hB0;obtain ⟨ca,fa⟩:=hA.facts;clear hA hb hB0;go_simp
  repeat (first|go_values|go_skip|go_guarded|go_step|go_upon)
  have hx3:=below3 HB.out (Nat.le_refl _) (.int .i64 3) (.int .i64 0) (.string T);have hA3:=blk3 HA.out (.int .i64 3) (.int .i64 0) (.string T);have HX3:=h_ hx3;obtain ⟨c3,_⟩:=hA3.facts;clear ca fa hx3 hA3;generalize (((w1.setCell ⟨w.heap.size,0,none⟩ (.int .i64 3)).setCell ⟨w.heap.size,1,none⟩ (.int .i64 0)).setCell ⟨w.heap.size,2,none⟩ (.string T))=W3 at HX3 c3 |-;go_loop [3,4] (fun t i=>∃ (j:Nat) (a:ByteArray),j<=T.size/\i= .int .i64 j/\t= .string a/\a.data.toList=39::escQ ((bsl T).take j)) (fun _ i=>T.size - (intOf i).toNat)
  case atStart=>exact ⟨0,⟨#[39]⟩,Nat.zero_le _,rfl,rfl,rfl⟩
  case round =>
   obtain ⟨j,a,hj,rfl,rfl,hq⟩:=hrel;have hq1:=escQ_len ((bsl T).take j);have hq2:=congrArg List.length hq;have hq3:a.data.toList.length=a.size:=Array.length_toList;rw [List.length_take,bsl_length] at hq1;rw [List.length_cons] at hq2;have hasz:a.size<=8001:=by omega
   clear hq1 hq2 hq3;have HQ:=h_ hq;clear hq;by_cases hlt:j<T.size
   ·have hx:=ext1 T j hlt;have hg:=bsl_get T j hlt;have HT:=h_ (escQ_take (bsl T) j _ hg);clear hg;by_cases h39:(T[j]'hlt)=39
    ·have e39:(((T[j]'hlt).toNat:Int) == 39)=true:=by rw [h39];rfl
     rw [h39,if_pos rfl] at HT;rw [h39] at hx;have H39:=h_ h39;clear h39;go_wp2_with fail;go_round
     case rel =>
      refine ⟨j+1,_,by omega,by go_num,rfl,?_⟩;rw [HT.out];simp [HQ.out]
     case measure=>simp [intOf];omega
    ·have e39:(((T[j]'hlt).toNat:Int) == 39)=false:=by
      rw [beq_eq_false_iff_ne];intro h;exact h39 (by rw [<- UInt8.toNat_inj];exact (by omega:(T[j]'hlt).toNat=39))
     rw [if_neg h39] at HT;clear h39;go_wp2_with fail;go_round
     case rel =>
      refine ⟨j+1,_,by omega,by go_num,rfl,?_⟩;rw [HT.out];simp [HQ.out]
     case measure=>simp [intOf];omega
   ·have hfull:(bsl T).take j=bsl T:=List.take_of_length_le (by rw [bsl_length];omega);rw [hfull] at HQ;clear hfull;go_wp2_with fail;go_ret;exact ⟨congrArg (fun x=>Ending.returned (.string x)) (ba_ext (by simp [prB,HQ.out])),HX3.out⟩
end Go.Proofs.YtimeipjcmffadaaGreatDoor
namespace Go.Proofs.YtimeipjcmffadaaGreatDoor
open Go.ChangeShapes Go.WideShapes Go.ChangeAt Go.RowKit Go.ChangeMaps
set_option maxRecDepth 100000
theorem laidOut:laidOutB Tryz.prog=true:=by kernel_rfl
theorem all_of {p:TypeId->Bool} {ts:Array TypeId} (h:ts.all (fun t=>!p t)=true) {t:TypeId} (ht:t∈ts):p t=false:=by
 rw [Array.all_eq_true'] at h;simpa using h t ht
section
variable {H:Type} {enc:TypeId × Value->H} {P:Program}
theorem trodAll_keep {W W':World} (hl:laidOutB P=true):∀ {ts:List TypeId} {vs:List Value} {ds:List (DataW H)} {ps:List MemPlace},ts.all (fun t=>P.readableRec t && decide (t<P.types.size))=true ->
 DataW.TrodAll enc P W 0 (fun _=>true) true ts vs ds ps->Below W.heap.size W W'->(∀ x∈ps,x.block<W.heap.size)->DataW.TrodAll enc P W' 0 (fun b=>decide (b<W.heap.size)) true ts vs ds ps
 | [],_,_,_,_,h,_,_=>by
  obtain ⟨rfl,rfl,rfl⟩:=trodAll_nil h;rfl
 |t::ts,_,_,_,hr,h,hb,hlt=>by
  rw [List.all_cons,Bool.and_eq_true,Bool.and_eq_true,decide_eq_true_eq] at hr;obtain ⟨v,vs,d,ds,p,q,rfl,rfl,rfl,h1,h2⟩:=trodAll_cons h;exact ⟨p,q,Below.trod hl hr.1.1 hr.1.2 h1 hb (fun x hx=>hlt x (List.mem_append_left _ hx)),trodAll_keep hl hr.2 h2 hb (fun x hx=>hlt x (List.mem_append_right _ hx)),rfl⟩
variable {w:World} {base:Nat} {spare:Nat->Bool} {held:Bool} {args:Array Value} {ds:List (DataW H)} {ps:List MemPlace} {t0 t1 t2 t3 t4:TypeId}
theorem args1 (h:DataW.TrodAll enc P w base spare held [t0] args.toList ds ps) :
 ∃ v0 d0 p0,args= #[v0]/\ds=[d0]/\ps=p0/\DataW.Trod enc P w base spare held t0 v0 d0 p0:=by
 obtain ⟨v0,vs,d0,ds',p0,q,hargs,rfl,rfl,h0,hr⟩:=trodAll_cons h;obtain ⟨rfl,rfl,rfl⟩:=trodAll_nil hr;exact ⟨v0,d0,p0,by cases args;simp_all,rfl,by simp,h0⟩
end
end Go.Proofs.YtimeipjcmffadaaGreatDoor
namespace Go.Proofs.YtimeipjcmffadaaGreatDoor.showsFrame
open Go.ChangeShapes Go.WideShapes Go.ChangeAt Go.RowKit
set_option maxRecDepth 100000
theorem own:ownKnob Tryz.prog.godebug=none:=by kernel_rfl
theorem star: "*" ++ "errors.errorString" = "*errors.errorString" :=by decide
theorem rowErr (u:TypeId) (h:Tryz.prog.typeName? 3 u=some "*errors.errorString"):u=379 :=
 typeName_ptr_named (nm:= "errors.errorString") (by rw [star];kernel_rfl) (by kernel_rfl) (by decide) u (by rw [star];exact h)
theorem typeRange:(Tryz.prog.globals[6]?).map (·.type)=some 116:=by kernel_rfl
theorem cellsErr:Tryz.prog.cellsOf 381=1:=by kernel_rfl
theorem cellsStr:Tryz.prog.cellsOf 9=1:=by kernel_rfl
theorem range_of_laid {W:World} (h:laidMet Tryz.prog Rows.parseShowsRow.laid W):∃ tp p,W.var? Tryz.prog "strconv.ErrRange" = some #[.iface tp p]:=by
 obtain ⟨ps,⟨_,_,_,_,_,_,_,_,_,_,⟨_,_,_,_,_,_,_,_,_,_,⟨_,_,_,_,_,_,_,_,_,_,⟨_,_,_,_,_,_,_,_,_,_,⟨g,t,cs,f,p,q,hg,ht,hv,hd,hq,e4⟩,e3⟩,e2⟩,e1⟩,e0⟩,_,hrows⟩:=h;obtain rfl:=Option.some.inj (globalRangeP.symm.trans hg);obtain rfl:=Option.some.inj (typeRange.symm.trans ht);subst e4 e3 e2 e1 e0;obtain ⟨l⟩:=cs;have ok:∀ u v,l=[.iface u v]->Value.okWide Tryz.prog W .any 0 u v:=fun u v e=>by
  subst e;exact (hrows 6 0 (by simp [MemPlace.row])).2 u v (by simpa using World.var?_cell hg hv 0)
 obtain ⟨a,s,rfl,_⟩:=errorString_of_trod Tryz.underlying116 rowErr Tryz.underlying379 Tryz.underlying381 rfl rfl Tryz.underlying9 cellsErr cellsStr hd ok;exact ⟨_,_,hv⟩
theorem tabs_of_laid {W:World} (h:laidMet Tryz.prog Rows.parseShowsRow.laid W):Lib.Utf8Tabs 1 2 W :=
 utf8Tabs_of_readsT (ρ:=Tryz.lays197_ren) ⟨by kernel_rfl,by kernel_rfl,by kernel_rfl,by kernel_rfl⟩ ⟨by kernel_rfl,by kernel_rfl,by kernel_rfl,by kernel_rfl,by kernel_rfl,by kernel_rfl,by kernel_rfl⟩ (Lib.laidMet.reads h (.tail _ (.tail _ (.tail _ (.tail _ (.tail _ (.tail _ (.tail _ (.head _))))))))) (Lib.laidMet.reads h (.tail _ (.tail _ (.tail _ (.head _)))))
theorem typePow:(Tryz.prog.globals[3]?).map (·.type)=some 355:=by kernel_rfl
theorem cellsPow:Tryz.prog.cellsOf 355=20:=by kernel_rfl
theorem cellsU:Tryz.prog.cellsOf 282=1:=by kernel_rfl
theorem dataPow:(Rows.laid_internal_strconv_uint64pow10:DataW Unit)=Lib.tabData .u64 Lib.pow10Tab:=by kernel_rfl
theorem pow_of_laid {W:World} (h:laidMet Tryz.prog Rows.parseShowsRow.laid W):Lib.TabIs Tryz.prog W "internal/strconv.uint64pow10" .u64 Lib.pow10Tab:=by
 obtain ⟨ps,⟨_,_,_,_,_,_,_,_,_,_,⟨_,_,_,_,_,_,_,_,_,_,⟨g,t,cs,f,p,q,hg,ht,hv,hd,_,_⟩,_⟩,_⟩,_⟩:=h;obtain rfl:=Option.some.inj (globalPow.symm.trans hg);obtain rfl:=Option.some.inj (typePow.symm.trans ht);rw [dataPow] at hd;unfold Lib.TabIs;rw [hv,<- Lib.cells_of_tab Tryz.underlying355 Tryz.underlying282 cellsU cellsPow hd]
theorem shapeMax:∀ w:World,w.ShapedOpen Tryz.prog->∃ m,w.cell? ⟨0,0,none⟩=some (.int .i64 m):=by
 intro w h;obtain ⟨cs,hh,hs,hr⟩:=h.1 0 #[.int .i64 0] 3 (of_decide_eq_true (by kernel_rfl)) (by kernel_rfl);obtain ⟨ts,hts,_,hall⟩:=hr (by kernel_rfl);obtain rfl:=Option.some.inj (hts.symm.trans (show Tryz.prog.cellTypes Tryz.prog.depth 3=some [3] by kernel_rfl));have h1:0<cs.size:=by rw [hs];decide
 obtain ⟨u,hu',hok⟩:=hall 0 cs[0] (by simp [h1]);obtain rfl:u=3:=by simpa using hu'.symm
 have hcell:w.cell? ⟨0,0,none⟩=some cs[0]:=by simp [World.cell?,hh,h1]
 rw [hcell];unfold Cell.ok at hok;rw [Tryz.underlying3] at hok;cases hv:cs[0]<;>rw [hv] at hok<;>simp at hok;obtain ⟨rfl,_⟩:=hok;exact ⟨_,rfl⟩
theorem glob_of {W:World} (h:laidMetH Tryz.prog Rows.parseShowsRow.laid W) (hsh:W.ShapedOpen Tryz.prog):GlobP W:=by
 obtain ⟨m,hm⟩:=shapeMax W hsh;exact ⟨⟨⟨m,hm⟩,tabs_of_laid h,World.block_lt_of_cell? W _ hm⟩,pow_of_laid h,range_of_laid h⟩
theorem laid_met (os:Os) (args:Array Value):laidMetH Tryz.prog Rows.parseShowsRow.laid ((World.laidAll Tryz.prog os Rows.parseShowsRow.laid).forCall (fun _ _=>0) ⟨#[],args,[]⟩).memory:=by
 rw [MakeChecks.laidMetH_plain _ _ _ (by kernel_rfl)];exact laidMet_laidAll _ (by kernel_rfl) (by kernel_rfl)
theorem shaped (os:Os) (args:Array Value):((World.laidAll Tryz.prog os Rows.parseShowsRow.laid).forCall (fun _ _=>0) ⟨#[],args,[]⟩).Shaped Tryz.prog :=
 World.shaped_of_ZipB (by kernel_rfl) (by kernel_rfl)
theorem witness {H:Type} {enc:TypeId × Value->H} {f:FuncId} {fn:Func} {s:OpenSpec} {conds:List PathCond} {apart:Bool} (os:Os) (args:Array Value)
 (hok:Input.okWideB Tryz.prog ((World.laidAll Tryz.prog os Rows.parseShowsRow.laid).forCall (fun _ _=>0) ⟨#[],args,[]⟩) f ⟨#[],args,[]⟩=true)
 (hrow:s.preRow enc Tryz.prog fn conds apart Rows.parseShowsRow.laid ((World.laidAll Tryz.prog os Rows.parseShowsRow.laid).forCall (fun _ _=>0) ⟨#[],args,[]⟩).memory args) :
 ∃ (w:World) (tape:Tape) (i:Input),w.os=os/\(w.forCall tape i).Shaped Tryz.prog/\i.vars=[]/\Input.okWide Tryz.prog (w.forCall tape i) .any w.heap.size f i /\
  s.preRow enc Tryz.prog fn conds apart Rows.parseShowsRow.laid (w.forCall tape i).memory i.args/\({}:Assume).holds Tryz.prog (lone (Frame.enter Tryz.prog f i.args .normal) [] (w.forCall tape i)) :=
 ⟨World.laidAll Tryz.prog os Rows.parseShowsRow.laid,fun _ _=>0,⟨#[],args,[]⟩,World.laidAll_os _ _ _,shaped os args,(Input.okWide_of_okWideB (base:=0) hok).1,(Input.okWide_of_okWideB hok).2,hrow,by
  simp only [Assume.holds];exact ⟨by simp,by simp,by simp,by simp,by simp⟩⟩
theorem goes_none {P:Program} (h:P.funcs.any Func.goes=false) (f:FuncId):P.goes f=false:=by
 have h1:∀ g:FuncId,(P.funcs[g]?).any Func.goes=false:=fun g=>by
  cases hg:P.funcs[g]? with
  |none=>rfl
  |some fn =>
   have hm:=Array.mem_of_getElem? hg;have:=Array.any_eq_false'.1 h fn hm;simpa using this
 unfold Program.goes;rw [h];simp [h1]
theorem any_none {P:Program} (h:P.funcs.any Func.goes=false) (o:Option FuncId):o.any P.goes=false:=by
 cases o with
 |none=>rfl
 |some f=>exact goes_none h f
theorem noGo:Tryz.pinned.checked.prog.funcs.any Func.goes=false:=by kernel_rfl
end Go.Proofs.YtimeipjcmffadaaGreatDoor.showsFrame
