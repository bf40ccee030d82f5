import Derived.Test.YtimeipjcmffadaaGreatDoorRefD
import Derived.Test.YtimeipjcmffadaaGreatDoorRpO
set_option maxHeartbeats 16000000
namespace Go.Proofs.YtimeipjcmffadaaGreatDoor
open Go.RowKit Go.Lib
set_option maxRecDepth 100000
theorem lexGo_len:∀ (f:Nat) (acc:List Lx.Tok) (pos:Nat) (l:List UInt8) (L:List Lx.Tok),Lx.lexGo f acc pos l= .ok L->acc.length<=L.length
 |0,acc,_,_,L,h=>by
  simp only [Lx.lexGo] at h;cases h;exact Nat.le_refl _
 |f+1,acc,pos,l,L,h=>by
  simp only [Lx.lexGo] at h;split at h
  ·cases h;exact Nat.le_refl _
  ·split at h
   ·cases h
   ·have:=lexGo_len f _ _ _ _ h;rw [List.length_append] at this;omega
theorem lexGo_le:∀ (f:Nat) (acc:List Lx.Tok) (pos:Nat) (l:List UInt8) (L:List Lx.Tok),Lx.lexGo f acc pos l= .ok L->L.length<=acc.length+l.length
 |0,acc,_,_,L,h=>by
  simp only [Lx.lexGo] at h;cases h;omega
 |f+1,acc,pos,l,L,h=>by
  simp only [Lx.lexGo] at h;split at h
  ·cases h;omega
  ·rename_i c r hl;split at h
   ·cases h
   ·rename_i x hx;have h1:=Lx.tok1_pos hx;have h2:(c::r).length<=l.length:=by rw [<- hl,List.length_drop];omega
    have:=lexGo_le f _ _ _ _ h;rw [List.length_append,List.length_drop] at this;simp only [List.length_cons,List.length_nil] at this h1 h2;omega
theorem lex_le {l:List UInt8} {L:List Lx.Tok} (h:Lx.lex l= .ok L):L.length<=l.length:=by
 have:=lexGo_le _ _ _ _ _ (show Lx.lexGo (l.length+1) [] 0 l= .ok L from h);simpa using this
theorem RefAt.none_tok {l:List UInt8} {pos:Nat} (h:RefAt l [] pos) (hl:Lx.lex l= .ok []) (hs:Lx.skip false (l.drop pos)=0) (hp:pos<l.length):False:=by
 cases ht:Lx.tok1 (l.drop pos) with
 |none=>rw [h.err hs hp ht] at hl;cases hl
 |some x =>
  have h2:=(h.tok hs hp ht).is;rw [hl] at h2;have:=lexGo_len _ _ _ _ _ h2.symm;simp at this
theorem reftokens_none (s:ByteArray) (w:World) (hs:s.size<=4000) (hL:Lx.lex (bsl s)= .ok []) :
 Calls Tryz.prog 79 #[.string s] w fun e w'=>e= .returned (.agg #[.slice none 0 0,.int .i64 0,.int .i64 0])/\Below w.heap.size w w':=by
 have HL:=h_ (bsl_length s);have HN:=h_ hL;clear hL;go_enter Tryz.func79,Tryz.ntmps79;go_wp2_with fail;go_loopw [3,4] (fun v i W=>∃ (pos:Nat),v= .slice none 0 0/\i= .int .i64 pos/\RefAt (bsl s) [] pos/\Blk W w.heap.size #[.slice none 0 0,.int .i64 0,.int .i64 0] 100/\Below w.heap.size w W/\w.heap.size<W.heap.size)
  (fun _ i _=>s.size - (intOf i).toNat)
 case atStart =>
  exact ⟨0,rfl,rfl,RefAt.start _,Blk.new w _ 100 rfl,by go_grown,by simp⟩
 case round =>
  obtain ⟨pos,rfl,rfl,hT,hblk,hbel,hhs⟩:=hrel;have hle:=hT.le;rw [HL.out] at hle;have HT:=h_ hT;have HB:=h_ hbel;have HK:=h_ hblk;have HH:=h_ hhs;clear hT hbel hblk hhs;by_cases hlt:pos<s.size
  case neg =>
   obtain ⟨hc,hf⟩:=HK.out.facts;go_wp2_with fail;exact bodyPost_ret (v:= .agg #[.slice none 0 0,.int .i64 0,.int .i64 0]) (by simp [results,Tryz.results79,go_sem,(blkR3 HK.out _ _ _).cell]) rfl ⟨rfl,belowR3 HB.out (Nat.le_refl _) _ _ _⟩
  have HG:=h_ (bsl_get s pos hlt);have hc8:=(s[pos]'hlt).toNat_lt;have HBL:=h_ (blank_eq (s[pos]'hlt));cases hbl:Lx.isBlank (s[pos]'hlt)
  case true =>
   have HBL2:=h_ hbl;have h4:=HBL.out;rw [hbl] at h4;clear hbl;simp only [eq_comm (a:=true),Bool.or_eq_true,beq_iff_eq] at h4;rcases h4 with ((h|h)|h)|h
   all_goals
    go_wp2_with fail;go_roundw
    case rel=>exact ⟨pos+1,rfl,by go_num,HT.out.blank HG.out HBL2.out,HK.out,HB.out,HH.out⟩
    case measure=>simp [intOf];omega
  have HBL2:=h_ hbl;have h4:=HBL.out;rw [hbl] at h4;clear hbl;simp only [eq_comm (a:=false),Bool.or_eq_false_iff] at h4;obtain ⟨⟨⟨b1,b2⟩,b3⟩,b4⟩:=h4;by_cases hrem:(bsl s)[pos]?=some 45/\(bsl s)[pos+1]?=some 45
  case pos =>
   obtain ⟨hr1,hr2⟩:=hrem;have hp2:pos+1<s.size:=by rw [<- HL.out];exact (List.getElem?_eq_some_iff.1 hr2).1
   have e1:((s[pos]'hlt).toNat:Int)=45:=by
    rw [HG.out] at hr1;rw [Option.some.inj hr1];rfl
   have e2:((s[pos+1]'hp2).toNat:Int)=45:=by
    rw [bsl_get s (pos+1) hp2] at hr2;rw [Option.some.inj hr2];rfl
   have HR:=h_ (HT.out.remark hr1 hr2);have hpos:0<Lx.span (fun c=>c !=10) ((bsl s).drop pos):=by
    obtain ⟨hp,he⟩:=List.getElem?_eq_some_iff.1 hr1;rw [List.drop_eq_getElem_cons hp,he];exact Lx.span_pos (by decide)
   have hsl:=Lx.span_le (fun c=>c !=10) ((bsl s).drop pos);rw [List.length_drop,HL.out] at hsl;clear hr1 hr2;go_wp2_with fail;obtain ⟨wo,rfl⟩:∃ wo:World,wo=wr:=⟨_,rfl⟩
   go_loop [4] (fun i=>∃ n:Nat,i= .int .i64 ((pos+n:Nat):Int)/\n<=Lx.span (fun c=>c !=10) ((bsl s).drop pos)) (fun i=>s.size - (intOf i).toNat)
   case atStart=>exact ⟨0,by go_num,Nat.zero_le _⟩
   case round =>
    obtain ⟨n,rfl,hn⟩:=hrel;have HST:=h_ (Lx.span_step hn);by_cases hin:pos+n<s.size
    ·have hg2:((bsl s).drop pos)[n]?=some (s[pos+n]'hin):=by
      rw [List.getElem?_drop];exact bsl_get s (pos+n) hin
     have HG2:=h_ hg2;clear hg2;by_cases h10:s[pos+n]'hin=10
     ·have HQ:=h_ h10;have e10:(((s[pos+n]'hin).toNat:Int) !=10)=false:=by rw [h10];rfl
      clear h10;have hfin:n=Lx.span (fun c=>c !=10) ((bsl s).drop pos):=by
       rcases Nat.lt_or_ge n (Lx.span (fun c=>c !=10) ((bsl s).drop pos)) with h|h
       ·obtain ⟨c,hc,hp⟩:=HST.out.1 h;rw [HG2.out] at hc;cases hc;rw [HQ.out] at hp;cases hp
       ·omega
      have HF:=h_ hfin;clear hfin;go_wp2_with fail;go_roundw
      case rel=>exact ⟨pos+n,rfl,by go_num,by have:=HR.out;rw [<- HF.out] at this;exact this,HK.out,HB.out,HH.out⟩
      case measure=>have:=HF.out;simp [intOf];omega
     ·have HQ:=h_ h10;have e10:(((s[pos+n]'hin).toNat:Int) !=10)=true:=by
       rw [bne_iff_ne];intro h;exact h10 (by rw [<- UInt8.toNat_inj];simpa using (by omega:(s[pos+n]'hin).toNat=10))
      clear h10;go_wp2_with fail;go_round
      case rel=>exact ⟨n+1,by go_num,HST.out.2 ⟨_,HG2.out,by simpa using HQ.out⟩⟩
      case measure=>simp [intOf];omega
    ·have hfin:n=Lx.span (fun c=>c !=10) ((bsl s).drop pos):=by omega
     have HF:=h_ hfin;clear hfin;go_wp2_with fail;go_roundw
     case rel=>exact ⟨pos+n,rfl,by go_num,by have:=HR.out;rw [<- HF.out] at this;exact this,HK.out,HB.out,HH.out⟩
     case measure=>have:=HF.out;simp [intOf];omega
  exfalso;have hs0:Lx.skip false ((bsl s).drop pos)=0:=by
   rw [bsl_drop_cons s pos hlt];refine Lx.skip_stop HBL2.out ?_;rintro ⟨h1,h2⟩;rw [List.head?_drop] at h2;exact hrem ⟨by rw [HG.out,h1],h2⟩
  exact HT.out.none_tok HN.out hs0 (by rw [HL.out];exact hlt)
def lexR (l:List UInt8):List Lx.Tok × Int × Int:=if 4000<l.length then ([],0,2) else match Lx.lex l with
 | .error p=>([],(p:Int),10)
 | .ok T=>(T,0,0)
theorem lexR_few (l:List UInt8):(lexR l).1.length<=4000:=by
 unfold lexR;split
 ·exact Nat.zero_le _
 ·split
  ·exact Nat.zero_le _
  ·rename_i h;exact Nat.le_trans (lex_le h) (by omega)
theorem tokAt_ownR {w:World} {B:Nat} {v:Value} {L:List Lx.Tok} (h:w.ownsRow B 152 4 v L.length (tokCs L)) (h0:L≠[]):∃ g cap,v= .slice (some ⟨g,0,none⟩) L.length cap/\L.length<=cap/\B<=g/\TokAt w g L:=by
 obtain ⟨_,ho⟩:=h;rcases ho with ⟨_,h1⟩|⟨g,cap,cur,rfl,hge,hb,hn,_,hs,ht⟩
 ·exact absurd (List.eq_nil_of_length_eq_zero h1) h0
 ·refine ⟨g,cap,rfl,by omega,hge,lt_of_block hb,fun j hj=>?_⟩;rw [cell_of_row w g _ cur _ (0,0) hb,<- ht,List.getElem?_take,if_pos (by omega),Array.getElem?_toList]
def LexPost (R:List Lx.Tok × Int × Int) (w1:World) (e:Ending) (w':World):Prop :=
 (∃ g c,e= .returned (.agg #[.slice (psA g R.1.length) R.1.length c,.int .i64 R.2.1,.int .i64 R.2.2])/\R.1.length<=c/\w1.heap.size<=g+1/\(R.1≠[]->w1.heap.size<=g)/\TokAt w' g R.1)/\Ext w1 w'
theorem lexed_any (s:ByteArray) (w1:World) (h0:0<w1.heap.size) (hs:s.size<=maxLen):Calls Tryz.prog 79 #[.string s] w1 (LexPost (lexR (bsl s)) w1):=by
 have hnil:∀ (a er:Int) w',Below w1.heap.size w1 w'->LexPost ([],a,er) w1 (.returned (.agg #[.slice none 0 0,.int .i64 a,.int .i64 er])) w':=fun a er w' hb =>
  ⟨⟨w1.heap.size - 1,0,rfl,Nat.le_refl _,by omega,fun h=>absurd rfl h,by have:=hb.size;show w1.heap.size - 1<w'.heap.size;omega,fun j hj=>by simp at hj⟩,hb⟩
 unfold lexR;by_cases hl:4000<(bsl s).length
 ·rw [if_pos hl];refine (reftokens_long s w1 (by rw [<- bsl_length];exact hl) hs).mono ?_;rintro e w' ⟨rfl,hb⟩;exact hnil 0 2 w' hb
 ·rw [if_neg hl];have hsz:s.size<=4000:=by rw [<- bsl_length];omega
  cases hx1:Lx.lex (bsl s) with
  |error p =>
   refine (reftokens_any s w1 hsz).mono ?_;rintro e w' ⟨he,hb⟩;rw [hx1] at he;simp only [RefE] at he;subst he;exact hnil p 10 w' hb
  |ok T =>
   by_cases hT:T=[]
   ·subst hT;refine (reftokens_none s w1 hsz hx1).mono ?_;rintro e w' ⟨rfl,hb⟩;exact hnil 0 0 w' hb
   ·refine (reftokens_any s w1 hsz).mono ?_;rintro e w' ⟨he,hb⟩;rw [hx1] at he;obtain ⟨v,rfl,hown⟩:=he;obtain ⟨g,cap,rfl,hcap,hge,hat⟩:=tokAt_ownR hown hT;refine ⟨⟨g,cap,?_,hcap,by omega,fun _=>by omega,hat⟩,hb⟩;simp only [psA_pos (List.length_pos_iff.2 hT)]
def boxR (n0:Nat) (V:Array Value) (v:Value) (w:World):Prop:=∃ b,v= .pointer (some ⟨b,0,none⟩)/\n0<=b/\Blk w b V 104
theorem ret_beg {t u:Tmp} {fn:Func} (h:fn.results= #[.tmp u,.cell t 100]) (tmps:Array Value) {w:World} {g:Nat} {cs:Array Value} (hc:cs.size=3) (hp:tmps.getD t undef= .pointer (some ⟨g,0,none⟩)) (hg:Blk w g cs 100) :
 (results fn tmps).run Tryz.prog w= .ok (.tuple #[tmps.getD u undef,.agg cs]) w:=by
 have hp':tmps[t]?.getD undef= .pointer (some ⟨g,0,none⟩):=by simpa using hp
 have hr:=run_loadVar_row w g 100 100 cs (0,0) _ hg Tryz.underlying100 rfl (by rw [hc];kernel_rfl);simp [results,h,hp',asAddr,hr]
def BeginPostR (R:List Lx.Tok × Int × Int) (long:Nat) (w:World) (e:Ending) (w':World):Prop :=
 ∃ p g c,e= .returned (.tuple #[.pointer (some ⟨p,0,none⟩),.agg #[.slice (psA g R.1.length) R.1.length c,.int .i64 R.2.1,.int .i64 R.2.2]])/\w.heap.size<=p/\w.heap.size<=g/\RsAt w' p g c long R.1 ⟨0,0,0,0⟩/\Below w.heap.size w w'
theorem below_blk3 {w0 w:World} {B:Nat} (h:Below B w0 w) {b:Nat} (hb:B<=b) (x y z:Value):Below B w0 (((w.setCell ⟨b,0,none⟩ x).setCell ⟨b,1,none⟩ y).setCell ⟨b,2,none⟩ z) :=
 ((h.setCell (p:=⟨b,0,none⟩) hb x).setCell (p:=⟨b,1,none⟩) hb y).setCell (p:=⟨b,2,none⟩) hb z
theorem rbegin_any (s:ByteArray) (w:World) (hs:s.size<=maxLen):Calls Tryz.prog 44 #[.string s] w (BeginPostR (lexR (bsl s)) s.size w):=by
 have mixed:Tryz.prog.follows .mixedOrders=true:=by kernel_rfl
 have hx0:Ext w (w.alloc (.cells #[.slice none 0 0,.int .i64 0,.int .i64 0] 100)):=(Ext.refl w).alloc _;have HR0:=h_ (Blk.new w #[.slice none 0 0,.int .i64 0,.int .i64 0] 100 rfl);have hz:(w.alloc (.cells #[.slice none 0 0,.int .i64 0,.int .i64 0] 100)).heap.size=w.heap.size+1:=by simp
 have KT:=h_ (lexed_any s (w.alloc (.cells #[.slice none 0 0,.int .i64 0,.int .i64 0] 100)) (by omega) hs);have hfew:=lexR_few (bsl s);have HX0:=h_ hx0;generalize lexR (bsl s)=R at KT hfew |-;obtain ⟨T,a,er⟩:=R;have hs63:s.size<=9223372036854775807:=by unfold maxLen at hs;omega
 have HZ:=h_ hz;clear hs hx0 hz;go_enter Tryz.func44,Tryz.ntmps44;go_simp
 repeat (first|go_values|go_skip|go_guarded|go_step|go_upon)
 refine Calls.mono KT.out ?_;rintro e W1 ⟨⟨g,c,rfl,hc,hg1,hgT,htok⟩,hb⟩;have hz:=HZ.out;have HR1:=h_ (HR0.out.keep hb);have HX1:=h_ (Ext.trans HX0.out hb);have hw1:w.heap.size<W1.heap.size:=HR1.out.lt;have hgw:w.heap.size<=g:=by omega
 have hgT2:T≠[]->g≠w.heap.size:=fun h=>by have:=hgT h;omega
 have HTk:=h_ htok;have hgl1:g<W1.heap.size:=htok.1;simp only at hc hfew;clear hb HR0 HX0 KT HZ hz hg1 hgT htok;go_simp
 repeat (first|go_values|go_skip|go_guarded|go_step|go_upon)
 have hx2:Ext W1 (W1.alloc (.cells #[.slice (psA g T.length) T.length c,.int .i64 a,.int .i64 er] 100)):=(Ext.refl W1).alloc _;have HV2:=h_ (Blk.new W1 #[.slice (psA g T.length) T.length c,.int .i64 a,.int .i64 er] 100 rfl);have HX2:=h_ hx2;clear hx2;generalize (W1.alloc (.cells #[.slice (psA g T.length) T.length c,.int .i64 a,.int .i64 er] 100))=W2 at HV2 HX2 |-;have hw2:=HV2.out.lt;generalize W1.heap.size=b4 at HV2 hw1 hw2 hgl1 |-;obtain ⟨ga,hga⟩:∃ ga,ga=psA g T.length:=⟨_,rfl⟩
 rw [<- hga] at HV2 |-;obtain ⟨n,hn⟩:∃ n,n=T.length:=⟨_,rfl⟩
 rw [<- hn] at HV2 hc |-;have HGa:=h_ hga;have HN:=h_ hn;clear hga hn;have HF:=h_ (show ∀ W,Ext W2 W->(∀ j,W.cell? ⟨b4,j,none⟩=(#[.slice ga n c,.int .i64 a,.int .i64 er]:Array Value)[j]?) from fun W hW=>(HV2.out.keep hW).cell);refine wp_parZF [] (leX) [0,1,2,3,4,5,6,7,8] 8 8 (fun
  |0=>fun _ v _=>v= .pointer (some ⟨b4,0,none⟩)
  |1=>fun _ v _=>v= .slice ga n c
  |2=>fun _ v _=>v= .string s
  |3=>fun _ v _=>v= .int .i64 s.size
  |4=>fun _ v _=>v= .agg #[.slice ga n c,.int .i64 0,.int .i64 0,.int .i64 0,.int .i64 0,.int .i64 s.size]
  |5=>fun _=>boxR W2.heap.size #[.slice ga n c,.int .i64 0,.int .i64 0,.int .i64 0,.int .i64 0,.int .i64 s.size]
  |6=>fun _ v _=>v= .agg #[.slice ga n c,.int .i64 a,.int .i64 er]
  |7=>fun _=>boxR W2.heap.size #[.slice ga n c,.int .i64 0,.int .i64 0,.int .i64 0,.int .i64 0,.int .i64 s.size]
  |_=>fun _ _ _=>True) (fun
  |_=>undef) (by kernel_rfl) (by kernel_rfl) (by kernel_rfl) ?_ ?_ ?_ ?_ ?_
 ·simp (maxSteps:=20000000) only [permL,permOp,List.filterMap_cons,List.filterMap_nil,List.getElem?_cons_succ,List.getElem?_cons_zero,Option.map_some,Option.map_none,List.take_succ_cons,List.take_zero,ParAllG,Act.put,List.setIfInBounds_toArray,List.set_cons_succ,List.set_cons_zero];refine ⟨?_,?_,?_,?_,?_,?_,?_,?_,trivial⟩
  all_goals
   intro vals W hx hd;have hW:=HF.out W hx;simp [PDepsG,pdeps,Region.binds,List.idxOf_cons] at hd
   first
    |refine ParObG.plain rfl ?_
    |refine ParObG.wanted (by simp [Region.wanted,yielded,hd]) ?_
  iterate 5
   next =>
    go_simp;exact ParPostG.same (leX) fun _ _=>rfl
  ·have hs:=hx.size;go_simp;exact ⟨(Ext.refl _).alloc _,fun w3 h3=>⟨W.heap.size,rfl,hs,(Blk.new W _ _ rfl).keep h3⟩⟩
  ·go_simp;exact ParPostG.same (leX) fun _ _=>rfl
  ·obtain ⟨⟨b,hv5,hge,hb⟩,_⟩:=hd;go_simp;exact ⟨IsLe.refl leX _,fun w3 h3=>⟨b,rfl,hge,hb.keep h3⟩⟩
 ·simp (maxSteps:=20000000) only [permL,permOp,List.filterMap_cons,List.filterMap_nil,List.getElem?_cons_succ,List.getElem?_cons_zero,Option.map_some,Option.map_none,List.drop_succ_cons,List.drop_zero,List.take_succ_cons,List.take_zero,Nat.reduceSub,ZAll,ParEnd,Act.put,List.setIfInBounds_toArray,List.set_cons_succ,List.set_cons_zero]
 ·intro i hi;cases hi
 ·intro i hi;cases hi
 intro vals W hx hf hz hdist;simp (maxSteps:=20000000) only [permL,permOp,List.filterMap_cons,List.filterMap_nil,List.getElem?_cons_succ,List.getElem?_cons_zero,Option.map_some,Option.map_none,ParFactsG,List.take_succ_cons,List.take_zero,and_true,Nat.reduceAdd] at hf;obtain ⟨f0,f1,f2,f3,f4,f5,f6,f7⟩:=hf;clear hz;simp (maxSteps:=20000000) only [permL,permOp,List.filterMap_cons,List.filterMap_nil,List.getElem?_cons_succ,List.getElem?_cons_zero,Option.map_some,Option.map_none,List.drop_succ_cons,List.drop_zero,List.take_succ_cons,List.take_zero,Nat.reduceSub,ParEnd,ZTail,Act.put,List.setIfInBounds_toArray,List.set_cons_succ,List.set_cons_zero,Nat.reduceAdd,f0,f1,f2,f3,f4,f6];clear f0 f1 f2 f3 f4 f6;obtain ⟨b,hv7,hge,hb⟩:=f7;have HB:=h_ hb;have HR2:=h_ ((HR1.out.keep HX2.out).keep hx);have HX3:=h_ (Ext.trans HX1.out (Ext.trans HX2.out hx));have HTk3:=h_ (HTk.out.ext ((Ext.trans HX2.out hx).block g HTk.out.1) (Ext.trans HX2.out hx).size);clear hx hb HF f5 HV2 HR1 HX1 HX2 HTk;rw [hv7];obtain ⟨cr,fr⟩:=HR2.out.facts;have hrl:=HR2.out.lt;generalize vals 5=v5;refine ⟨?_⟩;go_simp
 repeat (first|go_values|go_skip|go_guarded|go_step|go_upon)
 refine bodyPost_ret (ret_beg rfl _ rfl rfl (blkR3 HR2.out _ _ _)) rfl ?_;have hgl:=HTk3.out.1;have hga:=HGa.out;have hn:=HN.out;clear HGa HN;subst hga;subst hn;refine ⟨b,g,c,rfl,by omega,hgw,⟨?_,?_,by omega,Nat.zero_le _,hc,hfew,Nat.zero_le _⟩,below_blk3 HX3.out (Nat.le_refl _) _ _ _⟩
 ·unfold rsC;exact ((HB.out.other (a:=⟨w.heap.size,0,none⟩) (by show b≠w.heap.size;omega) _).other (a:=⟨w.heap.size,1,none⟩) (by show b≠w.heap.size;omega) _).other (a:=⟨w.heap.size,2,none⟩) (by show b≠w.heap.size;omega) _
 ·by_cases hT0:T=[]
  ·subst hT0;exact ⟨by simpa using hgl,fun j hj=>by simp at hj⟩
  ·have hne:=hgT2 hT0;exact HTk3.out.ext (by rw [heap_setCell_other _ ⟨w.heap.size,2,none⟩ g _ hne,heap_setCell_other _ ⟨w.heap.size,1,none⟩ g _ hne,heap_setCell_other _ ⟨w.heap.size,0,none⟩ g _ hne]) (by simp)
end Go.Proofs.YtimeipjcmffadaaGreatDoor
