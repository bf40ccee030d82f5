import Derived.Deep.QuietTactic
import Derived.BigQuiet
import Derived.Lib.ConvBytes
import Derived.Lib.LazyBuf
import Derived.Test.YtimeipjcmffadaaGreatDoorLexC
import Derived.Test.YtimeipjcmffadaaGreatDoorPar
import Derived.Test.YtimeipjcmffadaaGreatDoorPrintA
set_option maxHeartbeats 16000000
namespace Go.Proofs.YtimeipjcmffadaaGreatDoor
open Go.RowKit Go.Shelf
set_option maxRecDepth 100000
theorem skip_done:∀ (b:Bool) (l:List UInt8),Lx.skip false (l.drop (Lx.skip b l))=0
 |true,[]=>by simp [Lx.skip]
 |false,[]=>by simp [Lx.skip]
 |true,c::r=>by
  by_cases h:c=10
  ·simp only [Lx.skip,if_pos h,List.drop_succ_cons];exact skip_done false r
  ·simp only [Lx.skip,if_neg h,List.drop_succ_cons];exact skip_done true r
 |false,c::r=>by
  by_cases h:Lx.isBlank c=true
  ·simp only [Lx.skip,if_pos h,List.drop_succ_cons];exact skip_done false r
  ·by_cases h2:c=45/\r.head?=some 45
   ·simp only [Lx.skip,if_neg h,if_pos h2,List.drop_succ_cons];exact skip_done true r
   ·simp only [Lx.skip,if_neg h,if_neg h2,List.drop_zero]
def tokC (t:Lx.Tok):List Value:=[.int .i64 t.kind,.string ⟨t.text.toArray⟩,.int .i64 t.n,.int .i64 t.pos]
def tokCs (l:List Lx.Tok):List Value:=l.flatMap tokC
def TokensE (B:Nat) (r:Except Nat (List Lx.Tok)) (e:Ending) (w:World):Prop :=
 match r with
 | .error p=>e= .returned (.tuple #[.slice none 0 0,.int .i64 p,.int .i64 10])
 | .ok L=>∃ v,e= .returned (.tuple #[v,.int .i64 0,.int .i64 0])/\w.ownsRow B 162 4 v L.length (tokCs L)
structure TokensAt (l:List UInt8) (acc:List Lx.Tok) (pos:Nat):Prop where
 len:acc.length<=pos
 le:pos<=l.length
 skip:Lx.skip false (l.drop pos)=0
 is:Lx.lex l=Lx.lexAt acc pos (l.drop pos)
theorem TokensAt.start (l:List UInt8):TokensAt l [] (Lx.skip false l):=by
 refine ⟨Nat.zero_le _,Lx.skip_le _ _,skip_done false l,?_⟩;rw [Lx.lex_eq,Lx.lexAt_skip (m:=Lx.skip false l) (by rw [skip_done];rfl),Nat.zero_add]
theorem TokensAt.done {l:List UInt8} {acc:List Lx.Tok} {pos:Nat} (h:TokensAt l acc pos) (hp:l.length<=pos):Lx.lex l= .ok acc:=by
 rw [h.is,List.drop_eq_nil_of_le hp];exact Lx.lexAt_end rfl
theorem TokensAt.err {l:List UInt8} {acc:List Lx.Tok} {pos:Nat} (h:TokensAt l acc pos) (hp:pos<l.length) (ht:Lx.tok1 (l.drop pos)=none):Lx.lex l= .error pos:=by
 rw [h.is];have e:=List.drop_eq_getElem_cons hp;rw [Lx.lexAt_err (c:=l[pos]) (r:=l.drop (pos+1)) (by rw [h.skip,List.drop_zero,e]) (by rw [<- e];exact ht),h.skip,Nat.add_zero]
theorem TokensAt.next {l:List UInt8} {acc:List Lx.Tok} {pos:Nat} (h:TokensAt l acc pos) (hp:pos<l.length) {x} (ht:Lx.tok1 (l.drop pos)=some x) :
 TokensAt l (acc++[⟨x.1,x.2.1,x.2.2.1,pos⟩]) (pos+x.2.2.2+Lx.skip false (l.drop (pos+x.2.2.2))):=by
 have e:=List.drop_eq_getElem_cons hp;have hx:=Lx.tok1_pos ht;rw [List.length_drop] at hx;have hs:=Lx.skip_le false (l.drop (pos+x.2.2.2));rw [List.length_drop] at hs;refine ⟨?_,by omega,?_,?_⟩
 ·have:=h.len;simp;omega
 ·rw [<- List.drop_drop];exact skip_done _ _
 ·rw [h.is,Lx.lexAt_tok (c:=l[pos]) (r:=l.drop (pos+1)) (by rw [h.skip,List.drop_zero,e]) (by rw [<- e];exact ht),h.skip,Nat.add_zero,<- e,List.drop_drop,
   Lx.lexAt_skip (m:=Lx.skip false (l.drop (pos+x.2.2.2))) (by rw [skip_done];rfl),List.drop_drop]
theorem infoTok:(Tryz.prog.info? 162).map (fun i=>(i.zero,i.size,i.bytes))=some (some (.agg #[.int .i64 0,.string ⟨#[]⟩,.int .i64 0,.int .i64 0]),4,40):=by kernel_rfl
theorem tokens_long (s:ByteArray) (w:World) (hbig:4000<s.size) (hs63:s.size<=maxLen) :
 Calls Tryz.prog 59 #[.string s] w fun e w'=>e= .returned (.tuple #[.slice none 0 0,.int .i64 0,.int .i64 2])/\w=w':=by
 unfold maxLen at hs63;go_enter Tryz.func59,Tryz.ntmps59;go_wp2_with fail;exact bodyPost_ret (v:= .tuple #[.slice none 0 0,.int .i64 0,.int .i64 2]) (by simp [results,Tryz.results59,go_sem]) rfl ⟨rfl,rfl⟩
theorem tokens_any (s:ByteArray) (w:World) (hG:GlobL w) (hs:s.size<=4000) :
 Calls Tryz.prog 59 #[.string s] w fun e w'=>TokensE w.heap.size (Lx.lex (bsl s)) e w'/\Below w.heap.size w w':=by
 have hlen:=bsl_length s;have hsk:=Lx.skip_le false (bsl s);rw [hlen] at hsk;have HL:=h_ hlen;clear hlen;go_enter Tryz.func59,Tryz.ntmps59;go_wp2_with fail;refine (skip_any s w (by unfold maxLen;omega)).mono ?_;rintro e w' ⟨rfl,rfl⟩;have HS0:=h_ (TokensAt.start (bsl s));generalize Lx.skip false (bsl s)=k0 at hsk HS0 |-;go_wp2_with fail;go_loopw [2,3] (fun v i W=>∃ (pos:Nat) (acc:List Lx.Tok),i= .int .i64 pos/\TokensAt (bsl s) acc pos/\W.ownsRow w.heap.size 162 4 v acc.length (tokCs acc)/\Below w.heap.size w W)
  (fun _ i _=>s.size - (intOf i).toNat)
 case atStart=>exact ⟨k0,[],rfl,HS0.out,World.ownsRow_nil _ _ _ _,Below.refl _ _⟩
 case round =>
  obtain ⟨pos,acc,rfl,hT,hown,hbel⟩:=hrel;have hle:=hT.le;have hal:=hT.len;rw [HL.out] at hle;have HT:=h_ hT;have HO:=h_ hown;have HB:=h_ hbel;clear hT hown hbel;by_cases hlt:pos<s.size
  ·have hp0:0<(s.extract pos s.size).size:=by simp;omega
   have hp1:(s.extract pos s.size).size<=140737488355327:=by simp;omega
   have H0:=h_ hp0;have H1:=h_ hp1;clear hp0 hp1;have HE:=h_ (bsl_from s pos);go_wp2_with fail;refine (token_any _ wr H1.out (hG.keep HB.out) H0.out).mono ?_;rintro e w2 ⟨rfl,hb2⟩;rw [HE.out];have hown2:=ownsRow_ext HO.out hb2;have HO2:=h_ hown2;have HB2:=h_ (HB.out.trans (hb2.mono HB.out.size));clear hown2 hb2;cases ht:Lx.tok1 ((bsl s).drop pos) with
   |none =>
    have HN:=h_ ht;clear ht;simp only [tokE,tokV];go_wp2_with fail;refine bodyPost_ret (v:= .tuple #[.slice none 0 0,.int .i64 pos,.int .i64 10]) (by simp [results,Tryz.results59,go_sem]) rfl ⟨?_,HB2.out.alloc HB2.out.size _⟩;unfold TokensE;rw [HT.out.err (by rw [HL.out];exact hlt) HN.out]
   |some x =>
    have HX:=h_ ht;have hx:=Lx.tok1_pos ht;rw [List.length_drop,HL.out] at hx;clear ht;obtain ⟨k,t,n,m⟩:=x;simp only at hx;simp only [tokE,tokV];go_wp2_with (at_builtin;go_must (refine wpList_push rfl _ _ 121 rfl w.heap.size 162 (.agg #[.int .i64 0,.string ⟨#[]⟩,.int .i64 0,.int .i64 0]) 4 40 Tryz.underlying121 infoTok rfl (by decide) _ _ _ rfl ((HO2.out.alloc _).alloc _) _ 162 #[.int .i64 k,.string ⟨t.toArray⟩,.int .i64 n,.int .i64 pos] rfl (Blk.new _ _ _ (by simp)) rfl ?_ ?_ ?_ ?_ ?_))
    case refine_1=>simp [Value.oneCell']
    case refine_2=>unfold maxLen;omega
    case refine_3=>omega
    case refine_4 =>
     have:=HB2.out.size;simp;omega
    case refine_5 =>
     intro v' w3 hown3 hgr _;have hb3:Below w.heap.size w w3:=((HB2.out.alloc HB2.out.size _).alloc (Nat.le_trans HB2.out.size (by simp)) _).grown hgr (Nat.le_trans HB2.out.size (by simp;omega)) (fun g hg=>(HO2.out.lt g hg).1);have HO3:=h_ hown3;have HB3:=h_ hb3;clear hown3 hb3 hgr;have HE2:=h_ (bsl_from s (pos+m));have hs2:=Lx.skip_le false ((bsl s).drop (pos+m));rw [List.length_drop,HL.out] at hs2;have hp3:(s.extract (pos+m) s.size).size<=maxLen:=by unfold maxLen;simp;omega
     have H3:=h_ hp3;clear hp3;go_wp2_with fail;refine (skip_any _ w3 H3.out).mono ?_;rintro e w4 ⟨rfl,rfl⟩;rw [HE2.out];have HN:=h_ (HT.out.next (by rw [HL.out];exact hlt) HX.out);simp only at HN;generalize Lx.skip false ((bsl s).drop (pos+m))=k3 at hs2 HN |-;go_wp2_with fail;go_roundw
     case rel =>
      refine ⟨pos+m+k3,acc++[⟨k,t,n,pos⟩],by go_num,HN.out,?_,HB3.out⟩;have:=HO3.out;simpa [tokCs,tokC] using this
     case measure=>simp [intOf];omega
  ·go_wp2_with fail;refine bodyPost_ret (v:= .tuple #[u2,.int .i64 0,.int .i64 0]) (by simp [results,Tryz.results59,go_sem]) rfl ⟨?_,HB.out⟩;unfold TokensE;rw [HT.out.done (by rw [HL.out];omega)];exact ⟨_,rfl,HO.out⟩
def Toks (w:World) (v:Value) (L:List Lx.Tok):Prop :=
 (v= .slice none 0 0/\L=[]) ∨ ∃ g cap,v= .slice (some ⟨g,0,none⟩) L.length cap/\L.length<=cap/\cap<=maxLen/\g<w.heap.size/\∀ j,j<L.length * 4->w.cell? ⟨g,j,none⟩=(tokCs L)[j]?
theorem Toks.of {w:World} {B:Nat} {v:Value} {L:List Lx.Tok} (h:w.ownsRow B 162 4 v L.length (tokCs L)):Toks w v L:=by
 rcases h.2 with ⟨rfl,h0⟩|⟨g,cap,cur,rfl,hB,hh,hn,hm,_⟩
 ·exact Or.inl ⟨rfl,List.eq_nil_of_length_eq_zero h0⟩
 ·exact Or.inr ⟨g,cap,rfl,hn,hm,(Array.getElem?_eq_some_iff.1 hh).1,fun j hj=>h.cellAt j hj⟩
theorem Toks.keep {w w':World} {v:Value} {L:List Lx.Tok} (h:Toks w v L) (hb:Below w.heap.size w w'):Toks w' v L:=by
 rcases h with h|⟨g,cap,h1,h2,h3,h4,h5⟩
 ·exact Or.inl h
 ·exact Or.inr ⟨g,cap,h1,h2,h3,Nat.lt_of_lt_of_le h4 hb.size,fun j hj=>by rw [hb.cell (p:=⟨g,j,none⟩) h4];exact h5 j hj⟩
theorem Toks.cons {w:World} {v:Value} {t:Lx.Tok} {L:List Lx.Tok} (h:Toks w v (t::L)):∃ g cap,v= .slice (some ⟨g,0,none⟩) (L.length+1) cap/\L.length+1<=cap/\cap<=maxLen/\∀ j,j<(L.length+1) * 4->w.cell? ⟨g,j,none⟩=(tokCs (t::L))[j]?:=by
 rcases h with ⟨_,h⟩|⟨g,cap,h1,h2,h3,_,h5⟩
 ·cases h
 ·exact ⟨g,cap,h1,h2,h3,h5⟩
theorem bytes_ne {a:List UInt8} {s:ByteArray}:(a == s.toList)=decide (a=bsl s):=by
 rw [ByteArray.toList_eq,Bool.eq_iff_iff,beq_iff_eq,decide_eq_true_iff];exact Iff.rfl
end Go.Proofs.YtimeipjcmffadaaGreatDoor
namespace Go.Proofs.YtimeipjcmffadaaGreatDoor
open Go.RowKit Go.Lib
set_option maxRecDepth 100000
structure PSt where
 i:Nat
 deep:Nat
 at_:Int
 e:Int
def TokAt (w:World) (g:Nat) (T:List Lx.Tok):Prop:=g<w.heap.size/\∀ j,j<T.length * 4->w.cell? ⟨g,j,none⟩=(tokCs T)[j]?
theorem TokAt.ext {w w':World} {g:Nat} {T:List Lx.Tok} (h:TokAt w g T) (hx:w'.heap[g]?=w.heap[g]?) (hs:w.heap.size<=w'.heap.size):TokAt w' g T :=
 ⟨Nat.lt_of_lt_of_le h.1 hs,fun j hj=>by rw [show w'.cell? ⟨g,j,none⟩=w.cell? ⟨g,j,none⟩ by simp [World.cell?,hx]];exact h.2 j hj⟩
theorem tokCs_get:∀ (T:List Lx.Tok) (i:Nat) (t:Lx.Tok),T[i]?=some t->∀ j,j<4->(tokCs T)[i * 4+j]?=(tokC t)[j]?
 |y::T,0,t,h,j,hj=>by
  obtain rfl:y=t:=by simpa using h
  rw [Nat.zero_mul,Nat.zero_add];simp only [tokCs,List.flatMap_cons];rw [List.getElem?_append_left (by simp [tokC];omega)]
 |y::T,i+1,t,h,j,hj=>by
  have ih:=tokCs_get T i t (by simpa using h) j hj;simp only [tokCs,List.flatMap_cons] at ih |-;rw [List.getElem?_append_right (by simp [tokC];omega),<- ih];congr 1;simp [tokC];omega
theorem TokAt.get {w:World} {g:Nat} {T:List Lx.Tok} (h:TokAt w g T) {i:Nat} {t:Lx.Tok} (hi:T[i]?=some t) :
 w.cell? ⟨g,i * 4,none⟩=some (.int .i64 t.kind)/\w.cell? ⟨g,i * 4+1,none⟩=some (.string ⟨t.text.toArray⟩)/\w.cell? ⟨g,i * 4+2,none⟩=some (.int .i64 t.n)/\w.cell? ⟨g,i * 4+3,none⟩=some (.int .i64 t.pos):=by
 have hl:=(List.getElem?_eq_some_iff.1 hi).1;have hc:∀ j,j<4->w.cell? ⟨g,i * 4+j,none⟩=(tokC t)[j]?:=fun j hj=>by
  rw [h.2 _ (by omega),tokCs_get T i t hi j hj]
 exact ⟨hc 0 (by omega),hc 1 (by omega),hc 2 (by omega),hc 3 (by omega)⟩
def psA (g n:Nat):Option Addr:=if n=0 then none else some ⟨g,0,none⟩
theorem psA_pos {g n:Nat} (h:0<n):psA g n=some ⟨g,0,none⟩:=if_neg (by omega)
def psC (g cap n long:Nat) (s:PSt):Array Value:= #[.slice (psA g n) n cap,.int .i64 s.i,.int .i64 long,.int .i64 s.deep,.int .i64 s.at_,.int .i64 s.e]
structure PsAt (w:World) (p g cap long:Nat) (T:List Lx.Tok) (s:PSt):Prop where
 blk:Blk w p (psC g cap T.length long s) 125
 tok:TokAt w g T
 ne:g≠p
 le:s.i<=T.length
 cap:T.length<=cap
 few:T.length<=4000
theorem PsAt.ext {w w':World} {p g cap long:Nat} {T:List Lx.Tok} {s:PSt} (h:PsAt w p g cap long T s) (hx:Ext w w'):PsAt w' p g cap long T s :=
 ⟨h.blk.keep hx,h.tok.ext (hx.block g h.tok.1) hx.size,h.ne,h.le,h.cap,h.few⟩
def isB (T:List Lx.Tok) (s:PSt) (kind:Int) (x:List UInt8):Bool:=(s.e == 0) && (match T[s.i]? with|some t=>((t.kind:Int) == kind) && (t.text == x)|none=>false)
theorem bel_drewN (w:World) (n:Nat):Below w.heap.size w (w.drewN n):=⟨rfl,rfl,rfl,Nat.le_refl _,fun _ _=>rfl⟩
theorem eq_texts (l:List UInt8) (s:ByteArray):(l == s.toList)=(l == bsl s):=by
 rw [ByteArray.toList_eq];rfl
theorem is_any (p g cap long:Nat) (T:List Lx.Tok) (s:PSt) (kind:Int) (text:ByteArray) (w:World) (h:PsAt w p g cap long T s) :
 Calls Tryz.prog 95 #[.pointer (some ⟨p,0,none⟩),.int .i64 kind,.string text] w fun e w'=>e= .returned (.bool (isB T s kind (bsl text)))/\Below w.heap.size w w':=by
 have mixed:Tryz.prog.follows .mixedOrders=true:=by kernel_rfl
 obtain ⟨i,deep,at_,e⟩:=s;obtain ⟨hb,ht,hne,hle,hcap,hfew⟩:=h;unfold psC at hb;simp only at hb hle;obtain ⟨n,hn⟩:∃ n,n=T.length:=⟨_,rfl⟩
 rw [<- hn] at hb hle hcap hfew;obtain ⟨ga,hga⟩:∃ ga,ga=psA g n:=⟨_,rfl⟩
 rw [<- hga] at hb;obtain ⟨cb,fb⟩:=hb.facts;have hbl:=hb.lt;unfold isB;simp only;cases he:e == 0
 ·rw [Bool.false_and];clear hle hcap hfew hn ht hb;go_enter Tryz.func95,Tryz.ntmps95;go_simp
  repeat (first|go_values|go_skip|go_guarded|go_step|go_upon)
  go_quiet (fail);go_wp2;go_returns;exact ⟨rfl,bel_drewN _ _⟩
 ·rw [Bool.true_and];cases hti:T[i]? with
  |none =>
   have hge:n<=i:=by rw [hn];exact List.getElem?_eq_none_iff.1 hti
   have hnl:decide ((i:Int)<(n:Int))=false:=by rw [decide_eq_false_iff_not];omega
   have hnl2:decide (i<n)=false:=by rw [decide_eq_false_iff_not];omega
   simp only;clear hle hcap hfew hn ht hti hge hb;go_enter Tryz.func95,Tryz.ntmps95;go_simp
   repeat (first|go_values|go_skip|go_guarded|go_step|go_upon)
   go_quiet (fail);go_wp2;go_returns;exact ⟨rfl,bel_drewN _ _⟩
  |some tok =>
   have hlt:i<n:=by rw [hn];exact (List.getElem?_eq_some_iff.1 hti).1
   have hltI:(i:Int)<(n:Int):=by omega
   rw [psA_pos (by omega)] at hga;subst hga;have hltB:decide ((i:Int)<(n:Int))=true:=by rw [decide_eq_true_iff];exact hltI
   obtain ⟨q0,q1,_,_⟩:=ht.get hti;have hgl:=ht.1;obtain ⟨tk',tt,tn,tp⟩:=tok;simp only at q0 q1 |-;obtain ⟨tk,htk⟩:∃ z:Int,z=(tk':Int):=⟨_,rfl⟩
   rw [<- htk] at q0 |-;have HQ:=eq_texts tt text;clear hle hn ht hti htk hb;cases hk:tk == kind
   ·rw [Bool.false_and];clear HQ;go_enter Tryz.func95,Tryz.ntmps95;go_simp
    repeat (first|go_values|go_skip|go_guarded|go_step|go_upon)
    go_quiet (fail);go_wp2;go_returns;exact ⟨rfl,bel_drewN _ _⟩
   ·rw [Bool.true_and];go_enter Tryz.func95,Tryz.ntmps95;go_simp
    repeat (first|go_values|go_skip|go_guarded|go_step|go_upon)
    go_quiet (fail);go_wp2;go_returns;exact ⟨rfl,bel_drewN _ _⟩
end Go.Proofs.YtimeipjcmffadaaGreatDoor
namespace Go.Proofs.YtimeipjcmffadaaGreatDoor
open Go.RowKit Go.Shelf
set_option maxRecDepth 100000
theorem refletter_any (c:UInt8) (w:World) :
 Calls Tryz.prog 140 #[.int .u8 c.toNat] w fun e w'=>e= .returned (.bool (Lx.isNameB c))/\w=w':=by
 have hL:=isLetter_eq c;have hB:Lx.isNameB c=(Lx.isLetter c ||Lx.isDigit c):=rfl;rw [hB,hL];clear hB hL;have hc:=c.toNat_lt;go_enter Tryz.func140,Tryz.ntmps140;go_wp2_with (go_at_call 138;refine (refdigit_any c w).mono ?_;rintro e w' ⟨rfl,rfl⟩)
 all_goals (go_ret;refine ⟨ret_bool ?_,rfl⟩)
 all_goals first
  |rfl
  |(generalize Lx.isDigit c=d;rw [Bool.eq_iff_iff];cases d<;>simp<;>omega)
structure BRow (W:World) (b:Nat) (l:List UInt8):Prop where
 cell:∀ (j:Nat) (c:UInt8),l[j]?=some c->W.cell? ⟨b,j,none⟩=some (.int .u8 c.toNat)
 free:∀ j,j<l.length->W.frozen? ⟨b,j,none⟩=false
theorem BRow.start (w:World) (s:ByteArray):BRow (Lib.bytesWorld w 5 s) w.heap.size (bsl s):=by
 refine ⟨fun j c hc=>?_,fun j hj=>?_⟩
 ·have hj:j<s.size:=by rw [<- bsl_length];exact (List.getElem?_eq_some_iff.1 hc).1
  rw [Lib.bytesWorld_cell w _ s j hj];have e:s.data.toList.getD j 0=c:=by
   rw [List.getD,show s.data.toList[j]?=some c from hc];rfl
  rw [e]
 ·rw [bsl_length] at hj;have hb:=Lib.bytesWorld_at_new w 5 s;have hsz:s.size<=(Lib.bytesCells w 5 s).size:=by
   rcases Nat.lt_or_ge ((Lib.bytesCells w 5 s).size) s.size with h|h
   ·exfalso;have h1:=Lib.bytesWorld_cell w 5 s ((Lib.bytesCells w 5 s).size) h;simp [World.cell?,hb] at h1
   ·exact h
  simp [World.frozen?,hb];omega
theorem BRow.set {W:World} {b k:Nat} {a r:List UInt8} {c:UInt8} {d:List UInt8} (h:BRow W b (a++d)) (hk:a.length=k) (hd:d=c::r) (u:UInt8):BRow (W.setCell ⟨b,k,none⟩ (.int .u8 u.toNat)) b (a++u::r):=by
 subst hd;refine ⟨fun j x hx=>?_,fun j hj=>?_⟩
 ·rcases Nat.lt_trichotomy j k with hlt|rfl|hgt
  ·rw [World.cell?_setCell_other _ _ _ _ (by intro h;simp only [Addr.mk.injEq] at h;omega)];apply h.cell;rw [List.getElem?_append_left (by omega)] at hx |-;exact hx
  ·rw [List.getElem?_append_right (by omega),hk,Nat.sub_self,List.getElem?_cons_zero] at hx;cases hx;exact World.cell?_setCell_same _ _ _ (h.cell j c (by rw [List.getElem?_append_right (by omega),hk,Nat.sub_self];rfl))
  ·rw [World.cell?_setCell_other _ _ _ _ (by intro h;simp only [Addr.mk.injEq] at h;omega)];apply h.cell;rw [List.getElem?_append_right (by omega)] at hx |-;rw [show j - a.length=(j - a.length - 1)+1 by omega,List.getElem?_cons_succ] at hx |-;exact hx
 ·rw [World.frozen?_setCell];exact h.free j (by simpa using hj)
theorem BRow.nums {W:World} {b:Nat} {l:List UInt8} (h:BRow W b l):∀ i,i<l.length->W.cell? ⟨b,0+i,none⟩=some (.int .u8 ((l.map fun c=>(c.toNat:Int)).getD i 0)):=by
 intro i hi;rw [Nat.zero_add,h.cell i _ (List.getElem?_eq_getElem hi)];simp [List.getD,List.getElem?_eq_getElem hi]
theorem upperB_eq (c:UInt8):Lib.upperB c=if 97<=c.toNat/\c.toNat<=122 then c - 32 else c:=by
 simp [Lib.upperB,Lib.isLowerB,UInt8.le_iff_toNat_le]
theorem lowerB_eq (c:UInt8):Lib.lowerB c=if 65<=c.toNat/\c.toNat<=90 then c+32 else c:=by
 simp [Lib.lowerB,Lib.isUpperB,UInt8.le_iff_toNat_le]
theorem u8_sub32 {c:UInt8} (h:97<=c.toNat):(((c - 32).toNat:Nat):Int)=(c.toNat:Int) - 32:=by
 rw [UInt8.toNat_sub_of_le _ _ (by rw [UInt8.le_iff_toNat_le];show 32<=_;omega)];show ((c.toNat - 32:Nat):Int)=_;omega
theorem u8_add32 {c:UInt8} (h:c.toNat<=90):(((c+32).toNat:Nat):Int)=(c.toNat:Int)+32:=by
 rw [UInt8.toNat_add];show (((c.toNat+32) % 256:Nat):Int)=_;omega
theorem refupper_any (s:ByteArray) (w:World) (hs:s.size<=140737488355327) :
 Calls Tryz.prog 141 #[.string s] w fun e w'=>e= .returned (.string ⟨((bsl s).map Lib.upperB).toArray⟩)/\Below w.heap.size w w':=by
 go_enter Tryz.func141,Tryz.ntmps141;go_wp2_with fail;rw [Lib.run_convert_string_bytes w 9 112 5 s Tryz.underlying9 Tryz.underlying112 Tryz.underlying5];have hrow:=BRow.start w s;have hbel:=Lib.bytesWorld_below w 5 s;generalize hW1:Lib.bytesWorld w 5 s=W1 at hrow hbel |-;clear hW1;generalize hcap:grownCap w s.size 0 5=cap;clear hcap;have HB1:=h_ hbel;have HR1:=h_ hrow;clear hbel hrow;go_wp2_with fail;go_loopw [4] (fun i W=>∃ k:Nat,i= .int .i64 k/\k<=s.size/\BRow W w.heap.size (((bsl s).take k).map Lib.upperB++(bsl s).drop k)/\Below w.heap.size w W) (fun i _=>s.size - (intOf i).toNat)
 case atStart=>exact ⟨0,rfl,Nat.zero_le _,by simpa using HR1.out,HB1.out⟩
 case round =>
  obtain ⟨k,rfl,hk,hR,hB⟩:=hrel;have HR:=h_ hR;have HB:=h_ hB;clear hR hB;by_cases hlt:k<s.size
  ·have hd:=bsl_drop_cons s k hlt;have ht:(bsl s).take (k+1)=(bsl s).take k++[s[k]'hlt]:=by rw [List.take_add_one,bsl_get s k hlt];rfl
   have hl:(((bsl s).take k).map Lib.upperB).length=k:=by rw [List.length_map,List.length_take,bsl_length];omega
   have hc:=HR.out.cell k (s[k]'hlt) (by rw [hd,List.getElem?_append_right (by omega),hl];simp);have hf:=HR.out.free k (by rw [List.length_append,hl,List.length_drop,bsl_length];omega);have HU:=h_ (upperB_eq (s[k]'hlt));have HN:=h_ (BRow.set HR.out hl hd);have HT:=h_ ht;have hc8:=(s[k]'hlt).toNat_lt;have HD:=h_ hd;generalize s[k]'hlt=c at hc HU HN HT HD hc8;clear hd hl ht;by_cases hin:97<=c.toNat/\c.toNat<=122
   ·obtain ⟨h1,h2⟩:=hin;go_wp2_with fail;go_roundw
    case rel =>
     have hu:Lib.upperB c=c - 32:=by rw [HU.out,if_pos ⟨h1,h2⟩]
     refine ⟨k+1,by go_num,hlt,?_,HB.out.setCell (p:=⟨w.heap.size,k,none⟩) (Nat.le_refl _) _⟩;have:=HN.out (Lib.upperB c);rw [HT.out,List.map_append,List.append_assoc];have e:(((Lib.upperB c).toNat:Nat):Int)=(c.toNat:Int) - 32:=by rw [hu,u8_sub32 h1]
     rw [e] at this;exact this
    case measure=>simp [intOf];omega
   ·go_wp2_with fail
    all_goals
     go_roundw
     case rel =>
      have hu:Lib.upperB c=c:=by rw [HU.out,if_neg hin]
      refine ⟨k+1,by go_num,hlt,?_,HB.out⟩;rw [HT.out,List.map_append,List.append_assoc,List.map_cons,List.map_nil,hu,List.singleton_append,<- HD.out];exact HR.out
     case measure=>simp [intOf];omega
  ·have hfin:BRow wr w.heap.size ((bsl s).map Lib.upperB):=by
    have:=HR.out
    rwa [List.take_of_length_le (by rw [bsl_length];omega),List.drop_eq_nil_of_le (by rw [bsl_length];omega),List.append_nil] at this
   go_wp2_with fail;rw [run_convert_bytes_arg _ 112 5 Tryz.underlying112 Tryz.underlying5 w.heap.size 0 s.size cap (((bsl s).map Lib.upperB).map fun c=>(c.toNat:Int)) (by simp [bsl_length]) (fun i hi=>hfin.nums i (by rw [List.length_map,bsl_length];exact hi)) 9 Tryz.underlying9];rw [Lib.Lz.strOfNums_map];go_wp2_with fail;go_ret;exact ⟨rfl,HB.out⟩
theorem reflower_any (s:ByteArray) (w:World) (hs:s.size<=140737488355327) :
 Calls Tryz.prog 143 #[.string s] w fun e w'=>e= .returned (.string ⟨((bsl s).map Lib.lowerB).toArray⟩)/\Below w.heap.size w w':=by
 go_enter Tryz.func143,Tryz.ntmps143;go_wp2_with fail;rw [Lib.run_convert_string_bytes w 9 112 5 s Tryz.underlying9 Tryz.underlying112 Tryz.underlying5];have hrow:=BRow.start w s;have hbel:=Lib.bytesWorld_below w 5 s;generalize hW1:Lib.bytesWorld w 5 s=W1 at hrow hbel |-;clear hW1;generalize hcap:grownCap w s.size 0 5=cap;clear hcap;have HB1:=h_ hbel;have HR1:=h_ hrow;clear hbel hrow;go_wp2_with fail;go_loopw [4] (fun i W=>∃ k:Nat,i= .int .i64 k/\k<=s.size/\BRow W w.heap.size (((bsl s).take k).map Lib.lowerB++(bsl s).drop k)/\Below w.heap.size w W) (fun i _=>s.size - (intOf i).toNat)
 case atStart=>exact ⟨0,rfl,Nat.zero_le _,by simpa using HR1.out,HB1.out⟩
 case round =>
  obtain ⟨k,rfl,hk,hR,hB⟩:=hrel;have HR:=h_ hR;have HB:=h_ hB;clear hR hB;by_cases hlt:k<s.size
  ·have hd:=bsl_drop_cons s k hlt;have ht:(bsl s).take (k+1)=(bsl s).take k++[s[k]'hlt]:=by rw [List.take_add_one,bsl_get s k hlt];rfl
   have hl:(((bsl s).take k).map Lib.lowerB).length=k:=by rw [List.length_map,List.length_take,bsl_length];omega
   have hc:=HR.out.cell k (s[k]'hlt) (by rw [hd,List.getElem?_append_right (by omega),hl];simp);have hf:=HR.out.free k (by rw [List.length_append,hl,List.length_drop,bsl_length];omega);have HU:=h_ (lowerB_eq (s[k]'hlt));have HN:=h_ (BRow.set HR.out hl hd);have HT:=h_ ht;have hc8:=(s[k]'hlt).toNat_lt;have HD:=h_ hd;generalize s[k]'hlt=c at hc HU HN HT HD hc8;clear hd hl ht;by_cases hin:65<=c.toNat/\c.toNat<=90
   ·obtain ⟨h1,h2⟩:=hin;go_wp2_with fail;go_roundw
    case rel =>
     have hu:Lib.lowerB c=c+32:=by rw [HU.out,if_pos ⟨h1,h2⟩]
     refine ⟨k+1,by go_num,hlt,?_,HB.out.setCell (p:=⟨w.heap.size,k,none⟩) (Nat.le_refl _) _⟩;have:=HN.out (Lib.lowerB c);rw [HT.out,List.map_append,List.append_assoc];have e:(((Lib.lowerB c).toNat:Nat):Int)=(c.toNat:Int)+32:=by rw [hu,u8_add32 h2]
     rw [e] at this;exact this
    case measure=>simp [intOf];omega
   ·go_wp2_with fail
    all_goals
     go_roundw
     case rel =>
      have hu:Lib.lowerB c=c:=by rw [HU.out,if_neg hin]
      refine ⟨k+1,by go_num,hlt,?_,HB.out⟩;rw [HT.out,List.map_append,List.append_assoc,List.map_cons,List.map_nil,hu,List.singleton_append,<- HD.out];exact HR.out
     case measure=>simp [intOf];omega
  ·have hfin:BRow wr w.heap.size ((bsl s).map Lib.lowerB):=by
    have:=HR.out
    rwa [List.take_of_length_le (by rw [bsl_length];omega),List.drop_eq_nil_of_le (by rw [bsl_length];omega),List.append_nil] at this
   go_wp2_with fail;rw [run_convert_bytes_arg _ 112 5 Tryz.underlying112 Tryz.underlying5 w.heap.size 0 s.size cap (((bsl s).map Lib.lowerB).map fun c=>(c.toNat:Int)) (by simp [bsl_length]) (fun i hi=>hfin.nums i (by rw [List.length_map,bsl_length];exact hi)) 9 Tryz.underlying9];rw [Lib.Lz.strOfNums_map];go_wp2_with fail;go_ret;exact ⟨rfl,HB.out⟩
def wordCells:Array Value:=(Lx.words.map fun l=>Value.string ⟨l.toArray⟩).toArray
theorem refwords_any (w:World) :
 Calls Tryz.prog 219 #[] w fun e w'=>e= .returned (.slice (some ⟨w.heap.size,0,none⟩) 48 48)/\Blk w' w.heap.size wordCells 9/\Below w.heap.size w w':=by
 go_enter Tryz.func219,Tryz.ntmps219;go_wp2_with fail;go_ret;refine ⟨rfl,?_,by go_grown⟩;exact Blk.new w wordCells 9 rfl
theorem words_len:Lx.words.length=48:=by decide
theorem wordCells_at {k:Nat} {l:List UInt8} (h:Lx.words[k]?=some l):wordCells[k]?=some (.string ⟨l.toArray⟩):=by
 simp [wordCells,h]
theorem refisword_any (s:ByteArray) (w:World) :
 Calls Tryz.prog 142 #[.string s] w fun e w'=>e= .returned (.bool (Lx.isWord (bsl s)))/\Below w.heap.size w w':=by
 go_enter Tryz.func142,Tryz.ntmps142;go_wp2_with fail;refine (refwords_any w).mono ?_;rintro e w1 ⟨rfl,hblk,hbel⟩;have HB:=h_ hbel;have HK:=h_ hblk;clear hbel hblk;go_wp2_with fail;go_loop [4] (fun i=>∃ k:Nat,i= .int .i64 k/\k<=48/\∀ j,j<k->Lx.words[j]?≠some (bsl s)) (fun i=>48 - (intOf i).toNat)
 case atStart=>exact ⟨0,rfl,Nat.zero_le _,fun j h=>absurd h (Nat.not_lt_zero _)⟩
 case round =>
  obtain ⟨k,rfl,hk,hno⟩:=hrel;have HN:=h_ hno;clear hno;by_cases hlt:k<48
  ·obtain ⟨l,hl⟩:∃ l,Lx.words[k]?=some l:=⟨_,List.getElem?_eq_getElem (by rw [words_len];exact hlt)⟩
   have hc:=(HK.out.cell k).trans (wordCells_at hl);have hcmp:=bytes_ne (a:=l) (s:=s);have HL:=h_ hl;clear hl;by_cases he:l=bsl s
   ·rw [decide_eq_true he] at hcmp;have HE:=h_ he;clear he;go_wp2_with fail;go_ret;refine ⟨ret_bool ?_,HB.out⟩;rw [Lx.isWord,<- HE.out];exact (List.contains_iff_mem.2 (List.mem_of_getElem? HL.out)).symm
   ·rw [decide_eq_false he] at hcmp;have HE:=h_ he;clear he;go_wp2_with fail;go_round
    case rel =>
     refine ⟨k+1,by go_num,by omega,fun j hj=>?_⟩;rcases Nat.lt_or_ge j k with h|h
     ·exact HN.out j h
     ·obtain rfl:j=k:=by omega
      rw [HL.out];exact fun h=>HE.out (Option.some.inj h)
    case measure=>simp [intOf];omega
  ·go_wp2_with fail;go_ret;refine ⟨ret_bool ?_,HB.out⟩;symm;rw [Lx.isWord,Bool.eq_false_iff];intro h;obtain ⟨j,hj⟩:=List.mem_iff_getElem?.1 (List.contains_iff_mem.1 h);have hj2:j<48:=by rw [<- words_len];exact (List.getElem?_eq_some_iff.1 hj).1
   exact HN.out j (by omega) hj
def refOp (l:List UInt8):List UInt8 :=
 if Lx.ops2.contains (l.take 2) then l.take 2 else if Lx.ops1.contains (l.headD 0) then l.take 1 else []
theorem ext2 {s:ByteArray} {x:List UInt8} (h:(bsl s).take 2=x):s.extract 0 2=⟨x.toArray⟩:=by
 rw [Lib.extract_upto,<- h];rfl
theorem ext2_ne {s:ByteArray} {x:List UInt8} (h:(bsl s).take 2≠x):((s.extract 0 2).toList == x)=false:=by
 rw [ext2 rfl,ByteArray.toList_eq,beq_eq_false_iff_ne];exact h
theorem extR1 {s:ByteArray} (h0:0<s.size):s.extract 0 1=⟨[s[0]'h0].toArray⟩:=by
 have hd:=bsl_drop_cons s 0 h0;rw [List.drop_zero,bsl] at hd;rw [Lib.extract_upto,hd];rfl
theorem refOp_miss {s:ByteArray} (h0:0<s.size) (h:Lx.ops2.contains ((bsl s).take 2)=false):refOp (bsl s)=if Lx.ops1.contains (s[0]'h0) then [s[0]'h0] else []:=by
 have hd:=bsl_drop_cons s 0 h0;rw [List.drop_zero] at hd;rw [refOp,h,hd];rfl
theorem refop_any (s:ByteArray) (w:World) (hs:s.size<=maxLen) (h0:0<s.size) :
 Calls Tryz.prog 145 #[.string s] w fun e w'=>e= .returned (.string ⟨(refOp (bsl s)).toArray⟩)/\w=w':=by
 unfold maxLen at hs;cases hm:Lx.ops2.contains ((bsl s).take 2)
 ·have HM:=h_ (refOp_miss h0 hm);have hne:∀ x∈Lx.ops2,(bsl s).take 2≠x:=by
   intro x hx e;rw [e,<- Bool.not_eq_true] at hm;exact hm (List.contains_iff_mem.2 hx)
  clear hm;have f0:=ext2_ne (hne [60,62] (by decide));have f1:=ext2_ne (hne [60,61] (by decide));have f2:=ext2_ne (hne [62,61] (by decide));have f3:=ext2_ne (hne [60,60] (by decide));have f4:=ext2_ne (hne [62,62] (by decide));have f5:=ext2_ne (hne [124,124] (by decide));clear hne;have hx:=extR1 h0;cases h1:Lx.ops1.contains (s[0]'h0)
  ·have hne:∀ x∈Lx.ops1,((((s[0]'h0).toNat:Nat):Int) == ((x.toNat:Nat):Int))=false:=by
    intro x hx;rw [beq_eq_false_iff_ne];intro e;have:s[0]'h0=x:=by rw [<- UInt8.toNat_inj];omega
    rw [this,<- Bool.not_eq_true] at h1;exact h1 (List.contains_iff_mem.2 hx)
   have H1:=h_ h1;clear h1 hx;have g0:((((s[0]'h0).toNat:Nat):Int) == 40)=false:=hne 40 (by decide);have g1:((((s[0]'h0).toNat:Nat):Int) == 41)=false:=hne 41 (by decide);have g2:((((s[0]'h0).toNat:Nat):Int) == 44)=false:=hne 44 (by decide);have g3:((((s[0]'h0).toNat:Nat):Int) == 46)=false:=hne 46 (by decide);have g4:((((s[0]'h0).toNat:Nat):Int) == 59)=false:=hne 59 (by decide);have g5:((((s[0]'h0).toNat:Nat):Int) == 42)=false:=hne 42 (by decide);have g6:((((s[0]'h0).toNat:Nat):Int) == 61)=false:=hne 61 (by decide);have g7:((((s[0]'h0).toNat:Nat):Int) == 60)=false:=hne 60 (by decide);have g8:((((s[0]'h0).toNat:Nat):Int) == 62)=false:=hne 62 (by decide);have g9:((((s[0]'h0).toNat:Nat):Int) == 43)=false:=hne 43 (by decide);have g10:((((s[0]'h0).toNat:Nat):Int) == 45)=false:=hne 45 (by decide);have g11:((((s[0]'h0).toNat:Nat):Int) == 47)=false:=hne 47 (by decide);have g12:((((s[0]'h0).toNat:Nat):Int) == 37)=false:=hne 37 (by decide);have g13:((((s[0]'h0).toNat:Nat):Int) == 38)=false:=hne 38 (by decide);have g14:((((s[0]'h0).toNat:Nat):Int) == 124)=false:=hne 124 (by decide);have g15:((((s[0]'h0).toNat:Nat):Int) == 94)=false:=hne 94 (by decide);clear hne;by_cases h2:2<=s.size
   all_goals
    go_enter Tryz.func145,Tryz.ntmps145;go_wp2_with fail;go_ret;exact ⟨by rw [HM.out,H1.out];rfl,rfl⟩
  ·have h1':=h1;simp [Lx.ops1] at h1';have H1:=h_ h1;clear h1;by_cases h2:2<=s.size
   all_goals
    rcases h1' with h|h|h|h|h|h|h|h|h|h|h|h|h|h|h|h
    all_goals
     have HH:=h_ h;rw [h] at hx;go_enter Tryz.func145,Tryz.ntmps145;go_wp2_with fail;go_ret;exact ⟨by rw [HM.out,H1.out,HH.out];rfl,rfl⟩
 ·have e:refOp (bsl s)=(bsl s).take 2:=by rw [refOp,hm];rfl
  have hm':=List.contains_iff_mem.1 hm;have h2:2<=s.size:=by
   rw [<- bsl_length];rcases Nat.lt_or_ge (bsl s).length 2 with h|h
   ·exfalso;have hl:((bsl s).take 2).length<2:=by rw [List.length_take];omega
    simp [Lx.ops2] at hm';rcases hm' with h|h|h|h|h|h<;>(rw [h] at hl;simp at hl)
   ·exact h
  rw [e];clear e hm;simp [Lx.ops2] at hm';rcases hm' with h|h|h|h|h|h
  all_goals
   have hx:=ext2 h;rw [h];clear h;go_enter Tryz.func145,Tryz.ntmps145;go_wp2_with fail;go_ret;exact ⟨rfl,rfl⟩
def textV (at_:Nat):Option (Nat × List UInt8 × Int × Nat)->Value
 |none=> .tuple #[.string ⟨#[]⟩,.int .i64 0,.bool false]
 |some x=> .tuple #[.string ⟨x.2.1.toArray⟩,.int .i64 ((at_+x.2.2.2:Nat):Int),.bool true]
theorem ext_one (s:ByteArray) (k:Nat) (h:k<s.size):s.extract k (k+1)=⟨[s[k]'h].toArray⟩:=by
 have hd:=bsl_drop_cons s k h;apply ByteArray.ext;apply Array.toList_inj.1;rw [Lib.extract_data];show (((bsl s).drop k).take (k+1 - k))=_;rw [hd];simp
theorem ba_append (a b:List UInt8):(ByteArray.mk a.toArray)++⟨b.toArray⟩=⟨(a++b).toArray⟩:=by
 apply ByteArray.ext;simp
theorem reftext2_any (s:ByteArray) (k:Nat) (w:World) (hs:s.size<=4000) (hk:k<s.size) :
 Calls Tryz.prog 144 #[.string s,.int .i64 k] w fun e w'=>e= .returned (textV k (textE ((bsl s).drop k)))/\w=w':=by
 go_enter Tryz.func144,Tryz.ntmps144;go_wp2_with fail;go_loop [7,8] (fun o i=>∃ (n:Nat) (acc:List UInt8),i= .int .i64 ((k+n:Nat):Int)/\k+n<=s.size+1/\o= .string ⟨acc.toArray⟩/\TextAt ((bsl s).drop k) acc n) (fun _ i=>s.size+1 - (intOf i).toNat)
 case atStart=>exact ⟨1,[],by go_num,by omega,rfl,TextAt.start _⟩
 case round =>
  obtain ⟨n,acc,rfl,hn,rfl,hT⟩:=hrel;have hle:=hT.len;have HT:=h_ hT;clear hT;by_cases hlt:k+n<s.size
  ·have hg:=bsl_get s (k+n) hlt;rw [<- List.getElem?_drop] at hg;have HG:=h_ hg;clear hg;by_cases h39:s[k+n]'hlt=39
   ·have HQ:=h_ h39;have e39:(((s[k+n]'hlt).toNat:Int) !=39)=false:=by rw [h39];rfl
    clear h39;by_cases hl2:k+n+1<s.size
    ·have hg2:((bsl s).drop k)[n+1]?=some (s[k+n+1]'hl2):=by
      rw [List.getElem?_drop,<- Nat.add_assoc];exact bsl_get s (k+n+1) hl2
     have HG2:=h_ hg2;clear hg2;by_cases h392:s[k+n+1]'hl2=39
     ·have HQ2:=h_ h392;have e392:(((s[k+n+1]'hl2).toNat:Int) == 39)=true:=by rw [h392];rfl
      clear h392;go_wp2_with fail
      case roundEnd =>
       refine ⟨⟨n+2,acc++[39],by go_num,by omega,?_,HT.out.twice (by rw [HG.out,HQ.out]) (by rw [HG2.out,HQ2.out])⟩,by simp [intOf];omega⟩;exact congrArg Value.string (ba_append acc [39])
     ·have HQ2:=h_ h392;have e392:(((s[k+n+1]'hl2).toNat:Int) == 39)=false:=by
       rw [beq_eq_false_iff_ne];intro h;exact h392 (by rw [<- UInt8.toNat_inj];simpa using (by omega:(s[k+n+1]'hl2).toNat=39))
      clear h392;go_wp2_with fail;go_ret3;exact ⟨by rw [HT.out.stop (by rw [HG.out,HQ.out]) (by rw [HG2.out];exact fun h=>HQ2.out (Option.some.inj h))];rfl,rfl⟩
    ·go_wp2_with fail;go_ret3;exact ⟨by rw [HT.out.stop (by rw [HG.out,HQ.out]) (by rw [List.getElem?_eq_none (by rw [List.length_drop,bsl_length];omega)];simp)];rfl,rfl⟩
   ·have HQ:=h_ h39;have e39:(((s[k+n]'hlt).toNat:Int) !=39)=true:=by
     rw [bne_iff_ne];intro h;exact h39 (by rw [<- UInt8.toNat_inj];simpa using (by omega:(s[k+n]'hlt).toNat=39))
    clear h39;go_wp2_with fail
    case roundEnd =>
     refine ⟨⟨n+1,acc++[s[k+n]'hlt],by go_num,by omega,?_,HT.out.plain HG.out HQ.out⟩,by simp [intOf];omega⟩;rw [ext_one s (k+n) hlt];exact congrArg Value.string (ba_append acc [s[k+n]'hlt])
  ·go_wp2_with fail;go_ret3;exact ⟨by rw [HT.out.none (by rw [List.length_drop,bsl_length];omega)];rfl,rfl⟩
theorem num_le_take (l:List UInt8) (k:Nat):Lx.num (l.take k)<=Lx.num l:=by
 have h:=num_append (l.take k) (l.drop k);rw [List.take_append_drop] at h;rw [h];have:1<=10 ^ (l.drop k).length:=Nat.one_le_pow _ _ (by decide);have:=Nat.le_mul_of_pos_right (Lx.num (l.take k)) this;omega
theorem num_take_succ {s:ByteArray} {k:Nat} (h:k<s.size):Lx.num ((bsl s).take (k+1))=Lx.num ((bsl s).take k) * 10+((s[k]'h).toNat - 48):=by
 rw [List.take_add_one,bsl_get s k h,num_append];simp [Lx.num]
def parseV (n:Nat):Value:=if n<=9223372036854775807 then .tuple #[.int .i64 n,.int .i64 0] else .tuple #[.int .i64 0,.int .i64 17]
theorem refparse_any (s:ByteArray) (w:World) (hs:s.size<=4000) (h0:0<s.size) (hd:∀ c∈bsl s,Lx.isDigit c=true) :
 Calls Tryz.prog 139 #[.string s] w fun e w'=>e= .returned (parseV (Lx.num (bsl s)))/\w=w':=by
 have hdig:∀ k,(h:k<s.size)->48<=(s[k]'h).toNat/\(s[k]'h).toNat<=57:=by
  intro k h;have:=hd _ (List.mem_of_getElem? (bsl_get s k h));simp [Lx.isDigit,UInt8.le_iff_toNat_le] at this;exact this
 have HD:=h_ hdig;clear hdig hd;have h45:(((s[0]'h0).toNat:Int) == 45)=false:=by
  have:=HD.out 0 h0;rw [beq_eq_false_iff_ne];omega
 have hne:(s.toList == [])=false:=by
  rw [ByteArray.toList_eq,beq_eq_false_iff_ne];intro h;have:=bsl_length s;rw [bsl,h] at this;simp at this;omega
 go_enter Tryz.func139,Tryz.ntmps139;go_wp2_with fail;go_loop [5] (fun i=>∃ k:Nat,k<=s.size/\i= .int .i64 k) (fun i=>s.size - (intOf i).toNat)
 case atStart=>exact ⟨0,Nat.zero_le _,rfl⟩
 case round =>
  obtain ⟨k,hk,rfl⟩:=hrel;by_cases hlt:k<s.size
  ·obtain ⟨d1,d2⟩:=HD.out k hlt;go_wp2_with fail;go_round
   case rel=>exact ⟨k+1,by omega,by go_num⟩
   case measure=>simp [intOf];omega
  ·go_wp2_with fail;go_loop [6,7] (fun x i=>∃ k:Nat,k<=s.size/\i= .int .i64 k/\x= .int .i64 (Lx.num ((bsl s).take k):Nat)/\Lx.num ((bsl s).take k)<=9223372036854775807) (fun _ i=>s.size - (intOf i).toNat)
   case atStart=>exact ⟨0,Nat.zero_le _,rfl,rfl,by simp [Lx.num]⟩
   case round =>
    obtain ⟨m,hm,rfl,rfl,hfit⟩:=hrel;by_cases hmt:m<s.size
    ·obtain ⟨d1,d2⟩:=HD.out m hmt;have HS:=h_ (num_take_succ hmt);have HM:=h_ (num_le_take (bsl s) (m+1));generalize Lx.num ((bsl s).take m)=x at hfit HS |-;by_cases hmul:(x:Int) * 10<=9223372036854775807
     ·by_cases hadd:(x:Int) * 10+(((s[m]'hmt).toNat:Int) - 48)<=9223372036854775807
      ·have HI:=h_ hmul;have HJ:=h_ hadd;go_wp2_with fail;refine (refmul_any _ w (by omega)).mono ?_;rintro e w' ⟨rfl,rfl⟩;rw [if_pos HI.out];go_wp2_with fail;refine (refadd_any _ _ w (by omega) (by omega)).mono ?_;rintro e w' ⟨rfl,rfl⟩;rw [if_pos ⟨by omega,HJ.out⟩];go_wp2_with fail;go_round
       case rel =>
        have:=HS.out;refine ⟨m+1,by omega,by go_num,?_,by omega⟩;rw [this];go_num
       case measure=>simp [intOf];omega
      ·have HI:=h_ hmul;have HJ:=h_ hadd;go_wp2_with fail;refine (refmul_any _ w (by omega)).mono ?_;rintro e w' ⟨rfl,rfl⟩;rw [if_pos HI.out];go_wp2_with fail;refine (refadd_any _ _ w (by omega) (by omega)).mono ?_;rintro e w' ⟨rfl,rfl⟩;rw [if_neg (by have:=HJ.out;omega)];go_wp2_with fail;go_ret2;refine ⟨?_,rfl⟩;have h1:=HS.out;have h2:=HM.out;rw [parseV,if_neg (by omega)];rfl
     ·have HI:=h_ hmul;go_wp2_with fail;refine (refmul_any _ w (by omega)).mono ?_;rintro e w' ⟨rfl,rfl⟩;rw [if_neg (by have:=HI.out;omega)];go_wp2_with fail;go_ret2;refine ⟨?_,rfl⟩;have h1:=HS.out;have h2:=HM.out;rw [parseV,if_neg (by omega)];rfl
    ·have e:(bsl s).take m=bsl s:=List.take_of_length_le (by rw [bsl_length];omega);rw [e] at hfit |-;have HF:=h_ hfit;clear e hfit;go_wp2_with fail;go_ret2;exact ⟨by rw [parseV,if_pos HF.out];rfl,rfl⟩
end Go.Proofs.YtimeipjcmffadaaGreatDoor
