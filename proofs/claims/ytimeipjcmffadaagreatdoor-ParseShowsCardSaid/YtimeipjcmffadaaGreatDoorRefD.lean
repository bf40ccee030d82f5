import Derived.Test.YtimeipjcmffadaaGreatDoorRefC
namespace Go.Proofs.YtimeipjcmffadaaGreatDoor
open Go.RowKit Go.Shelf
set_option maxRecDepth 100000
theorem bsl_cut (s:ByteArray) (a n:Nat):bsl (s.extract a (a+n))=((bsl s).drop a).take n:=by
 rw [bsl,Lib.extract_data,Nat.add_sub_cancel_left];rfl
structure RefAt (l:List UInt8) (acc:List Lx.Tok) (pos:Nat):Prop where
 len:acc.length<=pos
 le:pos<=l.length
 is:Lx.lex l=Lx.lexAt acc pos (l.drop pos)
section
variable {l:List UInt8} {acc:List Lx.Tok} {pos:Nat}
theorem RefAt.start (l:List UInt8):RefAt l [] 0:=⟨Nat.le_refl _,Nat.zero_le _,by rw [Lx.lex_eq];rfl⟩
theorem RefAt.blank (h:RefAt l acc pos) {c:UInt8} (hc:l[pos]?=some c) (hb:Lx.isBlank c=true):RefAt l acc (pos+1):=by
 obtain ⟨hp,he⟩:=List.getElem?_eq_some_iff.1 hc;have e:l.drop pos=c::l.drop (pos+1):=by rw [List.drop_eq_getElem_cons hp,he]
 refine ⟨by have:=h.len;omega,hp,?_⟩;rw [h.is,Lx.lexAt_skip (m:=1) (by rw [List.drop_drop,e,Lx.skip_blank hb]),List.drop_drop]
theorem RefAt.remark (h:RefAt l acc pos) (h1:l[pos]?=some 45) (h2:l[pos+1]?=some 45):RefAt l acc (pos+Lx.span (fun c=>c !=10) (l.drop pos)):=by
 obtain ⟨hp,he⟩:=List.getElem?_eq_some_iff.1 h1;obtain ⟨hp2,he2⟩:=List.getElem?_eq_some_iff.1 h2;have e:l.drop pos=45::45::l.drop (pos+2):=by rw [List.drop_eq_getElem_cons hp,he,List.drop_eq_getElem_cons hp2,he2]
 have hs:=Lx.span_le (fun c=>c !=10) (l.drop pos);rw [List.length_drop] at hs;refine ⟨by have:=h.len;omega,by omega,?_⟩;rw [h.is,Lx.lexAt_skip (m:=Lx.span (fun c=>c !=10) (l.drop pos)) (by rw [e];exact Lx.skip_remark),List.drop_drop]
theorem RefAt.done (h:RefAt l acc pos) (hp:l.length<=pos):Lx.lex l= .ok acc:=by
 rw [h.is,List.drop_eq_nil_of_le hp];exact Lx.lexAt_end rfl
theorem RefAt.err (h:RefAt l acc pos) (hs:Lx.skip false (l.drop pos)=0) (hp:pos<l.length) (ht:Lx.tok1 (l.drop pos)=none):Lx.lex l= .error pos:=by
 rw [h.is];have e:=List.drop_eq_getElem_cons hp;rw [Lx.lexAt_err (c:=l[pos]) (r:=l.drop (pos+1)) (by rw [hs,List.drop_zero,e]) (by rw [<- e];exact ht),hs,Nat.add_zero]
theorem RefAt.tok (h:RefAt l acc pos) (hs:Lx.skip false (l.drop pos)=0) (hp:pos<l.length) {x} (ht:Lx.tok1 (l.drop pos)=some x) :
 RefAt l (acc++[⟨x.1,x.2.1,x.2.2.1,pos⟩]) (pos+x.2.2.2):=by
 have e:=List.drop_eq_getElem_cons hp;have hx:=Lx.tok1_pos ht;rw [List.length_drop] at hx;refine ⟨?_,by omega,?_⟩
 ·rw [List.length_append,List.length_singleton];have:=h.len;omega
 rw [h.is,Lx.lexAt_tok (c:=l[pos]) (r:=l.drop (pos+1)) (by rw [hs,List.drop_zero,e]) (by rw [<- e];exact ht),hs,Nat.add_zero,<- e,List.drop_drop]
end
theorem blank_eq (c:UInt8):Lx.isBlank c=(((c.toNat:Int) == 32) ||((c.toNat:Int) == 9) ||((c.toNat:Int) == 10) ||((c.toNat:Int) == 13)):=by
 revert c;apply u8_all;decide +kernel
def RefE (B:Nat) (r:Except Nat (List Lx.Tok)) (e:Ending) (w:World):Prop :=
 match r with
 | .error p=>e= .returned (.agg #[.slice none 0 0,.int .i64 p,.int .i64 10])
 | .ok L=>∃ v,e= .returned (.agg #[v,.int .i64 0,.int .i64 0])/\w.ownsRow B 152 4 v L.length (tokCs L)
theorem blkR3 {w:World} {g:Nat} {a b c:Value} {t:TypeId} (h:Blk w g #[a,b,c] t) (a' b' c':Value):Blk (((w.setCell ⟨g,0,none⟩ a').setCell ⟨g,1,none⟩ b').setCell ⟨g,2,none⟩ c') g #[a',b',c'] t :=
 ((h.set 0 a').set 1 b').set 2 c'
theorem belowR3 {w w0:World} {g B:Nat} (h:Below B w0 w) (hg:B<=g) (a' b' c':Value):Below B w0 (((w.setCell ⟨g,0,none⟩ a').setCell ⟨g,1,none⟩ b').setCell ⟨g,2,none⟩ c') :=
 ((h.setCell (p:=⟨g,0,none⟩) hg a').setCell (p:=⟨g,1,none⟩) hg b').setCell (p:=⟨g,2,none⟩) hg c'
theorem ownsRow_other {W:World} {base n size:Nat} {e:TypeId} {v:Value} {xs:List Value} (h:W.ownsRow base e size v n xs) {g:Nat} (hg:g<base) (o:Nat) (x:Value):(W.setCell ⟨g,o,none⟩ x).ownsRow base e size v n xs:=by
 refine ⟨h.1,?_⟩;rcases h.2 with hn|⟨g',cap,cur,rfl,hb,hgg,rest⟩
 ·exact .inl hn
 ·exact .inr ⟨g',cap,cur,rfl,hb,(heap_setCell_other W ⟨g,o,none⟩ g' x (by show g'≠g;omega)).trans hgg,rest⟩
theorem push_keep {w W W3:World} {v:Value} {n:Nat} {xs:List Value} {e t:TypeId} {o:Obj} {cs:Array Value} (hO:W.ownsRow (w.heap.size+1) e 4 v n xs) (hB:Below w.heap.size w W) (hK:Blk W w.heap.size cs t) (hs:w.heap.size<W.heap.size)
 (hgr:(W.alloc o).grownBy W3 v.ownBlock):Below w.heap.size w W3/\Blk W3 w.heap.size cs t/\w.heap.size<W3.heap.size:=by
 refine ⟨(hB.alloc hB.size o).grown hgr (by simp;omega) (fun g hg=>by have:=(hO.lt g hg).1;omega),?_,?_⟩
 ·refine (hgr.block w.heap.size (hK.alloc o).lt ?_).trans (hK.alloc o);intro h;have:=(hO.lt _ h.symm).1;omega
 ·have:=hgr.size;simp at this;omega
theorem tok1_digit {l:List UInt8} {c:UInt8} {r:List UInt8} (e:l=c::r) (hd:Lx.isDigit c=true):Lx.tok1 l =
 if Lx.num (l.take (Lx.span Lx.isDigit l))<=9223372036854775807/\(l.drop (Lx.span Lx.isDigit l)).head?.all (fun d=>!Lx.isLetter d) then some (3,[],(Lx.num (l.take (Lx.span Lx.isDigit l)):Int),Lx.span Lx.isDigit l) else none:=by
 subst e;rw [Lx.tok1,if_pos hd]
theorem tok1_letter {l:List UInt8} {c:UInt8} {r:List UInt8} (e:l=c::r) (hl:Lx.isLetter c=true):Lx.tok1 l=nameE l:=by
 subst e;rw [tok1_eq,if_pos hl]
theorem tok1_quote {l:List UInt8} {c:UInt8} {r:List UInt8} (e:l=c::r) (hd:Lx.isDigit c=false) (hl:Lx.isLetter c=false) (h:c=39):Lx.tok1 l=textE l:=by
 subst e;rw [tok1_eq,if_neg (by rw [hl];simp),if_neg (by rw [hd];simp),if_pos h]
theorem tok1_op {l:List UInt8} {c:UInt8} {r:List UInt8} (e:l=c::r) (hd:Lx.isDigit c=false) (hl:Lx.isLetter c=false) (h:c≠39):Lx.tok1 l=if refOp l=[] then none else some (5,refOp l,0,(refOp l).length):=by
 subst e;rw [tok1_eq,if_neg (by rw [hl];simp),if_neg (by rw [hd];simp),if_neg h,opE,refOp];cases hm:Lx.ops2.contains ((c::r).take 2)
 ·cases h1:Lx.ops1.contains c
  ·simp only [List.headD_cons,h1,Bool.false_eq_true,if_false,if_true]
  ·simp only [List.headD_cons,h1,Bool.false_eq_true,if_false,if_true];simp
 ·match r,hm with
  | [],hm=>simp [Lx.ops2] at hm
  |d::r,hm=>simp
theorem letter_45 {c:UInt8}:Lx.isLetter c=true->(((c.toNat:Nat):Int) == 45)=false:=by
 revert c;apply u8_all;decide +kernel
theorem isNameB_letter {c:UInt8} (h:Lx.isDigit c=false):Lx.isNameB c=Lx.isLetter c:=by rw [Lx.isNameB,h,Bool.or_false]
theorem infoRefTok:(Tryz.prog.info? 152).map (fun i=>(i.zero,i.size,i.bytes))=some (some (.agg #[.int .i64 0,.string ⟨#[]⟩,.int .i64 0,.int .i64 0]),4,40):=by kernel_rfl
theorem reftokens_long (s:ByteArray) (w:World) (hbig:4000<s.size) (hs63:s.size<=maxLen) :
 Calls Tryz.prog 79 #[.string s] w fun e w'=>e= .returned (.agg #[.slice none 0 0,.int .i64 0,.int .i64 2])/\Below w.heap.size w w':=by
 unfold maxLen at hs63;go_enter Tryz.func79,Tryz.ntmps79;go_wp2_with fail;exact bodyPost_ret (v:= .agg #[.slice none 0 0,.int .i64 0,.int .i64 2]) (by simp [results,Tryz.results79,go_sem]) rfl ⟨rfl,by go_grown⟩
set_option maxHeartbeats 40000000 in
theorem reftokens_any (s:ByteArray) (w:World) (hs:s.size<=4000) :
 Calls Tryz.prog 79 #[.string s] w fun e w'=>RefE (w.heap.size+1) (Lx.lex (bsl s)) e w'/\Below w.heap.size w w':=by
 have HL:=h_ (bsl_length s);go_enter Tryz.func79,Tryz.ntmps79;go_wp2_with fail;go_loopw [3,4] (fun v i W=>∃ (pos:Nat) (acc:List Lx.Tok),i= .int .i64 pos/\RefAt (bsl s) acc pos/\W.ownsRow (w.heap.size+1) 152 4 v acc.length (tokCs acc)/\Blk W w.heap.size #[.slice none 0 0,.int .i64 0,.int .i64 0] 100/\Below w.heap.size w W/\w.heap.size<W.heap.size)
  (fun _ i _=>s.size - (intOf i).toNat)
 case atStart =>
  exact ⟨0,[],rfl,RefAt.start _,World.ownsRow_nil _ _ _ _,Blk.new w _ 100 rfl,by go_grown,by simp⟩
 case round =>
  obtain ⟨pos,acc,rfl,hT,hown,hblk,hbel,hhs⟩:=hrel;have hle:=hT.le;have hal:=hT.len;rw [HL.out] at hle;have HT:=h_ hT;have HO:=h_ hown;have HB:=h_ hbel;have HK:=h_ hblk;have HH:=h_ hhs;clear hT hown hbel hblk hhs;by_cases hlt:pos<s.size
  case neg =>
   obtain ⟨hc,hf⟩:=HK.out.facts;obtain ⟨ao,cap,rfl,hcap⟩:=ownsRow_slice HO.out;go_wp2_with fail;refine bodyPost_ret (v:= .agg #[.slice ao acc.length cap,.int .i64 0,.int .i64 0]) (by simp [results,Tryz.results79,go_sem,(blkR3 HK.out _ _ _).cell]) rfl ⟨?_,belowR3 HB.out (Nat.le_refl _) _ _ _⟩;unfold RefE;rw [HT.out.done (by rw [HL.out];omega)];exact ⟨_,rfl,ownsRow_other (ownsRow_other (ownsRow_other HO.out (Nat.lt_succ_self _) 0 _) (Nat.lt_succ_self _) 1 _) (Nat.lt_succ_self _) 2 _⟩
  have HG:=h_ (bsl_get s pos hlt);have hc8:=(s[pos]'hlt).toNat_lt;have HBL:=h_ (blank_eq (s[pos]'hlt));cases hbl:Lx.isBlank (s[pos]'hlt)
  case true =>
   as_aux_lemma =>
    have HBL2:=h_ hbl;have h4:=HBL.out;rw [hbl] at h4;clear hbl;simp only [eq_comm (a:=true),Bool.or_eq_true,beq_iff_eq] at h4;rcases h4 with ((h|h)|h)|h
    all_goals
     go_wp2_with fail;go_roundw
     case rel=>exact ⟨pos+1,acc,by go_num,HT.out.blank HG.out HBL2.out,HO.out,HK.out,HB.out,HH.out⟩
     case measure=>simp [intOf];omega
  have HBL2:=h_ hbl;have h4:=HBL.out;rw [hbl] at h4;clear hbl;simp only [eq_comm (a:=false),Bool.or_eq_false_iff] at h4;obtain ⟨⟨⟨b1,b2⟩,b3⟩,b4⟩:=h4;by_cases hrem:(bsl s)[pos]?=some 45/\(bsl s)[pos+1]?=some 45
  case pos =>
   as_aux_lemma =>
    obtain ⟨hr1,hr2⟩:=hrem;have hp2:pos+1<s.size:=by rw [<- HL.out];exact (List.getElem?_eq_some_iff.1 hr2).1
    have e1:((s[pos]'hlt).toNat:Int)=45:=by
     rw [HG.out] at hr1;rw [Option.some.inj hr1];rfl
    have e2:((s[pos+1]'hp2).toNat:Int)=45:=by
     rw [bsl_get s (pos+1) hp2] at hr2;rw [Option.some.inj hr2];rfl
    have HR:=h_ (HT.out.remark hr1 hr2);have hpos:0<Lx.span (fun c=>c !=10) ((bsl s).drop pos):=by
     obtain ⟨hp,he⟩:=List.getElem?_eq_some_iff.1 hr1;rw [List.drop_eq_getElem_cons hp,he];exact Lx.span_pos (by decide)
    have hsl:=Lx.span_le (fun c=>c !=10) ((bsl s).drop pos);rw [List.length_drop,HL.out] at hsl;clear hr1 hr2;go_wp2_with fail;obtain ⟨wo,rfl⟩:∃ wo:World,wo=wr:=⟨_,rfl⟩
    go_loop [4] (fun i=>∃ n:Nat,i= .int .i64 ((pos+n:Nat):Int)/\n<=Lx.span (fun c=>c !=10) ((bsl s).drop pos)) (fun i=>s.size - (intOf i).toNat)
    case atStart=>exact ⟨0,by go_num,Nat.zero_le _⟩
    case round =>
     obtain ⟨n,rfl,hn⟩:=hrel;have HST:=h_ (Lx.span_step hn);by_cases hin:pos+n<s.size
     ·have hg2:((bsl s).drop pos)[n]?=some (s[pos+n]'hin):=by
       rw [List.getElem?_drop];exact bsl_get s (pos+n) hin
      have HG2:=h_ hg2;clear hg2;by_cases h10:s[pos+n]'hin=10
      ·have HQ:=h_ h10;have e10:(((s[pos+n]'hin).toNat:Int) !=10)=false:=by rw [h10];rfl
       clear h10;have hfin:n=Lx.span (fun c=>c !=10) ((bsl s).drop pos):=by
        rcases Nat.lt_or_ge n (Lx.span (fun c=>c !=10) ((bsl s).drop pos)) with h|h
        ·obtain ⟨c,hc,hp⟩:=HST.out.1 h;rw [HG2.out] at hc;cases hc;rw [HQ.out] at hp;cases hp
        ·omega
       have HF:=h_ hfin;clear hfin;go_wp2_with fail;go_roundw
       case rel=>exact ⟨pos+n,acc,by go_num,by have:=HR.out;rw [<- HF.out] at this;exact this,HO.out,HK.out,HB.out,HH.out⟩
       case measure=>have:=HF.out;simp [intOf];omega
      ·have HQ:=h_ h10;have e10:(((s[pos+n]'hin).toNat:Int) !=10)=true:=by
        rw [bne_iff_ne];intro h;exact h10 (by rw [<- UInt8.toNat_inj];simpa using (by omega:(s[pos+n]'hin).toNat=10))
       clear h10;go_wp2_with fail;go_round
       case rel=>exact ⟨n+1,by go_num,HST.out.2 ⟨_,HG2.out,by simpa using HQ.out⟩⟩
       case measure=>simp [intOf];omega
     ·have hfin:n=Lx.span (fun c=>c !=10) ((bsl s).drop pos):=by omega
      have HF:=h_ hfin;clear hfin;go_wp2_with fail;go_roundw
      case rel=>exact ⟨pos+n,acc,by go_num,by have:=HR.out;rw [<- HF.out] at this;exact this,HO.out,HK.out,HB.out,HH.out⟩
      case measure=>have:=HF.out;simp [intOf];omega
  have HS:=h_ (show Lx.skip false ((bsl s).drop pos)=0 by
   rw [bsl_drop_cons s pos hlt];refine Lx.skip_stop HBL2.out ?_;rintro ⟨h1,h2⟩;rw [List.head?_drop] at h2;exact hrem ⟨by rw [HG.out,h1],h2⟩)
  have HD:=h_ (bsl_drop_cons s pos hlt);have HP:=h_ (show pos<(bsl s).length by rw [HL.out];exact hlt);have hsl:=Lx.span_le Lx.isDigit ((bsl s).drop pos);rw [List.length_drop,HL.out] at hsl;cases hdg:Lx.isDigit (s[pos]'hlt)
  case true =>
   as_aux_lemma =>
    have HDG:=h_ hdg;have HT1:=h_ (tok1_digit HD.out HDG.out);have hpos:0<Lx.span Lx.isDigit ((bsl s).drop pos):=by rw [HD.out];exact Lx.span_pos HDG.out
    have HALL:=h_ (Lx.span_all Lx.isDigit ((bsl s).drop pos));have h45:(((s[pos]'hlt).toNat:Int) == 45)=false:=by
     rw [isDigit_eq] at hdg;rw [beq_eq_false_iff_ne];simp at hdg;omega
    clear hdg hrem;go_wp2_with fail;refine (refdigit_any _ _).mono ?_;rintro e w' ⟨rfl,rfl⟩;rw [HDG.out];go_wp2_with fail;obtain ⟨wo,rfl⟩:∃ wo:World,wo=wr:=⟨_,rfl⟩
    go_loop [6] (fun i=>∃ n:Nat,i= .int .i64 ((pos+n:Nat):Int)/\n<=Lx.span Lx.isDigit ((bsl s).drop pos)) (fun i=>s.size - (intOf i).toNat)
    case atStart=>exact ⟨0,by go_num,Nat.zero_le _⟩
    case round =>
     obtain ⟨n,rfl,hn⟩:=hrel;have HST:=h_ (Lx.span_step hn);by_cases hin:pos+n<s.size
     case pos =>
      have hg2:((bsl s).drop pos)[n]?=some (s[pos+n]'hin):=by
       rw [List.getElem?_drop];exact bsl_get s (pos+n) hin
      have HG2:=h_ hg2;clear hg2;cases hd2:Lx.isDigit (s[pos+n]'hin)
      case true =>
       have HD2:=h_ hd2;clear hd2;go_wp2_with fail;refine (refdigit_any _ _).mono ?_;rintro e w' ⟨rfl,rfl⟩;rw [HD2.out];go_wp2_with fail;go_round
       case rel=>exact ⟨n+1,by go_num,HST.out.2 ⟨_,HG2.out,HD2.out⟩⟩
       case measure=>simp [intOf];omega
      have HD2:=h_ hd2;clear hd2;have hfin:n=Lx.span Lx.isDigit ((bsl s).drop pos):=by
       rcases Nat.lt_or_ge n (Lx.span Lx.isDigit ((bsl s).drop pos)) with h|h
       ·obtain ⟨c,hc,hp⟩:=HST.out.1 h;rw [HG2.out] at hc;cases hc;rw [HD2.out] at hp;cases hp
       ·omega
      have hT1:=HT1.out;rw [<- hfin] at hT1 hpos;have HALL2:=h_ (show ∀ x∈bsl (s.extract pos (pos+n)),Lx.isDigit x=true by
       have:=HALL.out;rw [<- hfin,<- bsl_cut] at this;exact this)
      rw [<- bsl_cut] at hT1;have HT2:=h_ hT1;have HX:=h_ (show (s.extract pos (pos+n)).size<=4000 by simp;omega);have HX0:=h_ (show 0<(s.extract pos (pos+n)).size by simp;omega);clear hfin hT1;go_wp2_with fail;refine (refdigit_any _ _).mono ?_;rintro e w' ⟨rfl,rfl⟩;rw [HD2.out];go_wp2_with fail;refine (refparse_any _ _ HX.out HX0.out HALL2.out).mono ?_;rintro e w' ⟨rfl,rfl⟩;generalize hN:Lx.num (bsl (s.extract pos (pos+n)))=N at HT2 |-;clear hN;unfold parseV;by_cases hfit:N<=9223372036854775807
      case neg =>
       have HTK:=h_ (HT.out.err HS.out HP.out (by rw [HT2.out,if_neg (fun h=>hfit h.1)]));rw [if_neg hfit];clear hfit;obtain ⟨hc,hf⟩:=HK.out.facts;go_wp2_with fail;refine bodyPost_ret (v:= .agg #[.slice none 0 0,.int .i64 pos,.int .i64 10]) (by simp [results,Tryz.results79,go_sem,(blkR3 HK.out _ _ _).cell]) rfl ⟨?_,belowR3 HB.out (Nat.le_refl _) _ _ _⟩;unfold RefE;rw [HTK.out]
      rw [if_pos hfit];have HF:=h_ hfit;clear hfit;have HNB:=h_ (isNameB_letter HD2.out);cases hnb:Lx.isNameB (s[pos+n]'hin)
      case true =>
       have HNB2:=h_ hnb;clear hnb;have HTK:=h_ (HT.out.err HS.out HP.out (by
        rw [HT2.out,if_neg];rintro ⟨_,h⟩;rw [List.head?_drop,HG2.out] at h;simp [<- HNB.out,HNB2.out] at h))
       obtain ⟨hc,hf⟩:=HK.out.facts;go_wp2_with fail;refine (refletter_any _ _).mono ?_;rintro e w' ⟨rfl,rfl⟩;rw [HNB2.out];obtain ⟨hc,hf⟩:=HK.out.facts;go_wp2_with fail;refine bodyPost_ret (v:= .agg #[.slice none 0 0,.int .i64 pos,.int .i64 10]) (by simp [results,Tryz.results79,go_sem,(blkR3 HK.out _ _ _).cell]) rfl ⟨?_,belowR3 HB.out (Nat.le_refl _) _ _ _⟩;unfold RefE;rw [HTK.out]
      have HNB2:=h_ hnb;clear hnb;have HTK:=h_ (HT.out.tok HS.out HP.out (x:=(3,[],(N:Int),n)) (by
       rw [HT2.out,if_pos];refine ⟨HF.out,?_⟩;rw [List.head?_drop,HG2.out];simp [<- HNB.out,HNB2.out]))
      go_wp2_with fail;refine (refletter_any _ _).mono ?_;rintro e w' ⟨rfl,rfl⟩;rw [HNB2.out];go_wp2_with (at_builtin;go_must (refine wpList_push rfl _ _ 98 rfl (w.heap.size+1) 152 (.agg #[.int .i64 0,.string ⟨#[]⟩,.int .i64 0,.int .i64 0]) 4 40 Tryz.underlying98 infoRefTok rfl (by decide) _ _ _ rfl (HO.out.alloc _) _ 152 #[.int .i64 3,.string ⟨#[]⟩,.int .i64 N,.int .i64 pos] rfl (Blk.new _ _ _ (by simp)) rfl ?_ ?_ ?_ ?_ ?_))
      case refine_1=>simp [Value.oneCell']
      case refine_2=>unfold maxLen;omega
      case refine_3=>omega
      case refine_4=>have:=HH.out;simp;omega
      case refine_5 =>
       intro v' w3 hown3 hgr _;have HO3:=h_ hown3;have HP3:=h_ (push_keep HO.out HB.out HK.out HH.out hgr);clear hown3 hgr;go_wp2_with fail;go_roundw
       case rel=>exact ⟨pos+n,_,by go_num,HTK.out,by simpa [tokCs,tokC] using HO3.out,HP3.out.2.1,HP3.out.1,HP3.out.2.2⟩
       case measure=>simp [intOf];omega
     have hfin:n=Lx.span Lx.isDigit ((bsl s).drop pos):=by omega
     have hT1:=HT1.out;rw [<- hfin] at hT1 hpos;have HALL2:=h_ (show ∀ x∈bsl (s.extract pos (pos+n)),Lx.isDigit x=true by
      have:=HALL.out;rw [<- hfin,<- bsl_cut] at this;exact this)
     rw [<- bsl_cut] at hT1;have HT2:=h_ hT1;have HX:=h_ (show (s.extract pos (pos+n)).size<=4000 by simp;omega);have HX0:=h_ (show 0<(s.extract pos (pos+n)).size by simp;omega);have hend:pos+n=s.size:=by omega
     have HEND:=h_ hend;clear hfin hT1 hend;go_wp2_with fail;refine (refparse_any _ _ HX.out HX0.out HALL2.out).mono ?_;rintro e w' ⟨rfl,rfl⟩;generalize hN:Lx.num (bsl (s.extract pos (pos+n)))=N at HT2 |-;clear hN;unfold parseV;by_cases hfit:N<=9223372036854775807
     case neg =>
      have HTK:=h_ (HT.out.err HS.out HP.out (by rw [HT2.out,if_neg (fun h=>hfit h.1)]));rw [if_neg hfit];clear hfit;obtain ⟨hc,hf⟩:=HK.out.facts;go_wp2_with fail;refine bodyPost_ret (v:= .agg #[.slice none 0 0,.int .i64 pos,.int .i64 10]) (by simp [results,Tryz.results79,go_sem,(blkR3 HK.out _ _ _).cell]) rfl ⟨?_,belowR3 HB.out (Nat.le_refl _) _ _ _⟩;unfold RefE;rw [HTK.out]
     rw [if_pos hfit];have HF:=h_ hfit;clear hfit;have HTK:=h_ (HT.out.tok HS.out HP.out (x:=(3,[],(N:Int),n)) (by
      rw [HT2.out,if_pos];refine ⟨HF.out,?_⟩;rw [List.head?_drop,List.getElem?_drop,List.getElem?_eq_none (by rw [HL.out,HEND.out];exact Nat.le_refl _)];rfl))
     go_wp2_with (at_builtin;go_must (refine wpList_push rfl _ _ 98 rfl (w.heap.size+1) 152 (.agg #[.int .i64 0,.string ⟨#[]⟩,.int .i64 0,.int .i64 0]) 4 40 Tryz.underlying98 infoRefTok rfl (by decide) _ _ _ rfl (HO.out.alloc _) _ 152 #[.int .i64 3,.string ⟨#[]⟩,.int .i64 N,.int .i64 pos] rfl (Blk.new _ _ _ (by simp)) rfl ?_ ?_ ?_ ?_ ?_))
     case refine_1=>simp [Value.oneCell']
     case refine_2=>unfold maxLen;omega
     case refine_3=>omega
     case refine_4=>have:=HH.out;simp;omega
     case refine_5 =>
      intro v' w3 hown3 hgr _;have HO3:=h_ hown3;have HP3:=h_ (push_keep HO.out HB.out HK.out HH.out hgr);clear hown3 hgr;go_wp2_with fail;go_roundw
      case rel=>exact ⟨pos+n,_,by go_num,HTK.out,by simpa [tokCs,tokC] using HO3.out,HP3.out.2.1,HP3.out.1,HP3.out.2.2⟩
      case measure=>simp [intOf];omega
  have HDG:=h_ hdg;have HNB:=h_ (isNameB_letter hdg);clear hdg hsl;cases hlt2:Lx.isLetter (s[pos]'hlt)
  case true =>
   as_aux_lemma =>
    have HLT:=h_ hlt2;have HT1:=h_ (tok1_letter HD.out HLT.out);have hpos:0<Lx.span Lx.isNameB ((bsl s).drop pos):=by rw [HD.out];exact Lx.span_pos (by rw [HNB.out];exact hlt2)
    have hsl:=Lx.span_le Lx.isNameB ((bsl s).drop pos);rw [List.length_drop,HL.out] at hsl;have h45:=letter_45 hlt2;clear hlt2 hrem;go_wp2_with fail;refine (refdigit_any _ _).mono ?_;rintro e w' ⟨rfl,rfl⟩;rw [HDG.out];go_wp2_with fail;refine (refletter_any _ _).mono ?_;rintro e w' ⟨rfl,rfl⟩;rw [HNB.out,HLT.out];go_wp2_with fail;obtain ⟨wo,rfl⟩:∃ wo:World,wo=wr:=⟨_,rfl⟩
    go_loop [6] (fun i=>∃ n:Nat,i= .int .i64 ((pos+n:Nat):Int)/\n<=Lx.span Lx.isNameB ((bsl s).drop pos)) (fun i=>s.size - (intOf i).toNat)
    case atStart=>exact ⟨0,by go_num,Nat.zero_le _⟩
    case round =>
     obtain ⟨n,rfl,hn⟩:=hrel;have HST:=h_ (Lx.span_step hn);by_cases hin2:n<Lx.span Lx.isNameB ((bsl s).drop pos)
     case pos =>
      obtain ⟨c2,hc2,hnc2⟩:=HST.out.1 hin2;have hin:pos+n<s.size:=by omega
      have hg2:((bsl s).drop pos)[n]?=some (s[pos+n]'hin):=by
       rw [List.getElem?_drop];exact bsl_get s (pos+n) hin
      obtain rfl:=Option.some.inj (hg2.symm.trans hc2);have HD2:=h_ hnc2;clear hg2 hc2 hnc2;go_wp2_with fail;refine (refletter_any _ _).mono ?_;rintro e w' ⟨rfl,rfl⟩;rw [HD2.out];go_wp2_with fail;go_round
      case rel=>exact ⟨n+1,by go_num,hin2⟩
      case measure=>simp [intOf];omega
     have hfin:n=Lx.span Lx.isNameB ((bsl s).drop pos):=by omega
     have hT1:=HT1.out;unfold nameE at hT1;rw [<- hfin] at hT1 hpos;rw [<- bsl_cut] at hT1;have HT2:=h_ hT1;have HX:=h_ (show (s.extract pos (pos+n)).size<=140737488355327 by simp;omega);have HNO:=h_ (show ∀ hin:pos+n<s.size,Lx.isNameB (s[pos+n]'hin)=false by
      intro hin;rw [<- Bool.not_eq_true];intro h;have:=HST.out.2 ⟨_,by rw [List.getElem?_drop];exact bsl_get s (pos+n) hin,h⟩;omega)
     clear hfin hT1;by_cases hin:pos+n<s.size
     case' pos =>
      have HNI:=h_ (HNO.out hin);go_wp2_with fail;refine (refletter_any _ _).mono ?_;rintro e w' ⟨rfl,rfl⟩;rw [HNI.out]
     all_goals
      by_cases h16:n<=16
      case neg =>
       have HTK:=h_ (HT.out.err HS.out HP.out (by rw [HT2.out,if_neg h16]));obtain ⟨hc,hf⟩:=HK.out.facts;go_wp2_with fail;refine bodyPost_ret (v:= .agg #[.slice none 0 0,.int .i64 pos,.int .i64 10]) (by simp [results,Tryz.results79,go_sem,(blkR3 HK.out _ _ _).cell]) rfl ⟨?_,belowR3 HB.out (Nat.le_refl _) _ _ _⟩;unfold RefE;rw [HTK.out]
      have H16:=h_ h16;go_wp2_with fail;refine (refupper_any _ _ HX.out).mono ?_;rintro e w2 ⟨rfl,hb⟩;have HO2:=h_ (ownsRow_ext HO.out hb);have HB2:=h_ (HB.out.trans (hb.mono HB.out.size));have HK2:=h_ (HK.out.keep hb);have HH2:=h_ (Nat.lt_of_lt_of_le HH.out hb.size);clear hb;have HWD:=h_ (bsl_mk ((bsl (s.extract pos (pos+n))).map Lib.upperB));go_wp2_with fail;refine (refisword_any _ _).mono ?_;rintro e w4 ⟨rfl,hb⟩;have HO4:=h_ (ownsRow_ext HO2.out hb);have HB4:=h_ (HB2.out.trans (hb.mono HB2.out.size));have HK4:=h_ (HK2.out.keep hb);have HH4:=h_ (Nat.lt_of_lt_of_le HH2.out hb.size);clear hb;rw [HWD.out];cases hw:Lx.isWord ((bsl (s.extract pos (pos+n))).map Lib.upperB)
      case true =>
       have HTK:=h_ (HT.out.tok HS.out HP.out (x:=(2,(bsl (s.extract pos (pos+n))).map Lib.upperB,0,n)) (by rw [HT2.out,if_pos H16.out,if_pos hw]));clear hw;generalize (bsl (s.extract pos (pos+n))).map Lib.upperB=U at HTK |-;go_wp2_with (at_builtin;go_must (refine wpList_push rfl _ _ 98 rfl (w.heap.size+1) 152 (.agg #[.int .i64 0,.string ⟨#[]⟩,.int .i64 0,.int .i64 0]) 4 40 Tryz.underlying98 infoRefTok rfl (by decide) _ _ _ rfl (HO4.out.alloc _) _ 152 #[.int .i64 2,.string ⟨U.toArray⟩,.int .i64 0,.int .i64 pos] rfl (Blk.new _ _ _ (by simp)) rfl ?_ ?_ ?_ ?_ ?_))
       case refine_1=>simp [Value.oneCell']
       case refine_2=>unfold maxLen;omega
       case refine_3=>omega
       case refine_4=>have:=HH4.out;simp;omega
       case refine_5 =>
        intro v' w3 hown3 hgr _;have HO3:=h_ hown3;have HP3:=h_ (push_keep HO4.out HB4.out HK4.out HH4.out hgr);clear hown3 hgr;go_wp2_with fail;go_roundw
        case rel=>exact ⟨pos+n,_,by go_num,HTK.out,by simpa [tokCs,tokC] using HO3.out,HP3.out.2.1,HP3.out.1,HP3.out.2.2⟩
        case measure=>simp [intOf];omega
      have HTK:=h_ (HT.out.tok HS.out HP.out (x:=(1,(bsl (s.extract pos (pos+n))).map Lib.lowerB,0,n)) (by rw [HT2.out,if_pos H16.out,if_neg (by rw [hw];simp)]));clear hw;go_wp2_with fail;refine (reflower_any _ _ HX.out).mono ?_;rintro e w5 ⟨rfl,hb⟩;have HO5:=h_ (ownsRow_ext HO4.out hb);have HB5:=h_ (HB4.out.trans (hb.mono HB4.out.size));have HK5:=h_ (HK4.out.keep hb);have HH5:=h_ (Nat.lt_of_lt_of_le HH4.out hb.size);clear hb;generalize (bsl (s.extract pos (pos+n))).map Lib.lowerB=U at HTK |-;go_wp2_with (at_builtin;go_must (refine wpList_push rfl _ _ 98 rfl (w.heap.size+1) 152 (.agg #[.int .i64 0,.string ⟨#[]⟩,.int .i64 0,.int .i64 0]) 4 40 Tryz.underlying98 infoRefTok rfl (by decide) _ _ _ rfl (HO5.out.alloc _) _ 152 #[.int .i64 1,.string ⟨U.toArray⟩,.int .i64 0,.int .i64 pos] rfl (Blk.new _ _ _ (by simp)) rfl ?_ ?_ ?_ ?_ ?_))
      case refine_1=>simp [Value.oneCell']
      case refine_2=>unfold maxLen;omega
      case refine_3=>omega
      case refine_4=>have:=HH5.out;simp;omega
      case refine_5 =>
       intro v' w3 hown3 hgr _;have HO3:=h_ hown3;have HP3:=h_ (push_keep HO5.out HB5.out HK5.out HH5.out hgr);clear hown3 hgr;go_wp2_with fail;go_roundw
       case rel=>exact ⟨pos+n,_,by go_num,HTK.out,by simpa [tokCs,tokC] using HO3.out,HP3.out.2.1,HP3.out.1,HP3.out.2.2⟩
       case measure=>simp [intOf];omega
  have HLT:=h_ hlt2;clear hlt2;by_cases h39:s[pos]'hlt=39
  case pos =>
   as_aux_lemma =>
    have HT1:=h_ (tok1_quote HD.out HDG.out HLT.out h39);have e39:((((s[pos]'hlt).toNat:Nat):Int) == 39)=true:=by rw [h39];rfl
    have f45:((((s[pos]'hlt).toNat:Nat):Int) == 45)=false:=by rw [h39];rfl
    clear h39 hrem;go_wp2_with fail;refine (refdigit_any _ _).mono ?_;rintro e w' ⟨rfl,rfl⟩;rw [HDG.out];go_wp2_with fail;refine (refletter_any _ _).mono ?_;rintro e w' ⟨rfl,rfl⟩;rw [HNB.out,HLT.out];go_wp2_with fail;refine (reftext2_any s pos _ hs hlt).mono ?_;rintro e w' ⟨rfl,rfl⟩;cases hq:textE ((bsl s).drop pos) with
    |none =>
     have HTK:=h_ (HT.out.err HS.out HP.out (by rw [HT1.out,hq]));simp only [textV];obtain ⟨hc,hf⟩:=HK.out.facts;go_wp2_with fail;refine bodyPost_ret (v:= .agg #[.slice none 0 0,.int .i64 pos,.int .i64 10]) (by simp [results,Tryz.results79,go_sem,(blkR3 HK.out _ _ _).cell]) rfl ⟨?_,belowR3 HB.out (Nat.le_refl _) _ _ _⟩;unfold RefE;rw [HTK.out]
    |some x =>
     have hp:=Lx.tok1_pos (HT1.out.trans hq);rw [List.length_drop,HL.out] at hp;obtain ⟨y,hy,rfl⟩:=Option.map_eq_some_iff.1 hq;obtain ⟨U,m⟩:=y;have HTK:=h_ (HT.out.tok HS.out HP.out (HT1.out.trans hq));clear hq hy;simp only at hp HTK;simp only [textV];go_wp2_with (at_builtin;go_must (refine wpList_push rfl _ _ 98 rfl (w.heap.size+1) 152 (.agg #[.int .i64 0,.string ⟨#[]⟩,.int .i64 0,.int .i64 0]) 4 40 Tryz.underlying98 infoRefTok rfl (by decide) _ _ _ rfl (HO.out.alloc _) _ 152 #[.int .i64 4,.string ⟨U.toArray⟩,.int .i64 0,.int .i64 pos] rfl (Blk.new _ _ _ (by simp)) rfl ?_ ?_ ?_ ?_ ?_))
     case refine_1=>simp [Value.oneCell']
     case refine_2=>unfold maxLen;omega
     case refine_3=>omega
     case refine_4=>have:=HH.out;simp;omega
     case refine_5 =>
      intro v' w3 hown3 hgr _;have HO3:=h_ hown3;have HP3:=h_ (push_keep HO.out HB.out HK.out HH.out hgr);clear hown3 hgr;go_wp2_with fail;go_roundw
      case rel=>exact ⟨pos+(m+1),_,by go_num,HTK.out,by simpa [tokCs,tokC] using HO3.out,HP3.out.2.1,HP3.out.1,HP3.out.2.2⟩
      case measure=>simp [intOf];omega
  as_aux_lemma =>
   have HT1:=h_ (tok1_op HD.out HDG.out HLT.out h39);have e39:((((s[pos]'hlt).toNat:Nat):Int) == 39)=false:=by
    rw [beq_eq_false_iff_ne];intro h;exact h39 (by rw [<- UInt8.toNat_inj];simpa using (by omega:(s[pos]'hlt).toNat=39))
   clear h39;have HX:=h_ (show (s.extract pos s.size).size<=maxLen by unfold maxLen;simp;omega);have HX0:=h_ (show 0<(s.extract pos s.size).size by simp;omega);have hrp:refOp ((bsl s).drop pos)≠[]->(refOp ((bsl s).drop pos)).length<=s.size - pos/\0<(refOp ((bsl s).drop pos)).length:=by
    intro h;have:=Lx.tok1_pos (HT1.out.trans (if_neg h));rw [List.length_drop,HL.out] at this;exact ⟨this.2,this.1⟩
   have HRP:=h_ hrp;clear hrp;by_cases h45:(((s[pos]'hlt).toNat:Nat):Int)=45
   case' neg=>have f45:((((s[pos]'hlt).toNat:Nat):Int) == 45)=false:=by rw [beq_eq_false_iff_ne];exact h45
   case' pos =>
    have e45:((((s[pos]'hlt).toNat:Nat):Int) == 45)=true:=beq_iff_eq.2 h45;by_cases hin:pos+1<s.size
    case' pos =>
     have f45:((((s[pos+1]'hin).toNat:Nat):Int) == 45)=false:=by
      rw [beq_eq_false_iff_ne];intro h;refine hrem ⟨?_,?_⟩
      ·rw [HG.out];exact congrArg some (by rw [<- UInt8.toNat_inj];simpa using (by omega:(s[pos]'hlt).toNat=45))
      ·rw [bsl_get s (pos+1) hin];exact congrArg some (by rw [<- UInt8.toNat_inj];simpa using (by omega:(s[pos+1]'hin).toNat=45))
   all_goals
    clear hrem h45;go_wp2_with fail;refine (refdigit_any _ _).mono ?_;rintro e w' ⟨rfl,rfl⟩;rw [HDG.out];go_wp2_with fail;refine (refletter_any _ _).mono ?_;rintro e w' ⟨rfl,rfl⟩;rw [HNB.out,HLT.out];go_wp2_with fail;refine (refop_any _ _ HX.out HX0.out).mono ?_;rintro e w' ⟨rfl,rfl⟩;rw [bsl_from s pos];by_cases hem:refOp ((bsl s).drop pos)=[]
    case pos =>
     have HTK:=h_ (HT.out.err HS.out HP.out (by rw [HT1.out,if_pos hem]));rw [hem];clear hem;obtain ⟨hc,hf⟩:=HK.out.facts;go_wp2_with fail;refine bodyPost_ret (v:= .agg #[.slice none 0 0,.int .i64 pos,.int .i64 10]) (by simp [results,Tryz.results79,go_sem,(blkR3 HK.out _ _ _).cell]) rfl ⟨?_,belowR3 HB.out (Nat.le_refl _) _ _ _⟩;unfold RefE;rw [HTK.out]
    obtain ⟨hl1,hl2⟩:=HRP.out hem;have HTK:=h_ (HT.out.tok HS.out HP.out (HT1.out.trans (if_neg hem)));simp only at HTK;generalize refOp ((bsl s).drop pos)=U at hem hl1 hl2 HTK |-;have hne:(U == [])=false:=by rw [beq_eq_false_iff_ne];exact hem
    have hsz:(ByteArray.mk U.toArray).size=U.length:=by simp [ByteArray.size]
    clear hem;go_wp2_with (at_builtin;go_must (refine wpList_push rfl _ _ 98 rfl (w.heap.size+1) 152 (.agg #[.int .i64 0,.string ⟨#[]⟩,.int .i64 0,.int .i64 0]) 4 40 Tryz.underlying98 infoRefTok rfl (by decide) _ _ _ rfl (HO.out.alloc _) _ 152 #[.int .i64 5,.string ⟨U.toArray⟩,.int .i64 0,.int .i64 pos] rfl (Blk.new _ _ _ (by simp)) rfl ?_ ?_ ?_ ?_ ?_))
    case refine_1=>simp [Value.oneCell']
    case refine_2=>unfold maxLen;omega
    case refine_3=>omega
    case refine_4=>have:=HH.out;simp;omega
    case refine_5 =>
     intro v' w3 hown3 hgr _;have HO3:=h_ hown3;have HP3:=h_ (push_keep HO.out HB.out HK.out HH.out hgr);clear hown3 hgr;go_wp2_with fail;go_roundw
     case rel=>exact ⟨pos+U.length,_,by go_num,HTK.out,by simpa [tokCs,tokC] using HO3.out,HP3.out.2.1,HP3.out.1,HP3.out.2.2⟩
     case measure=>simp [intOf];omega
end Go.Proofs.YtimeipjcmffadaaGreatDoor
