import Derived.Lib.Case
import Derived.Lib.ParseIntB
import Derived.Lib.IndexMore
import Derived.WalkKit
import Derived.WalkSpells
import Derived.WalkLawsBesides
import Derived.Handy
import Derived.Lib.Hide
import Derived.Deep.Cut
import Derived.Deep.RegionHeld3
import Derived.Deep.DeepFit
import Derived.Test.YtimeipjcmffadaaGreatDoorProg
import Derived.Maps.AppendAt
set_option maxHeartbeats 16000000
namespace Go.Proofs.YtimeipjcmffadaaGreatDoor.Lx
def isDigit (c:UInt8):Bool:=48<=c && c<=57
def isLetter (c:UInt8):Bool:=(97<=c && c<=122) ||(65<=c && c<=90) ||c == 95
def isNameB (c:UInt8):Bool:=isLetter c ||isDigit c
def isBlank (c:UInt8):Bool:=c == 32 ||c == 9 ||c == 10 ||c == 13
def span (p:UInt8->Bool):List UInt8->Nat
 | []=>0
 |c::r=>if p c then span p r+1 else 0
def skip:Bool->List UInt8->Nat
 |_,[]=>0
 |true,c::r=>if c=10 then skip false r+1 else skip true r+1
 |false,c::r=>if isBlank c then skip false r+1 else if c=45/\r.head?=some 45 then skip true r+1 else 0
def quote:List UInt8->Option (List UInt8 × Nat)
 | []=>none
 | [c]=>if c=39 then some ([],1) else none
 |c::d::r=>if c=39 then (if d=39 then (quote r).map fun x=>(39::x.1,x.2+2) else some ([],1)) else (quote (d::r)).map fun x=>(c::x.1,x.2+1)
def words:List (List UInt8):=[[65,76,76],[65,78,68],[65,83],[65,83,67],[66,65,67,75],[66,69,84,87,69,69,78],[66,79,79,76],[66,89],[67,65,83,84],[67,79,76,76,65,84,69],[67,79,76,76,65,84,73,79,78],[67,82,69,65,84,69],[68,69,76,69,84,69],[68,69,83,67],[68,73,83,84,73,78,67,84],[68,82,79,80],[69,83,67,65,80,69],[70,65,76,83,69],[70,82,79,77],[71,82,79,85,80],[72,65,86,73,78,71],[73,78],[73,78,68,69,88],[73,78,83,69,82,84],[73,78,84],[73,78,84,79],[73,83],[74,79,73,78],[76,69,86,69,76],[76,73,75,69],[76,73,77,73,84],[78,79,84],[78,85,76,76],[79,70,70,83,69,84],[79,78],[79,82],[79,82,68,69,82],[83,69,76,69,67,84],[83,69,84],[83,72,73,70,84],[84,65,66,76,69],[84,69,88,84],[84,82,85,69],[85,78,73,81,85,69],[85,80,68,65,84,69],[86,65,76,85,69,83],[87,72,69,82,69],[88,79,82]]
def isWord (l:List UInt8):Bool:=words.contains l
def num (l:List UInt8):Nat:=l.foldl (fun a c=>a * 10+(c.toNat - 48)) 0
def ops1:List UInt8:=[40,41,44,46,59,42,61,60,62,43,45,47,37,38,124,94]
def ops2:List (List UInt8):=[[60,62],[60,61],[62,61],[60,60],[62,62],[124,124]]
structure Tok where
 kind:Nat
 text:List UInt8
 n:Int
 pos:Nat
def tok1:List UInt8->Option (Nat × List UInt8 × Int × Nat)
 | []=>none
 |c::r =>
  if isDigit c then
   (if num ((c::r).take (span isDigit (c::r)))<=9223372036854775807/\((c::r).drop (span isDigit (c::r))).head?.all (fun d=>!isLetter d) then
    some (3,[],(num ((c::r).take (span isDigit (c::r))):Int),span isDigit (c::r)) else none)
  else if isLetter c then
   (if span isNameB (c::r)<=16 then
    (
     if isWord (((c::r).take (span isNameB (c::r))).map Lib.upperB) then some (2,((c::r).take (span isNameB (c::r))).map Lib.upperB,0,span isNameB (c::r))
     else some (1,((c::r).take (span isNameB (c::r))).map Lib.lowerB,0,span isNameB (c::r)))
    else none)
  else if c=39 then (quote r).map fun x=>(4,x.1,0,x.2+1)
  else if ops2.contains ((c::r).take 2) then some (5,(c::r).take 2,0,2)
  else if ops1.contains c then some (5,[c],0,1)
  else none
def lexGo:Nat->List Tok->Nat->List UInt8->Except Nat (List Tok)
 |0,acc,_,_=> .ok acc
 |f+1,acc,pos,l =>
  match l.drop (skip false l) with
  | []=> .ok acc
  |c::r=>match tok1 (c::r) with
   |none=> .error (pos+skip false l)
   |some x=>lexGo f (acc++[⟨x.1,x.2.1,x.2.2.1,pos+skip false l⟩]) (pos+skip false l+x.2.2.2) ((c::r).drop x.2.2.2)
def lex (l:List UInt8):Except Nat (List Tok):=lexGo (l.length+1) [] 0 l
theorem span_le (p:UInt8->Bool):∀ l:List UInt8,span p l<=l.length
 | []=>Nat.le_refl _
 |c::r=>by
  have:=span_le p r;simp only [span,List.length_cons];split<;>omega
theorem span_pos {p:UInt8->Bool} {c:UInt8} {r:List UInt8} (h:p c=true):0<span p (c::r):=by
 simp [span,h]
theorem span_all (p:UInt8->Bool):∀ l:List UInt8,∀ x∈l.take (span p l),p x=true
 | [],x,h=>by simp [span] at h
 |c::r,x,h=>by
  simp only [span] at h;by_cases hc:p c=true
  ·rw [if_pos hc,List.take_succ_cons] at h;rcases List.mem_cons.1 h with rfl|h
   ·exact hc
   ·exact span_all p r x h
  ·rw [if_neg hc] at h;simp at h
theorem span_step {p:UInt8->Bool}:∀ {l:List UInt8} {k:Nat},k<=span p l->(k<span p l↔∃ c,l[k]?=some c/\p c=true)
 | [],k,_=>by simp [span]
 |c::r,0,_=>by
  simp only [span,List.getElem?_cons_zero,Option.some.injEq,exists_eq_left'];split
  ·rename_i h;simp [h]
  ·rename_i h;simp [h]
 |c::r,k+1,h=>by
  simp only [span] at h |-;by_cases hc:p c=true
  ·rw [if_pos hc] at h |-;have:=span_step (p:=p) (l:=r) (k:=k) (by omega);simp only [List.getElem?_cons_succ];rw [<- this];omega
  ·rw [if_neg hc] at h;omega
theorem skip_le:∀ (b:Bool) (l:List UInt8),skip b l<=l.length
 |_,[]=>by cases ‹Bool› <;> simp [skip]
 |true,c::r=>by
  have h1:=skip_le false r;have h2:=skip_le true r;simp only [skip,List.length_cons];split<;>omega
 |false,c::r=>by
  have h1:=skip_le false r;have h2:=skip_le true r;simp only [skip,List.length_cons];split
  ·omega
  ·split<;>omega
theorem skip_true:∀ l:List UInt8,skip true l=span (fun c=>c !=10) l+skip false (l.drop (span (fun c=>c !=10) l))
 | []=>by simp [skip,span]
 |c::r=>by
  have ih:=skip_true r;by_cases h:c=10
  ·subst h;simp [skip,span,isBlank]
  ·have h2:(c !=10)=true:=by simp [h]
   simp only [skip,if_neg h,span,h2,if_true,List.drop_succ_cons];omega
theorem skip_blank {c:UInt8} {r:List UInt8} (h:isBlank c=true):skip false (c::r)=1+skip false r:=by
 simp only [skip,if_pos h];omega
theorem skip_remark {r:List UInt8}:skip false (45::45::r)=span (fun c=>c !=10) (45::45::r)+skip false ((45::45::r).drop (span (fun c=>c !=10) (45::45::r))):=by
 have e:skip false (45::45::r)=skip true (45::45::r):=by simp [skip,isBlank]
 rw [e,skip_true]
theorem skip_stop {c:UInt8} {r:List UInt8} (h:isBlank c=false) (h2:¬ (c=45/\r.head?=some 45)):skip false (c::r)=0:=by
 simp only [skip,h,if_neg h2];simp
theorem quote_pos:∀ {l:List UInt8} {x},quote l=some x->0<x.2/\x.2<=l.length/\x.1.length<x.2
 | [],x,h=>by simp [quote] at h
 | [c],x,h=>by
  simp only [quote] at h;split at h
  ·cases h;simp
  ·cases h
 |c::d::r,x,h=>by
  simp only [quote] at h;split at h
  ·split at h
   ·obtain ⟨y,hy,rfl⟩:=Option.map_eq_some_iff.1 h;have:=quote_pos hy;simp;omega
   ·cases h;simp
  ·obtain ⟨y,hy,rfl⟩:=Option.map_eq_some_iff.1 h;have:=quote_pos hy;simp at this |-;omega
theorem tok1_pos {l:List UInt8} {x} (h:tok1 l=some x):0<x.2.2.2/\x.2.2.2<=l.length:=by
 match l,h with
 | [],h=>simp [tok1] at h
 |c::r,h =>
  simp only [tok1] at h;split at h
  ·rename_i hc;split at h
   ·cases h;exact ⟨span_pos hc,span_le _ _⟩
   ·cases h
  ·split at h
   ·rename_i hc;have hp:0<span isNameB (c::r):=span_pos (by simp [isNameB,hc]);split at h
    ·split at h<;>(cases h;exact ⟨hp,span_le _ _⟩)
    ·cases h
   ·split at h
    ·obtain ⟨y,hy,rfl⟩:=Option.map_eq_some_iff.1 h;have:=quote_pos hy;simp;omega
    ·split at h
     ·rename_i hm;cases h;refine ⟨by simp,?_⟩
      match r,hm with
      | [],hm=>simp [ops2] at hm
      |d::r,_=>simp
     ·split at h
      ·cases h;simp
      ·cases h
theorem lexGo_fuel:∀ (f g:Nat) (acc:List Tok) (pos:Nat) (l:List UInt8),l.length<f->l.length<g->lexGo f acc pos l=lexGo g acc pos l
 |0,_,_,_,_,h,_=>absurd h (Nat.not_lt_zero _)
 |_,0,_,_,_,_,h=>absurd h (Nat.not_lt_zero _)
 |f+1,g+1,acc,pos,l,hf,hg=>by
  simp only [lexGo];split
  ·rfl
  ·rename_i c r hl;split
   ·rfl
   ·rename_i x hx;have h1:=tok1_pos hx;have h2:(c::r).length<=l.length:=by rw [<- hl,List.length_drop];omega
    exact lexGo_fuel f g _ _ _ (by rw [List.length_drop];omega) (by rw [List.length_drop];omega)
def lexAt (acc:List Tok) (pos:Nat) (l:List UInt8):Except Nat (List Tok):=lexGo (l.length+1) acc pos l
theorem lexAt_skip {acc:List Tok} {pos m:Nat} {l:List UInt8} (h:skip false l=m+skip false (l.drop m)):lexAt acc pos l=lexAt acc (pos+m) (l.drop m):=by
 unfold lexAt;rw [lexGo_fuel ((l.drop m).length+1) (l.length+1) acc (pos+m) (l.drop m) (by omega) (by rw [List.length_drop];omega)];simp only [lexGo];rw [h,<- List.drop_drop,Nat.add_assoc]
theorem lexAt_end {acc:List Tok} {pos:Nat} {l:List UInt8} (h:l.drop (skip false l)=[]):lexAt acc pos l= .ok acc:=by
 unfold lexAt;simp only [lexGo];rw [h]
theorem lexAt_err {acc:List Tok} {pos:Nat} {l:List UInt8} {c:UInt8} {r:List UInt8} (h:l.drop (skip false l)=c::r) (ht:tok1 (c::r)=none):lexAt acc pos l= .error (pos+skip false l):=by
 unfold lexAt;simp only [lexGo];rw [h];simp only [ht]
theorem lexAt_tok {acc:List Tok} {pos:Nat} {l:List UInt8} {c:UInt8} {r:List UInt8} (h:l.drop (skip false l)=c::r) {x} (ht:tok1 (c::r)=some x) :
 lexAt acc pos l=lexAt (acc++[⟨x.1,x.2.1,x.2.2.1,pos+skip false l⟩]) (pos+skip false l+x.2.2.2) ((c::r).drop x.2.2.2):=by
 have h1:=tok1_pos ht;have h2:(c::r).length<=l.length:=by rw [<- h,List.length_drop];omega
 have e:lexAt acc pos l=lexGo l.length (acc++[⟨x.1,x.2.1,x.2.2.1,pos+skip false l⟩]) (pos+skip false l+x.2.2.2) ((c::r).drop x.2.2.2):=by
  unfold lexAt;simp only [lexGo];rw [h];simp only [ht]
 rw [e];unfold lexAt;exact lexGo_fuel _ _ _ _ _ (by rw [List.length_drop];omega) (by omega)
theorem lex_eq (l:List UInt8):lex l=lexAt [] 0 l:=rfl
end Go.Proofs.YtimeipjcmffadaaGreatDoor.Lx
namespace Go.Proofs.YtimeipjcmffadaaGreatDoor
open Go.RowKit
def Blk (w:World) (g:Nat) (cs:Array Value) (t:TypeId):Prop:=w.heap[g]?=some (.cells cs t (0,0))
section
variable {w w':World} {g B:Nat} {cs:Array Value} {t:TypeId}
theorem Blk.lt (h:Blk w g cs t):g<w.heap.size:=lt_of_block h
theorem Blk.cell (h:Blk w g cs t):∀ o,w.cell? ⟨g,o,none⟩=cs[o]?:=fun o=>cell_of_row w g o cs t (0,0) h
theorem Blk.free (h:Blk w g cs t):∀ o,w.frozen? ⟨g,o,none⟩=false:=fun o=>frozen_of_row w g o cs t h
theorem Blk.facts (h:Blk w g cs t):(∀ o,w.cell? ⟨g,o,none⟩=cs[o]?)/\(∀ o,w.frozen? ⟨g,o,none⟩=false):=⟨h.cell,h.free⟩
theorem Blk.alloc (h:Blk w g cs t) (o:Obj):Blk (w.alloc o) g cs t:=(Below.heap_alloc w o g h.lt).trans h
theorem Blk.new (w:World) (cs:Array Value) (t:TypeId) {n:Nat} (h:n=w.heap.size):Blk (w.alloc (.cells cs t)) n cs t:=by
 subst h;exact heap_alloc_new w _
theorem Blk.drew (h:Blk w g cs t):Blk w.drew g cs t:=h
theorem Blk.other (h:Blk w g cs t) {a:Addr} (ha:g≠a.block) (v:Value):Blk (w.setCell a v) g cs t:=(heap_setCell_other w a g v ha).trans h
theorem Blk.set (h:Blk w g cs t) (o:Nat) (v:Value):Blk (w.setCell ⟨g,o,none⟩ v) g (cs.setIfInBounds o v) t:=heap_setCell_same w g o cs t v h
theorem Blk.below (h:Blk w g cs t) (hb:Below B w w') (hg:g<B):Blk w' g cs t:=(hb.block g hg).trans h
theorem Blk.keep (h:Blk w g cs t) (hb:Below w.heap.size w w'):Blk w' g cs t:=h.below hb h.lt
end
theorem h_ {p:Prop} (h:p):Go.RowKit.Hid p:=h
end Go.Proofs.YtimeipjcmffadaaGreatDoor
namespace Go.Proofs.YtimeipjcmffadaaGreatDoor
open Go.RowKit
set_option maxRecDepth 100000
theorem ret_bool {a b:Bool} (h:a=b):Ending.returned (.bool a)= .returned (.bool b):=by rw [h]
theorem u8_all {p:UInt8->Prop} (h:∀ n:Fin 256,p (UInt8.ofNat n.val)) (c:UInt8):p c:=by
 have:=h ⟨c.toNat,c.toNat_lt⟩;simpa using this
def letterX (n:Nat):Bool:=decide ((64:Int)<=(n:Int)) && decide ((n:Int)<128) && ((bits BinOp.and IntKind.i64 (134217726 / 2 ^ (n % 32)) 1 == 1) ||((n:Int) == 95))
theorem letterX_all:∀ n:Fin 256,letterX n.val=Lx.isLetter (UInt8.ofNat n.val):=by decide +kernel
theorem letterX_eq (c:UInt8):Lx.isLetter c=letterX c.toNat:=by
 have:=letterX_all ⟨c.toNat,c.toNat_lt⟩;simp at this;exact this.symm
theorem isDigit_eq (c:UInt8):Lx.isDigit c=(decide ((48:Int)<=(c.toNat:Int)) && decide ((c.toNat:Int)<=57)):=by
 rw [Bool.eq_iff_iff];simp [Lx.isDigit,UInt8.le_iff_toNat_le];omega
theorem isLetter_eq (c:UInt8):Lx.isLetter c=(decide ((97:Int)<=(c.toNat:Int)) && decide ((c.toNat:Int)<=122) ||decide ((65:Int)<=(c.toNat:Int)) && decide ((c.toNat:Int)<=90) ||((c.toNat:Int) == 95)):=by
 rw [Bool.eq_iff_iff];simp [Lx.isLetter,UInt8.le_iff_toNat_le,<- UInt8.toNat_inj];omega
theorem lexLetter_any (c:UInt8) (w:World) :
 Calls Tryz.prog 174 #[.int .u8 c.toNat] w fun e w'=>e= .returned (.bool (Lx.isLetter c))/\w=w':=by
 rw [letterX_eq];have hc:=c.toNat_lt;go_enter Tryz.func174,Tryz.ntmps174;go_wp2
 all_goals (go_ret;refine ⟨ret_bool ?_,rfl⟩;simp [letterX, *])
 all_goals omega
theorem digit_any (c:UInt8) (w:World) :
 Calls Tryz.prog 176 #[.int .u8 c.toNat] w fun e w'=>e= .returned (.bool (Lx.isDigit c))/\w=w':=by
 rw [isDigit_eq];have hc:=c.toNat_lt;go_enter Tryz.func176,Tryz.ntmps176;go_wp2
 all_goals (go_ret;refine ⟨ret_bool ?_,rfl⟩;rw [Bool.eq_iff_iff];simp;omega)
theorem line_any (c:UInt8) (w:World) :
 Calls Tryz.prog 173 #[.int .u8 c.toNat] w fun e w'=>e= .returned (.bool (c !=10))/\w=w':=by
 have hc:(c !=10)=((c.toNat:Int) !=10):=by
  rw [Bool.eq_iff_iff];simp [<- UInt8.toNat_inj];omega
 rw [hc];clear hc;go_enter Tryz.func173,Tryz.ntmps173;go_wp2;go_ret;exact ⟨rfl,rfl⟩
theorem nameb_any (c:UInt8) (w:World) :
 Calls Tryz.prog 226 #[.int .u8 c.toNat] w fun e w'=>e= .returned (.bool (Lx.isNameB c))/\w=w':=by
 cases h:Lx.isLetter c
 ·have H:=h_ h;clear h;go_enter Tryz.func226,Tryz.ntmps226;go_wp2_with fail;refine (lexLetter_any c w).mono ?_;rintro e w' ⟨rfl,rfl⟩;rw [H.out];go_wp2_with fail;refine (digit_any c w).mono ?_;rintro e w' ⟨rfl,rfl⟩;have e:Lx.isDigit c=Lx.isNameB c:=by unfold Lx.isNameB;rw [H.out];rfl
  have E:=h_ e;clear e;go_wp2;go_ret;exact ⟨ret_bool E.out,rfl⟩
 ·have H:=h_ h;clear h;go_enter Tryz.func226,Tryz.ntmps226;go_wp2_with fail;refine (lexLetter_any c w).mono ?_;rintro e w' ⟨rfl,rfl⟩;rw [H.out];have e:true=Lx.isNameB c:=by unfold Lx.isNameB;rw [H.out];rfl
  have E:=h_ e;clear e;go_wp2;go_ret;exact ⟨ret_bool E.out,rfl⟩
theorem refdigit_any (c:UInt8) (w:World) :
 Calls Tryz.prog 138 #[.int .u8 c.toNat] w fun e w'=>e= .returned (.bool (Lx.isDigit c))/\w=w':=by
 rw [isDigit_eq];have hc:=c.toNat_lt;go_enter Tryz.func138,Tryz.ntmps138;go_wp2
 all_goals (go_ret;refine ⟨ret_bool ?_,rfl⟩;rw [Bool.eq_iff_iff];simp;omega)
def bsl (s:ByteArray):List UInt8:=s.data.toList
theorem bsl_length (s:ByteArray):(bsl s).length=s.size:=Array.length_toList
theorem bsl_get (s:ByteArray) (k:Nat) (h:k<s.size):(bsl s)[k]?=some (s[k]'h):=by
 have h':k<s.data.toList.length:=by rw [Array.length_toList];exact h
 rw [bsl,List.getElem?_eq_getElem h'];rfl
theorem span_any (K:Nat) (p:UInt8->Bool) (s:ByteArray) (w:World) (hs:s.size<=maxLen) (hcf:∀ (args:Array Value) (w:World),(callFunc K args).run Tryz.prog w= .ok (.enter K args) w)
 (hf:∀ (c:UInt8) (w:World),Calls Tryz.prog K #[.int .u8 c.toNat] w fun e w'=>e= .returned (.bool (p c))/\w=w') :
 Calls Tryz.prog 172 #[.string s,.func (.func K) #[] #[]] w fun e w'=>e= .returned (.int .i64 (Lx.span p (bsl s)))/\w=w':=by
 unfold maxLen at hs;have HF:=h_ hf;clear hf;have hle:=Lx.span_le p (bsl s);rw [bsl_length] at hle;go_enter Tryz.func172,Tryz.ntmps172;go_wp2_with fail;go_loop [5] (fun i=>∃ k:Nat,k<=Lx.span p (bsl s)/\i= .int .i64 k) (fun i=>s.size - (intOf i).toNat)
 case atStart=>exact ⟨0,Nat.zero_le _,rfl⟩
 case round =>
  obtain ⟨k,hk,rfl⟩:=hrel;have hst:=h_ (Lx.span_step hk);by_cases hlt:k<s.size
  ·cases hp:p (s[k]'hlt)
   ·have HP:=h_ hp;clear hp;go_wp2_with fail;refine (HF.out _ w).mono ?_;rintro e w' ⟨rfl,rfl⟩;rw [HP.out];go_wp2;go_ret;refine ⟨?_,rfl⟩;have:¬ k<Lx.span p (bsl s):=by
     intro h;obtain ⟨c,hc,hpc⟩:=hst.out.1 h;rw [bsl_get s k hlt] at hc;cases hc;rw [HP.out] at hpc;cases hpc
    have e:k=Lx.span p (bsl s):=by omega
    simp [e]
   ·have HP:=h_ hp;clear hp;go_wp2_with fail;refine (HF.out _ w).mono ?_;rintro e w' ⟨rfl,rfl⟩;rw [HP.out];go_wp2;go_round
    case rel=>exact ⟨k+1,hst.out.2 ⟨_,bsl_get s k hlt,HP.out⟩,by go_num⟩
    case measure=>simp [intOf];omega
  ·go_wp2;go_ret;have e:k=Lx.span p (bsl s):=by omega
   exact ⟨by simp [e],rfl⟩
theorem enter176 (args:Array Value) (w:World):(callFunc 176 args).run Tryz.prog w= .ok (.enter 176 args) w:=by kernel_rfl
theorem enter173 (args:Array Value) (w:World):(callFunc 173 args).run Tryz.prog w= .ok (.enter 173 args) w:=by kernel_rfl
theorem enter226 (args:Array Value) (w:World):(callFunc 226 args).run Tryz.prog w= .ok (.enter 226 args) w:=by kernel_rfl
theorem span_digit (s:ByteArray) (w:World) (hs:s.size<=maxLen):Calls Tryz.prog 172 #[.string s,.func (.func 176) #[] #[]] w fun e w'=>e= .returned (.int .i64 (Lx.span Lx.isDigit (bsl s)))/\w=w' :=
 span_any 176 Lx.isDigit s w hs enter176 digit_any
theorem span_line (s:ByteArray) (w:World) (hs:s.size<=maxLen):Calls Tryz.prog 172 #[.string s,.func (.func 173) #[] #[]] w fun e w'=>e= .returned (.int .i64 (Lx.span (fun c=>c !=10) (bsl s)))/\w=w' :=
 span_any 173 _ s w hs enter173 line_any
theorem span_name (s:ByteArray) (w:World) (hs:s.size<=maxLen):Calls Tryz.prog 172 #[.string s,.func (.func 226) #[] #[]] w fun e w'=>e= .returned (.int .i64 (Lx.span Lx.isNameB (bsl s)))/\w=w' :=
 span_any 226 _ s w hs enter226 nameb_any
theorem wpList_push {P:Program} {w:World} {ops:Array Oper} {rest:List Oper} {o:Oper} {a:Act} {Q:Exit->Act->World->Prop} (hgd:o.guard=none) (s x:Operand) (t:TypeId)
 (ho:o.op= .call { callee:= .builtin .append,args:= #[s,x],argTypes:= #[t,t] })
 (base:Nat) (e:TypeId) (z:Value) (size bytes:Nat) (ht:P.underlying t=some (.slice e)) (hinfo:(P.info? e).map (fun i=>(i.zero,i.size,i.bytes))=some (some z,size,bytes))
 (hzs:z.cells.size=size) (hsz:0<size)
 (v:Value) (n:Nat) (xs:List Value) (hs:a.eval s=v) (hown:w.ownsRow base e size v n xs)
 (b:Nat) (te:TypeId) (news:Array Value) (hx:a.eval x= .slice (some ⟨b,0,none⟩) 1 1) (hb:Blk w b news te) (hl:news.size=size) (h1:∀ u∈news.toList,u.oneCell'=true)
 (h63:n+1<=maxLen) (hbytes:(n+1) * bytes<=140737488355328) (hbase:base<=w.heap.size)
 (h:∀ v' w',w'.ownsRow base e size v' (n+1) (xs++news.toList)->w.grownBy w' v.ownBlock->(v'.ownBlock=v.ownBlock ∨ v'.ownBlock=some w.heap.size)->wpList P ops Q rest (a.put o.dst v') w') :
 wpList P ops Q (o::rest) a w:=by
 obtain ⟨i,hi,hz0,hz1,hz2⟩:=info_parts hinfo;refine wpList_append_own_at w hgd s x t ho base e i z size bytes ht hi hz0 hz1 hz2 hzs hsz v n xs hs hown ⟨b,0,none⟩ 1 1 news.toList hx (by simpa using hl) (fun j u hj=>?_) h1 h63 hbytes hbase
  (fun v' w' h2 h3 _ h5=>h v' w' h2 h3 h5)
 rw [Addr.add_lit,Nat.zero_add,hb.cell];simpa using hj
section
variable {w w':World} {B:Nat} {e eo ei:TypeId} {v:Value}
theorem ownsRow_heap {n size:Nat} {xs:List Value} (h:w.ownsRow B e size v n xs) {g:Nat} (hg:v.ownBlock=some g):∃ cur,w.heap[g]?=some (.cells cur e (0,0))/\g<w.heap.size:=by
 rcases h.2 with ⟨rfl,_⟩|⟨g',cap,cur,rfl,_,hh,_⟩
 ·simp [Value.ownBlock] at hg
 ·simp [Value.ownBlock] at hg;subst hg;exact ⟨cur,hh,(Array.getElem?_eq_some_iff.1 hh).1⟩
theorem ownsRow_apart {e1 e2:TypeId} {v1 v2:Value} {n1 n2 s1 s2:Nat} {x1 x2:List Value} (h1:w.ownsRow B e1 s1 v1 n1 x1) (h2:w.ownsRow B e2 s2 v2 n2 x2) (hne:e1≠e2) {g:Nat} (hg:v1.ownBlock=some g):v2.ownBlock≠some g:=by
 intro hg2;obtain ⟨c1,e1,_⟩:=ownsRow_heap h1 hg;obtain ⟨c2,e2,_⟩:=ownsRow_heap h2 hg2;rw [e1] at e2;injection e2 with e2;injection e2 with _ e2;exact hne e2
theorem ownsRow_slice {n size:Nat} {xs:List Value} (h:w.ownsRow B e size v n xs):∃ ao cap,v= .slice ao n cap/\n<=cap:=by
 rcases h.2 with ⟨rfl,rfl⟩|⟨g',cap,cur,rfl,_,_,hn,_⟩
 ·exact ⟨none,0,rfl,Nat.le_refl _⟩
 ·exact ⟨_,cap,rfl,hn⟩
theorem ownsRow_ext {n size:Nat} {xs:List Value} (h:w.ownsRow B e size v n xs) (hb:Below w.heap.size w w'):w'.ownsRow B e size v n xs :=
 h.kept (row:=none) ⟨hb.os,hb.tape,hb.output,hb.size,fun k hk _=>hb.block k hk⟩ (by cases hv:v.ownBlock<;>simp)
def OwnsLL (w:World) (B:Nat) (eo ei:TypeId) (v:Value) (L:List (List Value)):Prop :=
 ∃ vs:List Value,w.ownsRow B eo 1 v L.length vs/\vs.length=L.length/\(∀ (j:Nat) (u:Value) (l:List Value),vs[j]?=some u->L[j]?=some l->w.ownsRow B ei 1 u l.length l) /\
  (∀ (i j:Nat) (u u':Value) (g:Nat),i≠j->vs[i]?=some u->vs[j]?=some u'->u.ownBlock=some g->u'.ownBlock≠some g)
theorem OwnsLL.nil (w:World) (B:Nat) (eo ei:TypeId):OwnsLL w B eo ei (.slice none 0 0) [] :=
 ⟨[],World.ownsRow_nil _ _ _ _,rfl,fun j u l h=>by simp at h,fun i j u u' g _ h=>by simp at h⟩
theorem OwnsLL.ext {L:List (List Value)} (h:OwnsLL w B eo ei v L) (hb:Below w.heap.size w w'):OwnsLL w' B eo ei v L:=by
 obtain ⟨vs,h1,h2,h3,h4⟩:=h;exact ⟨vs,ownsRow_ext h1 hb,h2,fun j u l hu hl=>ownsRow_ext (h3 j u l hu hl) hb,h4⟩
theorem OwnsLL.grown {L:List (List Value)} (h:OwnsLL w B eo ei v L) {g:Nat} (hg:w.grownBy w' (some g)) (hm:∀ c e,w.heap[g]?≠some (.cells c e (0,0))):OwnsLL w' B eo ei v L:=by
 obtain ⟨vs,h1,h2,h3,h4⟩:=h;have apart:∀ {e n size} {u:Value} {xs:List Value},w.ownsRow B e size u n xs->u.ownBlock=none ∨ u.ownBlock≠some g:=by
  intro e n size u xs hr;right;intro hgu;obtain ⟨c,hc,_⟩:=ownsRow_heap hr hgu;exact hm _ _ hc
 exact ⟨vs,h1.kept hg (apart h1),h2,fun j u l hu hl=>(h3 j u l hu hl).kept hg (apart (h3 j u l hu hl)),h4⟩
theorem OwnsLL.push {L:List (List Value)} {vs:List Value} {v':Value} (hne:eo≠ei) (h1:w.ownsRow B eo 1 v L.length vs) (h2:vs.length=L.length) (h3:∀ (j:Nat) (u:Value) (l:List Value),vs[j]?=some u->L[j]?=some l->w.ownsRow B ei 1 u l.length l)
 (h4:∀ (i j:Nat) (u u':Value) (g:Nat),i≠j->vs[i]?=some u->vs[j]?=some u'->u.ownBlock=some g->u'.ownBlock≠some g)
 (hown:w'.ownsRow B eo 1 v' (L.length+1) (vs++[.slice none 0 0])) (hg:w.grownBy w' v.ownBlock):OwnsLL w' B eo ei v' (L++[[]]):=by
 refine ⟨vs++[.slice none 0 0],by simpa using hown,by simp [h2],fun j u l hu hl=>?_,fun i j u u' g hij hu hu' hgu=>?_⟩
 ·rcases Nat.lt_trichotomy j vs.length with hlt|heq|hgt
  ·rw [List.getElem?_append_left hlt] at hu;rw [List.getElem?_append_left (by omega)] at hl;have hr:=h3 j u l hu hl;refine hr.kept hg ?_;cases huo:u.ownBlock with
   |none=>exact .inl rfl
   |some g=>exact .inr (fun e=>ownsRow_apart h1 hr hne e.symm huo)
  ·subst heq;rw [List.getElem?_append_right (by omega)] at hu;rw [List.getElem?_append_right (by omega),h2] at hl;simp at hu hl;subst hu hl;exact World.ownsRow_nil _ _ _ _
  ·rw [List.getElem?_eq_none (by simp;omega)] at hu;cases hu
 ·have one:∀ (k:Nat) (x:Value),(vs++[.slice none 0 0])[k]?=some x->x.ownBlock≠none->vs[k]?=some x:=by
   intro k x hk hx;rcases Nat.lt_or_ge k vs.length with hlt|hge
   ·rwa [List.getElem?_append_left hlt] at hk
   ·rw [List.getElem?_append_right hge] at hk;rcases Nat.eq_zero_or_pos (k - vs.length) with h0|hp
    ·rw [h0] at hk;simp at hk;subst hk;exact absurd rfl hx
    ·rw [List.getElem?_eq_none (by simp;omega)] at hk;cases hk
  intro hg';exact h4 i j u u' g hij (one i u hu (by rw [hgu];simp)) (one j u' hu' (by rw [hg'];simp)) hgu hg'
theorem OwnsLL.grow {L:List (List Value)} {vs:List Value} {n g cap:Nat} {u u' x:Value} {l:List Value} (hne:eo≠ei) (h1:w.ownsRow B eo 1 (.slice (some ⟨g,0,none⟩) L.length cap) L.length vs) (h2:vs.length=L.length)
 (h3:∀ (j:Nat) (u:Value) (l:List Value),vs[j]?=some u->L[j]?=some l->w.ownsRow B ei 1 u l.length l)
 (h4:∀ (i j:Nat) (u u':Value) (g:Nat),i≠j->vs[i]?=some u->vs[j]?=some u'->u.ownBlock=some g->u'.ownBlock≠some g) (hu:vs[n]?=some u) (hl:L[n]?=some l)
 (hown:w'.ownsRow B ei 1 u' (l.length+1) (l++[x])) (hg:w.grownBy w' u.ownBlock) (hat:u'.ownBlock=u.ownBlock ∨ u'.ownBlock=some w.heap.size) :
 OwnsLL (w'.setCell ⟨g,n,none⟩ u') B eo ei (.slice (some ⟨g,0,none⟩) L.length cap) (L.set n (l++[x]))/\w'.cell? ⟨g,n,none⟩=some u/\w'.frozen? ⟨g,n,none⟩=false:=by
 have hnl:n<L.length:=(List.getElem?_eq_some_iff.1 hl).1;have hub:u.ownBlock=none ∨ u.ownBlock≠some g:=by
  cases huo:u.ownBlock with
  |none=>exact .inl rfl
  |some k=>exact .inr (fun e=>ownsRow_apart h1 (h3 n u l hu hl) hne (g:=g) rfl (by rw [huo,e]))
 have hout:w'.ownsRow B eo 1 (.slice (some ⟨g,0,none⟩) L.length cap) L.length vs:=h1.kept hg (by
  right;rcases hub with h|h
  ·rw [h];simp [Value.ownBlock]
  ·exact fun e=>h e.symm)
 obtain ⟨hst,hgs⟩:=hout.stored n u';have hug:u'.ownBlock≠some g:=fun e=>ownsRow_apart hout hown hne (g:=g) rfl e;refine ⟨⟨vs.set n u',by simpa using hst,by simp [h2],fun j y m hy hm=>?_,fun i j y y' k hij hy hy' hk=>?_⟩,by rw [hout.cellAt n (by omega),hu],hout.frozenAt n⟩
 ·by_cases hj:j=n
  ·subst hj;rw [List.getElem?_set_self (by omega)] at hy hm;obtain rfl:=Option.some.inj hy;obtain rfl:=Option.some.inj hm;simpa using hown.kept hgs (.inr hug)
  ·rw [List.getElem?_set_ne (by omega)] at hy hm;have hr:=h3 j y m hy hm;have hr2:w'.ownsRow B ei 1 y m.length m:=hr.kept hg (by
    cases hyo:y.ownBlock with
    |none=>exact .inl rfl
    |some k=>exact .inr (fun e=>h4 n j u y k (fun e=>hj e.symm) hu hy e.symm hyo))
   exact hr2.kept hgs (.inr (fun e=>ownsRow_apart hout hr2 hne (g:=g) rfl e))
 ·have fresh:∀ (j:Nat) (y:Value),j≠n->vs[j]?=some y->∀ k,u'.ownBlock=some k->y.ownBlock≠some k:=by
   intro j y hj hy k hk hyk;obtain ⟨m,hm⟩:∃ m,L[j]?=some m:=⟨_,List.getElem?_eq_getElem (by have:=(List.getElem?_eq_some_iff.1 hy).1;omega)⟩
   rcases hat with h|h
   ·exact h4 n j u y k (fun e=>hj e.symm) hu hy (by rw [<- h];exact hk) hyk
   ·rw [h] at hk;obtain ⟨_,_,hlt⟩:=ownsRow_heap (h3 j y m hy hm) hyk;simp at hk;omega
  by_cases hi:i=n
  ·subst hi;rw [List.getElem?_set_self (by omega)] at hy;rw [List.getElem?_set_ne (by omega)] at hy';obtain rfl:=Option.some.inj hy;exact fresh j y' (fun e=>hij e.symm) hy' k hk
  ·rw [List.getElem?_set_ne (by omega)] at hy;by_cases hj:j=n
   ·subst hj;rw [List.getElem?_set_self (by omega)] at hy';obtain rfl:=Option.some.inj hy';intro e;exact fresh i y hi hy k e hk
   ·rw [List.getElem?_set_ne (by omega)] at hy';exact h4 i j y y' k hij hy hy' hk
theorem OwnsLL.at {L:List (List Value)} (h:OwnsLL w B eo ei v L) {n:Nat} {l:List Value} (hl:L[n]?=some l) :
 ∃ g cap vs u,v= .slice (some ⟨g,0,none⟩) L.length cap/\w.ownsRow B eo 1 (.slice (some ⟨g,0,none⟩) L.length cap) L.length vs/\vs.length=L.length /\
  (∀ (j:Nat) (u:Value) (l:List Value),vs[j]?=some u->L[j]?=some l->w.ownsRow B ei 1 u l.length l) /\
  (∀ (i j:Nat) (u u':Value) (g:Nat),i≠j->vs[i]?=some u->vs[j]?=some u'->u.ownBlock=some g->u'.ownBlock≠some g) /\
  vs[n]?=some u/\w.ownsRow B ei 1 u l.length l/\w.cell? ⟨g,n,none⟩=some u/\w.frozen? ⟨g,n,none⟩=false/\B<=g/\g<w.heap.size/\L.length<=cap:=by
 obtain ⟨vs,h1,h2,h3,h4⟩:=h;have hn:n<L.length:=(List.getElem?_eq_some_iff.1 hl).1;rcases h1.2 with ⟨_,h0⟩|⟨g,cap,cur,rfl,hb,hh,hnc,hcm,hcs,htake⟩
 ·omega
 ·have hu:vs[n]?=some vs[n]:=List.getElem?_eq_getElem (by omega);refine ⟨g,cap,vs,vs[n],rfl,h1,h2,h3,h4,hu,h3 n _ l hu hl,?_,h1.frozenAt n,hb,(Array.getElem?_eq_some_iff.1 hh).1,hnc⟩;rw [h1.cellAt n (by omega),hu]
def ReadsL (w:World) (v:Value) (l:List Value):Prop :=
 (v= .slice none 0 0/\l=[]) ∨ ∃ g c,v= .slice (some ⟨g,0,none⟩) l.length c/\l.length<=c/\∀ (j:Nat) (u:Value),l[j]?=some u->w.cell? ⟨g,j,none⟩=some u
def ReadsLL (w:World) (v:Value) (L:List (List Value)):Prop :=
 ∃ vs:List Value,ReadsL w v vs/\vs.length=L.length/\∀ (j:Nat) (u:Value) (l:List Value),vs[j]?=some u->L[j]?=some l->ReadsL w u l
theorem ownsRow_reads {n:Nat} {xs:List Value} (h:w.ownsRow B e 1 v n xs):ReadsL w v xs:=by
 have hl:=h.1;rcases h.2 with ⟨rfl,rfl⟩|⟨g,cap,cur,rfl,hb,hh,hnc,hcm,hcs,htake⟩
 ·exact .inl ⟨rfl,List.eq_nil_of_length_eq_zero (by simpa using hl)⟩
 ·obtain rfl:n=xs.length:=by omega
  refine .inr ⟨g,cap,rfl,hnc,fun j u hu=>?_⟩;have hj:j<xs.length:=(List.getElem?_eq_some_iff.1 hu).1;rw [h.cellAt j (by omega)];exact hu
def clip:Value->Value
 | .slice a n _=> .slice a n n
 |v=>v
theorem ReadsL.clip {xs:List Value} (h:ReadsL w v xs):ReadsL w (clip v) xs:=by
 rcases h with ⟨rfl,rfl⟩|⟨g,c,rfl,h1,h2⟩
 ·exact .inl ⟨rfl,rfl⟩
 ·exact .inr ⟨g,_,rfl,Nat.le_refl _,h2⟩
theorem OwnsLL.reads {L:List (List Value)} (h:OwnsLL w B eo ei v L):ReadsLL w (clip v) L:=by
 obtain ⟨vs,h1,h2,h3,_⟩:=h;exact ⟨vs,(ownsRow_reads h1).clip,h2,fun j u l hu hl=>ownsRow_reads (h3 j u l hu hl)⟩
theorem ReadsL.ext {xs:List Value} (h:ReadsL w v xs) (hb:Below w.heap.size w w'):ReadsL w' v xs:=by
 rcases h with h|⟨g,c,rfl,h1,h2⟩
 ·exact .inl h
 ·exact .inr ⟨g,c,rfl,h1,fun j u hu=>by
   have:=h2 j u hu;rw [hb.cell (World.block_lt_of_cell? w _ this)];exact this⟩
theorem ReadsLL.ext {L:List (List Value)} (h:ReadsLL w v L) (hb:Below w.heap.size w w'):ReadsLL w' v L:=by
 obtain ⟨vs,h1,h2,h3⟩:=h;exact ⟨vs,h1.ext hb,h2,fun j u l hu hl=>(h3 j u l hu hl).ext hb⟩
end
end Go.Proofs.YtimeipjcmffadaaGreatDoor
