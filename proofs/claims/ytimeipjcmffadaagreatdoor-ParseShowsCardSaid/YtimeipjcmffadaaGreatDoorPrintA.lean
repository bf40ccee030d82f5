import Derived.Test.YtimeipjcmffadaaGreatDoorProg
import Derived.Lib.Replace
import Derived.Lib.CountLaws
import Derived.Lib.ParseIntB
import Derived.Lib.ItoaNum
import Derived.Lib.ItoaMem
import Derived.Lib.ItoaLen
import Derived.Test.YtimeipjcmffadaaGreatDoorOwn
import Derived.Test.YtimeipjcmffadaaGreatDoorPar
import Derived.Test.YtimeipjcmffadaaGreatDoorShelf
set_option maxHeartbeats 16000000
namespace Go.Proofs.YtimeipjcmffadaaGreatDoor
open Go.RowKit
set_option maxRecDepth 100000
theorem ret_b {a b:Bool} (h:a=b):Ending.returned (.bool a)= .returned (.bool b):=by rw [h]
def vV (k n:Int) (s:ByteArray):Value:= .agg #[.int .i64 k,.int .i64 n,.string s]
def emp:ByteArray:=⟨#[]⟩
def vOk (k n:Int) (s:ByteArray):Bool :=
 if k=0 then n == 0 && s.toList == [] else if k=1 then (n == 0 ||n == 1) && s.toList == [] else if k=2 then s.toList == [] else k == 3 && n == 0
theorem vOk_eq (k n:Int) (s:ByteArray):vOk k n s=(decide (0<=k) && decide (k<=3) && (n == 0 ||k == 2 ||k == 1 && n == 1) && (s.toList == [] ||k == 3)):=by
 unfold vOk;generalize (s.toList == [])=e;rw [Bool.eq_iff_iff];by_cases h0:k=0
 ·subst h0;cases e<;>simp
 by_cases h1:k=1
 ·subst h1;cases e<;>simp
 by_cases h2:k=2
 ·subst h2;cases e<;>simp
 by_cases h3:k=3
 ·subst h3;cases e<;>simp
 rw [if_neg h0,if_neg h1,if_neg h2];simp;omega
theorem kinds (k:Int):k=0 ∨ k=1 ∨ k=2 ∨ k=3 ∨ ((k == 0)=false/\(k == 1)=false/\(k == 2)=false/\(k == 3)=false/\(k<0 ∨ 3<k)):=by
 simp only [beq_eq_false_iff_ne];omega
theorem nums (n:Int):n=0 ∨ n=1 ∨ ((n == 0)=false/\(n == 1)=false):=by
 simp only [beq_eq_false_iff_ne];omega
theorem valok_any (k n:Int) (s:ByteArray) (w:World) :
 Calls Tryz.prog 239 #[vV k n s] w fun e w'=>e= .returned (.bool (vOk k n s))/\Below w.heap.size w w':=by
 unfold vV;cases hs:s.toList.isEmpty
 all_goals
  rcases kinds k with rfl|rfl|rfl|rfl|⟨k0,k1,k2,k3,k4⟩
 all_goals
  rcases nums n with rfl|rfl|⟨n0,n1⟩
 all_goals
  go_enter Tryz.func239,Tryz.ntmps239;go_wp2_with fail;go_ret;refine ⟨ret_b ?_,by go_grown⟩
  first
  |(simp [vOk, *];done)
  |(simp only [beq_eq_false_iff_ne] at k0 k1 k2 k3;simp [vOk, *];done)
theorem refok_any (k n:Int) (s:ByteArray) (w:World) :
 Calls Tryz.prog 137 #[vV k n s] w fun e w'=>e= .returned (.bool (vOk k n s))/\Below w.heap.size w w':=by
 rw [vOk_eq];unfold vV;cases hs:s.toList.isEmpty
 all_goals
  rcases kinds k with rfl|rfl|rfl|rfl|⟨k0,k1,k2,k3,k4⟩
 all_goals
  rcases nums n with rfl|rfl|⟨n0,n1⟩
 all_goals
  try rcases k4 with k4|k4
 all_goals
  go_enter Tryz.func137,Tryz.ntmps137;go_wp2_with fail;go_ret;refine ⟨ret_b ?_,by go_grown⟩
  first
  |(simp [*];done)
  |(rw [show decide (0<=k)=false by simp;omega];simp;done)
  |(rw [show decide (k<=3)=false by simp;omega];simp;done)
theorem valtext_any (s:ByteArray) (w:World):Calls Tryz.prog 118 #[.string s] w fun e w'=>e= .returned (vV 3 0 s)/\Below w.heap.size w w':=by
 go_enter Tryz.func118,Tryz.ntmps118;go_wp2_with fail;exact bodyPost_ret (v:=vV 3 0 s) (by simp [results,Tryz.results118,go_sem,vV]) rfl ⟨rfl,by go_grown⟩
theorem reftextv_any (s:ByteArray) (w:World):Calls Tryz.prog 43 #[.string s] w fun e w'=>e= .returned (vV 3 0 s)/\Below w.heap.size w w':=by
 go_enter Tryz.func43,Tryz.ntmps43;go_wp2_with fail;exact bodyPost_ret (v:=vV 3 0 s) (by simp [results,Tryz.results43,go_sem,vV]) rfl ⟨rfl,by go_grown⟩
def bN (b:Bool):Int:=if b then 1 else 0
theorem valbool_any (b:Bool) (w:World):Calls Tryz.prog 116 #[.bool b] w fun e w'=>e= .returned (vV 1 (bN b) emp)/\Below w.heap.size w w':=by
 cases b
 all_goals
  go_enter Tryz.func116,Tryz.ntmps116;go_wp2_with fail
 ·exact bodyPost_ret (v:=vV 1 0 emp) (by simp [results,Tryz.results116,go_sem,vV,emp]) rfl ⟨rfl,by go_grown⟩
 ·exact bodyPost_ret (v:=vV 1 1 emp) (by simp [results,Tryz.results116,go_sem,vV,emp]) rfl ⟨rfl,by go_grown⟩
theorem valnull_any (w:World):Calls Tryz.prog 34 #[] w fun e w'=>e= .returned (vV 0 0 emp)/\Below w.heap.size w w':=by
 go_enter Tryz.func34,Tryz.ntmps34;go_wp2_with fail;exact bodyPost_ret (v:=vV 0 0 emp) (by simp [results,Tryz.results34,go_sem,vV,emp]) rfl ⟨rfl,by go_grown⟩
theorem blk3 {w:World} {g:Nat} {a b c:Value} {t:TypeId} (h:Blk w g #[a,b,c] t) (a' b' c':Value):Blk (((w.setCell ⟨g,0,none⟩ a').setCell ⟨g,1,none⟩ b').setCell ⟨g,2,none⟩ c') g #[a',b',c'] t :=
 ((h.set 0 a').set 1 b').set 2 c'
theorem below3 {w w0:World} {g B:Nat} (h:Below B w0 w) (hg:B<=g) (a' b' c':Value):Below B w0 (((w.setCell ⟨g,0,none⟩ a').setCell ⟨g,1,none⟩ b').setCell ⟨g,2,none⟩ c') :=
 ((h.setCell (p:=⟨g,0,none⟩) hg a').setCell (p:=⟨g,1,none⟩) hg b').setCell (p:=⟨g,2,none⟩) hg c'
def cK (k n:Int) (s:ByteArray):Int:=if vOk k n s then k else 0
def cN (k n:Int) (s:ByteArray):Int:=if vOk k n s then n else 0
def cS (k n:Int) (s:ByteArray):ByteArray:=if vOk k n s then s else emp
theorem valis_any (k n:Int) (s:ByteArray) (w:World):Calls Tryz.prog 199 #[vV k n s] w fun e w'=>e= .returned (vV (cK k n s) (cN k n s) (cS k n s))/\Below w.heap.size w w':=by
 unfold cK cN cS;cases hok:vOk k n s
 all_goals
  have HOK:=h_ hok;clear hok;rw [show vV k n s= .agg #[.int .i64 k,.int .i64 n,.string s] from rfl];go_enter Tryz.func199,Tryz.ntmps199;go_wp2_with fail;refine (valok_any k n s _).mono ?_;rintro e w1 ⟨rfl,hb⟩;rw [HOK.out];have hA:=((Blk.new w #[.int .i64 k,.int .i64 n,.string s] 41 rfl).alloc (.cells #[.int .i64 0,.int .i64 0,.string ⟨#[]⟩] 41)).keep hb;have hB:=(Blk.new (w.alloc (.cells #[.int .i64 k,.int .i64 n,.string s] 41)) #[.int .i64 0,.int .i64 0,.string ⟨#[]⟩] 41 (n:=w.heap.size+1) (by simp)).keep hb;have HB:=h_ (show Below w.heap.size w w1 from Below.trans (by go_grown) (hb.mono (by simp;omega)));have HA:=h_ hA;have HBB:=h_ hB;obtain ⟨ca,fa⟩:=hA.facts;obtain ⟨cb,fb⟩:=hB.facts;clear hb hA hB;go_wp2_with fail
 ·refine (valnull_any _).mono ?_;rintro e w2 ⟨rfl,hb2⟩;have hB:=HBB.out.keep hb2;have HB2:=h_ (HB.out.trans (hb2.mono HB.out.size));have HC:=h_ hB;clear hb2 ca fa cb fb;obtain ⟨cb,fb⟩:=hB.facts;clear hB;rw [show vV 0 0 emp= .agg #[.int .i64 0,.int .i64 0,.string emp] from rfl];go_wp2_with fail;exact bodyPost_ret (v:=vV 0 0 emp) (by simp [results,Tryz.results199,go_sem,(blk3 HC.out _ _ _).cell,vV]) rfl ⟨rfl,below3 HB2.out (Nat.le_succ _) _ _ _⟩
 ·exact bodyPost_ret (v:=vV k n s) (by simp [results,Tryz.results199,go_sem,(blk3 HBB.out _ _ _).cell,vV]) rfl ⟨rfl,below3 HB.out (Nat.le_succ _) _ _ _⟩
def cV (kind level:Int) (shift back:Bool) (p:Option Addr):Value:= .agg #[.int .i64 kind,.int .i64 level,.bool shift,.bool back,.pointer p]
def CmpAt (W:World) (kind level:Int) (shift back:Bool) (p:Option Addr) (a b:ByteArray) (r:Int):Prop :=
 ∀ W',Ext W W'->Calls Tryz.prog 242 #[cV kind level shift back p,.string a,.string b] W' fun e w'=>e= .returned (.int .i64 r)/\Below W'.heap.size W' w'
theorem CmpAt.ext {W W':World} {kind level:Int} {shift back:Bool} {p:Option Addr} {a b:ByteArray} {r:Int} (h:CmpAt W kind level shift back p a b r) (hx:Ext W W'):CmpAt W' kind level shift back p a b r :=
 fun W2 h2=>h W2 (hx.trans h2)
structure Glob (w:World):Prop where
 maxLen:∃ m,w.cell? ⟨0,0,none⟩=some (.int .i64 m)
 tabs:Lib.Utf8Tabs 1 2 w
 size:0<w.heap.size
theorem Glob.keep {w w':World} (h:Glob w) (hb:Below w.heap.size w w'):Glob w':=by
 obtain ⟨m,hm⟩:=h.maxLen;refine ⟨⟨m,by rw [hb.cell (p:=⟨0,0,none⟩) h.size];exact hm⟩,?_,Nat.lt_of_lt_of_le h.size hb.size⟩;exact ⟨fun c hc=>(hb.cell (World.block_lt_of_cell? w _ (h.tabs.1 c hc))).trans (h.tabs.1 c hc),
  fun i hi=>⟨(hb.cell (World.block_lt_of_cell? w _ (h.tabs.2 i hi).1)).trans (h.tabs.2 i hi).1,(hb.cell (World.block_lt_of_cell? w _ (h.tabs.2 i hi).2)).trans (h.tabs.2 i hi).2⟩⟩
theorem Glob.its {w:World} (h:Glob w):∃ m,w.cell? ⟨0,0,none⟩=some (.int .i64 m)/\0<w.heap.size:=by
 obtain ⟨m,hm⟩:=h.maxLen;exact ⟨m,hm,h.size⟩
theorem refadd_any (a b:Int) (w:World) (ha: -9223372036854775808<=a/\a<=9223372036854775807) (hb: -9223372036854775808<=b/\b<=9223372036854775807) :
 Calls Tryz.prog 218 #[.int .i64 a,.int .i64 b] w fun e w'=>e= .returned (if -9223372036854775808<=a+b/\a+b<=9223372036854775807 then .tuple #[.int .i64 (a+b),.int .i64 0] else .tuple #[.int .i64 0,.int .i64 17])/\w=w':=by
 obtain ⟨ha1,ha2⟩:=ha;obtain ⟨hb1,hb2⟩:=hb;go_enter Tryz.func218,Tryz.ntmps218;go_wp2_with fail
 all_goals first
  |(go_ret2;exact ⟨rfl,rfl⟩)
theorem wrap64_of {n:Int} (h0: -9223372036854775808<=n) (h1:n<=9223372036854775807):wrap64 n=n:=by unfold wrap64;omega
theorem wrap64_bounds (n:Int): -9223372036854775808<=wrap64 n/\wrap64 n<=9223372036854775807:=by unfold wrap64;omega
theorem mul_fits (a:Int) (h0:0<=a) (h:a * 10<=9223372036854775807):wrap64 (a * 10)=a * 10/\wrap64 ((a * 10).tdiv 10)=a:=by
 have e:(a * 10).tdiv 10=a:=Int.mul_tdiv_cancel a (by decide);rw [e];exact ⟨wrap64_of (by omega) (by omega),wrap64_of (by omega) (by omega)⟩
theorem mul_over (a:Int) (h:9223372036854775807<a * 10):(wrap64 ((wrap64 (a * 10)).tdiv 10) == a)=false:=by
 have hp:=wrap64_bounds (a * 10);generalize wrap64 (a * 10)=p at hp |-;have ht: -922337203685477580<=p.tdiv 10/\p.tdiv 10<=922337203685477580:=by
  rcases Int.le_total 0 p with h0|h0
  ·rw [Int.tdiv_eq_ediv_of_nonneg h0];omega
  ·have e:p.tdiv 10= -((-p).tdiv 10):=by rw [Int.neg_tdiv];omega
   rw [e,Int.tdiv_eq_ediv_of_nonneg (by omega)];omega
 rw [wrap64_of (by omega) (by omega),beq_eq_false_iff_ne];omega
theorem refmul_any (a:Int) (w:World) (ha:0<=a/\a<=9223372036854775807) :
 Calls Tryz.prog 217 #[.int .i64 a,.int .i64 10] w fun e w'=>e= .returned (if a * 10<=9223372036854775807 then .tuple #[.int .i64 (a * 10),.int .i64 0] else .tuple #[.int .i64 0,.int .i64 17])/\w=w':=by
 obtain ⟨ha1,ha2⟩:=ha;by_cases h:a * 10<=9223372036854775807
 ·obtain ⟨e1,e2⟩:=mul_fits a ha1 h;simp only [if_pos h];go_enter Tryz.func217,Tryz.ntmps217;go_wp2_with fail
  all_goals first
   |(go_ret2;exact ⟨rfl,rfl⟩)
   |(rename_i hz;subst hz;go_ret2;exact ⟨rfl,rfl⟩)
 ·have e:=mul_over a (by omega);simp only [if_neg h];go_enter Tryz.func217,Tryz.ntmps217;go_wp2_with fail
  all_goals first
   |(go_ret2;exact ⟨rfl,rfl⟩)
theorem num_from:∀ (l:List UInt8) (a:Nat),l.foldl (fun a c=>a * 10+(c.toNat - 48)) a=a * 10 ^ l.length+Lx.num l
 | [],a=>by simp [Lx.num]
 |c::l,a=>by
  have h1:=num_from l (a * 10+(c.toNat - 48));have h2:=num_from l (0 * 10+(c.toNat - 48));rw [Lx.num,List.foldl_cons,List.foldl_cons,h1,h2,List.length_cons,Nat.pow_succ];rw [Nat.add_mul,Nat.zero_mul,Nat.zero_add,Nat.mul_assoc,Nat.mul_comm 10];omega
theorem num_cons (c:UInt8) (l:List UInt8):Lx.num (c::l)=(c.toNat - 48) * 10 ^ l.length+Lx.num l:=by
 have:=num_from l (c.toNat - 48);rw [<- this,Lx.num,List.foldl_cons];simp
theorem num_append (l r:List UInt8):Lx.num (l++r)=Lx.num l * 10 ^ r.length+Lx.num r:=by
 rw [Lx.num,List.foldl_append];exact num_from r _
theorem digit_at (k:Nat) (h:k<10):(ByteArray.mk #[48,49,50,51,52,53,54,55,56,57]).extract k (k+1)=⟨#[48+UInt8.ofNat k]⟩:=by
 have:∀ k:Fin 10,(ByteArray.mk #[48,49,50,51,52,53,54,55,56,57]).extract k.val (k.val+1)=⟨#[48+UInt8.ofNat k.val]⟩:=by decide +kernel
 exact this ⟨k,h⟩
theorem digit_val (k:Nat) (h:k<10):(48+UInt8.ofNat k).toNat=48+k:=by
 have:∀ k:Fin 10,(48+UInt8.ofNat k.val).toNat=48+k.val:=by decide +kernel
 exact this ⟨k,h⟩
theorem digit_is (k:Nat) (h:k<10):Lx.isDigit (48+UInt8.ofNat k)=true:=by
 have:∀ k:Fin 10,Lx.isDigit (48+UInt8.ofNat k.val)=true:=by decide +kernel
 exact this ⟨k,h⟩
structure Told (n X:Nat) (t:ByteArray):Prop where
 dig:∀ c∈bsl t,Lx.isDigit c=true
 is:n=X * 10 ^ t.size+Lx.num (bsl t)
 some:0<t.size->0<X
theorem Told.size {n X:Nat} {t:ByteArray} (h:Told n X t) (hn:n<=9223372036854775807):t.size<=18:=by
 rcases Nat.eq_zero_or_pos t.size with h0|h0
 ·omega
 ·have hX:=h.some h0;have hi:=h.is;rcases Nat.lt_or_ge 18 t.size with h1|h1
  ·have hp:10 ^ 19<=10 ^ t.size:=Nat.pow_le_pow_right (by decide) (by omega);have:1 * 10 ^ t.size<=X * 10 ^ t.size:=Nat.mul_le_mul_right _ hX;omega
  ·exact h1
theorem Told.next {n X:Nat} {t:ByteArray} (h:Told n X t) (hX:9<X):Told n (X / 10) (⟨#[48+UInt8.ofNat (X % 10)]⟩++t):=by
 have e:bsl (⟨#[48+UInt8.ofNat (X % 10)]⟩++t)=(48+UInt8.ofNat (X % 10))::bsl t:=by simp [bsl]
 have hv:=digit_val (X % 10) (by omega);have hs:(ByteArray.mk #[48+UInt8.ofNat (X % 10)]++t).size=t.size+1:=by rw [<- bsl_length,e,List.length_cons,bsl_length]
 refine ⟨?_,?_,fun _=>by omega⟩
 ·intro c hc;rw [e] at hc;rcases List.mem_cons.1 hc with rfl|hc
  ·exact digit_is (X % 10) (by omega)
  ·exact h.dig c hc
 ·rw [hs,e,num_cons,hv,bsl_length,h.is,Nat.pow_succ];have:X=X / 10 * 10+X % 10:=by omega
  have h2:X * 10 ^ t.size=(X / 10 * 10+X % 10) * 10 ^ t.size:=by rw [<- this]
  rw [h2,Nat.add_mul,Nat.mul_assoc,Nat.mul_comm 10];have:48+X % 10 - 48=X % 10:=by omega
  rw [this];omega
end Go.Proofs.YtimeipjcmffadaaGreatDoor
namespace Go.Proofs.YtimeipjcmffadaaGreatDoor
set_option maxRecDepth 100000
def escQ (l:List UInt8):List UInt8:=l.flatMap fun b=>if b=39 then [39,39] else [b]
theorem escQ_q (l:List UInt8):escQ (39::l)=39::39::escQ l:=by simp [escQ]
theorem escQ_c (b:UInt8) (l:List UInt8) (h:b≠39):escQ (b::l)=b::escQ l:=by simp [escQ,h]
theorem escQ_append (a b:List UInt8):escQ (a++b)=escQ a++escQ b:=by simp [escQ]
theorem escQ_len (l:List UInt8):(escQ l).length<=2 * l.length:=by
 induction l with
 |nil=>simp [escQ]
 |cons x l ih =>
  by_cases h:x=39
  ·subst h;rw [escQ_q];simp;omega
  ·rw [escQ_c x l h];simp;omega
theorem replaceK_q:∀ l:List UInt8,Lib.replaceK [39] [39,39] (Lib.count l [39]) l=escQ l
 | []=>by
  rw [Lib.count_one];rfl
 |b::l=>by
  have ih:=replaceK_q l;by_cases hb:b=39
  ·subst hb;have hix:Lib.index (39::l) [39]=((0:Nat):Int):=by rw [Lib.index];simp [List.isPrefixOf]
   rw [Lib.count_cons_eq,Nat.add_comm,Lib.replaceK_hit _ _ _ _ 0 hix];simp only [List.take_zero,List.nil_append,List.length_singleton,Nat.zero_add,List.drop_succ_cons,List.drop_zero];rw [ih,escQ_q];rfl
  ·rw [Lib.count_cons_ne b 39 l hb,escQ_c b l hb,<- ih];cases hk:Lib.count l [39] with
   |zero=>rfl
   |succ k =>
    obtain ⟨i,hi⟩:=Lib.index_of_count (s:=l) (old:=[39]) (by omega);have hp:([39]:List UInt8).isPrefixOf (b::l)=false:=by simp [List.isPrefixOf,Ne.symm hb]
    have hix:Lib.index (b::l) [39]=((i+1:Nat):Int):=by
     rw [Lib.index,hp]
     first|(simp [hi];done)|(simp [hi];omega)
    rw [Lib.replaceK_hit _ _ _ _ _ hix,Lib.replaceK_hit _ _ _ _ _ hi];simp
theorem replaceAll_q (l:List UInt8):Lib.replaceAll l [39] [39,39]=escQ l:=by
 rw [<- replaceK_q l];unfold Lib.replaceAll Lib.replace Lib.replaceNum;rw [if_neg (by decide),if_pos (by simp)]
def InR (n:Int):Prop:= -9223372036854775808<=n/\n<=9223372036854775807
instance (n:Int):Decidable (InR n):=inferInstanceAs (Decidable (_/\_))
def body (l:List UInt8):List UInt8:=if l.head?=some 45 then l.tail else l
def Cl (v:Int × Int × List UInt8):Prop:=(v.1=0/\v.2.1=0/\v.2.2=[]) ∨ (v.1=1/\(v.2.1=0 ∨ v.2.1=1)/\v.2.2=[]) ∨ (v.1=2/\InR v.2.1/\v.2.2=[]) ∨ (v.1=3/\v.2.1=0)
def nullL:List UInt8:=[78,85,76,76]
def trueL:List UInt8:=[84,82,85,69]
def falseL:List UInt8:=[70,65,76,83,69]
def prB (v:Int × Int × List UInt8):List UInt8:=if v.1=0 then nullL else if v.1=1 then (if v.2.1=1 then trueL else falseL) else if v.1=2 then Lib.itoa v.2.1 else 39::(escQ v.2.2++[39])
end Go.Proofs.YtimeipjcmffadaaGreatDoor
namespace Go.Proofs.YtimeipjcmffadaaGreatDoor
open Go.RowKit
set_option maxRecDepth 100000
theorem dec_step (X:Nat) (h:9<X):Lib.decDigits X=Lib.decDigits (X / 10)++[UInt8.ofNat (48+X % 10)]:=by
 rw [Lib.decDigits,dif_neg (by omega)]
theorem dig_add (k:Nat) (h:k<10):UInt8.ofNat (48+k)=48+UInt8.ofNat k:=by
 have:∀ k:Fin 10,UInt8.ofNat (48+k.val)=48+UInt8.ofNat k.val:=by decide +kernel
 exact this ⟨k,h⟩
theorem bsl_dropZ (s:ByteArray) (k:Nat) (h:k<s.size):(bsl s).drop k=s[k]'h::(bsl s).drop (k+1):=by
 have h1:=bsl_get s k h;have h2:k<(bsl s).length:=by rw [bsl_length];exact h
 rw [List.getElem?_eq_getElem h2] at h1;rw [List.drop_eq_getElem_cons h2,Option.some.inj h1]
theorem dec_len (n:Nat) (h:n<=9223372036854775808):(Lib.decDigits n).length<=22:=by
 have h1:=Lib.itoa_length_le (-(n:Int)) (by omega) (by omega);rcases Nat.eq_zero_or_pos n with h0|h0
 ·subst h0;rw [Lib.decDigits];decide
 ·rw [Lib.itoa_neg n h0] at h1;simp at h1;omega
theorem bs_cons (x:UInt8) (t:ByteArray):(ByteArray.mk #[x]++t).data.toList=x::t.data.toList:=by simp
theorem ba_ext {a b:ByteArray} (h:a.data.toList=b.data.toList):a=b:=by
 cases a;cases b;simp only [ByteArray.mk.injEq];exact Array.toList_inj.1 h
theorem reftextN_any (n:Nat) (w:World) (hn:n<=9223372036854775807) :
 Calls Tryz.prog 41 #[.int .i64 n] w fun e w'=>e= .returned (.string ⟨(Lib.decDigits n).toArray⟩)/\w=w':=by
 have hlen:=dec_len n (by omega);have hl:((n:Int) == -9223372036854775808)=false:=by rw [beq_eq_false_iff_ne];omega
 go_enter Tryz.func41,Tryz.ntmps41;go_wp2_with fail;go_loop [0,3] (fun x s=>∃ (X:Nat) (t:ByteArray),x= .int .i64 X/\s= .string t/\Lib.decDigits n=Lib.decDigits X++t.data.toList/\X<=n) (fun x _=>(intOf x).toNat)
 case atStart=>exact ⟨n,⟨#[]⟩,rfl,rfl,by simp,Nat.le_refl _⟩
 case round =>
  obtain ⟨X,t,rfl,rfl,hT,hXn⟩:=hrel;have hsz:t.size<=22:=by
   have q1:=congrArg List.length hT;rw [List.length_append] at q1;have q2:t.data.toList.length=t.size:=Array.length_toList;omega
  have HT:=h_ hT;have HL:=h_ hlen;clear hT hlen;have e1:((X:Int).tmod 10)=((X % 10:Nat):Int):=by rw [Int.tmod_eq_emod_of_nonneg (by omega)];omega
  have e2:((X:Int).tdiv 10)=((X / 10:Nat):Int):=by rw [Int.tdiv_eq_ediv_of_nonneg (by omega)];omega
  by_cases h9:9<X
  ·have hd:=digit_at (X % 10) (by omega);go_wp2_with fail
   case roundEnd =>
    refine ⟨⟨X / 10,_,by go_num,rfl,?_,by omega⟩,?_⟩
    ·rw [bs_cons,HT.out,dec_step X h9,List.append_assoc,dig_add _ (by omega)];rfl
    ·simp [intOf];omega
  ·have hd:=digit_at X (by omega);go_wp2_with fail;go_ret;refine ⟨?_,rfl⟩;refine congrArg (fun x=>Ending.returned (.string x)) (ba_ext ?_);rw [bs_cons];have h:=HT.out;rw [Lib.decDigits.eq_def X,dif_pos (by omega)] at h;rw [dig_add _ (by omega)] at h;simp only [List.cons_append,List.nil_append] at h;exact h.symm
theorem itoa_least:Lib.itoa (-9223372036854775808)=[45,57,50,50,51,51,55,50,48,51,54,56,53,52,55,55,53,56,48,56]:=by
 have h:=Lib.itoa_neg 9223372036854775808 (by decide);rw [show (-((9223372036854775808:Nat):Int))= -9223372036854775808 from rfl] at h;rw [h];simp [Lib.decDigits]
theorem reftextZ_any (n:Int) (w:World) (hn:InR n) :
 Calls Tryz.prog 41 #[.int .i64 n] w fun e w'=>e= .returned (.string ⟨(Lib.itoa n).toArray⟩)/\w=w':=by
 obtain ⟨h1,h2⟩:=hn;by_cases hn0:n<0
 ·by_cases hl:n= -9223372036854775808
  ·subst hl;rw [itoa_least];go_enter Tryz.func41,Tryz.ntmps41;go_wp2_with fail;go_ret;exact ⟨rfl,rfl⟩
  ·obtain ⟨m,rfl⟩:∃ m:Nat,n= -(m:Int):=⟨n.natAbs,by omega⟩
   have hlb:(-(m:Int) == -9223372036854775808)=false:=by rw [beq_eq_false_iff_ne];exact hl
   have hw:wrap64 (- -(m:Int))=(m:Int):=by rw [Int.neg_neg];exact wrap64_of (by omega) (by omega)
   have hw2:wrap64 (m:Int)=(m:Int):=wrap64_of (by omega) (by omega);have hlen:=dec_len m (by omega);rw [Lib.itoa_neg m (by omega)];obtain ⟨z,hz⟩:∃ z,z= -(m:Int):=⟨_,rfl⟩
   have hzw:wrap64 (-z)=(m:Int):=by rw [hz];exact hw
   have hzb:(z == -9223372036854775808)=false:=by rw [hz];exact hlb
   have hzn:z<0:=by omega
   have HK:=h_ (reftextN_any m w (by omega));rw [<- hz];clear hz hw hlb hl hn0;go_enter Tryz.func41,Tryz.ntmps41;go_wp2_with fail;refine HK.out.mono ?_;rintro e w' ⟨rfl,rfl⟩;go_wp2_with fail;go_ret;exact ⟨congrArg (fun x=>Ending.returned (.string x)) (ba_ext (by simp)),rfl⟩
 ·obtain ⟨m,rfl⟩:∃ m:Nat,n=(m:Int):=⟨n.toNat,by omega⟩
  rw [Lib.itoa_nonneg];exact reftextN_any m w (by omega)
end Go.Proofs.YtimeipjcmffadaaGreatDoor
