import Derived.WideShapes
import Derived.Lib.SmallJoins
import Derived.Test.YtimeipjcmffadaaGreatDoorPrintA
import Derived.Test.YtimeipjcmffadaaGreatDoorRpW
namespace Go.Proofs.YtimeipjcmffadaaGreatDoor
open Go.RowKit Go.Lib
set_option maxRecDepth 100000
def lvR (k o:Int):Int :=
 if k=6 then (if o=19 ∨ o=22 then 1 else if o=18 then 2 else if o=15 ∨ o=16 then 5 else if o=14 then 6 else if o=12 ∨ o=13 then 7 else if o=7 ∨ o=8 ∨ o=17 then 8 else if o=9 ∨ o=10 ∨ o=11 then 9 else 4)
 else if k=5 then (if o=21 then 3 else 10)
 else if k=7 ∨ k=8 ∨ k=9 ∨ k=10 then 4 else if k=11 then 11 else 12
def opNR:List (List UInt8):=[[],[61],[60,62],[60],[60,61],[62],[62,61],[43],[45],[42],[47],[37],[60,60],[62,62],[38],[124],[94],[124,124],[65,78,68],[79,82],[],[],[88,79,82]]
def opN (o:Int):List UInt8:=if o<0 then [] else (opNR[o.toNat]?).getD []
def atB (c:Int × List UInt8) (lv:Int):List UInt8:=if c.1<lv then [40,32]++c.2++[32,41] else c.2
def atI (L:List (Int × List UInt8)) (i:Nat) (lv:Int):List UInt8:=match L[i]? with|some c=>atB c lv|none=>[]
def notB (n:Int):List UInt8:=if n=1 then [78,79,84,32] else []
def commaB:List (Int × List UInt8)->List UInt8
 | []=>[]
 |c::L=>[32,44,32]++atB c 1++commaB L
def commasB:List (Int × List UInt8)->List UInt8
 | []=>[]
 |c::L=>atB c 1++commaB L
def kwB (n:Int):List UInt8:=if n=1 then [66,79,79,76] else if n=2 then [73,78,84] else [84,69,88,84]
def leafB (k:Int) (s t:List UInt8) (n:Int):List UInt8 :=
 if k=4/\t≠[] then t++[32,46,32]++s
 else if k=4 then s
 else if k=2 then Lib.itoa n
 else if k=3 then 39::(escQ s++[39])
 else if k=1/\n=1 then trueL
 else if k=1 then falseL
 else if k=0 then nullL
 else [63]
def callB (k:Int) (s t:List UInt8) (n:Int) (L:List (Int × List UInt8)):List UInt8 :=
 if k=11/\L.length=1 then atI L 0 11++[32,67,79,76,76,65,84,69,32]++s
 else if k=12/\L.length=1/\1<=n/\n<=3 then [67,65,83,84,32,40,32]++atI L 0 1++[32,65,83,32]++kwB n++[32,41]
 else if k=14/\L.length=0 then s++[32,40,32,42,32,41]
 else if (k=13 ∨ k=14)/\L.length=1 then s++[32,40,32]++atI L 0 1++[32,41]
 else leafB k s t n
def testB (k:Int) (s t:List UInt8) (n:Int) (L:List (Int × List UInt8)):List UInt8 :=
 if k=7/\L.length=1 then atI L 0 5++[32,73,83,32]++notB n++[78,85,76,76]
 else if k=8/\L.length=2 then atI L 0 5++[32]++notB n++[76,73,75,69,32]++atI L 1 5
 else if k=8/\L.length=3 then atI L 0 5++[32]++notB n++[76,73,75,69,32]++atI L 1 5++[32,69,83,67,65,80,69,32]++atI L 2 5
 else if k=9/\1<L.length then atI L 0 5++[32]++notB n++[73,78,32,40,32]++commasB (L.drop 1)++[32,41]
 else if k=10/\L.length=3 then atI L 0 5++[32]++notB n++[66,69,84,87,69,69,78,32]++atI L 1 5++[32,65,78,68,32]++atI L 2 5
 else callB k s t n L
def wordsB (k o:Int) (s t:List UInt8) (n:Int) (L:List (Int × List UInt8)):List UInt8 :=
 if k=6/\L.length=2 then (if lvR k o=4 then atI L 0 5++[32]++opN o++[32]++atI L 1 5 else atI L 0 (lvR k o)++[32]++opN o++[32]++atI L 1 (lvR k o+1))
 else if k=5/\L.length=1 then (if o=21 then [78,79,84,32]++atI L 0 3 else [45,32]++atI L 0 10)
 else testB k s t n L
mutual
def wordsT:Tr->List UInt8
 | .mk k o s t n l=>wordsB k o s t n (wordsTs l)
def wordsTs:List Tr->List (Int × List UInt8)
 | []=>[]
 | .mk k o s t n l::r=>(lvR k o,wordsT (.mk k o s t n l))::wordsTs r
end
mutual
def cntT:Tr->Nat
 | .mk _ _ _ _ _ l=>1+cntTs l
def cntTs:List Tr->Nat
 | []=>0
 |x::r=>cntT x+cntTs r
end
def lvT:Tr->Int
 | .mk k o _ _ _ _=>lvR k o
theorem wordsT_mk (k o:Int) (s t:List UInt8) (n:Int) (l:List Tr):wordsT (.mk k o s t n l)=wordsB k o s t n (wordsTs l):=by rw [wordsT]
theorem wordsTs_cons (x:Tr) (r:List Tr):wordsTs (x::r)=(lvT x,wordsT x)::wordsTs r:=by cases x;rw [wordsTs];rfl
theorem wordsTs_map:∀ l:List Tr,wordsTs l=l.map fun x=>(lvT x,wordsT x)
 | []=>by rw [wordsTs];rfl
 |x::r=>by rw [wordsTs_cons,List.map_cons,wordsTs_map r]
theorem wordsTs_len (l:List Tr):(wordsTs l).length=l.length:=by rw [wordsTs_map,List.length_map]
theorem cntT_mk (k o:Int) (s t:List UInt8) (n:Int) (l:List Tr):cntT (.mk k o s t n l)=1+cntTs l:=by rw [cntT]
theorem cntTs_cons (x:Tr) (r:List Tr):cntTs (x::r)=cntT x+cntTs r:=by rw [cntTs]
inductive SmT:Nat->Tr->Prop
 |mk (d:Nat) (k o:Int) (s t:List UInt8) (n:Int) (l:List Tr) (hd:d<=40) (hn:InR n) (hl:l.length<=20) (hs:s.length<=500) (ht:t.length<=50) (h:∀ y,y∈l->SmT (d+1) y):SmT d (.mk k o s t n l)
def totB (L:List (Int × List UInt8)):Nat:=(L.map fun c=>c.2.length+7).sum
theorem totB_cons (c:Int × List UInt8) (L:List (Int × List UInt8)):totB (c::L)=c.2.length+7+totB L:=by simp [totB]
theorem atB_len (c:Int × List UInt8) (lv:Int):(atB c lv).length<=c.2.length+4:=by
 unfold atB;split<;>simp
theorem commaB_len:∀ L:List (Int × List UInt8),(commaB L).length<=totB L
 | []=>by simp [commaB]
 |c::L=>by
  have ih:=commaB_len L;have h:=atB_len c 1;rw [totB_cons];simp only [commaB,List.length_append,List.length_cons,List.length_nil];omega
theorem commasB_len:∀ L:List (Int × List UInt8),(commasB L).length<=totB L
 | []=>by simp [commasB]
 |c::L=>by
  have ih:=commaB_len L;have h:=atB_len c 1;rw [totB_cons];simp only [commasB,List.length_append];omega
theorem notB_len (n:Int):(notB n).length<=4:=by unfold notB;split<;>simp
theorem kwB_len (n:Int):(kwB n).length<=4:=by
 unfold kwB;split
 ·simp
 ·split<;>simp
theorem opN_len (o:Int):(opN o).length<=3:=by
 unfold opN;split
 ·simp
 ·by_cases h:o.toNat<23
  ·generalize o.toNat=m at h;have:∀ m:Fin 23,((opNR[m.val]?).getD []).length<=3:=by decide
   exact this ⟨m,h⟩
  ·rw [List.getElem?_eq_none (by simp [opNR];omega)];simp
theorem itoa_len (n:Int) (h:InR n):(Lib.itoa n).length<=22:=Nat.le_trans (Lib.itoa_length_le n h.1 h.2) (by decide)
theorem leafB_len (k:Int) (s t:List UInt8) (n:Int) (hn:InR n) (hs:s.length<=500) (ht:t.length<=50):(leafB k s t n).length<=1100:=by
 unfold leafB;have h1:=itoa_len n hn;have h2:=escQ_len s;split
 ·simp;omega
 split
 ·omega
 split
 ·omega
 split
 ·simp;omega
 split
 ·simp [trueL]
 split
 ·simp [falseL]
 split
 ·simp [nullL]
 ·simp
theorem len_one {α:Type} {L:List α} (h:L.length=1):∃ a,L=[a]:=by
 match L,h with
 | [a],_=>exact ⟨a,rfl⟩
theorem len_two {α:Type} {L:List α} (h:L.length=2):∃ a b,L=[a,b]:=by
 match L,h with
 | [a,b],_=>exact ⟨a,b,rfl⟩
theorem len_three {α:Type} {L:List α} (h:L.length=3):∃ a b c,L=[a,b,c]:=by
 match L,h with
 | [a,b,c],_=>exact ⟨a,b,c,rfl⟩
theorem callB_len (k:Int) (s t:List UInt8) (n:Int) (L:List (Int × List UInt8)) (hn:InR n) (hs:s.length<=500) (ht:t.length<=50):(callB k s t n L).length<=totB L+1100:=by
 unfold callB;have h1:=leafB_len k s t n hn hs ht;have h2:=kwB_len n;split
 ·rename_i h;obtain ⟨a,rfl⟩:=len_one h.2;have:=atB_len a 11;simp [atI,totB];omega
 split
 ·rename_i h;obtain ⟨a,rfl⟩:=len_one h.2.1;have:=atB_len a 1;simp [atI,totB];omega
 split
 ·simp;omega
 split
 ·rename_i h;obtain ⟨a,rfl⟩:=len_one h.2;have:=atB_len a 1;simp [atI,totB];omega
 ·omega
theorem testB_len (k:Int) (s t:List UInt8) (n:Int) (L:List (Int × List UInt8)) (hn:InR n) (hs:s.length<=500) (ht:t.length<=50):(testB k s t n L).length<=totB L+1100:=by
 unfold testB;have h1:=callB_len k s t n L hn hs ht;have h2:=notB_len n;split
 ·rename_i h;obtain ⟨a,rfl⟩:=len_one h.2;have:=atB_len a 5;simp [atI,totB];omega
 split
 ·rename_i h;obtain ⟨a,b,rfl⟩:=len_two h.2;have:=atB_len a 5;have:=atB_len b 5;simp [atI,totB];omega
 split
 ·rename_i h;obtain ⟨a,b,c,rfl⟩:=len_three h.2;have:=atB_len a 5;have:=atB_len b 5;have:=atB_len c 5;simp [atI,totB];omega
 split
 ·rename_i h
  match L,h with
  |a::L,h =>
   have:=atB_len a 5;have:=commasB_len L;rw [totB_cons];simp [atI];omega
 split
 ·rename_i h;obtain ⟨a,b,c,rfl⟩:=len_three h.2;have:=atB_len a 5;have:=atB_len b 5;have:=atB_len c 5;simp [atI,totB];omega
 ·exact h1
theorem wordsB_len (k o:Int) (s t:List UInt8) (n:Int) (L:List (Int × List UInt8)) (hn:InR n) (hs:s.length<=500) (ht:t.length<=50):(wordsB k o s t n L).length<=totB L+1100:=by
 unfold wordsB;have h1:=testB_len k s t n L hn hs ht;have h2:=opN_len o;split
 ·rename_i h;obtain ⟨a,b,rfl⟩:=len_two h.2;generalize lvR k o=z;have:=atB_len a 5;have:=atB_len b 5;have:=atB_len a z;have:=atB_len b (z+1);split<;>simp [atI,totB]<;>omega
 split
 ·rename_i h;obtain ⟨a,rfl⟩:=len_one h.2;have:=atB_len a 3;have:=atB_len a 10;split<;>simp [atI,totB]<;>omega
 ·exact h1
theorem totB_le:∀ l:List Tr,(∀ y,y∈l->(wordsT y).length<=2000 * cntT y)->totB (wordsTs l)<=2000 * cntTs l+7 * l.length
 | [],_=>by simp [wordsTs,totB]
 |x::r,h=>by
  have ih:=totB_le r fun y hy=>h y (by simp [hy]);have h1:=h x (by simp);rw [wordsTs_cons,totB_cons,cntTs_cons,List.length_cons];simp only;omega
theorem wordsT_len {d:Nat} {t:Tr} (h:SmT d t):(wordsT t).length<=2000 * cntT t:=by
 induction h with
 |mk d k o s t n l hd hn hl hs ht _ ih =>
  rw [wordsT_mk,cntT_mk];have h1:=wordsB_len k o s t n (wordsTs l) hn hs ht;have h2:=totB_le l ih;omega
theorem cntTs_mem:∀ (l:List Tr) (z:Tr),z∈l->cntT z<=cntTs l
 |x::r,z,h=>by
  rw [cntTs_cons];rcases List.mem_cons.1 h with rfl|h
  ·omega
  ·have:=cntTs_mem r z h;omega
end Go.Proofs.YtimeipjcmffadaaGreatDoor
namespace Go.Proofs.YtimeipjcmffadaaGreatDoor
open Go.RowKit Go.Lib Go.ChangeAt Go.ChangeShapes
set_option maxRecDepth 100000
def PnIn (w:World) (g o:Nat) (L:List PN):Prop:=g<w.heap.size/\∀ (i:Nat) (x:PN),L[i]?=some x->∀ j,j<6->w.cell? ⟨g,o+i * 6+j,none⟩=x.cells[j]?
inductive TrIn (A:Nat->Prop) (w:World):PN->Tr->Prop
 |leaf (k o:Int) (s t:List UInt8) (n:Int) (la:Option Addr) (lc:Nat):TrIn A w ⟨k,o,⟨s.toArray⟩,⟨t.toArray⟩,n,la,0,lc⟩ (.mk k o s t n [])
 |node (k o:Int) (s t:List UInt8) (n:Int) (g off lc:Nat) (L:List PN) (l:List Tr) (hl:L.length=l.length) (h0:0<l.length) (hc:l.length<=lc) (hg:A g) (hN:PnIn w g off L) (h:∀ (i:Nat) (x:PN) (y:Tr),L[i]?=some x->l[i]?=some y->TrIn A w x y) :
  TrIn A w ⟨k,o,⟨s.toArray⟩,⟨t.toArray⟩,n,some ⟨g,off,none⟩,l.length,lc⟩ (.mk k o s t n l)
theorem PnIn.same {w w':World} {g o:Nat} {L:List PN} (h:PnIn w g o L) (hx:w'.heap[g]?=w.heap[g]?) (hs:w.heap.size<=w'.heap.size):PnIn w' g o L :=
 ⟨Nat.lt_of_lt_of_le h.1 hs,fun i x hi j hj=>by
  rw [show w'.cell? ⟨g,o+i * 6+j,none⟩=w.cell? ⟨g,o+i * 6+j,none⟩ by simp [World.cell?,hx]];exact h.2 i x hi j hj⟩
theorem PnIn.ofAt {w:World} {g:Nat} {L:List PN} (h:PnAt w g L):PnIn w g 0 L:=⟨h.1,fun i x hi j hj=>by rw [Nat.zero_add];exact h.2 i x hi j hj⟩
theorem TrIn.ofAt {A:Nat->Prop} {w:World} {x:PN} {t:Tr} (h:TrAt A w x t):TrIn A w x t:=by
 induction h with
 |leaf k o s t n=>exact .leaf k o s t n none 0
 |node k o s t n g lc L l hl h0 hc hg hN _ ih=>exact .node k o s t n g 0 lc L l hl h0 hc hg (.ofAt hN) ih
theorem TrIn.same {A:Nat->Prop} {w w':World} {x:PN} {t:Tr} (h:TrIn A w x t) (hx:∀ g,A g->g<w.heap.size->w'.heap[g]?=w.heap[g]?) (hs:w.heap.size<=w'.heap.size):TrIn A w' x t:=by
 induction h with
 |leaf k o s t n la lc=>exact .leaf k o s t n la lc
 |node k o s t n g off lc L l hl h0 hc hg hN _ ih=>exact .node k o s t n g off lc L l hl h0 hc hg (hN.same (hx g hg hN.1) hs) ih
theorem TrIn.later {A:Nat->Prop} {p:Nat} {w w':World} {x:PN} {t:Tr} (h:TrIn A w x t) (hA:∀ g,A g->g≠p) (hx:LeP p w w'):TrIn A w' x t:=h.same (fun g hg hl=>hx.old g hl (hA g hg)) hx.size
theorem TrIn.ext {A:Nat->Prop} {w w':World} {x:PN} {t:Tr} (h:TrIn A w x t) (hx:Ext w w'):TrIn A w' x t:=h.same (fun g _ hl=>hx.block g hl) hx.size
theorem TrIn.mono {A B:Nat->Prop} {w:World} {x:PN} {t:Tr} (h:TrIn A w x t) (hA:∀ g,A g->g<w.heap.size->B g):TrIn B w x t:=by
 induction h with
 |leaf k o s t n la lc=>exact .leaf k o s t n la lc
 |node k o s t n g off lc L l hl h0 hc hg hN _ ih=>exact .node k o s t n g off lc L l hl h0 hc (hA g hg hN.1) hN ih
def KidsA (A:Nat->Prop) (w:World) (la:Option Addr) (ln lc:Nat) (l:List Tr):Prop :=
 (ln=0/\l=[]) ∨ ∃ (g off:Nat) (L:List PN),la=some ⟨g,off,none⟩/\ln=l.length/\l.length<=lc/\L.length=l.length/\A g/\PnIn w g off L/\(∀ (i:Nat) (x:PN) (y:Tr),L[i]?=some x->l[i]?=some y->TrIn A w x y)/\0<l.length
theorem TrIn.parts {A:Nat->Prop} {w:World} {x:PN} {k o n:Int} {s t:List UInt8} {l:List Tr} (h:TrIn A w x (.mk k o s t n l)):x.k=k/\x.o=o/\x.s=⟨s.toArray⟩/\x.t=⟨t.toArray⟩/\x.n=n/\KidsA A w x.la x.ln x.lc l:=by
 cases h with
 |leaf=>exact ⟨rfl,rfl,rfl,rfl,rfl,.inl ⟨rfl,rfl⟩⟩
 |node _ _ _ _ _ g off lc L _ hl h0 hc hg hN h=>exact ⟨rfl,rfl,rfl,rfl,rfl,.inr ⟨g,off,L,rfl,rfl,hc,hl,hg,hN,h,h0⟩⟩
theorem KidsA.len {A:Nat->Prop} {w:World} {la:Option Addr} {ln lc:Nat} {l:List Tr} (h:KidsA A w la ln lc l):ln=l.length:=by
 rcases h with ⟨h1,h2⟩|⟨_,_,_,_,h2,_⟩
 ·rw [h1,h2];rfl
 ·exact h2
theorem KidsA.ext {A:Nat->Prop} {w w':World} {la:Option Addr} {ln lc:Nat} {l:List Tr} (h:KidsA A w la ln lc l) (hx:Ext w w'):KidsA A w' la ln lc l:=by
 rcases h with h|⟨g,off,L,h1,h2,h3,h4,h5,h6,h7,h8⟩
 ·exact .inl h
 ·exact .inr ⟨g,off,L,h1,h2,h3,h4,h5,h6.same (hx.block g h6.1) hx.size,fun i x y hx1 hy=>(h7 i x y hx1 hy).ext hx,h8⟩
theorem KidsA.later {A:Nat->Prop} {p:Nat} {w w':World} {la:Option Addr} {ln lc:Nat} {l:List Tr} (h:KidsA A w la ln lc l) (hA:∀ g,A g->g≠p) (hx:LeP p w w'):KidsA A w' la ln lc l:=by
 rcases h with h|⟨g,off,L,h1,h2,h3,h4,h5,h6,h7,h8⟩
 ·exact .inl h
 ·exact .inr ⟨g,off,L,h1,h2,h3,h4,h5,h6.same (hx.old g h6.1 (hA g h5)) hx.size,fun i x y hx1 hy=>(h7 i x y hx1 hy).later hA hx,h8⟩
theorem KidsA.get {A:Nat->Prop} {w:World} {la:Option Addr} {ln lc:Nat} {l:List Tr} (h:KidsA A w la ln lc l) (i:Nat) (hi:i<l.length) :
 ∃ (g off:Nat) (y:PN) (z:Tr),la=some ⟨g,off,none⟩/\l[i]?=some z/\TrIn A w y z/\g<w.heap.size/\A g/\l.length<=lc /\
  (w.cell? ⟨g,off+i * 6,none⟩=some (.int .i64 y.k)/\w.cell? ⟨g,off+i * 6+1,none⟩=some (.int .i64 y.o)/\w.cell? ⟨g,off+i * 6+2,none⟩=some (.string y.s)/\w.cell? ⟨g,off+i * 6+3,none⟩=some (.string y.t)/\w.cell? ⟨g,off+i * 6+4,none⟩=some (.int .i64 y.n)/\w.cell? ⟨g,off+i * 6+5,none⟩=some (.slice y.la y.ln y.lc)):=by
 rcases h with ⟨_,rfl⟩|⟨g,off,L,h1,_,h3,h4,h5,h6,h7,_⟩
 ·simp at hi
 ·obtain ⟨y,hy⟩:∃ y,L[i]?=some y:=⟨_,List.getElem?_eq_getElem (by omega)⟩
  obtain ⟨z,hz⟩:∃ z,l[i]?=some z:=⟨_,List.getElem?_eq_getElem hi⟩
  exact ⟨g,off,y,z,h1,hz,h7 i y z hy hz,h6.1,h5,h3,h6.2 i y hy 0 (by omega),h6.2 i y hy 1 (by omega),h6.2 i y hy 2 (by omega),h6.2 i y hy 3 (by omega),h6.2 i y hy 4 (by omega),h6.2 i y hy 5 (by omega)⟩
inductive RgT:Tr->Prop
 |mk (k o:Int) (s t:List UInt8) (n:Int) (l:List Tr) (hk:InR k) (ho:InR o) (hn:InR n) (hs:s.length<=maxLen) (ht:t.length<=maxLen) (h:∀ y,y∈l->RgT y):RgT (.mk k o s t n l)
theorem spotN {w:World} {b o:Nat} {sp:Option Nat} {v:Value} (h:w.cell? ⟨b,o,sp⟩=some v):sp=none:=by
 cases sp with
 |none=>rfl
 |some x =>
  unfold World.cell? at h;split at h<;>simp at h
theorem addN (g o n:Nat):(⟨g,o,none⟩:Addr).add n=⟨g,o+n,none⟩:=by
 unfold Addr.add;split
 ·subst n;rfl
 ·rfl
theorem sixN {α:Type} {l:List α} (h:l.length=6):∃ a b c d e f,l=[a,b,c,d,e,f]:=by
 match l,h with
 | [a,b,c,d,e,f],_=>exact ⟨a,b,c,d,e,f,rfl⟩
section
variable {H:Type} {enc:TypeId × Value->H} {w:World} {base:Nat} {spare:Nat->Bool} {held:Bool}
theorem nd_of_trod:∀ (F n:Nat),n<=F->∀ (cs:List Value) (x:DataW H × List MemPlace),DataW.trod enc Tryz.prog w base spare held n 24 cs=some x ->
 ∃ (y:PN) (t:Tr),cs=y.cells.toList/\TrIn (· < w.heap.size) w y t/\RgT t
 |0,n,hF,cs,x,h=>by
  obtain rfl:n=0:=by omega
  simp [DataW.trod] at h
 |F+1,n,hF,cs,x,h=>by
  have ih:=nd_of_trod F;have k6:Tryz.prog.cellsOf 24=6:=by kernel_rfl
  have ki:Tryz.prog.cellsOf 3=1:=by kernel_rfl
  have kl:Tryz.prog.cellsOf 2=1:=by kernel_rfl
  have ks:Tryz.prog.cellsOf 9=1:=by kernel_rfl
  have kn:Tryz.prog.cellsOf 22=1:=by kernel_rfl
  obtain ⟨xs,m,rfl,_,hlen,hxs,hf⟩:=DataW.trod_struct Tryz.underlying24 h;rw [k6] at hlen;obtain ⟨c0,c1,c2,c3,c4,c5,rfl⟩:=sixN hlen;obtain ⟨x0,x1,x2,x3,x4,x5,rfl⟩:=sixN (show xs.length=6 from hxs);have f0:=hf 0 _ rfl;have f1:=hf 1 _ rfl;have f2:=hf 2 _ rfl;have f3:=hf 3 _ rfl;have f4:=hf 4 _ rfl;have f5:=hf 5 _ rfl;simp [ki,kl,ks,kn] at f0 f1 f2 f3 f4 f5;obtain ⟨k,e0,_,hw0⟩:=DataW.trod_int Tryz.underlying3 f0;obtain ⟨o,e1,_,hw1⟩:=DataW.trod_int Tryz.underlying3 f1;obtain ⟨s,e2,_,hs2⟩:=DataW.trod_string Tryz.underlying9 f2;obtain ⟨t,e3,_,hs3⟩:=DataW.trod_string Tryz.underlying9 f3;obtain ⟨q,e4,_,hw4⟩:=DataW.trod_int Tryz.underlying2 f4;simp only [List.cons.injEq,and_true] at e0 e1 e2 e3 e4;subst e0 e1 e2 e3 e4;have hk:InR k:=by simpa [Lit.wf,InR,IntKind.min,IntKind.max,IntKind.signed,IntKind.bits] using hw0
  have ho:InR o:=by simpa [Lit.wf,InR,IntKind.min,IntKind.max,IntKind.signed,IntKind.bits] using hw1
  have hq:InR q:=by simpa [Lit.wf,InR,IntKind.min,IntKind.max,IntKind.signed,IntKind.bits] using hw4
  have es:s=⟨s.data.toList.toArray⟩:=by simp
  have et:t=⟨t.data.toList.toArray⟩:=by simp
  have hls:s.data.toList.length<=maxLen:=by simpa using hs2
  have hlt:t.data.toList.length<=maxLen:=by simpa using hs3
  rcases DataW.trod_slice Tryz.underlying22 f5 with ⟨e5,_⟩|⟨a,len,cap,el,rs,m2,rfl,e5,_,hb,hlc,hcm,hel0,hel,_,_⟩
  ·simp only [List.cons.injEq,and_true] at e5;subst e5;refine ⟨⟨k,o,s,t,q,none,0,0⟩,.mk k o s.data.toList t.data.toList q [],rfl,?_,.mk _ _ _ _ _ _ hk ho hq hls hlt (fun y hy=>by cases hy)⟩;rw [es,et];exact .leaf _ _ _ _ _ _ _
  ·simp only [List.cons.injEq,and_true] at e5;subst e5;have each:∀ i,∃ y:PN × Tr,RgT y.2/\(i<len->(∀ j,j<6->w.cell? ((a.add (i * 6)).add j)=y.1.cells[j]?)/\TrIn (· < w.heap.size) w y.1 y.2):=by
    intro i;by_cases hi:i<len
    ·have h1:=hel i hi;rw [k6,List.getElem?_eq_getElem (by omega)] at h1;obtain ⟨ce,hce,hte⟩:=Option.bind_eq_some_iff.1 h1;obtain ⟨y,tt,rfl,hin,hrg⟩:=ih m2 (by omega) _ _ hte;obtain ⟨_,_,hcc⟩:=World.cells?_some hce;exact ⟨(y,tt),hrg,fun _=>⟨fun j hj=>by rw [hcc j hj];simp,hin⟩⟩
    ·exact ⟨(⟨0,0,⟨#[]⟩,⟨#[]⟩,0,none,0,0⟩,.mk 0 0 [] [] 0 []),.mk _ _ _ _ _ _ (by unfold InR;simp) (by unfold InR;simp) (by unfold InR;simp) (Nat.zero_le _) (Nat.zero_le _) (fun y hy=>by cases hy),fun h=>absurd h hi⟩
   obtain ⟨f,hff⟩:=Classical.axiomOfChoice each;by_cases h0:0<len
   ·obtain ⟨g,off,sp⟩:=a;have h00:=(hff 0).2 h0;have h01:=h00.1 0 (by omega);obtain rfl:sp=none:=by
     have e:(⟨g,off,sp⟩:Addr).add (0 * 6)=⟨g,off,sp⟩:=by simp [Addr.add]
     rw [e] at h01;have e2:(⟨g,off,sp⟩:Addr).add 0=⟨g,off,sp⟩:=by simp [Addr.add]
     rw [e2] at h01;exact spotN (h01.trans (by rfl))
    simp only [addN] at h01;have hgl:g<w.heap.size:=World.block_lt_of_cell? w _ (h01.trans (by rfl));refine ⟨⟨k,o,s,t,q,some ⟨g,off,none⟩,len,cap⟩,.mk k o s.data.toList t.data.toList q ((List.range len).map fun i=>(f i).2),rfl,?_,.mk _ _ _ _ _ _ hk ho hq hls hlt (fun y hy=>by
     obtain ⟨i,_,rfl⟩:=List.mem_map.1 hy;exact (hff i).1)⟩
    have hlen2:((List.range len).map fun i=>(f i).2).length=len:=by simp
    rw [es,et];have hnode:=TrIn.node (A:=(· < w.heap.size)) (w:=w) k o s.data.toList t.data.toList q g off cap ((List.range len).map fun i=>(f i).1) ((List.range len).map fun i=>(f i).2) (by simp) (by simpa using h0) (by simpa using hlc) hgl ⟨hgl,fun i x hx j hj=>by
     rw [List.getElem?_map] at hx;by_cases hil:i<len
     ·rw [List.getElem?_range hil] at hx;obtain rfl:(f i).1=x:=by simpa using hx
      have:=((hff i).2 hil).1 j hj;simp only [addN] at this;exact this
     ·rw [List.getElem?_eq_none (by simpa using hil)] at hx;cases hx⟩ (fun i x y hx hy=>by
     rw [List.getElem?_map] at hx hy;by_cases hil:i<len
     ·rw [List.getElem?_range hil] at hx hy;obtain rfl:(f i).1=x:=by simpa using hx
      obtain rfl:(f i).2=y:=by simpa using hy
      exact ((hff i).2 hil).2
     ·rw [List.getElem?_eq_none (by simpa using hil)] at hx;cases hx)
    rw [hlen2] at hnode;exact hnode
   ·obtain rfl:len=0:=by omega
    refine ⟨⟨k,o,s,t,q,some a,0,cap⟩,.mk k o s.data.toList t.data.toList q [],rfl,?_,.mk _ _ _ _ _ _ hk ho hq hls hlt (fun y hy=>by cases hy)⟩;rw [es,et];exact .leaf _ _ _ _ _ _ _
theorem open_node {r:Reach} {b0:Nat} {v:Value} {d:DataW H} {ps:List MemPlace} (hval:Value.okWide Tryz.prog w r b0 24 v) (hd:DataW.Trod enc Tryz.prog w base spare held 24 v d ps) :
 ∃ (y:PN) (t:Tr),v=y.v/\TrIn (· < w.heap.size) w y t/\RgT t:=by
 obtain ⟨cs,rfl,hsz⟩:=WideShapes.okWide_struct Tryz.underlying24 hval;obtain ⟨fuel,hf⟩:=hd;obtain ⟨y,t,he,h1,h2⟩:=nd_of_trod fuel fuel (Nat.le_refl _) _ _ hf;refine ⟨y,t,?_,h1,h2⟩;have:cs=y.cells:=by simpa [Value.cells] using he
 rw [this];rfl
end
end Go.Proofs.YtimeipjcmffadaaGreatDoor
