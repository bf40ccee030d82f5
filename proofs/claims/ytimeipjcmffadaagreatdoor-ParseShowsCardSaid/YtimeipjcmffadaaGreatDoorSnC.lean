import Derived.Test.YtimeipjcmffadaaGreatDoorOwn
import Derived.Test.YtimeipjcmffadaaGreatDoorShowB
import Derived.Test.YtimeipjcmffadaaGreatDoorSnB
namespace Go.Proofs.YtimeipjcmffadaaGreatDoor
open Go.RowKit Go.Lib
set_option maxRecDepth 100000
def strV (x:List UInt8):Value:= .string ⟨x.toArray⟩
structure PrAt (w:World) (B q:Nat) (ws:List (List UInt8)):Prop where
 ge:B<=q
 ex:∃ v,Blk w q #[v] 67/\w.ownsRow B 9 1 v ws.length (ws.map strV)
theorem infoStr:(Tryz.prog.info? 9).map (fun i=>(i.zero,i.size,i.bytes))=some (some (.string ⟨#[]⟩),1,16):=by kernel_rfl
theorem own_setCell {w:World} {B size n:Nat} {e:TypeId} {v:Value} {xs:List Value} (h:w.ownsRow B e size v n xs) (q:Nat) (u:Value) (hq:v.ownBlock≠some q):(w.setCell ⟨q,0,none⟩ u).ownsRow B e size v n xs:=by
 obtain ⟨h0,h1⟩:=h;refine ⟨h0,?_⟩;rcases h1 with h1|⟨g,cap,cur,rfl,h2,h3,h4⟩
 ·exact .inl h1
 ·refine .inr ⟨g,cap,cur,rfl,h2,?_,h4⟩;rw [heap_setCell_other w ⟨q,0,none⟩ g u (by show g≠q;intro e;subst e;simp [Value.ownBlock] at hq)];exact h3
theorem own_not {w:World} {B n q:Nat} {v u:Value} {xs:List Value} (h:w.ownsRow B 9 1 v n xs) (hq:Blk w q #[u] 67):v.ownBlock≠some q:=by
 intro e;obtain ⟨cur,hc,_⟩:=ownsRow_heap h e;have:=hc.symm.trans hq;simp at this
theorem PrAt.ext {w w':World} {B q:Nat} {ws:List (List UInt8)} (h:PrAt w B q ws) (hx:Ext w w'):PrAt w' B q ws:=by
 obtain ⟨v,h1,h2⟩:=h.ex;exact ⟨h.ge,v,h1.keep hx,ownsRow_ext h2 hx⟩
theorem wpList_strs {w:World} {ops:Array Oper} {rest:List Oper} {o:Oper} {a:Act} {Q:Exit->Act->World->Prop} (hgd:o.guard=none) (s x:Operand)
 (ho:o.op= .call { callee:= .builtin .append,args:= #[s,x],argTypes:= #[65,65] }) (B:Nat) (v:Value) (ws xs:List (List UInt8)) (hs:a.eval s=v) (hown:w.ownsRow B 9 1 v ws.length (ws.map strV))
 (b m:Nat) (hx:a.eval x= .slice (some ⟨b,0,none⟩) m m) (hb:Blk w b (xs.map strV).toArray 9) (hm:xs.length=m) (h63:ws.length+m<=1000000) (hBw:B<=w.heap.size)
 (h:∀ ao cap w',w'.ownsRow B 9 1 (.slice ao (ws++xs).length cap) (ws++xs).length ((ws++xs).map strV)->w.grownBy w' v.ownBlock->((Value.slice ao (ws++xs).length cap).ownBlock=v.ownBlock ∨ (Value.slice ao (ws++xs).length cap).ownBlock=some w.heap.size)->wpList Tryz.prog ops Q rest (a.put o.dst (.slice ao (ws++xs).length cap)) w') :
 wpList Tryz.prog ops Q (o::rest) a w:=by
 obtain ⟨i,hi,hz0,hz1,hz2⟩:=info_parts infoStr;refine wpList_append_own_at w hgd s x 65 ho B 9 i (.string ⟨#[]⟩) 1 16 Tryz.underlying65 hi hz0 hz1 hz2 rfl (by decide) v ws.length (ws.map strV) hs hown ⟨b,0,none⟩ m m (xs.map strV) hx (by simp [hm]) (fun j u hj=>?_) (fun u hu=>?_) (by unfold maxLen;omega) (by omega) hBw
  (fun v' w' h2 h3 _ h5=>?_)
 ·rw [Addr.add_lit,Nat.zero_add,hb.cell];simpa using hj
 ·obtain ⟨y,_,rfl⟩:=List.mem_map.1 hu;rfl
 ·rw [<- hm,<- List.length_append,<- List.map_append] at h2;obtain ⟨ao,cap,rfl,hc⟩:=ownsRow_slice h2;exact h ao cap w' h2 h3 h5
structure LeR (q:Nat) (w w':World):Prop where
 os:w'.os=w.os
 tape:w'.tape=w.tape
 out:w'.output=w.output
 size:w.heap.size<=w'.heap.size
 old:∀ i,i<w.heap.size->i≠q->(∀ v,Blk w q #[v] 67->v.ownBlock≠some i)->w'.heap[i]?=w.heap[i]?
 own:∀ v,Blk w q #[v] 67->∃ v',Blk w' q #[v'] 67/\(v'.ownBlock=v.ownBlock ∨ ∀ g,v'.ownBlock=some g->w.heap.size<=g)
theorem LeR.refl (q:Nat) (w:World):LeR q w w:=⟨rfl,rfl,rfl,Nat.le_refl _,fun _ _ _ _=>rfl,fun v h=>⟨v,h,.inl rfl⟩⟩
theorem blk_one {w:World} {q:Nat} {v u:Value} {t t2:TypeId} (h:Blk w q #[v] t) (k:Blk w q #[u] t2):v=u:=by
 have:=h.symm.trans k;simp at this;exact this.1
theorem LeR.ofExt {q:Nat} {w w':World} (h:Ext w w'):LeR q w w':=⟨h.os,h.tape,h.output,h.size,fun i hi _ _=>h.block i hi,fun v hv=>⟨v,hv.keep h,.inl rfl⟩⟩
theorem LeR.trans {q:Nat} {a b c:World} (hq:∃ v,Blk a q #[v] 67) (h:LeR q a b) (k:LeR q b c):LeR q a c:=by
 obtain ⟨v,hv⟩:=hq;obtain ⟨v2,hv2,ho2⟩:=h.own v hv;obtain ⟨v3,hv3,ho3⟩:=k.own v2 hv2;refine ⟨k.os.trans h.os,k.tape.trans h.tape,k.out.trans h.out,Nat.le_trans h.size k.size,fun i h1 h2 h3=>?_,fun u hu=>?_⟩
 ·refine (k.old i (Nat.lt_of_lt_of_le h1 h.size) h2 fun u hu=>?_).trans (h.old i h1 h2 h3);obtain rfl:=blk_one hv2 hu;rcases ho2 with ho2|ho2
  ·rw [ho2];exact h3 v hv
  ·intro e;have:=ho2 i e;omega
 ·obtain rfl:=blk_one hv hu;refine ⟨v3,hv3,?_⟩;rcases ho3 with ho3|ho3
  ·rw [ho3];exact ho2
  ·exact .inr fun g hg=>Nat.le_trans h.size (ho3 g hg)
structure BoxAt (w:World) (q i:Nat) (cs:Array Value) (t:TypeId):Prop where
 blk:Blk w i cs t
 ne:i≠q
 own:∀ v,Blk w q #[v] 67->v.ownBlock≠some i
theorem BoxAt.later {w w':World} {q i:Nat} {cs:Array Value} {t:TypeId} (h:BoxAt w q i cs t) (hq:∃ v,Blk w q #[v] 67) (hl:LeR q w w'):BoxAt w' q i cs t:=by
 obtain ⟨v,hv⟩:=hq;obtain ⟨v2,hv2,ho2⟩:=hl.own v hv;refine ⟨(hl.old i h.blk.lt h.ne h.own).trans h.blk,h.ne,fun u hu=>?_⟩;obtain rfl:=blk_one hv2 hu;rcases ho2 with ho2|ho2
 ·rw [ho2];exact h.own v hv
 ·intro e;have:=ho2 i e;have:=h.blk.lt;omega
theorem PrAt.is {w:World} {B q:Nat} {ws:List (List UInt8)} (h:PrAt w B q ws):∃ v,Blk w q #[v] 67:=⟨_,h.ex.choose_spec.1⟩
theorem BoxAt.new {w:World} {B q:Nat} {ws:List (List UInt8)} (h:PrAt w B q ws) (cs:Array Value) (t:TypeId):BoxAt (w.alloc (.cells cs t)) q w.heap.size cs t:=by
 obtain ⟨v,h1,h2⟩:=h.ex;refine ⟨Blk.new w cs t rfl,by have:=h1.lt;omega,fun u hu=>?_⟩;obtain rfl:=blk_one (h1.keep ((Ext.refl w).alloc _)) hu;intro e;obtain ⟨_,_,hlt⟩:=ownsRow_heap h2 e;omega
theorem LeR.below {q B:Nat} {w0 w w':World} {ws:List (List UInt8)} (h0:Below B w0 w) (hB:B<=w.heap.size) (hP:PrAt w B q ws) (h:LeR q w w'):Below B w0 w' :=
 ⟨h.os.trans h0.os,h.tape.trans h0.tape,h.out.trans h0.output,Nat.le_trans h0.size h.size,fun i hi=>(h.old i (by omega) (by have:=hP.ge;omega) (by
  obtain ⟨v,h1,h2⟩:=hP.ex;intro u hu;obtain rfl:=blk_one h1 hu;intro e;rcases h2.2 with ⟨rfl,_⟩|⟨g2,cap,cur,rfl,hB2,_⟩
  ·simp [Value.ownBlock] at e
  ·simp [Value.ownBlock] at e;omega)).trans (h0.block i hi)⟩
set_option maxHeartbeats 4000000 in
theorem put_nd (B q b m:Nat) (ws xs:List (List UInt8)) (w:World) (h:PrAt w B q ws) (hb:Blk w b (xs.map strV).toArray 9) (hm:xs.length=m) (h63:ws.length+m<=1000000) (hBw:B<=w.heap.size) :
 Calls Tryz.prog 53 #[.pointer (some ⟨q,0,none⟩),.slice (some ⟨b,0,none⟩) m m] w fun e w'=>e= .returned (.tuple #[])/\PrAt w' B q (ws++xs)/\LeR q w w':=by
 obtain ⟨v,hq,ho⟩:=h.ex;have hnot:=own_not ho hq;obtain ⟨ao,cap,rfl,hcap⟩:=ownsRow_slice ho;have HG:=h_ h.ge;have HO:=h_ ho;have HQ:=h_ hq;have HB:=h_ hb;have HNo:=h_ hnot;obtain ⟨cq,fq⟩:=hq.facts;have hql:=hq.lt;clear h hq ho hb hnot;go_enter Tryz.func53,Tryz.ntmps53;go_simp;have hmI:=hm;go_wp2_with (at_builtin;go_must (refine wpList_strs rfl _ _ rfl B _ ws xs rfl HO.out b m rfl HB.out hm h63 hBw ?_));intro ao2 cap2 w2 ho2 hg2 hb2;have HO2:=h_ ho2;have HG2:=h_ (And.intro hg2 hb2);have HQ2:=h_ (show Blk w2 q _ 67 from (hg2.block q hql (Ne.symm HNo.out)).trans HQ.out);clear ho2 hg2 hb2 cq fq hql;obtain ⟨cq,fq⟩:=HQ2.out.facts;have hql:=HQ2.out.lt;go_simp
 repeat (first|go_values|go_skip|go_guarded|go_step|go_upon)
 go_returns;have hno2:=own_not HO2.out HQ2.out;refine ⟨rfl,⟨HG.out,_,HQ2.out.set 0 _,by rw [List.map_append,List.length_append,hm];exact own_setCell HO2.out q _ hno2⟩,?_⟩;obtain ⟨hg2,hb2⟩:=HG2.out;refine ⟨hg2.os,hg2.tape,hg2.output,by simpa using hg2.size,fun i h1 h2 h3=>?_,fun u hu=>?_⟩
 ·rw [heap_setCell_other _ ⟨q,0,none⟩ i _ h2];exact hg2.block i h1 (Ne.symm (h3 _ HQ.out))
 ·obtain rfl:=blk_one HQ.out hu;refine ⟨_,HQ2.out.set 0 _,?_⟩;rcases hb2 with hb2|hb2
  ·exact .inl (by simpa [List.length_append,hm] using hb2)
  ·exact .inr fun g hg=>by
    rw [hb2] at hg;simp at hg;omega
abbrev Wds:=List (List UInt8)
def pwNd (c:Int × Wds) (lv:Int):Wds:=if c.1<lv then [[40]]++c.2++[[41]] else c.2
def pwZ:Int × Wds:=(12,[[78,85,76,76]])
def pwAt (L:List (Int × Wds)) (i:Nat) (lv:Int):Wds:=pwNd ((L[i]?).getD pwZ) lv
def pwNot (n:Int):Wds:=if n=1 then [[78,79,84]] else []
def pwMore:List (Int × Wds)->Wds
 | []=>[]
 |c::L=>[[44]]++pwNd c 1++pwMore L
def pwList:List (Int × Wds)->Wds
 | []=>[]
 |c::L=>pwNd c 1++pwMore L
def pwKind (n:Int):List UInt8:=if n=1 then [66,79,79,76] else if n=2 then [73,78,84] else if n=3 then [84,69,88,84] else []
def pwName (s t:List UInt8):Wds:=(if t=[] then [] else [t,[46]])++[s]
def pwCast (n:Int) (L:List (Int × Wds)):Wds:=[[67,65,83,84],[40]]++pwAt L 0 1++[[65,83],pwKind n,[41]]
def pwCall (s:List UInt8) (L:List (Int × Wds)):Wds:=[s,[40]]++(if L.length=0 then [[42]] else [])++pwList L++[[41]]
def pwPlain (k:Int) (s t:List UInt8) (n:Int) (L:List (Int × Wds)):Wds :=
 if k=1 then [if n=1 then trueL else falseL]
 else if k=2 then [Lib.itoa n]
 else if k=3 then [39::(escQ s++[39])]
 else if k=4 then pwName s t
 else if k=12 then pwCast n L
 else if k=13 ∨ k=14 then pwCall s L
 else [[78,85,76,76]]
def pwBin (o:Int) (L:List (Int × Wds)):Wds:=pwAt L 0 (if strT 6 o=4 then 5 else strT 6 o)++[sgn o 9 1]++pwAt L 1 (strT 6 o+1)
def pwLike (L:List (Int × Wds)):Wds:=[[76,73,75,69]]++pwAt L 1 5++(if 2<L.length then [[69,83,67,65,80,69]]++pwAt L 2 5 else [])
def pwBtw (L:List (Int × Wds)):Wds:=[[66,69,84,87,69,69,78]]++pwAt L 1 5++[[65,78,68]]++pwAt L 2 5
def pwIn (L:List (Int × Wds)):Wds:=[[73,78],[40]]++pwList (L.drop 1)++[[41]]
def pwTest (k n:Int) (L:List (Int × Wds)):Wds:=pwAt L 0 5++pwNot n++(if k=8 then pwLike L else if k=10 then pwBtw L else pwIn L)
def pwB (k o:Int) (s t:List UInt8) (n:Int) (L:List (Int × Wds)):Wds :=
 if k=5 then [if o=21 then [78,79,84] else [45]]++pwAt L 0 (strT 5 o)
 else if k=6 then pwBin o L
 else if k=7 then pwAt L 0 5++[[73,83]]++pwNot n++[[78,85,76,76]]
 else if k=8 ∨ k=9 ∨ k=10 then pwTest k n L
 else if k=11 then pwAt L 0 11++[[67,79,76,76,65,84,69],s]
 else pwPlain k s t n L
mutual
def pwT:Tr->Wds
 | .mk k o s t n l=>pwB k o s t n (pwTs l)
def pwTs:List Tr->List (Int × Wds)
 | []=>[]
 | .mk k o s t n l::r=>(strT k o,pwT (.mk k o s t n l))::pwTs r
end
def levP:Tr->Int
 | .mk k o _ _ _ _=>strT k o
theorem pwT_mk (k o:Int) (s t:List UInt8) (n:Int) (l:List Tr):pwT (.mk k o s t n l)=pwB k o s t n (pwTs l):=by rw [pwT]
theorem pwTs_cons (x:Tr) (r:List Tr):pwTs (x::r)=(levP x,pwT x)::pwTs r:=by cases x;rw [pwTs];rfl
theorem pwTs_map:∀ l:List Tr,pwTs l=l.map fun x=>(levP x,pwT x)
 | []=>by rw [pwTs];rfl
 |x::r=>by rw [pwTs_cons,List.map_cons,pwTs_map r]
theorem pwTs_len (l:List Tr):(pwTs l).length=l.length:=by rw [pwTs_map,List.length_map]
theorem pwT_z:(levP zTr,pwT zTr)=pwZ:=by
 unfold zTr;rw [pwT_mk];simp [levP,strT,pwB,pwPlain,pwZ]
theorem pwAt_kid (l:List Tr) (i:Nat) (lv:Int):pwAt (pwTs l) i lv=pwNd (levP ((l[i]?).getD zTr),pwT ((l[i]?).getD zTr)) lv:=by
 unfold pwAt;rw [pwTs_map,List.getElem?_map];cases l[i]? with
 |none=>simp only [Option.map_none,Option.getD_none];rw [pwT_z]
 |some z=>rfl
def totW (L:List (Int × Wds)):Nat:=(L.map fun c=>c.2.length+3).sum
theorem totW_cons (c:Int × Wds) (L:List (Int × Wds)):totW (c::L)=c.2.length+3+totW L:=by simp [totW]
theorem pwNd_len (c:Int × Wds) (lv:Int):(pwNd c lv).length<=c.2.length+2:=by
 unfold pwNd;split<;>simp
theorem pwMore_len:∀ L:List (Int × Wds),(pwMore L).length<=totW L
 | []=>by simp [pwMore]
 |c::L=>by
  have ih:=pwMore_len L;have h:=pwNd_len c 1;rw [totW_cons];simp only [pwMore,List.length_append,List.length_cons,List.length_nil];omega
theorem pwList_len:∀ L:List (Int × Wds),(pwList L).length<=totW L
 | []=>by simp [pwList]
 |c::L=>by
  have ih:=pwMore_len L;have h:=pwNd_len c 1;rw [totW_cons];simp only [pwList,List.length_append];omega
theorem pwAt3_len (L:List (Int × Wds)) (a b c:Int):(pwAt L 0 a).length+(pwAt L 1 b).length+(pwAt L 2 c).length<=totW L+9:=by
 have hz:∀ lv,(pwNd pwZ lv).length<=3:=fun lv=>pwNd_len pwZ lv;unfold pwAt
 match L with
 | [] =>
  have h1:=hz a;have h2:=hz b;have h3:=hz c;simp only [List.getElem?_nil,Option.getD_none];omega
 | [x] =>
  have h1:=pwNd_len x a;have h2:=hz b;have h3:=hz c;rw [totW_cons];simp only [List.getElem?_cons_zero,List.getElem?_cons_succ,List.getElem?_nil,Option.getD_none,Option.getD_some];omega
 | [x,y] =>
  have h1:=pwNd_len x a;have h2:=pwNd_len y b;have h3:=hz c;rw [totW_cons,totW_cons];simp only [List.getElem?_cons_zero,List.getElem?_cons_succ,List.getElem?_nil,Option.getD_none,Option.getD_some];omega
 |x::y::z::r =>
  have h1:=pwNd_len x a;have h2:=pwNd_len y b;have h3:=pwNd_len z c;rw [totW_cons,totW_cons,totW_cons];simp only [List.getElem?_cons_zero,List.getElem?_cons_succ,Option.getD_some];omega
theorem pwIn_len (L:List (Int × Wds)) (a:Int):(pwAt L 0 a).length+(pwList (L.drop 1)).length<=totW L+3:=by
 have hz:∀ lv,(pwNd pwZ lv).length<=3:=fun lv=>pwNd_len pwZ lv;unfold pwAt
 match L with
 | [] =>
  have h1:=hz a;simp only [List.getElem?_nil,Option.getD_none,List.drop_nil,pwList,List.length_nil];omega
 |x::r =>
  have h1:=pwNd_len x a;have h2:=pwList_len r;rw [totW_cons];simp only [List.getElem?_cons_zero,Option.getD_some,List.drop_succ_cons,List.drop_zero];omega
theorem pwB_len (k o:Int) (s t:List UInt8) (n:Int) (L:List (Int × Wds)):(pwB k o s t n L).length<=totW L+20:=by
 have h3:=pwAt3_len L;have h4:=pwIn_len L;have h5:=pwList_len L;have hn:(pwNot n).length<=1:=by unfold pwNot;split<;>simp
 unfold pwB;split
 ·have:=h3 (strT 5 o) 0 0;simp only [List.length_append,List.length_cons,List.length_nil];omega
 split
 ·unfold pwBin;have:=h3 (if strT 6 o=4 then 5 else strT 6 o) (strT 6 o+1) 0;simp only [List.length_append,List.length_cons,List.length_nil];omega
 split
 ·have:=h3 5 0 0;simp only [List.length_append,List.length_cons,List.length_nil];omega
 split
 ·unfold pwTest;split
  ·unfold pwLike;have:=h3 5 5 5;simp only [List.length_append,List.length_cons,List.length_nil];split<;>simp only [List.length_append,List.length_cons,List.length_nil]<;>omega
  split
  ·unfold pwBtw;have:=h3 5 5 5;simp only [List.length_append,List.length_cons,List.length_nil];omega
  ·unfold pwIn;have:=h4 5;simp only [List.length_append,List.length_cons,List.length_nil];omega
 split
 ·have:=h3 11 0 0;simp only [List.length_append,List.length_cons,List.length_nil];omega
 ·unfold pwPlain;split
  ·simp
  split
  ·simp
  split
  ·simp
  split
  ·unfold pwName;split<;>simp
  split
  ·unfold pwCast;have:=h3 1 0 0;simp only [List.length_append,List.length_cons,List.length_nil];omega
  split
  ·unfold pwCall;simp only [List.length_append,List.length_cons,List.length_nil];split<;>simp only [List.length_cons,List.length_nil]<;>omega
  ·simp
mutual
theorem pwT_len:∀ t:Tr,(pwT t).length+3<=23 * cntT t
 | .mk k o s t n l=>by
  have h1:=pwB_len k o s t n (pwTs l);have h2:=pwTs_len2 l;rw [pwT_mk,cntT_mk];omega
theorem pwTs_len2:∀ l:List Tr,totW (pwTs l)<=23 * cntTs l
 | []=>by rw [pwTs];simp [totW]
 |x::r=>by
  have h1:=pwT_len x;have h2:=pwTs_len2 r;rw [pwTs_cons,totW_cons,cntTs_cons];simp only;omega
end
structure Pst (w0:World) (B q:Nat) (ws:Wds) (W:World):Prop where
 pr:PrAt W B q ws
 be:Below B w0 W
 hB:B<=W.heap.size
def PPost (w0:World) (B q:Nat) (ws:Wds) (W:World) (e:Ending) (w':World):Prop:=e= .returned (.tuple #[])/\Pst w0 B q ws w'/\LeR q W w'
structure Pbx (w0 w:World) (B q:Nat) (ws:Wds) (cs:Array Value) (W:World):Prop where
 st:Pst w0 B q ws W
 le:LeR q w W
 bx:BoxAt W q w.heap.size cs 24
 is:∃ v,Blk w q #[v] 67
section
variable {w0 w W W':World} {B q:Nat} {ws ws':Wds} {cs:Array Value}
theorem Pst.ext (h:Pst w0 B q ws W) (hx:Ext W W'):Pst w0 B q ws W':=⟨h.pr.ext hx,h.be.trans (hx.mono h.hB),Nat.le_trans h.hB hx.size⟩
theorem Pst.eq (h:Pst w0 B q ws W) (e:ws=ws'):Pst w0 B q ws' W:=e ▸ h
theorem Pbx.start (h:Pst w0 B q ws w) (cs:Array Value):Pbx w0 w B q ws cs (w.alloc (.cells cs 24)) :=
 ⟨h.ext ((Ext.refl w).alloc _),LeR.ofExt ((Ext.refl w).alloc _),BoxAt.new h.pr cs _,h.pr.is⟩
theorem Pbx.step (h:Pbx w0 w B q ws cs W) (h1:Pst w0 B q ws' W') (h2:LeR q W W'):Pbx w0 w B q ws' cs W':=⟨h1,LeR.trans h.is h.le h2,h.bx.later h.st.pr.is h2,h.is⟩
theorem Pbx.ext (h:Pbx w0 w B q ws cs W) (hx:Ext W W'):Pbx w0 w B q ws cs W':=h.step (h.st.ext hx) (LeR.ofExt hx)
theorem Pbx.post (h:Pbx w0 w B q ws cs W) (e:ws=ws'):PPost w0 B q ws' w (.returned (.tuple #[])) W:=⟨rfl,h.st.eq e,h.le⟩
end
theorem put_st (w0:World) (B q:Nat) (ws xs:Wds) (b m:Nat) (W:World) (h:Pst w0 B q ws W) (hb:Blk W b (xs.map strV).toArray 9) (hm:xs.length=m) (h63:ws.length+m<=1000000) :
 Calls Tryz.prog 53 #[.pointer (some ⟨q,0,none⟩),.slice (some ⟨b,0,none⟩) m m] W (PPost w0 B q (ws++xs) W):=by
 refine (put_nd B q b m ws xs W h.pr hb hm h63 h.hB).mono ?_;rintro e w' ⟨rfl,hp,hl⟩;exact ⟨rfl,⟨hp,LeR.below h.be h.hB h.pr hl,Nat.le_trans h.hB hl.size⟩,hl⟩
end Go.Proofs.YtimeipjcmffadaaGreatDoor
