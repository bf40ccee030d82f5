import Derived.Test.YtimeipjcmffadaaGreatDoorRpG
namespace Go.Proofs.YtimeipjcmffadaaGreatDoor
open Go.RowKit Go.Lib
set_option maxRecDepth 100000
def EnR (T:List Lx.Tok) (rec:RecR) (N:Nat):Prop:=∀ (k:Nat) (s:PSt),1<=k->k<=11->16 * (T.length - s.i)+14 - k<=N->∃ m,rec k s=some m
theorem opR_lt {T:List Lx.Tok} {s:PSt}:∀ (L:List (Int × List UInt8 × Int)),opR T s L≠0->s.i<T.length
 | [],h=>absurd rfl h
 |b::L,h=>by
  unfold opR at h;split at h
  ·rename_i hb;exact isR_lt hb
  ·exact opR_lt L h
theorem en_named {T:List Lx.Tok} {rec:RecR} {N:Nat} (hr:EnR T rec N) (long:Nat) (s:PSt) (hn:nameB T s=true) (hN:16 * (T.length - s.i)<=N):∃ m,namedR rec T long s=some m:=by
 have e1:nameS T long s=advR s:=by unfold nameS;rw [if_pos hn];rfl
 unfold namedR;rw [e1];simp only;split
 ·exact ⟨_,rfl⟩
 split
 ·rename_i hp;have hp:=isR_lt hp;have ha:(advR s).i=s.i+1:=rfl;split
  ·split
   ·exact ⟨_,rfl⟩
   ·obtain ⟨m,hm⟩:=hr 1 { inS T long { advR s with i:=(advR s).i - 1 } with i:=(advR s).i+1 } (by omega) (by omega) (by show 16 * (T.length - ((advR s).i+1))+14 - 1<=N;omega);rw [hm];exact ⟨_,rfl⟩
  ·exact ⟨_,rfl⟩
 ·exact ⟨_,rfl⟩
theorem en_listLoop {T:List Lx.Tok} {rec:RecR} {N:Nat} (hr:EnR T rec N) (hi:IncOk rec):∀ (f:Nat) (out:List Tr) (s:PSt),T.length - s.i<f->16 * (T.length - s.i)+13<=N->∃ m,listLoopR rec T f out s=some m
 |0,_,_,h,_=>by omega
 |f+1,out,s,hf,hN=>by
  unfold listLoopR;split
  ·obtain ⟨m,hm⟩:=hr 1 s (by omega) (by omega) (by omega);rw [hm];have h1:=hi _ _ m.1 m.2 hm;show ∃ q,(if takeB T m.2 [44]=true then listLoopR rec T f (out++[m.1]) (advR m.2) else some (out++[m.1],m.2))=some q;split
   ·rename_i ht;have ht:=takeB_lt ht;have ha:(advR m.2).i=m.2.i+1:=rfl;exact en_listLoop hr hi f _ _ (by omega) (by omega)
   ·exact ⟨_,rfl⟩
  ·exact ⟨_,rfl⟩
theorem en_list {T:List Lx.Tok} {rec:RecR} {N:Nat} (hr:EnR T rec N) (hi:IncOk rec) (long f:Nat) (s:PSt) (hf:T.length - s.i<f) (hN:16 * (T.length - s.i)<=N):∃ m,listR rec T long f s=some m:=by
 unfold listR;split
 ·rename_i ht;have ht:=takeB_lt ht;split
  ·have h2:(advR (inS T long s)).i=s.i+1:=by show (inS T long s).i+1=_;rw [inc_in]
   obtain ⟨m,hm⟩:=en_listLoop hr hi f [] (advR (inS T long s)) (by omega) (by omega);rw [hm];exact ⟨_,rfl⟩
  ·exact ⟨_,rfl⟩
 ·exact ⟨_,rfl⟩
theorem en_group {T:List Lx.Tok} {rec:RecR} {N:Nat} (hr:EnR T rec N) (long:Nat) (s:PSt) (hN:16 * (T.length - s.i)<=N):∃ m,groupR rec T long s=some m:=by
 have h2:(advR (inS T long s)).i=s.i+1:=by show (inS T long s).i+1=_;rw [inc_in]
 unfold groupR;split
 ·rename_i ht;have ht:=isR_lt ht;split
  ·obtain ⟨m,hm⟩:=hr 1 (advR (inS T long s)) (by omega) (by omega) (by omega);rw [hm];exact ⟨_,rfl⟩
  ·exact ⟨_,rfl⟩
 split
 ·rename_i ht;have ht:=isR_lt ht;split
  ·have h3:=inc_want T long (advR (inS T long s)) [40];obtain ⟨m,hm⟩:=hr 1 (wantR T long (advR (inS T long s)) [40]) (by omega) (by omega) (by omega);rw [hm];exact ⟨_,rfl⟩
  ·exact ⟨_,rfl⟩
 ·exact ⟨_,rfl⟩
theorem en_plain {T:List Lx.Tok} {rec:RecR} {N:Nat} (hr:EnR T rec N) (long:Nat) (s:PSt) (hN:16 * (T.length - s.i)<=N):∃ m,plainR rec T long s=some m:=by
 unfold plainR;split
 ·exact ⟨_,rfl⟩
 split
 ·exact ⟨_,rfl⟩
 split
 ·exact ⟨_,rfl⟩
 ·exact en_group hr long s hN
theorem nameB_of {T:List Lx.Tok} {s:PSt} (he:s.e=0) (hk:kindR T s=1):nameB T s=true:=by unfold nameB;rw [hk,he];rfl
theorem en_first {T:List Lx.Tok} {rec:RecR} {N:Nat} (hr:EnR T rec N) (long:Nat) (s:PSt) (hN:16 * (T.length - s.i)<=N):∃ m,firstR rec T long s=some m:=by
 unfold firstR;split
 ·exact ⟨_,rfl⟩
 rename_i he;split
 ·exact ⟨_,rfl⟩
 split
 ·exact ⟨_,rfl⟩
 split
 ·rename_i hk;exact en_named hr long s (nameB_of (by simpa using he) hk) hN
 ·exact en_plain hr long s hN
theorem en_words {T:List Lx.Tok} {rec:RecR} {N:Nat} (hr:EnR T rec N) (hi:IncOk rec) (long f:Nat) (a:Tr) (nt:Bool) (s:PSt) (hf:T.length - s.i<f) (hN:16 * (T.length - s.i)<=N):∃ m,wordsR rec T long f a nt s=some m:=by
 have ha:(advR s).i=s.i+1:=rfl;unfold wordsR;split
 ·rename_i ht;have ht:=takeB_lt ht;obtain ⟨m,hm⟩:=hr 5 (advR s) (by omega) (by omega) (by omega);have h1:=hi _ _ m.1 m.2 hm;rw [hm];show ∃ q,(if takeB T m.2 [69,83,67,65,80,69]=true then (rec 5 (advR m.2)).map fun q=>(Tr.mk 8 0 [] [] (if nt then 1 else 0) [a,m.1,q.1],q.2) else some (.mk 8 0 [] [] (if nt then 1 else 0) [a,m.1],m.2))=some q;split
  ·have h3:(advR m.2).i=m.2.i+1:=rfl;obtain ⟨q,hq⟩:=hr 5 (advR m.2) (by omega) (by omega) (by omega);rw [hq];exact ⟨_,rfl⟩
  ·exact ⟨_,rfl⟩
 split
 ·rename_i ht;have ht:=takeB_lt ht;obtain ⟨m,hm⟩:=hr 5 (advR s) (by omega) (by omega) (by omega);have h1:=hi _ _ m.1 m.2 hm;have h2:=inc_want T long m.2 [65,78,68];rw [hm];obtain ⟨q,hq⟩:=hr 5 (wantR T long m.2 [65,78,68]) (by omega) (by omega) (by omega);simp only [Option.bind_some,hq,Option.map_some];exact ⟨_,rfl⟩
 split
 ·rename_i ht;have ht:=isR_lt ht;obtain ⟨m,hm⟩:=en_list hr hi long f (advR s) (by omega) (by omega);rw [hm];exact ⟨_,rfl⟩
 split
 ·exact ⟨_,rfl⟩
 ·exact ⟨_,rfl⟩
theorem en_compare {T:List Lx.Tok} {rec:RecR} {N:Nat} (hr:EnR T rec N) (hi:IncOk rec) (long f:Nat) (a:Tr) (s:PSt) (hf:T.length - s.i<f) (hN:16 * (T.length - s.i)<=N):∃ m,compareR rec T long f a s=some m:=by
 have ha:(advR s).i=s.i+1:=rfl;unfold compareR;split
 ·exact ⟨_,rfl⟩
 split
 ·rename_i ht;have ht:=opR_lt _ ht;obtain ⟨m,hm⟩:=hr 5 (advR s) (by omega) (by omega) (by omega);rw [hm];exact ⟨_,rfl⟩
 split
 ·exact ⟨_,rfl⟩
 ·have:=inc_advP (isR T s [78,79,84]) s;exact en_words hr hi long f a _ _ (by omega) (by omega)
theorem en_rowLoop {T:List Lx.Tok} {rec:RecR} {N:Nat} (hr:EnR T rec N) (hi:IncOk rec) (k:Nat) (hk:k<=10):∀ (f:Nat) (n:Tr) (s:PSt),T.length - s.i<f->16 * (T.length - s.i)<=N->∃ m,rowLoopR rec T k f n s=some m
 |0,_,_,h,_=>by omega
 |f+1,n,s,hf,hN=>by
  have ha:(advR s).i=s.i+1:=rfl;unfold rowLoopR;split
  ·exact ⟨_,rfl⟩
  ·rename_i ho;have ht:=opR_lt (T:=T) (s:=s) (binsL k) (fun e=>ho (.inr e));obtain ⟨m,hm⟩:=hr (k+1) (advR s) (by omega) (by omega) (by omega);have h1:=hi _ _ m.1 m.2 hm;rw [hm];exact en_rowLoop hr hi k hk f _ _ (by omega) (by omega)
theorem en_collLoop (T:List Lx.Tok) (long:Nat):∀ (f:Nat) (n:Tr) (s:PSt),T.length - s.i<f->∃ m,collLoopR T long f n s=some m
 |0,_,_,h=>by omega
 |f+1,n,s,hf=>by
  unfold collLoopR;split
  ·rename_i ht;have ht:=takeB_lt ht;have h2:=inc_name T long (advR s);have ha:(advR s).i=s.i+1:=rfl;exact en_collLoop T long f _ _ (by omega)
  ·exact ⟨_,rfl⟩
theorem en_un {T:List Lx.Tok} {rec:RecR} {N:Nat} (hr:EnR T rec N) (long k:Nat) (x:List UInt8) (o:Int) (s:PSt) (hk0:1<=k) (hk:k<=10) (hN:16 * (T.length - s.i)+13 - k<=N):∃ m,unR rec T long k x o s=some m:=by
 have h2:(advR (inS T long s)).i=s.i+1:=by show (inS T long s).i+1=_;rw [inc_in]
 unfold unR;split
 ·rename_i ht;have ht:=isR_lt ht;split
  ·obtain ⟨m,hm⟩:=hr k (advR (inS T long s)) (by omega) (by omega) (by omega);rw [hm];exact ⟨_,rfl⟩
  ·exact ⟨_,rfl⟩
 ·exact hr (k+1) s (by omega) (by omega) (by omega)
theorem en_expr (T:List Lx.Tok) (long:Nat):∀ f,EnR T (rExpr T long f) f
 |0=>fun k s h0 hk h=>by omega
 |f+1=>fun k s h0 hk h=>by
  have ih:=en_expr T long f;have hi:=inc_expr T long f;rw [rExpr];split
  ·exact ⟨_,rfl⟩
  split
  ·subst k;exact en_un ih long _ _ _ s (by omega) (by omega) (by omega)
  split
  ·subst k;obtain ⟨m,hm⟩:=ih 5 s (by omega) (by omega) (by omega);have h1:=hi _ _ m.1 m.2 hm;rw [hm];exact en_compare ih hi long f m.1 m.2 (by omega) (by omega)
  split
  ·subst k;exact en_un ih long _ _ _ s (by omega) (by omega) (by omega)
  split
  ·subst k;obtain ⟨m,hm⟩:=en_first ih long s (by omega);have h1:=inc_first hi T long s m.1 m.2 hm;rw [hm];exact en_collLoop T long f m.1 m.2 (by omega)
  ·obtain ⟨m,hm⟩:=ih (k+1) s (by omega) (by omega) (by omega);have h1:=hi _ _ m.1 m.2 hm;rw [hm];exact en_rowLoop ih hi k (by omega) f m.1 m.2 (by omega) (by omega)
def Shape (k o:Int) (s t:List UInt8) (n:Int) (m:Nat):Prop :=
 (k=0/\o=0/\s=[]/\t=[]/\n=0/\m=0) ∨ (k=1/\o=0/\s=[]/\t=[]/\(n=0 ∨ n=1)/\m=0) ∨ (k=2/\o=0/\s=[]/\t=[]/\m=0) ∨ (k=3/\o=0/\t=[]/\n=0/\m=0) ∨
 (k=4/\o=0/\n=0/\m=0) ∨ (k=5/\(o=20 ∨ o=21)/\s=[]/\t=[]/\n=0/\m=1) ∨ (k=6/\(1<=o/\o<=19 ∨ o=22)/\s=[]/\t=[]/\n=0/\m=2) ∨ (k=7/\o=0/\s=[]/\t=[]/\(n=0 ∨ n=1)/\m=1) ∨
 (k=8/\o=0/\s=[]/\t=[]/\(n=0 ∨ n=1)/\(m=2 ∨ m=3)) ∨ (k=9/\o=0/\s=[]/\t=[]/\(n=0 ∨ n=1)/\2<=m) ∨ (k=10/\o=0/\s=[]/\t=[]/\(n=0 ∨ n=1)/\m=3) ∨ (k=11/\o=0/\t=[]/\n=0/\m=1) ∨
 (k=12/\o=0/\s=[]/\t=[]/\1<=n/\n<=3/\m=1) ∨ (k=13/\o=0/\aggB s=false/\t=[]/\n=0/\m=1) ∨ (k=14/\o=0/\aggB s=true/\t=[]/\n=0/\m<=1)
inductive Wf:Tr->Prop
 |mk (k o:Int) (s t:List UInt8) (n:Int) (l:List Tr) (h:Shape k o s t n l.length) (hl:∀ y,y∈l->Wf y):Wf (.mk k o s t n l)
theorem wf_leaf {k o:Int} {s t:List UInt8} {n:Int} (h:Shape k o s t n 0):Wf (.mk k o s t n []):= .mk k o s t n [] h (fun y hy=>by cases hy)
theorem wf_one {k o:Int} {s t:List UInt8} {n:Int} {a:Tr} (h:Shape k o s t n 1) (ha:Wf a):Wf (.mk k o s t n [a]):= .mk k o s t n [a] h (fun y hy=>by simp at hy;subst hy;exact ha)
theorem wf_two {k o:Int} {s t:List UInt8} {n:Int} {a b:Tr} (h:Shape k o s t n 2) (ha:Wf a) (hb:Wf b):Wf (.mk k o s t n [a,b]):= .mk k o s t n [a,b] h (fun y hy=>by simp at hy;rcases hy with rfl|rfl<;>assumption)
theorem wf_three {k o:Int} {s t:List UInt8} {n:Int} {a b c:Tr} (h:Shape k o s t n 3) (ha:Wf a) (hb:Wf b) (hc:Wf c):Wf (.mk k o s t n [a,b,c]):= .mk k o s t n [a,b,c] h (fun y hy=>by simp at hy;rcases hy with rfl|rfl|rfl<;>assumption)
theorem err_wrong (T:List Lx.Tok) (long:Nat) (e:Int) (s:PSt) (h:(wrongP T long e s).e=0):s.e=0:=by
 unfold wrongP at h;split at h
 ·assumption
 ·exact h
theorem err_wrong10 (T:List Lx.Tok) (long:Nat) (s:PSt) (e:Int) (he:e≠0):(wrongP T long e s).e≠0:=by
 unfold wrongP;split
 ·exact he
 ·assumption
theorem err_want (T:List Lx.Tok) (long:Nat) (s:PSt) (x:List UInt8) (h:(wantR T long s x).e=0):s.e=0/\takeB T s x=true:=by
 unfold wantR at h;split at h
 ·rename_i ht;exact ⟨h,ht⟩
 ·exact absurd h (err_wrong10 T long s 10 (by decide))
theorem err_name (T:List Lx.Tok) (long:Nat) (s:PSt) (h:(nameS T long s).e=0):s.e=0/\nameB T s=true:=by
 unfold nameS at h;split at h
 ·rename_i ht;exact ⟨h,ht⟩
 ·exact absurd h (err_wrong10 T long s 10 (by decide))
theorem err_in (T:List Lx.Tok) (long:Nat) (s:PSt) (h:(inS T long s).e=0):s.e=0/\inB s=true:=by
 unfold inS at h;split at h
 ·rename_i ht;exact ⟨h,ht⟩
 ·exact absurd h (err_wrong10 T long s 21 (by decide))
theorem err_advP {b:Bool} {s:PSt} (h:(advP b s).e=0):s.e=0:=by unfold advP at h;split at h<;>exact h
theorem err_typ (T:List Lx.Tok) (long:Nat) (s:PSt):∀ (L:List (List UInt8)) (j:Nat),(typR T long s j L).2.e=0->s.e=0/\(j:Int)+1<=(typR T long s j L).1/\(typR T long s j L).1<=(j:Int)+L.length
 | [],j,h=>absurd h (err_wrong10 T long s 10 (by decide))
 |x::L,j,h=>by
  unfold typR at h |-;split at h
  ·rename_i ht;rw [if_pos ht];exact ⟨h,by show (j:Int)+1<=((j+1:Nat):Int);omega,by show ((j+1:Nat):Int)<=_;simp only [List.length_cons];omega⟩
  ·rename_i ht;rw [if_neg ht];have:=err_typ T long s L (j+1) h;refine ⟨this.1,?_,?_⟩
   ·have:=this.2.1;omega
   ·have:=this.2.2;simp only [List.length_cons];omega
def WfOk (rec:RecR):Prop:=∀ (k:Nat) (s:PSt) (r:Tr) (s':PSt),rec k s=some (r,s')->s'.e=0->s.e=0/\Wf r
theorem binsL_ops:∀ (k:Nat),∀ b∈binsL k,1<=b.2.2/\b.2.2<=19 ∨ b.2.2=22
 |0=>by decide
 |1=>by decide
 |2=>by decide
 |3=>by decide
 |4=>by decide
 |5=>by decide
 |6=>by decide
 |7=>by decide
 |8=>by decide
 |9=>by decide
 |k+10=>by intro b hb;cases hb
theorem opR_mem {T:List Lx.Tok} {s:PSt}:∀ (L:List (Int × List UInt8 × Int)),opR T s L≠0->∃ b∈L,opR T s L=b.2.2
 | [],h=>absurd rfl h
 |b::L,h=>by
  unfold opR at h |-;split at h
  ·rename_i hb;rw [if_pos hb];exact ⟨b,by simp,rfl⟩
  ·rename_i hb;rw [if_neg hb];obtain ⟨c,hc,he⟩:=opR_mem L h;exact ⟨c,by simp [hc],he⟩
theorem opR_ops {T:List Lx.Tok} {s:PSt} (k:Nat) (h:opR T s (binsL k)≠0):1<=opR T s (binsL k)/\opR T s (binsL k)<=19 ∨ opR T s (binsL k)=22:=by
 obtain ⟨b,hb,he⟩:=opR_mem _ h;rw [he];exact binsL_ops k b hb
theorem shape_call (x:List UInt8):Shape (callK x) 0 x [] 0 1:=by
 unfold Shape callK;cases h:aggB x<;>simp
theorem wf_named {T:List Lx.Tok} {rec:RecR} (hr:WfOk rec) (long:Nat) (s:PSt) (r:Tr) (s':PSt) (h:namedR rec T long s=some (r,s')) (he:s'.e=0):s.e=0/\Wf r:=by
 unfold namedR at h;simp only at h;split at h
 ·obtain ⟨rfl,rfl⟩:=Prod.mk.inj (Option.some.inj h);exact ⟨(err_name T long s (err_name T long _ he).1).1,wf_leaf (by unfold Shape;simp)⟩
 split at h
 ·split at h
  ·rename_i hin;split at h
   ·rename_i hc;obtain ⟨rfl,rfl⟩:=Prod.mk.inj (Option.some.inj h);have h1:=(err_want T long _ [41] he).1;have h2:=(err_in T long _ h1).1;refine ⟨(err_name T long s h2).1,wf_leaf ?_⟩;rw [Bool.and_eq_true,beq_iff_eq] at hc;rw [hc.1];unfold Shape callK aggB;simp
   ·obtain ⟨m,hm,hq⟩:=Option.map_eq_some_iff.1 h;obtain ⟨rfl,rfl⟩:=Prod.mk.inj hq;have h1:=(err_want T long _ [41] he).1;have h2:=hr _ _ m.1 m.2 hm h1;have h3:=(err_in T long _ h2.1).1;exact ⟨(err_name T long s h3).1,wf_one (shape_call _) h2.2⟩
  ·obtain ⟨rfl,rfl⟩:=Prod.mk.inj (Option.some.inj h);exact ⟨(err_name T long s (err_in T long _ he).1).1,wf_leaf (by unfold Shape;simp)⟩
 ·obtain ⟨rfl,rfl⟩:=Prod.mk.inj (Option.some.inj h);exact ⟨(err_name T long s he).1,wf_leaf (by unfold Shape;simp)⟩
theorem wf_listLoop {T:List Lx.Tok} {rec:RecR} (hr:WfOk rec):∀ (f:Nat) (out:List Tr) (s:PSt) (r:List Tr) (s':PSt),listLoopR rec T f out s=some (r,s')->s'.e=0->(∀ y,y∈out->Wf y)->s.e=0/\(∀ y,y∈r->Wf y)/\out.length<r.length
 |0,_,_,_,_,h,_,_=>by cases h
 |f+1,out,s,r,s',h,he,ho=>by
  unfold listLoopR at h;split at h
  ·rename_i hs;obtain ⟨m,hm,hq⟩:=Option.bind_eq_some_iff.1 h;split at hq
   ·have hout:∀ y,y∈out++[m.1]->(m.2.e=0->Wf y):=fun y hy hm2=>by
     simp at hy;rcases hy with hy|rfl
     ·exact ho y hy
     ·exact (hr _ _ m.1 m.2 hm hm2).2
    rename_i ht;have hm2:m.2.e=0:=by unfold takeB at ht;rw [Bool.and_eq_true,beq_iff_eq] at ht;exact ht.1
    have ih:=wf_listLoop hr f _ _ _ _ hq he (fun y hy=>hout y hy hm2);exact ⟨hs,ih.2.1,by have:=ih.2.2;simp only [List.length_append,List.length_cons,List.length_nil] at this;omega⟩
   ·obtain ⟨rfl,rfl⟩:=Prod.mk.inj (Option.some.inj hq);refine ⟨hs,fun y hy=>?_,by simp⟩;simp at hy;rcases hy with hy|rfl
    ·exact ho y hy
    ·exact (hr _ _ m.1 m.2 hm he).2
  ·rename_i hs;obtain ⟨rfl,rfl⟩:=Prod.mk.inj (Option.some.inj h);exact absurd he hs
theorem wf_list {T:List Lx.Tok} {rec:RecR} (hr:WfOk rec) (long f:Nat) (s:PSt) (r:List Tr) (s':PSt) (h:listR rec T long f s=some (r,s')) (he:s'.e=0):s.e=0/\(∀ y,y∈r->Wf y)/\1<=r.length:=by
 unfold listR at h;split at h
 ·split at h
  ·obtain ⟨m,hm,hq⟩:=Option.map_eq_some_iff.1 h;obtain ⟨rfl,rfl⟩:=Prod.mk.inj hq;have h1:=(err_want T long _ [41] he).1;have h2:=wf_listLoop hr f [] _ m.1 m.2 hm h1 (fun y hy=>by cases hy);exact ⟨(err_in T long _ h2.1).1,h2.2.1,h2.2.2⟩
  ·rename_i hn;obtain ⟨rfl,rfl⟩:=Prod.mk.inj (Option.some.inj h);exact absurd (err_in T long _ he).2 hn
 ·obtain ⟨rfl,rfl⟩:=Prod.mk.inj (Option.some.inj h);exact absurd he (err_wrong10 T long s 10 (by decide))
theorem wf_group {T:List Lx.Tok} {rec:RecR} (hr:WfOk rec) (long:Nat) (s:PSt) (r:Tr) (s':PSt) (h:groupR rec T long s=some (r,s')) (he:s'.e=0):s.e=0/\Wf r:=by
 unfold groupR at h;split at h
 ·split at h
  ·obtain ⟨m,hm,hq⟩:=Option.map_eq_some_iff.1 h;obtain ⟨rfl,rfl⟩:=Prod.mk.inj hq;have h1:=(err_want T long _ [41] he).1;have h2:=hr _ _ m.1 m.2 hm h1;exact ⟨(err_in T long _ h2.1).1,h2.2⟩
  ·rename_i hn;obtain ⟨rfl,rfl⟩:=Prod.mk.inj (Option.some.inj h);exact absurd (err_in T long _ he).2 hn
 split at h
 ·split at h
  ·obtain ⟨m,hm,hq⟩:=Option.map_eq_some_iff.1 h;obtain ⟨rfl,rfl⟩:=Prod.mk.inj hq;have h1:=(err_want T long _ [41] he).1;have h2:=err_typ T long _ typL 0 h1;have h3:=(err_want T long _ [65,83] h2.1).1;have h4:=hr _ _ m.1 m.2 hm h3;have h5:=(err_want T long _ [40] h4.1).1;refine ⟨(err_in T long _ h5).1,wf_one ?_ h4.2⟩;have h6:=h2.2.1;have h7:=h2.2.2;have h8:(typL.length:Int)=3:=rfl;rw [h8] at h7;unfold Shape;simp;omega
  ·rename_i hn;obtain ⟨rfl,rfl⟩:=Prod.mk.inj (Option.some.inj h);exact absurd (err_in T long _ he).2 hn
 ·obtain ⟨rfl,rfl⟩:=Prod.mk.inj (Option.some.inj h);exact absurd he (err_wrong10 T long s 10 (by decide))
theorem wf_plain {T:List Lx.Tok} {rec:RecR} (hr:WfOk rec) (long:Nat) (s:PSt) (r:Tr) (s':PSt) (h:plainR rec T long s=some (r,s')) (he:s'.e=0):s.e=0/\Wf r:=by
 unfold plainR at h;split at h
 ·obtain ⟨rfl,rfl⟩:=Prod.mk.inj (Option.some.inj h);exact ⟨he,wf_leaf (by unfold Shape;simp)⟩
 split at h
 ·obtain ⟨rfl,rfl⟩:=Prod.mk.inj (Option.some.inj h);exact ⟨he,wf_leaf (by unfold Shape;simp)⟩
 split at h
 ·obtain ⟨rfl,rfl⟩:=Prod.mk.inj (Option.some.inj h);exact ⟨he,wf_leaf (by unfold Shape;simp)⟩
 ·exact wf_group hr long s r s' h he
theorem wf_first {T:List Lx.Tok} {rec:RecR} (hr:WfOk rec) (long:Nat) (s:PSt) (r:Tr) (s':PSt) (h:firstR rec T long s=some (r,s')) (he:s'.e=0):s.e=0/\Wf r:=by
 unfold firstR at h;split at h
 ·rename_i hs;obtain ⟨rfl,rfl⟩:=Prod.mk.inj (Option.some.inj h);exact absurd he hs
 split at h
 ·obtain ⟨rfl,rfl⟩:=Prod.mk.inj (Option.some.inj h);exact ⟨he,wf_leaf (by unfold Shape;simp)⟩
 split at h
 ·obtain ⟨rfl,rfl⟩:=Prod.mk.inj (Option.some.inj h);exact ⟨he,wf_leaf (by unfold Shape;simp)⟩
 split at h
 ·exact wf_named hr long s r s' h he
 ·exact wf_plain hr long s r s' h he
theorem wf_words {T:List Lx.Tok} {rec:RecR} (hr:WfOk rec) (long f:Nat) (a:Tr) (nt:Bool) (s:PSt) (r:Tr) (s':PSt) (h:wordsR rec T long f a nt s=some (r,s')) (he:s'.e=0) (ha:s.e=0->Wf a):s.e=0/\Wf r:=by
 have hb:(if nt then (1:Int) else 0)=0 ∨ (if nt then (1:Int) else 0)=1:=by cases nt<;>simp
 unfold wordsR at h;split at h
 ·obtain ⟨m,hm,hq⟩:=Option.bind_eq_some_iff.1 h;split at hq
  ·obtain ⟨q,hq2,hq3⟩:=Option.map_eq_some_iff.1 hq;obtain ⟨rfl,rfl⟩:=Prod.mk.inj hq3;have h1:=hr _ _ q.1 q.2 hq2 he;have h2:=hr _ _ m.1 m.2 hm h1.1;refine ⟨h2.1,wf_three ?_ (ha h2.1) h2.2 h1.2⟩;generalize (if nt then (1:Int) else 0)=z at hb;unfold Shape;simp;omega
  ·obtain ⟨rfl,rfl⟩:=Prod.mk.inj (Option.some.inj hq);have h2:=hr _ _ m.1 m.2 hm he;refine ⟨h2.1,wf_two ?_ (ha h2.1) h2.2⟩;generalize (if nt then (1:Int) else 0)=z at hb;unfold Shape;simp;omega
 split at h
 ·obtain ⟨m,hm,hq⟩:=Option.bind_eq_some_iff.1 h;obtain ⟨q,hq2,hq3⟩:=Option.map_eq_some_iff.1 hq;obtain ⟨rfl,rfl⟩:=Prod.mk.inj hq3;have h1:=hr _ _ q.1 q.2 hq2 he;have h3:=(err_want T long _ _ h1.1).1;have h2:=hr _ _ m.1 m.2 hm h3;refine ⟨h2.1,wf_three ?_ (ha h2.1) h2.2 h1.2⟩;generalize (if nt then (1:Int) else 0)=z at hb;unfold Shape;simp;omega
 split at h
 ·obtain ⟨m,hm,hq⟩:=Option.map_eq_some_iff.1 h;obtain ⟨rfl,rfl⟩:=Prod.mk.inj hq;have h1:=wf_list hr long f _ m.1 m.2 hm he;refine ⟨h1.1,.mk _ _ _ _ _ _ ?_ fun y hy=>?_⟩
  ·have h2:=h1.2.2;generalize (if nt then (1:Int) else 0)=z at hb;unfold Shape;simp;omega
  ·simp at hy;rcases hy with rfl|hy
   ·exact ha h1.1
   ·exact h1.2.1 y hy
 split at h
 ·obtain ⟨rfl,rfl⟩:=Prod.mk.inj (Option.some.inj h);exact absurd he (err_wrong10 T long s 10 (by decide))
 ·obtain ⟨rfl,rfl⟩:=Prod.mk.inj (Option.some.inj h);exact ⟨he,ha he⟩
theorem wf_compare {T:List Lx.Tok} {rec:RecR} (hr:WfOk rec) (long f:Nat) (a:Tr) (s:PSt) (r:Tr) (s':PSt) (h:compareR rec T long f a s=some (r,s')) (he:s'.e=0) (ha:s.e=0->Wf a):s.e=0/\Wf r:=by
 unfold compareR at h;split at h
 ·obtain ⟨rfl,rfl⟩:=Prod.mk.inj (Option.some.inj h);exact ⟨he,ha he⟩
 split at h
 ·rename_i ho;obtain ⟨m,hm,hq⟩:=Option.map_eq_some_iff.1 h;obtain ⟨rfl,rfl⟩:=Prod.mk.inj hq;have h1:=hr _ _ m.1 m.2 hm he;refine ⟨h1.1,wf_two ?_ (ha h1.1) h1.2⟩;have:=opR_ops 4 ho;generalize opR T s (binsL 4)=o at this;unfold Shape;simp;omega
 split at h
 ·obtain ⟨rfl,rfl⟩:=Prod.mk.inj (Option.some.inj h);have h1:=err_advP (err_want T long _ _ he).1;refine ⟨h1,wf_one ?_ (ha h1)⟩;have hb:(if takeB T (advR s) [78,79,84] then (1:Int) else 0)=0 ∨ (if takeB T (advR s) [78,79,84] then (1:Int) else 0)=1:=by cases takeB T (advR s) [78,79,84]<;>simp
  generalize (if takeB T (advR s) [78,79,84] then (1:Int) else 0)=z at hb;unfold Shape;simp;omega
 ·have h1:=wf_words hr long f a _ _ r s' h he (fun h=>ha (err_advP h));exact ⟨err_advP h1.1,h1.2⟩
theorem wf_rowLoop {T:List Lx.Tok} {rec:RecR} (hr:WfOk rec) (k:Nat):∀ (f:Nat) (n:Tr) (s:PSt) (r:Tr) (s':PSt),rowLoopR rec T k f n s=some (r,s')->s'.e=0->(s.e=0->Wf n)->s.e=0/\Wf r
 |0,_,_,_,_,h,_,_=>by cases h
 |f+1,n,s,r,s',h,he,hn=>by
  unfold rowLoopR at h;split at h
  ·obtain ⟨rfl,rfl⟩:=Prod.mk.inj (Option.some.inj h);exact ⟨he,hn he⟩
  ·rename_i ho;have hs:s.e=0:=Decidable.byContradiction fun e=>ho (.inl e);have ho:opR T s (binsL k)≠0:=fun e=>ho (.inr e);obtain ⟨m,hm,hq⟩:=Option.bind_eq_some_iff.1 h;have ih:=wf_rowLoop hr k f _ _ _ _ hq he (fun hm2=>by
    refine wf_two ?_ (hn hs) (hr _ _ m.1 m.2 hm hm2).2;have:=opR_ops k ho;generalize opR T s (binsL k)=o at this;unfold Shape;simp;omega)
   exact ⟨hs,ih.2⟩
theorem wf_collLoop (T:List Lx.Tok) (long:Nat):∀ (f:Nat) (n:Tr) (s:PSt) (r:Tr) (s':PSt),collLoopR T long f n s=some (r,s')->s'.e=0->(s.e=0->Wf n)->s.e=0/\Wf r
 |0,_,_,_,_,h,_,_=>by cases h
 |f+1,n,s,r,s',h,he,hn=>by
  unfold collLoopR at h;split at h
  ·rename_i ht;have hs:s.e=0:=by unfold takeB at ht;rw [Bool.and_eq_true,beq_iff_eq] at ht;exact ht.1
   have ih:=wf_collLoop T long f _ _ _ _ h he (fun _=>wf_one (by unfold Shape;simp) (hn hs));exact ⟨hs,ih.2⟩
  ·obtain ⟨rfl,rfl⟩:=Prod.mk.inj (Option.some.inj h);exact ⟨he,hn he⟩
theorem wf_un {T:List Lx.Tok} {rec:RecR} (hr:WfOk rec) (long k:Nat) (x:List UInt8) (o:Int) (ho:o=20 ∨ o=21) (s:PSt) (r:Tr) (s':PSt) (h:unR rec T long k x o s=some (r,s')) (he:s'.e=0):s.e=0/\Wf r:=by
 unfold unR at h;split at h
 ·split at h
  ·obtain ⟨m,hm,hq⟩:=Option.map_eq_some_iff.1 h;obtain ⟨rfl,rfl⟩:=Prod.mk.inj hq;have h1:=hr _ _ m.1 m.2 hm he;exact ⟨(err_in T long s h1.1).1,wf_one (by unfold Shape;simp;omega) h1.2⟩
  ·rename_i hn;obtain ⟨rfl,rfl⟩:=Prod.mk.inj (Option.some.inj h);exact absurd (err_in T long _ he).2 hn
 ·exact hr _ _ _ _ h he
theorem wf_expr (T:List Lx.Tok) (long:Nat):∀ f,WfOk (rExpr T long f)
 |0=>fun k s r s' h=>by cases h
 |f+1=>fun k s r s' h he=>by
  have ih:=wf_expr T long f;rw [rExpr] at h;split at h
  ·rename_i hs;obtain ⟨rfl,rfl⟩:=Prod.mk.inj (Option.some.inj h);exact absurd he hs
  split at h
  ·exact wf_un ih long _ _ _ (by decide) _ _ _ h he
  split at h
  ·obtain ⟨m,hm,hq⟩:=Option.bind_eq_some_iff.1 h;have h1:=wf_compare ih long f _ _ _ _ hq he (fun h=>(ih _ _ m.1 m.2 hm h).2);exact ⟨(ih _ _ m.1 m.2 hm h1.1).1,h1.2⟩
  split at h
  ·exact wf_un ih long _ _ _ (by decide) _ _ _ h he
  split at h
  ·obtain ⟨m,hm,hq⟩:=Option.bind_eq_some_iff.1 h;have h1:=wf_collLoop T long f _ _ _ _ hq he (fun h=>(wf_first ih long _ m.1 m.2 hm h).2);exact ⟨(wf_first ih long _ m.1 m.2 hm h1.1).1,h1.2⟩
  ·obtain ⟨m,hm,hq⟩:=Option.bind_eq_some_iff.1 h;have h1:=wf_rowLoop ih k f _ _ _ _ hq he (fun h=>(ih _ _ m.1 m.2 hm h).2);exact ⟨(ih _ _ m.1 m.2 hm h1.1).1,h1.2⟩
end Go.Proofs.YtimeipjcmffadaaGreatDoor
