import Derived.Test.YtimeipjcmffadaaGreatDoorRpC
namespace Go.Proofs.YtimeipjcmffadaaGreatDoor
open Go.RowKit Go.Lib
set_option maxRecDepth 100000
abbrev RecR:=Nat->PSt->Option (Tr × PSt)
def advR (s:PSt):PSt:={ s with i:=s.i+1 }
def decR (s:PSt):PSt:={ s with deep:=s.deep - 1 }
def tokN (T:List Lx.Tok) (s:PSt):Int:=match T[s.i]? with|some t=>(t.n:Int)|none=>0
def namedR (rec:RecR) (T:List Lx.Tok) (long:Nat) (s:PSt):Option (Tr × PSt) :=
 let x:=nameT T s
 let s1:=nameS T long s
 if takeB T s1 [46] then some (.mk 4 0 (nameT T (advR s1)) x 0 [],nameS T long (advR s1))
 else if isR T s1 [40] then
  if inB { s1 with i:=s1.i - 1 } then
   let s3:PSt:={ inS T long { s1 with i:=s1.i - 1 } with i:=s1.i+1 }
   if (x == [99,111,117,110,116]) && takeB T s3 [42] then some (.mk (callK x) 0 x [] 0 [],decR (wantR T long (advR s3) [41]))
   else (rec 1 s3).map fun m=>(.mk (callK x) 0 x [] 0 [m.1],decR (wantR T long m.2 [41]))
  else some (zTr,inS T long { s1 with i:=s1.i - 1 })
 else some (.mk 4 0 x [] 0 [],s1)
def listLoopR (rec:RecR) (T:List Lx.Tok):Nat->List Tr->PSt->Option (List Tr × PSt)
 |0,_,_=>none
 |f+1,out,s=>if s.e=0 then (rec 1 s).bind fun m=>if takeB T m.2 [44] then listLoopR rec T f (out++[m.1]) (advR m.2) else some (out++[m.1],m.2) else some (out,s)
def listR (rec:RecR) (T:List Lx.Tok) (long f:Nat) (s:PSt):Option (List Tr × PSt) :=
 if takeB T s [40] then
  if inB s then (listLoopR rec T f [] (advR (inS T long s))).map fun m=>(m.1,decR (wantR T long m.2 [41]))
  else some ([],inS T long s)
 else some ([],wrongP T long 10 s)
def groupR (rec:RecR) (T:List Lx.Tok) (long:Nat) (s:PSt):Option (Tr × PSt) :=
 if isR T s [40] then
  if inB s then (rec 1 (advR (inS T long s))).map fun m=>(m.1,decR (wantR T long m.2 [41]))
  else some (zTr,inS T long s)
 else if isR T s [67,65,83,84] then
  if inB s then (rec 1 (wantR T long (advR (inS T long s)) [40])).map fun m =>
   (.mk 12 0 [] [] (typR T long (wantR T long m.2 [65,83]) 0 typL).1 [m.1],decR (wantR T long (typR T long (wantR T long m.2 [65,83]) 0 typL).2 [41]))
  else some (zTr,inS T long s)
 else some (zTr,wrongP T long 10 s)
def plainR (rec:RecR) (T:List Lx.Tok) (long:Nat) (s:PSt):Option (Tr × PSt) :=
 if takeB T s [78,85,76,76] then some (zTr,advR s)
 else if takeB T s [84,82,85,69] then some (.mk 1 0 [] [] 1 [],advR s)
 else if takeB T s [70,65,76,83,69] then some (.mk 1 0 [] [] 0 [],advR s)
 else groupR rec T long s
def firstR (rec:RecR) (T:List Lx.Tok) (long:Nat) (s:PSt):Option (Tr × PSt) :=
 if s.e≠0 then some (zTr,s)
 else if kindR T s=3 then some (.mk 2 0 [] [] (tokN T s) [],advR s)
 else if kindR T s=4 then some (.mk 3 0 (textP T s) [] 0 [],advR s)
 else if kindR T s=1 then namedR rec T long s
 else plainR rec T long s
def wordsR (rec:RecR) (T:List Lx.Tok) (long f:Nat) (a:Tr) (nt:Bool) (s:PSt):Option (Tr × PSt) :=
 if takeB T s [76,73,75,69] then (rec 5 (advR s)).bind fun m =>
  if takeB T m.2 [69,83,67,65,80,69] then (rec 5 (advR m.2)).map fun q=>(.mk 8 0 [] [] (if nt then 1 else 0) [a,m.1,q.1],q.2)
  else some (.mk 8 0 [] [] (if nt then 1 else 0) [a,m.1],m.2)
 else if takeB T s [66,69,84,87,69,69,78] then (rec 5 (advR s)).bind fun m=>(rec 5 (wantR T long m.2 [65,78,68])).map fun q=>(.mk 10 0 [] [] (if nt then 1 else 0) [a,m.1,q.1],q.2)
 else if isR T s [73,78] then (listR rec T long f (advR s)).map fun m=>(.mk 9 0 [] [] (if nt then 1 else 0) (a::m.1),m.2)
 else if nt then some (a,wrongP T long 10 s)
 else some (a,s)
def compareR (rec:RecR) (T:List Lx.Tok) (long f:Nat) (a:Tr) (s:PSt):Option (Tr × PSt) :=
 if s.e≠0 then some (a,s)
 else if opR T s (binsL 4)≠0 then (rec 5 (advR s)).map fun m=>(.mk 6 (opR T s (binsL 4)) [] [] 0 [a,m.1],m.2)
 else if takeB T s [73,83] then some (.mk 7 0 [] [] (if takeB T (advR s) [78,79,84] then 1 else 0) [a],wantR T long (advP (takeB T (advR s) [78,79,84]) (advR s)) [78,85,76,76])
 else wordsR rec T long f a (isR T s [78,79,84]) (advP (isR T s [78,79,84]) s)
def rowLoopR (rec:RecR) (T:List Lx.Tok) (k:Nat):Nat->Tr->PSt->Option (Tr × PSt)
 |0,_,_=>none
 |f+1,n,s=>if s.e≠0 ∨ opR T s (binsL k)=0 then some (n,s) else (rec (k+1) (advR s)).bind fun m=>rowLoopR rec T k f (.mk 6 (opR T s (binsL k)) [] [] 0 [n,m.1]) m.2
def collLoopR (T:List Lx.Tok) (long:Nat):Nat->Tr->PSt->Option (Tr × PSt)
 |0,_,_=>none
 |f+1,n,s=>if takeB T s [67,79,76,76,65,84,69] then collLoopR T long f (.mk 11 0 (nameT T (advR s)) [] 0 [n]) (nameS T long (advR s)) else some (n,s)
def unR (rec:RecR) (T:List Lx.Tok) (long k:Nat) (x:List UInt8) (o:Int) (s:PSt):Option (Tr × PSt) :=
 if isR T s x then (if inB s then (rec k (advR (inS T long s))).map fun m=>(.mk 5 o [] [] 0 [m.1],decR m.2) else some (zTr,inS T long s)) else rec (k+1) s
def rExpr (T:List Lx.Tok) (long:Nat):Nat->RecR
 |0,_,_=>none
 |f+1,k,s =>
  if s.e≠0 then some (zTr,s)
  else if k=3 then unR (rExpr T long f) T long 3 [78,79,84] 21 s
  else if k=4 then (rExpr T long f 5 s).bind fun m=>compareR (rExpr T long f) T long f m.1 m.2
  else if k=10 then unR (rExpr T long f) T long 10 [45] 20 s
  else if k=11 then (firstR (rExpr T long f) T long s).bind fun m=>collLoopR T long f m.1 m.2
  else (rExpr T long f (k+1) s).bind fun m=>rowLoopR (rExpr T long f) T k f m.1 m.2
theorem deep_wrong (T:List Lx.Tok) (long:Nat) (e:Int) (s:PSt):(wrongP T long e s).deep=s.deep:=by unfold wrongP;split<;>rfl
theorem deep_want (T:List Lx.Tok) (long:Nat) (s:PSt) (x:List UInt8):(wantR T long s x).deep=s.deep:=by
 unfold wantR;split
 ·rfl
 ·exact deep_wrong ..
theorem deep_name (T:List Lx.Tok) (long:Nat) (s:PSt):(nameS T long s).deep=s.deep:=by
 unfold nameS;split
 ·rfl
 ·exact deep_wrong ..
theorem deep_in (T:List Lx.Tok) (long:Nat) (s:PSt) (h:inB s=true):(inS T long s).deep=s.deep+1:=by unfold inS;rw [if_pos h]
theorem deep_in0 (T:List Lx.Tok) (long:Nat) (s:PSt) (h:¬ inB s=true):(inS T long s).deep=s.deep:=by unfold inS;rw [if_neg h];exact deep_wrong ..
theorem deep_advP (b:Bool) (s:PSt):(advP b s).deep=s.deep:=by unfold advP;split<;>rfl
theorem deep_typ (T:List Lx.Tok) (long:Nat) (s:PSt):∀ (L:List (List UInt8)) (j:Nat),(typR T long s j L).2.deep=s.deep
 | [],_=>deep_wrong ..
 |x::L,j=>by
  unfold typR;split
  ·rfl
  ·exact deep_typ T long s L (j+1)
def DeepOk (rec:RecR):Prop:=∀ k s r s',rec k s=some (r,s')->s'.deep=s.deep
theorem deep_named {rec:RecR} (hr:DeepOk rec) (T:List Lx.Tok) (long:Nat) (s:PSt) (r:Tr) (s':PSt) (h:namedR rec T long s=some (r,s')):s'.deep=s.deep:=by
 unfold namedR at h;simp only at h;split at h
 ·obtain ⟨_,rfl⟩:=Prod.mk.inj (Option.some.inj h);rw [deep_name];exact deep_name T long s
 ·split at h
  ·split at h
   ·rename_i hi;have h1:=deep_in T long _ hi;have h2:=deep_name T long s;simp only at h1;split at h
    ·obtain ⟨_,rfl⟩:=Prod.mk.inj (Option.some.inj h);simp only [decR,deep_want,advR];omega
    ·obtain ⟨m,hm,hq⟩:=Option.map_eq_some_iff.1 h;obtain ⟨_,rfl⟩:=Prod.mk.inj hq;have:=hr _ _ _ _ (show rec 1 _=some (m.1,m.2) from hm);simp only [decR,deep_want];simp only at this;omega
   ·rename_i hi;obtain ⟨_,rfl⟩:=Prod.mk.inj (Option.some.inj h);rw [deep_in0 T long _ hi];exact deep_name T long s
  ·obtain ⟨_,rfl⟩:=Prod.mk.inj (Option.some.inj h);exact deep_name T long s
theorem deep_listLoop {rec:RecR} (hr:DeepOk rec) (T:List Lx.Tok):∀ (f:Nat) (out:List Tr) (s:PSt) (r:List Tr) (s':PSt),listLoopR rec T f out s=some (r,s')->s'.deep=s.deep
 |0,_,_,_,_,h=>by cases h
 |f+1,out,s,r,s',h=>by
  unfold listLoopR at h;split at h
  ·obtain ⟨m,hm,hq⟩:=Option.bind_eq_some_iff.1 h;have h1:=hr _ _ _ _ (show rec 1 s=some (m.1,m.2) from hm);split at hq
   ·exact (deep_listLoop hr T f _ _ _ _ hq).trans h1
   ·obtain ⟨_,rfl⟩:=Prod.mk.inj (Option.some.inj hq);exact h1
  ·obtain ⟨_,rfl⟩:=Prod.mk.inj (Option.some.inj h);rfl
theorem deep_list {rec:RecR} (hr:DeepOk rec) (T:List Lx.Tok) (long f:Nat) (s:PSt) (r:List Tr) (s':PSt) (h:listR rec T long f s=some (r,s')):s'.deep=s.deep:=by
 unfold listR at h;split at h
 ·split at h
  ·rename_i hi;obtain ⟨m,hm,hq⟩:=Option.map_eq_some_iff.1 h;obtain ⟨_,rfl⟩:=Prod.mk.inj hq;have h1:=deep_listLoop hr T f _ _ _ _ (show listLoopR rec T f [] _=some (m.1,m.2) from hm);simp only [advR,deep_in T long s hi] at h1;simp only [decR,deep_want,h1];omega
  ·rename_i hi;obtain ⟨_,rfl⟩:=Prod.mk.inj (Option.some.inj h);exact deep_in0 T long s hi
 ·obtain ⟨_,rfl⟩:=Prod.mk.inj (Option.some.inj h);exact deep_wrong ..
theorem deep_group {rec:RecR} (hr:DeepOk rec) (T:List Lx.Tok) (long:Nat) (s:PSt) (r:Tr) (s':PSt) (h:groupR rec T long s=some (r,s')):s'.deep=s.deep:=by
 unfold groupR at h;split at h
 ·split at h
  ·rename_i hi;obtain ⟨m,hm,hq⟩:=Option.map_eq_some_iff.1 h;obtain ⟨_,rfl⟩:=Prod.mk.inj hq;have h1:=hr _ _ m.1 m.2 hm;simp only [advR,deep_in T long s hi] at h1;simp only [decR,deep_want,h1];omega
  ·rename_i hi;obtain ⟨_,rfl⟩:=Prod.mk.inj (Option.some.inj h);exact deep_in0 T long s hi
 split at h
 ·split at h
  ·rename_i hi;obtain ⟨m,hm,hq⟩:=Option.map_eq_some_iff.1 h;obtain ⟨_,rfl⟩:=Prod.mk.inj hq;have h1:=hr _ _ m.1 m.2 hm;simp only [deep_want,advR,deep_in T long s hi] at h1;simp only [decR,deep_want,deep_typ,h1];omega
  ·rename_i hi;obtain ⟨_,rfl⟩:=Prod.mk.inj (Option.some.inj h);exact deep_in0 T long s hi
 ·obtain ⟨_,rfl⟩:=Prod.mk.inj (Option.some.inj h);exact deep_wrong ..
theorem deep_plain {rec:RecR} (hr:DeepOk rec) (T:List Lx.Tok) (long:Nat) (s:PSt) (r:Tr) (s':PSt) (h:plainR rec T long s=some (r,s')):s'.deep=s.deep:=by
 unfold plainR at h;split at h
 ·obtain ⟨_,rfl⟩:=Prod.mk.inj (Option.some.inj h);rfl
 split at h
 ·obtain ⟨_,rfl⟩:=Prod.mk.inj (Option.some.inj h);rfl
 split at h
 ·obtain ⟨_,rfl⟩:=Prod.mk.inj (Option.some.inj h);rfl
 ·exact deep_group hr T long s r s' h
theorem deep_first {rec:RecR} (hr:DeepOk rec) (T:List Lx.Tok) (long:Nat) (s:PSt) (r:Tr) (s':PSt) (h:firstR rec T long s=some (r,s')):s'.deep=s.deep:=by
 unfold firstR at h;split at h
 ·obtain ⟨_,rfl⟩:=Prod.mk.inj (Option.some.inj h);rfl
 split at h
 ·obtain ⟨_,rfl⟩:=Prod.mk.inj (Option.some.inj h);rfl
 split at h
 ·obtain ⟨_,rfl⟩:=Prod.mk.inj (Option.some.inj h);rfl
 split at h
 ·exact deep_named hr T long s r s' h
 ·exact deep_plain hr T long s r s' h
theorem deep_words {rec:RecR} (hr:DeepOk rec) (T:List Lx.Tok) (long f:Nat) (a:Tr) (nt:Bool) (s:PSt) (r:Tr) (s':PSt) (h:wordsR rec T long f a nt s=some (r,s')):s'.deep=s.deep:=by
 unfold wordsR at h;split at h
 ·obtain ⟨m,hm,hq⟩:=Option.bind_eq_some_iff.1 h;have h1:=hr _ _ m.1 m.2 hm;split at hq
  ·obtain ⟨q,hq2,hq3⟩:=Option.map_eq_some_iff.1 hq;obtain ⟨_,rfl⟩:=Prod.mk.inj hq3;exact (hr _ _ q.1 q.2 hq2).trans h1
  ·obtain ⟨_,rfl⟩:=Prod.mk.inj (Option.some.inj hq);exact h1
 split at h
 ·obtain ⟨m,hm,hq⟩:=Option.bind_eq_some_iff.1 h;have h1:=hr _ _ m.1 m.2 hm;obtain ⟨q,hq2,hq3⟩:=Option.map_eq_some_iff.1 hq;obtain ⟨_,rfl⟩:=Prod.mk.inj hq3;have h2:=hr _ _ q.1 q.2 hq2;rw [deep_want] at h2;exact h2.trans h1
 split at h
 ·obtain ⟨m,hm,hq⟩:=Option.map_eq_some_iff.1 h;obtain ⟨_,rfl⟩:=Prod.mk.inj hq;have h1:=deep_list hr T long f _ m.1 m.2 hm;exact h1
 split at h
 ·obtain ⟨_,rfl⟩:=Prod.mk.inj (Option.some.inj h);exact deep_wrong ..
 ·obtain ⟨_,rfl⟩:=Prod.mk.inj (Option.some.inj h);rfl
theorem deep_compare {rec:RecR} (hr:DeepOk rec) (T:List Lx.Tok) (long f:Nat) (a:Tr) (s:PSt) (r:Tr) (s':PSt) (h:compareR rec T long f a s=some (r,s')):s'.deep=s.deep:=by
 unfold compareR at h;split at h
 ·obtain ⟨_,rfl⟩:=Prod.mk.inj (Option.some.inj h);rfl
 split at h
 ·obtain ⟨m,hm,hq⟩:=Option.map_eq_some_iff.1 h;obtain ⟨_,rfl⟩:=Prod.mk.inj hq;have h1:=hr _ _ m.1 m.2 hm;exact h1
 split at h
 ·obtain ⟨_,rfl⟩:=Prod.mk.inj (Option.some.inj h);rw [deep_want,deep_advP];rfl
 ·exact (deep_words hr T long f a _ _ r s' h).trans (deep_advP ..)
theorem deep_rowLoop {rec:RecR} (hr:DeepOk rec) (T:List Lx.Tok) (k:Nat):∀ (f:Nat) (n:Tr) (s:PSt) (r:Tr) (s':PSt),rowLoopR rec T k f n s=some (r,s')->s'.deep=s.deep
 |0,_,_,_,_,h=>by cases h
 |f+1,n,s,r,s',h=>by
  unfold rowLoopR at h;split at h
  ·obtain ⟨_,rfl⟩:=Prod.mk.inj (Option.some.inj h);rfl
  ·obtain ⟨m,hm,hq⟩:=Option.bind_eq_some_iff.1 h;have h1:=hr _ _ m.1 m.2 hm;exact (deep_rowLoop hr T k f _ _ _ _ hq).trans h1
theorem deep_collLoop (T:List Lx.Tok) (long:Nat):∀ (f:Nat) (n:Tr) (s:PSt) (r:Tr) (s':PSt),collLoopR T long f n s=some (r,s')->s'.deep=s.deep
 |0,_,_,_,_,h=>by cases h
 |f+1,n,s,r,s',h=>by
  unfold collLoopR at h;split at h
  ·exact (deep_collLoop T long f _ _ _ _ h).trans (deep_name T long (advR s))
  ·obtain ⟨_,rfl⟩:=Prod.mk.inj (Option.some.inj h);rfl
theorem deep_un {rec:RecR} (hr:DeepOk rec) (T:List Lx.Tok) (long k:Nat) (x:List UInt8) (o:Int) (s:PSt) (r:Tr) (s':PSt) (h:unR rec T long k x o s=some (r,s')):s'.deep=s.deep:=by
 unfold unR at h;split at h
 ·split at h
  ·rename_i hi;obtain ⟨m,hm,hq⟩:=Option.map_eq_some_iff.1 h;obtain ⟨_,rfl⟩:=Prod.mk.inj hq;have h1:=hr _ _ _ _ (show rec k _=some (m.1,m.2) from hm);simp only [advR,deep_in T long s hi] at h1;simp only [decR,h1];omega
  ·rename_i hi;obtain ⟨_,rfl⟩:=Prod.mk.inj (Option.some.inj h);exact deep_in0 T long s hi
 ·exact hr _ _ _ _ h
theorem deep_expr (T:List Lx.Tok) (long:Nat):∀ f,DeepOk (rExpr T long f)
 |0=>fun k s r s' h=>by cases h
 |f+1=>fun k s r s' h=>by
  have ih:=deep_expr T long f;rw [rExpr] at h;split at h
  ·obtain ⟨_,rfl⟩:=Prod.mk.inj (Option.some.inj h);rfl
  split at h
  ·exact deep_un ih T long _ _ _ _ _ _ h
  split at h
  ·obtain ⟨m,hm,hq⟩:=Option.bind_eq_some_iff.1 h;exact (deep_compare ih T long f _ _ _ _ hq).trans (ih _ _ m.1 m.2 hm)
  split at h
  ·exact deep_un ih T long _ _ _ _ _ _ h
  split at h
  ·obtain ⟨m,hm,hq⟩:=Option.bind_eq_some_iff.1 h;exact (deep_collLoop T long f _ _ _ _ hq).trans (deep_first ih T long _ m.1 m.2 hm)
  ·obtain ⟨m,hm,hq⟩:=Option.bind_eq_some_iff.1 h;exact (deep_rowLoop ih T k f _ _ _ _ hq).trans (ih _ _ m.1 m.2 hm)
theorem inc_wrong (T:List Lx.Tok) (long:Nat) (e:Int) (s:PSt):(wrongP T long e s).i=s.i:=by unfold wrongP;split<;>rfl
theorem inc_want (T:List Lx.Tok) (long:Nat) (s:PSt) (x:List UInt8):s.i<=(wantR T long s x).i:=by
 unfold wantR;split
 ·exact Nat.le_succ _
 ·rw [inc_wrong];exact Nat.le_refl _
theorem inc_name (T:List Lx.Tok) (long:Nat) (s:PSt):s.i<=(nameS T long s).i:=by
 unfold nameS;split
 ·exact Nat.le_succ _
 ·rw [inc_wrong];exact Nat.le_refl _
theorem inc_in (T:List Lx.Tok) (long:Nat) (s:PSt):(inS T long s).i=s.i:=by
 unfold inS;split
 ·rfl
 ·exact inc_wrong ..
theorem inc_advP (b:Bool) (s:PSt):s.i<=(advP b s).i:=by
 unfold advP;split
 ·exact Nat.le_succ _
 ·exact Nat.le_refl _
theorem inc_typ (T:List Lx.Tok) (long:Nat) (s:PSt):∀ (L:List (List UInt8)) (j:Nat),s.i<=(typR T long s j L).2.i
 | [],_=>by unfold typR;simp only;rw [inc_wrong];exact Nat.le_refl _
 |x::L,j=>by
  unfold typR;split
  ·exact Nat.le_succ _
  ·exact inc_typ T long s L (j+1)
def IncOk (rec:RecR):Prop:=∀ k s r s',rec k s=some (r,s')->s.i<=s'.i
theorem inc_named {rec:RecR} (hr:IncOk rec) (T:List Lx.Tok) (long:Nat) (s:PSt) (hn:nameB T s=true) (r:Tr) (s':PSt) (h:namedR rec T long s=some (r,s')):s.i<=s'.i:=by
 have e1:nameS T long s=advR s:=by unfold nameS;rw [if_pos hn];rfl
 unfold namedR at h;rw [e1] at h;simp only at h;have ha:(advR s).i=s.i+1:=rfl;split at h
 ·obtain ⟨_,rfl⟩:=Prod.mk.inj (Option.some.inj h);have h2:=inc_name T long (advR (advR s));have h3:(advR (advR s)).i=s.i+1+1:=rfl;omega
 ·split at h
  ·split at h
   ·split at h
    ·obtain ⟨_,rfl⟩:=Prod.mk.inj (Option.some.inj h);exact Nat.le_trans (by simp only [advR];omega) (inc_want T long _ [41])
    ·obtain ⟨m,hm,hq⟩:=Option.map_eq_some_iff.1 h;obtain ⟨_,rfl⟩:=Prod.mk.inj hq;have h1:=hr _ _ m.1 m.2 hm;simp only at h1;exact Nat.le_trans (by omega) (inc_want T long m.2 [41])
   ·obtain ⟨_,rfl⟩:=Prod.mk.inj (Option.some.inj h);rw [inc_in];simp only [advR];omega
  ·obtain ⟨_,rfl⟩:=Prod.mk.inj (Option.some.inj h);omega
theorem inc_listLoop {rec:RecR} (hr:IncOk rec) (T:List Lx.Tok):∀ (f:Nat) (out:List Tr) (s:PSt) (r:List Tr) (s':PSt),listLoopR rec T f out s=some (r,s')->s.i<=s'.i
 |0,_,_,_,_,h=>by cases h
 |f+1,out,s,r,s',h=>by
  unfold listLoopR at h;split at h
  ·obtain ⟨m,hm,hq⟩:=Option.bind_eq_some_iff.1 h;have h1:=hr _ _ m.1 m.2 hm;split at hq
   ·have h2:=inc_listLoop hr T f _ _ _ _ hq;have h3:(advR m.2).i=m.2.i+1:=rfl;omega
   ·obtain ⟨_,rfl⟩:=Prod.mk.inj (Option.some.inj hq);exact h1
  ·obtain ⟨_,rfl⟩:=Prod.mk.inj (Option.some.inj h);exact Nat.le_refl _
theorem inc_list {rec:RecR} (hr:IncOk rec) (T:List Lx.Tok) (long f:Nat) (s:PSt) (r:List Tr) (s':PSt) (h:listR rec T long f s=some (r,s')):s.i<=s'.i:=by
 unfold listR at h;split at h
 ·split at h
  ·obtain ⟨m,hm,hq⟩:=Option.map_eq_some_iff.1 h;obtain ⟨_,rfl⟩:=Prod.mk.inj hq;have h1:=inc_listLoop hr T f _ _ m.1 m.2 hm;have h2:(advR (inS T long s)).i=s.i+1:=by show (inS T long s).i+1=_;rw [inc_in]
   exact Nat.le_trans (by omega) (inc_want T long m.2 [41])
  ·obtain ⟨_,rfl⟩:=Prod.mk.inj (Option.some.inj h);rw [inc_in];exact Nat.le_refl _
 ·obtain ⟨_,rfl⟩:=Prod.mk.inj (Option.some.inj h);rw [inc_wrong];exact Nat.le_refl _
theorem inc_group {rec:RecR} (hr:IncOk rec) (T:List Lx.Tok) (long:Nat) (s:PSt) (r:Tr) (s':PSt) (h:groupR rec T long s=some (r,s')):s.i<=s'.i:=by
 have h2:(advR (inS T long s)).i=s.i+1:=by show (inS T long s).i+1=_;rw [inc_in]
 unfold groupR at h;split at h
 ·split at h
  ·obtain ⟨m,hm,hq⟩:=Option.map_eq_some_iff.1 h;obtain ⟨_,rfl⟩:=Prod.mk.inj hq;have h1:=hr _ _ m.1 m.2 hm;exact Nat.le_trans (by omega) (inc_want T long m.2 [41])
  ·obtain ⟨_,rfl⟩:=Prod.mk.inj (Option.some.inj h);rw [inc_in];exact Nat.le_refl _
 split at h
 ·split at h
  ·obtain ⟨m,hm,hq⟩:=Option.map_eq_some_iff.1 h;obtain ⟨_,rfl⟩:=Prod.mk.inj hq;have h1:=hr _ _ m.1 m.2 hm;have h3:=inc_want T long (advR (inS T long s)) [40];have h4:=inc_want T long m.2 [65,83];have h5:=inc_typ T long (wantR T long m.2 [65,83]) typL 0;exact Nat.le_trans (by omega) (inc_want T long _ [41])
  ·obtain ⟨_,rfl⟩:=Prod.mk.inj (Option.some.inj h);rw [inc_in];exact Nat.le_refl _
 ·obtain ⟨_,rfl⟩:=Prod.mk.inj (Option.some.inj h);rw [inc_wrong];exact Nat.le_refl _
theorem inc_plain {rec:RecR} (hr:IncOk rec) (T:List Lx.Tok) (long:Nat) (s:PSt) (r:Tr) (s':PSt) (h:plainR rec T long s=some (r,s')):s.i<=s'.i:=by
 unfold plainR at h;split at h
 ·obtain ⟨_,rfl⟩:=Prod.mk.inj (Option.some.inj h);exact Nat.le_succ _
 split at h
 ·obtain ⟨_,rfl⟩:=Prod.mk.inj (Option.some.inj h);exact Nat.le_succ _
 split at h
 ·obtain ⟨_,rfl⟩:=Prod.mk.inj (Option.some.inj h);exact Nat.le_succ _
 ·exact inc_group hr T long s r s' h
theorem inc_first {rec:RecR} (hr:IncOk rec) (T:List Lx.Tok) (long:Nat) (s:PSt) (r:Tr) (s':PSt) (h:firstR rec T long s=some (r,s')):s.i<=s'.i:=by
 unfold firstR at h;split at h
 ·obtain ⟨_,rfl⟩:=Prod.mk.inj (Option.some.inj h);exact Nat.le_refl _
 rename_i he;split at h
 ·obtain ⟨_,rfl⟩:=Prod.mk.inj (Option.some.inj h);exact Nat.le_succ _
 split at h
 ·obtain ⟨_,rfl⟩:=Prod.mk.inj (Option.some.inj h);exact Nat.le_succ _
 split at h
 ·rename_i hk;exact inc_named hr T long s (by unfold nameB;rw [hk];simp only [beq_self_eq_true,Bool.and_true,beq_iff_eq];omega) r s' h
 ·exact inc_plain hr T long s r s' h
theorem inc_words {rec:RecR} (hr:IncOk rec) (T:List Lx.Tok) (long f:Nat) (a:Tr) (nt:Bool) (s:PSt) (r:Tr) (s':PSt) (h:wordsR rec T long f a nt s=some (r,s')):s.i<=s'.i:=by
 have ha:(advR s).i=s.i+1:=rfl;unfold wordsR at h;split at h
 ·obtain ⟨m,hm,hq⟩:=Option.bind_eq_some_iff.1 h;have h1:=hr _ _ m.1 m.2 hm;split at hq
  ·obtain ⟨q,hq2,hq3⟩:=Option.map_eq_some_iff.1 hq;obtain ⟨_,rfl⟩:=Prod.mk.inj hq3;have h2:=hr _ _ q.1 q.2 hq2;have h3:(advR m.2).i=m.2.i+1:=rfl;omega
  ·obtain ⟨_,rfl⟩:=Prod.mk.inj (Option.some.inj hq);omega
 split at h
 ·obtain ⟨m,hm,hq⟩:=Option.bind_eq_some_iff.1 h;have h1:=hr _ _ m.1 m.2 hm;obtain ⟨q,hq2,hq3⟩:=Option.map_eq_some_iff.1 hq;obtain ⟨_,rfl⟩:=Prod.mk.inj hq3;have h2:=hr _ _ q.1 q.2 hq2;have h3:=inc_want T long m.2 [65,78,68];omega
 split at h
 ·obtain ⟨m,hm,hq⟩:=Option.map_eq_some_iff.1 h;obtain ⟨_,rfl⟩:=Prod.mk.inj hq;have h1:=inc_list hr T long f _ m.1 m.2 hm;omega
 split at h
 ·obtain ⟨_,rfl⟩:=Prod.mk.inj (Option.some.inj h);rw [inc_wrong];exact Nat.le_refl _
 ·obtain ⟨_,rfl⟩:=Prod.mk.inj (Option.some.inj h);exact Nat.le_refl _
theorem inc_compare {rec:RecR} (hr:IncOk rec) (T:List Lx.Tok) (long f:Nat) (a:Tr) (s:PSt) (r:Tr) (s':PSt) (h:compareR rec T long f a s=some (r,s')):s.i<=s'.i:=by
 have ha:(advR s).i=s.i+1:=rfl;unfold compareR at h;split at h
 ·obtain ⟨_,rfl⟩:=Prod.mk.inj (Option.some.inj h);exact Nat.le_refl _
 split at h
 ·obtain ⟨m,hm,hq⟩:=Option.map_eq_some_iff.1 h;obtain ⟨_,rfl⟩:=Prod.mk.inj hq;have h1:=hr _ _ m.1 m.2 hm;omega
 split at h
 ·obtain ⟨_,rfl⟩:=Prod.mk.inj (Option.some.inj h);have h1:=inc_advP (takeB T (advR s) [78,79,84]) (advR s);exact Nat.le_trans (by omega) (inc_want T long _ [78,85,76,76])
 ·exact Nat.le_trans (inc_advP ..) (inc_words hr T long f a _ _ r s' h)
theorem inc_rowLoop {rec:RecR} (hr:IncOk rec) (T:List Lx.Tok) (k:Nat):∀ (f:Nat) (n:Tr) (s:PSt) (r:Tr) (s':PSt),rowLoopR rec T k f n s=some (r,s')->s.i<=s'.i
 |0,_,_,_,_,h=>by cases h
 |f+1,n,s,r,s',h=>by
  unfold rowLoopR at h;split at h
  ·obtain ⟨_,rfl⟩:=Prod.mk.inj (Option.some.inj h);exact Nat.le_refl _
  ·obtain ⟨m,hm,hq⟩:=Option.bind_eq_some_iff.1 h;have h1:=hr _ _ m.1 m.2 hm;have h2:=inc_rowLoop hr T k f _ _ _ _ hq;have ha:(advR s).i=s.i+1:=rfl;omega
theorem inc_collLoop (T:List Lx.Tok) (long:Nat):∀ (f:Nat) (n:Tr) (s:PSt) (r:Tr) (s':PSt),collLoopR T long f n s=some (r,s')->s.i<=s'.i
 |0,_,_,_,_,h=>by cases h
 |f+1,n,s,r,s',h=>by
  unfold collLoopR at h;split at h
  ·have h1:=inc_collLoop T long f _ _ _ _ h;have h2:=inc_name T long (advR s);have ha:(advR s).i=s.i+1:=rfl;omega
  ·obtain ⟨_,rfl⟩:=Prod.mk.inj (Option.some.inj h);exact Nat.le_refl _
theorem inc_un {rec:RecR} (hr:IncOk rec) (T:List Lx.Tok) (long k:Nat) (x:List UInt8) (o:Int) (s:PSt) (r:Tr) (s':PSt) (h:unR rec T long k x o s=some (r,s')):s.i<=s'.i:=by
 have h2:(advR (inS T long s)).i=s.i+1:=by show (inS T long s).i+1=_;rw [inc_in]
 unfold unR at h;split at h
 ·split at h
  ·obtain ⟨m,hm,hq⟩:=Option.map_eq_some_iff.1 h;obtain ⟨_,rfl⟩:=Prod.mk.inj hq;have h1:=hr _ _ m.1 m.2 hm;show s.i<=m.2.i;omega
  ·obtain ⟨_,rfl⟩:=Prod.mk.inj (Option.some.inj h);rw [inc_in];exact Nat.le_refl _
 ·exact hr _ _ _ _ h
theorem inc_expr (T:List Lx.Tok) (long:Nat):∀ f,IncOk (rExpr T long f)
 |0=>fun k s r s' h=>by cases h
 |f+1=>fun k s r s' h=>by
  have ih:=inc_expr T long f;rw [rExpr] at h;split at h
  ·obtain ⟨_,rfl⟩:=Prod.mk.inj (Option.some.inj h);exact Nat.le_refl _
  split at h
  ·exact inc_un ih T long _ _ _ _ _ _ h
  split at h
  ·obtain ⟨m,hm,hq⟩:=Option.bind_eq_some_iff.1 h;exact Nat.le_trans (ih _ _ m.1 m.2 hm) (inc_compare ih T long f _ _ _ _ hq)
  split at h
  ·exact inc_un ih T long _ _ _ _ _ _ h
  split at h
  ·obtain ⟨m,hm,hq⟩:=Option.bind_eq_some_iff.1 h;exact Nat.le_trans (inc_first ih T long _ m.1 m.2 hm) (inc_collLoop T long f _ _ _ _ hq)
  ·obtain ⟨m,hm,hq⟩:=Option.bind_eq_some_iff.1 h;exact Nat.le_trans (ih _ _ m.1 m.2 hm) (inc_rowLoop ih T k f _ _ _ _ hq)
end Go.Proofs.YtimeipjcmffadaaGreatDoor
