import Derived.Test.YtimeipjcmffadaaGreatDoorPsrY
import Derived.Test.YtimeipjcmffadaaGreatDoorRpW
namespace Go.Proofs.YtimeipjcmffadaaGreatDoor
open Go.RowKit Go.Lib
set_option maxRecDepth 100000
def rec12 (rec:Nat->PSt->Option (Tr × PSt)) (T:List Lx.Tok) (long:Nat):Nat->PSt->Option (Tr × PSt):=fun k s=>if k=12 then (if s.e=0 then plainF rec T long s else some (zTr,s)) else rec k s
def plev (T:List Lx.Tok) (long:Nat):Nat->Nat->PSt->Option (Tr × PSt)
 |0,_,_=>none
 |f+1,k,s =>
  if s.e≠0 then some (zTr,s)
  else if k=3 then notF (plev T long f) T long 3 2 [78,79,84] 21 s
  else if k=4 then testP (plev T long f) T long f 4 s
  else if k=10 then notF (plev T long f) T long 10 5 [45] 20 s
  else if k=11 then collF (rec12 (plev T long f) T long) T long f 11 s
  else if 1<=k/\k<=9 then rowF (plev T long f) T f k s else none
theorem rec12_ok (p g cap long:Nat) (T:List Lx.Tok) (rec:Nat->PSt->Option (Tr × PSt)) (h:LevOk p g cap long T rec):LevOk p g cap long T (rec12 rec T long):=fun k kz s r s' w hkz hk hf hp=>by
 unfold rec12 at hf;by_cases k12:k=12
 ·subst k12 hkz;rw [if_pos rfl] at hf;by_cases he:s.e=0
  ·rw [if_pos he] at hf;exact level_own _ 112 (fun _=>by kernel_rfl) (fun _ _=>by kernel_rfl) p g cap long T s (by simpa using he) r s' w hp fun W hW=>plain_any _ p g cap long T _ h s r s' W hf hW
  ·rw [if_neg he] at hf;obtain ⟨rfl,rfl⟩:=Prod.mk.inj (Option.some.inj hf);exact level_err _ p g cap long T s (by simpa using he) w hp
 ·rw [if_neg k12] at hf;exact h k kz s r s' w hkz hk hf hp
theorem plev_ok (p g cap long:Nat) (T:List Lx.Tok):∀ f,f<=99000->LevOk p g cap long T (plev T long f)
 |0,_=>fun k kz s r s' w _ _ hf _=>by cases hf
 |f+1,hl=>fun k kz s r s' w hkz hk hf h=>by
  have ih:=plev_ok p g cap long T f (by omega);subst hkz;rw [plev] at hf;by_cases he:s.e=0
  ·rw [if_neg (by simpa using he)] at hf;have hb:(s.e == 0)=true:=by simpa using he
   by_cases k3:k=3
   ·subst k3;rw [if_pos rfl] at hf;exact level_own _ 108 (fun _=>by kernel_rfl) (fun _ _=>by kernel_rfl) p g cap long T s hb r s' w h fun W hW=>pnot_any p g cap long T _ ih 3 (by decide) s r s' W hf hW
   rw [if_neg k3] at hf;by_cases k4:k=4
   ·subst k4;rw [if_pos rfl] at hf;exact level_own _ 109 (fun _=>by kernel_rfl) (fun _ _=>by kernel_rfl) p g cap long T s hb r s' w h fun W hW=>ptest2_any p g cap long T _ ih f (by omega) 4 (by decide) s r s' W hf hW
   rw [if_neg k4] at hf;by_cases k10:k=10
   ·subst k10;rw [if_pos rfl] at hf;exact level_own _ 110 (fun _=>by kernel_rfl) (fun _ _=>by kernel_rfl) p g cap long T s hb r s' w h fun W hW=>pneg_any p g cap long T _ ih 10 (by decide) s r s' W hf hW
   rw [if_neg k10] at hf;by_cases k11:k=11
   ·subst k11;rw [if_pos rfl] at hf;exact level_own _ 111 (fun _=>by kernel_rfl) (fun _ _=>by kernel_rfl) p g cap long T s hb r s' w h fun W hW=>collate_any p g cap long T _ (rec12_ok p g cap long T _ ih) f 11 (by decide) s r s' W hf hW
   rw [if_neg k11] at hf;by_cases k9:1<=k/\k<=9
   ·rw [if_pos k9] at hf;have hrow:∀ W,PsAt W p g cap long T s->Calls Tryz.prog 107 #[.pointer (some ⟨p,0,none⟩),.int .i64 k] W (LevPost p g cap long T r s' W):=fun W hW=>row_any p g cap long T _ ih f k (by omega) s r s' W hf hW;rcases (by omega:k=1 ∨ k=2 ∨ k=5 ∨ k=6 ∨ k=7 ∨ k=8 ∨ k=9) with rfl|rfl|rfl|rfl|rfl|rfl|rfl
    all_goals exact level_own _ 107 (fun _=>by kernel_rfl) (fun _ _=>by kernel_rfl) p g cap long T s hb r s' w h hrow
   ·rw [if_neg k9] at hf;cases hf
  ·rw [if_pos (by simpa using he)] at hf;obtain ⟨rfl,rfl⟩:=Prod.mk.inj (Option.some.inj hf);exact level_err _ p g cap long T s (by simpa using he) w h
def capB:List UInt8->Bool
 |c::_=>decide (65<=c) && decide (c<=90)
 | []=>false
def TokW (T:List Lx.Tok):Prop:=∀ (i:Nat) (t:Lx.Tok),T[i]?=some t->(t.kind=5->capB t.text=false)/\(t.kind=2->capB t.text=true)
theorem take_op {T:List Lx.Tok} (h:TokW T) (s:PSt) {x:List UInt8} (hx:capB x=false):isB T s 5 x=takeB T s x:=by
 unfold isB takeB isR kindR textP;cases he:T[s.i]? with
 |none=>simp
 |some t =>
  by_cases h2:t.kind=2
  ·have h3:=(h s.i t he).2 h2;by_cases hxe:t.text=x
   ·rw [hxe,hx] at h3;cases h3
   ·have hb:(t.text == x)=false:=by simpa using hxe
    simp only [hb,Bool.and_false]
  ·have h2':((t.kind:Int) == 2)=false:=by simp;omega
   simp [h2']
theorem take_wd {T:List Lx.Tok} (h:TokW T) (s:PSt) {x:List UInt8} (hx:capB x=true):isB T s 2 x=takeB T s x:=by
 unfold isB takeB isR kindR textP;cases he:T[s.i]? with
 |none=>simp
 |some t =>
  by_cases h2:t.kind=5
  ·have h3:=(h s.i t he).1 h2;by_cases hxe:t.text=x
   ·rw [hxe,hx] at h3;cases h3
   ·have hb:(t.text == x)=false:=by simpa using hxe
    simp only [hb,Bool.and_false]
  ·have h2':((t.kind:Int) == 5)=false:=by simp;omega
   simp [h2']
theorem want_op {T:List Lx.Tok} (h:TokW T) (long:Nat) (s:PSt) {x:List UInt8} (hx:capB x=false):wantF T long s x=wantR T long s x:=by
 unfold wantF wantR;rw [take_op h s hx]
theorem want_wd {T:List Lx.Tok} (h:TokW T) (long:Nat) (s:PSt) {x:List UInt8} (hx:capB x=true):wantW T long s x=wantR T long s x:=by
 unfold wantW wantR;rw [take_wd h s hx]
theorem kind_typ {T:List Lx.Tok} (h:TokW T) (long:Nat) (s:PSt):kindF T long s=typR T long s 0 typL:=by
 unfold kindF typL;rw [take_wd h s (by decide),take_wd h s (by decide),take_wd h s (by decide)];simp only [typR];rfl
theorem take_name (T:List Lx.Tok) (s:PSt):(takeT T s 1).text=nameT T s:=by
 unfold takeT nameT hasB nameB kindR textP;cases T[s.i]? with
 |none=>simp [zTok]
 |some t=>simp only [Option.getD_some];split<;>simp_all [zTok]
theorem take_nameS (T:List Lx.Tok) (long:Nat) (s:PSt):takeP T long s 1=nameS T long s:=by
 unfold takeP nameS hasB nameB kindR;cases T[s.i]? with
 |none=>simp
 |some t=>rfl
theorem find_op {T:List Lx.Tok} (h:TokW T) (s:PSt):∀ L:List (Int × List UInt8 × Int),(∀ b∈L,(b.1=5/\capB b.2.1=false ∨ b.1=2/\capB b.2.1=true)/\b.2.2≠0) ->
 findF T s L=if s.e≠0 ∨ opR T s L=0 then (0,s) else (opR T s L,advR s)
 | [],_=>by simp [findF,opR]
 |b::L,hL=>by
  have ih:=find_op h s L (fun b hb=>hL b (List.mem_cons_of_mem _ hb));obtain ⟨hb,hb0⟩:=hL b (List.mem_cons_self ..);have e1:isB T s b.1 b.2.1=takeB T s b.2.1:=by
   rcases hb with ⟨h1,h2⟩|⟨h1,h2⟩
   ·rw [h1];exact take_op h s h2
   ·rw [h1];exact take_wd h s h2
  rw [findF,opR,e1,ih];unfold takeB;by_cases he:s.e=0
  ·rw [show (s.e == 0)=true by simpa using he,Bool.true_and];cases hR:isR T s b.2.1
   ·simp
   ·simp [he,hb0,advR]
  ·rw [show (s.e == 0)=false by simpa using he,Bool.false_and];simp [he]
theorem bins_ok (k:Nat):∀ b∈binsL k,(b.1=5/\capB b.2.1=false ∨ b.1=2/\capB b.2.1=true)/\b.2.2≠0:=by
 unfold binsL;split<;>decide
theorem find_bins {T:List Lx.Tok} (h:TokW T) (s:PSt) (k:Nat):findF T s (binsL k)=if s.e≠0 ∨ opR T s (binsL k)=0 then (0,s) else (opR T s (binsL k),advR s):=find_op h s _ (bins_ok k)
theorem takeB_err (T:List Lx.Tok) (s:PSt) (x:List UInt8) (h:s.e≠0):takeB T s x=false:=by
 unfold takeB;rw [show (s.e == 0)=false by simpa using h,Bool.false_and]
theorem takeB_ok {T:List Lx.Tok} {s:PSt} {x:List UInt8} (h:takeB T s x=true):s.e=0/\isR T s x=true:=by
 unfold takeB at h;simpa using h
theorem takeB_is {T:List Lx.Tok} {s:PSt} {x:List UInt8} (h:s.e=0):takeB T s x=isR T s x:=by
 unfold takeB;rw [h];rfl
theorem wrongP_err (T:List Lx.Tok) (long:Nat) (er:Int) (he:er≠0) (s:PSt):(wrongP T long er s).e≠0:=by
 unfold wrongP;split
 ·exact he
 ·assumption
theorem wrongP_same (T:List Lx.Tok) (long:Nat) (er:Int) (s:PSt) (h:s.e≠0):wrongP T long er s=s:=by
 unfold wrongP;rw [if_neg h]
def Sim (x y:Option (Tr × PSt)):Prop:=∀ r s',y=some (r,s')->∃ r',x=some (r',s')/\(s'.e=0->r'=r)
theorem Sim.refl (x:Option (Tr × PSt)):Sim x x:=fun r _ h=>⟨r,h,fun _=>rfl⟩
theorem Sim.err {r1 r2:Tr} {s:PSt} (h:s.e≠0):Sim (some (r1,s)) (some (r2,s)):=fun r s' e=>by
 obtain ⟨_,rfl⟩:=Prod.mk.inj (Option.some.inj e);exact ⟨r1,rfl,fun h2=>absurd h2 h⟩
theorem Sim.bind {x y:Option (Tr × PSt)} {f g:Tr × PSt->Option (Tr × PSt)} (h:Sim x y) (hf:∀ r1 r2 s1,y=some (r2,s1)->(s1.e=0->r1=r2)->Sim (f (r1,s1)) (g (r2,s1))):Sim (x.bind f) (y.bind g):=fun r s' e=>by
 obtain ⟨m,hm,hq⟩:=Option.bind_eq_some_iff.1 e;obtain ⟨r2,s1⟩:=m;obtain ⟨r1,h1,h2⟩:=h r2 s1 hm;rw [h1];exact hf r1 r2 s1 hm h2 r s' hq
theorem Sim.map {x y:Option (Tr × PSt)} {f g:Tr × PSt->Tr × PSt} (h:Sim x y) (hs:∀ r1 r2 s1,(f (r1,s1)).2=(g (r2,s1)).2) (hr:∀ r s1,(g (r,s1)).2.e=0->s1.e=0/\(f (r,s1)).1=(g (r,s1)).1):Sim (x.bind fun m=>some (f m)) (y.map g):=fun r s' e=>by
 obtain ⟨m,hm,hq⟩:=Option.map_eq_some_iff.1 e;obtain ⟨r2,s1⟩:=m;obtain ⟨r1,h1,h2⟩:=h r2 s1 hm;rw [h1];have h3:=hs r1 r2 s1;rw [hq] at h3;refine ⟨(f (r1,s1)).1,congrArg some (Prod.ext rfl h3),fun h0=>?_⟩;obtain ⟨h4,h5⟩:=hr r2 s1 (by rw [hq];exact h0);rw [h2 h4,h5,hq]
theorem Sim.same {x y:Option (Tr × PSt)} {F:Tr × PSt->Tr × PSt} (h:Sim x y) (hs:∀ r1 r2 s,(F (r1,s)).2=(F (r2,s)).2) (he:∀ r s,(F (r,s)).2.e=0->s.e=0):Sim (x.bind fun m=>some (F m)) (y.map F) :=
 Sim.map h hs fun r s h0=>⟨he r s h0,rfl⟩
def RecSim (rec rec':RecR):Prop:=∀ k s,1<=k->k<=11->s.deep<=24->Sim (rec k s) (rec' k s)
theorem within_in (T:List Lx.Tok) (long:Nat) (body:PSt->Option (Tr × PSt)) (s:PSt):withinF T long body s=if inB s then (body (inS T long s)).bind fun m=>if m.2.deep=0 ∨ 1000<m.2.deep then none else some (m.1,decR m.2) else some (zTr,inS T long s):=by
 unfold withinF inS inB decR;by_cases he:s.e=0
 ·by_cases hd:s.deep<24
  ·have hd2:¬ (24<=s.deep):=by omega
   simp [he,hd,hd2]
  ·have hd2:24<=s.deep:=by omega
   have h1:=wrongP_err T long 21 (by decide) s;simp [he,hd,hd2,h1]
 ·have h1:=wrongP_same T long 21 s he;simp [he,h1]
theorem inB_lt {s:PSt} (h:inB s=true):s.e=0/\s.deep<24:=by
 unfold inB at h;simpa using h
theorem inS_in {T:List Lx.Tok} {long:Nat} {s:PSt} (h:inB s=true):inS T long s={ s with deep:=s.deep+1 }:=by unfold inS;rw [if_pos h]
theorem inS_err {T:List Lx.Tok} {long:Nat} {s:PSt} (h:¬ inB s=true):(inS T long s).e≠0:=by unfold inS;rw [if_neg h];exact wrongP_err _ _ _ (by decide) _
theorem Sim.within {T:List Lx.Tok} {long:Nat} {body:PSt->Option (Tr × PSt)} {s:PSt} {y:Option (Tr × PSt)} {q:Tr} (hd:∀ r s',y=some (r,s')->s'.deep=s.deep+1) (h:inB s=true->Sim (body { s with deep:=s.deep+1 }) y) :
 Sim (withinF T long body s) (if inB s then y.map fun m=>(m.1,decR m.2) else some (q,inS T long s)):=by
 rw [within_in];by_cases hi:inB s=true
 ·rw [if_pos hi,if_pos hi,inS_in hi];intro r s' e;obtain ⟨m,hm,hq⟩:=Option.map_eq_some_iff.1 e;obtain ⟨r2,s1⟩:=m;obtain ⟨r1,h1,h2⟩:=h hi r2 s1 hm;obtain ⟨rfl,rfl⟩:=Prod.mk.inj hq;have hd1:=hd _ _ hm;have hl:=(inB_lt hi).2;rw [h1];refine ⟨r1,?_,h2⟩;simp only [Option.bind_some];rw [if_neg (by omega)]
 ·rw [if_neg hi,if_neg hi];exact Sim.err (inS_err hi)
section
variable {T:List Lx.Tok} {long:Nat} {rec rec':RecR}
theorem collLoop_sim (h:TokW T):∀ (f:Nat) (n:Tr) (s:PSt),collLoop T long f n s=collLoopR T long f n s
 |0,_,_=>rfl
 |f+1,n,s=>by
  unfold collLoop collLoopR;rw [take_wd h s (show capB collP=true by decide),take_name,take_nameS];rw [collLoop_sim h f];rfl
theorem collLoop_any (h:TokW T) (f:Nat) (n n':Tr) (s:PSt) (hn:s.e=0->n=n'):Sim (collLoop T long f n s) (collLoopR T long f n' s):=by
 rw [collLoop_sim h];by_cases he:s.e=0
 ·rw [hn he];exact Sim.refl _
 ·cases f with
  |zero=>exact fun r s' e=>by cases e
  |succ f =>
   unfold collLoopR;rw [takeB_err T s _ he];exact Sim.err he
theorem rowLoop_any (h:TokW T) (hr:RecSim rec rec') (hdp:DeepOk rec') (k:Nat) (hk:k<=9):∀ (f:Nat) (n n':Tr) (s:PSt),s.deep<=24->(s.e=0->n=n')->Sim (rowLoop rec T k f n s) (rowLoopR rec' T k f n' s)
 |0,_,_,_,_,_=>fun r s' e=>by cases e
 |f+1,n,n',s,hd,hn=>by
  unfold rowLoop rowLoopR;rw [find_bins h s k];by_cases hc:s.e≠0 ∨ opR T s (binsL k)=0
  ·rw [if_pos hc,if_pos hc,if_pos rfl];by_cases he:s.e=0
   ·rw [hn he];exact Sim.refl _
   ·exact Sim.err he
  ·rw [if_neg hc,if_neg hc,if_neg (fun e=>hc (.inr e))];have he:s.e=0:=Classical.byContradiction fun e=>hc (.inl e);rw [hn he];refine Sim.bind (hr (k+1) (advR s) (by omega) (by omega) hd) fun r1 r2 s1 hy h1=>?_;have hd1:=hdp _ _ _ _ hy;refine rowLoop_any h hr hdp k hk f _ _ s1 (by rw [hd1];exact hd) fun e=>?_;rw [h1 e]
theorem un_any (hr:RecSim rec rec') (hdp:DeepOk rec') (k:Nat) (hk:k=3 ∨ k=10) (tk:Int) (x:List UInt8) (hx:∀ s,isB T s tk x=takeB T s x) (o:Int) (s:PSt) (he:s.e=0) (hd:s.deep<=24):Sim (notF rec T long k tk x o s) (unR rec' T long k x o s):=by
 unfold notF unR;rw [hx s,takeB_is he];by_cases hi:isR T s x=true
 ·rw [if_pos hi,if_pos hi];have e:((rec' k (advR (inS T long s))).map fun m=>((Tr.mk 5 o [] [] 0 [m.1]:Tr),decR m.2))=(((rec' k (advR (inS T long s))).map fun m=>((Tr.mk 5 o [] [] 0 [m.1]:Tr),m.2)).map fun m=>(m.1,decR m.2)):=by
   rw [Option.map_map];rfl
  by_cases hin:inB s=true
  ·rw [e,show (if inB s=true then _ else (_:Option (Tr × PSt)))=_ from rfl];refine Sim.within (fun r s' hy=>?_) fun _=>?_
   ·obtain ⟨m,hm,hq⟩:=Option.map_eq_some_iff.1 hy;obtain ⟨_,rfl⟩:=Prod.mk.inj hq;have:=hdp _ _ m.1 m.2 hm;rw [this,inS_in hin];rfl
   ·rw [inS_in hin];unfold unF;have hlt:=isR_lt hi;rw [if_pos (show s.i<T.length from hlt)];have hl:=(inB_lt hin).2;exact Sim.map (hr k _ (by omega) (by omega) (by show s.deep+1<=24;omega)) (fun _ _ _=>rfl) fun r s1 h0=>⟨h0,rfl⟩
  ·rw [within_in,if_neg hin,if_neg hin];exact Sim.refl _
 ·rw [if_neg hi,if_neg hi];exact hr (k+1) s (by omega) (by omega) hd
theorem kindB_kind (T:List Lx.Tok) (s:PSt) (k:Int) (hk:k≠0):kindB T s k=(kindR T s == k):=by
 unfold kindB kindR;cases T[s.i]? with
 |none=>exact (beq_eq_false_iff_ne.2 (Ne.symm hk)).symm
 |some t=>rfl
theorem isB_kind {T:List Lx.Tok} {s:PSt} {k:Int} {x:List UInt8} (h:kindR T s≠k) (hk:k≠0):isB T s k x=false:=by
 have:=kindB_kind T s k hk;unfold kindB at this;unfold isB;cases he:T[s.i]? with
 |none=>simp
 |some t =>
  rw [he] at this;simp only at this;rw [show (kindR T s == k)=false from beq_eq_false_iff_ne.2 h] at this;simp [this]
theorem textR_ne {T:List Lx.Tok} {s:PSt} {x y:List UInt8} (h:isR T s x=true) (hxy:x≠y):isR T s y=false:=by
 unfold isR at h |-;have h2:=eq_of_beq (Bool.and_eq_true_iff.1 h).2;rw [h2,show (x == y)=false by simpa using hxy,Bool.and_false]
theorem cast_sim (h:TokW T) (hr:RecSim rec rec') (hdp:DeepOk rec') (s:PSt) (hi:isR T s [67,65,83,84]=true) :
 Sim (withinF T long (castF rec T long) s) (if inB s then (rec' 1 (wantR T long (advR (inS T long s)) [40])).map fun m =>
  ((.mk 12 0 [] [] (typR T long (wantR T long m.2 [65,83]) 0 typL).1 [m.1]:Tr),decR (wantR T long (typR T long (wantR T long m.2 [65,83]) 0 typL).2 [41])) else some (zTr,inS T long s)):=by
 have e:((rec' 1 (wantR T long (advR (inS T long s)) [40])).map fun m =>
  ((.mk 12 0 [] [] (typR T long (wantR T long m.2 [65,83]) 0 typL).1 [m.1]:Tr),decR (wantR T long (typR T long (wantR T long m.2 [65,83]) 0 typL).2 [41])))=(((rec' 1 (wantR T long (advR (inS T long s)) [40])).map fun m=>((.mk 12 0 [] [] (typR T long (wantR T long m.2 [65,83]) 0 typL).1 [m.1]:Tr),wantR T long (typR T long (wantR T long m.2 [65,83]) 0 typL).2 [41])).map fun m=>(m.1,decR m.2)):=by
  rw [Option.map_map];rfl
 by_cases hin:inB s=true
 ·rw [e];refine Sim.within (fun r s' hy=>?_) fun _=>?_
  ·obtain ⟨m,hm,hq⟩:=Option.map_eq_some_iff.1 hy;obtain ⟨_,rfl⟩:=Prod.mk.inj hq;have:=hdp _ _ m.1 m.2 hm;rw [deep_want,deep_typ,deep_want,this,deep_want,inS_in hin];rfl
  ·rw [inS_in hin];unfold castF;have hlt:=isR_lt hi;have hl:=(inB_lt hin).2;have w1:=fun s=>want_wd h long s (x:=[65,83]) (by decide);have w2:=fun s=>want_op h long s (x:=[41]) (by decide);have w3:=fun s=>want_op h long s (x:=[40]) (by decide);have w4:=kind_typ h long;rw [if_pos (show s.i<T.length from hlt)];simp only [w1,w2,w3,w4];refine Sim.same (F:=fun m=>((.mk 12 0 [] [] (typR T long (wantR T long m.2 [65,83]) 0 typL).1 [m.1]:Tr),wantR T long (typR T long (wantR T long m.2 [65,83]) 0 typL).2 [41])) (hr 1 (wantR T long (advR { s with deep:=s.deep+1 }) [40]) (by omega) (by omega) (by rw [deep_want];show s.deep+1<=24;omega)) (fun _ _ _=>rfl) fun r s1 h0=>?_;exact (err_want T long s1 _ (err_typ T long _ _ _ (err_want T long _ _ h0).1).1).1
 ·rw [within_in,if_neg hin,if_neg hin];exact Sim.refl _
theorem paren_sim (h:TokW T) (hr:RecSim rec rec') (hdp:DeepOk rec') (s:PSt) (hi:isR T s [40]=true) :
 Sim (withinF T long (parenF rec T long) s) (if inB s then (rec' 1 (advR (inS T long s))).map fun m=>(m.1,decR (wantR T long m.2 [41])) else some (zTr,inS T long s)):=by
 have e:((rec' 1 (advR (inS T long s))).map fun m=>(m.1,decR (wantR T long m.2 [41])))=(((rec' 1 (advR (inS T long s))).map fun m=>(m.1,wantR T long m.2 [41])).map fun m=>(m.1,decR m.2)):=by
  rw [Option.map_map];rfl
 by_cases hin:inB s=true
 ·rw [e];refine Sim.within (fun r s' hy=>?_) fun _=>?_
  ·obtain ⟨m,hm,hq⟩:=Option.map_eq_some_iff.1 hy;obtain ⟨_,rfl⟩:=Prod.mk.inj hq;have:=hdp _ _ m.1 m.2 hm;rw [deep_want,this,inS_in hin];rfl
  ·rw [inS_in hin];unfold parenF;have hlt:=isR_lt hi;have hl:=(inB_lt hin).2;have w2:=fun s=>want_op h long s (x:=[41]) (by decide);rw [if_pos (show s.i<T.length from hlt)];simp only [w2];have hq:=hr 1 (advR { s with deep:=s.deep+1 }) (by omega) (by omega) (by show s.deep+1<=24;omega);intro r s' e2;obtain ⟨m,hm,hq2⟩:=Option.map_eq_some_iff.1 e2;obtain ⟨r2,s1⟩:=m;obtain ⟨r1,h1,h2⟩:=hq r2 s1 hm;obtain ⟨rfl,rfl⟩:=Prod.mk.inj hq2;exact ⟨r1,by rw [show ({ s with deep:=s.deep+1,i:=s.i+1 }:PSt)=advR { s with deep:=s.deep+1 } from rfl,h1];rfl,fun h0=>h2 (err_want T long s1 _ h0).1⟩
 ·rw [within_in,if_neg hin,if_neg hin];exact Sim.refl _
theorem tok_n (T:List Lx.Tok) (s:PSt):((T[s.i]?).getD zTok).n=tokN T s:=by
 unfold tokN;cases T[s.i]? with
 |none=>rfl
 |some t=>rfl
theorem tok_text (T:List Lx.Tok) (s:PSt):((T[s.i]?).getD zTok).text=textP T s:=by
 unfold textP;cases T[s.i]? with
 |none=>rfl
 |some t=>rfl
theorem has_kind (T:List Lx.Tok) (s:PSt) (k:Int) (hk:kindR T s=k) (h0:k≠0) (he:s.e=0):takeT T s k=(T[s.i]?).getD zTok/\takeP T long s k=advR s:=by
 have hh:hasB T s k=true:=by
  have:=kindB_kind T s k h0;show (s.e == 0 && kindB T s k)=true;rw [this,he,hk];simp
 unfold takeT takeP;rw [if_pos hh,if_pos hh];exact ⟨rfl,rfl⟩
theorem ahead1 (h:TokW T) (s:PSt) (he:s.e=0):aheadB T s 1 5 [40]=isR T (advR s) [40]:=by
 rw [<- takeB_is (show (advR s).e=0 from he),<- take_op h (advR s) (show capB [40]=false by decide)];unfold aheadB isB;rw [show (advR s).e=0 from he];rfl
theorem named_sim (h:TokW T) (hr:RecSim rec rec') (hdp:DeepOk rec') (s:PSt) (hk:kindR T s=1) (he:s.e=0) :
 Sim (if isR T (advR s) [40] then withinF T long (callF rec T long) s else columnF T long s) (namedR rec' T long s):=by
 have hn:nameB T s=true:=by unfold nameB;rw [he,hk];rfl
 have hs1:nameS T long s=advR s:=by unfold nameS;rw [if_pos hn];rfl
 have he1:(advR s).e=0:=he;unfold namedR;simp only [hs1];by_cases hdot:takeB T (advR s) [46]=true
 ·rw [if_pos hdot,if_neg (by rw [textR_ne (takeB_ok hdot).2 (show ([46]:List UInt8)≠[40] by decide)];decide)];unfold columnF;rw [take_nameS,hs1,take_op h _ (show capB [46]=false by decide),if_pos hdot,take_name,take_name,take_nameS];exact Sim.refl _
 ·rw [if_neg hdot];by_cases hp:isR T (advR s) [40]=true
  ·rw [if_pos hp,if_pos hp];have hsi:({ advR s with i:=(advR s).i - 1 }:PSt)=s:=by cases s;simp [advR]
   rw [hsi];obtain ⟨x,hx⟩:∃ x,x=nameT T s:=⟨_,rfl⟩
   rw [<- hx];by_cases hin:inB s=true
   ·have hl:=(inB_lt hin).2;rw [inS_in hin];have e3:∀ s2:PSt,s2={ s with deep:=s.deep+1,i:=(advR s).i+1 }->Sim (withinF T long (callF rec T long) s) (if inB s then ((if (x == [99,111,117,110,116]) && takeB T s2 [42] then some ((.mk (callK x) 0 x [] 0 []:Tr),wantR T long (advR s2) [41]) else (rec' 1 s2).map fun m=>((.mk (callK x) 0 x [] 0 [m.1]:Tr),wantR T long m.2 [41])).map fun m=>(m.1,decR m.2)) else some (zTr,inS T long s)):=by
     rintro s2 rfl;refine Sim.within (fun r s' hy=>?_) fun _=>?_
     ·split at hy
      ·obtain ⟨_,rfl⟩:=Prod.mk.inj (Option.some.inj hy);rw [deep_want];rfl
      ·obtain ⟨m,hm,hq⟩:=Option.map_eq_some_iff.1 hy;obtain ⟨_,rfl⟩:=Prod.mk.inj hq;have:=hdp _ _ m.1 m.2 hm;rw [deep_want,this]
     ·have hn2:nameB T { s with deep:=s.deep+1 }=true:=hn;have ht2:nameT T { s with deep:=s.deep+1 }=x:=by rw [hx];rfl
      have w2:=fun s=>want_op h long s (x:=[41]) (by decide);have hw:wantF T long { advR s with deep:=s.deep+1 } [40]={ s with deep:=s.deep+1,i:=(advR s).i+1 }:=by
       rw [want_op h long _ (show capB [40]=false by decide)];unfold wantR;rw [takeB_is (show ({ advR s with deep:=s.deep+1 }:PSt).e=0 from he),show isR T { advR s with deep:=s.deep+1 } [40]=true from hp];rfl
      have hns:nameS T long { s with deep:=s.deep+1 }={ advR s with deep:=s.deep+1 }:=by unfold nameS;rw [if_pos hn2];rfl
      unfold callF;simp only [take_name,take_nameS,ht2,hns,hw,w2];rw [take_op h _ (show capB [42]=false by decide)];split
      ·exact Sim.refl _
      ·refine Sim.same (F:=fun m=>((.mk (callK x) 0 x [] 0 [m.1]:Tr),wantR T long m.2 [41])) (hr 1 _ (by omega) (by omega) (by show s.deep+1<=24;omega)) (fun _ _ _=>rfl) fun r s1 h0=>(err_want T long s1 _ h0).1
    have e4:=e3 _ rfl;rw [if_pos hin] at e4 |-;simp only;split
    ·rename_i hc;rw [if_pos hc] at e4;exact e4
    ·rename_i hc;rw [if_neg hc,Option.map_map] at e4;exact e4
   ·rw [within_in,if_neg hin,if_neg hin];exact Sim.refl _
  ·rw [if_neg hp,if_neg hp];unfold columnF;rw [take_nameS,hs1,take_op h _ (show capB [46]=false by decide),if_neg hdot,take_name];exact Sim.refl _
theorem plain_sim (h:TokW T) (hr:RecSim rec rec') (hdp:DeepOk rec') (s:PSt) (he:s.e=0):Sim (plainF rec T long s) (firstR rec' T long s):=by
 have t1:=take_wd h s (x:=[78,85,76,76]) (by decide);have t2:=take_wd h s (x:=[84,82,85,69]) (by decide);have t3:=take_wd h s (x:=[70,65,76,83,69]) (by decide);have t4:=take_wd h s (x:=[67,65,83,84]) (by decide);have t5:=take_op h s (x:=[40]) (by decide);unfold firstR;rw [if_neg (by simpa using he)];by_cases k3:kindR T s=3
 ·rw [if_pos k3];unfold plainF;have f2:=fun x=>isB_kind (T:=T) (s:=s) (k:=2) (x:=x) (by omega) (by decide);have f5:=fun x=>isB_kind (T:=T) (s:=s) (k:=5) (x:=x) (by omega) (by decide);have hk:=has_kind (long:=long) T s 3 k3 (by decide) he;simp only [f2,f5,kindB_kind T s 3 (by decide),k3];rw [hk.1,hk.2,tok_n];exact Sim.refl _
 rw [if_neg k3];by_cases k4:kindR T s=4
 ·rw [if_pos k4];unfold plainF;have f2:=fun x=>isB_kind (T:=T) (s:=s) (k:=2) (x:=x) (by omega) (by decide);have f5:=fun x=>isB_kind (T:=T) (s:=s) (k:=5) (x:=x) (by omega) (by decide);have hk:=has_kind (long:=long) T s 4 k4 (by decide) he;simp only [f2,f5,kindB_kind T s 3 (by decide),kindB_kind T s 4 (by decide),k4];rw [hk.1,hk.2,tok_text];exact Sim.refl _
 rw [if_neg k4];have b3:kindB T s 3=false:=by rw [kindB_kind T s 3 (by decide)];exact beq_eq_false_iff_ne.2 k3
 have b4:kindB T s 4=false:=by rw [kindB_kind T s 4 (by decide)];exact beq_eq_false_iff_ne.2 k4
 by_cases k1:kindR T s=1
 ·rw [if_pos k1];have f2:=fun x=>isB_kind (T:=T) (s:=s) (k:=2) (x:=x) (by omega) (by decide);have f5:=fun x=>isB_kind (T:=T) (s:=s) (k:=5) (x:=x) (by omega) (by decide);have ha:aheadB T s 0 1 (textP T s)=true:=by
   unfold aheadB textP;unfold kindR at k1;rw [Nat.add_zero];cases hT:T[s.i]? with
   |none=>rw [hT] at k1;cases k1
   |some t=>rw [hT] at k1;simp only at k1;simp [k1]
  unfold plainF;simp only [f2,f5,b3,b4,ha,Bool.true_and,ahead1 h s he];exact named_sim h hr hdp s k1 he
 rw [if_neg k1];have ha:aheadB T s 0 1 (textP T s)=false:=by
  unfold aheadB;unfold kindR at k1;rw [Nat.add_zero];cases hT:T[s.i]? with
  |none=>rfl
  |some t=>rw [hT] at k1;simp only at k1;simp [k1]
 unfold plainF plainR;rw [t1,t2,t3,t4,t5,b3,b4,ha,Bool.false_and];split
 ·exact Sim.refl _
 split
 ·exact Sim.refl _
 split
 ·exact Sim.refl _
 unfold groupR;rw [takeB_is he,takeB_is he];by_cases hp:isR T s [40]=true
 ·rw [textR_ne hp (show ([40]:List UInt8)≠[67,65,83,84] by decide),if_pos hp,if_neg (by decide),if_pos hp];exact paren_sim h hr hdp s hp
 ·rw [if_neg hp];by_cases hc:isR T s [67,65,83,84]=true
  ·rw [if_pos hc,if_neg hp,if_pos hc];exact cast_sim h hr hdp s hc
  ·rw [if_neg hc,if_neg hp,if_neg hc,if_neg (by decide),if_neg (by decide),if_neg (by decide)];unfold columnF;have hns:nameS T long s=wrongP T long 10 s:=by
    unfold nameS nameB;rw [beq_eq_false_iff_ne.2 k1,Bool.and_false];rfl
   have hwe:=wrongP_err T long 10 (by decide) s;rw [take_nameS,hns,take_op h _ (show capB [46]=false by decide),takeB_err T _ _ hwe,if_neg (by decide)];exact Sim.err hwe
end
end Go.Proofs.YtimeipjcmffadaaGreatDoor
namespace Go.Proofs.YtimeipjcmffadaaGreatDoor
open Go.RowKit Go.Lib
set_option maxRecDepth 100000
section
variable {T:List Lx.Tok} {long:Nat} {rec rec':RecR}
theorem list_sim (h:TokW T) (hr:RecSim rec rec') (hdp:DeepOk rec') (a:Tr):∀ (f:Nat) (out:List Tr) (s:PSt),s.deep<=24->s.e=0->∀ l s',listLoopR rec' T f out s=some (l,s') ->
 ∃ l',((rec 1 s).bind fun m=>inlLoop rec T f (a::out++[m.1]) m.2)=some (l',s')/\(s'.e=0->l'=a::l)
 |0,_,_,_,_=>fun l s' e=>by cases e
 |f+1,out,s,hd,he=>fun l s' e=>by
  unfold listLoopR at e;rw [if_pos he] at e;obtain ⟨m,hm,hq⟩:=Option.bind_eq_some_iff.1 e;obtain ⟨r2,s1⟩:=m;obtain ⟨r1,h1,h2⟩:=hr 1 s (by omega) (by omega) hd r2 s1 hm;have hd1:=hdp _ _ r2 s1 hm;rw [h1];simp only [Option.bind_some];unfold inlLoop;rw [take_op h s1 (show capB [44]=false by decide)];simp only at hq;by_cases hc:takeB T s1 [44]=true
  ·rw [if_pos hc] at hq |-;have he1:=(takeB_ok hc).1;rw [h2 he1];exact list_sim h hr hdp a f (out++[r2]) (advR s1) (by show s1.deep<=24;omega) he1 l s' hq
  ·rw [if_neg hc] at hq |-;obtain ⟨rfl,rfl⟩:=Prod.mk.inj (Option.some.inj hq);exact ⟨_,rfl,fun h0=>by rw [h2 h0];rfl⟩
theorem in_sim (h:TokW T) (hr:RecSim rec rec') (hdp:DeepOk rec') (f:Nat) (a:Tr) (nt:Int) (s:PSt) (he:s.e=0):Sim (inlF rec T long f a nt s) ((listR rec' T long f s).map fun m=>(.mk 9 0 [] [] nt (a::m.1),m.2)):=by
 unfold inlF listR;rw [take_op h s (show capB [40]=false by decide)];by_cases hp:takeB T s [40]=true
 ·rw [if_pos hp,if_pos hp];have hlt:=isR_lt (takeB_ok hp).2;by_cases hin:inB s=true
  ·have hl:=(inB_lt hin).2;rw [within_in,if_pos hin,if_pos hin,inS_in hin];intro r s' e;obtain ⟨q,hq,hq2⟩:=Option.map_eq_some_iff.1 e;obtain ⟨q0,hq0,hq3⟩:=Option.map_eq_some_iff.1 hq;obtain ⟨l,s1⟩:=q0;subst hq3;obtain ⟨rfl,rfl⟩:=Prod.mk.inj hq2;obtain ⟨l',h1,h2⟩:=list_sim h hr hdp a f [] (advR { s with deep:=s.deep+1 }) (by show s.deep+1<=24;omega) he l s1 hq0;have hd1:=deep_listLoop hdp T f _ _ _ _ hq0;have hd2:s1.deep=s.deep+1:=hd1;unfold inlBody;rw [if_pos (show s.i<T.length from hlt)];have w2:=fun s=>want_op h long s (x:=[41]) (by decide);obtain ⟨m,hm,hm2⟩:=Option.bind_eq_some_iff.1 h1;rw [show ({ s with deep:=s.deep+1,i:=s.i+1 }:PSt)=advR { s with deep:=s.deep+1 } from rfl,hm];simp only [Option.bind_some];rw [show inlLoop rec T f [a,m.1] m.2=some (l',s1) from hm2];simp only [Option.map_some,Option.bind_some,w2,deep_want];rw [if_neg (by omega)];exact ⟨_,rfl,fun h0=>by rw [h2 (err_want T long s1 _ h0).1]⟩
  ·rw [within_in,if_neg hin,if_neg hin];exact Sim.err (inS_err hin)
 ·rw [if_neg hp,if_neg hp];have hw:=wrongP_err T long 10 (by decide) s;have hnb:¬ inB (wrongP T long 10 s)=true:=fun e=>hw (inB_lt e).1;rw [within_in,if_neg hnb];have hi:inS T long (wrongP T long 10 s)=wrongP T long 10 s:=by
   unfold inS;rw [if_neg hnb];exact wrongP_same T long 21 _ hw
  rw [hi];exact Sim.err hw
theorem words_sim (h:TokW T) (hr:RecSim rec rec') (hdp:DeepOk rec') (hwf:WfOk rec') (f:Nat) (a:Tr) (nt:Bool) (s:PSt) (he:s.e=0) (hd:s.deep<=24):Sim (wordsP rec T long f 4 a nt s) (wordsR rec' T long f a nt s):=by
 have t1:=take_wd h s (x:=[76,73,75,69]) (by decide);have t2:=take_wd h s (x:=[66,69,84,87,69,69,78]) (by decide);have t3:=take_wd h s (x:=[73,78]) (by decide);unfold wordsP wordsR;rw [t1,t2,t3,takeB_is (x:=[73,78]) he];split
 ·refine Sim.bind (hr 5 (advR s) (by omega) (by omega) hd) fun r1 r2 s1 hy h1=>?_;have hd1:s1.deep<=24:=by have:=hdp _ _ _ _ hy;rw [this];exact hd
  simp only;rw [take_wd h s1 (show capB [69,83,67,65,80,69]=true by decide)];split
  ·rename_i hc;rw [h1 (takeB_ok hc).1];have e:∀ x:Option (Tr × PSt),(x.map fun q=>(Tr.mk 8 0 [] [] (if nt then 1 else 0) [a,r2,q.1],q.2))=x.bind fun q=>some (Tr.mk 8 0 [] [] (if nt then 1 else 0) [a,r2,q.1],q.2):=fun x=>by cases x<;>rfl
   rw [e];exact Sim.same (F:=fun q=>(Tr.mk 8 0 [] [] (if nt then 1 else 0) [a,r2,q.1],q.2)) (hr 5 (advR s1) (by omega) (by omega) hd1) (fun _ _ _=>rfl) fun _ _ h0=>h0
  ·by_cases h0:s1.e=0
   ·rw [h1 h0];exact Sim.refl _
   ·exact Sim.err h0
 split
 ·have w1:=fun s=>want_wd h long s (x:=[65,78,68]) (by decide);refine Sim.bind (hr 5 (advR s) (by omega) (by omega) hd) fun r1 r2 s1 hy h1=>?_;have hd1:s1.deep<=24:=by have:=hdp _ _ _ _ hy;rw [this];exact hd
  simp only [w1];have e:∀ x:Option (Tr × PSt),(x.map fun q=>(Tr.mk 10 0 [] [] (if nt then 1 else 0) [a,r1,q.1],q.2))=x.bind fun q=>some (Tr.mk 10 0 [] [] (if nt then 1 else 0) [a,r1,q.1],q.2):=fun x=>by cases x<;>rfl
  have hq:=hr 5 (wantR T long s1 [65,78,68]) (by omega) (by omega) (by rw [deep_want];exact hd1);intro r s' e2;obtain ⟨m,hm,hq2⟩:=Option.map_eq_some_iff.1 e2;obtain ⟨r4,s3⟩:=m;obtain ⟨r3,h3,h4⟩:=hq r4 s3 hm;obtain ⟨rfl,rfl⟩:=Prod.mk.inj hq2;refine ⟨_,by rw [h3];rfl,fun h0=>?_⟩;have h5:=(err_want T long s1 _ (hwf _ _ _ _ hm h0).1).1;rw [h4 h0,h1 h5]
 split
 ·rename_i hc;exact in_sim h hr hdp f a _ (advR s) he
 split
 ·exact Sim.refl _
 ·exact Sim.refl _
theorem after_sim (h:TokW T) (hr:RecSim rec rec') (hdp:DeepOk rec') (hwf:WfOk rec') (f:Nat) (a a':Tr) (s:PSt) (ha:s.e=0->a=a') (hd:s.deep<=24) :
 Sim (if (findF T s (binsL 4)).1=0 then afterP rec T long f 4 a (findF T s (binsL 4)).2 else (rec 5 (findF T s (binsL 4)).2).bind fun m=>some (.mk 6 (findF T s (binsL 4)).1 [] [] 0 [a,m.1],m.2)) (compareR rec' T long f a' s):=by
 unfold compareR;by_cases he:s.e=0
 ·rw [ha he,if_neg (show ¬ s.e≠0 from fun e=>e he)];by_cases ho:opR T s (binsL 4)=0
  ·have hF:findF T s (binsL 4)=(0,s):=by rw [find_bins h s 4,if_pos (Or.inr ho)]
   rw [hF,if_pos (show ((0:Int),s).1=0 from rfl),if_neg (show ¬ opR T s (binsL 4)≠0 from fun e=>e ho)];unfold afterP;rw [take_wd h s (show capB [73,83]=true by decide)];by_cases hi:takeB T s [73,83]=true
   ·rw [if_pos hi,if_pos hi,take_wd h _ (show capB [78,79,84]=true by decide),want_wd h long _ (show capB [78,85,76,76]=true by decide)];exact Sim.refl _
   ·rw [if_neg hi,if_neg hi,take_wd h s (show capB [78,79,84]=true by decide),takeB_is he];exact words_sim h hr hdp hwf f a' _ _ (by unfold advP;split<;>exact he) (by rw [deep_advP];exact hd)
  ·have hc:¬ (s.e≠0 ∨ opR T s (binsL 4)=0):=fun e=>by rcases e with e|e;exact e he;exact ho e
   have hF:findF T s (binsL 4)=(opR T s (binsL 4),advR s):=by rw [find_bins h s 4,if_neg hc]
   rw [hF,if_neg (show ¬ (opR T s (binsL 4),advR s).1=0 from ho),if_pos (show opR T s (binsL 4)≠0 from ho)];exact Sim.same (F:=fun m=>(.mk 6 (opR T s (binsL 4)) [] [] 0 [a',m.1],m.2)) (hr 5 (advR s) (by omega) (by omega) hd) (fun _ _ _=>rfl) fun _ _ h0=>h0
 ·have hF:findF T s (binsL 4)=(0,s):=by rw [find_bins h s 4,if_pos (Or.inl he)]
  rw [hF,if_pos (show ((0:Int),s).1=0 from rfl),if_pos (show s.e≠0 from he)];have hb:∀ x,isB T s 2 x=false:=fun x=>by unfold isB;rw [beq_eq_false_iff_ne.2 he,Bool.false_and]
  unfold afterP;rw [hb,if_neg (by decide),hb];show Sim (wordsP rec T long f 4 a false s) _;unfold wordsP;rw [hb,hb,hb,if_neg (by decide),if_neg (by decide),if_neg (by decide),if_neg (by decide)];exact Sim.err he
theorem plev_sim (h:TokW T):∀ f,RecSim (plev T long f) (rExpr T long f)
 |0=>fun k s _ _ _ r s' e=>by cases e
 |f+1=>fun k s h1 h11 hd=>by
  have ih:=plev_sim h f;have hdp:=deep_expr T long f;have hwf:=wf_expr T long f;rw [plev,rExpr];by_cases he:s.e=0
  ·have he2:¬ s.e≠0:=fun e=>e he;rw [if_neg he2,if_neg he2];by_cases k3:k=3
   ·subst k3;rw [if_pos rfl,if_pos rfl];exact un_any ih hdp 3 (.inl rfl) 2 [78,79,84] (fun s=>take_wd h s (by decide)) 21 s he hd
   rw [if_neg k3,if_neg k3];by_cases k4:k=4
   ·subst k4;rw [if_pos rfl,if_pos rfl];unfold testP;refine Sim.bind (ih 5 s (by omega) (by omega) hd) fun r1 r2 s1 hy h2=>?_;exact after_sim h ih hdp hwf f r1 r2 s1 h2 (by have:=hdp _ _ _ _ hy;rw [this];exact hd)
   rw [if_neg k4,if_neg k4];by_cases k10:k=10
   ·subst k10;rw [if_pos rfl,if_pos rfl];exact un_any ih hdp 10 (.inr rfl) 5 [45] (fun s=>take_op h s (by decide)) 20 s he hd
   rw [if_neg k10,if_neg k10];by_cases k11:k=11
   ·subst k11;rw [if_pos rfl,if_pos rfl];unfold collF rec12;rw [if_pos rfl,if_pos he];refine Sim.bind (plain_sim h ih hdp s he) fun r1 r2 s1 hy h2=>?_;exact collLoop_any h f r1 r2 s1 h2
   rw [if_neg k11,if_neg k11,if_pos (by omega)];unfold rowF;refine Sim.bind (ih (k+1) s (by omega) (by omega) hd) fun r1 r2 s1 hy h2=>?_;exact rowLoop_any h ih hdp k (by omega) f r1 r2 s1 (by have:=hdp _ _ _ _ hy;rw [this];exact hd) h2
  ·rw [if_pos he,if_pos he];exact Sim.refl _
end
end Go.Proofs.YtimeipjcmffadaaGreatDoor
