import Derived.Test.YtimeipjcmffadaaGreatDoorShowsFrame
import Derived.Test.YtimeipjcmffadaaGreatDoorSnL
namespace Go.Proofs.YtimeipjcmffadaaGreatDoor.parseShows
open Go.ChangeShapes Go.WideShapes Go.ChangeAt Go.RowKit Go.ChangeMaps showsFrame
set_option maxRecDepth 100000
theorem contract (H:Type) (enc:TypeId × Value->H) (W:World) (base:Nat) (args:Array Value) (ds gs:List (DataW H)) (before:List MemPlace)
 (hval:∀ (j:Nat) t v,Tryz.f4.params[j]?=some t->args[j]?=some v->Value.okWide Tryz.prog W .any base t v)
 (hW:DataW.Whole enc Tryz.prog Tryz.f4.params.toList Rows.parseShowsSpec.vars false W args.toList ds gs before) (hglob:GlobP W) :
 Calls Tryz.prog 4 args W fun e W'=>∃ v,e= .returned v/\Rows.parseShowsSpec.post enc Tryz.prog Tryz.f4 false true false false W args v W':=by
 have hW':=hW;obtain ⟨p,q,hA0,hV,rfl,hfz,hnd⟩:=hW;have hA:DataW.TrodAll enc Tryz.prog W 0 (fun _=>true) true Tryz.f4.params.toList args.toList ds p:=hA0;rw [Tryz.params4] at hA hval;obtain ⟨rfl,rfl⟩:=trodVars_none hV;simp only [List.append_nil] at hW';have hlt:∀ x∈p,x.block<W.heap.size:=fun x hx=>by simpa using hW'.lt x hx
 obtain ⟨v0,d0,p0,rfl,rfl,hp,h0⟩:=args1 hA;have hlaw:Calls Tryz.prog 4 #[v0] W fun e w'=>e= .returned (.bool true)/\Below W.heap.size W w':=by
  clear hW' hlt hA0 hA hp hfz hnd;obtain ⟨n0,t0,rfl,hT0,hR0⟩:=open_node (hval 0 24 v0 rfl rfl) h0;exact law_shows hR0 n0 W hglob hT0
 refine hlaw.mono fun e W' ⟨he,hb⟩=>?_;subst he;exact ⟨_,rfl,_,[],_,[],p,[],hW',trodAll_mk1 (shut_bool Tryz.underlying4 _),trodAll_keep laidOut (by kernel_rfl) hA0 hb hlt,rfl,hb.frame _,fun h=>by cases h⟩
theorem kIn:(Rows.parseShowsRow.inPlace == Tryz.pinned.checked.prog.inPlace 4)=true:=by kernel_rfl
theorem kUn:(Rows.parseShowsRow.unfollowed == Tryz.pinned.checked.prog.unfollowed 4)=true:=by kernel_rfl
theorem kRe:(Rows.parseShowsRow.recurses == Tryz.pinned.checked.prog.recurses 4)=true:=by kernel_rfl
theorem kNa:(Rows.parseShowsRow.named == Tryz.pinned.checked.prog.varsNamed 4)=true:=by kernel_rfl
theorem kGo:false=Rows.parseShowsRow.goesBy Tryz.pinned.checked.prog:=by
 unfold OpenClaim.goesBy Program.goesAt Program.goesFrom;rw [any_none noGo];rfl
theorem joined:joinedFacts Tryz.pinned.checked.prog 4 Tryz.f4 (OpenSpec.ofChange Rows.parseShowsSpec).bare Rows.parseShowsRow=true:=by
 unfold joinedFacts;simp only [Bool.and_eq_true];exact ⟨⟨⟨⟨⟨⟨⟨⟨⟨⟨⟨⟨⟨⟨⟨⟨⟨⟨⟨⟨⟨⟨⟨⟨⟨⟨⟨⟨⟨⟨⟨by kernel_rfl,by kernel_rfl⟩,by kernel_rfl⟩,by kernel_rfl⟩,by kernel_rfl⟩,by kernel_rfl⟩,by kernel_rfl⟩,by kernel_rfl⟩,by kernel_rfl⟩,kIn⟩,kUn⟩,kRe⟩,kNa⟩,by kernel_rfl⟩,by kernel_rfl⟩,by kernel_rfl⟩,by kernel_rfl⟩,by kernel_rfl⟩,by kernel_rfl⟩,by kernel_rfl⟩,by kernel_rfl⟩,by kernel_rfl⟩,by kernel_rfl⟩,by kernel_rfl⟩,by kernel_rfl⟩,by kernel_rfl⟩,by kernel_rfl⟩,by kernel_rfl⟩,by kernel_rfl⟩,by kernel_rfl⟩,by kernel_rfl⟩,by kernel_rfl⟩
theorem reads (os:Os) {H:Type} (enc:TypeId × Value->H):∃ places,DataW.whole enc Tryz.prog ((World.laidAll Tryz.prog os Rows.parseShowsRow.laid).forCall (fun _ _=>0) ⟨#[],#[.agg #[.int .i64 0,.int .i64 0,.string ⟨#[]⟩,.string ⟨#[]⟩,.int .i64 0,.slice none 0 0]],[]⟩).memory Tryz.f4.params.toList Rows.parseShowsSpec.vars false (#[.agg #[.int .i64 0,.int .i64 0,.string ⟨#[]⟩,.string ⟨#[]⟩,.int .i64 0,.slice none 0 0]]:Array Value).toList 8=some ([.agg [.lit (.int .i64 0),.lit (.int .i64 0),.lit (.string []),.lit (.string []),.lit (.int .i64 0),.nil]],[],places) :=
 ⟨[],by kernel_rfl⟩
theorem lifted (os:Os) (started:os.Started) (H:Type) (enc:TypeId × Value->H) (F:Stop.Interp) :
 ReturnsInHanded {} Tryz.checked os 4 .any ((OpenSpec.ofChange Rows.parseShowsSpec).preRow enc Tryz.prog Tryz.f4 Rows.parseShowsRow.domain false Rows.parseShowsRow.laid) (((OpenSpec.ofChange Rows.parseShowsSpec).at F).post enc Tryz.prog Tryz.f4 false true false false):=by
 obtain ⟨places,hx⟩:=reads os enc;refine returnsInHanded_of_row (C:=Tryz.checked) (s:=OpenSpec.ofChange Rows.parseShowsSpec) own started (by kernel_rfl) Tryz.func4
  (witness os #[.agg #[.int .i64 0,.int .i64 0,.string ⟨#[]⟩,.string ⟨#[]⟩,.int .i64 0,.slice none 0 0]] (by kernel_rfl) (OpenSpec.preRow_of_cond 8 hx (by kernel_rfl) (fun k hk=>by cases hk) (by kernel_rfl) (laid_met os _))) ?_
 intro W base args ds gs before hval hW _ _ _ hL hsh _;exact contract H enc W base args ds gs before hval hW (glob_of hL hsh)
theorem said:Rows.ParseShowsSaid :=
 OpenClaim.holds_of_cond 4 Tryz.f4 rfl rfl rfl rfl rfl rfl rfl ⟨rfl,rfl,rfl,rfl,rfl⟩ rfl rfl rfl rfl rfl (by kernel_rfl) Tryz.func4 joined
  (of_decide_eq_true (by kernel_rfl)) (by unfold Func.isWrapper;first|(rw [if_pos (by decide +kernel)];kernel_rfl)|(rw [if_neg (by decide +kernel)];exact ⟨rfl,rfl⟩))
  (fun os started H enc _ F=>by rw [OpenClaim.pre_eq_preRow];exact lifted os started H enc F)
theorem plain (f:FuncId) (fn:Func) (hf:Tryz.pinned.checked.prog.funcNamed Rows.parseShowsRow.func=some f) (hfn:Tryz.pinned.checked.prog.funcs[f]?=some fn) :
 true=Tryz.pinned.checked.prog.looks []/\∀ (j:Nat) t,fn.params[j]?=some t->Tryz.pinned.checked.prog.wantsStandIn t=false:=by
 obtain rfl:f=4:=Option.some.inj ((show Tryz.prog.funcNamed Rows.parseShowsRow.func=some 4 by kernel_rfl).symm.trans hf) |>.symm;obtain rfl:fn=Tryz.f4:=(Option.some.inj (Tryz.func4.symm.trans hfn)).symm;refine ⟨by kernel_rfl,fun j t ht=>?_⟩;rw [Tryz.params4] at ht;exact all_of (show #[24].all (fun t=>!Tryz.prog.wantsStandIn t)=true by kernel_rfl) (Array.mem_of_getElem? ht)
theorem card:Rows.ParseShowsCardSaid :=
 Claim7.holds_tied_plain_at .later [] _ _ _ _ said (fun _ h=>by cases h) (by kernel_rfl) (fun _ h=>by cases h) parseShows_row_tie rfl ⟨rfl,rfl⟩ (by kernel_rfl) rfl plain kGo
end Go.Proofs.YtimeipjcmffadaaGreatDoor.parseShows
