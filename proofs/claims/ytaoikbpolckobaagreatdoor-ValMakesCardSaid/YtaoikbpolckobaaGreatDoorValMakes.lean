/-
  The law of making values holds: for every number, text, truth and raw value the call returns true, and the arguments read as they did. No condition; the listed variables of Go's library read as its text lays them (the card ties them).
-/
import Derived.Test.YtaoikbpolckobaaGreatDoorValFrame
import Derived.Test.YtaoikbpolckobaaGreatDoorCard
import Derived.Test.YtaoikbpolckobaaGreatDoorValMakesLaw
namespace Go.Proofs.YtaoikbpolckobaaGreatDoor.valMakes
open Go.ChangeShapes Go.WideShapes Go.ChangeAt Go.RowKit Go.ChangeMaps valFrame
set_option maxRecDepth 100000

theorem contract (H : Type) (enc : TypeId × Value → H) (W : World) (base : Nat) (args : Array Value) (ds gs : List (DataW H)) (before : List MemPlace)
    (hval : ∀ (j : Nat) t v, Tryz.f10.params[j]? = some t → args[j]? = some v → Value.okWide Tryz.prog W .any base t v)
    (hW : DataW.Whole enc Tryz.prog Tryz.f10.params.toList Rows.valMakesSpec.vars false W args.toList ds gs before) (hG : Glob W) :
    Calls Tryz.prog 10 args W fun e W' => ∃ v, e = .returned v ∧ Rows.valMakesSpec.post enc Tryz.prog Tryz.f10 false true false false W args v W' := by
  have hW' := hW
  obtain ⟨p, q, hA0, hV, rfl, hfz, hnd⟩ := hW
  have hA : DataW.TrodAll enc Tryz.prog W 0 (fun _ => true) true Tryz.f10.params.toList args.toList ds p := hA0
  rw [Tryz.params10] at hA hval
  obtain ⟨rfl, rfl⟩ := trodVars_none hV
  simp only [List.append_nil] at hW'
  have hlt : ∀ x ∈ p, x.block < W.heap.size := fun x hx => by simpa using hW'.lt x hx

  obtain ⟨v0, v1, v2, v3, d0, d1, d2, d3, p0, p1, p2, p3, rfl, rfl, hp, h0, h1, h2, h3⟩ := args4 hA
  have hlaw : Calls Tryz.prog 10 #[v0, v1, v2, v3] W fun e w' => e = .returned (.bool true) ∧ Below W.heap.size W w' := by
    clear hW' hlt hA0 hA hp hfz hnd
    obtain ⟨x0, rfl, rfl, rfl, w0⟩ := open_int Tryz.underlying2 (hval 0 2 v0 rfl rfl) h0
    obtain ⟨x1, rfl, rfl, rfl, w1⟩ := open_string Tryz.underlying9 (hval 1 9 v1 rfl rfl) h1
    obtain ⟨x2, rfl, rfl, rfl⟩ := open_bool Tryz.underlying4 (hval 2 4 v2 rfl rfl) h2
    obtain ⟨c30, c31, c32, y30, y31, y32, q3, rfl, rfl, rfl, z30, z31, z32⟩ := Joins.open_agg3 Tryz.underlying75 (by kernel_rfl) (show Tryz.prog.cellsOf 75 = 3 by kernel_rfl) (hval 3 75 v3 rfl rfl) h3
    obtain ⟨k3, e30, j30, g30⟩ := DataW.trod_int Tryz.underlying3 z30
    obtain rfl := one_of e30
    obtain ⟨m3, e31, j31, g31⟩ := DataW.trod_int Tryz.underlying2 z31
    obtain rfl := one_of e31
    obtain ⟨s3, e32, j32, g32⟩ := DataW.trod_string Tryz.underlying9 z32
    obtain rfl := one_of e32
    exact law_makes x0 x1 x2 k3 m3 s3 W hG
  refine hlaw.mono fun e W' ⟨he, hb⟩ => ?_
  subst he
  exact ⟨_, rfl, _, [], _, [], p, [], hW', trodAll_mk1 (shut_bool Tryz.underlying4 _), trodAll_keep laidOut (by kernel_rfl) hA0 hb hlt, rfl, hb.frame _, fun h => by cases h⟩

theorem kIn : (Rows.valMakesRow.inPlace == Tryz.pinned.checked.prog.inPlace 10) = true := by kernel_rfl
theorem kUn : (Rows.valMakesRow.unfollowed == Tryz.pinned.checked.prog.unfollowed 10) = true := by kernel_rfl
theorem kRe : (Rows.valMakesRow.recurses == Tryz.pinned.checked.prog.recurses 10) = true := by kernel_rfl
theorem kNa : (Rows.valMakesRow.named == Tryz.pinned.checked.prog.varsNamed 10) = true := by kernel_rfl
theorem kGo : false = Rows.valMakesRow.goesBy Tryz.pinned.checked.prog := by kernel_rfl
theorem joined : joinedFacts Tryz.pinned.checked.prog 10 Tryz.f10 (OpenSpec.ofChange Rows.valMakesSpec).bare Rows.valMakesRow = true := by
  unfold joinedFacts
  simp only [Bool.and_eq_true]
  exact ⟨⟨⟨⟨⟨⟨⟨⟨⟨⟨⟨⟨⟨⟨⟨⟨⟨⟨⟨⟨⟨⟨⟨⟨⟨⟨⟨⟨⟨⟨⟨by kernel_rfl, by kernel_rfl⟩, by kernel_rfl⟩, by kernel_rfl⟩, by kernel_rfl⟩, by kernel_rfl⟩, by kernel_rfl⟩, by kernel_rfl⟩, by kernel_rfl⟩, kIn⟩, kUn⟩, kRe⟩, kNa⟩, by kernel_rfl⟩, by kernel_rfl⟩, by kernel_rfl⟩, by kernel_rfl⟩, by kernel_rfl⟩, by kernel_rfl⟩, by kernel_rfl⟩, by kernel_rfl⟩, by kernel_rfl⟩, by kernel_rfl⟩, by kernel_rfl⟩, by kernel_rfl⟩, by kernel_rfl⟩, by kernel_rfl⟩, by kernel_rfl⟩, by kernel_rfl⟩, by kernel_rfl⟩, by kernel_rfl⟩, by kernel_rfl⟩

theorem reads (os : Os) {H : Type} (enc : TypeId × Value → H) : ∃ places, DataW.whole enc Tryz.prog ((World.laidAll Tryz.prog os Rows.valMakesRow.laid).forCall (fun _ _ => 0) ⟨#[], #[.int .i64 0, .string ⟨#[]⟩, .bool false, .agg #[.int .i64 0, .int .i64 0, .string ⟨#[]⟩]], []⟩).memory Tryz.f10.params.toList Rows.valMakesSpec.vars false (#[.int .i64 0, .string ⟨#[]⟩, .bool false, .agg #[.int .i64 0, .int .i64 0, .string ⟨#[]⟩]] : Array Value).toList 8 = some ([.lit (.int .i64 0), .lit (.string []), .lit (.bool false), .agg [.lit (.int .i64 0), .lit (.int .i64 0), .lit (.string [])]], [], places) :=
  ⟨[], by kernel_rfl⟩

theorem lifted (os : Os) (started : os.Started) (H : Type) (enc : TypeId × Value → H) (F : Stop.Interp) :
    ReturnsInHanded {} Tryz.checked os 10 .any ((OpenSpec.ofChange Rows.valMakesSpec).preRow enc Tryz.prog Tryz.f10 Rows.valMakesRow.domain false Rows.valMakesRow.laid) (((OpenSpec.ofChange Rows.valMakesSpec).at F).post enc Tryz.prog Tryz.f10 false true false false) := by
  obtain ⟨places, hx⟩ := reads os enc
  refine returnsInHanded_of_row (C := Tryz.checked) (s := OpenSpec.ofChange Rows.valMakesSpec) own started (by kernel_rfl) Tryz.func10
    (witness os #[.int .i64 0, .string ⟨#[]⟩, .bool false, .agg #[.int .i64 0, .int .i64 0, .string ⟨#[]⟩]] (by kernel_rfl) (OpenSpec.preRow_of_cond 8 hx (by kernel_rfl) (fun k hk => by cases hk) (by kernel_rfl) (laid_met os _))) ?_
  intro W base args ds gs before hval hW _ _ _ hL hsh _
  exact contract H enc W base args ds gs before hval hW (glob_of hL hsh)

theorem said : Rows.ValMakesSaid :=
  OpenClaim.holds_of_cond 10 Tryz.f10 rfl rfl rfl rfl rfl rfl rfl ⟨rfl, rfl, rfl, rfl, rfl⟩ rfl rfl rfl rfl rfl (by kernel_rfl) Tryz.func10 joined
    (of_decide_eq_true (by kernel_rfl)) (by unfold Func.isWrapper; first | (rw [if_pos (by decide +kernel)]; kernel_rfl) | (rw [if_neg (by decide +kernel)]; exact ⟨rfl, rfl⟩))
    (fun os started H enc _ F => by rw [OpenClaim.pre_eq_preRow]; exact lifted os started H enc F)

theorem plain (f : FuncId) (fn : Func) (hf : Tryz.pinned.checked.prog.funcNamed Rows.valMakesRow.func = some f) (hfn : Tryz.pinned.checked.prog.funcs[f]? = some fn) :
    true = Tryz.pinned.checked.prog.looks [] ∧ ∀ (j : Nat) t, fn.params[j]? = some t → Tryz.pinned.checked.prog.wantsStandIn t = false := by
  obtain rfl : f = 10 := Option.some.inj ((show Tryz.prog.funcNamed Rows.valMakesRow.func = some 10 by kernel_rfl).symm.trans hf) |>.symm
  obtain rfl : fn = Tryz.f10 := (Option.some.inj (Tryz.func10.symm.trans hfn)).symm
  refine ⟨by kernel_rfl, fun j t ht => ?_⟩
  rw [Tryz.params10] at ht
  exact all_of (show #[2, 9, 4, 75].all (fun t => !Tryz.prog.wantsStandIn t) = true by kernel_rfl) (Array.mem_of_getElem? ht)

/-- THE CARD. -/
theorem card : Rows.ValMakesCardSaid :=
  Claim7.holds_tied_plain_at .later [] _ _ _ _ said (fun _ h => by cases h) (by kernel_rfl) (fun _ h => by cases h) valMakes_row_tie rfl ⟨rfl, rfl⟩ (by kernel_rfl) rfl plain kGo
end Go.Proofs.YtaoikbpolckobaaGreatDoor.valMakes
