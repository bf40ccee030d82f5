/-
  The law of comparisons, BETWEEN and IN holds: for any three values the call returns true, and the arguments read as they did. No condition; the listed variables of Go's library read as its text lays them (the card ties them).
-/
import Derived.Test.YtbdaebjpgdpcnaaGreatDoorPrintFrame
import Derived.Test.YtbdaebjpgdpcnaaGreatDoorEvalLaw
namespace Go.Proofs.YtbdaebjpgdpcnaaGreatDoor.evalLogic
open Go.ChangeShapes Go.WideShapes Go.ChangeAt Go.RowKit Go.ChangeMaps printFrame
set_option maxRecDepth 100000

theorem contract (H : Type) (enc : TypeId × Value → H) (W : World) (base : Nat) (args : Array Value) (ds gs : List (DataW H)) (before : List MemPlace)
    (hval : ∀ (j : Nat) t v, Tryz.f4.params[j]? = some t → args[j]? = some v → Value.okWide Tryz.prog W .any base t v)
    (hW : DataW.Whole enc Tryz.prog Tryz.f4.params.toList Rows.evalLogicSpec.vars false W args.toList ds gs before) (hG : GlobP W) :
    Calls Tryz.prog 4 args W fun e W' => ∃ v, e = .returned v ∧ Rows.evalLogicSpec.post enc Tryz.prog Tryz.f4 false true false false W args v W' := by
  have hW' := hW
  obtain ⟨p, q, hA0, hV, rfl, hfz, hnd⟩ := hW
  have hA : DataW.TrodAll enc Tryz.prog W 0 (fun _ => true) true Tryz.f4.params.toList args.toList ds p := hA0
  rw [Tryz.params4] at hA hval
  obtain ⟨rfl, rfl⟩ := trodVars_none hV
  simp only [List.append_nil] at hW'
  have hlt : ∀ x ∈ p, x.block < W.heap.size := fun x hx => by simpa using hW'.lt x hx

  obtain ⟨v0, v1, v2, d0, d1, d2, p0, p1, p2, rfl, rfl, hp, h0, h1, h2⟩ := args3 hA
  have hlaw : Calls Tryz.prog 4 #[v0, v1, v2] W fun e w' => e = .returned (.bool true) ∧ Below W.heap.size W w' := by
    clear hW' hlt hA0 hA hp hfz hnd
    obtain ⟨c00, c01, c02, y00, y01, y02, q0, rfl, rfl, rfl, z00, z01, z02⟩ := Joins.open_agg3 Tryz.underlying23 (by kernel_rfl) (show Tryz.prog.cellsOf 23 = 3 by kernel_rfl) (hval 0 23 v0 rfl rfl) h0
    obtain ⟨k0, e00, j00, g00⟩ := DataW.trod_int Tryz.underlying3 z00
    obtain rfl := one_of e00
    obtain ⟨m0, e01, j01, g01⟩ := DataW.trod_int Tryz.underlying2 z01
    obtain rfl := one_of e01
    obtain ⟨s0, e02, j02, g02⟩ := DataW.trod_string Tryz.underlying9 z02
    obtain rfl := one_of e02
    obtain ⟨c10, c11, c12, y10, y11, y12, q1, rfl, rfl, rfl, z10, z11, z12⟩ := Joins.open_agg3 Tryz.underlying23 (by kernel_rfl) (show Tryz.prog.cellsOf 23 = 3 by kernel_rfl) (hval 1 23 v1 rfl rfl) h1
    obtain ⟨k1, e10, j10, g10⟩ := DataW.trod_int Tryz.underlying3 z10
    obtain rfl := one_of e10
    obtain ⟨m1, e11, j11, g11⟩ := DataW.trod_int Tryz.underlying2 z11
    obtain rfl := one_of e11
    obtain ⟨s1, e12, j12, g12⟩ := DataW.trod_string Tryz.underlying9 z12
    obtain rfl := one_of e12
    obtain ⟨c20, c21, c22, y20, y21, y22, q2, rfl, rfl, rfl, z20, z21, z22⟩ := Joins.open_agg3 Tryz.underlying23 (by kernel_rfl) (show Tryz.prog.cellsOf 23 = 3 by kernel_rfl) (hval 2 23 v2 rfl rfl) h2
    obtain ⟨k2, e20, j20, g20⟩ := DataW.trod_int Tryz.underlying3 z20
    obtain rfl := one_of e20
    obtain ⟨m2, e21, j21, g21⟩ := DataW.trod_int Tryz.underlying2 z21
    obtain rfl := one_of e21
    obtain ⟨s2, e22, j22, g22⟩ := DataW.trod_string Tryz.underlying9 z22
    obtain rfl := one_of e22
    exact (fun _ : GlobP W => law_logic k0 m0 s0 k1 m1 s1 k2 m2 s2 W) hG
  refine hlaw.mono fun e W' ⟨he, hb⟩ => ?_
  subst he
  exact ⟨_, rfl, _, [], _, [], p, [], hW', trodAll_mk1 (shut_bool Tryz.underlying4 _), trodAll_keep laidOut (by kernel_rfl) hA0 hb hlt, rfl, hb.frame _, fun h => by cases h⟩

theorem kIn : (Rows.evalLogicRow.inPlace == Tryz.pinned.checked.prog.inPlace 4) = true := by kernel_rfl
theorem kUn : (Rows.evalLogicRow.unfollowed == Tryz.pinned.checked.prog.unfollowed 4) = true := by kernel_rfl
theorem kRe : (Rows.evalLogicRow.recurses == Tryz.pinned.checked.prog.recurses 4) = true := by kernel_rfl
theorem kNa : (Rows.evalLogicRow.named == Tryz.pinned.checked.prog.varsNamed 4) = true := by kernel_rfl
theorem kGo : false = Rows.evalLogicRow.goesBy Tryz.pinned.checked.prog := by kernel_rfl
theorem joined : joinedFacts Tryz.pinned.checked.prog 4 Tryz.f4 (OpenSpec.ofChange Rows.evalLogicSpec).bare Rows.evalLogicRow = true := by
  unfold joinedFacts
  simp only [Bool.and_eq_true]
  exact ⟨⟨⟨⟨⟨⟨⟨⟨⟨⟨⟨⟨⟨⟨⟨⟨⟨⟨⟨⟨⟨⟨⟨⟨⟨⟨⟨⟨⟨⟨⟨by kernel_rfl, by kernel_rfl⟩, by kernel_rfl⟩, by kernel_rfl⟩, by kernel_rfl⟩, by kernel_rfl⟩, by kernel_rfl⟩, by kernel_rfl⟩, by kernel_rfl⟩, kIn⟩, kUn⟩, kRe⟩, kNa⟩, by kernel_rfl⟩, by kernel_rfl⟩, by kernel_rfl⟩, by kernel_rfl⟩, by kernel_rfl⟩, by kernel_rfl⟩, by kernel_rfl⟩, by kernel_rfl⟩, by kernel_rfl⟩, by kernel_rfl⟩, by kernel_rfl⟩, by kernel_rfl⟩, by kernel_rfl⟩, by kernel_rfl⟩, by kernel_rfl⟩, by kernel_rfl⟩, by kernel_rfl⟩, by kernel_rfl⟩, by kernel_rfl⟩

theorem reads (os : Os) {H : Type} (enc : TypeId × Value → H) : ∃ places, DataW.whole enc Tryz.prog ((World.laidAll Tryz.prog os Rows.evalLogicRow.laid).forCall (fun _ _ => 0) ⟨#[], #[.agg #[.int .i64 0, .int .i64 0, .string ⟨#[]⟩], .agg #[.int .i64 0, .int .i64 0, .string ⟨#[]⟩], .agg #[.int .i64 0, .int .i64 0, .string ⟨#[]⟩]], []⟩).memory Tryz.f4.params.toList Rows.evalLogicSpec.vars false (#[.agg #[.int .i64 0, .int .i64 0, .string ⟨#[]⟩], .agg #[.int .i64 0, .int .i64 0, .string ⟨#[]⟩], .agg #[.int .i64 0, .int .i64 0, .string ⟨#[]⟩]] : Array Value).toList 8 = some ([.agg [.lit (.int .i64 0), .lit (.int .i64 0), .lit (.string [])], .agg [.lit (.int .i64 0), .lit (.int .i64 0), .lit (.string [])], .agg [.lit (.int .i64 0), .lit (.int .i64 0), .lit (.string [])]], [], places) :=
  ⟨[], by kernel_rfl⟩

theorem lifted (os : Os) (started : os.Started) (H : Type) (enc : TypeId × Value → H) (F : Stop.Interp) :
    ReturnsInHanded {} Tryz.checked os 4 .any ((OpenSpec.ofChange Rows.evalLogicSpec).preRow enc Tryz.prog Tryz.f4 Rows.evalLogicRow.domain false Rows.evalLogicRow.laid) (((OpenSpec.ofChange Rows.evalLogicSpec).at F).post enc Tryz.prog Tryz.f4 false true false false) := by
  obtain ⟨places, hx⟩ := reads os enc
  refine returnsInHanded_of_row (C := Tryz.checked) (s := OpenSpec.ofChange Rows.evalLogicSpec) own started (by kernel_rfl) Tryz.func4
    (witness os #[.agg #[.int .i64 0, .int .i64 0, .string ⟨#[]⟩], .agg #[.int .i64 0, .int .i64 0, .string ⟨#[]⟩], .agg #[.int .i64 0, .int .i64 0, .string ⟨#[]⟩]] (by kernel_rfl) (OpenSpec.preRow_of_cond 8 hx (by kernel_rfl) (fun k hk => by cases hk) (by kernel_rfl) (laid_met os _))) ?_
  intro W base args ds gs before hval hW _ _ _ hL hsh _
  exact contract H enc W base args ds gs before hval hW (glob_of hL hsh)

theorem said : Rows.EvalLogicSaid :=
  OpenClaim.holds_of_cond 4 Tryz.f4 rfl rfl rfl rfl rfl rfl rfl ⟨rfl, rfl, rfl, rfl, rfl⟩ rfl rfl rfl rfl rfl (by kernel_rfl) Tryz.func4 joined
    (of_decide_eq_true (by kernel_rfl)) (by unfold Func.isWrapper; first | (rw [if_pos (by decide +kernel)]; kernel_rfl) | (rw [if_neg (by decide +kernel)]; exact ⟨rfl, rfl⟩))
    (fun os started H enc _ F => by rw [OpenClaim.pre_eq_preRow]; exact lifted os started H enc F)

theorem plain (f : FuncId) (fn : Func) (hf : Tryz.pinned.checked.prog.funcNamed Rows.evalLogicRow.func = some f) (hfn : Tryz.pinned.checked.prog.funcs[f]? = some fn) :
    true = Tryz.pinned.checked.prog.looks [] ∧ ∀ (j : Nat) t, fn.params[j]? = some t → Tryz.pinned.checked.prog.wantsStandIn t = false := by
  obtain rfl : f = 4 := Option.some.inj ((show Tryz.prog.funcNamed Rows.evalLogicRow.func = some 4 by kernel_rfl).symm.trans hf) |>.symm
  obtain rfl : fn = Tryz.f4 := (Option.some.inj (Tryz.func4.symm.trans hfn)).symm
  refine ⟨by kernel_rfl, fun j t ht => ?_⟩
  rw [Tryz.params4] at ht
  exact all_of (show #[23, 23, 23].all (fun t => !Tryz.prog.wantsStandIn t) = true by kernel_rfl) (Array.mem_of_getElem? ht)

/-- THE CARD. -/
theorem card : Rows.EvalLogicCardSaid :=
  Claim7.holds_tied_plain_at .later [] _ _ _ _ said (fun _ h => by cases h) (by kernel_rfl) (fun _ h => by cases h) evalLogic_row_tie rfl ⟨rfl, rfl⟩ (by kernel_rfl) rfl plain kGo
end Go.Proofs.YtbdaebjpgdpcnaaGreatDoor.evalLogic
