/-
  The law on the bounds of the console (umlautlaw25.ScriptBounds) holds: for any number and any configuration the call returns true, and the arguments read as they did. Conditions: none.
-/
import Derived.Test.YtchpbdodlbghaaaGreatDoorCards
import Derived.Test.YtchpbdodlbghaaaGreatDoorScrFrame
import Derived.Test.YtchpbdodlbghaaaGreatDoorScrQ
import Derived.Test.YtchpbdodlbghaaaGreatDoorTiZ
namespace Go.Proofs.YtchpbdodlbghaaaGreatDoor.scriptBounds
open Go.ChangeShapes Go.WideShapes Go.ChangeAt Go.RowKit Go.ChangeMaps scrFrame
set_option maxRecDepth 100000

theorem contract (H : Type) (enc : TypeId × Value → H) (W : World) (base : Nat) (args : Array Value) (ds gs : List (DataW H)) (before : List MemPlace)
    (hval : ∀ (j : Nat) t v, Tryz.f3.params[j]? = some t → args[j]? = some v → Value.okWide Tryz.prog W .any base t v)
    (hW : DataW.Whole enc Tryz.prog Tryz.f3.params.toList Rows.scriptBoundsSpec.vars false W args.toList ds gs before) (hglob : GlobS W) :
    Calls Tryz.prog 3 args W fun e W' => ∃ v, e = .returned v ∧ Rows.scriptBoundsSpec.post enc Tryz.prog Tryz.f3 false true false false W args v W' := by
  have hW' := hW
  obtain ⟨p, q, hA0, hV, rfl, hfz, hnd⟩ := hW
  have hA : DataW.TrodAll enc Tryz.prog W 0 (fun _ => true) true Tryz.f3.params.toList args.toList ds p := hA0
  rw [Tryz.params3] at hA hval
  obtain ⟨rfl, rfl⟩ := trodVars_none hV
  simp only [List.append_nil] at hW'
  have hlt : ∀ x ∈ p, x.block < W.heap.size := fun x hx => by simpa using hW'.lt x hx

  obtain ⟨v0, v1, d0, d1, p0, p1, rfl, rfl, hp, h0, h1⟩ := args2 hA
  have hlaw : Calls Tryz.prog 3 #[v0, v1] W fun e w' => e = .returned (.bool true) ∧ Below W.heap.size W w' := by
    clear hW' hlt hA0 hA hp hfz hnd
    obtain ⟨x0, rfl, rfl, rfl, w0⟩ := open_int Tryz.underlying3 (hval 0 3 v0 rfl rfl) h0
    obtain ⟨c0, c1, c2, c3, y0, y1, y2, y3, q1, rfl, rfl, rfl, z0, z1, z2, z3⟩ := Joins.open_agg4 Tryz.underlying23 (by kernel_rfl) (show Tryz.prog.cellsOf 23 = 4 by kernel_rfl) (hval 1 23 v1 rfl rfl) h1
    obtain ⟨k0, e0, j0, g0⟩ := DataW.trod_int Tryz.underlying3 z0
    obtain rfl := one_of e0
    obtain ⟨k1, e1, j1, g1⟩ := DataW.trod_int Tryz.underlying3 z1
    obtain rfl := one_of e1
    obtain ⟨k2, e2, j2, g2⟩ := DataW.trod_int Tryz.underlying3 z2
    obtain rfl := one_of e2
    obtain ⟨k3, e3, j3, g3⟩ := DataW.trod_int Tryz.underlying3 z3
    obtain rfl := one_of e3
    exact law_bounds x0 k0 k1 k2 k3 W (fun V hV => ⟨hglob.l.keep hV, utf8_keep hglob.tabs hV⟩)
  refine hlaw.mono fun e W' ⟨he, hb⟩ => ?_
  subst he
  exact ⟨_, rfl, _, [], _, [], p, [], hW', trodAll_mk1 (shut_bool Tryz.underlying4 _), trodAll_keep laidOutAll (by kernel_rfl) hA0 hb hlt, rfl, hb.frame _, fun h => by cases h⟩

theorem kGo : false = Rows.scriptBoundsRow.goesBy Tryz.pinned.checked.prog := by
  unfold OpenClaim.goesBy Program.goesAt Program.goesFrom
  rw [any_none (P := Tryz.pinned.checked.prog) goesAll]
  rfl
theorem j0 : (Rows.scriptBoundsRow.wf (OpenSpec.ofChange (OpenSpec.ofChange Rows.scriptBoundsSpec).bare)) = true := by kernel_rfl
theorem j3 : (Tryz.f3.params.all (Tryz.pinned.checked.prog.readableRec ·)) = true := by kernel_rfl
theorem j4 : (namedTie Tryz.pinned.checked.prog Rows.scriptBoundsRow.named (OpenSpec.ofChange Rows.scriptBoundsSpec).bare.vars) = true := by kernel_rfl
theorem j5 : (Rows.scriptBoundsRow.stops == []) = true := by kernel_rfl
theorem j6 : (Tryz.pinned.checked.prog.stops == []) = true := by kernel_rfl
theorem j7 : (Rows.scriptBoundsRow.knobs == []) = true := by kernel_rfl
theorem j8 : (Tryz.pinned.checked.prog.stopKnobs == []) = true := by kernel_rfl
theorem j9 : (Rows.scriptBoundsRow.inPlace == Tryz.pinned.checked.prog.inPlace 3) = true := by rw [show Tryz.pinned.checked.prog.inPlace 3 = _ from inPlaceIs]; rfl
theorem j10 : (Rows.scriptBoundsRow.unfollowed == Tryz.pinned.checked.prog.unfollowed 3) = true := by rw [show Tryz.pinned.checked.prog.unfollowed 3 = true from unfollowedIs]; rfl
theorem j11 : (Rows.scriptBoundsRow.recurses == Tryz.pinned.checked.prog.recurses 3) = true := by rw [show Tryz.pinned.checked.prog.recurses 3 = true from recursesIs]; rfl
theorem j12 : (Rows.scriptBoundsRow.named == Tryz.pinned.checked.prog.varsNamed 3) = true := namedIs _ (by kernel_rfl)
theorem j13 : (Rows.scriptBoundsRow.maps == (Tryz.f3.params.toList ++ (OpenSpec.ofChange Rows.scriptBoundsSpec).bare.plain.varTypes Tryz.pinned.checked.prog).any (Tryz.pinned.checked.prog.mapsRec ·)) = true := by kernel_rfl
theorem j14 : (Rows.scriptBoundsRow.ifaces == (Tryz.f3.params.toList ++ (OpenSpec.ofChange Rows.scriptBoundsSpec).bare.plain.varTypes Tryz.pinned.checked.prog).any (Tryz.pinned.checked.prog.ifacesRec ·)) = true := by kernel_rfl
theorem j15 : (Rows.scriptBoundsRow.mapsOut == Tryz.pinned.checked.prog.mapsAmong Tryz.f3.resultTypes.toList) = true := by kernel_rfl
theorem j16 : (Rows.scriptBoundsRow.loops == (Tryz.f3.params.toList ++ (OpenSpec.ofChange Rows.scriptBoundsSpec).bare.plain.varTypes Tryz.pinned.checked.prog).any (Tryz.pinned.checked.prog.loopsFrom ·)) = true := by kernel_rfl
theorem j17 : (Rows.scriptBoundsRow.wideKeys == (Tryz.f3.params.toList ++ (OpenSpec.ofChange Rows.scriptBoundsSpec).bare.plain.varTypes Tryz.pinned.checked.prog ++ Tryz.f3.resultTypes.toList).any (Tryz.pinned.checked.prog.wideKeysFrom ·)) = true := by kernel_rfl
theorem j18 : (OpenSpec.ofChange Rows.scriptBoundsSpec).bare.vars.all (Tryz.pinned.checked.prog.varReadable ·) = true := by kernel_rfl
theorem j19 : (Tryz.f3.resultTypes.all (fun t => Tryz.pinned.checked.prog.readableRec t && decide (t < Tryz.pinned.checked.prog.types.size))) = true := by kernel_rfl
theorem j20 : (Rows.scriptBoundsRow.ifacesOut == Tryz.f3.resultTypes.toList.any (Tryz.pinned.checked.prog.ifacesRec ·)) = true := by kernel_rfl
theorem j21 : (Rows.scriptBoundsRow.loopsOut == Tryz.f3.resultTypes.toList.any (Tryz.pinned.checked.prog.loopsFrom ·)) = true := by kernel_rfl
theorem j22 : (Rows.scriptBoundsRow.plainKeys == Tryz.pinned.checked.prog.plainKeys) = true := by kernel_rfl
theorem j23 : (Rows.scriptBoundsRow.shortTexts.isNone) = true := by kernel_rfl
theorem j26 : (Rows.scriptBoundsRow.lifted == Tryz.pinned.checked.prog.liftsFinal) = true := by kernel_rfl
theorem j27 : (Tryz.pinned.checked.prog.make == some Rows.scriptBoundsRow.make) = true := by kernel_rfl
theorem j28 : (Rows.scriptBoundsRow.kinds == (if Rows.scriptBoundsRow.domain.isEmpty then [] else Tryz.f3.params.toList.map fun t => match Tryz.pinned.checked.prog.underlying t with | some (.int k) => some k | _ => none)) = true := by kernel_rfl
theorem j29 : (Rows.scriptBoundsRow.pinned == Rows.scriptBoundsRow.pinnedBy) = true := by kernel_rfl
theorem j30 : (Rows.scriptBoundsRow.veiled == (Tryz.f3.params.toList ++ (OpenSpec.ofChange Rows.scriptBoundsSpec).bare.plain.varTypes Tryz.pinned.checked.prog ++ Tryz.f3.resultTypes.toList).any (Tryz.pinned.checked.prog.veiledRec ·)) = true := by kernel_rfl
theorem j31 : (Rows.scriptBoundsRow.veiledFits Tryz.pinned.checked.prog Tryz.f3.params.toList (Tryz.f3.params.toList ++ (OpenSpec.ofChange Rows.scriptBoundsSpec).bare.plain.varTypes Tryz.pinned.checked.prog ++ Tryz.f3.resultTypes.toList)) = true := by kernel_rfl
theorem joined : joinedFacts Tryz.pinned.checked.prog 3 Tryz.f3 (OpenSpec.ofChange Rows.scriptBoundsSpec).bare Rows.scriptBoundsRow = true := by
  unfold joinedFacts
  simp only [Bool.and_eq_true]
  exact ⟨⟨⟨⟨⟨⟨⟨⟨⟨⟨⟨⟨⟨⟨⟨⟨⟨⟨⟨⟨⟨⟨⟨⟨⟨⟨⟨⟨⟨⟨⟨j0, laidOutAll⟩, mapsAll⟩, j3⟩, j4⟩, j5⟩, j6⟩, j7⟩, j8⟩, j9⟩, j10⟩, j11⟩, j12⟩, j13⟩, j14⟩, j15⟩, j16⟩, j17⟩, j18⟩, j19⟩, j20⟩, j21⟩, j22⟩, j23⟩, stopsAll⟩, entersAll⟩, j26⟩, j27⟩, j28⟩, j29⟩, j30⟩, j31⟩

theorem reads (os : Os) {H : Type} (enc : TypeId × Value → H) : ∃ places, DataW.whole enc Tryz.prog ((World.laidAll Tryz.prog os Rows.scriptBoundsRow.laid).forCall (fun _ _ => 0) ⟨#[], #[.int .i64 0, .agg #[.int .i64 0, .int .i64 0, .int .i64 0, .int .i64 0]], []⟩).memory Tryz.f3.params.toList Rows.scriptBoundsSpec.vars false (#[.int .i64 0, .agg #[.int .i64 0, .int .i64 0, .int .i64 0, .int .i64 0]] : Array Value).toList 8 = some ([.lit (.int .i64 0), .agg [.lit (.int .i64 0), .lit (.int .i64 0), .lit (.int .i64 0), .lit (.int .i64 0)]], [], places) :=
  ⟨[], by kernel_rfl⟩

theorem lifted (os : Os) (started : os.Started) (H : Type) (enc : TypeId × Value → H) (F : Stop.Interp) :
    ReturnsInHanded {} Tryz.checked os 3 .any ((OpenSpec.ofChange Rows.scriptBoundsSpec).preRow enc Tryz.prog Tryz.f3 Rows.scriptBoundsRow.domain false Rows.scriptBoundsRow.laid) (((OpenSpec.ofChange Rows.scriptBoundsSpec).at F).post enc Tryz.prog Tryz.f3 false true false false) := by
  obtain ⟨places, hx⟩ := reads os enc
  refine returnsInHanded_of_row (C := Tryz.checked) (s := OpenSpec.ofChange Rows.scriptBoundsSpec) own started (by kernel_rfl) Tryz.func3
    (witness os #[.int .i64 0, .agg #[.int .i64 0, .int .i64 0, .int .i64 0, .int .i64 0]] (by kernel_rfl) (OpenSpec.preRow_of_cond 8 hx (by kernel_rfl) (fun k hk => by cases hk) (by kernel_rfl) (laid_met os _))) ?_
  intro W base args ds gs before hval hW _ _ _ hL hsh _
  exact contract H enc W base args ds gs before hval hW (glob_of hL hsh)

theorem said : Rows.ScriptBoundsSaid :=
  OpenClaim.holds_of_cond 3 Tryz.f3 rfl rfl rfl rfl rfl rfl rfl ⟨rfl, rfl, rfl, rfl, rfl⟩ rfl rfl rfl rfl rfl (by kernel_rfl) Tryz.func3 joined
    (of_decide_eq_true (by kernel_rfl)) (by unfold Func.isWrapper; first | (rw [if_pos (by decide +kernel)]; kernel_rfl) | (rw [if_neg (by decide +kernel)]; exact ⟨rfl, rfl⟩))
    (fun os started H enc _ F => by rw [OpenClaim.pre_eq_preRow]; exact lifted os started H enc F)

theorem plain (f : FuncId) (fn : Func) (hf : Tryz.pinned.checked.prog.funcNamed Rows.scriptBoundsRow.func = some f) (hfn : Tryz.pinned.checked.prog.funcs[f]? = some fn) :
    true = Tryz.pinned.checked.prog.looks [] ∧ ∀ (j : Nat) t, fn.params[j]? = some t → Tryz.pinned.checked.prog.wantsStandIn t = false := by
  obtain rfl : f = 3 := Option.some.inj ((show Tryz.prog.funcNamed Rows.scriptBoundsRow.func = some 3 by kernel_rfl).symm.trans hf) |>.symm
  obtain rfl : fn = Tryz.f3 := (Option.some.inj (Tryz.func3.symm.trans hfn)).symm
  refine ⟨looksIs.symm, fun j t ht => ?_⟩
  rw [Tryz.params3] at ht
  exact all_of (show #[3, 23].all (fun t => !Tryz.prog.wantsStandIn t) = true by kernel_rfl) (Array.mem_of_getElem? ht)

theorem card : Rows.ScriptBoundsCardSaid :=
  Claim7.holds_tied_plain_at .later [] _ _ _ _ said (fun _ h => by cases h) (by kernel_rfl) (fun _ h => by cases h) scriptBounds_row_tie rfl ⟨rfl, rfl⟩ (by kernel_rfl) rfl plain kGo
end Go.Proofs.YtchpbdodlbghaaaGreatDoor.scriptBounds
