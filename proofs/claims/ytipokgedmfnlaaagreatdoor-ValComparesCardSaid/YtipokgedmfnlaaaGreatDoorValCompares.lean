/-
  The law of compared values holds: for any two values, any kind and level the call returns true, and the arguments read as they did. No condition; the listed variables of Go's library read as its text lays them (the card ties them).
-/
import Derived.Test.YtipokgedmfnlaaaGreatDoorValFrame
import Derived.Test.YtipokgedmfnlaaaGreatDoorCard
import Derived.Test.YtipokgedmfnlaaaGreatDoorValComparesLaw
namespace Go.Proofs.YtipokgedmfnlaaaGreatDoor.valCompares
open Go.ChangeShapes Go.WideShapes Go.ChangeAt Go.RowKit Go.ChangeMaps valFrame
set_option maxRecDepth 100000

theorem contract (H : Type) (enc : TypeId × Value → H) (W : World) (base : Nat) (args : Array Value) (ds gs : List (DataW H)) (before : List MemPlace)
    (hval : ∀ (j : Nat) t v, Tryz.f6.params[j]? = some t → args[j]? = some v → Value.okWide Tryz.prog W .any base t v)
    (hW : DataW.Whole enc Tryz.prog Tryz.f6.params.toList Rows.valComparesSpec.vars false W args.toList ds gs before) (hG : Glob W) (hsz : (DataW.weightsEach Tryz.prog (Tryz.f6.params.toList ++ (OpenSpec.ofChange Rows.valComparesSpec).bare.plain.varTypes Tryz.prog) (ds ++ gs)).all (· ≤ reachBytes) = true) :
    Calls Tryz.prog 6 args W fun e W' => ∃ v, e = .returned v ∧ Rows.valComparesSpec.post enc Tryz.prog Tryz.f6 false true false false W args v W' := by
  have hW' := hW
  obtain ⟨p, q, hA0, hV, rfl, hfz, hnd⟩ := hW
  have hA : DataW.TrodAll enc Tryz.prog W 0 (fun _ => true) true Tryz.f6.params.toList args.toList ds p := hA0
  rw [Tryz.params6] at hA hval
  obtain ⟨rfl, rfl⟩ := trodVars_none hV
  simp only [List.append_nil] at hW'
  have hlt : ∀ x ∈ p, x.block < W.heap.size := fun x hx => by simpa using hW'.lt x hx

  obtain ⟨v0, v1, v2, v3, d0, d1, d2, d3, p0, p1, p2, p3, rfl, rfl, hp, h0, h1, h2, h3⟩ := args4 hA
  have hlaw : Calls Tryz.prog 6 #[v0, v1, v2, v3] W fun e w' => e = .returned (.bool true) ∧ Below W.heap.size W w' := by
    clear hW' hlt hA0 hA hp hfz hnd
    obtain ⟨c00, c01, c02, y00, y01, y02, q0, rfl, rfl, rfl, z00, z01, z02⟩ := Joins.open_agg3 Tryz.underlying45 (by kernel_rfl) (show Tryz.prog.cellsOf 45 = 3 by kernel_rfl) (hval 0 45 v0 rfl rfl) h0
    obtain ⟨k0, e00, j00, g00⟩ := DataW.trod_int Tryz.underlying3 z00
    obtain rfl := one_of e00
    obtain ⟨m0, e01, j01, g01⟩ := DataW.trod_int Tryz.underlying2 z01
    obtain rfl := one_of e01
    obtain ⟨s0, e02, j02, g02⟩ := DataW.trod_string Tryz.underlying9 z02
    obtain rfl := one_of e02
    obtain ⟨c10, c11, c12, y10, y11, y12, q1, rfl, rfl, rfl, z10, z11, z12⟩ := Joins.open_agg3 Tryz.underlying45 (by kernel_rfl) (show Tryz.prog.cellsOf 45 = 3 by kernel_rfl) (hval 1 45 v1 rfl rfl) h1
    obtain ⟨k1, e10, j10, g10⟩ := DataW.trod_int Tryz.underlying3 z10
    obtain rfl := one_of e10
    obtain ⟨m1, e11, j11, g11⟩ := DataW.trod_int Tryz.underlying2 z11
    obtain rfl := one_of e11
    obtain ⟨s1, e12, j12, g12⟩ := DataW.trod_string Tryz.underlying9 z12
    obtain rfl := one_of e12
    obtain ⟨x2, rfl, rfl, rfl, w2⟩ := open_int Tryz.underlying3 (hval 2 3 v2 rfl rfl) h2
    obtain ⟨x3, rfl, rfl, rfl, w3⟩ := open_int Tryz.underlying3 (hval 3 3 v3 rfl rfl) h3
    rw [Tryz.params6] at hsz
    have hz0 : s0.size ≤ 140737488355328 := by
      have h := List.all_eq_true.1 hsz _ (DataW.weights_mem_each (j := 0) (t := 45) rfl rfl s0.data.toList.length (by simp [DataW.weights, Tryz.underlying45, DataW.weightsEach, j02]))
      have h2 : s0.data.toList.length ≤ reachBytes := by simpa using h
      have h3 := reachBytes_lt
      rw [Array.length_toList] at h2
      exact Nat.le_trans h2 (by omega)
    have hz1 : s1.size ≤ 140737488355328 := by
      have h := List.all_eq_true.1 hsz _ (DataW.weights_mem_each (j := 1) (t := 45) rfl rfl s1.data.toList.length (by simp [DataW.weights, Tryz.underlying45, DataW.weightsEach, j12]))
      have h2 : s1.data.toList.length ≤ reachBytes := by simpa using h
      have h3 := reachBytes_lt
      rw [Array.length_toList] at h2
      exact Nat.le_trans h2 (by omega)
    exact law_compares k0 m0 s0 k1 m1 s1 x2 x3 W hG hz0 hz1
  refine hlaw.mono fun e W' ⟨he, hb⟩ => ?_
  subst he
  exact ⟨_, rfl, _, [], _, [], p, [], hW', trodAll_mk1 (shut_bool Tryz.underlying4 _), trodAll_keep laidOut (by kernel_rfl) hA0 hb hlt, rfl, hb.frame _, fun h => by cases h⟩

theorem kIn : (Rows.valComparesRow.inPlace == Tryz.pinned.checked.prog.inPlace 6) = true := by kernel_rfl
theorem kUn : (Rows.valComparesRow.unfollowed == Tryz.pinned.checked.prog.unfollowed 6) = true := by kernel_rfl
theorem kRe : (Rows.valComparesRow.recurses == Tryz.pinned.checked.prog.recurses 6) = true := by kernel_rfl
theorem kNa : (Rows.valComparesRow.named == Tryz.pinned.checked.prog.varsNamed 6) = true := by kernel_rfl
theorem kGo : false = Rows.valComparesRow.goesBy Tryz.pinned.checked.prog := by kernel_rfl
theorem joined : joinedFacts Tryz.pinned.checked.prog 6 Tryz.f6 (OpenSpec.ofChange Rows.valComparesSpec).bare Rows.valComparesRow = true := by
  unfold joinedFacts
  simp only [Bool.and_eq_true]
  exact ⟨⟨⟨⟨⟨⟨⟨⟨⟨⟨⟨⟨⟨⟨⟨⟨⟨⟨⟨⟨⟨⟨⟨⟨⟨⟨⟨⟨⟨⟨⟨by kernel_rfl, by kernel_rfl⟩, by kernel_rfl⟩, by kernel_rfl⟩, by kernel_rfl⟩, by kernel_rfl⟩, by kernel_rfl⟩, by kernel_rfl⟩, by kernel_rfl⟩, kIn⟩, kUn⟩, kRe⟩, kNa⟩, by kernel_rfl⟩, by kernel_rfl⟩, by kernel_rfl⟩, by kernel_rfl⟩, by kernel_rfl⟩, by kernel_rfl⟩, by kernel_rfl⟩, by kernel_rfl⟩, by kernel_rfl⟩, by kernel_rfl⟩, by kernel_rfl⟩, by kernel_rfl⟩, by kernel_rfl⟩, by kernel_rfl⟩, by kernel_rfl⟩, by kernel_rfl⟩, by kernel_rfl⟩, by kernel_rfl⟩, by kernel_rfl⟩

theorem reads (os : Os) {H : Type} (enc : TypeId × Value → H) : ∃ places, DataW.whole enc Tryz.prog ((World.laidAll Tryz.prog os Rows.valComparesRow.laid).forCall (fun _ _ => 0) ⟨#[], #[.agg #[.int .i64 0, .int .i64 0, .string ⟨#[]⟩], .agg #[.int .i64 0, .int .i64 0, .string ⟨#[]⟩], .int .i64 0, .int .i64 0], []⟩).memory Tryz.f6.params.toList Rows.valComparesSpec.vars false (#[.agg #[.int .i64 0, .int .i64 0, .string ⟨#[]⟩], .agg #[.int .i64 0, .int .i64 0, .string ⟨#[]⟩], .int .i64 0, .int .i64 0] : Array Value).toList 8 = some ([.agg [.lit (.int .i64 0), .lit (.int .i64 0), .lit (.string [])], .agg [.lit (.int .i64 0), .lit (.int .i64 0), .lit (.string [])], .lit (.int .i64 0), .lit (.int .i64 0)], [], places) :=
  ⟨[], by kernel_rfl⟩

theorem lifted (os : Os) (started : os.Started) (H : Type) (enc : TypeId × Value → H) (F : Stop.Interp) :
    ReturnsInHanded {} Tryz.checked os 6 .any ((OpenSpec.ofChange Rows.valComparesSpec).preRow enc Tryz.prog Tryz.f6 Rows.valComparesRow.domain false Rows.valComparesRow.laid) (((OpenSpec.ofChange Rows.valComparesSpec).at F).post enc Tryz.prog Tryz.f6 false true false false) := by
  obtain ⟨places, hx⟩ := reads os enc
  refine returnsInHanded_of_row (C := Tryz.checked) (s := OpenSpec.ofChange Rows.valComparesSpec) own started (by kernel_rfl) Tryz.func6
    (witness os #[.agg #[.int .i64 0, .int .i64 0, .string ⟨#[]⟩], .agg #[.int .i64 0, .int .i64 0, .string ⟨#[]⟩], .int .i64 0, .int .i64 0] (by kernel_rfl) (OpenSpec.preRow_of_cond 8 hx (by kernel_rfl) (fun k hk => by cases hk) (by kernel_rfl) (laid_met os _))) ?_
  intro W base args ds gs before hval hW _ _ hsz hL hsh _
  exact contract H enc W base args ds gs before hval hW (glob_of hL hsh) hsz

theorem said : Rows.ValComparesSaid :=
  OpenClaim.holds_of_cond 6 Tryz.f6 rfl rfl rfl rfl rfl rfl rfl ⟨rfl, rfl, rfl, rfl, rfl⟩ rfl rfl rfl rfl rfl (by kernel_rfl) Tryz.func6 joined
    (of_decide_eq_true (by kernel_rfl)) (by unfold Func.isWrapper; first | (rw [if_pos (by decide +kernel)]; kernel_rfl) | (rw [if_neg (by decide +kernel)]; exact ⟨rfl, rfl⟩))
    (fun os started H enc _ F => by rw [OpenClaim.pre_eq_preRow]; exact lifted os started H enc F)

theorem plain (f : FuncId) (fn : Func) (hf : Tryz.pinned.checked.prog.funcNamed Rows.valComparesRow.func = some f) (hfn : Tryz.pinned.checked.prog.funcs[f]? = some fn) :
    true = Tryz.pinned.checked.prog.looks [] ∧ ∀ (j : Nat) t, fn.params[j]? = some t → Tryz.pinned.checked.prog.wantsStandIn t = false := by
  obtain rfl : f = 6 := Option.some.inj ((show Tryz.prog.funcNamed Rows.valComparesRow.func = some 6 by kernel_rfl).symm.trans hf) |>.symm
  obtain rfl : fn = Tryz.f6 := (Option.some.inj (Tryz.func6.symm.trans hfn)).symm
  refine ⟨by kernel_rfl, fun j t ht => ?_⟩
  rw [Tryz.params6] at ht
  exact all_of (show #[45, 45, 3, 3].all (fun t => !Tryz.prog.wantsStandIn t) = true by kernel_rfl) (Array.mem_of_getElem? ht)

/-- THE CARD. -/
theorem card : Rows.ValComparesCardSaid :=
  Claim7.holds_tied_plain_at .later [] _ _ _ _ said (fun _ h => by cases h) (by kernel_rfl) (fun _ h => by cases h) valCompares_row_tie rfl ⟨rfl, rfl⟩ (by kernel_rfl) rfl plain kGo
end Go.Proofs.YtipokgedmfnlaaaGreatDoor.valCompares
