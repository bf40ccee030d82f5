/-
  The law of ops holds: for every row of numbers, tight or not, the call returns true, and they read as they did. No condition; the listed variables of Go's library read as its text lays them (the card ties them).
-/
import Derived.Test.YtjjmifidjeaefaaDoorLexFrame
import Derived.Test.YtjjmifidjeaefaaDoorLexOpsTight
import Derived.ChangeSlices
import Derived.Carry
import Derived.ChangeMaps5
namespace Go.Proofs.YtjjmifidjeaefaaDoor.lexOps
open Go.ChangeShapes Go.WideShapes Go.ChangeAt Go.RowKit lexFrame Go.ChangeMaps
set_option maxRecDepth 100000

theorem laidOut : laidOutB Tryd.prog = true := by kernel_rfl
theorem cellsInt : Tryd.prog.cellsOf 3 = 1 := by kernel_rfl
theorem block_of {w : World} {a : Addr} {v : Value} (h : w.cell? a = some v) : a.block < w.heap.size := by
  unfold World.cell? at h
  split at h
  · rename_i hb; exact (Array.getElem?_eq_some_iff.1 hb).1
  · cases h
theorem plain_of {W : World} {base : Nat} {v u : Value} (h : Value.okWide Tryd.prog W .any base 33 v) (hc : v.cells.toList = [u]) : v = u := by
  cases v
  case agg cs =>
    unfold Value.okWide at h
    rw [Tryd.underlying33] at h
    simp only at h
    unfold Cell.okWide at h
    rw [Tryd.underlying33] at h
    simp only at h
    unfold Cell.ok at h
    rw [Tryd.underlying33] at h
    simp at h
  all_goals (simp [Value.cells] at hc; exact hc)
theorem contract (H : Type) (enc : TypeId × Value → H) (W : World) (base : Nat) (args : Array Value) (ds gs : List (DataW H)) (before : List MemPlace)
    (hval : ∀ (j : Nat) t v, Tryd.f5.params[j]? = some t → args[j]? = some v → Value.okWide Tryd.prog W .any base t v)
    (hW : DataW.Whole enc Tryd.prog Tryd.f5.params.toList Rows.lexOpsSpec.vars false W args.toList ds gs before) (hG : Glob W) :
    Calls Tryd.prog 5 args W fun e W' => ∃ v, e = .returned v ∧ Rows.lexOpsSpec.post enc Tryd.prog Tryd.f5 false true false false W args v W' := by
  have hW' := hW
  obtain ⟨p, q, hA0, hV, rfl, hfz, hnd⟩ := hW
  have hA : DataW.TrodAll enc Tryd.prog W 0 (fun _ => true) true Tryd.f5.params.toList args.toList ds p := hA0
  rw [Tryd.params5] at hA hval
  obtain ⟨v0, v1, d0, d1, p0, p1, rfl, rfl, rfl, h0, h1⟩ := trodAll_two hA
  obtain ⟨rfl, rfl⟩ := trodVars_none hV
  obtain ⟨x1, rfl, rfl, rfl⟩ := open_bool Tryd.underlying4 (hval 1 4 v1 rfl rfl) h1
  clear hA0
  simp only [List.append_nil] at hW'
  have hlt : ∀ x ∈ p0, x.block < W.heap.size := fun x hx => by simpa using hW'.lt x hx
  have hok := hval 0 33 v0 rfl rfl
  have hlaw : Calls Tryd.prog 5 #[v0, .bool x1] W fun e w' => e = .returned (.bool true) ∧ Below W.heap.size W w' := by
    obtain ⟨fuel, hf⟩ := h0
    rcases open_ints Tryd.underlying33 Tryd.underlying3 cellsInt hf with ⟨hc0, _⟩ | ⟨a, len, cap, zs, hc0, _, hl, _, hz, _, hcell, _⟩
    · have hv : v0 = .slice none 0 0 := plain_of hok hc0
      subst hv
      exact law_ops x1 none 0 0 [] W hG (fun i hi => absurd hi (Nat.not_lt_zero _))
    · have hv : v0 = .slice (some a) len cap := plain_of hok hc0
      subst hv
      simp only [if_true] at hz
      exact law_ops x1 (some a) len cap zs W hG (fun i hi => ⟨a, rfl, hcell i (by omega), block_of (hcell i (by omega))⟩)
  refine hlaw.mono fun e W' ⟨he, hb⟩ => ?_
  subst he
  exact ⟨_, rfl, _, [], _, [], p0 ++ [], [], hW', trodAll_mk1 (shut_bool Tryd.underlying4 _), trodAll_mk2 (Below.trod laidOut (by kernel_rfl) (of_decide_eq_true (by kernel_rfl)) h0 hb hlt) (shut_bool Tryd.underlying4 _), rfl, hb.frame _, fun h => by cases h⟩

theorem reads (os : Os) {H : Type} (enc : TypeId × Value → H) : ∃ places, DataW.whole enc Tryd.prog ((World.laidAll Tryd.prog os Rows.lexOpsRow.laid).forCall (fun _ _ => 0) ⟨#[], #[.slice none 0 0, .bool false], []⟩).memory Tryd.f5.params.toList Rows.lexOpsSpec.vars false #[Value.slice none 0 0, .bool false].toList 8 = some ([.nil, .lit (.bool false)], [], places) :=
  ⟨[], by kernel_rfl⟩

theorem lifted (os : Os) (started : os.Started) (H : Type) (enc : TypeId × Value → H) (F : Stop.Interp) :
    ReturnsInHanded {} Tryd.checked os 5 .any ((OpenSpec.ofChange Rows.lexOpsSpec).preRow enc Tryd.prog Tryd.f5 Rows.lexOpsRow.domain false Rows.lexOpsRow.laid) (((OpenSpec.ofChange Rows.lexOpsSpec).at F).post enc Tryd.prog Tryd.f5 false true false false) := by
  obtain ⟨places, hx⟩ := reads os enc
  refine returnsInHanded_of_row (C := Tryd.checked) (s := OpenSpec.ofChange Rows.lexOpsSpec) own started (by kernel_rfl) Tryd.func5
    (witness os #[.slice none 0 0, .bool false] (by kernel_rfl) (OpenSpec.preRow_of_cond 8 hx (by kernel_rfl) (fun k hk => by cases hk) (by kernel_rfl) (laid_met os _))) ?_
  intro W base args ds gs before hval hW _ _ _ hL hsh _
  exact contract H enc W base args ds gs before hval hW (glob_of hL hsh)

theorem said : Rows.LexOpsSaid :=
  OpenClaim.holds_of_cond 5 Tryd.f5 rfl rfl rfl rfl rfl rfl rfl ⟨rfl, rfl, rfl, rfl, rfl⟩ rfl rfl rfl rfl rfl (by kernel_rfl) Tryd.func5 (by kernel_rfl)
    (of_decide_eq_true (by kernel_rfl)) (by unfold Func.isWrapper; first | (rw [if_pos (by decide +kernel)]; kernel_rfl) | (rw [if_neg (by decide +kernel)]; exact ⟨rfl, rfl⟩))
    (fun os started H enc _ F => by rw [OpenClaim.pre_eq_preRow]; exact lifted os started H enc F)

theorem plain (f : FuncId) (fn : Func) (hf : Tryd.pinned.checked.prog.funcNamed Rows.lexOpsRow.func = some f) (hfn : Tryd.pinned.checked.prog.funcs[f]? = some fn) :
    true = Tryd.pinned.checked.prog.looks [] ∧ ∀ (j : Nat) t, fn.params[j]? = some t → Tryd.pinned.checked.prog.wantsStandIn t = false := by
  obtain rfl : f = 5 := Option.some.inj ((show Tryd.prog.funcNamed Rows.lexOpsRow.func = some 5 by kernel_rfl).symm.trans hf) |>.symm
  obtain rfl : fn = Tryd.f5 := (Option.some.inj (Tryd.func5.symm.trans hfn)).symm
  refine ⟨by kernel_rfl, fun j t ht => ?_⟩
  rw [Tryd.params5] at ht
  have h3 : t = 33 ∨ t = 4 := by
    have := Array.mem_of_getElem? ht
    simpa using this
  rcases h3 with rfl | rfl
  · exact (show Tryd.prog.wantsStandIn 33 = false by kernel_rfl)
  · exact (show Tryd.prog.wantsStandIn 4 = false by kernel_rfl)

/-- THE CARD. -/
theorem card : Rows.LexOpsCardSaid :=
  Claim7.holds_tied_plain_at .later [] _ _ _ _ said (fun _ h => by cases h) (by kernel_rfl) (fun _ h => by cases h) lexOps_row_tie rfl ⟨rfl, rfl⟩ (by kernel_rfl) rfl plain (by kernel_rfl)
end Go.Proofs.YtjjmifidjeaefaaDoor.lexOps
