/-
  The frame of the lexer's laws: what the listed variables give a walk; a world for the witness.
-/
import Derived.Test.YtjjmifidjeaefaaDoorCards
import Derived.Test.YtjjmifidjeaefaaDoorTie
import Derived.Test.YtjjmifidjeaefaaDoorLexRemarksLaw
import Derived.ProofKit
import Derived.OpenShut
import Derived.Lay
import Derived.LaidLaws
import Derived.Deep.DeepHandedRow
namespace Go.Proofs.YtjjmifidjeaefaaDoor.lexFrame
open Go.ChangeShapes Go.WideShapes Go.ChangeAt Go.RowKit
set_option maxRecDepth 100000

theorem own : ownKnob Tryd.prog.godebug = none := by kernel_rfl
theorem star : "*" ++ "errors.errorString" = "*errors.errorString" := by decide
theorem rowErr (u : TypeId) (h : Tryd.prog.typeName? 3 u = some "*errors.errorString") : u = 155 :=
  typeName_ptr_named (nm := "errors.errorString") (by rw [star]; kernel_rfl) (by kernel_rfl) (by decide) u (by rw [star]; exact h)
theorem typeRange : (Tryd.prog.globals[3]?).map (·.type) = some 82 := by kernel_rfl
theorem cellsErr : Tryd.prog.cellsOf 157 = 1 := by kernel_rfl
theorem cellsStr : Tryd.prog.cellsOf 9 = 1 := by kernel_rfl

theorem range_of_laid {W : World} (h : laidMet Tryd.prog Rows.lexRemarksRow.laid W) : ∃ tp p, W.var? Tryd.prog "strconv.ErrRange" = some #[.iface tp p] := by
  obtain ⟨ps, ⟨_, _, _, _, _, _, _, _, _, _, ⟨_, _, _, _, _, _, _, _, _, _, ⟨_, _, _, _, _, _, _, _, _, _, ⟨_, _, _, _, _, _, _, _, _, _, ⟨g, t, cs, f, p, q, hg, ht, hv, hd, hq, e4⟩, e3⟩, e2⟩, e1⟩, e0⟩, _, hrows⟩ := h
  obtain rfl := Option.some.inj (globalRange.symm.trans hg)
  obtain rfl := Option.some.inj (typeRange.symm.trans ht)
  subst e4 e3 e2 e1 e0
  obtain ⟨l⟩ := cs
  have ok : ∀ u v, l = [.iface u v] → Value.okWide Tryd.prog W .any 0 u v := fun u v e => by
    subst e
    exact (hrows 3 0 (by simp [MemPlace.row])).2 u v (by simpa using World.var?_cell hg hv 0)
  obtain ⟨a, s, rfl, _⟩ := errorString_of_trod Tryd.underlying82 rowErr Tryd.underlying155 Tryd.underlying157 rfl rfl Tryd.underlying9 cellsErr cellsStr hd ok
  exact ⟨_, _, hv⟩
theorem shapeMax : ∀ w : World, w.ShapedOpen Tryd.prog → ∃ m, w.cell? ⟨0, 0, none⟩ = some (.int .i64 m) := by
  intro w h
  obtain ⟨cs, hh, hs, hr⟩ := h.1 0 #[.int .i64 0] 3 (of_decide_eq_true (by kernel_rfl)) (by kernel_rfl)
  obtain ⟨ts, hts, _, hall⟩ := hr (by kernel_rfl)
  obtain rfl := Option.some.inj (hts.symm.trans (show Tryd.prog.cellTypes Tryd.prog.depth 3 = some [3] by kernel_rfl))
  have h1 : 0 < cs.size := by rw [hs]; decide
  obtain ⟨u, hu', hok⟩ := hall 0 cs[0] (by simp [h1])
  obtain rfl : u = 3 := by simpa using hu'.symm
  have hcell : w.cell? ⟨0, 0, none⟩ = some cs[0] := by simp [World.cell?, hh, h1]
  rw [hcell]
  unfold Cell.ok at hok
  rw [Tryd.underlying3] at hok
  cases hv : cs[0] <;> rw [hv] at hok <;> simp at hok
  obtain ⟨rfl, _⟩ := hok
  exact ⟨_, rfl⟩
theorem glob_of {W : World} (h : laidMetH Tryd.prog Rows.lexRemarksRow.laid W) (hsh : W.ShapedOpen Tryd.prog) : Glob W := by
  obtain ⟨m, hm⟩ := shapeMax W hsh
  refine ⟨⟨m, hm⟩, range_of_laid h, ?_⟩
  rcases Nat.eq_zero_or_pos W.heap.size with h0 | h0
  · simp [World.cell?, Array.getElem?_eq_none (by omega : W.heap.size ≤ 0)] at hm
  · exact h0

/-- A world for the witness: the settled one, each listed variable holding what the library's text lays. -/
theorem laid_met (os : Os) (args : Array Value) : laidMetH Tryd.prog Rows.lexRemarksRow.laid ((World.laidAll Tryd.prog os Rows.lexRemarksRow.laid).forCall (fun _ _ => 0) ⟨#[], args, []⟩).memory := by
  rw [MakeChecks.laidMetH_plain _ _ _ (by kernel_rfl)]
  exact laidMet_laidAll _ (by kernel_rfl) (by kernel_rfl)
theorem shaped (os : Os) (args : Array Value) : ((World.laidAll Tryd.prog os Rows.lexRemarksRow.laid).forCall (fun _ _ => 0) ⟨#[], args, []⟩).Shaped Tryd.prog :=
  World.shaped_of_ZipB (by kernel_rfl) (by kernel_rfl)
theorem witness {H : Type} {enc : TypeId × Value → H} {f : FuncId} {fn : Func} {s : OpenSpec} {conds : List PathCond} {apart : Bool} (os : Os) (args : Array Value)
    (hok : Input.okWideB Tryd.prog ((World.laidAll Tryd.prog os Rows.lexRemarksRow.laid).forCall (fun _ _ => 0) ⟨#[], args, []⟩) f ⟨#[], args, []⟩ = true)
    (hrow : s.preRow enc Tryd.prog fn conds apart Rows.lexRemarksRow.laid ((World.laidAll Tryd.prog os Rows.lexRemarksRow.laid).forCall (fun _ _ => 0) ⟨#[], args, []⟩).memory args) :
    ∃ (w : World) (tape : Tape) (i : Input), w.os = os ∧ (w.forCall tape i).Shaped Tryd.prog ∧ i.vars = [] ∧ Input.okWide Tryd.prog (w.forCall tape i) .any w.heap.size f i ∧
      s.preRow enc Tryd.prog fn conds apart Rows.lexRemarksRow.laid (w.forCall tape i).memory i.args ∧ ({} : Assume).holds Tryd.prog (lone (Frame.enter Tryd.prog f i.args .normal) [] (w.forCall tape i)) :=
  ⟨World.laidAll Tryd.prog os Rows.lexRemarksRow.laid, fun _ _ => 0, ⟨#[], args, []⟩, World.laidAll_os _ _ _, shaped os args, (Input.okWide_of_okWideB (base := 0) hok).1, (Input.okWide_of_okWideB hok).2, hrow, by
    simp only [Assume.holds]
    exact ⟨by simp, by simp, by simp, by simp, by simp⟩⟩
end Go.Proofs.YtjjmifidjeaefaaDoor.lexFrame
