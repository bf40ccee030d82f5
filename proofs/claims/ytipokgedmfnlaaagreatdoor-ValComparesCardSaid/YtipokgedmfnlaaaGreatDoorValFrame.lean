/-
  The frame of these laws: what the listed variables give a walk; a world for the witness.
-/
import Derived.Test.YtipokgedmfnlaaaGreatDoorCards
import Derived.Test.YtipokgedmfnlaaaGreatDoorTie
import Derived.Test.YtipokgedmfnlaaaGreatDoorValB
import Derived.Lib.LaidU8T
import Derived.Lib.LaidIn
import Derived.ProofKit
import Derived.OpenShut
import Derived.Lay
import Derived.LaidLaws
import Derived.Deep.DeepHandedRow
namespace Go.Proofs.YtipokgedmfnlaaaGreatDoor.valFrame
open Go.ChangeShapes Go.WideShapes Go.ChangeAt Go.RowKit
set_option maxRecDepth 100000

theorem own : ownKnob Tryz.prog.godebug = none := by kernel_rfl
theorem tabs_of_laid {W : World} (h : laidMet Tryz.prog Rows.valChainsRow.laid W) : Lib.Utf8Tabs 0 1 W :=
  utf8Tabs_of_readsT (ρ := Tryz.lays197_ren) ⟨by kernel_rfl, by kernel_rfl, by kernel_rfl, by kernel_rfl⟩ ⟨by kernel_rfl, by kernel_rfl, by kernel_rfl, by kernel_rfl, by kernel_rfl, by kernel_rfl, by kernel_rfl⟩ (Lib.laidMet.reads h (.tail _ (.tail _ (.tail _ (.tail _ (.head _)))))) (Lib.laidMet.reads h (.tail _ (.tail _ (.tail _ (.head _)))))
theorem shapeMax : ∀ w : World, w.ShapedOpen Tryz.prog → ∃ m, w.cell? ⟨2, 0, none⟩ = some (.int .i64 m) := by
  intro w h
  obtain ⟨cs, hh, hs, hr⟩ := h.1 2 #[.int .i64 0] 3 (of_decide_eq_true (by kernel_rfl)) (by kernel_rfl)
  obtain ⟨ts, hts, _, hall⟩ := hr (by kernel_rfl)
  obtain rfl := Option.some.inj (hts.symm.trans (show Tryz.prog.cellTypes Tryz.prog.depth 3 = some [3] by kernel_rfl))
  have h1 : 0 < cs.size := by rw [hs]; decide
  obtain ⟨u, hu', hok⟩ := hall 0 cs[0] (by simp [h1])
  obtain rfl : u = 3 := by simpa using hu'.symm
  have hcell : w.cell? ⟨2, 0, none⟩ = some cs[0] := by simp [World.cell?, hh, h1]
  rw [hcell]
  unfold Cell.ok at hok
  rw [Tryz.underlying3] at hok
  cases hv : cs[0] <;> rw [hv] at hok <;> simp at hok
  obtain ⟨rfl, _⟩ := hok
  exact ⟨_, rfl⟩
theorem glob_of {W : World} (h : laidMetH Tryz.prog Rows.valChainsRow.laid W) (hsh : W.ShapedOpen Tryz.prog) : Glob W := by
  obtain ⟨m, hm⟩ := shapeMax W hsh
  exact ⟨⟨m, hm⟩, tabs_of_laid h, World.block_lt_of_cell? W _ hm⟩

/-- A world for the witness: the settled one, each listed variable holding what the library's text lays. -/
theorem laid_met (os : Os) (args : Array Value) : laidMetH Tryz.prog Rows.valChainsRow.laid ((World.laidAll Tryz.prog os Rows.valChainsRow.laid).forCall (fun _ _ => 0) ⟨#[], args, []⟩).memory := by
  rw [MakeChecks.laidMetH_plain _ _ _ (by kernel_rfl)]
  exact laidMet_laidAll _ (by kernel_rfl) (by kernel_rfl)
theorem shaped (os : Os) (args : Array Value) : ((World.laidAll Tryz.prog os Rows.valChainsRow.laid).forCall (fun _ _ => 0) ⟨#[], args, []⟩).Shaped Tryz.prog :=
  World.shaped_of_ZipB (by kernel_rfl) (by kernel_rfl)
theorem witness {H : Type} {enc : TypeId × Value → H} {f : FuncId} {fn : Func} {s : OpenSpec} {conds : List PathCond} {apart : Bool} (os : Os) (args : Array Value)
    (hok : Input.okWideB Tryz.prog ((World.laidAll Tryz.prog os Rows.valChainsRow.laid).forCall (fun _ _ => 0) ⟨#[], args, []⟩) f ⟨#[], args, []⟩ = true)
    (hrow : s.preRow enc Tryz.prog fn conds apart Rows.valChainsRow.laid ((World.laidAll Tryz.prog os Rows.valChainsRow.laid).forCall (fun _ _ => 0) ⟨#[], args, []⟩).memory args) :
    ∃ (w : World) (tape : Tape) (i : Input), w.os = os ∧ (w.forCall tape i).Shaped Tryz.prog ∧ i.vars = [] ∧ Input.okWide Tryz.prog (w.forCall tape i) .any w.heap.size f i ∧
      s.preRow enc Tryz.prog fn conds apart Rows.valChainsRow.laid (w.forCall tape i).memory i.args ∧ ({} : Assume).holds Tryz.prog (lone (Frame.enter Tryz.prog f i.args .normal) [] (w.forCall tape i)) :=
  ⟨World.laidAll Tryz.prog os Rows.valChainsRow.laid, fun _ _ => 0, ⟨#[], args, []⟩, World.laidAll_os _ _ _, shaped os args, (Input.okWide_of_okWideB (base := 0) hok).1, (Input.okWide_of_okWideB hok).2, hrow, by
    simp only [Assume.holds]
    exact ⟨by simp, by simp, by simp, by simp, by simp⟩⟩
end Go.Proofs.YtipokgedmfnlaaaGreatDoor.valFrame
