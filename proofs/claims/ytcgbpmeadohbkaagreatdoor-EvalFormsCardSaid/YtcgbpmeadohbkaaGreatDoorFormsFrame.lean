import Derived.Test.YtcgbpmeadohbkaaGreatDoorCards
import Derived.Test.YtcgbpmeadohbkaaGreatDoorTie
import Derived.Test.YtcgbpmeadohbkaaGreatDoorProg
import Derived.ProofKit
import Derived.OpenShut
import Derived.Lay
import Derived.LaidLaws
import Derived.Deep.DeepHandedRow
import Derived.Lib.SmallJoins
import Derived.ChangeSlices
import Derived.Carry
import Derived.ChangeMaps5
namespace Go.Proofs.YtcgbpmeadohbkaaGreatDoor
open Go.ChangeShapes Go.WideShapes Go.ChangeAt Go.RowKit Go.ChangeMaps
set_option maxRecDepth 100000
theorem laidOut : laidOutB Tryz.prog = true := by kernel_rfl
theorem all_of {p : TypeId → Bool} {ts : Array TypeId} (h : ts.all (fun t => !p t) = true) {t : TypeId} (ht : t ∈ ts) : p t = false := by
 rw [Array.all_eq_true'] at h
 simpa using h t ht
section
variable {H : Type} {enc : TypeId × Value → H} {P : Program}
theorem trodAll_keep {W W' : World} (hl : laidOutB P = true) : ∀ {ts : List TypeId} {vs : List Value} {ds : List (DataW H)} {ps : List MemPlace}, ts.all (fun t => P.readableRec t && decide (t < P.types.size)) = true →
 DataW.TrodAll enc P W 0 (fun _ => true) true ts vs ds ps → Below W.heap.size W W' → (∀ x ∈ ps, x.block < W.heap.size) → DataW.TrodAll enc P W' 0 (fun b => decide (b < W.heap.size)) true ts vs ds ps
 | [], _, _, _, _, h, _, _ => by
  obtain ⟨rfl, rfl, rfl⟩ := trodAll_nil h
  rfl
 | t :: ts, _, _, _, hr, h, hb, hlt => by
  rw [List.all_cons, Bool.and_eq_true, Bool.and_eq_true, decide_eq_true_eq] at hr
  obtain ⟨v, vs, d, ds, p, q, rfl, rfl, rfl, h1, h2⟩ := trodAll_cons h
  exact ⟨p, q, Below.trod hl hr.1.1 hr.1.2 h1 hb (fun x hx => hlt x (List.mem_append_left _ hx)), trodAll_keep hl hr.2 h2 hb (fun x hx => hlt x (List.mem_append_right _ hx)), rfl⟩
variable {w : World} {base : Nat} {spare : Nat → Bool} {held : Bool} {args : Array Value} {ds : List (DataW H)} {ps : List MemPlace} {t0 t1 t2 t3 t4 : TypeId}
theorem args1 (h : DataW.TrodAll enc P w base spare held [t0] args.toList ds ps) :
 ∃ v0 d0 p0, args = #[v0] ∧ ds = [d0] ∧ ps = p0 ∧ DataW.Trod enc P w base spare held t0 v0 d0 p0 := by
 obtain ⟨v0, vs, d0, ds', p0, q, hargs, rfl, rfl, h0, hr⟩ := trodAll_cons h
 obtain ⟨rfl, rfl, rfl⟩ := trodAll_nil hr
 exact ⟨v0, d0, p0, by cases args; simp_all, rfl, by simp, h0⟩
end
end Go.Proofs.YtcgbpmeadohbkaaGreatDoor
namespace Go.Proofs.YtcgbpmeadohbkaaGreatDoor.formsFrame
open Go.ChangeShapes Go.WideShapes Go.ChangeAt Go.RowKit
set_option maxRecDepth 100000
theorem own : ownKnob Tryz.prog.godebug = none := by kernel_rfl
theorem laid_met (os : Os) (args : Array Value) : laidMetH Tryz.prog Rows.evalFormsRow.laid ((World.laidAll Tryz.prog os Rows.evalFormsRow.laid).forCall (fun _ _ => 0) ⟨#[], args, []⟩).memory := by
 rw [MakeChecks.laidMetH_plain _ _ _ (by kernel_rfl)]
 exact laidMet_laidAll _ (by kernel_rfl) (by kernel_rfl)
theorem shaped (os : Os) (args : Array Value) : ((World.laidAll Tryz.prog os Rows.evalFormsRow.laid).forCall (fun _ _ => 0) ⟨#[], args, []⟩).Shaped Tryz.prog :=
 World.shaped_of_ZipB (by kernel_rfl) (by kernel_rfl)
theorem witness {H : Type} {enc : TypeId × Value → H} {f : FuncId} {fn : Func} {s : OpenSpec} {conds : List PathCond} {apart : Bool} (os : Os) (args : Array Value)
 (hok : Input.okWideB Tryz.prog ((World.laidAll Tryz.prog os Rows.evalFormsRow.laid).forCall (fun _ _ => 0) ⟨#[], args, []⟩) f ⟨#[], args, []⟩ = true)
 (hrow : s.preRow enc Tryz.prog fn conds apart Rows.evalFormsRow.laid ((World.laidAll Tryz.prog os Rows.evalFormsRow.laid).forCall (fun _ _ => 0) ⟨#[], args, []⟩).memory args) :
 ∃ (w : World) (tape : Tape) (i : Input), w.os = os ∧ (w.forCall tape i).Shaped Tryz.prog ∧ i.vars = [] ∧ Input.okWide Tryz.prog (w.forCall tape i) .any w.heap.size f i ∧
  s.preRow enc Tryz.prog fn conds apart Rows.evalFormsRow.laid (w.forCall tape i).memory i.args ∧ ({} : Assume).holds Tryz.prog (lone (Frame.enter Tryz.prog f i.args .normal) [] (w.forCall tape i)) :=
 ⟨World.laidAll Tryz.prog os Rows.evalFormsRow.laid, fun _ _ => 0, ⟨#[], args, []⟩, World.laidAll_os _ _ _, shaped os args, (Input.okWide_of_okWideB (base := 0) hok).1, (Input.okWide_of_okWideB hok).2, hrow, by
  simp only [Assume.holds]
  exact ⟨by simp, by simp, by simp, by simp, by simp⟩⟩
theorem goes_none {P : Program} (h : P.funcs.any Func.goes = false) (f : FuncId) : P.goes f = false := by
 have h1 : ∀ g : FuncId, (P.funcs[g]?).any Func.goes = false := fun g => by
  cases hg : P.funcs[g]? with
  | none => rfl
  | some fn =>
   have hm := Array.mem_of_getElem? hg
   have := Array.any_eq_false'.1 h fn hm
   simpa using this
 unfold Program.goes
 rw [h]
 simp [h1]
theorem any_none {P : Program} (h : P.funcs.any Func.goes = false) (o : Option FuncId) : o.any P.goes = false := by
 cases o with
 | none => rfl
 | some f => exact goes_none h f
theorem noGo : Tryz.pinned.checked.prog.funcs.any Func.goes = false := by kernel_rfl
end Go.Proofs.YtcgbpmeadohbkaaGreatDoor.formsFrame
