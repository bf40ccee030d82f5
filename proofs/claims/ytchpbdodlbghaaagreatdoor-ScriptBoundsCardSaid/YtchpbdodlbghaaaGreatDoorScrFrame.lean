import Derived.Test.YtchpbdodlbghaaaGreatDoorRows
import Derived.Test.YtchpbdodlbghaaaGreatDoorProg
import Derived.ProofKit
import Derived.MakeChecks
import Derived.OpenShut
import Derived.Lay
import Derived.LaidLaws
import Derived.Deep.DeepHandedRow
import Derived.Lib.SmallJoins
import Derived.ChangeSlices
import Derived.Carry
import Derived.ChangeMaps5
import Derived.Lib.LaidU8T
import Derived.Lib.LaidIn
import Derived.Test.YtchpbdodlbghaaaGreatDoorGrD
import Derived.Test.YtchpbdodlbghaaaGreatDoorScrLay
import Derived.Test.YtchpbdodlbghaaaGreatDoorScrQ
namespace Go.Proofs.YtchpbdodlbghaaaGreatDoor
open Go.ChangeShapes Go.WideShapes Go.ChangeAt Go.RowKit Go.ChangeMaps
set_option maxRecDepth 100000

theorem one_of {v u : Value} (h : [v] = [u]) : v = u := by simpa using h
theorem all_of {p : TypeId → Bool} {ts : Array TypeId} (h : ts.all (fun t => !p t) = true) {t : TypeId} (ht : t ∈ ts) : p t = false := by
  rw [Array.all_eq_true'] at h
  simpa using h t ht
section
variable {H : Type} {enc : TypeId × Value → H} {P : Program}
theorem trodAll_keep {W W' : World} (hl : laidOutB P = true) : ∀ {ts : List TypeId} {vs : List Value} {ds : List (DataW H)} {ps : List MemPlace}, ts.all (fun t => P.readableRec t && decide (t < P.types.size)) = true →
    DataW.TrodAll enc P W 0 (fun _ => true) true ts vs ds ps → Below W.heap.size W W' → (∀ x ∈ ps, x.block < W.heap.size) → DataW.TrodAll enc P W' 0 (fun b => decide (b < W.heap.size)) true ts vs ds ps
  | [], _, _, _, _, h, _, _ => by
    obtain ⟨rfl, rfl, rfl⟩ := trodAll_nil h
    rfl
  | t :: ts, _, _, _, hr, h, hb, hlt => by
    rw [List.all_cons, Bool.and_eq_true, Bool.and_eq_true, decide_eq_true_eq] at hr
    obtain ⟨v, vs, d, ds, p, q, rfl, rfl, rfl, h1, h2⟩ := trodAll_cons h
    exact ⟨p, q, Below.trod hl hr.1.1 hr.1.2 h1 hb (fun x hx => hlt x (List.mem_append_left _ hx)), trodAll_keep hl hr.2 h2 hb (fun x hx => hlt x (List.mem_append_right _ hx)), rfl⟩
variable {w : World} {base : Nat} {spare : Nat → Bool} {held : Bool} {args : Array Value} {ds : List (DataW H)} {ps : List MemPlace} {t0 t1 : TypeId}
theorem args2 (h : DataW.TrodAll enc P w base spare held [t0, t1] args.toList ds ps) :
    ∃ v0 v1 d0 d1 p0 p1, args = #[v0, v1] ∧ ds = [d0, d1] ∧ ps = p0 ++ p1 ∧ DataW.Trod enc P w base spare held t0 v0 d0 p0 ∧ DataW.Trod enc P w base spare held t1 v1 d1 p1 := by
  obtain ⟨v0, vs, d0, ds', p0, q, hargs, rfl, rfl, h0, hr⟩ := trodAll_cons h
  obtain ⟨v1, vs, d1, ds', p1, q, rfl, rfl, rfl, h1, hr⟩ := trodAll_cons hr
  obtain ⟨rfl, rfl, rfl⟩ := trodAll_nil hr
  exact ⟨v0, v1, d0, d1, p0, p1, by cases args; simp_all, rfl, by simp, h0, h1⟩
end
end Go.Proofs.YtchpbdodlbghaaaGreatDoor

namespace Go.Proofs.YtchpbdodlbghaaaGreatDoor.scrFrame
open Go.ChangeShapes Go.WideShapes Go.ChangeAt Go.RowKit
set_option maxRecDepth 100000

theorem own : ownKnob Tryz.prog.godebug = none := by kernel_rfl
theorem typeRange : (Tryz.prog.globals[8]?).map (·.type) = some 40 := by kernel_rfl
theorem range_of_laid {W : World} (h : laidMet Tryz.prog Rows.scriptBoundsRow.laid W) : ∃ tp p, W.var? Tryz.prog "strconv.ErrRange" = some #[.iface tp p] := by
  obtain ⟨ps, ⟨_, _, _, _, _, _, _, _, _, _, ⟨_, _, _, _, _, _, _, _, _, _, ⟨_, _, _, _, _, _, _, _, _, _, ⟨_, _, _, _, _, _, _, _, _, _, ⟨_, _, _, _, _, _, _, _, _, _, ⟨_, _, _, _, _, _, _, _, _, _, ⟨_, _, _, _, _, _, _, _, _, _, ⟨g, t, cs, f, p, q, hg, ht, hv, hd, hq, _⟩, _⟩, _⟩, _⟩, _⟩, _⟩, _⟩, _⟩, _⟩ := h
  obtain rfl := Option.some.inj (globalRange.symm.trans hg)
  obtain rfl := Option.some.inj (typeRange.symm.trans ht)
  obtain ⟨l⟩ := cs
  obtain ⟨_, u, v, rfl, _, _⟩ := iface_of_trod Tryz.underlying40 hd
  exact ⟨u, v, hv⟩
theorem tabs_of_laid {W : World} (h : laidMet Tryz.prog Rows.scriptBoundsRow.laid W) : Lib.Utf8Tabs 1 2 W :=
  utf8Tabs_of_readsT (ρ := Tryz.lays197_ren) ⟨by kernel_rfl, by kernel_rfl, by kernel_rfl, by kernel_rfl⟩ ⟨by kernel_rfl, by kernel_rfl, by kernel_rfl, by kernel_rfl, by kernel_rfl, by kernel_rfl, by kernel_rfl⟩ (Lib.laidMet.reads h (.tail _ (.tail _ (.tail _ (.head _))))) (Lib.laidMet.reads h (.tail _ (.tail _ (.tail _ (.tail _ (.head _))))))
theorem maxZero : ((begin Tryz.prog (fun _ _ => 0) default).world.heap[3]?).bind Obj.row? = some (#[.int .i64 0], 3) := by
  unfold begin
  rw [waits]
  kernel_rfl
theorem maxBuild : Tryz.prog.buildable 3 = true := by kernel_rfl
theorem maxCells : Tryz.prog.cellTypes Tryz.prog.depth 3 = some [3] := by kernel_rfl
theorem shapeMax : ∀ w : World, w.ShapedOpen Tryz.prog → ∃ m, w.cell? ⟨3, 0, none⟩ = some (.int .i64 m) := by
  intro w h
  obtain ⟨cs, hh, hs, hr⟩ := h.1 3 #[.int .i64 0] 3 (of_decide_eq_true (by kernel_rfl)) maxZero
  obtain ⟨ts, hts, _, hall⟩ := hr maxBuild
  obtain rfl := Option.some.inj (hts.symm.trans maxCells)
  have h1 : 0 < cs.size := by rw [hs]; decide
  obtain ⟨u, hu', hok⟩ := hall 0 cs[0] (by simp [h1])
  obtain rfl : u = 3 := by simpa using hu'.symm
  have hcell : w.cell? ⟨3, 0, none⟩ = some cs[0] := by simp [World.cell?, hh, h1]
  rw [hcell]
  unfold Cell.ok at hok
  rw [Tryz.underlying3] at hok
  cases hv : cs[0] <;> rw [hv] at hok <;> simp at hok
  obtain ⟨rfl, _⟩ := hok
  exact ⟨_, rfl⟩
theorem utf8_keep {f a : Nat} {w w' : World} (h : Lib.Utf8Tabs f a w) (hb : Below w.heap.size w w') : Lib.Utf8Tabs f a w' :=
  ⟨fun c hc => (hb.cell (World.block_lt_of_cell? w _ (h.1 c hc))).trans (h.1 c hc),
    fun i hi => ⟨(hb.cell (World.block_lt_of_cell? w _ (h.2 i hi).1)).trans (h.2 i hi).1, (hb.cell (World.block_lt_of_cell? w _ (h.2 i hi).2)).trans (h.2 i hi).2⟩⟩
theorem glob_of {W : World} (h : laidMetH Tryz.prog Rows.scriptBoundsRow.laid W) (hsh : W.ShapedOpen Tryz.prog) : GlobS W := by
  obtain ⟨m, hm⟩ := shapeMax W hsh
  exact ⟨⟨⟨m, hm⟩, range_of_laid h, World.block_lt_of_cell? W _ hm⟩, tabs_of_laid h⟩

theorem laid_met (os : Os) (args : Array Value) : laidMetH Tryz.prog Rows.scriptBoundsRow.laid ((World.laidAll Tryz.prog os Rows.scriptBoundsRow.laid).forCall (fun _ _ => 0) ⟨#[], args, []⟩).memory := by
  rw [MakeChecks.laidMetH_plain _ _ _ s_plain]
  exact laidMet_laidAll _ (s_fits os) (s_ifaces os)
theorem shaped (os : Os) (args : Array Value) : ((World.laidAll Tryz.prog os Rows.scriptBoundsRow.laid).forCall (fun _ _ => 0) ⟨#[], args, []⟩).Shaped Tryz.prog :=
  World.shaped_of_ZipB (s_zip os args) (s_tail os args)
theorem witness {H : Type} {enc : TypeId × Value → H} {f : FuncId} {fn : Func} {s : OpenSpec} {conds : List PathCond} {apart : Bool} (os : Os) (args : Array Value)
    (hok : Input.okWideB Tryz.prog ((World.laidAll Tryz.prog os Rows.scriptBoundsRow.laid).forCall (fun _ _ => 0) ⟨#[], args, []⟩) f ⟨#[], args, []⟩ = true)
    (hrow : s.preRow enc Tryz.prog fn conds apart Rows.scriptBoundsRow.laid ((World.laidAll Tryz.prog os Rows.scriptBoundsRow.laid).forCall (fun _ _ => 0) ⟨#[], args, []⟩).memory args) :
    ∃ (w : World) (tape : Tape) (i : Input), w.os = os ∧ (w.forCall tape i).Shaped Tryz.prog ∧ i.vars = [] ∧ Input.okWide Tryz.prog (w.forCall tape i) .any w.heap.size f i ∧
      s.preRow enc Tryz.prog fn conds apart Rows.scriptBoundsRow.laid (w.forCall tape i).memory i.args ∧ ({} : Assume).holds Tryz.prog (lone (Frame.enter Tryz.prog f i.args .normal) [] (w.forCall tape i)) :=
  ⟨World.laidAll Tryz.prog os Rows.scriptBoundsRow.laid, fun _ _ => 0, ⟨#[], args, []⟩, World.laidAll_os _ _ _, shaped os args, (Input.okWide_of_okWideB (base := 0) hok).1, (Input.okWide_of_okWideB hok).2, hrow, by
    simp only [Assume.holds]
    exact ⟨by simp, by simp, by simp, by simp, by simp⟩⟩
theorem goes_none {P : Program} (h : P.funcs.any Func.goes = false) (f : FuncId) : P.goes f = false := by
  have h1 : ∀ g : FuncId, (P.funcs[g]?).any Func.goes = false := fun g => by
    cases hg : P.funcs[g]? with
    | none => rfl
    | some fn =>
      have hm := Array.mem_of_getElem? hg
      have := Array.any_eq_false'.1 h fn hm
      simpa using this
  unfold Program.goes
  rw [h]
  simp [h1]
theorem any_none {P : Program} (h : P.funcs.any Func.goes = false) (o : Option FuncId) : o.any P.goes = false := by
  cases o with
  | none => rfl
  | some f => exact goes_none h f
end Go.Proofs.YtchpbdodlbghaaaGreatDoor.scrFrame
