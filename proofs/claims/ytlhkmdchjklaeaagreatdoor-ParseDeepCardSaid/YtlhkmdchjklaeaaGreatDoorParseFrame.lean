/-
  From a law to its card: arguments that are opened, and that read as they did. The frame of the parser's laws: what the listed variables give a walk; a world for the witness.
-/
import Derived.Test.YtlhkmdchjklaeaaGreatDoorCards
import Derived.Test.YtlhkmdchjklaeaaGreatDoorTie
import Derived.Test.YtlhkmdchjklaeaaGreatDoorProg
import Derived.ProofKit
import Derived.OpenShut
import Derived.Lay
import Derived.LaidLaws
import Derived.Deep.DeepHandedRow
import Derived.Lib.SmallJoins
import Derived.ChangeSlices
import Derived.Carry
import Derived.ChangeMaps5
import Derived.Test.YtlhkmdchjklaeaaGreatDoorLexB
namespace Go.Proofs.YtlhkmdchjklaeaaGreatDoor
open Go.ChangeShapes Go.WideShapes Go.ChangeAt Go.RowKit Go.ChangeMaps
set_option maxRecDepth 100000

theorem laidOut : laidOutB Tryz.prog = true := by kernel_rfl
theorem one_of {v u : Value} (h : [v] = [u]) : v = u := by simpa using h
theorem all_of {p : TypeId → Bool} {ts : Array TypeId} (h : ts.all (fun t => !p t) = true) {t : TypeId} (ht : t ∈ ts) : p t = false := by
  rw [Array.all_eq_true'] at h
  simpa using h t ht
section
variable {H : Type} {enc : TypeId × Value → H} {P : Program}
theorem trodAll_keep {W W' : World} (hl : laidOutB P = true) : ∀ {ts : List TypeId} {vs : List Value} {ds : List (DataW H)} {ps : List MemPlace}, ts.all (fun t => P.readableRec t && decide (t < P.types.size)) = true →
    DataW.TrodAll enc P W 0 (fun _ => true) true ts vs ds ps → Below W.heap.size W W' → (∀ x ∈ ps, x.block < W.heap.size) → DataW.TrodAll enc P W' 0 (fun b => decide (b < W.heap.size)) true ts vs ds ps
  | [], _, _, _, _, h, _, _ => by
    obtain ⟨rfl, rfl, rfl⟩ := trodAll_nil h
    rfl
  | t :: ts, _, _, _, hr, h, hb, hlt => by
    rw [List.all_cons, Bool.and_eq_true, Bool.and_eq_true, decide_eq_true_eq] at hr
    obtain ⟨v, vs, d, ds, p, q, rfl, rfl, rfl, h1, h2⟩ := trodAll_cons h
    exact ⟨p, q, Below.trod hl hr.1.1 hr.1.2 h1 hb (fun x hx => hlt x (List.mem_append_left _ hx)), trodAll_keep hl hr.2 h2 hb (fun x hx => hlt x (List.mem_append_right _ hx)), rfl⟩
variable {w : World} {base : Nat} {spare : Nat → Bool} {held : Bool} {args : Array Value} {ds : List (DataW H)} {ps : List MemPlace} {t0 t1 t2 t3 t4 : TypeId}
theorem args1 (h : DataW.TrodAll enc P w base spare held [t0] args.toList ds ps) :
    ∃ v0 d0 p0, args = #[v0] ∧ ds = [d0] ∧ ps = p0 ∧ DataW.Trod enc P w base spare held t0 v0 d0 p0 := by
  obtain ⟨v0, vs, d0, ds', p0, q, hargs, rfl, rfl, h0, hr⟩ := trodAll_cons h
  obtain ⟨rfl, rfl, rfl⟩ := trodAll_nil hr
  exact ⟨v0, d0, p0, by cases args; simp_all, rfl, by simp, h0⟩
theorem args2 (h : DataW.TrodAll enc P w base spare held [t0, t1] args.toList ds ps) :
    ∃ v0 v1 d0 d1 p0 p1, args = #[v0, v1] ∧ ds = [d0, d1] ∧ ps = p0 ++ p1 ∧ DataW.Trod enc P w base spare held t0 v0 d0 p0 ∧ DataW.Trod enc P w base spare held t1 v1 d1 p1 := by
  obtain ⟨v0, vs, d0, ds', p0, q, hargs, rfl, rfl, h0, hr⟩ := trodAll_cons h
  obtain ⟨v1, vs, d1, ds', p1, q, rfl, rfl, rfl, h1, hr⟩ := trodAll_cons hr
  obtain ⟨rfl, rfl, rfl⟩ := trodAll_nil hr
  exact ⟨v0, v1, d0, d1, p0, p1, by cases args; simp_all, rfl, by simp, h0, h1⟩
theorem args3 (h : DataW.TrodAll enc P w base spare held [t0, t1, t2] args.toList ds ps) :
    ∃ v0 v1 v2 d0 d1 d2 p0 p1 p2, args = #[v0, v1, v2] ∧ ds = [d0, d1, d2] ∧ ps = p0 ++ (p1 ++ p2) ∧ DataW.Trod enc P w base spare held t0 v0 d0 p0 ∧ DataW.Trod enc P w base spare held t1 v1 d1 p1 ∧ DataW.Trod enc P w base spare held t2 v2 d2 p2 := by
  obtain ⟨v0, vs, d0, ds', p0, q, hargs, rfl, rfl, h0, hr⟩ := trodAll_cons h
  obtain ⟨v1, vs, d1, ds', p1, q, rfl, rfl, rfl, h1, hr⟩ := trodAll_cons hr
  obtain ⟨v2, vs, d2, ds', p2, q, rfl, rfl, rfl, h2, hr⟩ := trodAll_cons hr
  obtain ⟨rfl, rfl, rfl⟩ := trodAll_nil hr
  exact ⟨v0, v1, v2, d0, d1, d2, p0, p1, p2, by cases args; simp_all, rfl, by simp, h0, h1, h2⟩
theorem args4 (h : DataW.TrodAll enc P w base spare held [t0, t1, t2, t3] args.toList ds ps) :
    ∃ v0 v1 v2 v3 d0 d1 d2 d3 p0 p1 p2 p3, args = #[v0, v1, v2, v3] ∧ ds = [d0, d1, d2, d3] ∧ ps = p0 ++ (p1 ++ (p2 ++ p3)) ∧ DataW.Trod enc P w base spare held t0 v0 d0 p0 ∧ DataW.Trod enc P w base spare held t1 v1 d1 p1 ∧
      DataW.Trod enc P w base spare held t2 v2 d2 p2 ∧ DataW.Trod enc P w base spare held t3 v3 d3 p3 := by
  obtain ⟨v0, vs, d0, ds', p0, q, hargs, rfl, rfl, h0, hr⟩ := trodAll_cons h
  obtain ⟨v1, vs, d1, ds', p1, q, rfl, rfl, rfl, h1, hr⟩ := trodAll_cons hr
  obtain ⟨v2, vs, d2, ds', p2, q, rfl, rfl, rfl, h2, hr⟩ := trodAll_cons hr
  obtain ⟨v3, vs, d3, ds', p3, q, rfl, rfl, rfl, h3, hr⟩ := trodAll_cons hr
  obtain ⟨rfl, rfl, rfl⟩ := trodAll_nil hr
  exact ⟨v0, v1, v2, v3, d0, d1, d2, d3, p0, p1, p2, p3, by cases args; simp_all, rfl, by simp, h0, h1, h2, h3⟩
theorem args5 (h : DataW.TrodAll enc P w base spare held [t0, t1, t2, t3, t4] args.toList ds ps) :
    ∃ v0 v1 v2 v3 v4 d0 d1 d2 d3 d4 p0 p1 p2 p3 p4, args = #[v0, v1, v2, v3, v4] ∧ ds = [d0, d1, d2, d3, d4] ∧ ps = p0 ++ (p1 ++ (p2 ++ (p3 ++ p4))) ∧ DataW.Trod enc P w base spare held t0 v0 d0 p0 ∧ DataW.Trod enc P w base spare held t1 v1 d1 p1 ∧
      DataW.Trod enc P w base spare held t2 v2 d2 p2 ∧ DataW.Trod enc P w base spare held t3 v3 d3 p3 ∧ DataW.Trod enc P w base spare held t4 v4 d4 p4 := by
  obtain ⟨v0, vs, d0, ds', p0, q, hargs, rfl, rfl, h0, hr⟩ := trodAll_cons h
  obtain ⟨v1, vs, d1, ds', p1, q, rfl, rfl, rfl, h1, hr⟩ := trodAll_cons hr
  obtain ⟨v2, vs, d2, ds', p2, q, rfl, rfl, rfl, h2, hr⟩ := trodAll_cons hr
  obtain ⟨v3, vs, d3, ds', p3, q, rfl, rfl, rfl, h3, hr⟩ := trodAll_cons hr
  obtain ⟨v4, vs, d4, ds', p4, q, rfl, rfl, rfl, h4, hr⟩ := trodAll_cons hr
  obtain ⟨rfl, rfl, rfl⟩ := trodAll_nil hr
  exact ⟨v0, v1, v2, v3, v4, d0, d1, d2, d3, d4, p0, p1, p2, p3, p4, by cases args; simp_all, rfl, by simp, h0, h1, h2, h3, h4⟩
end
end Go.Proofs.YtlhkmdchjklaeaaGreatDoor

namespace Go.Proofs.YtlhkmdchjklaeaaGreatDoor.parseFrame
open Go.ChangeShapes Go.WideShapes Go.ChangeAt Go.RowKit
set_option maxRecDepth 100000

theorem own : ownKnob Tryz.prog.godebug = none := by kernel_rfl
theorem star : "*" ++ "errors.errorString" = "*errors.errorString" := by decide
theorem rowErr (u : TypeId) (h : Tryz.prog.typeName? 3 u = some "*errors.errorString") : u = 371 :=
  typeName_ptr_named (nm := "errors.errorString") (by rw [star]; kernel_rfl) (by kernel_rfl) (by decide) u (by rw [star]; exact h)
theorem typeRange : (Tryz.prog.globals[3]?).map (·.type) = some 95 := by kernel_rfl
theorem cellsErr : Tryz.prog.cellsOf 373 = 1 := by kernel_rfl
theorem cellsStr : Tryz.prog.cellsOf 9 = 1 := by kernel_rfl

theorem range_of_laid {W : World} (h : laidMet Tryz.prog Rows.parseChainsRow.laid W) : ∃ tp p, W.var? Tryz.prog "strconv.ErrRange" = some #[.iface tp p] := by
  obtain ⟨ps, ⟨_, _, _, _, _, _, _, _, _, _, ⟨_, _, _, _, _, _, _, _, _, _, ⟨_, _, _, _, _, _, _, _, _, _, ⟨_, _, _, _, _, _, _, _, _, _, ⟨g, t, cs, f, p, q, hg, ht, hv, hd, hq, e4⟩, e3⟩, e2⟩, e1⟩, e0⟩, _, hrows⟩ := h
  obtain rfl := Option.some.inj (globalRange.symm.trans hg)
  obtain rfl := Option.some.inj (typeRange.symm.trans ht)
  subst e4 e3 e2 e1 e0
  obtain ⟨l⟩ := cs
  have ok : ∀ u v, l = [.iface u v] → Value.okWide Tryz.prog W .any 0 u v := fun u v e => by
    subst e
    exact (hrows 3 0 (by simp [MemPlace.row])).2 u v (by simpa using World.var?_cell hg hv 0)
  obtain ⟨a, s, rfl, _⟩ := errorString_of_trod Tryz.underlying95 rowErr Tryz.underlying371 Tryz.underlying373 rfl rfl Tryz.underlying9 cellsErr cellsStr hd ok
  exact ⟨_, _, hv⟩
theorem shapeMax : ∀ w : World, w.ShapedOpen Tryz.prog → ∃ m, w.cell? ⟨0, 0, none⟩ = some (.int .i64 m) := by
  intro w h
  obtain ⟨cs, hh, hs, hr⟩ := h.1 0 #[.int .i64 0] 3 (of_decide_eq_true (by kernel_rfl)) (by kernel_rfl)
  obtain ⟨ts, hts, _, hall⟩ := hr (by kernel_rfl)
  obtain rfl := Option.some.inj (hts.symm.trans (show Tryz.prog.cellTypes Tryz.prog.depth 3 = some [3] by kernel_rfl))
  have h1 : 0 < cs.size := by rw [hs]; decide
  obtain ⟨u, hu', hok⟩ := hall 0 cs[0] (by simp [h1])
  obtain rfl : u = 3 := by simpa using hu'.symm
  have hcell : w.cell? ⟨0, 0, none⟩ = some cs[0] := by simp [World.cell?, hh, h1]
  rw [hcell]
  unfold Cell.ok at hok
  rw [Tryz.underlying3] at hok
  cases hv : cs[0] <;> rw [hv] at hok <;> simp at hok
  obtain ⟨rfl, _⟩ := hok
  exact ⟨_, rfl⟩
theorem glob_of {W : World} (h : laidMetH Tryz.prog Rows.parseChainsRow.laid W) (hsh : W.ShapedOpen Tryz.prog) : GlobL W := by
  obtain ⟨m, hm⟩ := shapeMax W hsh
  exact ⟨⟨m, hm⟩, range_of_laid h, World.block_lt_of_cell? W _ hm⟩

/-- A world for the witness: the settled one, each listed variable holding what the library's text lays. -/
theorem laid_met (os : Os) (args : Array Value) : laidMetH Tryz.prog Rows.parseChainsRow.laid ((World.laidAll Tryz.prog os Rows.parseChainsRow.laid).forCall (fun _ _ => 0) ⟨#[], args, []⟩).memory := by
  rw [MakeChecks.laidMetH_plain _ _ _ (by kernel_rfl)]
  exact laidMet_laidAll _ (by kernel_rfl) (by kernel_rfl)
theorem shaped (os : Os) (args : Array Value) : ((World.laidAll Tryz.prog os Rows.parseChainsRow.laid).forCall (fun _ _ => 0) ⟨#[], args, []⟩).Shaped Tryz.prog :=
  World.shaped_of_ZipB (by kernel_rfl) (by kernel_rfl)
theorem witness {H : Type} {enc : TypeId × Value → H} {f : FuncId} {fn : Func} {s : OpenSpec} {conds : List PathCond} {apart : Bool} (os : Os) (args : Array Value)
    (hok : Input.okWideB Tryz.prog ((World.laidAll Tryz.prog os Rows.parseChainsRow.laid).forCall (fun _ _ => 0) ⟨#[], args, []⟩) f ⟨#[], args, []⟩ = true)
    (hrow : s.preRow enc Tryz.prog fn conds apart Rows.parseChainsRow.laid ((World.laidAll Tryz.prog os Rows.parseChainsRow.laid).forCall (fun _ _ => 0) ⟨#[], args, []⟩).memory args) :
    ∃ (w : World) (tape : Tape) (i : Input), w.os = os ∧ (w.forCall tape i).Shaped Tryz.prog ∧ i.vars = [] ∧ Input.okWide Tryz.prog (w.forCall tape i) .any w.heap.size f i ∧
      s.preRow enc Tryz.prog fn conds apart Rows.parseChainsRow.laid (w.forCall tape i).memory i.args ∧ ({} : Assume).holds Tryz.prog (lone (Frame.enter Tryz.prog f i.args .normal) [] (w.forCall tape i)) :=
  ⟨World.laidAll Tryz.prog os Rows.parseChainsRow.laid, fun _ _ => 0, ⟨#[], args, []⟩, World.laidAll_os _ _ _, shaped os args, (Input.okWide_of_okWideB (base := 0) hok).1, (Input.okWide_of_okWideB hok).2, hrow, by
    simp only [Assume.holds]
    exact ⟨by simp, by simp, by simp, by simp, by simp⟩⟩
end Go.Proofs.YtlhkmdchjklaeaaGreatDoor.parseFrame
