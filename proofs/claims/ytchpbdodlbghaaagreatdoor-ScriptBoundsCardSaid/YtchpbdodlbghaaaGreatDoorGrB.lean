import Derived.Test.YtchpbdodlbghaaaGreatDoorWai
namespace Go.Proofs.YtchpbdodlbghaaaGreatDoor
open Go Go.Proofs
set_option maxRecDepth 100000
theorem rt0 : (List.range' 0 50).all (rowFine Tryz.prog) = true := by kernel_rfl
theorem rt1 : (List.range' 50 50).all (rowFine Tryz.prog) = true := by kernel_rfl
theorem rt2 : (List.range' 100 50).all (rowFine Tryz.prog) = true := by kernel_rfl
theorem rt3 : (List.range' 150 50).all (rowFine Tryz.prog) = true := by kernel_rfl
theorem rt4 : (List.range' 200 50).all (rowFine Tryz.prog) = true := by kernel_rfl
theorem rt5 : (List.range' 250 50).all (rowFine Tryz.prog) = true := by kernel_rfl
theorem rt6 : (List.range' 300 50).all (rowFine Tryz.prog) = true := by kernel_rfl
theorem rt7 : (List.range' 350 50).all (rowFine Tryz.prog) = true := by kernel_rfl
theorem rt8 : (List.range' 400 50).all (rowFine Tryz.prog) = true := by kernel_rfl
theorem rt9 : (List.range' 450 50).all (rowFine Tryz.prog) = true := by kernel_rfl
theorem rt10 : (List.range' 500 50).all (rowFine Tryz.prog) = true := by kernel_rfl
theorem rt11 : (List.range' 550 50).all (rowFine Tryz.prog) = true := by kernel_rfl
theorem rt12 : (List.range' 600 50).all (rowFine Tryz.prog) = true := by kernel_rfl
theorem rt13 : (List.range' 650 50).all (rowFine Tryz.prog) = true := by kernel_rfl
theorem rt14 : (List.range' 700 46).all (rowFine Tryz.prog) = true := by kernel_rfl
theorem typesFine : (List.range Tryz.prog.types.size).all (rowFine Tryz.prog) = true := by
  rw [sizeT, cutsT]
  simp only [List.all_append, rt0, rt1, rt2, rt3, rt4, rt5, rt6, rt7, rt8, rt9, rt10, rt11, rt12, rt13, rt14, Bool.and_self]
def mrow (P : Program) (n : Nat) (t : TypeId) : Bool := match P.underlying t with | some (.map _ e) => decide (e < n) | _ => true
theorem mr0 : (List.range' 0 50).all (mrow Tryz.prog 746) = true := by kernel_rfl
theorem mr1 : (List.range' 50 50).all (mrow Tryz.prog 746) = true := by kernel_rfl
theorem mr2 : (List.range' 100 50).all (mrow Tryz.prog 746) = true := by kernel_rfl
theorem mr3 : (List.range' 150 50).all (mrow Tryz.prog 746) = true := by kernel_rfl
theorem mr4 : (List.range' 200 50).all (mrow Tryz.prog 746) = true := by kernel_rfl
theorem mr5 : (List.range' 250 50).all (mrow Tryz.prog 746) = true := by kernel_rfl
theorem mr6 : (List.range' 300 50).all (mrow Tryz.prog 746) = true := by kernel_rfl
theorem mr7 : (List.range' 350 50).all (mrow Tryz.prog 746) = true := by kernel_rfl
theorem mr8 : (List.range' 400 50).all (mrow Tryz.prog 746) = true := by kernel_rfl
theorem mr9 : (List.range' 450 50).all (mrow Tryz.prog 746) = true := by kernel_rfl
theorem mr10 : (List.range' 500 50).all (mrow Tryz.prog 746) = true := by kernel_rfl
theorem mr11 : (List.range' 550 50).all (mrow Tryz.prog 746) = true := by kernel_rfl
theorem mr12 : (List.range' 600 50).all (mrow Tryz.prog 746) = true := by kernel_rfl
theorem mr13 : (List.range' 650 50).all (mrow Tryz.prog 746) = true := by kernel_rfl
theorem mr14 : (List.range' 700 46).all (mrow Tryz.prog 746) = true := by kernel_rfl
theorem mapsAll : mapsRowed Tryz.prog = true := by
  show (List.range Tryz.prog.types.size).all (mrow Tryz.prog Tryz.prog.types.size) = true
  rw [sizeT, cutsT]
  simp only [List.all_append, mr0, mr1, mr2, mr3, mr4, mr5, mr6, mr7, mr8, mr9, mr10, mr11, mr12, mr13, mr14, Bool.and_self]
end Go.Proofs.YtchpbdodlbghaaaGreatDoor
namespace Go.Proofs.YtchpbdodlbghaaaGreatDoor
open Go Go.Proofs
set_option maxRecDepth 100000
theorem lp0 : ((List.range' 0 60).all fun k => (Tryz.prog.funcs[k]?).elim true fun f => f.params.all fun t => decide (t < 746)) = true := by kernel_rfl
theorem lp1 : ((List.range' 60 60).all fun k => (Tryz.prog.funcs[k]?).elim true fun f => f.params.all fun t => decide (t < 746)) = true := by kernel_rfl
theorem lp2 : ((List.range' 120 60).all fun k => (Tryz.prog.funcs[k]?).elim true fun f => f.params.all fun t => decide (t < 746)) = true := by kernel_rfl
theorem lp3 : ((List.range' 180 60).all fun k => (Tryz.prog.funcs[k]?).elim true fun f => f.params.all fun t => decide (t < 746)) = true := by kernel_rfl
theorem lp4 : ((List.range' 240 60).all fun k => (Tryz.prog.funcs[k]?).elim true fun f => f.params.all fun t => decide (t < 746)) = true := by kernel_rfl
theorem lp5 : ((List.range' 300 60).all fun k => (Tryz.prog.funcs[k]?).elim true fun f => f.params.all fun t => decide (t < 746)) = true := by kernel_rfl
theorem lp6 : ((List.range' 360 60).all fun k => (Tryz.prog.funcs[k]?).elim true fun f => f.params.all fun t => decide (t < 746)) = true := by kernel_rfl
theorem lp7 : ((List.range' 420 60).all fun k => (Tryz.prog.funcs[k]?).elim true fun f => f.params.all fun t => decide (t < 746)) = true := by kernel_rfl
theorem lp8 : ((List.range' 480 60).all fun k => (Tryz.prog.funcs[k]?).elim true fun f => f.params.all fun t => decide (t < 746)) = true := by kernel_rfl
theorem lp9 : ((List.range' 540 60).all fun k => (Tryz.prog.funcs[k]?).elim true fun f => f.params.all fun t => decide (t < 746)) = true := by kernel_rfl
theorem lp10 : ((List.range' 600 60).all fun k => (Tryz.prog.funcs[k]?).elim true fun f => f.params.all fun t => decide (t < 746)) = true := by kernel_rfl
theorem lp11 : ((List.range' 660 2).all fun k => (Tryz.prog.funcs[k]?).elim true fun f => f.params.all fun t => decide (t < 746)) = true := by kernel_rfl
theorem sh0 : ((List.range' 0 60).all fun k => (Tryz.prog.funcs[k]?).elim true fun f => (Stop.rowOf f).isNone || !f.norace) = true := by kernel_rfl
theorem sh1 : ((List.range' 60 60).all fun k => (Tryz.prog.funcs[k]?).elim true fun f => (Stop.rowOf f).isNone || !f.norace) = true := by kernel_rfl
theorem sh2 : ((List.range' 120 60).all fun k => (Tryz.prog.funcs[k]?).elim true fun f => (Stop.rowOf f).isNone || !f.norace) = true := by kernel_rfl
theorem sh3 : ((List.range' 180 60).all fun k => (Tryz.prog.funcs[k]?).elim true fun f => (Stop.rowOf f).isNone || !f.norace) = true := by kernel_rfl
theorem sh4 : ((List.range' 240 60).all fun k => (Tryz.prog.funcs[k]?).elim true fun f => (Stop.rowOf f).isNone || !f.norace) = true := by kernel_rfl
theorem sh5 : ((List.range' 300 60).all fun k => (Tryz.prog.funcs[k]?).elim true fun f => (Stop.rowOf f).isNone || !f.norace) = true := by kernel_rfl
theorem sh6 : ((List.range' 360 60).all fun k => (Tryz.prog.funcs[k]?).elim true fun f => (Stop.rowOf f).isNone || !f.norace) = true := by kernel_rfl
theorem sh7 : ((List.range' 420 60).all fun k => (Tryz.prog.funcs[k]?).elim true fun f => (Stop.rowOf f).isNone || !f.norace) = true := by kernel_rfl
theorem sh8 : ((List.range' 480 60).all fun k => (Tryz.prog.funcs[k]?).elim true fun f => (Stop.rowOf f).isNone || !f.norace) = true := by kernel_rfl
theorem sh9 : ((List.range' 540 60).all fun k => (Tryz.prog.funcs[k]?).elim true fun f => (Stop.rowOf f).isNone || !f.norace) = true := by kernel_rfl
theorem sh10 : ((List.range' 600 60).all fun k => (Tryz.prog.funcs[k]?).elim true fun f => (Stop.rowOf f).isNone || !f.norace) = true := by kernel_rfl
theorem sh11 : ((List.range' 660 2).all fun k => (Tryz.prog.funcs[k]?).elim true fun f => (Stop.rowOf f).isNone || !f.norace) = true := by kernel_rfl
theorem ng0 : ((List.range' 0 60).any fun k => (Tryz.prog.funcs[k]?).elim false Func.goes) = false := by kernel_rfl
theorem ng1 : ((List.range' 60 60).any fun k => (Tryz.prog.funcs[k]?).elim false Func.goes) = false := by kernel_rfl
theorem ng2 : ((List.range' 120 60).any fun k => (Tryz.prog.funcs[k]?).elim false Func.goes) = false := by kernel_rfl
theorem ng3 : ((List.range' 180 60).any fun k => (Tryz.prog.funcs[k]?).elim false Func.goes) = false := by kernel_rfl
theorem ng4 : ((List.range' 240 60).any fun k => (Tryz.prog.funcs[k]?).elim false Func.goes) = false := by kernel_rfl
theorem ng5 : ((List.range' 300 60).any fun k => (Tryz.prog.funcs[k]?).elim false Func.goes) = false := by kernel_rfl
theorem ng6 : ((List.range' 360 60).any fun k => (Tryz.prog.funcs[k]?).elim false Func.goes) = false := by kernel_rfl
theorem ng7 : ((List.range' 420 60).any fun k => (Tryz.prog.funcs[k]?).elim false Func.goes) = false := by kernel_rfl
theorem ng8 : ((List.range' 480 60).any fun k => (Tryz.prog.funcs[k]?).elim false Func.goes) = false := by kernel_rfl
theorem ng9 : ((List.range' 540 60).any fun k => (Tryz.prog.funcs[k]?).elim false Func.goes) = false := by kernel_rfl
theorem ng10 : ((List.range' 600 60).any fun k => (Tryz.prog.funcs[k]?).elim false Func.goes) = false := by kernel_rfl
theorem ng11 : ((List.range' 660 2).any fun k => (Tryz.prog.funcs[k]?).elim false Func.goes) = false := by kernel_rfl
theorem laidOutAll : laidOutB Tryz.prog = true := by
  unfold laidOutB
  rw [typesFine, range_all Tryz.prog.funcs, sizeF, cutsF, sizeT]
  simp only [List.all_append, lp0, lp1, lp2, lp3, lp4, lp5, lp6, lp7, lp8, lp9, lp10, lp11, Bool.and_self, Bool.and_true, Bool.true_and]
  kernel_rfl
theorem stopsAll : Tryz.prog.stopsHeard = true := by
  unfold Program.stopsHeard
  rw [range_all, sizeF, cutsF]
  simp only [List.all_append, sh0, sh1, sh2, sh3, sh4, sh5, sh6, sh7, sh8, sh9, sh10, sh11, Bool.and_self]
theorem goesAll : Tryz.prog.funcs.any Func.goes = false := by
  rw [range_any, sizeF, cutsF]
  simp only [List.any_append, ng0, ng1, ng2, ng3, ng4, ng5, ng6, ng7, ng8, ng9, ng10, ng11, Bool.or_self]
theorem entersAll : Tryz.prog.mayEnter = true := by kernel_rfl
end Go.Proofs.YtchpbdodlbghaaaGreatDoor
