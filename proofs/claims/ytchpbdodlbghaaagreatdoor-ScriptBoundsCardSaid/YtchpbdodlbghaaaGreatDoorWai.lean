import Derived.Test.YtchpbdodlbghaaaGreatDoorProg
import Derived.KernelRfl
import GoSem.ClaimDataLaid
import GoSem.ClaimJoined
import GoSem.ClaimGoes
import GoSem.ClaimSevenParts
import GoSem.Machine.Start
namespace Go.Proofs.YtchpbdodlbghaaaGreatDoor
open Go Go.Proofs
set_option maxRecDepth 100000
theorem range_map {α β : Type} (xs : Array α) (f : α → β) (d : β) : xs.toList.map f = (List.range xs.size).map fun k => (xs[k]?).elim d f := by
  apply List.ext_getElem
  · simp
  · intro i h1 h2
    have h3 : i < xs.size := by simpa using h1
    simp [h3]
theorem range_flat {α β : Type} (xs : Array α) (f : α → List β) : xs.toList.flatMap f = (List.range xs.size).flatMap fun k => (xs[k]?).elim [] f := by
  rw [List.flatMap_def, List.flatMap_def, range_map xs f []]
theorem range_all {α : Type} (xs : Array α) (p : α → Bool) : xs.all p = (List.range xs.size).all fun k => (xs[k]?).elim true p := by
  have h := congrArg (fun l => l.all id) (range_map xs p true)
  simpa [List.all_map, Function.comp_def] using h
theorem range_any {α : Type} (xs : Array α) (p : α → Bool) : xs.any p = (List.range xs.size).any fun k => (xs[k]?).elim false p := by
  have h := congrArg (fun l => l.any id) (range_map xs p false)
  simpa [List.any_map, Function.comp_def] using h
theorem sizeT : Tryz.prog.types.size = 746 := by kernel_rfl
theorem sizeF : Tryz.prog.funcs.size = 662 := by kernel_rfl
theorem cutsT : List.range 746 = List.range' 0 50 ++ List.range' 50 50 ++ List.range' 100 50 ++ List.range' 150 50 ++ List.range' 200 50 ++ List.range' 250 50 ++ List.range' 300 50 ++ List.range' 350 50 ++ List.range' 400 50 ++ List.range' 450 50 ++ List.range' 500 50 ++ List.range' 550 50 ++ List.range' 600 50 ++ List.range' 650 50 ++ List.range' 700 46 := by decide +kernel
theorem cutsF : List.range 662 = List.range' 0 60 ++ List.range' 60 60 ++ List.range' 120 60 ++ List.range' 180 60 ++ List.range' 240 60 ++ List.range' 300 60 ++ List.range' 360 60 ++ List.range' 420 60 ++ List.range' 480 60 ++ List.range' 540 60 ++ List.range' 600 60 ++ List.range' 660 2 := by decide +kernel
theorem wt0 : ((List.range' 0 60).flatMap fun k => (Tryz.prog.funcs[k]?).elim [] fun f => (f.body.map readies).getD []) = [] := by kernel_rfl
theorem wt1 : ((List.range' 60 60).flatMap fun k => (Tryz.prog.funcs[k]?).elim [] fun f => (f.body.map readies).getD []) = [] := by kernel_rfl
theorem wt2 : ((List.range' 120 60).flatMap fun k => (Tryz.prog.funcs[k]?).elim [] fun f => (f.body.map readies).getD []) = [] := by kernel_rfl
theorem wt3 : ((List.range' 180 60).flatMap fun k => (Tryz.prog.funcs[k]?).elim [] fun f => (f.body.map readies).getD []) = [] := by kernel_rfl
theorem wt4 : ((List.range' 240 60).flatMap fun k => (Tryz.prog.funcs[k]?).elim [] fun f => (f.body.map readies).getD []) = [] := by kernel_rfl
theorem wt5 : ((List.range' 300 60).flatMap fun k => (Tryz.prog.funcs[k]?).elim [] fun f => (f.body.map readies).getD []) = [] := by kernel_rfl
theorem wt6 : ((List.range' 360 60).flatMap fun k => (Tryz.prog.funcs[k]?).elim [] fun f => (f.body.map readies).getD []) = [] := by kernel_rfl
theorem wt7 : ((List.range' 420 60).flatMap fun k => (Tryz.prog.funcs[k]?).elim [] fun f => (f.body.map readies).getD []) = [] := by kernel_rfl
theorem wt8 : ((List.range' 480 60).flatMap fun k => (Tryz.prog.funcs[k]?).elim [] fun f => (f.body.map readies).getD []) = [] := by kernel_rfl
theorem wt9 : ((List.range' 540 60).flatMap fun k => (Tryz.prog.funcs[k]?).elim [] fun f => (f.body.map readies).getD []) = [] := by kernel_rfl
theorem wt10 : ((List.range' 600 60).flatMap fun k => (Tryz.prog.funcs[k]?).elim [] fun f => (f.body.map readies).getD []) = [] := by kernel_rfl
theorem wt11 : ((List.range' 660 2).flatMap fun k => (Tryz.prog.funcs[k]?).elim [] fun f => (f.body.map readies).getD []) = [] := by kernel_rfl
theorem noneWaits : (Tryz.prog.funcs.toList.flatMap fun f => (f.body.map readies).getD []) = [] := by
  rw [range_flat, sizeF, cutsF]
  simp only [List.flatMap_append, wt0, wt1, wt2, wt3, wt4, wt5, wt6, wt7, wt8, wt9, wt10, wt11, List.append_nil]
theorem waits : waiting Tryz.prog = Array.replicate Tryz.prog.globals.size false := by
  unfold waiting
  rw [noneWaits]
  rfl
end Go.Proofs.YtchpbdodlbghaaaGreatDoor
