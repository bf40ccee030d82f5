import Derived.Test.YtchpbdodlbghaaaGreatDoorRows
import Derived.Lay
import Derived.Test.YtchpbdodlbghaaaGreatDoorWai
namespace Go.Proofs.YtchpbdodlbghaaaGreatDoor.scrFrame
open Go
set_option maxRecDepth 100000
theorem fe0 : (List.range' 0 50).find? (fun u => Tryz.prog.typeName? 3 u == some "*errors.errorString") = none := by kernel_rfl
theorem fe1 : (List.range' 50 50).find? (fun u => Tryz.prog.typeName? 3 u == some "*errors.errorString") = none := by kernel_rfl
theorem fe2 : (List.range' 100 50).find? (fun u => Tryz.prog.typeName? 3 u == some "*errors.errorString") = none := by kernel_rfl
theorem fe3 : (List.range' 150 50).find? (fun u => Tryz.prog.typeName? 3 u == some "*errors.errorString") = none := by kernel_rfl
theorem fe4 : (List.range' 200 50).find? (fun u => Tryz.prog.typeName? 3 u == some "*errors.errorString") = none := by kernel_rfl
theorem fe5 : (List.range' 250 50).find? (fun u => Tryz.prog.typeName? 3 u == some "*errors.errorString") = none := by kernel_rfl
theorem fe6 : (List.range' 300 50).find? (fun u => Tryz.prog.typeName? 3 u == some "*errors.errorString") = none := by kernel_rfl
theorem fe7 : (List.range' 350 50).find? (fun u => Tryz.prog.typeName? 3 u == some "*errors.errorString") = none := by kernel_rfl
theorem fe8 : (List.range' 400 50).find? (fun u => Tryz.prog.typeName? 3 u == some "*errors.errorString") = none := by kernel_rfl
theorem fe9 : (List.range' 450 50).find? (fun u => Tryz.prog.typeName? 3 u == some "*errors.errorString") = none := by kernel_rfl
theorem fe10 : (List.range' 500 50).find? (fun u => Tryz.prog.typeName? 3 u == some "*errors.errorString") = none := by kernel_rfl
theorem fe11 : (List.range' 550 50).find? (fun u => Tryz.prog.typeName? 3 u == some "*errors.errorString") = none := by kernel_rfl
theorem fe12 : (List.range' 600 50).find? (fun u => Tryz.prog.typeName? 3 u == some "*errors.errorString") = none := by kernel_rfl
theorem fe13 : (List.range' 650 50).find? (fun u => Tryz.prog.typeName? 3 u == some "*errors.errorString") = some 698 := by kernel_rfl
theorem cutsE : List.range 746 = List.range' 0 50 ++ List.range' 50 50 ++ List.range' 100 50 ++ List.range' 150 50 ++ List.range' 200 50 ++ List.range' 250 50 ++ List.range' 300 50 ++ List.range' 350 50 ++ List.range' 400 50 ++ List.range' 450 50 ++ List.range' 500 50 ++ List.range' 550 50 ++ List.range' 600 50 ++ List.range' 650 50 ++ List.range' 700 46 := by decide +kernel
theorem errNo : (List.range Tryz.prog.types.size).find? (fun u => Tryz.prog.typeName? 3 u == some "*errors.errorString") = some 698 := by
  rw [sizeT, cutsE]
  simp only [List.find?_append, fe0, fe1, fe2, fe3, fe4, fe5, fe6, fe7, fe8, fe9, fe10, fe11, fe12, fe13, Option.none_or, Option.some_or]
theorem lay_err (n : Nat) (bs : List UInt8) (h : bs.length ≤ maxLen) : DataW.lay Tryz.prog 40 n (.iface "*errors.errorString" (.ptr (.agg [.lit (.string bs)]))) = some ([.iface 698 (.pointer (some ⟨n, 0, none⟩))], [.cells #[.string ⟨bs.toArray⟩] 700]) := by
  have hp : DataW.lay Tryz.prog 698 n (.ptr (.agg [.lit (.string bs)])) = some ([.pointer (some ⟨n, 0, none⟩)], [.cells #[.string ⟨bs.toArray⟩] 700]) := by
    have hs : DataW.lay Tryz.prog 9 (n + 1) (.lit (.string bs)) = some ([.string ⟨bs.toArray⟩], []) := by
      rw [DataW.lay]
      · simp only [h, if_true]
      · exact Tryz.underlying9
    rw [DataW.lay, Tryz.underlying698]
    simp only []
    rw [DataW.lay, Tryz.underlying700]
    simp only [List.map_cons, List.map_nil]
    rw [DataW.layEach]
    simp only [hs]
    rfl
  rw [DataW.lay, errNo, Tryz.underlying40]
  simp only [hp]
  rfl
theorem layCons {P : Program} {n : Nat} {nm : String} {d : DataW Unit} {r : List (String × DataW Unit)} {g : Nat} {ty : TypeId} {y z} (h1 : P.globalNamed nm = some g) (h2 : (P.globals[g]?).map (·.type) = some ty) (h3 : d.lay P ty n = some y)
    (h4 : Lay.layList P (n + y.2.length) r = some z) : Lay.layList P n ((nm, d) :: r) = some ((g, y.1) :: z.1, y.2 ++ z.2) := by
  obtain ⟨gl, hg, rfl⟩ := Option.map_eq_some_iff.1 h2
  simp only [Lay.layList, h1, hg, h3, h4]
theorem gl0 : Tryz.prog.globalNamed "internal/strconv.uint64pow10" = some 0 := by kernel_rfl
theorem gl1 : Tryz.prog.globalNamed "math/bits.deBruijn32tab" = some 4 := by kernel_rfl
theorem gl2 : Tryz.prog.globalNamed "math/bits.deBruijn64tab" = some 5 := by kernel_rfl
theorem gl3 : Tryz.prog.globalNamed "unicode/utf8.first" = some 1 := by kernel_rfl
theorem gl4 : Tryz.prog.globalNamed "unicode/utf8.acceptRanges" = some 2 := by kernel_rfl
theorem gl5 : Tryz.prog.globalNamed "unicode.CaseRanges" = some 6 := by kernel_rfl
theorem gl6 : Tryz.prog.globalNamed "strconv.ErrSyntax" = some 7 := by kernel_rfl
theorem gl7 : Tryz.prog.globalNamed "strconv.ErrRange" = some 8 := by kernel_rfl
noncomputable def nOf : Nat := (Tryz.prog.globals.size + 5)
noncomputable def ly0 : List Value × List Obj := (DataW.lay Tryz.prog (((Tryz.prog.globals[0]?).map (·.type)).getD 0) (nOf) Rows.laid_internal_strconv_uint64pow10).getD ([], [])
theorem lyh0 : DataW.lay Tryz.prog (((Tryz.prog.globals[0]?).map (·.type)).getD 0) (nOf) Rows.laid_internal_strconv_uint64pow10 = some ly0 := by kernel_rfl
theorem lyt0 : (Tryz.prog.globals[0]?).map (·.type) = some (((Tryz.prog.globals[0]?).map (·.type)).getD 0) := by kernel_rfl
noncomputable def ly1 : List Value × List Obj := (DataW.lay Tryz.prog (((Tryz.prog.globals[4]?).map (·.type)).getD 0) (nOf + ly0.2.length) Rows.laid_math_bits_deBruijn32tab).getD ([], [])
theorem lyh1 : DataW.lay Tryz.prog (((Tryz.prog.globals[4]?).map (·.type)).getD 0) (nOf + ly0.2.length) Rows.laid_math_bits_deBruijn32tab = some ly1 := by kernel_rfl
theorem lyt1 : (Tryz.prog.globals[4]?).map (·.type) = some (((Tryz.prog.globals[4]?).map (·.type)).getD 0) := by kernel_rfl
noncomputable def ly2 : List Value × List Obj := (DataW.lay Tryz.prog (((Tryz.prog.globals[5]?).map (·.type)).getD 0) (nOf + ly0.2.length + ly1.2.length) Rows.laid_math_bits_deBruijn64tab).getD ([], [])
theorem lyh2 : DataW.lay Tryz.prog (((Tryz.prog.globals[5]?).map (·.type)).getD 0) (nOf + ly0.2.length + ly1.2.length) Rows.laid_math_bits_deBruijn64tab = some ly2 := by kernel_rfl
theorem lyt2 : (Tryz.prog.globals[5]?).map (·.type) = some (((Tryz.prog.globals[5]?).map (·.type)).getD 0) := by kernel_rfl
noncomputable def ly3 : List Value × List Obj := (DataW.lay Tryz.prog (((Tryz.prog.globals[1]?).map (·.type)).getD 0) (nOf + ly0.2.length + ly1.2.length + ly2.2.length) Rows.laid_unicode_utf8_first).getD ([], [])
theorem lyh3 : DataW.lay Tryz.prog (((Tryz.prog.globals[1]?).map (·.type)).getD 0) (nOf + ly0.2.length + ly1.2.length + ly2.2.length) Rows.laid_unicode_utf8_first = some ly3 := by kernel_rfl
theorem lyt3 : (Tryz.prog.globals[1]?).map (·.type) = some (((Tryz.prog.globals[1]?).map (·.type)).getD 0) := by kernel_rfl
noncomputable def ly4 : List Value × List Obj := (DataW.lay Tryz.prog (((Tryz.prog.globals[2]?).map (·.type)).getD 0) (nOf + ly0.2.length + ly1.2.length + ly2.2.length + ly3.2.length) Rows.laid_unicode_utf8_acceptRanges).getD ([], [])
theorem lyh4 : DataW.lay Tryz.prog (((Tryz.prog.globals[2]?).map (·.type)).getD 0) (nOf + ly0.2.length + ly1.2.length + ly2.2.length + ly3.2.length) Rows.laid_unicode_utf8_acceptRanges = some ly4 := by kernel_rfl
theorem lyt4 : (Tryz.prog.globals[2]?).map (·.type) = some (((Tryz.prog.globals[2]?).map (·.type)).getD 0) := by kernel_rfl
noncomputable def ly5 : List Value × List Obj := (DataW.lay Tryz.prog (((Tryz.prog.globals[6]?).map (·.type)).getD 0) (nOf + ly0.2.length + ly1.2.length + ly2.2.length + ly3.2.length + ly4.2.length) Rows.laid_unicode_CaseRanges).getD ([], [])
theorem lyh5 : DataW.lay Tryz.prog (((Tryz.prog.globals[6]?).map (·.type)).getD 0) (nOf + ly0.2.length + ly1.2.length + ly2.2.length + ly3.2.length + ly4.2.length) Rows.laid_unicode_CaseRanges = some ly5 := by kernel_rfl
theorem lyt5 : (Tryz.prog.globals[6]?).map (·.type) = some (((Tryz.prog.globals[6]?).map (·.type)).getD 0) := by kernel_rfl
noncomputable def ly6 : List Value × List Obj := ([.iface 698 (.pointer (some ⟨nOf + ly0.2.length + ly1.2.length + ly2.2.length + ly3.2.length + ly4.2.length + ly5.2.length, 0, none⟩))], [.cells #[.string ⟨(match (Rows.laid_strconv_ErrSyntax : DataW Unit) with | .iface _ (.ptr (.agg [.lit (.string bs)])) => bs | _ => []).toArray⟩] 700])
theorem lyh6 : DataW.lay Tryz.prog 40 (nOf + ly0.2.length + ly1.2.length + ly2.2.length + ly3.2.length + ly4.2.length + ly5.2.length) Rows.laid_strconv_ErrSyntax = some ly6 := lay_err _ _ (by decide)
theorem lyt6 : (Tryz.prog.globals[7]?).map (·.type) = some (40) := by kernel_rfl
noncomputable def ly7 : List Value × List Obj := ([.iface 698 (.pointer (some ⟨nOf + ly0.2.length + ly1.2.length + ly2.2.length + ly3.2.length + ly4.2.length + ly5.2.length + ly6.2.length, 0, none⟩))], [.cells #[.string ⟨(match (Rows.laid_strconv_ErrRange : DataW Unit) with | .iface _ (.ptr (.agg [.lit (.string bs)])) => bs | _ => []).toArray⟩] 700])
theorem lyh7 : DataW.lay Tryz.prog 40 (nOf + ly0.2.length + ly1.2.length + ly2.2.length + ly3.2.length + ly4.2.length + ly5.2.length + ly6.2.length) Rows.laid_strconv_ErrRange = some ly7 := lay_err _ _ (by decide)
theorem lyt7 : (Tryz.prog.globals[8]?).map (·.type) = some (40) := by kernel_rfl
noncomputable def laidY : List (Nat × List Value) × List Obj := ([(0, ly0.1), (4, ly1.1), (5, ly2.1), (1, ly3.1), (2, ly4.1), (6, ly5.1), (7, ly6.1), (8, ly7.1)], ly0.2 ++ (ly1.2 ++ (ly2.2 ++ (ly3.2 ++ (ly4.2 ++ (ly5.2 ++ (ly6.2 ++ (ly7.2 ++ []))))))))
theorem layIs : Lay.layList Tryz.prog nOf Rows.scriptBoundsRow.laid = some laidY := layCons gl0 lyt0 lyh0 (layCons gl1 lyt1 lyh1 (layCons gl2 lyt2 lyh2 (layCons gl3 lyt3 lyh3 (layCons gl4 lyt4 lyh4 (layCons gl5 lyt5 lyh5 (layCons gl6 lyt6 lyh6 (layCons gl7 lyt7 lyh7 (show Lay.layList Tryz.prog _ [] = some ([], []) from rfl))))))))
theorem holdSize (os : Os) : (World.holding Tryz.prog os ⟨#[], #[], []⟩).heap.size = nOf := by
  unfold World.holding World.settled begin
  rw [waits]
  kernel_rfl
theorem layVars_of {P : Program} {w : World} {l : List (String × DataW Unit)} {n : Nat} {y} (hn : w.heap.size = n) (h : Lay.layList P n l = some y) : w.layVars P l = { w with heap := ⟨Lay.setRows w.heap.toList y.1 ++ y.2⟩ } := by
  subst hn
  unfold World.layVars
  rw [h]
theorem layFits_of {P : Program} {w : World} {l : List (String × DataW Unit)} {B : List Nat} {n : Nat} {y} (hn : w.heap.size = n) (h : Lay.layList P n l = some y)
    (h2 : (decide (y.1.map (·.1)).Nodup && (y.1.all fun r => Lay.isRow w.heap.toList[r.1]? && !B.contains r.1) && B.all (· < w.heap.size)) = true) : w.layFits P l B = true := by
  subst hn
  unfold World.layFits
  rw [h]
  exact h2
theorem layIfaces_of {P : Program} {w w' : World} {l : List (String × DataW Unit)} {n : Nat} {y} (hn : w.heap.size = n) (h : Lay.layList P n l = some y)
    (h2 : ((y.1.all fun r => r.2.all (Lay.okV P w')) && y.2.all (Lay.okO P w')) = true) : w.layIfaces P l w' = true := by
  subst hn
  unfold World.layIfaces
  rw [h]
  exact h2
theorem laidAllIs (os : Os) : World.laidAll Tryz.prog os Rows.scriptBoundsRow.laid = { World.holding Tryz.prog os ⟨#[], #[], []⟩ with heap := ⟨Lay.setRows (World.holding Tryz.prog os ⟨#[], #[], []⟩).heap.toList laidY.1 ++ laidY.2⟩ } :=
  layVars_of (holdSize os) layIs
theorem s_zip (os : Os) (args : Array Value) : ((World.laidAll Tryz.prog os Rows.scriptBoundsRow.laid).forCall (fun _ _ => 0) ⟨#[], args, []⟩).variablesZipB Tryz.prog = true := by
  rw [laidAllIs]
  unfold World.variablesZipB World.holding World.settled begin
  rw [waits]
  kernel_rfl
theorem s_tail (os : Os) (args : Array Value) : (((World.laidAll Tryz.prog os Rows.scriptBoundsRow.laid).forCall (fun _ _ => 0) ⟨#[], args, []⟩).heap.toList.drop Tryz.prog.globals.size).take ((begin Tryz.prog (fun _ _ => 0) default).world.heap.size - Tryz.prog.globals.size) =
      (begin Tryz.prog (fun _ _ => 0) default).world.heap.toList.drop Tryz.prog.globals.size := by
  rw [laidAllIs]
  unfold World.holding World.settled begin
  rw [waits]
  kernel_rfl
theorem s_plain : (Rows.scriptBoundsRow.laid.all fun x => x.2.handleName?.isNone) = true := by kernel_rfl
theorem s_fits (os : Os) : (World.holding Tryz.prog os ⟨#[], #[], []⟩).layFits Tryz.prog Rows.scriptBoundsRow.laid [] = true := by
  refine layFits_of (holdSize os) layIs ?_
  unfold World.holding World.settled begin
  rw [waits]
  kernel_rfl
theorem s_ifaces (os : Os) : (World.holding Tryz.prog os ⟨#[], #[], []⟩).layIfaces Tryz.prog Rows.scriptBoundsRow.laid (World.laidAll Tryz.prog os Rows.scriptBoundsRow.laid) = true := by
  rw [laidAllIs]
  refine layIfaces_of (holdSize os) layIs ?_
  unfold World.holding World.settled begin
  rw [waits]
  kernel_rfl
end Go.Proofs.YtchpbdodlbghaaaGreatDoor.scrFrame
