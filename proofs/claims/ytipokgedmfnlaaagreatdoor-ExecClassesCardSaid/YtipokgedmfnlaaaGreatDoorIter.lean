/-
  DERIVED: THE SHELF's CONTRACTS AT THIS DUMP, IN PLAIN WORDS (tools/lay-plain.mjs out of 'YtipokgedmfnlaaaGreatDoorIterS.lean', which tools/lay-shelf.mjs wrote): THE SAME DECLARATIONS UNDER THE SAME NAMES: 'import', 'namespace', 'open', 'def', 'theorem' AND NOTHING ELSE: no command of the shelf's: FOR A HAND-IN. Each laying: the table of numbers ('.._ren') and one theorem, a field a fact of the dump's own or the kernel's comparison; each contract: ONE APPLICATION.
-/
import Derived.Shelf.SlIterI.Nil
import Derived.Shelf.SlIterI.Sorted
import Derived.Shelf.SlGeneric
import Derived.Ground.GgzProg
import Derived.Test.YtipokgedmfnlaaaGreatDoorProg
namespace Go.Proofs
open Go.Shelf
def Tryz.keysBlk_ren : Go.Shelf.Ren := ⟨fun | 7 => 199 | 10 => 242 | n => n, fun | 23 => 287 | 26 => 3 | 3 => 289 | 28 => 296 | 0 => 0 | 27 => 295 | 33 => 200 | 4 => 4 | n => n, fun | n => n⟩
theorem Tryz.keysBlk : Go.Proofs.SlLaysZI.n7 Tryz.prog Tryz.keysBlk_ren := {
  mixed := by kernel_rfl
  f7 := ⟨Tryz.f199.name, by decide, Tryz.func199.trans (congrArg some (by kernel_rfl))⟩
  f10 := ⟨Tryz.f242.name, by decide, Tryz.func242.trans (congrArg some (by kernel_rfl))⟩
  t0 := Tryz.underlying0
  a0 := Tryz.isAgg0
  z0 := Tryz.sizeOf0
  v0 := Tryz.zeroValue0
  t4 := Tryz.underlying4
  a4 := Tryz.isAgg4
  z4 := Tryz.sizeOf4
  v4 := Tryz.zeroValue4
  t23 := Tryz.underlying287
  a23 := Tryz.isAgg287
  z23 := Tryz.sizeOf287
  v23 := Tryz.zeroValue287
  t26 := Tryz.underlying3
  a26 := Tryz.isAgg3
  z26 := Tryz.sizeOf3
  v26 := Tryz.zeroValue3
  t27 := Tryz.underlying295
  a27 := Tryz.isAgg295
  z27 := Tryz.sizeOf295
  v27 := Tryz.zeroValue295
  t28 := Tryz.underlying296
  a28 := Tryz.isAgg296
  z28 := Tryz.sizeOf296
  v28 := Tryz.zeroValue296
  t33 := Tryz.underlying200
  a33 := Tryz.isAgg200
  z33 := Tryz.sizeOf200
  v33 := Tryz.zeroValue200 }
def Tryz.sortedInt_ren : Go.Shelf.Ren := ⟨fun | 6 => 198 | 8 => 240 | 9 => 241 | 11 => 265 | 13 => 92 | 12 => 266 | 23 => 154 | 24 => 155 | 14 => 277 | 15 => 278 | 16 => 279 | 17 => 280 | 18 => 281 | 19 => 282 | 20 => 283 | 21 => 284 | 22 => 285 | 25 => 291 | 26 => 203 | 27 => 204 | 28 => 292 | 29 => 293 | 30 => 114 | 31 => 302 | n => n, fun | 26 => 3 | 28 => 296 | 24 => 40 | 0 => 0 | 3 => 3 | 37 => 100 | 48 => 148 | 50 => 256 | 4 => 4 | 40 => 248 | 39 => 247 | 45 => 105 | 5 => 5 | 9 => 9 | 51 => 303 | 55 => 307 | 57 => 338 | 58 => 66 | 33 => 200 | n => n, fun | n => n⟩
theorem Tryz.sortedInt : Go.Proofs.SlLaysZI.n6 Tryz.prog Tryz.sortedInt_ren := {
  mixed := by kernel_rfl
  f6 := ⟨Tryz.f198.name, by decide, Tryz.func198.trans (congrArg some (by kernel_rfl))⟩
  f8 := ⟨Tryz.f240.name, by decide, Tryz.func240.trans (congrArg some (by kernel_rfl))⟩
  f11 := ⟨Tryz.f265.name, by decide, Tryz.func265.trans (congrArg some (by kernel_rfl))⟩
  t0 := Tryz.underlying0
  a0 := Tryz.isAgg0
  z0 := Tryz.sizeOf0
  v0 := Tryz.zeroValue0
  t24 := Tryz.underlying40
  a24 := Tryz.isAgg40
  z24 := Tryz.sizeOf40
  v24 := Tryz.zeroValue40
  t26 := Tryz.underlying3
  a26 := Tryz.isAgg3
  z26 := Tryz.sizeOf3
  v26 := Tryz.zeroValue3
  t28 := Tryz.underlying296
  a28 := Tryz.isAgg296
  z28 := Tryz.sizeOf296
  v28 := Tryz.zeroValue296
  i26 := by kernel_rfl }
end Go.Proofs
