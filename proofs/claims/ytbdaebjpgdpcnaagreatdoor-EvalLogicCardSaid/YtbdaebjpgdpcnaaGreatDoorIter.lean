/-
  DERIVED: THE SHELF's CONTRACTS AT THIS DUMP, IN PLAIN WORDS (tools/lay-plain.mjs out of 'YtbdaebjpgdpcnaaGreatDoorIterS.lean', which tools/lay-shelf.mjs wrote): THE SAME DECLARATIONS UNDER THE SAME NAMES: 'import', 'namespace', 'open', 'def', 'theorem' AND NOTHING ELSE: no command of the shelf's: FOR A HAND-IN. Each laying: the table of numbers ('.._ren') and one theorem, a field a fact of the dump's own or the kernel's comparison; each contract: ONE APPLICATION.
-/
import Derived.Shelf.SlIterI.Nil
import Derived.Shelf.SlIterI.Sorted
import Derived.Shelf.SlGeneric
import Derived.Ground.GgzProg
import Derived.Test.YtbdaebjpgdpcnaaGreatDoorProg
namespace Go.Proofs
open Go.Shelf
def Tryz.keysBlk_ren : Go.Shelf.Ren := ⟨fun | 7 => 217 | 10 => 317 | n => n, fun | 23 => 303 | 26 => 3 | 3 => 305 | 28 => 312 | 0 => 0 | 27 => 311 | 33 => 278 | 4 => 4 | n => n, fun | n => n⟩
theorem Tryz.keysBlk : Go.Proofs.SlLaysZI.n7 Tryz.prog Tryz.keysBlk_ren := {
  mixed := by kernel_rfl
  f7 := ⟨Tryz.f217.name, by decide, Tryz.func217.trans (congrArg some (by kernel_rfl))⟩
  f10 := ⟨Tryz.f317.name, by decide, Tryz.func317.trans (congrArg some (by kernel_rfl))⟩
  t0 := Tryz.underlying0
  a0 := Tryz.isAgg0
  z0 := Tryz.sizeOf0
  v0 := Tryz.zeroValue0
  t4 := Tryz.underlying4
  a4 := Tryz.isAgg4
  z4 := Tryz.sizeOf4
  v4 := Tryz.zeroValue4
  t23 := Tryz.underlying303
  a23 := Tryz.isAgg303
  z23 := Tryz.sizeOf303
  v23 := Tryz.zeroValue303
  t26 := Tryz.underlying3
  a26 := Tryz.isAgg3
  z26 := Tryz.sizeOf3
  v26 := Tryz.zeroValue3
  t27 := Tryz.underlying311
  a27 := Tryz.isAgg311
  z27 := Tryz.sizeOf311
  v27 := Tryz.zeroValue311
  t28 := Tryz.underlying312
  a28 := Tryz.isAgg312
  z28 := Tryz.sizeOf312
  v28 := Tryz.zeroValue312
  t33 := Tryz.underlying278
  a33 := Tryz.isAgg278
  z33 := Tryz.sizeOf278
  v33 := Tryz.zeroValue278 }
def Tryz.sortedInt_ren : Go.Shelf.Ren := ⟨fun | 6 => 216 | 8 => 315 | 9 => 316 | 11 => 370 | 13 => 372 | 12 => 371 | 23 => 396 | 24 => 298 | 14 => 387 | 15 => 388 | 16 => 389 | 17 => 390 | 18 => 391 | 19 => 392 | 20 => 393 | 21 => 394 | 22 => 395 | 25 => 406 | 26 => 407 | 27 => 408 | 28 => 409 | 29 => 410 | 30 => 192 | 31 => 414 | n => n, fun | 26 => 3 | 28 => 312 | 24 => 141 | 0 => 0 | 3 => 3 | 37 => 293 | 48 => 135 | 50 => 281 | 4 => 4 | 40 => 440 | 39 => 439 | 45 => 314 | 5 => 5 | 9 => 9 | 51 => 453 | 55 => 97 | 57 => 463 | 58 => 297 | 33 => 278 | n => n, fun | n => n⟩
theorem Tryz.sortedInt : Go.Proofs.SlLaysZI.n6 Tryz.prog Tryz.sortedInt_ren := {
  mixed := by kernel_rfl
  f6 := ⟨Tryz.f216.name, by decide, Tryz.func216.trans (congrArg some (by kernel_rfl))⟩
  f8 := ⟨Tryz.f315.name, by decide, Tryz.func315.trans (congrArg some (by kernel_rfl))⟩
  f11 := ⟨Tryz.f370.name, by decide, Tryz.func370.trans (congrArg some (by kernel_rfl))⟩
  t0 := Tryz.underlying0
  a0 := Tryz.isAgg0
  z0 := Tryz.sizeOf0
  v0 := Tryz.zeroValue0
  t24 := Tryz.underlying141
  a24 := Tryz.isAgg141
  z24 := Tryz.sizeOf141
  v24 := Tryz.zeroValue141
  t26 := Tryz.underlying3
  a26 := Tryz.isAgg3
  z26 := Tryz.sizeOf3
  v26 := Tryz.zeroValue3
  t28 := Tryz.underlying312
  a28 := Tryz.isAgg312
  z28 := Tryz.sizeOf312
  v28 := Tryz.zeroValue312
  i26 := by kernel_rfl }
end Go.Proofs
