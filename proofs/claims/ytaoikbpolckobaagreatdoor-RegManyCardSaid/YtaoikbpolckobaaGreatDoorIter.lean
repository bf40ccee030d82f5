/-
  DERIVED: THE SHELF's CONTRACTS AT THIS DUMP, IN PLAIN WORDS (tools/lay-plain.mjs out of 'YtaoikbpolckobaaGreatDoorIterS.lean', which tools/lay-shelf.mjs wrote): THE SAME DECLARATIONS UNDER THE SAME NAMES: 'import', 'namespace', 'open', 'def', 'theorem' AND NOTHING ELSE: no command of the shelf's: FOR A HAND-IN. Each laying: the table of numbers ('.._ren') and one theorem, a field a fact of the dump's own or the kernel's comparison; each contract: ONE APPLICATION.
-/
import Derived.Shelf.SlIterI.Nil
import Derived.Shelf.SlIterI.Sorted
import Derived.Shelf.SlGeneric
import Derived.Ground.GgzProg
import Derived.Test.YtaoikbpolckobaaGreatDoorProg
namespace Go.Proofs
open Go.Shelf
def Tryz.keysBlk_ren : Go.Shelf.Ren := ⟨fun | 7 => 206 | 10 => 256 | n => n, fun | 23 => 318 | 26 => 3 | 3 => 320 | 28 => 327 | 0 => 0 | 27 => 326 | 33 => 238 | 4 => 4 | n => n, fun | n => n⟩
theorem Tryz.keysBlk : Go.Proofs.SlLaysZI.n7 Tryz.prog Tryz.keysBlk_ren := {
  mixed := by kernel_rfl
  f7 := ⟨Tryz.f206.name, by decide, Tryz.func206.trans (congrArg some (by kernel_rfl))⟩
  f10 := ⟨Tryz.f256.name, by decide, Tryz.func256.trans (congrArg some (by kernel_rfl))⟩
  t0 := Tryz.underlying0
  a0 := Tryz.isAgg0
  z0 := Tryz.sizeOf0
  v0 := Tryz.zeroValue0
  t4 := Tryz.underlying4
  a4 := Tryz.isAgg4
  z4 := Tryz.sizeOf4
  v4 := Tryz.zeroValue4
  t23 := Tryz.underlying318
  a23 := Tryz.isAgg318
  z23 := Tryz.sizeOf318
  v23 := Tryz.zeroValue318
  t26 := Tryz.underlying3
  a26 := Tryz.isAgg3
  z26 := Tryz.sizeOf3
  v26 := Tryz.zeroValue3
  t27 := Tryz.underlying326
  a27 := Tryz.isAgg326
  z27 := Tryz.sizeOf326
  v27 := Tryz.zeroValue326
  t28 := Tryz.underlying327
  a28 := Tryz.isAgg327
  z28 := Tryz.sizeOf327
  v28 := Tryz.zeroValue327
  t33 := Tryz.underlying238
  a33 := Tryz.isAgg238
  z33 := Tryz.sizeOf238
  v33 := Tryz.zeroValue238 }
def Tryz.sortedInt_ren : Go.Shelf.Ren := ⟨fun | 6 => 205 | 8 => 254 | 9 => 255 | 11 => 292 | 13 => 114 | 12 => 293 | 23 => 183 | 24 => 184 | 14 => 306 | 15 => 307 | 16 => 308 | 17 => 309 | 18 => 310 | 19 => 311 | 20 => 312 | 21 => 313 | 22 => 314 | 25 => 324 | 26 => 234 | 27 => 235 | 28 => 325 | 29 => 326 | 30 => 136 | 31 => 329 | n => n, fun | 26 => 3 | 28 => 327 | 24 => 70 | 0 => 0 | 3 => 3 | 37 => 144 | 48 => 171 | 50 => 303 | 4 => 4 | 40 => 295 | 39 => 294 | 45 => 149 | 5 => 5 | 9 => 9 | 51 => 355 | 55 => 359 | 57 => 389 | 58 => 96 | 33 => 238 | n => n, fun | n => n⟩
theorem Tryz.sortedInt : Go.Proofs.SlLaysZI.n6 Tryz.prog Tryz.sortedInt_ren := {
  mixed := by kernel_rfl
  f6 := ⟨Tryz.f205.name, by decide, Tryz.func205.trans (congrArg some (by kernel_rfl))⟩
  f8 := ⟨Tryz.f254.name, by decide, Tryz.func254.trans (congrArg some (by kernel_rfl))⟩
  f11 := ⟨Tryz.f292.name, by decide, Tryz.func292.trans (congrArg some (by kernel_rfl))⟩
  t0 := Tryz.underlying0
  a0 := Tryz.isAgg0
  z0 := Tryz.sizeOf0
  v0 := Tryz.zeroValue0
  t24 := Tryz.underlying70
  a24 := Tryz.isAgg70
  z24 := Tryz.sizeOf70
  v24 := Tryz.zeroValue70
  t26 := Tryz.underlying3
  a26 := Tryz.isAgg3
  z26 := Tryz.sizeOf3
  v26 := Tryz.zeroValue3
  t28 := Tryz.underlying327
  a28 := Tryz.isAgg327
  z28 := Tryz.sizeOf327
  v28 := Tryz.zeroValue327
  i26 := by kernel_rfl }
end Go.Proofs
