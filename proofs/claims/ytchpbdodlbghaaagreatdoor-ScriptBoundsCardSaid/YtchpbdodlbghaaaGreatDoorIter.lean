import Derived.Shelf.SlIterI.Nil
import Derived.Shelf.SlIterI.Sorted
import Derived.Shelf.SlGeneric
import Derived.Ground.GgzProg
import Derived.Test.YtchpbdodlbghaaaGreatDoorProg
namespace Go.Proofs
open Go.Shelf
def Tryz.keysBlk_ren : Go.Shelf.Ren := ⟨fun | 7 => 110 | 10 => 183 | n => n, fun | 23 => 231 | 26 => 3 | 3 => 233 | 28 => 240 | 0 => 0 | 27 => 239 | 33 => 247 | 4 => 4 | n => n, fun | n => n⟩
theorem Tryz.keysBlk : Go.Proofs.SlLaysZI.n7 Tryz.prog Tryz.keysBlk_ren := {
  mixed := by kernel_rfl
  f7 := ⟨Tryz.f110.name, by decide, Tryz.func110.trans (congrArg some (by kernel_rfl))⟩
  f10 := ⟨Tryz.f183.name, by decide, Tryz.func183.trans (congrArg some (by kernel_rfl))⟩
  t0 := Tryz.underlying0
  a0 := Tryz.isAgg0
  z0 := Tryz.sizeOf0
  v0 := Tryz.zeroValue0
  t4 := Tryz.underlying4
  a4 := Tryz.isAgg4
  z4 := Tryz.sizeOf4
  v4 := Tryz.zeroValue4
  t23 := Tryz.underlying231
  a23 := Tryz.isAgg231
  z23 := Tryz.sizeOf231
  v23 := Tryz.zeroValue231
  t26 := Tryz.underlying3
  a26 := Tryz.isAgg3
  z26 := Tryz.sizeOf3
  v26 := Tryz.zeroValue3
  t27 := Tryz.underlying239
  a27 := Tryz.isAgg239
  z27 := Tryz.sizeOf239
  v27 := Tryz.zeroValue239
  t28 := Tryz.underlying240
  a28 := Tryz.isAgg240
  z28 := Tryz.sizeOf240
  v28 := Tryz.zeroValue240
  t33 := Tryz.underlying247
  a33 := Tryz.isAgg247
  z33 := Tryz.sizeOf247
  v33 := Tryz.zeroValue247 }
def Tryz.sortedInt_ren : Go.Shelf.Ren := ⟨fun | 6 => 109 | 8 => 181 | 9 => 182 | 11 => 263 | 13 => 265 | 12 => 264 | 23 => 359 | 24 => 112 | 14 => 350 | 15 => 351 | 16 => 352 | 17 => 353 | 18 => 354 | 19 => 355 | 20 => 356 | 21 => 357 | 22 => 358 | 25 => 442 | 26 => 443 | 27 => 444 | 28 => 445 | 29 => 446 | 30 => 447 | 31 => 524 | n => n, fun | 26 => 3 | 28 => 240 | 24 => 113 | 0 => 0 | 3 => 3 | 37 => 248 | 48 => 124 | 50 => 158 | 4 => 4 | 40 => 510 | 39 => 509 | 45 => 242 | 5 => 5 | 9 => 9 | 51 => 590 | 55 => 564 | 57 => 649 | 58 => 225 | 33 => 247 | n => n, fun | n => n⟩
theorem Tryz.sortedInt : Go.Proofs.SlLaysZI.n6 Tryz.prog Tryz.sortedInt_ren := {
  mixed := by kernel_rfl
  f6 := ⟨Tryz.f109.name, by decide, Tryz.func109.trans (congrArg some (by kernel_rfl))⟩
  f8 := ⟨Tryz.f181.name, by decide, Tryz.func181.trans (congrArg some (by kernel_rfl))⟩
  f11 := ⟨Tryz.f263.name, by decide, Tryz.func263.trans (congrArg some (by kernel_rfl))⟩
  t0 := Tryz.underlying0
  a0 := Tryz.isAgg0
  z0 := Tryz.sizeOf0
  v0 := Tryz.zeroValue0
  t24 := Tryz.underlying113
  a24 := Tryz.isAgg113
  z24 := Tryz.sizeOf113
  v24 := Tryz.zeroValue113
  t26 := Tryz.underlying3
  a26 := Tryz.isAgg3
  z26 := Tryz.sizeOf3
  v26 := Tryz.zeroValue3
  t28 := Tryz.underlying240
  a28 := Tryz.isAgg240
  z28 := Tryz.sizeOf240
  v28 := Tryz.zeroValue240
  i26 := by kernel_rfl }
end Go.Proofs
