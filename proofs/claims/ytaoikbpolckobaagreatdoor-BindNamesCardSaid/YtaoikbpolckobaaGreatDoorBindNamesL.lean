/-
  The law of names, for bytes as they are handed in.
-/
import Derived.Test.YtaoikbpolckobaaGreatDoorBindNamesLaw
import Derived.Test.YtaoikbpolckobaaGreatDoorCard
namespace Go.Proofs.YtaoikbpolckobaaGreatDoor
open Go.RowKit
theorem b8 {n : Int} (h : (Lit.int .u8 n).wf = true) : 0 ≤ n ∧ n < 256 := by
  have h1 : IntKind.u8.min = 0 := rfl
  have h2 : IntKind.u8.max = 255 := rfl
  simp [Lit.wf] at h
  omega
theorem law_namesL (a b : Int) (w : World) (ha : (Lit.int .u8 a).wf = true) (hb : (Lit.int .u8 b).wf = true) :
    Calls Tryz.prog 5 #[.int .u8 a, .int .u8 b] w fun e w' => e = .returned (.bool true) ∧ Below w.heap.size w w' := by
  have h1 := b8 ha
  have h2 := b8 hb
  refine law_names a b (UInt8.ofNat (97 + (a % 8).toNat)) (UInt8.ofNat (115 + (b % 4).toNat)) w h1 h2 ?_ ?_
  · simp only [UInt8.toNat_ofNat']
    omega
  · simp only [UInt8.toNat_ofNat']
    omega
end Go.Proofs.YtaoikbpolckobaaGreatDoor
