/-
  The keys of a map over numbers, in order; whether a pair may be.
-/
import Derived.Test.YtaoikbpolckobaaGreatDoorIter
import Derived.Test.YtaoikbpolckobaaGreatDoorShelf
import Derived.Test.YtaoikbpolckobaaGreatDoorGMap
import Derived.Test.YtaoikbpolckobaaGreatDoorOwn
import Derived.Test.YtaoikbpolckobaaGreatDoorParP
import Derived.Test.YtaoikbpolckobaaGreatDoorTrieP
import Derived.Test.YtaoikbpolckobaaGreatDoorRootA
namespace Go.Proofs.YtaoikbpolckobaaGreatDoor
open Go.RowKit
set_option maxRecDepth 100000

/-- However a map's elements read. -/
def anyElem : Value → Option (DataW Unit × List MemPlace) := fun _ => some (.nil, [])
theorem GMap.ownsInts {P : Program} {k : TypeId} {w : World} {b : Nat} {l : List (Value × Value)} {is : List Int} (hk : P.underlying k = some (.int .i64)) (h : GMap P k w b l) (hl : l.map (·.1) = is.map (Value.int .i64)) (hwf : ∀ i ∈ is, (Lit.int .i64 i).wf = true) (hsz : is.length ≤ maxLen) :
    ∃ D0 : DataW Unit, w.ownsMap P k anyElem b is.length D0 ∧ (intKeys D0).Perm is ∧ Maps.size D0 = is.length := by
  obtain ⟨es, clock, hb, he, hborn, hclk⟩ := h.ex
  have hlen : es.toList.length = is.length := by
    have h1 := congrArg List.length he
    have h2 := congrArg List.length hl
    simp only [List.length_map] at h1 h2
    omega
  have hkeys : es.toList.map (·.key) = is.map (Value.int .i64) := by
    rw [← hl, ← he, List.map_map]
    rfl
  have hrd : ∀ x ∈ es.toList, ∃ i, i ∈ is ∧ x.key = .int .i64 i ∧ WideElems.rd P k anyElem x = some (.int .i64 i, .nil) := by
    intro x hx
    have hm : x.key ∈ is.map (Value.int .i64) := by rw [← hkeys]; exact List.mem_map.2 ⟨x, hx, rfl⟩
    obtain ⟨i, hi, hxi⟩ := List.mem_map.1 hm
    refine ⟨i, hi, hxi.symm, ?_⟩
    simp [WideElems.rd, ← hxi, Maps.keyOf_int_mk hk (hwf i hi), anyElem]
  have hrg : es.toList.map (WideElems.rg P k anyElem) = is.map fun i => (Lit.int .i64 i, (.nil : DataW Unit)) := by
    apply List.ext_getElem?
    intro j
    have hj := congrArg (fun l => l[j]?) hkeys
    simp only [List.getElem?_map] at hj ⊢
    cases hx : es.toList[j]? with
    | none =>
      rw [hx] at hj
      cases hi : is[j]? with
      | none => rfl
      | some i => rw [hi] at hj; cases hj
    | some x =>
      rw [hx] at hj
      cases hi : is[j]? with
      | none => rw [hi] at hj; cases hj
      | some i =>
        rw [hi] at hj
        obtain ⟨i', _, h1, h2⟩ := hrd x (List.mem_of_getElem? hx)
        have h3 : x.key = .int .i64 i := by simpa using hj
        rw [h1] at h3
        obtain rfl : i' = i := by simpa using h3
        simp only [Option.map_some]
        rw [WideElems.rg_of h2]
  refine ⟨.map ((es.toList.map (WideElems.rg P k anyElem)).foldr DataW.insert []), ⟨es, clock, hb, ⟨?_, ⟨hclk, hborn.imp (fun hlt => by omega), ?_⟩, fun x hx => ?_⟩, ?_, rfl⟩, ?_, ?_⟩
  · rw [← Array.length_toList, hlen]; exact hsz
  · have := h.nodup
    rw [hl, ← hkeys] at this
    exact this
  · obtain ⟨i, _, _, h2⟩ := hrd x hx
    exact ⟨_, h2⟩
  · rw [← Array.length_toList]; omega
  · have hp := (Go.WideShapes.sorted_perm (es.toList.map (WideElems.rg P k anyElem))).map (fun p => Go.intOf p.1)
    refine hp.trans ?_
    rw [hrg, List.map_map]
    have : is.map ((fun p : Lit × DataW Unit => Go.intOf p.1) ∘ fun i => (Lit.int .i64 i, .nil)) = is := by
      exact (List.map_congr_left (g := id) (fun i _ => rfl)).trans (List.map_id is)
    rw [this]
  · have := (Go.WideShapes.sorted_perm (es.toList.map (WideElems.rg P k anyElem))).length_eq
    rw [List.length_map] at this
    simp only [Maps.size]
    omega
/-- maps.Keys. -/
theorem keys_any (mb : Option Nat) (W : World) : Calls Tryz.prog 206 #[.map mb] W fun e w' => e = .returned (.func (.func 256) #[] #[.pointer (some ⟨W.heap.size, 0, none⟩)]) ∧ w' = W.alloc (.cells #[.map mb] 318) :=
  callsIn_wide.1 (AnyZI.keys_in Tryz.keysBlk Fence.wide 5 trivial rfl mb W)
theorem sortsInt (m : Nat) : AnyZI.SortsIn Tryz.prog Tryz.sortedInt_ren Fence.wide m :=
  ⟨fun blk off cap ss W hH hblk hsz => callsIn_wide.2 (Tryz.slices_Sort_int blk off cap ss W hH hblk hsz), fun p cap W => callsIn_wide.2 (Tryz.slices_Sort_int_none p cap W)⟩
/-- What slices.Sorted hands back. -/
def SortedPost (w : World) (is : List Int) (e : Ending) (w' : World) : Prop :=
  ∃ v, e = .returned v ∧ w'.ownsRow w.heap.size 3 1 v is.length ((is.mergeSort fun x y => decide (x ≤ y)).map (Value.int .i64)) ∧ Below w.heap.size w w'
set_option maxHeartbeats 1000000 in
theorem sorted_any (b : Nat) (l : List (Value × Value)) (is : List Int) (w : World) (h : GMap Tryz.prog 3 w b l) (hl : l.map (·.1) = is.map (Value.int .i64)) (hwf : ∀ i ∈ is, (Lit.int .i64 i).wf = true) (hsz : is.length ≤ 100000) :
    Calls Tryz.prog 205 #[.func (.func 256) #[] #[.pointer (some ⟨w.heap.size, 0, none⟩)]] (w.alloc (.cells #[.map (some b)] 318)) (SortedPost (w.alloc (.cells #[.map (some b)] 318)) is) := by
  obtain ⟨D0, hown, hperm, hsize⟩ := h.ownsInts Tryz.underlying3 hl hwf (Nat.le_trans hsz (by decide))
  have hbl := hown.lt
  have hseq : SeqGives Fence.wide 2 Tryz.prog 256 #[.pointer (some ⟨w.heap.size, 0, none⟩)] encZ (fun ss => ss.Perm (intKeys D0)) (Maps.size D0) (w.alloc (.cells #[.map (some b)] 318)) :=
    AnyZI.keys_gives (ρ := Tryz.keysBlk_ren) { Tryz.keysBlk with } Fence.wide _ trivial rfl (by omega) w.heap.size b is.length D0 _ (by simp) (by simp) (by
      obtain ⟨es, clock, hb, Ft, hs, hD⟩ := hown
      exact ⟨es, clock, (Below.heap_alloc _ _ b hbl).trans hb, Ft, hs, hD⟩)
  have cS := AnyZI.sorted_in Tryz.sortedInt Fence.wide 5 trivial trivial trivial trivial rfl (by omega) (sortsInt _) (enters_of Tryz.func255 (by kernel_rfl) rfl) 256 #[.pointer (some ⟨w.heap.size, 0, none⟩)] trivial (enters_of Tryz.func256 (by kernel_rfl) rfl) _ _ (by rw [hsize]; exact Nat.le_trans hsz (by decide)) (by rw [hsize]; omega) _ hseq
  refine (callsIn_wide.1 cS).mono ?_
  rintro e w' ⟨v, ss, rfl, hS, hrow, _, hb⟩
  have hp := hS.trans hperm
  refine ⟨v, rfl, ?_, hb⟩
  rw [← hp.length_eq, ← mergeSort_of_perm_i hp]
  exact hrow
end Go.Proofs.YtaoikbpolckobaaGreatDoor
