import Derived.WalkKit
import Derived.WalkSpells
import Derived.WalkLawsBesides
import Derived.Handy
import Derived.Lib.Hide
import Derived.Deep.Cut
import Derived.Deep.RegionHeld3
import Derived.Deep.DeepFit
namespace Go.Proofs.YtchpbdodlbghaaaGreatDoor
open Go.RowKit

def Blk (w : World) (g : Nat) (cs : Array Value) (t : TypeId) : Prop := w.heap[g]? = some (.cells cs t (0, 0))

section
variable {w w' : World} {g B : Nat} {cs : Array Value} {t : TypeId}
theorem Blk.lt (h : Blk w g cs t) : g < w.heap.size := lt_of_block h
theorem Blk.cell (h : Blk w g cs t) : ∀ o, w.cell? ⟨g, o, none⟩ = cs[o]? := fun o => cell_of_row w g o cs t (0, 0) h
theorem Blk.free (h : Blk w g cs t) : ∀ o, w.frozen? ⟨g, o, none⟩ = false := fun o => frozen_of_row w g o cs t h
theorem Blk.facts (h : Blk w g cs t) : (∀ o, w.cell? ⟨g, o, none⟩ = cs[o]?) ∧ (∀ o, w.frozen? ⟨g, o, none⟩ = false) := ⟨h.cell, h.free⟩
theorem Blk.alloc (h : Blk w g cs t) (o : Obj) : Blk (w.alloc o) g cs t := (Below.heap_alloc w o g h.lt).trans h
theorem Blk.new (w : World) (cs : Array Value) (t : TypeId) {n : Nat} (h : n = w.heap.size) : Blk (w.alloc (.cells cs t)) n cs t := by
  subst h; exact heap_alloc_new w _
theorem Blk.drew (h : Blk w g cs t) : Blk w.drew g cs t := h
theorem Blk.other (h : Blk w g cs t) {a : Addr} (ha : g ≠ a.block) (v : Value) : Blk (w.setCell a v) g cs t := (heap_setCell_other w a g v ha).trans h
theorem Blk.set (h : Blk w g cs t) (o : Nat) (v : Value) : Blk (w.setCell ⟨g, o, none⟩ v) g (cs.setIfInBounds o v) t := heap_setCell_same w g o cs t v h
theorem Blk.below (h : Blk w g cs t) (hb : Below B w w') (hg : g < B) : Blk w' g cs t := (hb.block g hg).trans h
theorem Blk.keep (h : Blk w g cs t) (hb : Below w.heap.size w w') : Blk w' g cs t := h.below hb h.lt
end
theorem h_ {p : Prop} (h : p) : Go.RowKit.Hid p := h
end Go.Proofs.YtchpbdodlbghaaaGreatDoor
