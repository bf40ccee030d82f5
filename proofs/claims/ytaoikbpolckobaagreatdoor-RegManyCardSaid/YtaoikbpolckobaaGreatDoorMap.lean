/-
  Laws on a map that the call itself makes, over any program: what it holds is told as a list of pairs in the order of their coming.
-/
import Derived.Test.YtaoikbpolckobaaGreatDoorBase
import Derived.ProofKit
import Derived.WideKeyMaps
namespace Go.Proofs.YtaoikbpolckobaaGreatDoor
open Go.RowKit

/-- The map in block b holds these keys and values. -/
def MapIs (w : World) (b : Nat) (l : List (Value × Value)) : Prop := ∃ es clock, w.heap[b]? = some (.map es clock) ∧ es.toList.map (fun e => (e.key, e.val)) = l
/-- The value reads as a key of type k. -/
def KeyOk (P : Program) (k : TypeId) (v : Value) : Prop := ∃ y, keyOf P k v = some y

section
variable {w w' : World} {b : Nat} {l : List (Value × Value)}
theorem MapIs.lt (h : MapIs w b l) : b < w.heap.size := by
  obtain ⟨es, c, h, _⟩ := h
  exact (Array.getElem?_eq_some_iff.1 h).1
theorem MapIs.block (h : MapIs w b l) (hb : w'.heap[b]? = w.heap[b]?) : MapIs w' b l := by
  obtain ⟨es, c, h, e⟩ := h
  exact ⟨es, c, hb.trans h, e⟩
theorem MapIs.alloc (h : MapIs w b l) (o : Obj) : MapIs (w.alloc o) b l := h.block (Below.heap_alloc w o b h.lt)
theorem MapIs.keep (h : MapIs w b l) (hb : Below w.heap.size w w') : MapIs w' b l := h.block (hb.block b h.lt)
theorem MapIs.setCell (h : MapIs w b l) {a : Addr} (ha : b ≠ a.block) (v : Value) : MapIs (w.setCell a v) b l := h.block (Below.heap_setCell w a v b ha)
theorem MapIs.grown (h : MapIs w b l) {row : Option Nat} (hg : w.grownBy w' row) (hr : some b ≠ row) : MapIs w' b l := h.block (hg.block b h.lt hr)
theorem MapIs.new (w : World) {n : Nat} (h : n = w.heap.size) : MapIs (w.alloc (.map #[] 0)) n [] := by
  subst h; exact ⟨#[], 0, heap_alloc_new w _, rfl⟩
end

section
variable {P : Program} {w : World} {b : Nat} {l : List (Value × Value)} {k E t : TypeId}

theorem keys_of {es : Array MapEntry} (he : es.toList.map (fun e => (e.key, e.val)) = l) (hl : ∀ p ∈ l, KeyOk P k p.1) : ∀ e ∈ es.toList, ∃ y, keyOf P k e.key = some y := by
  intro e hm
  exact hl (e.key, e.val) (he ▸ List.mem_map.2 ⟨e, hm, rfl⟩)

theorem run_lookup_miss (KL : WideMaps.KeyLaw P k) (ht : P.underlying t = some (.map k E)) {z : Value} (hz : ∀ w, (zeroValue E).run P w = .ok z w) (h : MapIs w b l) (hl : ∀ p ∈ l, KeyOk P k p.1) {x : Value} (hx : KeyOk P k x) (hm : ∀ p ∈ l, p.1 ≠ x) :
    (Instr.lookup t (.map (some b)) x true).run P w = .ok (.tuple #[z, .bool false]) w := by
  obtain ⟨es, c, hb, he⟩ := h
  obtain ⟨y, hy⟩ := hx
  have hc := KL.check w es.isEmpty hy
  have hf := KL.find w hy es.toList (keys_of he hl)
  have hmiss : (Instr.findKey k x es.toList).run P w = .ok none w := by
    rcases hf with ⟨h1, _⟩ | ⟨j, e, _, h2, h3⟩
    · exact h1
    · exact absurd h3 (hm (e.key, e.val) (he ▸ List.mem_map.2 ⟨e, List.mem_of_getElem? h2, rfl⟩))
  simp [Instr.lookup, run_underlying ht, Sem.run, getObj, hb, hc, hmiss, hz]

theorem nodup_map_inj {α β : Type} {f : α → β} : ∀ {l : List α}, (l.map f).Nodup → ∀ {a b : α}, a ∈ l → b ∈ l → f a = f b → a = b
  | [], _, _, _, h, _, _ => by cases h
  | c :: l, hn, a, b, ha, hb, hf => by
    rw [List.map_cons, List.nodup_cons] at hn
    rcases List.mem_cons.1 ha with ea | ha2
    · rcases List.mem_cons.1 hb with eb | hb2
      · rw [ea, eb]
      · exact absurd (List.mem_map.2 ⟨b, hb2, by rw [← hf, ea]⟩) hn.1
    · rcases List.mem_cons.1 hb with eb | hb2
      · exact absurd (List.mem_map.2 ⟨a, ha2, by rw [hf, eb]⟩) hn.1
      · exact nodup_map_inj hn.2 ha2 hb2 hf
theorem run_lookup_hit (KL : WideMaps.KeyLaw P k) (ht : P.underlying t = some (.map k E)) (h : MapIs w b l) (hl : ∀ p ∈ l, KeyOk P k p.1) (hnd : (l.map (·.1)).Nodup) {x v : Value} (hx : KeyOk P k x) (hm : (x, v) ∈ l) :
    (Instr.lookup t (.map (some b)) x true).run P w = .ok (.tuple #[v, .bool true]) w := by
  obtain ⟨es, c, hb, he⟩ := h
  obtain ⟨y, hy⟩ := hx
  have hc := KL.check w es.isEmpty hy
  have hf := KL.find w hy es.toList (keys_of he hl)
  obtain ⟨j, hhit⟩ : ∃ j, (Instr.findKey k x es.toList).run P w = .ok (some (j, v)) w := by
    rcases hf with ⟨_, h2⟩ | ⟨j, e, h1, h2, h3⟩
    · rw [← he] at hm
      obtain ⟨e, h3, h4⟩ := List.mem_map.1 hm
      exact absurd (congrArg Prod.fst h4) (h2 e h3)
    · refine ⟨j, ?_⟩
      have hmem : (e.key, e.val) ∈ l := he ▸ List.mem_map.2 ⟨e, List.mem_of_getElem? h2, rfl⟩
      have : e.val = v := by
        have h5 : (e.key, e.val) = (x, v) := nodup_map_inj hnd hmem hm (by simpa using h3)
        exact congrArg Prod.snd h5
      rw [h1, this]
  simp [Instr.lookup, run_underlying ht, Sem.run, getObj, hb, hc, hhit]

theorem run_update_miss (KL : WideMaps.KeyLaw P k) (ht : P.underlying t = some (.map k E)) (h : MapIs w b l) (hl : ∀ p ∈ l, KeyOk P k p.1) {x : Value} (hx : KeyOk P k x) (hm : ∀ p ∈ l, p.1 ≠ x) (v : Value) :
    ∃ w', (Instr.mapUpdate t (.map (some b)) x v).run P w = .ok () w' ∧ MapIs w' b (l ++ [(x, v)]) ∧ w.grownBy w' (some b) := by
  have hlt := h.lt
  obtain ⟨es, c, hb, he⟩ := h
  obtain ⟨y, hy⟩ := hx
  have hc := KL.check w false hy
  have hf := KL.find w hy es.toList (keys_of he hl)
  have hmiss : (Instr.findKey k x es.toList).run P w = .ok none w := by
    rcases hf with ⟨h1, _⟩ | ⟨j, e, _, h2, h3⟩
    · exact h1
    · exact absurd h3 (hm (e.key, e.val) (he ▸ List.mem_map.2 ⟨e, List.mem_of_getElem? h2, rfl⟩))
  refine ⟨{ w with heap := w.heap.setIfInBounds b (.map (es.push { key := x, val := v, born := c }) (c + 1)) }, ?_, ⟨es.push { key := x, val := v, born := c }, c + 1, ?_, ?_⟩, ⟨rfl, rfl, rfl, by simp, fun i hi hne => ?_⟩⟩
  · simp [Instr.mapUpdate, run_underlying ht, Sem.run, getObj, setObj, hb, hc, hmiss]
  · simp [hlt]
  · simp [← he]
  · have : b ≠ i := fun e => hne (by rw [e])
    simp [Array.getElem?_setIfInBounds_ne this]
end
end Go.Proofs.YtaoikbpolckobaaGreatDoor
