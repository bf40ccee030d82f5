import Derived.ProofKit
import Derived.WideKeyMaps
import Derived.Maps.OwnOps
import Derived.Maps.OwnSet
import Derived.Maps.RangeWalk
import Derived.Test.YtchpbdodlbghaaaGreatDoorBase
namespace Go.Proofs.YtchpbdodlbghaaaGreatDoor
open Go.RowKit

def MapIs (w : World) (b : Nat) (l : List (Value × Value)) : Prop := ∃ es clock, w.heap[b]? = some (.map es clock) ∧ es.toList.map (fun e => (e.key, e.val)) = l
def KeyOk (P : Program) (k : TypeId) (v : Value) : Prop := ∃ y, keyOf P k v = some y

section
variable {w w' : World} {b : Nat} {l : List (Value × Value)}
theorem MapIs.lt (h : MapIs w b l) : b < w.heap.size := by
  obtain ⟨es, c, h, _⟩ := h
  exact (Array.getElem?_eq_some_iff.1 h).1
theorem MapIs.block (h : MapIs w b l) (hb : w'.heap[b]? = w.heap[b]?) : MapIs w' b l := by
  obtain ⟨es, c, h, e⟩ := h
  exact ⟨es, c, hb.trans h, e⟩
theorem MapIs.alloc (h : MapIs w b l) (o : Obj) : MapIs (w.alloc o) b l := h.block (Below.heap_alloc w o b h.lt)
theorem MapIs.keep (h : MapIs w b l) (hb : Below w.heap.size w w') : MapIs w' b l := h.block (hb.block b h.lt)
theorem MapIs.setCell (h : MapIs w b l) {a : Addr} (ha : b ≠ a.block) (v : Value) : MapIs (w.setCell a v) b l := h.block (Below.heap_setCell w a v b ha)
theorem MapIs.grown (h : MapIs w b l) {row : Option Nat} (hg : w.grownBy w' row) (hr : some b ≠ row) : MapIs w' b l := h.block (hg.block b h.lt hr)
theorem MapIs.new (w : World) {n : Nat} (h : n = w.heap.size) : MapIs (w.alloc (.map #[] 0)) n [] := by
  subst h; exact ⟨#[], 0, heap_alloc_new w _, rfl⟩
end

section
variable {P : Program} {w : World} {b : Nat} {l : List (Value × Value)} {k E t : TypeId}

theorem keys_of {es : Array MapEntry} (he : es.toList.map (fun e => (e.key, e.val)) = l) (hl : ∀ p ∈ l, KeyOk P k p.1) : ∀ e ∈ es.toList, ∃ y, keyOf P k e.key = some y := by
  intro e hm
  exact hl (e.key, e.val) (he ▸ List.mem_map.2 ⟨e, hm, rfl⟩)

theorem run_lookup_miss (KL : WideMaps.KeyLaw P k) (ht : P.underlying t = some (.map k E)) {z : Value} (hz : ∀ w, (zeroValue E).run P w = .ok z w) (h : MapIs w b l) (hl : ∀ p ∈ l, KeyOk P k p.1) {x : Value} (hx : KeyOk P k x) (hm : ∀ p ∈ l, p.1 ≠ x) :
    (Instr.lookup t (.map (some b)) x true).run P w = .ok (.tuple #[z, .bool false]) w := by
  obtain ⟨es, c, hb, he⟩ := h
  obtain ⟨y, hy⟩ := hx
  have hc := KL.check w es.isEmpty hy
  have hf := KL.find w hy es.toList (keys_of he hl)
  have hmiss : (Instr.findKey k x es.toList).run P w = .ok none w := by
    rcases hf with ⟨h1, _⟩ | ⟨j, e, _, h2, h3⟩
    · exact h1
    · exact absurd h3 (hm (e.key, e.val) (he ▸ List.mem_map.2 ⟨e, List.mem_of_getElem? h2, rfl⟩))
  simp [Instr.lookup, run_underlying ht, Sem.run, getObj, hb, hc, hmiss, hz]

theorem nodup_map_inj {α β : Type} {f : α → β} : ∀ {l : List α}, (l.map f).Nodup → ∀ {a b : α}, a ∈ l → b ∈ l → f a = f b → a = b
  | [], _, _, _, h, _, _ => by cases h
  | c :: l, hn, a, b, ha, hb, hf => by
    rw [List.map_cons, List.nodup_cons] at hn
    rcases List.mem_cons.1 ha with ea | ha2
    · rcases List.mem_cons.1 hb with eb | hb2
      · rw [ea, eb]
      · exact absurd (List.mem_map.2 ⟨b, hb2, by rw [← hf, ea]⟩) hn.1
    · rcases List.mem_cons.1 hb with eb | hb2
      · exact absurd (List.mem_map.2 ⟨a, ha2, by rw [hf, eb]⟩) hn.1
      · exact nodup_map_inj hn.2 ha2 hb2 hf
theorem run_lookup_hit (KL : WideMaps.KeyLaw P k) (ht : P.underlying t = some (.map k E)) (h : MapIs w b l) (hl : ∀ p ∈ l, KeyOk P k p.1) (hnd : (l.map (·.1)).Nodup) {x v : Value} (hx : KeyOk P k x) (hm : (x, v) ∈ l) :
    (Instr.lookup t (.map (some b)) x true).run P w = .ok (.tuple #[v, .bool true]) w := by
  obtain ⟨es, c, hb, he⟩ := h
  obtain ⟨y, hy⟩ := hx
  have hc := KL.check w es.isEmpty hy
  have hf := KL.find w hy es.toList (keys_of he hl)
  obtain ⟨j, hhit⟩ : ∃ j, (Instr.findKey k x es.toList).run P w = .ok (some (j, v)) w := by
    rcases hf with ⟨_, h2⟩ | ⟨j, e, h1, h2, h3⟩
    · rw [← he] at hm
      obtain ⟨e, h3, h4⟩ := List.mem_map.1 hm
      exact absurd (congrArg Prod.fst h4) (h2 e h3)
    · refine ⟨j, ?_⟩
      have hmem : (e.key, e.val) ∈ l := he ▸ List.mem_map.2 ⟨e, List.mem_of_getElem? h2, rfl⟩
      have : e.val = v := by
        have h5 : (e.key, e.val) = (x, v) := nodup_map_inj hnd hmem hm (by simpa using h3)
        exact congrArg Prod.snd h5
      rw [h1, this]
  simp [Instr.lookup, run_underlying ht, Sem.run, getObj, hb, hc, hhit]

theorem run_update_miss (KL : WideMaps.KeyLaw P k) (ht : P.underlying t = some (.map k E)) (h : MapIs w b l) (hl : ∀ p ∈ l, KeyOk P k p.1) {x : Value} (hx : KeyOk P k x) (hm : ∀ p ∈ l, p.1 ≠ x) (v : Value) :
    ∃ w', (Instr.mapUpdate t (.map (some b)) x v).run P w = .ok () w' ∧ MapIs w' b (l ++ [(x, v)]) ∧ w.grownBy w' (some b) := by
  have hlt := h.lt
  obtain ⟨es, c, hb, he⟩ := h
  obtain ⟨y, hy⟩ := hx
  have hc := KL.check w false hy
  have hf := KL.find w hy es.toList (keys_of he hl)
  have hmiss : (Instr.findKey k x es.toList).run P w = .ok none w := by
    rcases hf with ⟨h1, _⟩ | ⟨j, e, _, h2, h3⟩
    · exact h1
    · exact absurd h3 (hm (e.key, e.val) (he ▸ List.mem_map.2 ⟨e, List.mem_of_getElem? h2, rfl⟩))
  refine ⟨{ w with heap := w.heap.setIfInBounds b (.map (es.push { key := x, val := v, born := c }) (c + 1)) }, ?_, ⟨es.push { key := x, val := v, born := c }, c + 1, ?_, ?_⟩, ⟨rfl, rfl, rfl, by simp, fun i hi hne => ?_⟩⟩
  · simp [Instr.mapUpdate, run_underlying ht, Sem.run, getObj, setObj, hb, hc, hmiss]
  · simp [hlt]
  · simp [← he]
  · have : b ≠ i := fun e => hne (by rw [e])
    simp [Array.getElem?_setIfInBounds_ne this]
end
end Go.Proofs.YtchpbdodlbghaaaGreatDoor

namespace Go.Proofs.YtchpbdodlbghaaaGreatDoor
open Go.RowKit
open Go.Maps (Keyed)
open Go.ChangeMaps (setBlock)

structure GMap (P : Program) (k : TypeId) (w : World) (b : Nat) (l : List (Value × Value)) : Prop where
  ex : ∃ es clock, w.heap[b]? = some (.map es clock) ∧ es.toList.map (fun e => (e.key, e.val)) = l ∧ (es.toList.map (·.born)).Pairwise (· < ·) ∧ ∀ e ∈ es.toList, e.born < clock
  keys : ∀ p ∈ l, KeyOk P k p.1
  nodup : (l.map (·.1)).Nodup

section
variable {P : Program} {k E t : TypeId} {w w' : World} {b : Nat} {l : List (Value × Value)}
theorem GMap.lt (h : GMap P k w b l) : b < w.heap.size := by
  obtain ⟨es, c, h, _⟩ := h.ex
  exact (Array.getElem?_eq_some_iff.1 h).1
theorem GMap.block (h : GMap P k w b l) (hb : w'.heap[b]? = w.heap[b]?) : GMap P k w' b l := by
  obtain ⟨es, c, h1, h2⟩ := h.ex
  exact ⟨⟨es, c, hb.trans h1, h2⟩, h.keys, h.nodup⟩
theorem GMap.alloc (h : GMap P k w b l) (o : Obj) : GMap P k (w.alloc o) b l := h.block (Below.heap_alloc w o b h.lt)
theorem GMap.keep (h : GMap P k w b l) (hb : Below w.heap.size w w') : GMap P k w' b l := h.block (hb.block b h.lt)
theorem GMap.below {B : Nat} (h : GMap P k w b l) (hb : Below B w w') (hlt : b < B) : GMap P k w' b l := h.block (hb.block b hlt)
theorem GMap.setCell (h : GMap P k w b l) {a : Addr} (ha : b ≠ a.block) (v : Value) : GMap P k (w.setCell a v) b l := h.block (Below.heap_setCell w a v b ha)
theorem GMap.grown (h : GMap P k w b l) {row : Option Nat} (hg : w.grownBy w' row) (hr : some b ≠ row) : GMap P k w' b l := h.block (hg.block b h.lt hr)
theorem GMap.drew (h : GMap P k w b l) : GMap P k w.drew b l := h.block rfl
theorem GMap.new (P : Program) (k : TypeId) (w : World) {n : Nat} (h : n = w.heap.size) : GMap P k (w.alloc (.map #[] 0)) n [] := by
  subst h
  exact ⟨⟨#[], 0, heap_alloc_new w _, rfl, by simp, by simp⟩, by simp, by simp⟩
theorem GMap.entries (h : GMap P k w b l) {es : Array MapEntry} (he : es.toList.map (fun e => (e.key, e.val)) = l) : ∀ e ∈ es.toList, ∃ y, keyOf P k e.key = some y := by
  intro e hm
  exact h.keys (e.key, e.val) (he ▸ List.mem_map.2 ⟨e, hm, rfl⟩)

theorem GMap.run_hit (h : GMap P k w b l) (K : Keyed P k) (ht : P.underlying t = some (.map k E)) {x v : Value} (hm : (x, v) ∈ l) (ok : Bool) :
    (Instr.lookup t (.map (some b)) x ok).run P w = .ok (if ok then .tuple #[v, .bool true] else v) w := by
  obtain ⟨es, c, hb, he, hs, _⟩ := h.ex
  obtain ⟨y, hy⟩ := h.keys _ hm
  have hc := K.check w es.isEmpty hy
  have hf := K.find w hy es.toList (h.entries he)
  obtain ⟨j, hhit⟩ : ∃ j, (Instr.findKey k x es.toList).run P w = .ok (some (j, v)) w := by
    rcases hf with ⟨_, h2⟩ | ⟨j, e, h1, h2, h3⟩
    · rw [← he] at hm
      obtain ⟨e, h3, h4⟩ := List.mem_map.1 hm
      exact absurd (congrArg Prod.fst h4) (h2 e h3)
    · refine ⟨j, ?_⟩
      have hmem : (e.key, e.val) ∈ l := he ▸ List.mem_map.2 ⟨e, List.mem_of_getElem? h2, rfl⟩
      have : e.val = v := by
        have h5 : (e.key, e.val) = (x, v) := nodup_map_inj h.nodup hmem hm (by simpa using h3)
        exact congrArg Prod.snd h5
      rw [h1, this]
  cases ok <;> simp [Instr.lookup, run_underlying ht, Sem.run, getObj, hb, hc, hhit]
theorem GMap.run_miss (h : GMap P k w b l) (K : Keyed P k) (ht : P.underlying t = some (.map k E)) {x z : Value} (hz : ∀ w, (zeroValue E).run P w = .ok z w) (hx : KeyOk P k x) (hm : ∀ p ∈ l, p.1 ≠ x) (ok : Bool) :
    (Instr.lookup t (.map (some b)) x ok).run P w = .ok (if ok then .tuple #[z, .bool false] else z) w := by
  obtain ⟨es, c, hb, he, hs, _⟩ := h.ex
  obtain ⟨y, hy⟩ := hx
  have hc := K.check w es.isEmpty hy
  have hmiss : (Instr.findKey k x es.toList).run P w = .ok none w := by
    rcases K.find w hy es.toList (h.entries he) with ⟨h1, _⟩ | ⟨j, e, _, h2, h3⟩
    · exact h1
    · exact absurd h3 (hm (e.key, e.val) (he ▸ List.mem_map.2 ⟨e, List.mem_of_getElem? h2, rfl⟩))
  cases ok <;> simp [Instr.lookup, run_underlying ht, Sem.run, getObj, hb, hc, hmiss, hz]
theorem GMap.run_put (h : GMap P k w b l) (K : Keyed P k) (ht : P.underlying t = some (.map k E)) {x : Value} (hx : KeyOk P k x) (hm : ∀ p ∈ l, p.1 ≠ x) (v : Value) :
    ∃ w', (Instr.mapUpdate t (.map (some b)) x v).run P w = .ok () w' ∧ GMap P k w' b (l ++ [(x, v)]) ∧ w.grownBy w' (some b) ∧ w'.heap.size = w.heap.size := by
  have hlt := h.lt
  obtain ⟨es, c, hb, he, hs, hclk⟩ := h.ex
  obtain ⟨y, hy⟩ := hx
  have hc := K.check w false hy
  have hmiss : (Instr.findKey k x es.toList).run P w = .ok none w := by
    rcases K.find w hy es.toList (h.entries he) with ⟨h1, _⟩ | ⟨j, e, _, h2, h3⟩
    · exact h1
    · exact absurd h3 (hm (e.key, e.val) (he ▸ List.mem_map.2 ⟨e, List.mem_of_getElem? h2, rfl⟩))
  refine ⟨{ w with heap := w.heap.setIfInBounds b (.map (es.push { key := x, val := v, born := c }) (c + 1)) }, ?_, ⟨⟨es.push { key := x, val := v, born := c }, c + 1, ?_, ?_, ?_, ?_⟩, ?_, ?_⟩, ⟨rfl, rfl, rfl, by simp, fun i hi hne => ?_⟩, by simp⟩
  · simp [Instr.mapUpdate, run_underlying ht, Sem.run, getObj, setObj, hb, hc, hmiss]
  · simp [hlt]
  · simp [← he]
  · rw [Array.toList_push, List.map_append, List.pairwise_append]
    refine ⟨hs, by simp, fun a ha c' hc' => ?_⟩
    obtain ⟨e, he', rfl⟩ := List.mem_map.1 ha
    simp at hc'
    subst hc'
    exact hclk e he'
  · intro e hm'
    rw [Array.toList_push, List.mem_append, List.mem_singleton] at hm'
    rcases hm' with h1 | rfl
    · have := hclk e h1; omega
    · exact Nat.lt_succ_self _
  · intro p hp
    rcases List.mem_append.1 hp with h1 | h1
    · exact h.keys p h1
    · simp at h1
      subst h1
      exact ⟨y, hy⟩
  · rw [List.map_append, List.nodup_append]
    refine ⟨h.nodup, by simp, fun a ha c' hc' => ?_⟩
    obtain ⟨p, hp, rfl⟩ := List.mem_map.1 ha
    simp at hc'
    subst hc'
    exact hm p hp
  · have : b ≠ i := fun e => hne (by rw [e])
    simp [Array.getElem?_setIfInBounds_ne this]
theorem GMap.run_set {l1 l2 : List (Value × Value)} {x v0 : Value} (h : GMap P k w b (l1 ++ (x, v0) :: l2)) (K : Keyed P k) (ht : P.underlying t = some (.map k E)) (v : Value) :
    ∃ w', (Instr.mapUpdate t (.map (some b)) x v).run P w = .ok () w' ∧ GMap P k w' b (l1 ++ (x, v) :: l2) ∧ w.grownBy w' (some b) ∧ w'.heap.size = w.heap.size := by
  have hlt := h.lt
  obtain ⟨es, c, hb, he, hs, hclk⟩ := h.ex
  obtain ⟨y, hy⟩ := h.keys (x, v0) (by simp)
  have hc := K.check w false hy
  have hnd := h.nodup
  obtain ⟨j, e, hhit, hj, hk⟩ : ∃ j e, (Instr.findKey k x es.toList).run P w = .ok (some (j, e.val)) w ∧ es.toList[j]? = some e ∧ e.key = x := by
    rcases K.find w hy es.toList (h.entries he) with ⟨_, h2⟩ | h
    · have hm : (x, v0) ∈ es.toList.map (fun e => (e.key, e.val)) := by rw [he]; simp
      obtain ⟨e, h3, h4⟩ := List.mem_map.1 hm
      exact absurd (congrArg Prod.fst h4) (h2 e h3)
    · exact h
  have hjl : j = l1.length := by
    have h1 : (l1 ++ (x, v0) :: l2)[j]? = some (x, e.val) := by rw [← he, List.getElem?_map, hj]; simp [hk]
    have h2 : (l1 ++ (x, v0) :: l2)[l1.length]? = some (x, v0) := by simp
    have h3 := congrArg (Option.map Prod.fst) h1
    have h4 := congrArg (Option.map Prod.fst) h2
    rw [← List.getElem?_map] at h3 h4
    exact (List.getElem?_inj (by rw [List.length_map]; exact (List.getElem?_eq_some_iff.1 h1).1) hnd).1 (h3.trans h4.symm)
  have hst := K.stays w hy
  have hje : es[j]? = some e := by simpa using hj
  refine ⟨{ w with heap := w.heap.setIfInBounds b (.map (es.modify j fun e => { e with key := x, val := v }) c) }, ?_, ⟨⟨es.modify j fun e => { e with key := x, val := v }, c, ?_, ?_, ?_, ?_⟩, ?_, ?_⟩, ⟨rfl, rfl, rfl, by simp, fun i hi hne => ?_⟩, by simp⟩
  · simp [Instr.mapUpdate, run_underlying ht, Sem.run, getObj, setObj, hb, hc, hhit, hje, hk, hst]
  · simp [hlt]
  · rw [Array.toList_modify]
    apply List.ext_getElem?
    intro i
    have hi := congrArg (fun l => l[i]?) he
    simp only [List.getElem?_map] at hi
    rw [List.getElem?_map, List.getElem?_modify]
    by_cases hij : j = i
    · subst hij
      rw [hj]
      subst hjl
      simp
    · simp only [if_neg hij]
      cases hx : es.toList[i]? with
      | none =>
        rw [hx] at hi
        have : (l1 ++ (x, v0) :: l2).length ≤ i := by
          rcases Nat.lt_or_ge i (l1 ++ (x, v0) :: l2).length with h5 | h5
          · rw [List.getElem?_eq_getElem h5] at hi; cases hi
          · exact h5
        rw [List.getElem?_eq_none (by simpa using this)]
        rfl
      | some e' =>
        rw [hx] at hi
        simp only [Option.map_some] at hi
        show some (e'.key, e'.val) = _
        rw [hi]
        rcases Nat.lt_trichotomy i l1.length with h5 | h5 | h5
        · rw [List.getElem?_append_left h5, List.getElem?_append_left h5]
        · exact absurd (hjl.trans h5.symm) hij
        · rw [List.getElem?_append_right (by omega), List.getElem?_append_right (by omega)]
          obtain ⟨m, hm⟩ : ∃ m, i - l1.length = m + 1 := ⟨i - l1.length - 1, by omega⟩
          rw [hm]; rfl
  · have : (es.modify j fun e => { e with key := x, val := v }).toList.map (·.born) = es.toList.map (·.born) := by
      rw [Array.toList_modify]
      apply List.ext_getElem?
      intro i
      rw [List.getElem?_map, List.getElem?_map, List.getElem?_modify]
      by_cases hij : j = i
      · subst hij; rw [hj]; simp
      · simp [hij]
    rw [this]; exact hs
  · intro e' hm'
    obtain ⟨i, hi⟩ := List.mem_iff_getElem?.1 hm'
    rw [Array.toList_modify, List.getElem?_modify] at hi
    cases hx : es.toList[i]? with
    | none => rw [hx] at hi; simp at hi
    | some e'' =>
      have := hclk e'' (List.mem_of_getElem? hx)
      rw [hx] at hi
      split at hi
      · cases hi; exact this
      · cases hi; exact this
  · intro p hp
    have hk2 := h.keys
    rw [List.mem_append, List.mem_cons] at hp
    rcases hp with h1 | rfl | h1
    · exact hk2 p (by simp [h1])
    · exact ⟨y, hy⟩
    · exact hk2 p (by simp [h1])
  · simpa using hnd
  · have : b ≠ i := fun e => hne (by rw [e])
    simp [Array.getElem?_setIfInBounds_ne this]
end

section
variable {P : Program} {w : World} {ops : Array Oper} {rest : List Oper} {o : Oper} {a : Act} {Q : Exit → Act → World → Prop} {k E t : TypeId} {b : Nat} {l : List (Value × Value)}
theorem wpList_gput (hg : o.guard = none) (m x v : Operand) (t : TypeId) (hop : o.op = Op.mapUpdate t m x v) (k E : TypeId) (K : Keyed P k) (ht : P.underlying t = some (.map k E)) (b : Nat) (l : List (Value × Value))
    (hm : a.eval m = .map (some b)) (h : GMap P k w b l) (hx : KeyOk P k (a.eval x)) (hn : ∀ p ∈ l, p.1 ≠ a.eval x)
    (hK : ∀ w', GMap P k w' b (l ++ [(a.eval x, a.eval v)]) → w.grownBy w' (some b) → w'.heap.size = w.heap.size → wpList P ops Q rest (a.put o.dst undef) w') : wpList P ops Q (o :: rest) a w := by
  refine wpList_plain hg fun K' hK' => ?_
  obtain ⟨w', hrun, r1, r2, r3⟩ := h.run_put K ht hx hn (a.eval v)
  unfold Oper.wp
  simp [execOp, hop, hm, hrun, Result.andThen]
  exact hK' _ _ (hK w' r1 r2 r3)
theorem wpList_gset (hg : o.guard = none) (m x v : Operand) (t : TypeId) (hop : o.op = Op.mapUpdate t m x v) (k E : TypeId) (K : Keyed P k) (ht : P.underlying t = some (.map k E)) (b : Nat) (l1 l2 : List (Value × Value)) (v0 : Value)
    (hm : a.eval m = .map (some b)) (h : GMap P k w b (l1 ++ (a.eval x, v0) :: l2))
    (hK : ∀ w', GMap P k w' b (l1 ++ (a.eval x, a.eval v) :: l2) → w.grownBy w' (some b) → w'.heap.size = w.heap.size → wpList P ops Q rest (a.put o.dst undef) w') : wpList P ops Q (o :: rest) a w := by
  refine wpList_plain hg fun K' hK' => ?_
  obtain ⟨w', hrun, r1, r2, r3⟩ := h.run_set K ht (a.eval v)
  unfold Oper.wp
  simp [execOp, hop, hm, hrun, Result.andThen]
  exact hK' _ _ (hK w' r1 r2 r3)
theorem wpList_ghit (hg : o.guard = none) (m x : Operand) (t : TypeId) (ok : Bool) (hop : o.op = Op.lookup t m x ok) (k E : TypeId) (K : Keyed P k) (ht : P.underlying t = some (.map k E)) (b : Nat) (l : List (Value × Value)) (v : Value)
    (hm : a.eval m = .map (some b)) (h : GMap P k w b l) (hx : (a.eval x, v) ∈ l)
    (hK : wpList P ops Q rest (a.put o.dst (if ok then .tuple #[v, .bool true] else v)) w) : wpList P ops Q (o :: rest) a w := by
  refine wpList_plain hg fun K' hK' => ?_
  have hrun := h.run_hit K ht hx ok
  unfold Oper.wp
  simp [execOp, hop, hm, hrun, Result.andThen]
  exact hK' _ _ hK
theorem wpList_gmiss (hg : o.guard = none) (m x : Operand) (t : TypeId) (ok : Bool) (hop : o.op = Op.lookup t m x ok) (k E : TypeId) (K : Keyed P k) (ht : P.underlying t = some (.map k E)) (b : Nat) (l : List (Value × Value)) (z : Value)
    (hz : ∀ w, (zeroValue E).run P w = .ok z w) (hm : a.eval m = .map (some b)) (h : GMap P k w b l) (hx : KeyOk P k (a.eval x)) (hn : ∀ p ∈ l, p.1 ≠ a.eval x)
    (hK : wpList P ops Q rest (a.put o.dst (if ok then .tuple #[z, .bool false] else z)) w) : wpList P ops Q (o :: rest) a w := by
  refine wpList_plain hg fun K' hK' => ?_
  have hrun := h.run_miss K ht hz hx hn ok
  unfold Oper.wp
  simp [execOp, hop, hm, hrun, Result.andThen]
  exact hK' _ _ hK
end

structure GIter (P : Program) (k : TypeId) (w : World) (b r : Nat) (l left : List (Value × Value)) : Prop where
  map : GMap P k w b l
  ne : r ≠ b
  ex : ∃ es clock since seen c0, w.heap[b]? = some (.map es clock) ∧ es.toList.map (fun e => (e.key, e.val)) = l ∧ (es.toList.map (·.born)).Pairwise (· < ·) ∧ w.heap[r]? = some (.mapIter (some b) since seen c0) ∧
    (∀ x ∈ es.toList, x.born < since) ∧ since ≤ c0 ∧ since ≤ clock ∧ (leftOf es seen).toList.map (fun e => (e.key, e.val)) = left

section
variable {P : Program} {k E t : TypeId} {w w' : World} {b r : Nat} {l left : List (Value × Value)}
theorem GIter.lt (h : GIter P k w b r l left) : r < w.heap.size := by
  obtain ⟨_, _, _, _, _, _, _, _, h1, _⟩ := h.ex
  exact (Array.getElem?_eq_some_iff.1 h1).1
theorem GIter.block (h : GIter P k w b r l left) (hb : w'.heap[b]? = w.heap[b]?) (hr : w'.heap[r]? = w.heap[r]?) : GIter P k w' b r l left := by
  obtain ⟨es, clock, since, seen, c0, h1, h2, h3, h4, h5⟩ := h.ex
  exact ⟨h.map.block hb, h.ne, es, clock, since, seen, c0, hb.trans h1, h2, h3, hr.trans h4, h5⟩
theorem GIter.alloc (h : GIter P k w b r l left) (o : Obj) : GIter P k (w.alloc o) b r l left := h.block (Below.heap_alloc w o b h.map.lt) (Below.heap_alloc w o r h.lt)
theorem GIter.keep (h : GIter P k w b r l left) (hb : Below w.heap.size w w') : GIter P k w' b r l left := h.block (hb.block b h.map.lt) (hb.block r h.lt)
theorem GIter.grown (h : GIter P k w b r l left) {row : Option Nat} (hg : w.grownBy w' row) (hb : some b ≠ row) (hr : some r ≠ row) : GIter P k w' b r l left := h.block (hg.block b h.map.lt hb) (hg.block r h.lt hr)
theorem GIter.setCell (h : GIter P k w b r l left) {a : Addr} (hb : b ≠ a.block) (hr : r ≠ a.block) (v : Value) : GIter P k (w.setCell a v) b r l left := h.block (Below.heap_setCell w a v b hb) (Below.heap_setCell w a v r hr)
theorem GIter.sub (h : GIter P k w b r l left) : ∀ p ∈ left, p ∈ l := by
  obtain ⟨es, clock, since, seen, c0, h1, h2, h3, h4, h5, h6, h7, h8⟩ := h.ex
  intro p hp
  rw [← h8] at hp
  obtain ⟨e, he, rfl⟩ := List.mem_map.1 hp
  rw [← h2]
  refine List.mem_map.2 ⟨e, ?_, rfl⟩
  simp [leftOf] at he
  simpa using he.1
theorem GMap.run_range (h : GMap P k w b l) (ht : P.underlying t = some (.map k E)) :
    ∃ w', (Instr.range t (.map (some b))).run P w = .ok (.pointer (some ⟨w.heap.size, 0, none⟩)) w' ∧ GIter P k w' b w.heap.size l l ∧ Below w.heap.size w w' ∧ w'.heap.size = w.heap.size + 1 := by
  have hlt := h.lt
  have hc := h.ex
  obtain ⟨es, clock, hb, he, hs, hclk⟩ := hc
  refine ⟨_, run_range_map w t k E b es clock ht hb, ⟨h.alloc _, by omega, es, clock, clock, #[], clock, (Below.heap_alloc w _ b hlt).trans hb, he, hs, heap_alloc_new w _, hclk, Nat.le_refl _, Nat.le_refl _, ?_⟩, (Below.refl _ _).alloc (Nat.le_refl _) _, by simp⟩
  rw [← he]
  have : leftOf es #[] = es := by
    unfold leftOf
    rw [Array.filter_eq_self]
    intro x _
    simp
  rw [this]
theorem GIter.run_next (h : GIter P k w b r l left) (ty : TypeId) :
    (left = [] ∧ (Instr.next (.pointer (some ⟨r, 0, none⟩)) false ty).run P w = .ok (.tuple #[.bool false]) w) ∨
    ∃ w' x v l1 l2, left = l1 ++ (x, v) :: l2 ∧ (Instr.next (.pointer (some ⟨r, 0, none⟩)) false ty).run P w = .ok (.tuple #[.bool true, x, v]) w' ∧ GIter P k w' b r l (l1 ++ l2) ∧ w.grownBy w' (some r) ∧ w'.heap.size = w.heap.size ∧
      (Instr.entry (.pointer (some ⟨r, 0, none⟩))).run P w' = .ok (.tuple #[x, v]) w' := by
  have hlt := h.lt
  obtain ⟨es, clock, since, seen, c0, h1, h2, h3, h4, h5, h6, h7, h8⟩ := h.ex
  have hnd : (es.toList.map (·.born)).Nodup := h3.imp (fun hlt => by omega)
  rcases run_next_at (P := P) w ty r b since c0 seen es clock h4 h1 h5 h6 with ⟨h0, hr⟩ | ⟨e, he, w1, hw1, hr⟩
  · left
    refine ⟨?_, hr⟩
    rw [← h8]
    simp [Array.eq_empty_of_size_eq_zero h0]
  · right
    obtain ⟨m1, m2, hm⟩ := List.append_of_mem he
    have hr1 : w1.heap[r]? = some (.mapIter (some b) since seen c0) := by rcases hw1 with rfl | rfl <;> exact h4
    have hb1 : w1.heap[b]? = some (.map es clock) := by rcases hw1 with rfl | rfl <;> exact h1
    have hs1 : w1.heap.size = w.heap.size := by rcases hw1 with rfl | rfl <;> rfl
    have hne := h.ne
    have hrr : (setBlock w1 r (.mapIter (some b) since (seen.push e.born) clock)).heap[r]? = some (.mapIter (some b) since (seen.push e.born) clock) := by
      simp [setBlock, hs1, hlt]
    have hbb : (setBlock w1 r (.mapIter (some b) since (seen.push e.born) clock)).heap[b]? = some (.map es clock) := by
      simp only [setBlock]
      rw [Array.getElem?_setIfInBounds_ne hne]
      exact hb1
    have hein : e ∈ es.toList := by
      simp [leftOf] at he
      simpa using he.1
    have hleft : (leftOf es (seen.push e.born)).toList = m1 ++ m2 := by
      have h9 : (leftOf es (seen.push e.born)).toList = (leftOf es seen).toList.filter (fun x => x.born != e.born) := by
        simp only [leftOf, Array.toList_filter, List.filter_filter]
        apply List.filter_congr
        intro x _
        rw [Bool.eq_iff_iff]
        simp [and_comm]
      have hsub : ((leftOf es seen).toList.map (·.born)).Nodup := by
        refine List.Nodup.sublist ?_ hnd
        simp only [leftOf, Array.toList_filter]
        exact List.filter_sublist.map _
      rw [h9, hm, List.filter_append, List.filter_cons]
      rw [hm, List.map_append, List.map_cons, List.nodup_append] at hsub
      obtain ⟨n1, n2, n3⟩ := hsub
      rw [List.nodup_cons] at n2
      simp only [bne_self_eq_false, Bool.false_eq_true, if_false]
      congr 1
      · rw [List.filter_eq_self]
        intro x hx
        rw [bne_iff_ne]
        exact n3 _ (List.mem_map.2 ⟨x, hx, rfl⟩) _ (List.mem_cons_self ..)
      · rw [List.filter_eq_self]
        intro x hx
        rw [bne_iff_ne]
        intro h
        exact n2.1 (h ▸ List.mem_map.2 ⟨x, hx, rfl⟩)
    refine ⟨_, e.key, e.val, m1.map (fun e => (e.key, e.val)), m2.map (fun e => (e.key, e.val)), ?_, hr, ⟨?_, hne, es, clock, since, seen.push e.born, clock, hbb, h2, h3, hrr, h5, h7, h7, ?_⟩, ⟨?_, ?_, ?_, ?_, ?_⟩, ?_, run_entry_at _ r b since seen es clock e hrr hbb hein hnd⟩
    · rw [← h8, hm]; simp
    · exact h.map.block (hbb.trans h1.symm)
    · rw [hleft]; simp
    · rcases hw1 with rfl | rfl <;> rfl
    · rcases hw1 with rfl | rfl <;> rfl
    · rcases hw1 with rfl | rfl <;> rfl
    · simp [setBlock, hs1]
    · intro i hi hne2
      have : r ≠ i := fun e => hne2 (by rw [e])
      simp only [setBlock]
      rw [Array.getElem?_setIfInBounds_ne this]
      rcases hw1 with rfl | rfl <;> rfl
    · simp [setBlock, hs1]
end

section
variable {P : Program} {w : World} {ops : Array Oper} {rest : List Oper} {o : Oper} {a : Act} {Q : Exit → Act → World → Prop}
theorem wpList_grange (hg : o.guard = none) (m : Operand) (t : TypeId) (hop : o.op = Op.range t m) (k E : TypeId) (ht : P.underlying t = some (.map k E)) (b : Nat) (l : List (Value × Value))
    (hm : a.eval m = .map (some b)) (h : GMap P k w b l)
    (hK : ∀ w', GIter P k w' b w.heap.size l l → Below w.heap.size w w' → w'.heap.size = w.heap.size + 1 → wpList P ops Q rest (a.put o.dst (.pointer (some ⟨w.heap.size, 0, none⟩))) w') : wpList P ops Q (o :: rest) a w := by
  refine wpList_plain hg fun K' hK' => ?_
  obtain ⟨w', hrun, r1, r2, r3⟩ := h.run_range ht
  unfold Oper.wp
  simp [execOp, hop, hm, hrun, Result.andThen]
  exact hK' _ _ (hK w' r1 r2 r3)
theorem wpList_gnext (hg : o.guard = none) (it : Operand) (hop : o.op = Op.next it false) (k : TypeId) (b r : Nat) (l left : List (Value × Value))
    (hit : a.eval it = .pointer (some ⟨r, 0, none⟩)) (h : GIter P k w b r l left)
    (hDone : left = [] → wpList P ops Q rest (a.put o.dst (.tuple #[.bool false])) w)
    (hMore : ∀ (x v : Value) (l1 l2 : List (Value × Value)) (w' : World), left = l1 ++ (x, v) :: l2 → GIter P k w' b r l (l1 ++ l2) → w.grownBy w' (some r) → w'.heap.size = w.heap.size →
      (Instr.entry (.pointer (some ⟨r, 0, none⟩))).run P w' = .ok (.tuple #[x, v]) w' → wpList P ops Q rest (a.put o.dst (.tuple #[.bool true, x, v])) w') : wpList P ops Q (o :: rest) a w := by
  refine wpList_plain hg fun K' hK' => ?_
  unfold Oper.wp
  rcases h.run_next o.type with ⟨h0, hrun⟩ | ⟨w', x, v, l1, l2, h0, hrun, hr, hgr, hsz, hen⟩
  · simp [execOp, hop, hit, hrun, Result.andThen]
    exact hK' _ _ (hDone h0)
  · simp [execOp, hop, hit, hrun, Result.andThen]
    exact hK' _ _ (hMore x v l1 l2 w' h0 hr hgr hsz hen)
end
end Go.Proofs.YtchpbdodlbghaaaGreatDoor
