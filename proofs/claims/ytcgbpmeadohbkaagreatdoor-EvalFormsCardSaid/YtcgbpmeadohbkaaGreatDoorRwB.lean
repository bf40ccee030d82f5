import Derived.WideShapes
import Derived.Lib.SmallJoins
import Derived.Deep.QuietTactic
import Derived.Test.YtcgbpmeadohbkaaGreatDoorRwP
namespace Go.Proofs.YtcgbpmeadohbkaaGreatDoor
open Go.RowKit Go.Lib Go.ChangeAt Go.ChangeShapes
set_option maxRecDepth 100000
def PnIn (w : World) (g o : Nat) (L : List PN) : Prop := g < w.heap.size ∧ ∀ (i : Nat) (x : PN), L[i]? = some x → ∀ j, j < 6 → w.cell? ⟨g, o + i * 6 + j, none⟩ = x.cells[j]?
inductive TrIn (A : Nat → Prop) (w : World) : PN → Tr → Prop
 | leaf (k o : Int) (s t : List UInt8) (n : Int) (la : Option Addr) (lc : Nat) : TrIn A w ⟨k, o, ⟨s.toArray⟩, ⟨t.toArray⟩, n, la, 0, lc⟩ (.mk k o s t n [])
 | node (k o : Int) (s t : List UInt8) (n : Int) (g off lc : Nat) (L : List PN) (l : List Tr) (hl : L.length = l.length) (h0 : 0 < l.length) (hc : l.length ≤ lc) (hg : A g) (hN : PnIn w g off L) (h : ∀ (i : Nat) (x : PN) (y : Tr), L[i]? = some x → l[i]? = some y → TrIn A w x y) :
  TrIn A w ⟨k, o, ⟨s.toArray⟩, ⟨t.toArray⟩, n, some ⟨g, off, none⟩, l.length, lc⟩ (.mk k o s t n l)
theorem PnIn.same {w w' : World} {g o : Nat} {L : List PN} (h : PnIn w g o L) (hx : w'.heap[g]? = w.heap[g]?) (hs : w.heap.size ≤ w'.heap.size) : PnIn w' g o L :=
 ⟨Nat.lt_of_lt_of_le h.1 hs, fun i x hi j hj => by
  rw [show w'.cell? ⟨g, o + i * 6 + j, none⟩ = w.cell? ⟨g, o + i * 6 + j, none⟩ by simp [World.cell?, hx]]
  exact h.2 i x hi j hj⟩
theorem PnIn.ofAt {w : World} {g : Nat} {L : List PN} (h : PnAt w g L) : PnIn w g 0 L := ⟨h.1, fun i x hi j hj => by rw [Nat.zero_add]; exact h.2 i x hi j hj⟩
theorem TrIn.ofAt {A : Nat → Prop} {w : World} {x : PN} {t : Tr} (h : TrAt A w x t) : TrIn A w x t := by
 induction h with
 | leaf k o s t n => exact .leaf k o s t n none 0
 | node k o s t n g lc L l hl h0 hc hg hN _ ih => exact .node k o s t n g 0 lc L l hl h0 hc hg (.ofAt hN) ih
theorem TrIn.same {A : Nat → Prop} {w w' : World} {x : PN} {t : Tr} (h : TrIn A w x t) (hx : ∀ g, A g → g < w.heap.size → w'.heap[g]? = w.heap[g]?) (hs : w.heap.size ≤ w'.heap.size) : TrIn A w' x t := by
 induction h with
 | leaf k o s t n la lc => exact .leaf k o s t n la lc
 | node k o s t n g off lc L l hl h0 hc hg hN _ ih => exact .node k o s t n g off lc L l hl h0 hc hg (hN.same (hx g hg hN.1) hs) ih
theorem TrIn.later {A : Nat → Prop} {p : Nat} {w w' : World} {x : PN} {t : Tr} (h : TrIn A w x t) (hA : ∀ g, A g → g ≠ p) (hx : LeP p w w') : TrIn A w' x t := h.same (fun g hg hl => hx.old g hl (hA g hg)) hx.size
theorem TrIn.ext {A : Nat → Prop} {w w' : World} {x : PN} {t : Tr} (h : TrIn A w x t) (hx : Ext w w') : TrIn A w' x t := h.same (fun g _ hl => hx.block g hl) hx.size
theorem TrIn.mono {A B : Nat → Prop} {w : World} {x : PN} {t : Tr} (h : TrIn A w x t) (hA : ∀ g, A g → g < w.heap.size → B g) : TrIn B w x t := by
 induction h with
 | leaf k o s t n la lc => exact .leaf k o s t n la lc
 | node k o s t n g off lc L l hl h0 hc hg hN _ ih => exact .node k o s t n g off lc L l hl h0 hc (hA g hg hN.1) hN ih
def KidsA (A : Nat → Prop) (w : World) (la : Option Addr) (ln lc : Nat) (l : List Tr) : Prop :=
 (ln = 0 ∧ l = []) ∨ ∃ (g off : Nat) (L : List PN), la = some ⟨g, off, none⟩ ∧ ln = l.length ∧ l.length ≤ lc ∧ L.length = l.length ∧ A g ∧ PnIn w g off L ∧ (∀ (i : Nat) (x : PN) (y : Tr), L[i]? = some x → l[i]? = some y → TrIn A w x y) ∧ 0 < l.length
theorem TrIn.parts {A : Nat → Prop} {w : World} {x : PN} {k o n : Int} {s t : List UInt8} {l : List Tr} (h : TrIn A w x (.mk k o s t n l)) : x.k = k ∧ x.o = o ∧ x.s = ⟨s.toArray⟩ ∧ x.t = ⟨t.toArray⟩ ∧ x.n = n ∧ KidsA A w x.la x.ln x.lc l := by
 cases h with
 | leaf => exact ⟨rfl, rfl, rfl, rfl, rfl, .inl ⟨rfl, rfl⟩⟩
 | node _ _ _ _ _ g off lc L _ hl h0 hc hg hN h => exact ⟨rfl, rfl, rfl, rfl, rfl, .inr ⟨g, off, L, rfl, rfl, hc, hl, hg, hN, h, h0⟩⟩
theorem KidsA.len {A : Nat → Prop} {w : World} {la : Option Addr} {ln lc : Nat} {l : List Tr} (h : KidsA A w la ln lc l) : ln = l.length := by
 rcases h with ⟨h1, h2⟩ | ⟨_, _, _, _, h2, _⟩
 ·rw [h1, h2]; rfl
 ·exact h2
theorem KidsA.ext {A : Nat → Prop} {w w' : World} {la : Option Addr} {ln lc : Nat} {l : List Tr} (h : KidsA A w la ln lc l) (hx : Ext w w') : KidsA A w' la ln lc l := by
 rcases h with h | ⟨g, off, L, h1, h2, h3, h4, h5, h6, h7, h8⟩
 ·exact .inl h
 ·exact .inr ⟨g, off, L, h1, h2, h3, h4, h5, h6.same (hx.block g h6.1) hx.size, fun i x y hx1 hy => (h7 i x y hx1 hy).ext hx, h8⟩
theorem KidsA.later {A : Nat → Prop} {p : Nat} {w w' : World} {la : Option Addr} {ln lc : Nat} {l : List Tr} (h : KidsA A w la ln lc l) (hA : ∀ g, A g → g ≠ p) (hx : LeP p w w') : KidsA A w' la ln lc l := by
 rcases h with h | ⟨g, off, L, h1, h2, h3, h4, h5, h6, h7, h8⟩
 ·exact .inl h
 ·exact .inr ⟨g, off, L, h1, h2, h3, h4, h5, h6.same (hx.old g h6.1 (hA g h5)) hx.size, fun i x y hx1 hy => (h7 i x y hx1 hy).later hA hx, h8⟩
theorem KidsA.get {A : Nat → Prop} {w : World} {la : Option Addr} {ln lc : Nat} {l : List Tr} (h : KidsA A w la ln lc l) (i : Nat) (hi : i < l.length) :
 ∃ (g off : Nat) (y : PN) (z : Tr), la = some ⟨g, off, none⟩ ∧ l[i]? = some z ∧ TrIn A w y z ∧ g < w.heap.size ∧ A g ∧ l.length ≤ lc ∧
  (w.cell? ⟨g, off + i * 6, none⟩ = some (.int .i64 y.k) ∧ w.cell? ⟨g, off + i * 6 + 1, none⟩ = some (.int .i64 y.o) ∧ w.cell? ⟨g, off + i * 6 + 2, none⟩ = some (.string y.s) ∧ w.cell? ⟨g, off + i * 6 + 3, none⟩ = some (.string y.t) ∧ w.cell? ⟨g, off + i * 6 + 4, none⟩ = some (.int .i64 y.n) ∧ w.cell? ⟨g, off + i * 6 + 5, none⟩ = some (.slice y.la y.ln y.lc)) := by
 rcases h with ⟨_, rfl⟩ | ⟨g, off, L, h1, _, h3, h4, h5, h6, h7, _⟩
 ·simp at hi
 ·obtain ⟨y, hy⟩ : ∃ y, L[i]? = some y := ⟨_, List.getElem?_eq_getElem (by omega)⟩
  obtain ⟨z, hz⟩ : ∃ z, l[i]? = some z := ⟨_, List.getElem?_eq_getElem hi⟩
  exact ⟨g, off, y, z, h1, hz, h7 i y z hy hz, h6.1, h5, h3, h6.2 i y hy 0 (by omega), h6.2 i y hy 1 (by omega), h6.2 i y hy 2 (by omega), h6.2 i y hy 3 (by omega), h6.2 i y hy 4 (by omega), h6.2 i y hy 5 (by omega)⟩
inductive RgT : Tr → Prop
 | mk (k o : Int) (s t : List UInt8) (n : Int) (l : List Tr) (hk : InR k) (ho : InR o) (hn : InR n) (hs : s.length ≤ maxLen) (ht : t.length ≤ maxLen) (h : ∀ y, y ∈ l → RgT y) : RgT (.mk k o s t n l)
theorem spotN {w : World} {b o : Nat} {sp : Option Nat} {v : Value} (h : w.cell? ⟨b, o, sp⟩ = some v) : sp = none := by
 cases sp with
 | none => rfl
 | some x =>
  unfold World.cell? at h
  split at h <;> simp at h
theorem addN (g o n : Nat) : (⟨g, o, none⟩ : Addr).add n = ⟨g, o + n, none⟩ := by
 unfold Addr.add
 split
 ·subst n; rfl
 ·rfl
theorem sixN {α : Type} {l : List α} (h : l.length = 6) : ∃ a b c d e f, l = [a, b, c, d, e, f] := by
 match l, h with
 | [a, b, c, d, e, f], _ => exact ⟨a, b, c, d, e, f, rfl⟩
section
variable {H : Type} {enc : TypeId × Value → H} {w : World} {base : Nat} {spare : Nat → Bool} {held : Bool}
theorem nd_of_trod : ∀ (F n : Nat), n ≤ F → ∀ (cs : List Value) (x : DataW H × List MemPlace), DataW.trod enc Tryz.prog w base spare held n 24 cs = some x →
 ∃ (y : PN) (t : Tr), cs = y.cells.toList ∧ TrIn (· < w.heap.size) w y t ∧ RgT t
 | 0, n, hF, cs, x, h => by
  obtain rfl : n = 0 := by omega
  simp [DataW.trod] at h
 | F + 1, n, hF, cs, x, h => by
  have ih := nd_of_trod F
  have k6 : Tryz.prog.cellsOf 24 = 6 := by kernel_rfl
  have ki : Tryz.prog.cellsOf 3 = 1 := by kernel_rfl
  have kl : Tryz.prog.cellsOf 2 = 1 := by kernel_rfl
  have ks : Tryz.prog.cellsOf 9 = 1 := by kernel_rfl
  have kn : Tryz.prog.cellsOf 22 = 1 := by kernel_rfl
  obtain ⟨xs, m, rfl, _, hlen, hxs, hf⟩ := DataW.trod_struct Tryz.underlying24 h
  rw [k6] at hlen
  obtain ⟨c0, c1, c2, c3, c4, c5, rfl⟩ := sixN hlen
  obtain ⟨x0, x1, x2, x3, x4, x5, rfl⟩ := sixN (show xs.length = 6 from hxs)
  have f0 := hf 0 _ rfl
  have f1 := hf 1 _ rfl
  have f2 := hf 2 _ rfl
  have f3 := hf 3 _ rfl
  have f4 := hf 4 _ rfl
  have f5 := hf 5 _ rfl
  simp [ki, kl, ks, kn] at f0 f1 f2 f3 f4 f5
  obtain ⟨k, e0, _, hw0⟩ := DataW.trod_int Tryz.underlying3 f0
  obtain ⟨o, e1, _, hw1⟩ := DataW.trod_int Tryz.underlying3 f1
  obtain ⟨s, e2, _, hs2⟩ := DataW.trod_string Tryz.underlying9 f2
  obtain ⟨t, e3, _, hs3⟩ := DataW.trod_string Tryz.underlying9 f3
  obtain ⟨q, e4, _, hw4⟩ := DataW.trod_int Tryz.underlying2 f4
  simp only [List.cons.injEq, and_true] at e0 e1 e2 e3 e4
  subst e0 e1 e2 e3 e4
  have hk : InR k := by simpa [Lit.wf, InR, IntKind.min, IntKind.max, IntKind.signed, IntKind.bits] using hw0
  have ho : InR o := by simpa [Lit.wf, InR, IntKind.min, IntKind.max, IntKind.signed, IntKind.bits] using hw1
  have hq : InR q := by simpa [Lit.wf, InR, IntKind.min, IntKind.max, IntKind.signed, IntKind.bits] using hw4
  have es : s = ⟨s.data.toList.toArray⟩ := by simp
  have et : t = ⟨t.data.toList.toArray⟩ := by simp
  have hls : s.data.toList.length ≤ maxLen := by simpa using hs2
  have hlt : t.data.toList.length ≤ maxLen := by simpa using hs3
  rcases DataW.trod_slice Tryz.underlying22 f5 with ⟨e5, _⟩ | ⟨a, len, cap, el, rs, m2, rfl, e5, _, hb, hlc, hcm, hel0, hel, _, _⟩
  ·simp only [List.cons.injEq, and_true] at e5
   subst e5
   refine ⟨⟨k, o, s, t, q, none, 0, 0⟩, .mk k o s.data.toList t.data.toList q [], rfl, ?_, .mk _ _ _ _ _ _ hk ho hq hls hlt (fun y hy => by cases hy)⟩
   rw [es, et]
   exact .leaf _ _ _ _ _ _ _
  ·simp only [List.cons.injEq, and_true] at e5
   subst e5
   have each : ∀ i, ∃ y : PN × Tr, RgT y.2 ∧ (i < len → (∀ j, j < 6 → w.cell? ((a.add (i * 6)).add j) = y.1.cells[j]?) ∧ TrIn (· < w.heap.size) w y.1 y.2) := by
    intro i
    by_cases hi : i < len
    ·have h1 := hel i hi
     rw [k6, List.getElem?_eq_getElem (by omega)] at h1
     obtain ⟨ce, hce, hte⟩ := Option.bind_eq_some_iff.1 h1
     obtain ⟨y, tt, rfl, hin, hrg⟩ := ih m2 (by omega) _ _ hte
     obtain ⟨_, _, hcc⟩ := World.cells?_some hce
     exact ⟨(y, tt), hrg, fun _ => ⟨fun j hj => by rw [hcc j hj]; simp, hin⟩⟩
    ·exact ⟨(⟨0, 0, ⟨#[]⟩, ⟨#[]⟩, 0, none, 0, 0⟩, .mk 0 0 [] [] 0 []), .mk _ _ _ _ _ _ (by unfold InR; simp) (by unfold InR; simp) (by unfold InR; simp) (Nat.zero_le _) (Nat.zero_le _) (fun y hy => by cases hy), fun h => absurd h hi⟩
   obtain ⟨f, hff⟩ := Classical.axiomOfChoice each
   by_cases h0 : 0 < len
   ·obtain ⟨g, off, sp⟩ := a
    have h00 := (hff 0).2 h0
    have h01 := h00.1 0 (by omega)
    obtain rfl : sp = none := by
     have e : (⟨g, off, sp⟩ : Addr).add (0 * 6) = ⟨g, off, sp⟩ := by simp [Addr.add]
     rw [e] at h01
     have e2 : (⟨g, off, sp⟩ : Addr).add 0 = ⟨g, off, sp⟩ := by simp [Addr.add]
     rw [e2] at h01
     exact spotN (h01.trans (by rfl))
    simp only [addN] at h01
    have hgl : g < w.heap.size := World.block_lt_of_cell? w _ (h01.trans (by rfl))
    refine ⟨⟨k, o, s, t, q, some ⟨g, off, none⟩, len, cap⟩, .mk k o s.data.toList t.data.toList q ((List.range len).map fun i => (f i).2), rfl, ?_, .mk _ _ _ _ _ _ hk ho hq hls hlt (fun y hy => by
     obtain ⟨i, _, rfl⟩ := List.mem_map.1 hy
     exact (hff i).1)⟩
    have hlen2 : ((List.range len).map fun i => (f i).2).length = len := by simp
    rw [es, et]
    have hnode := TrIn.node (A := (· < w.heap.size)) (w := w) k o s.data.toList t.data.toList q g off cap ((List.range len).map fun i => (f i).1) ((List.range len).map fun i => (f i).2) (by simp) (by simpa using h0) (by simpa using hlc) hgl ⟨hgl, fun i x hx j hj => by
     rw [List.getElem?_map] at hx
     by_cases hil : i < len
     ·rw [List.getElem?_range hil] at hx
      obtain rfl : (f i).1 = x := by simpa using hx
      have := ((hff i).2 hil).1 j hj
      simp only [addN] at this
      exact this
     ·rw [List.getElem?_eq_none (by simpa using hil)] at hx
      cases hx⟩ (fun i x y hx hy => by
     rw [List.getElem?_map] at hx hy
     by_cases hil : i < len
     ·rw [List.getElem?_range hil] at hx hy
      obtain rfl : (f i).1 = x := by simpa using hx
      obtain rfl : (f i).2 = y := by simpa using hy
      exact ((hff i).2 hil).2
     ·rw [List.getElem?_eq_none (by simpa using hil)] at hx
      cases hx)
    rw [hlen2] at hnode
    exact hnode
   ·obtain rfl : len = 0 := by omega
    refine ⟨⟨k, o, s, t, q, some a, 0, cap⟩, .mk k o s.data.toList t.data.toList q [], rfl, ?_, .mk _ _ _ _ _ _ hk ho hq hls hlt (fun y hy => by cases hy)⟩
    rw [es, et]
    exact .leaf _ _ _ _ _ _ _
theorem open_node {r : Reach} {b0 : Nat} {v : Value} {d : DataW H} {ps : List MemPlace} (hval : Value.okWide Tryz.prog w r b0 24 v) (hd : DataW.Trod enc Tryz.prog w base spare held 24 v d ps) :
 ∃ (y : PN) (t : Tr), v = y.v ∧ TrIn (· < w.heap.size) w y t ∧ RgT t := by
 obtain ⟨cs, rfl, hsz⟩ := WideShapes.okWide_struct Tryz.underlying24 hval
 obtain ⟨fuel, hf⟩ := hd
 obtain ⟨y, t, he, h1, h2⟩ := nd_of_trod fuel fuel (Nat.le_refl _) _ _ hf
 refine ⟨y, t, ?_, h1, h2⟩
 have : cs = y.cells := by simpa [Value.cells] using he
 rw [this]
 rfl
end
end Go.Proofs.YtcgbpmeadohbkaaGreatDoor
namespace Go.Proofs.YtcgbpmeadohbkaaGreatDoor
open Go.RowKit Go.Lib
set_option maxRecDepth 100000
def kindT : Tr → Int
 | .mk k _ _ _ _ _ => k
def kindAt (l : List Tr) (i : Nat) : Int := match l[i]? with
 | some x => kindT x
 | none => -1
def mayT (k n : Int) : Bool := decide (k ≠ 3) || decide (n = 3)
def aloneT (k o : Int) (s : List UInt8) (n : Int) (l : List Tr) : Bool :=
 if k = 14 then false else if k = 5 then decide (o = 21) else if k = 6 then !decide (7 ≤ o ∧ o ≤ 13) && !decide (o = 17)
 else if k = 8 then decide (kindAt l 1 = 3) else if k = 13 then !decide (s = [102, 111, 108, 100]) && !decide (s = [97, 98, 115])
 else if k = 12 then decide (kindAt l 0 ≤ 3) && mayT (kindAt l 0) n else true
mutual
def safeT : Tr → Bool
 | .mk k o s _ n l => aloneT k o s n l && safeTs l
def safeTs : List Tr → Bool
 | [] => true
 | x :: r => safeT x && safeTs r
end
mutual
def constT : Tr → Bool
 | .mk k _ _ _ _ l => (!decide (k = 4) && !decide (k = 14)) && constTs l
def constTs : List Tr → Bool
 | [] => true
 | x :: r => constT x && constTs r
end
theorem safeT_mk (k o : Int) (s t : List UInt8) (n : Int) (l : List Tr) : safeT (.mk k o s t n l) = (aloneT k o s n l && safeTs l) := by rw [safeT]
theorem constT_mk (k o : Int) (s t : List UInt8) (n : Int) (l : List Tr) : constT (.mk k o s t n l) = ((!decide (k = 4) && !decide (k = 14)) && constTs l) := by rw [constT]
theorem safeTs_all : ∀ l : List Tr, safeTs l = l.all safeT
 | [] => by rw [safeTs]; rfl
 | x :: r => by rw [safeTs, safeTs_all r]; rfl
theorem constTs_all : ∀ l : List Tr, constTs l = l.all constT
 | [] => by rw [constTs]; rfl
 | x :: r => by rw [constTs, constTs_all r]; rfl
theorem all_take {f : Tr → Bool} {l : List Tr} {j : Nat} {z : Tr} (h : (l.take j).all f = true) (hz : l[j]? = some z) (hf : f z = true) : (l.take (j + 1)).all f = true := by
 rw [List.take_add_one, hz, List.all_append, h]
 simp [hf]
theorem all_false {f : Tr → Bool} {l : List Tr} {j : Nat} {z : Tr} (hz : l[j]? = some z) (hf : f z = false) : l.all f = false := by
 rw [List.all_eq_false]
 exact ⟨z, List.mem_of_getElem? hz, by simp [hf]⟩
theorem kind_tr {A : Nat → Prop} {w : World} {x : PN} {t : Tr} (h : TrIn A w x t) : x.k = kindT t := by
 cases t with
 | mk k o s t n l => exact h.parts.1
set_option maxHeartbeats 2000000 in
theorem may_law (k n : Int) (hk : k = 0 ∨ k = 1 ∨ k = 2 ∨ k = 3) (hn : n = 1 ∨ n = 2 ∨ n = 3) (w : World) : Calls Tryz.prog 32 #[.int .i64 k, .int .i64 n] w fun e w' => e = .returned (.bool (mayT k n)) ∧ w' = w := by
 rcases hk with rfl | rfl | rfl | rfl <;> rcases hn with rfl | rfl | rfl <;>
 ·go_enter Tryz.func32, Tryz.ntmps32
  go_simp
  repeat (first | go_values | go_skip | go_guarded | go_step | go_upon)
  go_returns
  exact ⟨rfl, rfl⟩
set_option maxHeartbeats 2000000 in
theorem may_cast (k n : Int) (hk : k = 0 ∨ k = 1 ∨ k = 2 ∨ k = 3) (hn : n = 1 ∨ n = 2 ∨ n = 3) (w : World) : Calls Tryz.prog 61 #[.int .i64 k, .int .i64 n] w fun e w' => e = .returned (.bool (mayT k n)) ∧ w' = w := by
 rcases hk with rfl | rfl | rfl | rfl <;> rcases hn with rfl | rfl | rfl <;>
 ·go_enter Tryz.func61, Tryz.ntmps61
  go_simp
  repeat (first | go_values | go_skip | go_guarded | go_step | go_upon)
  go_returns
  exact ⟨rfl, rfl⟩
theorem shape_cases {k o : Int} {s t : List UInt8} {n : Int} {m : Nat} (h : Shape k o s t n m) :
 0 ≤ k ∧ (k = 14 ∨ (k = 5 ∧ (o = 20 ∨ o = 21)) ∨ (k = 6 ∧ 1 ≤ o ∧ o ≤ 22) ∨ (k = 8 ∧ 2 ≤ m) ∨ k = 13 ∨ (k = 12 ∧ m = 1 ∧ (n = 1 ∨ n = 2 ∨ n = 3)) ∨ (k ≠ 14 ∧ k ≠ 5 ∧ k ≠ 6 ∧ k ≠ 8 ∧ k ≠ 13 ∧ k ≠ 12)) := by
 unfold Shape at h
 omega
end Go.Proofs.YtcgbpmeadohbkaaGreatDoor
namespace Go.Proofs.YtcgbpmeadohbkaaGreatDoor
open Go.RowKit Go.Lib
set_option maxRecDepth 100000
theorem lvR_else (o : Int) (h : ¬(o = 19 ∨ o = 22)) (h1 : o ≠ 18) (h2 : ¬(o = 15 ∨ o = 16)) (h3 : o ≠ 14) (h4 : ¬(o = 12 ∨ o = 13)) (h5 : ¬(o = 7 ∨ o = 8 ∨ o = 17)) (h6 : ¬(o = 9 ∨ o = 10 ∨ o = 11)) : lvR 6 o = 4 := by
 unfold lvR; rw [if_pos rfl, if_neg h, if_neg h1, if_neg h2, if_neg h3, if_neg h4, if_neg h5, if_neg h6]
set_option maxHeartbeats 4000000 in
theorem level_bin (o : Int) (s t : ByteArray) (n : Int) (la : Option Addr) (ln lc : Nat) (w : World) :
 Calls Tryz.prog 44 #[.agg #[.int .i64 6, .int .i64 o, .string s, .string t, .int .i64 n, .slice la ln lc]] w fun e w' => e = .returned (.int .i64 (lvR 6 o)) ∧ Ext w w' := by
 have HX := Lib.hid (show Ext w (w.alloc (.cells #[.int .i64 6, .int .i64 o, .string s, .string t, .int .i64 n, .slice la ln lc] 24)) from (Ext.refl w).alloc _)
 by_cases h : o = 19 ∨ o = 22 ∨ o = 18 ∨ o = 15 ∨ o = 16 ∨ o = 14 ∨ o = 12 ∨ o = 13 ∨ o = 7 ∨ o = 8 ∨ o = 17 ∨ o = 9 ∨ o = 10 ∨ o = 11
 ·obtain ⟨R, hR⟩ : ∃ R, R = lvR 6 o := ⟨_, rfl⟩
  rcases h with rfl | rfl | rfl | rfl | rfl | rfl | rfl | rfl | rfl | rfl | rfl | rfl | rfl | rfl
  all_goals
   rw [← hR]
   unfold lvR at hR
   simp at hR
   subst hR
   go_enter Tryz.func44, Tryz.ntmps44
   go_simp
   repeat (first | go_values | go_skip | go_guarded | go_step | go_upon)
   go_returns
   exact ⟨rfl, HX.out⟩
 ·rw [lvR_else o (by omega) (by omega) (by omega) (by omega) (by omega) (by omega) (by omega)]
  have q1 : (o == 19) = false := by rw [beq_eq_false_iff_ne]; omega
  have q2 : (o == 22) = false := by rw [beq_eq_false_iff_ne]; omega
  have q3 : (o == 18) = false := by rw [beq_eq_false_iff_ne]; omega
  have q4 : (o == 15) = false := by rw [beq_eq_false_iff_ne]; omega
  have q5 : (o == 16) = false := by rw [beq_eq_false_iff_ne]; omega
  have q6 : (o == 14) = false := by rw [beq_eq_false_iff_ne]; omega
  have q7 : (o == 12) = false := by rw [beq_eq_false_iff_ne]; omega
  have q8 : (o == 13) = false := by rw [beq_eq_false_iff_ne]; omega
  have q9 : (o == 7) = false := by rw [beq_eq_false_iff_ne]; omega
  have q10 : (o == 8) = false := by rw [beq_eq_false_iff_ne]; omega
  have q11 : (o == 17) = false := by rw [beq_eq_false_iff_ne]; omega
  have q12 : (o == 9) = false := by rw [beq_eq_false_iff_ne]; omega
  have q13 : (o == 10) = false := by rw [beq_eq_false_iff_ne]; omega
  have q14 : (o == 11) = false := by rw [beq_eq_false_iff_ne]; omega
  clear h
  go_enter Tryz.func44, Tryz.ntmps44
  go_simp
  repeat (first | go_values | go_skip | go_guarded | go_step | go_upon)
  go_returns
  exact ⟨rfl, HX.out⟩
set_option maxHeartbeats 4000000 in
theorem level_any (k o : Int) (s t : ByteArray) (n : Int) (la : Option Addr) (ln lc : Nat) (w : World) :
 Calls Tryz.prog 44 #[.agg #[.int .i64 k, .int .i64 o, .string s, .string t, .int .i64 n, .slice la ln lc]] w fun e w' => e = .returned (.int .i64 (lvR k o)) ∧ Ext w w' := by
 have HX := Lib.hid (show Ext w (w.alloc (.cells #[.int .i64 k, .int .i64 o, .string s, .string t, .int .i64 n, .slice la ln lc] 24)) from (Ext.refl w).alloc _)
 by_cases h6 : k = 6
 ·subst h6
  exact level_bin o s t n la ln lc w
 by_cases h5 : k = 5
 ·subst h5
  by_cases ho : o = 21
  ·subst ho
   rw [show lvR 5 21 = 3 from rfl]
   go_enter Tryz.func44, Tryz.ntmps44
   go_simp
   repeat (first | go_values | go_skip | go_guarded | go_step | go_upon)
   go_returns
   exact ⟨rfl, HX.out⟩
  ·have q1 : (o == 21) = false := by rw [beq_eq_false_iff_ne]; omega
   have e1 : lvR 5 o = 10 := by unfold lvR; rw [if_neg (by decide), if_pos rfl, if_neg ho]
   rw [e1]
   clear ho e1
   go_enter Tryz.func44, Tryz.ntmps44
   go_simp
   repeat (first | go_values | go_skip | go_guarded | go_step | go_upon)
   go_returns
   exact ⟨rfl, HX.out⟩
 by_cases h4 : k = 7 ∨ k = 8 ∨ k = 9 ∨ k = 10 ∨ k = 11
 ·obtain ⟨R, hR⟩ : ∃ R, R = lvR k o := ⟨_, rfl⟩
  clear h6 h5
  rcases h4 with rfl | rfl | rfl | rfl | rfl
  all_goals
   rw [← hR]
   unfold lvR at hR
   simp at hR
   subst hR
   go_enter Tryz.func44, Tryz.ntmps44
   go_simp
   repeat (first | go_values | go_skip | go_guarded | go_step | go_upon)
   go_returns
   exact ⟨rfl, HX.out⟩
 ·have e1 : lvR k o = 12 := by unfold lvR; rw [if_neg h6, if_neg h5, if_neg (by omega), if_neg (by omega)]
  rw [e1]
  have q1 : (k == 6) = false := by rw [beq_eq_false_iff_ne]; omega
  have q2 : (k == 5) = false := by rw [beq_eq_false_iff_ne]; omega
  have q3 : (k == 7) = false := by rw [beq_eq_false_iff_ne]; omega
  have q4 : (k == 8) = false := by rw [beq_eq_false_iff_ne]; omega
  have q5 : (k == 9) = false := by rw [beq_eq_false_iff_ne]; omega
  have q6 : (k == 10) = false := by rw [beq_eq_false_iff_ne]; omega
  have q7 : (k == 11) = false := by rw [beq_eq_false_iff_ne]; omega
  clear h6 h5 h4 e1
  go_enter Tryz.func44, Tryz.ntmps44
  go_simp
  repeat (first | go_values | go_skip | go_guarded | go_step | go_upon)
  go_returns
  exact ⟨rfl, HX.out⟩
set_option maxHeartbeats 2000000 in
theorem not_anyR (k o : Int) (s t : ByteArray) (n : Int) (la : Option Addr) (ln lc : Nat) (w : World) :
 Calls Tryz.prog 47 #[.agg #[.int .i64 k, .int .i64 o, .string s, .string t, .int .i64 n, .slice la ln lc]] w fun e w' => e = .returned (.string ⟨(notB n).toArray⟩) ∧ Ext w w' := by
 have HX := Lib.hid (show Ext w (w.alloc (.cells #[.int .i64 k, .int .i64 o, .string s, .string t, .int .i64 n, .slice la ln lc] 24)) from (Ext.refl w).alloc _)
 unfold notB
 by_cases hn : n = 1
 ·subst hn
  rw [if_pos rfl]
  go_enter Tryz.func47, Tryz.ntmps47
  go_simp
  repeat (first | go_values | go_skip | go_guarded | go_step | go_upon)
  go_returns
  exact ⟨rfl, HX.out⟩
 ·rw [if_neg hn]
  have hb : (n == 1) = false := by rw [beq_eq_false_iff_ne]; exact hn
  clear hn
  go_enter Tryz.func47, Tryz.ntmps47
  go_simp
  repeat (first | go_values | go_skip | go_guarded | go_step | go_upon)
  go_returns
  exact ⟨rfl, HX.out⟩
def opNV : Array Value := #[.string ⟨#[]⟩, .string ⟨#[61]⟩, .string ⟨#[60, 62]⟩, .string ⟨#[60]⟩, .string ⟨#[60, 61]⟩, .string ⟨#[62]⟩, .string ⟨#[62, 61]⟩, .string ⟨#[43]⟩, .string ⟨#[45]⟩, .string ⟨#[42]⟩, .string ⟨#[47]⟩, .string ⟨#[37]⟩, .string ⟨#[60, 60]⟩, .string ⟨#[62, 62]⟩, .string ⟨#[38]⟩, .string ⟨#[124]⟩, .string ⟨#[94]⟩, .string ⟨#[124, 124]⟩, .string ⟨#[65, 78, 68]⟩, .string ⟨#[79, 82]⟩, .string ⟨#[]⟩, .string ⟨#[]⟩, .string ⟨#[88, 79, 82]⟩]
theorem opNV_get (m : Nat) (hm : m < 23) : opNV[m]? = some (.string ⟨(opN m).toArray⟩) := by
 have : m = 0 ∨ m = 1 ∨ m = 2 ∨ m = 3 ∨ m = 4 ∨ m = 5 ∨ m = 6 ∨ m = 7 ∨ m = 8 ∨ m = 9 ∨ m = 10 ∨ m = 11 ∨ m = 12 ∨ m = 13 ∨ m = 14 ∨ m = 15 ∨ m = 16 ∨ m = 17 ∨ m = 18 ∨ m = 19 ∨ m = 20 ∨ m = 21 ∨ m = 22 := by omega
 rcases this with rfl | rfl | rfl | rfl | rfl | rfl | rfl | rfl | rfl | rfl | rfl | rfl | rfl | rfl | rfl | rfl | rfl | rfl | rfl | rfl | rfl | rfl | rfl <;> rfl
set_option maxHeartbeats 2000000 in
theorem opName_any (o : Int) (w : World) :
 Calls Tryz.prog 46 #[.int .i64 o] w fun e w' => e = .returned (.string ⟨(opN o).toArray⟩) ∧ Ext w w' := by
 have HX := Lib.hid (show Ext w (w.alloc (.cells opNV 9)) from (Ext.refl w).alloc _)
 have HB := Lib.hid (Blk.new w opNV 9 rfl)
 by_cases h0 : o < 0
 ·have e1 : opN o = [] := by unfold opN; rw [if_pos h0]
  have hB : decide (o < 0) = true := by rw [decide_eq_true_iff]; exact h0
  rw [e1]
  clear e1 h0
  go_enter Tryz.func46, Tryz.ntmps46
  go_simp
  repeat (first | go_values | go_skip | go_guarded | go_step | go_upon)
  go_returns
  exact ⟨rfl, HX.out⟩
 ·have hB : decide (o < 0) = false := by rw [decide_eq_false_iff_not]; exact h0
  by_cases h1 : 23 ≤ o
  ·have e1 : opN o = [] := by unfold opN; rw [if_neg h0, List.getElem?_eq_none (by simp [opNR]; omega)]; rfl
   have hB2 : decide (23 ≤ o) = true := by rw [decide_eq_true_iff]; exact h1
   rw [e1]
   clear e1 h0
   go_enter Tryz.func46, Tryz.ntmps46
   go_simp
   repeat (first | go_values | go_skip | go_guarded | go_step | go_upon)
   go_returns
   exact ⟨rfl, HX.out⟩
  ·have hB2 : decide (23 ≤ o) = false := by rw [decide_eq_false_iff_not]; exact h1
   obtain ⟨m, rfl⟩ : ∃ m : Nat, o = (m : Int) := ⟨o.toNat, by omega⟩
   have hm : m < 23 := by omega
   have hg := (HB.out.cell m).trans (opNV_get m hm)
   have hl := HB.out.lt
   generalize opN m = x at hg ⊢
   obtain ⟨W, hW⟩ : ∃ W, W = w.alloc (.cells opNV 9) := ⟨_, rfl⟩
   rw [← hW] at HX HB hg hl
   have hmI : (m : Int) < 23 := by omega
   clear hB h0 h1
   go_enter Tryz.func46, Tryz.ntmps46
   go_upto_region 2 with (fail)
   rw [show w.alloc (.cells #[.string ⟨#[]⟩, .string ⟨#[61]⟩, .string ⟨#[60, 62]⟩, .string ⟨#[60]⟩, .string ⟨#[60, 61]⟩, .string ⟨#[62]⟩, .string ⟨#[62, 61]⟩, .string ⟨#[43]⟩, .string ⟨#[45]⟩, .string ⟨#[42]⟩, .string ⟨#[47]⟩, .string ⟨#[37]⟩, .string ⟨#[60, 60]⟩, .string ⟨#[62, 62]⟩, .string ⟨#[38]⟩, .string ⟨#[124]⟩, .string ⟨#[94]⟩, .string ⟨#[124, 124]⟩, .string ⟨#[65, 78, 68]⟩, .string ⟨#[79, 82]⟩, .string ⟨#[]⟩, .string ⟨#[]⟩, .string ⟨#[88, 79, 82]⟩] 9) = W from hW.symm]
   clear hW
   go_simp
   repeat (first | go_values | go_skip | go_guarded | go_step | go_upon)
   go_returns
   exact ⟨rfl, HX.out⟩
end Go.Proofs.YtcgbpmeadohbkaaGreatDoor
namespace Go.Proofs.YtcgbpmeadohbkaaGreatDoor
open Go.RowKit Go.Lib
set_option maxRecDepth 100000
theorem sizeL (l : List UInt8) : (ByteArray.mk l.toArray).size = l.length := by show l.toArray.size = _; simp
set_option maxHeartbeats 4000000 in
theorem at_anyR (x : PN) (lv : Int) (wd : List UInt8) (hl : wd.length ≤ 1000000) (w : World) (hw : ∀ W, Ext w W → Calls Tryz.prog 23 #[x.v] W fun e w' => e = .returned (.string ⟨wd.toArray⟩) ∧ Ext W w') :
 Calls Tryz.prog 45 #[x.v, .int .i64 lv] w fun e w' => e = .returned (.string ⟨(atB (lvR x.k x.o, wd) lv).toArray⟩) ∧ Ext w w' := by
 obtain ⟨xk, xo, xs, xt, xn, xla, xln, xlc⟩ := x
 have HX := Lib.hid (show Ext w (w.alloc (.cells #[.int .i64 xk, .int .i64 xo, .string xs, .string xt, .int .i64 xn, .slice xla xln xlc] 24)) from (Ext.refl w).alloc _)
 have HB := Lib.hid (Blk.new w #[.int .i64 xk, .int .i64 xo, .string xs, .string xt, .int .i64 xn, .slice xla xln xlc] 24 rfl)
 have KL := Lib.hid (fun W => level_any xk xo xs xt xn xla xln xlc W)
 have KW := Lib.hid hw
 simp only [PN.v] at KW ⊢
 unfold atB
 simp only
 obtain ⟨Q, hQ⟩ : ∃ Q, Q = lvR xk xo := ⟨_, rfl⟩
 rw [← hQ] at KL ⊢
 clear hw hQ
 obtain ⟨S, hS⟩ : ∃ S : ByteArray, S = ⟨wd.toArray⟩ := ⟨_, rfl⟩
 have hSz : S.size ≤ 1000000 := by rw [hS, sizeL]; exact hl
 have HS := Lib.hid hS
 rw [← hS] at KW
 clear hS hl
 by_cases hlt : Q < lv
 ·rw [if_pos hlt]
  go_enter Tryz.func45, Tryz.ntmps45
  go_upto_region 1 with (fail)
  generalize (w.alloc (.cells #[.int .i64 xk, .int .i64 xo, .string xs, .string xt, .int .i64 xn, .slice xla xln xlc] 24)) = W0 at HX HB ⊢
  obtain ⟨cb, fb⟩ := HB.out.facts
  have hbl := HB.out.lt
  go_simp
  repeat (first | go_values | go_skip | go_guarded | go_step | go_upon)
  refine Calls.mono (KL.out W0) ?_
  rintro e W1 ⟨rfl, hx1⟩
  have HX1 := Lib.hid (Ext.trans HX.out hx1)
  have HB1 := Lib.hid (HB.out.keep hx1)
  clear hx1 HX HB cb fb hbl
  obtain ⟨cb, fb⟩ := HB1.out.facts
  have hbl := HB1.out.lt
  go_simp
  repeat (first | go_values | go_skip | go_guarded | go_step | go_upon)
  refine Calls.mono (KW.out W1 HX1.out) ?_
  rintro e W2 ⟨rfl, hx2⟩
  have HX2 := Lib.hid (Ext.trans HX1.out hx2)
  clear hx2 HX1 HB1 cb fb hbl
  go_simp
  repeat (first | go_values | go_skip | go_guarded | go_step | go_upon)
  go_returns
  refine ⟨?_, HX2.out⟩
  rw [HS.out]
  exact congrArg (fun x => Ending.returned (.string x)) (ba_ext (by simp))
 ·rw [if_neg hlt]
  go_enter Tryz.func45, Tryz.ntmps45
  go_upto_region 1 with (fail)
  generalize (w.alloc (.cells #[.int .i64 xk, .int .i64 xo, .string xs, .string xt, .int .i64 xn, .slice xla xln xlc] 24)) = W0 at HX HB ⊢
  obtain ⟨cb, fb⟩ := HB.out.facts
  have hbl := HB.out.lt
  go_simp
  repeat (first | go_values | go_skip | go_guarded | go_step | go_upon)
  refine Calls.mono (KL.out W0) ?_
  rintro e W1 ⟨rfl, hx1⟩
  have HX1 := Lib.hid (Ext.trans HX.out hx1)
  have HB1 := Lib.hid (HB.out.keep hx1)
  clear hx1 HX HB cb fb hbl
  obtain ⟨cb, fb⟩ := HB1.out.facts
  have hbl := HB1.out.lt
  go_simp
  repeat (first | go_values | go_skip | go_guarded | go_step | go_upon)
  refine Calls.mono (KW.out W1 HX1.out) ?_
  rintro e W2 ⟨rfl, hx2⟩
  have HX2 := Lib.hid (Ext.trans HX1.out hx2)
  clear hx2 HX1 HB1 cb fb hbl
  go_simp
  repeat (first | go_values | go_skip | go_guarded | go_step | go_upon)
  go_returns
  rw [HS.out]
  exact ⟨rfl, HX2.out⟩
def WordsOk (w : World) (A : Nat → Prop) (l : List Tr) : Prop := ∀ z, z ∈ l → (wordsT z).length ≤ 900000 ∧ ∀ (y : PN) (W : World), TrIn A W y z → Ext w W → Calls Tryz.prog 23 #[y.v] W fun e w' => e = .returned (.string ⟨(wordsT z).toArray⟩) ∧ Ext W w'
theorem lv_of {A : Nat → Prop} {w : World} {y : PN} {z : Tr} (h : TrIn A w y z) : lvR y.k y.o = lvT z := by
 cases z with
 | mk k o s t n l =>
  obtain ⟨h1, h2, _⟩ := h.parts
  rw [h1, h2]; rfl
theorem PnIn.at6 {w : World} {g o i : Nat} {L : List PN} {y : PN} (h : PnIn w g o L) (hy : L[i]? = some y) :
 w.cell? ⟨g, o + i * 6, none⟩ = some (.int .i64 y.k) ∧ w.cell? ⟨g, o + i * 6 + 1, none⟩ = some (.int .i64 y.o) ∧ w.cell? ⟨g, o + i * 6 + 2, none⟩ = some (.string y.s) ∧ w.cell? ⟨g, o + i * 6 + 3, none⟩ = some (.string y.t) ∧ w.cell? ⟨g, o + i * 6 + 4, none⟩ = some (.int .i64 y.n) ∧ w.cell? ⟨g, o + i * 6 + 5, none⟩ = some (.slice y.la y.ln y.lc) :=
 ⟨h.2 i y hy 0 (by omega), h.2 i y hy 1 (by omega), h.2 i y hy 2 (by omega), h.2 i y hy 3 (by omega), h.2 i y hy 4 (by omega), h.2 i y hy 5 (by omega)⟩
theorem lvR_bd (k o : Int) : 1 ≤ lvR k o ∧ lvR k o ≤ 12 := by
 unfold lvR
 repeat' split
 all_goals decide
end Go.Proofs.YtcgbpmeadohbkaaGreatDoor
