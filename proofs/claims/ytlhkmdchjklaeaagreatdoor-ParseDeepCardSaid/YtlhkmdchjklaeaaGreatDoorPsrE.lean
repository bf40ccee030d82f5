/-
  What the parser reads: trees in memory; what goes on from left to right.
-/
import Derived.Test.YtlhkmdchjklaeaaGreatDoorPsrD
import Derived.Deep.LoopGhost
namespace Go.Proofs.YtlhkmdchjklaeaaGreatDoor
open Go.RowKit Go.Lib
set_option maxRecDepth 100000

/-- A tree. -/
inductive Tr where
  | mk (k o : Int) (s t : List UInt8) (n : Int) (l : List Tr)
/-- A node in memory. -/
structure PN where
  k : Int
  o : Int
  s : ByteArray
  t : ByteArray
  n : Int
  la : Option Addr
  ln : Nat
  lc : Nat
def PN.cells (x : PN) : Array Value := #[.int .i64 x.k, .int .i64 x.o, .string x.s, .string x.t, .int .i64 x.n, .slice x.la x.ln x.lc]
def PN.v (x : PN) : Value := .agg #[.int .i64 x.k, .int .i64 x.o, .string x.s, .string x.t, .int .i64 x.n, .slice x.la x.ln x.lc]
def PnAt (w : World) (g : Nat) (L : List PN) : Prop := g < w.heap.size ∧ ∀ (i : Nat) (x : PN), L[i]? = some x → ∀ j, j < 6 → w.cell? ⟨g, i * 6 + j, none⟩ = x.cells[j]?
/-- A node tells a tree, in these blocks. -/
inductive TrAt (A : Nat → Prop) (w : World) : PN → Tr → Prop
  | leaf (k o : Int) (s t : List UInt8) (n : Int) : TrAt A w ⟨k, o, ⟨s.toArray⟩, ⟨t.toArray⟩, n, none, 0, 0⟩ (.mk k o s t n [])
  | node (k o : Int) (s t : List UInt8) (n : Int) (g lc : Nat) (L : List PN) (l : List Tr) (hl : L.length = l.length) (h0 : 0 < l.length) (hc : l.length ≤ lc) (hg : A g) (hN : PnAt w g L) (h : ∀ (i : Nat) (x : PN) (y : Tr), L[i]? = some x → l[i]? = some y → TrAt A w x y) :
      TrAt A w ⟨k, o, ⟨s.toArray⟩, ⟨t.toArray⟩, n, some ⟨g, 0, none⟩, l.length, lc⟩ (.mk k o s t n l)
theorem PnAt.same {w w' : World} {g : Nat} {L : List PN} (h : PnAt w g L) (hx : w'.heap[g]? = w.heap[g]?) (hs : w.heap.size ≤ w'.heap.size) : PnAt w' g L :=
  ⟨Nat.lt_of_lt_of_le h.1 hs, fun i x hi j hj => by
    rw [show w'.cell? ⟨g, i * 6 + j, none⟩ = w.cell? ⟨g, i * 6 + j, none⟩ by simp [World.cell?, hx]]
    exact h.2 i x hi j hj⟩
/-- .. later, where its blocks are as they were. -/
theorem TrAt.same {A : Nat → Prop} {w w' : World} {x : PN} {t : Tr} (h : TrAt A w x t) (hx : ∀ g, A g → g < w.heap.size → w'.heap[g]? = w.heap[g]?) (hs : w.heap.size ≤ w'.heap.size) : TrAt A w' x t := by
  induction h with
  | leaf k o s t n => exact .leaf k o s t n
  | node k o s t n g lc L l hl h0 hc hg hN _ ih => exact .node k o s t n g lc L l hl h0 hc hg (hN.same (hx g hg hN.1) hs) ih
theorem TrAt.later {A : Nat → Prop} {p : Nat} {w w' : World} {x : PN} {t : Tr} (h : TrAt A w x t) (hA : ∀ g, A g → g ≠ p) (hx : LeP p w w') : TrAt A w' x t := h.same (fun g hg hl => hx.old g hl (hA g hg)) hx.size
theorem TrAt.mono {A B : Nat → Prop} {w : World} {x : PN} {t : Tr} (h : TrAt A w x t) (hA : ∀ g, A g → g < w.heap.size → B g) : TrAt B w x t := by
  induction h with
  | leaf k o s t n => exact .leaf k o s t n
  | node k o s t n g lc L l hl h0 hc hg hN _ ih => exact .node k o s t n g lc L l hl h0 hc (hA g hg hN.1) hN ih
theorem TrAt.set6 {A : Nat → Prop} {w : World} {x : PN} {t : Tr} (h : TrAt A w x t) {b : Nat} (hA : ∀ g, A g → g ≠ b) (c0 c1 c2 c3 c4 c5 : Value) : TrAt A ((((((w.setCell ⟨b, 0, none⟩ c0).setCell ⟨b, 1, none⟩ c1).setCell ⟨b, 2, none⟩ c2).setCell ⟨b, 3, none⟩ c3).setCell ⟨b, 4, none⟩ c4).setCell ⟨b, 5, none⟩ c5) x t :=
  h.same (fun g hg _ => by
    have hn := hA g hg
    rw [heap_setCell_other _ ⟨b, 5, none⟩ g _ hn, heap_setCell_other _ ⟨b, 4, none⟩ g _ hn, heap_setCell_other _ ⟨b, 3, none⟩ g _ hn, heap_setCell_other _ ⟨b, 2, none⟩ g _ hn, heap_setCell_other _ ⟨b, 1, none⟩ g _ hn, heap_setCell_other _ ⟨b, 0, none⟩ g _ hn]) (by simp)
theorem cells6_get : ∀ (L : List PN) (i : Nat) (x : PN), L[i]? = some x → ∀ j, j < 6 → (L.flatMap fun x => x.cells.toList)[i * 6 + j]? = x.cells[j]?
  | y :: L, 0, x, h, j, hj => by
    obtain rfl : y = x := by simpa using h
    rw [Nat.zero_mul, Nat.zero_add]
    simp only [List.flatMap_cons]
    rw [List.getElem?_append_left (by simp [PN.cells]; omega)]
    simp
  | y :: L, i + 1, x, h, j, hj => by
    have ih := cells6_get L i x (by simpa using h) j hj
    simp only [List.flatMap_cons]
    rw [List.getElem?_append_right (by simp [PN.cells]; omega), ← ih]
    congr 1
    simp [PN.cells]; omega
theorem pnAt_of {w : World} {g : Nat} {t : TypeId} (L : List PN) (h : Blk w g (L.flatMap fun x => x.cells.toList).toArray t) : PnAt w g L :=
  ⟨h.lt, fun i x hx j hj => by rw [h.cell, List.getElem?_toArray, cells6_get L i x hx j hj]⟩
theorem ret_ndP {t : Tmp} {fn : Func} (h : fn.results = #[.cell t 25]) (tmps : Array Value) {w : World} {g : Nat} {cs : Array Value} (hc : cs.size = 6) (hp : tmps.getD t undef = .pointer (some ⟨g, 0, none⟩)) (hg : Blk w g cs 25) :
    (results fn tmps).run Tryz.prog w = .ok (.agg cs) w := by
  have hp' : tmps[t]?.getD undef = .pointer (some ⟨g, 0, none⟩) := by simpa using hp
  have hr := run_loadVar_row w g 25 25 cs (0, 0) _ hg Tryz.underlying25 rfl (by rw [hc]; kernel_rfl)
  simp [results, h, hp', asAddr, hr]
theorem blk6P {w : World} {g : Nat} {a b c d e f : Value} {t : TypeId} (h : Blk w g #[a, b, c, d, e, f] t) (a' b' c' d' e' f' : Value) : Blk ((((((w.setCell ⟨g, 0, none⟩ a').setCell ⟨g, 1, none⟩ b').setCell ⟨g, 2, none⟩ c').setCell ⟨g, 3, none⟩ d').setCell ⟨g, 4, none⟩ e').setCell ⟨g, 5, none⟩ f') g #[a', b', c', d', e', f'] t :=
  (((((h.set 0 a').set 1 b').set 2 c').set 3 d').set 4 e').set 5 f'
theorem LeP.other6 {p : Nat} {w0 w : World} (h : LeP p w0 w) {g : Nat} (hg : w0.heap.size ≤ g) (a b c d e f : Value) : LeP p w0 ((((((w.setCell ⟨g, 0, none⟩ a).setCell ⟨g, 1, none⟩ b).setCell ⟨g, 2, none⟩ c).setCell ⟨g, 3, none⟩ d).setCell ⟨g, 4, none⟩ e).setCell ⟨g, 5, none⟩ f) :=
  (((((h.other hg 0 a).other hg 1 b).other hg 2 c).other hg 3 d).other hg 4 e).other hg 5 f
theorem PsAt.other6 {w : World} {p g cap long : Nat} {T : List Lx.Tok} {s : PSt} (h : PsAt w p g cap long T s) {x : Nat} (hp : p ≠ x) (hg : g ≠ x) (a b c d e f : Value) : PsAt ((((((w.setCell ⟨x, 0, none⟩ a).setCell ⟨x, 1, none⟩ b).setCell ⟨x, 2, none⟩ c).setCell ⟨x, 3, none⟩ d).setCell ⟨x, 4, none⟩ e).setCell ⟨x, 5, none⟩ f) p g cap long T s :=
  (((((h.other hp hg 0 a).other hp hg 1 b).other hp hg 2 c).other hp hg 3 d).other hp hg 4 e).other hp hg 5 f
/-- What a reader answers: a node that tells this tree, the parser in this state. -/
def LevPost (p g cap long : Nat) (T : List Lx.Tok) (r : Tr) (s' : PSt) (w : World) (e : Ending) (w' : World) : Prop := ∃ x : PN, e = .returned x.v ∧ TrAt (w.heap.size ≤ ·) w' x r ∧ PsAt w' p g cap long T s' ∧ LeP p w w'
/-- What reads each level is what a function says. -/
def LevOk (p g cap long : Nat) (T : List Lx.Tok) (rec : Nat → PSt → Option (Tr × PSt)) : Prop :=
  ∀ (k : Nat) (kz : Int) (s : PSt) (r : Tr) (s' : PSt) (w : World), kz = (k : Int) → k ≤ 12 → rec k s = some (r, s') → PsAt w p g cap long T s → Calls Tryz.prog 17 #[.pointer (some ⟨p, 0, none⟩), .int .i64 kz] w (LevPost p g cap long T r s' w)
/-- Later, where the parser, once in this state, is in it still. -/
structure LeV (p : Nat) (V : Array Value) (w w' : World) : Prop where
  le : LeP p w w'
  keep : Blk w p V 80 → Blk w' p V 80
theorem leV (p : Nat) (V : Array Value) : IsLe (LeV p V) :=
  ⟨fun w => ⟨LeP.refl p w, id⟩, fun h k => ⟨h.le.trans k.le, fun b => k.keep (h.keep b)⟩, fun h => ⟨⟨h.le.os, h.le.tape, h.le.out, h.le.size, h.le.old⟩, h.keep⟩⟩
theorem LeV.ofExt {p : Nat} {V : Array Value} {w w' : World} (h : Ext w w') : LeV p V w w' := ⟨LeP.ofExt h, fun b => b.keep h⟩
theorem PsAt.later {w w' : World} {p g cap long : Nat} {T : List Lx.Tok} {s : PSt} (h : PsAt w p g cap long T s) (hx : LeV p (psC g cap T.length long s) w w') : PsAt w' p g cap long T s :=
  ⟨hx.keep h.blk, h.tok.ext (hx.le.old g h.tok.1 h.ne) hx.le.size, h.ne, h.le, h.cap, h.few⟩
def readP (A : Nat → Prop) (p g cap long : Nat) (T : List Lx.Tok) (r : Tr) (s' : PSt) (v : Value) (w : World) : Prop := ∃ y : PN, v = y.v ∧ TrAt A w y r ∧ PsAt w p g cap long T s'
def pairP (A : Nat → Prop) (x : PN) (n m : Tr) (v : Value) (w : World) : Prop := ∃ (gs : Nat) (y : PN), v = .slice (some ⟨gs, 0, none⟩) 2 2 ∧ A gs ∧ PnAt w gs [x, y] ∧ TrAt A w x n ∧ TrAt A w y m
def treeP (A : Nat → Prop) (r : Tr) (v : Value) (w : World) : Prop := ∃ y : PN, v = y.v ∧ TrAt A w y r
/-- What goes on from left to right. -/
def rowLoop (rec : Nat → PSt → Option (Tr × PSt)) (T : List Lx.Tok) (k : Nat) : Nat → Tr → PSt → Option (Tr × PSt)
  | 0, _, _ => none
  | f + 1, n, s => if (findF T s (binsL k)).1 = 0 then some (n, (findF T s (binsL k)).2) else (rec (k + 1) (findF T s (binsL k)).2).bind fun m => rowLoop rec T k f (.mk 6 (findF T s (binsL k)).1 [] [] 0 [n, m.1]) m.2
def rowF (rec : Nat → PSt → Option (Tr × PSt)) (T : List Lx.Tok) (f k : Nat) (s : PSt) : Option (Tr × PSt) := (rec (k + 1) s).bind fun n => rowLoop rec T k f n.1 n.2
end Go.Proofs.YtlhkmdchjklaeaaGreatDoor
