/-
 Collations of both sides that lie in memory: they stand while rows of collations are filled and grow. Collations of both sides by numbers (umlautlaw23.colls).
-/
import Derived.Test.YtipokgedmfnlaaaGreatDoorOrd
namespace Go.Proofs.YtipokgedmfnlaaaGreatDoor
open Go.RowKit Go.Lib
set_option maxRecDepth 100000

/-- A block that begins with a number up to three and holds a truth at its third place. -/
def Loose (w : World) (i : Nat) : Prop := ∃ cs t K x, Blk w i cs t ∧ cs[0]? = some (.int .i64 K) ∧ K ≤ 3 ∧ cs[2]? = some (.bool x)
theorem NoTab.loose {w : World} {i : Nat} (h : NoTab w i) : Loose w i := by
 obtain ⟨cs, t, h1, h2, x, h3⟩ := h
 exact ⟨cs, t, 0, x, h1, h2, by omega, h3⟩
theorem rootS_three : ∀ y ∈ rootS, 3 < y.1 := by decide +kernel
theorem EntsR.agreeL {w w' : World} {v : Value} {L : List (Nat × List El)} (h : EntsR w v L) (h0 : ∀ y ∈ L, 3 < y.1) (hs : w.heap.size ≤ w'.heap.size)
  (hh : ∀ i, i < w.heap.size → w'.heap[i]? = w.heap[i]? ∨ Loose w i) : EntsR w' v L := by
 have hcell : ∀ g o u, w.cell? ⟨g, o, none⟩ = some u → ((∃ u2, w.cell? ⟨g, 0, none⟩ = some u2 ∧ ∀ K : Int, K ≤ 3 → u2 ≠ .int .i64 K) ∨ ∃ u2, w.cell? ⟨g, 2, none⟩ = some u2 ∧ ∀ x, u2 ≠ .bool x) → w'.cell? ⟨g, o, none⟩ = some u := by
  intro g o u hc h2
  rcases hh g (World.block_lt_of_cell? w _ hc) with h4 | ⟨cs, t, K, x, h4, h5, hK, h6⟩
  ·have : w'.cell? ⟨g, o, none⟩ = w.cell? ⟨g, o, none⟩ := by unfold World.cell?; rw [h4]
   rw [this]; exact hc
  ·exfalso
   rcases h2 with ⟨u2, h2, h3⟩ | ⟨u2, h2, h3⟩
   ·rw [h4.cell, h5] at h2
    exact h3 K hK (Option.some.inj h2).symm
   ·rw [h4.cell, h6] at h2
    exact h3 x (Option.some.inj h2).symm
 obtain ⟨vs, h1, h2, h3⟩ := h
 refine ⟨vs, ?_, h2, fun j p y hp hy => ?_⟩
 ·rcases h1 with h1 | ⟨g, c, e1, e2, e3, e4⟩
  ·exact .inl h1
  ·refine .inr ⟨g, c, e1, e2, Nat.lt_of_lt_of_le e3 hs, fun j u hj => ?_⟩
   have hl : j < (flatE vs).length := (List.getElem?_eq_some_iff.1 hj).1
   rw [flatE_length] at hl
   have hv0 : 0 < vs.length := by omega
   obtain ⟨g7, k7, h7, _⟩ := (h3 0 vs[0] (L[0]'(by omega)) (List.getElem?_eq_getElem hv0) (List.getElem?_eq_getElem (by omega))).1
   refine hcell g j u (e4 j u hj) (.inl ⟨vs[0].1, e4 0 _ (flatE_get vs 0 hv0).1, fun K _ => ?_⟩)
   rw [h7]; simp
 ·obtain ⟨⟨g, k, e1, e2, e3⟩, h5⟩ := h3 j p y hp hy
  have hy0 := h0 y (List.mem_of_getElem? hy)
  refine ⟨⟨g, k, e1, e2, hcell g 0 _ e3 (.inl ⟨_, e3, fun K hK => by simp; omega⟩)⟩, ?_⟩
  rcases h5 with h5 | ⟨g2, c2, f1, f2, f3, f4⟩
  ·exact .inl h5
  ·refine .inr ⟨g2, c2, f1, f2, Nat.lt_of_lt_of_le f3 hs, fun j2 u hj2 => ?_⟩
   have hl : j2 < (flatR y.2).length := (List.getElem?_eq_some_iff.1 hj2).1
   cases hy2 : y.2 with
   | nil => rw [hy2] at hl; simp [flatR] at hl
   | cons e0 es0 => exact hcell g2 j2 u (f4 j2 u hj2) (.inr ⟨_, f4 2 (.int .i64 (e0.t : Int)) (by rw [hy2]; simp [flatR, cellsR]), by simp⟩)
theorem RootAt.agreeL {w w' : World} {p : Nat} (h : RootAt w p) (hs : w.heap.size ≤ w'.heap.size) (hh : ∀ i, i < w.heap.size → w'.heap[i]? = w.heap[i]? ∨ Loose w i) : RootAt w' p := by
 have hcell : ∀ g o u, w.cell? ⟨g, o, none⟩ = some u → (∃ u2, w.cell? ⟨g, 0, none⟩ = some u2 ∧ ∀ K : Int, u2 ≠ .int .i64 K) → w'.cell? ⟨g, o, none⟩ = some u := by
  intro g o u hc ⟨u2, h2, h3⟩
  rcases hh g (World.block_lt_of_cell? w _ hc) with h4 | ⟨cs, t, K, x, h4, h5, _⟩
  ·have : w'.cell? ⟨g, o, none⟩ = w.cell? ⟨g, o, none⟩ := by unfold World.cell?; rw [h4]
   rw [this]; exact hc
  ·exfalso
   rw [h4.cell, h5] at h2
   exact h3 K (Option.some.inj h2).symm
 have hblk : ∀ g cs t, Blk w g cs t → (∀ K : Int, cs[0]? ≠ some (.int .i64 K)) → Blk w' g cs t := by
  intro g cs t hb hne
  rcases hh g hb.lt with h4 | ⟨cs', t', K, x, h4, h5, _⟩
  ·exact h4.trans hb
  ·unfold Blk at hb h4
   rw [hb] at h4
   injection h4 with h4
   injection h4 with h4
   subst h4
   exact absurd h5 (hne K)
 have hmap : ∀ k g l, GMap Tryz.prog k w g l → GMap Tryz.prog k w' g l := by
  intro k g l hm
  rcases hh g hm.lt with h4 | ⟨cs', t', K, x, h4, _⟩
  ·exact hm.block h4
  ·obtain ⟨es, cl, h5, _⟩ := hm.ex
   unfold Blk at h4
   rw [h5] at h4
   cases h4
 obtain ⟨b, T, f, h1, h2, h3, h4⟩ := h
 refine ⟨b, T, f, hblk _ _ _ h1 (by simp), ?_, ?_, h4⟩
 ·obtain ⟨L, k1, k2, k3, k4⟩ := h2
  refine ⟨L, hmap _ _ _ k1, k2, k3, fun i c es hi hr => ?_⟩
  obtain ⟨v, k5, k6⟩ := k4 i c es hi hr
  refine ⟨v, k5, ?_⟩
  rcases k6 with k6 | ⟨g, cap, k6, k7, k8⟩
  ·exact .inl k6
  ·refine .inr ⟨g, cap, k6, k7, fun j u hj => ?_⟩
   have hl : j < (wordsV es).length := (List.getElem?_eq_some_iff.1 hj).1
   cases es with
   | nil => simp [wordsV] at hl
   | cons e es =>
    exact hcell g j u (k8 j u hj) ⟨_, k8 0 (.int .u32 (e.word : Int)) (by simp [wordsV]), by simp⟩
 ·obtain ⟨M, g, c, is, k1, k2, k3, k4, k5⟩ := h3
  refine ⟨M, g, c, is, hblk _ _ _ k1 (by simp), hmap _ _ _ k2, Nat.lt_of_lt_of_le k3 hs, fun k j hk hj => ?_, k5⟩
  exact hcell g _ _ (k4 k j hk hj) ⟨_, by simpa using k4 0 0 (by omega) (by decide), by simp⟩

/-- A collation of both sides. -/
structure C5 where
 K : Int
 lv : Int
 sh : Bool
 p : Option Addr
 q : Option Addr
 qn : Nat
 qc : Nat
 f : List UInt8 → List UInt8 → Int
def C5.c (x : C5) : List Value := [.int .i64 x.K, .int .i64 x.lv, .bool x.sh, .bool false, .pointer x.p]
def C5.r (x : C5) : List Value := [.int .i64 x.K, .int .i64 x.lv, .bool x.sh, .bool false, .slice x.q x.qn x.qc]
structure C5.At (x : C5) (w : World) : Prop where
 k13 : 1 ≤ x.K ∧ x.K ≤ 3
 how : ((x.K = 1 ∨ x.K = 2) ∧ x.lv = 0 ∧ x.sh = false ∧ x.p = none ∧ x.q = none ∧ x.qn = 0 ∧ x.qc = 0 ∧ x.f = collC x.K 0 false false) ∨
  ∃ (p l : Nat), x.K = 3 ∧ 1 ≤ l ∧ l ≤ 3 ∧ x.lv = (l : Int) ∧ x.p = some ⟨p, 0, none⟩ ∧ RootAt w p ∧ EntsR w (.slice x.q x.qn x.qc) rootS ∧ x.f = collC 3 l x.sh false
theorem C5.At.agree {x : C5} {w w' : World} (h : x.At w) (hs : w.heap.size ≤ w'.heap.size) (hh : ∀ i, i < w.heap.size → w'.heap[i]? = w.heap[i]? ∨ Loose w i) : x.At w' := by
 refine ⟨h.k13, ?_⟩
 rcases h.how with h1 | ⟨p, l, h1, h2, h3, h4, h5, h6, h7, h8⟩
 ·exact .inl h1
 ·exact .inr ⟨p, l, h1, h2, h3, h4, h5, h6.agreeL hs hh, h7.agreeL rootS_three hs hh, h8⟩
theorem C5.At.ext {x : C5} {w w' : World} (h : x.At w) (hx : Ext w w') : x.At w' := h.agree hx.size fun i hi => .inl (hx.block i hi)
theorem C5.At.chain {x : C5} {w : World} (h : x.At w) : Chain x.f := by
 rcases h.how with ⟨_, _, _, _, _, _, _, h8⟩ | ⟨p, l, _, _, _, _, _, _, _, h8⟩
 ·rw [h8]; exact chain_coll _ _ _ _
 ·rw [h8]; exact chain_coll _ _ _ _
theorem C5.At.inC {x : C5} {w : World} (h : x.At w) (hG : ∀ W, Ext w W → Glob W) : CollIn w x.K x.lv x.sh x.p x.f := by
 obtain ⟨K, lv, sh, p, q, qn, qc, f⟩ := x
 rcases h.how with ⟨h1, h2, h3, h4, h5, h6, h7, h8⟩ | ⟨p2, l, h1, h2, h3, h4, h5, h6, h7, h8⟩
 ·simp only at h1 h2 h3 h4 h8
  subst h2 h3 h4 h8
  exact fun a b ha hb => cmpAt_small K 0 false none a b w h1 ha hb fun W hW => (hG W hW).tabs
 ·simp only at h1 h2 h3 h4 h5 h6 h8
  subst h1 h4 h5 h8
  exact fun a b ha hb => cmpAt_table l sh p2 a b w h2 h3 h6 ha hb fun W hW => (hG W hW).tabs
theorem C5.At.inR {x : C5} {w : World} (h : x.At w) : CollInR w #[.int .i64 x.K, .int .i64 x.lv, .bool x.sh, .bool false, .slice x.q x.qn x.qc] x.f := by
 obtain ⟨K, lv, sh, p, q, qn, qc, f⟩ := x
 rcases h.how with ⟨h1, h2, h3, h4, h5, h6, h7, h8⟩ | ⟨p2, l, h1, h2, h3, h4, h5, h6, h7, h8⟩
 ·simp only at h1 h2 h3 h4 h5 h6 h7 h8
  subst h2 h3 h4 h5 h6 h7 h8
  intro a b ha hb2 W hW
  rcases h1 with rfl | rfl
  ·exact cmpR_bin 1 0 false false none 0 0 a b W (by decide) (by decide)
  ·exact cmpR_fold 0 false false none 0 0 a b W (by omega) (by omega)
 ·simp only at h1 h2 h3 h4 h5 h6 h7 h8
  subst h1 h4 h5 h8
  intro a b ha hb2 W hW
  have h := cmpR_table l sh (.slice q qn qc) rootS a b W ⟨h2, h3⟩ (h7.ext hW) (by rw [rootS_length]; omega) (fun y hy => (rootS_good y hy).1) ha hb2
  rw [elsL_root, elsL_root] at h
  exact h
/-- What Make answers: two collations of one way, told by what lies in memory. -/
def MakeN (w : World) (e : Ending) (w' : World) : Prop :=
 (∃ x : C5, e = .returned (.tuple #[.agg x.c.toArray, .agg x.r.toArray, .bool true]) ∧ x.At w') ∧ Below w.heap.size w w'
theorem make_n (kind level : Int) (w : World) :
  Calls Tryz.prog 10 #[.int .i64 kind, .int .i64 level, .bool false, .bool false, .string ⟨#[]⟩] w (MakeN w) := by
 by_cases hk : kind = 1 ∨ kind = 2
 ·refine Calls.mono (make_small kind level false false ⟨#[]⟩ w hk) ?_
  rintro e w' ⟨rfl, hb⟩
  exact ⟨⟨⟨kind, 0, false, none, none, 0, 0, collC kind 0 false false⟩, rfl, ⟨by simp only; omega, .inl ⟨hk, rfl, rfl, rfl, rfl, rfl, rfl, rfl⟩⟩⟩, hb⟩
 ·refine Calls.mono (make_table kind level false false w (fun h => hk (.inl h)) (fun h => hk (.inr h))) ?_
  rintro e w' ⟨⟨p, v, rfl, hp, hv⟩, hb⟩
  obtain ⟨l1, l3⟩ := lvl_13 level
  obtain ⟨a1, a2, a3, rfl⟩ := hv.slice
  exact ⟨⟨⟨3, lvl level, false, some ⟨p, 0, none⟩, a1, a2, a3, collC 3 (lvl level) false false⟩, rfl, ⟨by simp, .inr ⟨p, lvl level, rfl, l1, l3, rfl, rfl, hp, hv, rfl⟩⟩⟩, hb⟩
/-- Rows of collations: they are loose. -/
theorem loose_own {w : World} {B n : Nat} {t : TypeId} {v : Value} {xs : List Value} {g : Nat} {K : Int} {x : Bool} (h : w.ownsRow B t 5 v n xs) (hg : v.ownBlock = some g) (h0 : xs[0]? = some (.int .i64 K)) (hK : K ≤ 3) (h2 : xs[2]? = some (.bool x)) : Loose w g := by
 obtain ⟨_, h⟩ := h
 rcases h with ⟨rfl, _⟩ | ⟨g', cap, cur, rfl, _, hb, _, _, _, ht⟩
 ·cases hg
 ·obtain rfl : g' = g := by simpa [Value.ownBlock] using hg
  have e : ∀ (k : Nat) (u : Value), xs[k]? = some u → cur[k]? = some u := fun k u hk => by
   rw [← ht, List.getElem?_take] at hk
   split at hk
   ·simpa using hk
   ·cases hk
  exact ⟨cur, t, K, x, hb, e 0 _ h0, hK, e 2 _ h2⟩
end Go.Proofs.YtipokgedmfnlaaaGreatDoor

namespace Go.Proofs.YtipokgedmfnlaaaGreatDoor
open Go.RowKit Go.Lib
set_option maxRecDepth 100000

theorem Blk.uniq {w : World} {g : Nat} {cs ds : Array Value} {t u : TypeId} (h : Blk w g cs t) (k : Blk w g ds u) : cs = ds ∧ t = u := by
 unfold Blk at h k
 rw [h] at k
 injection k with k
 injection k with e1 e2
 exact ⟨e1, e2⟩
/-- A block filled with a collation of kind K, level L. -/
def PA (K L : Int) (w : World) (g : Nat) : Prop := ∃ x : C5, x.K = K ∧ x.lv = L ∧ x.sh = false ∧ Blk w g x.c.toArray 25 ∧ x.At w
def PB (K L : Int) (w : World) (g : Nat) : Prop := ∃ x : C5, x.K = K ∧ x.lv = L ∧ x.sh = false ∧ Blk w g x.r.toArray 30 ∧ x.At w
/-- Later: blocks from n0 on that lie ready may be filled. -/
structure LeP (n0 : Nat) (K L : Int) (w w' : World) : Prop where
 os : w'.os = w.os
 tape : w'.tape = w.tape
 out : w'.output = w.output
 size : w.heap.size ≤ w'.heap.size
 old : ∀ i, i < w.heap.size → w'.heap[i]? = w.heap[i]? ∨ (n0 ≤ i ∧ Loose w i ∧ Loose w' i ∧ ∃ cs cs' t, Blk w i cs t ∧ Blk w' i cs' t ∧ cs'.size = cs.size)
 pa : ∀ g, PA K L w g → PA K L w' g
 pb : ∀ g, PB K L w g → PB K L w' g
theorem Loose.same {w w' : World} {i : Nat} (h : Loose w i) (e : w'.heap[i]? = w.heap[i]?) : Loose w' i := by
 obtain ⟨cs, t, K, x, h1, h2, h3, h4⟩ := h
 exact ⟨cs, t, K, x, e.trans h1, h2, h3, h4⟩
theorem leP (n0 : Nat) (K L : Int) : IsLe (LeP n0 K L) :=
 ⟨fun _ => ⟨rfl, rfl, rfl, Nat.le_refl _, fun _ _ => .inl rfl, fun _ h => h, fun _ h => h⟩,
  fun {x y z} h k => ⟨k.os.trans h.os, k.tape.trans h.tape, k.out.trans h.out, Nat.le_trans h.size k.size, fun i hi => by
   rcases h.old i hi with h1 | ⟨h1, h2, h6, cs, cs', t, h3, h4, h5⟩
   ·rcases k.old i (Nat.lt_of_lt_of_le hi h.size) with k1 | ⟨k1, k2, k6, cs, cs', t, k3, k4, k5⟩
    ·exact .inl (k1.trans h1)
    ·exact .inr ⟨k1, k2.same h1.symm, k6, cs, cs', t, h1.symm.trans k3, k4, k5⟩
   ·rcases k.old i (Nat.lt_of_lt_of_le hi h.size) with k1 | ⟨k1, k2, k6, ds, ds', t', k3, k4, k5⟩
    ·exact .inr ⟨h1, h2, h6.same k1, cs, cs', t, h3, k1.trans h4, h5⟩
    ·obtain ⟨rfl, rfl⟩ := h4.uniq k3
     exact .inr ⟨h1, h2, k6, cs, ds', _, h3, k4, k5.trans h5⟩, fun g q => k.pa g (h.pa g q), fun g q => k.pb g (h.pb g q)⟩,
  fun {x y} h => ⟨h.os, h.tape, h.out, h.size, h.old, fun g q => by
   obtain ⟨z, h1, h2, h3, h4, h5⟩ := h.pa g q
   exact ⟨z, h1, h2, h3, h4, h5.agree (Nat.le_refl _) fun _ _ => .inl rfl⟩, fun g q => by
   obtain ⟨z, h1, h2, h3, h4, h5⟩ := h.pb g q
   exact ⟨z, h1, h2, h3, h4, h5.agree (Nat.le_refl _) fun _ _ => .inl rfl⟩⟩⟩
section
variable {n0 g : Nat} {K L : Int} {w w' : World} {cs : Array Value} {t : TypeId}
theorem LeP.agree (h : LeP n0 K L w w') : ∀ i, i < w.heap.size → w'.heap[i]? = w.heap[i]? ∨ Loose w i := fun i hi => by
 rcases h.old i hi with h1 | ⟨_, h2, _⟩
 ·exact .inl h1
 ·exact .inr h2
theorem LeP.at {x : C5} (h : LeP n0 K L w w') (hx : x.At w) : x.At w' := hx.agree h.size h.agree
theorem LeP.ofExt (h : Ext w w') : LeP n0 K L w w' :=
 ⟨h.os, h.tape, h.output, h.size, fun i hi => .inl (h.block i hi), fun _ ⟨x, h1, h2, h3, h4, h5⟩ => ⟨x, h1, h2, h3, h4.keep h, h5.ext h⟩, fun _ ⟨x, h1, h2, h3, h4, h5⟩ => ⟨x, h1, h2, h3, h4.keep h, h5.ext h⟩⟩
theorem LeP.ext (h : LeP w.heap.size K L w w') : Ext w w' := ⟨h.os, h.tape, h.out, h.size, fun i hi => by
 rcases h.old i hi with h1 | ⟨h1, _⟩
 ·exact h1
 ·omega⟩
/-- A block of five cells that lies ready. -/
def Room (n0 : Nat) (w : World) (g : Nat) (t : TypeId) : Prop := n0 ≤ g ∧ Loose w g ∧ ∃ cs, Blk w g cs t ∧ cs.size = 5
theorem Room.le (h : Room n0 w g t) (hx : LeP n0 K L w w') : Room n0 w' g t := by
 obtain ⟨h0, hl, cs, h1, h2⟩ := h
 rcases hx.old g h1.lt with h3 | ⟨_, _, k2, ds, ds', t', h4, h5, h6⟩
 ·exact ⟨h0, hl.same h3, cs, h3.trans h1, h2⟩
 ·obtain ⟨rfl, rfl⟩ := h1.uniq h4
  exact ⟨h0, k2, ds', h5, h6.trans h2⟩
theorem setRow_agree (hr : Loose w g) (cs : Array Value) : ∀ i, i < w.heap.size → (w.setRow g cs).heap[i]? = w.heap[i]? ∨ Loose w i := fun i _ => by
 by_cases e : i = g
 ·subst e; exact .inr hr
 ·exact .inl (setRow_other w g i _ e)
theorem LeP.setA {x : C5} (hr : Room n0 w g 25) (hx : x.At w) (h1 : x.K = K) (h2 : x.lv = L) (h3 : x.sh = false) : LeP n0 K L w (w.setRow g x.c.toArray) ∧ PA K L (w.setRow g x.c.toArray) g := by
 obtain ⟨h0, hl, cs, hb, hc⟩ := hr
 have hnew := setRow_heap w g cs x.c.toArray _ _ hb
 have hag := setRow_agree hl x.c.toArray
 have hsz : w.heap.size ≤ (w.setRow g x.c.toArray).heap.size := by rw [setRow_size]; exact Nat.le_refl _
 have hat := hx.agree hsz hag
 have hk := hx.k13.2
 refine ⟨⟨rfl, rfl, rfl, hsz, fun i _ => ?_, fun g' ⟨y, k1, k2, k3, k4, k5⟩ => ?_, fun g' ⟨y, k1, k2, k3, k4, k5⟩ => ?_⟩, ⟨x, h1, h2, h3, hnew, hat⟩⟩
 ·by_cases e : i = g
  ·subst e
   exact .inr ⟨h0, hl, ⟨_, _, x.K, x.sh, hnew, rfl, hk, rfl⟩, cs, _, _, hb, hnew, hc.symm ▸ rfl⟩
  ·exact .inl (setRow_other w g i _ e)
 ·by_cases e : g' = g
  ·subst e
   exact ⟨x, h1, h2, h3, hnew, hat⟩
  ·exact ⟨y, k1, k2, k3, (setRow_other w g g' _ e).trans k4, k5.agree hsz hag⟩
 ·have e : g' ≠ g := fun e => by
   subst e
   have := (hb.uniq k4).2
   exact absurd this (by decide)
  exact ⟨y, k1, k2, k3, (setRow_other w g g' _ e).trans k4, k5.agree hsz hag⟩
theorem LeP.setB {x : C5} (hr : Room n0 w g 30) (hx : x.At w) (h1 : x.K = K) (h2 : x.lv = L) (h3 : x.sh = false) : LeP n0 K L w (w.setRow g x.r.toArray) ∧ PB K L (w.setRow g x.r.toArray) g := by
 obtain ⟨h0, hl, cs, hb, hc⟩ := hr
 have hnew := setRow_heap w g cs x.r.toArray _ _ hb
 have hag := setRow_agree hl x.r.toArray
 have hsz : w.heap.size ≤ (w.setRow g x.r.toArray).heap.size := by rw [setRow_size]; exact Nat.le_refl _
 have hat := hx.agree hsz hag
 have hk := hx.k13.2
 refine ⟨⟨rfl, rfl, rfl, hsz, fun i _ => ?_, fun g' ⟨y, k1, k2, k3, k4, k5⟩ => ?_, fun g' ⟨y, k1, k2, k3, k4, k5⟩ => ?_⟩, ⟨x, h1, h2, h3, hnew, hat⟩⟩
 ·by_cases e : i = g
  ·subst e
   exact .inr ⟨h0, hl, ⟨_, _, x.K, x.sh, hnew, rfl, hk, rfl⟩, cs, _, _, hb, hnew, hc.symm ▸ rfl⟩
  ·exact .inl (setRow_other w g i _ e)
 ·have e : g' ≠ g := fun e => by
   subst e
   have := (hb.uniq k4).2
   exact absurd this (by decide)
  exact ⟨y, k1, k2, k3, (setRow_other w g g' _ e).trans k4, k5.agree hsz hag⟩
 ·by_cases e : g' = g
  ·subst e
   exact ⟨x, h1, h2, h3, hnew, hat⟩
  ·exact ⟨y, k1, k2, k3, (setRow_other w g g' _ e).trans k4, k5.agree hsz hag⟩
end
/-- One collation in both blocks. -/
theorem PA.join {K L : Int} {w : World} {a b : Nat} (h : PA K L w a) (k : PB K L w b) : ∃ x : C5, Blk w a x.c.toArray 25 ∧ Blk w b x.r.toArray 30 ∧ x.At w := by
 obtain ⟨⟨K1, l1, s1, p1, q1, qn1, qc1, f1⟩, rfl, rfl, h3, h4, h5⟩ := h
 obtain ⟨⟨K2, l2, s2, p2, q2, qn2, qc2, f2⟩, k1, k2, k3, k4, k5⟩ := k
 simp only at h3 k1 k2 k3
 subst h3 k1 k2 k3
 refine ⟨⟨K2, l2, false, p1, q2, qn2, qc2, f1⟩, h4, k4, h5.k13, ?_⟩
 rcases h5.how with ⟨e1, e2, e3, e4, e5, e6, e7, e8⟩ | ⟨p, l, e1, e2, e3, e4, e5, e6, e7, e8⟩
 ·rcases k5.how with ⟨g1, g2, g3, g4, g5, g6, g7, g8⟩ | ⟨p', l', g1, g2, g3, g4, g5, g6, g7, g8⟩
  ·exact .inl ⟨e1, e2, e3, e4, g5, g6, g7, e8⟩
  ·simp only at e1 g1; omega
 ·rcases k5.how with ⟨g1, g2, g3, g4, g5, g6, g7, g8⟩ | ⟨p', l', g1, g2, g3, g4, g5, g6, g7, g8⟩
  ·simp only at e1 g1; omega
  ·exact .inr ⟨p, l, e1, e2, e3, e4, e5, e6, g7, e8⟩
/-- What kind and level Make makes. -/
def mkK (k : Int) : Int := if k = 1 ∨ k = 2 then k else 3
def mkL (k level : Int) : Int := if k = 1 ∨ k = 2 then 0 else (lvl level : Int)
def MakeK (K L : Int) (w : World) (e : Ending) (w' : World) : Prop :=
 (∃ x : C5, e = .returned (.tuple #[.agg x.c.toArray, .agg x.r.toArray, .bool true]) ∧ x.At w' ∧ x.K = K ∧ x.lv = L ∧ x.sh = false) ∧ Below w.heap.size w w'
theorem make_k (kind level : Int) (w : World) :
  Calls Tryz.prog 10 #[.int .i64 kind, .int .i64 level, .bool false, .bool false, .string ⟨#[]⟩] w (MakeK (mkK kind) (mkL kind level) w) := by
 unfold mkK mkL
 by_cases hk : kind = 1 ∨ kind = 2
 ·refine Calls.mono (make_small kind level false false ⟨#[]⟩ w hk) ?_
  rintro e w' ⟨rfl, hb⟩
  exact ⟨⟨⟨kind, 0, false, none, none, 0, 0, collC kind 0 false false⟩, rfl, ⟨by simp only; omega, .inl ⟨hk, rfl, rfl, rfl, rfl, rfl, rfl, rfl⟩⟩, by rw [if_pos hk], by rw [if_pos hk], rfl⟩, hb⟩
 ·refine Calls.mono (make_table kind level false false w (fun h => hk (.inl h)) (fun h => hk (.inr h))) ?_
  rintro e w' ⟨⟨p, v, rfl, hp, hv⟩, hb⟩
  obtain ⟨l1, l3⟩ := lvl_13 level
  obtain ⟨a1, a2, a3, rfl⟩ := hv.slice
  exact ⟨⟨⟨3, lvl level, false, some ⟨p, 0, none⟩, a1, a2, a3, collC 3 (lvl level) false false⟩, rfl, ⟨by simp, .inr ⟨p, lvl level, rfl, l1, l3, rfl, rfl, hp, hv, rfl⟩⟩, by rw [if_neg hk], by rw [if_neg hk], rfl⟩, hb⟩
/-- Numbers in a slice. -/
def IntsAt (w : World) (v : Value) (n : Nat) (xs : Nat → Int) : Prop :=
 ∃ a c, v = .slice a n c ∧ n ≤ c ∧ (0 < n → ∃ g o, a = some ⟨g, o, none⟩ ∧ g < w.heap.size ∧ ∀ j, j < n → w.cell? ⟨g, o + j, none⟩ = some (.int .i64 (xs j)))
theorem infoCollC : (Tryz.prog.info? 25).map (fun i => (i.zero, i.size, i.bytes)) = some (some (.agg #[.int .i64 0, .int .i64 0, .bool false, .bool false, .pointer none]), 5, 32) := by kernel_rfl
theorem infoCollR : (Tryz.prog.info? 30).map (fun i => (i.zero, i.size, i.bytes)) = some (some (.agg #[.int .i64 0, .int .i64 0, .bool false, .bool false, .slice none 0 0]), 5, 48) := by kernel_rfl
def flatC (l : List C5) : List Value := l.flatMap C5.c
def flatCR (l : List C5) : List Value := l.flatMap C5.r
structure CollsOut (w : World) (n : Nat) (e : Ending) (w' : World) : Prop where
 ret : ∃ va vb L, e = .returned (.tuple #[va, vb, .bool true]) ∧ w'.ownsRow w.heap.size 25 5 va L.length (flatC L) ∧ w'.ownsRow w.heap.size 30 5 vb L.length (flatCR L) ∧ (∀ x ∈ L, x.At w') ∧ L.length = min n 4
 below : Below w.heap.size w w'
def isMk (K L : Int) (v : Value) (w : World) : Prop := ∃ x : C5, v = .tuple #[.agg x.c.toArray, .agg x.r.toArray, .bool true] ∧ x.At w ∧ x.K = K ∧ x.lv = L ∧ x.sh = false
def isC (K L : Int) (v : Value) (w : World) : Prop := ∃ x : C5, v = .agg x.c.toArray ∧ x.At w ∧ x.K = K ∧ x.lv = L ∧ x.sh = false
def isR (K L : Int) (v : Value) (w : World) : Prop := ∃ x : C5, v = .agg x.r.toArray ∧ x.At w ∧ x.K = K ∧ x.lv = L ∧ x.sh = false
def isRoom (n0 : Nat) (t : TypeId) (v : Value) (w : World) : Prop := ∃ g, v = .pointer (some ⟨g, 0, none⟩) ∧ Room n0 w g t
def isPA (K L : Int) (l : List Value) (_ : Value) (w : World) : Prop := ∃ g, l.head? = some (.pointer (some ⟨g, 0, none⟩)) ∧ PA K L w g
def isPB (K L : Int) (l : List Value) (_ : Value) (w : World) : Prop := ∃ g, l.head? = some (.pointer (some ⟨g, 0, none⟩)) ∧ PB K L w g
def isI (v : Value) (_ : World) : Prop := ∃ k : Int, v = .int .i64 k
theorem C5.At.grown {x : C5} {w w' : World} {v : Value} (h : x.At w) (hg : w.grownBy w' v.ownBlock) (hl : ∀ g, v.ownBlock = some g → Loose w g) : x.At w' :=
 h.agree hg.size fun i hi => by
  by_cases e : some i = v.ownBlock
  ·exact .inr (hl i e.symm)
  ·exact .inl (hg.block i hi e)
theorem loose_C {w : World} {B n : Nat} {v : Value} {L : List C5} (h : w.ownsRow B 25 5 v n (flatC L)) (h0 : L = [] → v = .slice none 0 0) (hK : ∀ x ∈ L, x.K ≤ 3) : ∀ g, v.ownBlock = some g → Loose w g := by
 intro g hg
 cases L with
 | nil => rw [h0 rfl] at hg; cases hg
 | cons x L => exact loose_own h hg (K := x.K) (x := x.sh) (by simp [flatC, C5.c]) (hK x (by simp)) (by simp [flatC, C5.c])
theorem loose_R {w : World} {B n : Nat} {v : Value} {L : List C5} (h : w.ownsRow B 30 5 v n (flatCR L)) (h0 : L = [] → v = .slice none 0 0) (hK : ∀ x ∈ L, x.K ≤ 3) : ∀ g, v.ownBlock = some g → Loose w g := by
 intro g hg
 cases L with
 | nil => rw [h0 rfl] at hg; cases hg
 | cons x L => exact loose_own h hg (K := x.K) (x := x.sh) (by simp [flatCR, C5.r]) (hK x (by simp)) (by simp [flatCR, C5.r])
theorem C5.At.grownC {x : C5} {w w' : World} {B n : Nat} {v : Value} {L : List C5} (h : x.At w) (hg : w.grownBy w' v.ownBlock) (ho : w.ownsRow B 25 5 v n (flatC L)) (h0 : L = [] → v = .slice none 0 0) (hK : ∀ x ∈ L, x.K ≤ 3) : x.At w' := h.grown hg (loose_C ho h0 hK)
theorem C5.At.grownR {x : C5} {w w' : World} {B n : Nat} {v : Value} {L : List C5} (h : x.At w) (hg : w.grownBy w' v.ownBlock) (ho : w.ownsRow B 30 5 v n (flatCR L)) (h0 : L = [] → v = .slice none 0 0) (hK : ∀ x ∈ L, x.K ≤ 3) : x.At w' := h.grown hg (loose_R ho h0 hK)
theorem own_lt {w : World} {B size n : Nat} {e : TypeId} {v : Value} {xs : List Value} (h : w.ownsRow B e size v n xs) : ∀ g, v.ownBlock = some g → g < w.heap.size := fun _ hg => (ownsRow_heap h hg).choose_spec.2
set_option maxHeartbeats 8000000 in
theorem colls_any (v : Value) (n : Nat) (xs : Nat → Int) (w : World) (hI : IntsAt w v n xs) :
  Calls Tryz.prog 13 #[v] w (CollsOut w n) := by
 obtain ⟨a, c, rfl, hc, hcell⟩ := hI
 have HCell := Lib.hid hcell
 clear hcell
 go_enter Tryz.func13, Tryz.ntmps13
 go_wp2_with fail
 go_loopw [5, 6, 7, 8, 9, 10] (fun o p i _ _ _ wr => ∃ L : List C5, L.length ≤ n ∧ L.length ≤ 4 ∧ i = .int .i64 L.length ∧ wr.ownsRow w.heap.size 25 5 o L.length (flatC L) ∧ wr.ownsRow w.heap.size 30 5 p L.length (flatCR L) ∧ (∀ x ∈ L, x.At wr) ∧ Ext w wr ∧ (L = [] → o = .slice none 0 0 ∧ p = .slice none 0 0)) (fun _ _ i _ _ _ _ => 4 - (intOf i).toNat)
 case atStart => exact ⟨[], Nat.zero_le _, by decide, rfl, World.ownsRow_nil _ _ _ _, World.ownsRow_nil _ _ _ _, fun x hx => (by cases hx), Ext.refl _, fun _ => ⟨rfl, rfl⟩⟩
 case round =>
  obtain ⟨L, hln, hl4, rfl, ho, hp, hat, hx, hz⟩ := hrel
  have HO := Lib.hid ho
  have HP := Lib.hid hp
  have HAT := Lib.hid hat
  have HX := Lib.hid hx
  have HZ := Lib.hid hz
  clear ho hp hat hx hz
  by_cases hlt : L.length < n ∧ L.length < 4
  ·have hltI : (L.length : Int) < (n : Int) := by omega
   have hlt4 : (L.length : Int) < 4 := by omega
   obtain ⟨g, o, rfl, hg, hcx⟩ := HCell.out (by omega)
   have hx0 := hcx L.length hlt.1
   generalize hX : xs L.length = X at hx0
   have hkv : IntKind.i64.wrap ((bits BinOp.and IntKind.i64 X 65535).tmod 3 + 1) = (lvl X : Int) := by
    rw [and_mask16m, Int.tmod_eq_emod_of_nonneg (by omega), IntKind.wrap_i64]
    unfold lvl
    omega
   have HF := Lib.hid (show ∀ W, LeP wr.heap.size (mkK (lvl X)) (mkL (lvl X) (X / 65536)) wr W → W.cell? ⟨g, o + L.length, none⟩ = some (.int .i64 X) from fun W hW => ((Ext.trans HX.out hW.ext).cell hg).trans hx0)
   clear hcx hx0
   go_wp2_with fail
   refine wp_parZG (leP wr.heap.size (mkK (lvl X)) (mkL (lvl X) (X / 65536))) [0, 1, 2, 3, 4, 5, 6, 7, 8, 9, 10, 11, 12, 13, 14, 15, 16, 17, 18, 19, 20, 21] 22 22 (fun
     | 0 => fun _ v _ => v = .slice (some ⟨g, o, none⟩) n c
     | 1 => fun _ v _ => v = .int .i64 (L.length : Int)
     | 2 => fun _ v _ => v = .pointer (some ⟨g, o + L.length, none⟩)
     | 3 => fun _ v _ => v = .int .i64 X
     | 4 => fun _ v _ => v = .int .i64 (bits BinOp.and IntKind.i64 X 65535)
     | 5 => fun _ v _ => v = .int .i64 ((bits BinOp.and IntKind.i64 X 65535).tmod 3)
     | 6 => fun _ v _ => v = .int .i64 (lvl X : Int)
     | 7 => fun _ v _ => v = .slice (some ⟨g, o, none⟩) n c
     | 8 => fun _ v _ => v = .int .i64 (L.length : Int)
     | 9 => fun _ v _ => v = .pointer (some ⟨g, o + L.length, none⟩)
     | 10 => fun _ v _ => v = .int .i64 X
     | 11 => fun _ v _ => v = .int .i64 (X / 65536)
     | 12 => fun _ => isMk (mkK (lvl X)) (mkL (lvl X) (X / 65536))
     | 13 => fun _ => isMk (mkK (lvl X)) (mkL (lvl X) (X / 65536))
     | 14 => fun _ => isC (mkK (lvl X)) (mkL (lvl X) (X / 65536))
     | 15 => fun _ => isR (mkK (lvl X)) (mkL (lvl X) (X / 65536))
     | 16 => fun _ v _ => v = .bool true
     | 17 => fun _ => isRoom wr.heap.size 25
     | 18 => fun _ => isRoom wr.heap.size 30
     | 19 => isPA (mkK (lvl X)) (mkL (lvl X) (X / 65536))
     | 20 => isPB (mkK (lvl X)) (mkL (lvl X) (X / 65536))
     | 21 => fun _ v _ => v = .bool true
     | _ => fun _ _ _ => True) (fun
     | _ => undef) (by kernel_rfl) (by kernel_rfl) (by kernel_rfl) ?_ ?_ ?_
   ·simp (maxSteps := 20000000) only [permL, permOp, List.filterMap_cons, List.filterMap_nil, List.getElem?_cons_succ, List.getElem?_cons_zero, Option.map_some, Option.map_none, List.take_succ_cons, List.take_zero, ParAllG, Act.put, List.setIfInBounds_toArray, List.set_cons_succ, List.set_cons_zero]
    refine ⟨?_, ?_, ?_, ?_, ?_, ?_, ?_, ?_, ?_, ?_, ?_, ?_, ?_, ?_, ?_, ?_, ?_, ?_, ?_, ?_, ?_, ?_, trivial⟩
    iterate 11
     next =>
      intro vals W hx hd
      have hW := HF.out W hx
      simp [PDepsG, pdeps, Region.binds, List.idxOf_cons] at hd
      first
       | refine ParObG.plain rfl ?_
       | refine ParObG.wanted (by simp [Region.wanted, yielded, hd]) ?_
      go_simp
      exact ParPostG.same (leP wr.heap.size (mkK (lvl X)) (mkL (lvl X) (X / 65536))) fun _ _ => rfl
    ·intro vals W hx hd
     have hW := HF.out W hx
     simp [PDepsG, pdeps, Region.binds, List.idxOf_cons] at hd
     first
      | refine ParObG.plain rfl ?_
      | refine ParObG.wanted (by simp [Region.wanted, yielded, hd]) ?_
     go_simp
     exact ParPostG.same (leP _ _ _) fun _ _ => rfl
    ·intro vals W hx hd
     have hW := HF.out W hx
     simp [PDepsG, pdeps, Region.binds, List.idxOf_cons] at hd
     first
      | refine ParObG.plain rfl ?_
      | refine ParObG.wanted (by simp [Region.wanted, yielded, hd]) ?_
     go_simp
     refine Calls.mono (make_k (lvl X) (X / 65536) W) ?_
     rintro e w9 ⟨⟨y, rfl, h1, h2, h3, h4⟩, hb9⟩
     exact ⟨_, rfl, LeP.ofExt hb9, fun w10 h10 => ⟨y, rfl, h10.at h1, h2, h3, h4⟩⟩
    ·intro vals W hx hd
     have hW := HF.out W hx
     simp [PDepsG, pdeps, Region.binds, List.idxOf_cons] at hd
     first
      | refine ParObG.plain rfl ?_
      | refine ParObG.wanted (by simp [Region.wanted, yielded, hd]) ?_
     obtain ⟨y, hy, h1, h2, h3, h4⟩ := hd
     go_simp
     exact ParPostG.same (leP _ _ _) fun w10 h10 => ⟨y, rfl, h10.at h1, h2, h3, h4⟩
    ·intro vals W hx hd
     have hW := HF.out W hx
     simp [PDepsG, pdeps, Region.binds, List.idxOf_cons] at hd
     first
      | refine ParObG.plain rfl ?_
      | refine ParObG.wanted (by simp [Region.wanted, yielded, hd]) ?_
     obtain ⟨y, hy, h1, h2, h3, h4⟩ := hd
     go_simp
     exact ParPostG.same (leP _ _ _) fun w10 h10 => ⟨y, rfl, h10.at h1, h2, h3, h4⟩
    ·intro vals W hx hd
     have hW := HF.out W hx
     simp [PDepsG, pdeps, Region.binds, List.idxOf_cons] at hd
     first
      | refine ParObG.plain rfl ?_
      | refine ParObG.wanted (by simp [Region.wanted, yielded, hd]) ?_
     obtain ⟨y, hy, h1, h2, h3, h4⟩ := hd
     go_simp
     exact ParPostG.same (leP _ _ _) fun w10 h10 => ⟨y, rfl, h10.at h1, h2, h3, h4⟩
    ·intro vals W hx hd
     have hW := HF.out W hx
     simp [PDepsG, pdeps, Region.binds, List.idxOf_cons] at hd
     first
      | refine ParObG.plain rfl ?_
      | refine ParObG.wanted (by simp [Region.wanted, yielded, hd]) ?_
     obtain ⟨y, hy, h1, h2, h3, h4⟩ := hd
     go_simp
     exact ParPostG.same (leP _ _ _) fun _ _ => rfl
    ·intro vals W hx hd
     have hW := HF.out W hx
     simp [PDepsG, pdeps, Region.binds, List.idxOf_cons] at hd
     first
      | refine ParObG.plain rfl ?_
      | refine ParObG.wanted (by simp [Region.wanted, yielded, hd]) ?_
     go_simp
     exact ⟨LeP.ofExt ((Ext.refl W).alloc _), fun w10 h10 => ⟨_, rfl, Room.le ⟨hx.size, ⟨_, _, 0, false, Blk.new W _ _ rfl, rfl, by omega, rfl⟩, _, Blk.new W _ _ rfl, rfl⟩ h10⟩⟩
    ·intro vals W hx hd
     have hW := HF.out W hx
     simp [PDepsG, pdeps, Region.binds, List.idxOf_cons] at hd
     first
      | refine ParObG.plain rfl ?_
      | refine ParObG.wanted (by simp [Region.wanted, yielded, hd]) ?_
     go_simp
     exact ⟨LeP.ofExt ((Ext.refl W).alloc _), fun w10 h10 => ⟨_, rfl, Room.le ⟨hx.size, ⟨_, _, 0, false, Blk.new W _ _ rfl, rfl, by omega, rfl⟩, _, Blk.new W _ _ rfl, rfl⟩ h10⟩⟩
    ·intro vals W hx hd
     have hW := HF.out W hx
     simp [PDepsG, pdeps, Region.binds, List.idxOf_cons] at hd
     first
      | refine ParObG.plain rfl ?_
      | refine ParObG.wanted (by simp [Region.wanted, yielded, hd]) ?_
     obtain ⟨ga, hga, hroom⟩ := hd.1
     obtain ⟨y, hy, h1, h2, h3, h4⟩ := hd.2.1
     obtain ⟨_, _, old, ho, hos⟩ := id hroom
     refine yields_storeG (cs := y.c.toArray) rfl (by simpa [Act.eval] using hga) (by simpa [Act.eval] using hy) ho (hos.trans rfl) (by kernel_rfl) (by simp [Value.oneCell', C5.c]) ?_
     obtain ⟨k1, k2⟩ := LeP.setA hroom h1 h2 h3 h4
     exact ⟨k1, fun w10 h10 => ⟨ga, by simp [dv, ldeps, pdeps, Region.binds, List.idxOf_cons, hga], h10.pa _ k2⟩⟩
    ·intro vals W hx hd
     have hW := HF.out W hx
     simp [PDepsG, pdeps, Region.binds, List.idxOf_cons] at hd
     first
      | refine ParObG.plain rfl ?_
      | refine ParObG.wanted (by simp [Region.wanted, yielded, hd]) ?_
     obtain ⟨ga, hga, hroom⟩ := hd.1
     obtain ⟨y, hy, h1, h2, h3, h4⟩ := hd.2.1
     obtain ⟨_, _, old, ho, hos⟩ := id hroom
     refine yields_storeG (cs := y.r.toArray) rfl (by simpa [Act.eval] using hga) (by simpa [Act.eval] using hy) ho (hos.trans rfl) (by kernel_rfl) (by simp [Value.oneCell', C5.r]) ?_
     obtain ⟨k1, k2⟩ := LeP.setB hroom h1 h2 h3 h4
     exact ⟨k1, fun w10 h10 => ⟨ga, by simp [dv, ldeps, pdeps, Region.binds, List.idxOf_cons, hga], h10.pb _ k2⟩⟩
    ·intro vals W hx hd
     have hW := HF.out W hx
     simp [PDepsG, pdeps, Region.binds, List.idxOf_cons] at hd
     first
      | refine ParObG.plain rfl ?_
      | refine ParObG.wanted (by simp [Region.wanted, yielded, hd]) ?_
     go_simp
     exact ParPostG.same (leP wr.heap.size (mkK (lvl X)) (mkL (lvl X) (X / 65536))) fun _ _ => rfl
   ·simp (maxSteps := 20000000) only [permL, permOp, List.filterMap_cons, List.filterMap_nil, List.getElem?_cons_succ, List.getElem?_cons_zero, Option.map_some, Option.map_none, List.drop_succ_cons, List.drop_zero, List.take_succ_cons, List.take_zero, Nat.reduceSub, ZAll, ParEnd, Act.put, List.setIfInBounds_toArray, List.set_cons_succ, List.set_cons_zero]
   intro vals W hx hf hz
   simp (maxSteps := 20000000) only [permL, permOp, List.filterMap_cons, List.filterMap_nil, List.getElem?_cons_succ, List.getElem?_cons_zero, Option.map_some, Option.map_none, ParFactsG, List.take_succ_cons, List.take_zero, and_true, Nat.reduceAdd] at hf
   obtain ⟨f0, f1, f2, f3, f4, f5, f6, f7, f8, f9, f10, f11, f12, f13, f14, f15, f16, f17, f18, f19, f20, f21⟩ := hf
   clear hz
   simp (maxSteps := 20000000) only [permL, permOp, List.filterMap_cons, List.filterMap_nil, List.getElem?_cons_succ, List.getElem?_cons_zero, Option.map_some, Option.map_none, List.drop_succ_cons, List.drop_zero, List.take_succ_cons, List.take_zero, Nat.reduceSub, ParEnd, ZTail, Act.put, List.setIfInBounds_toArray, List.set_cons_succ, List.set_cons_zero, Nat.reduceAdd, f0, f1, f2, f3, f4, f5, f6, f7, f8, f9, f10, f11, f16, f21]
   clear f0 f1 f2 f3 f4 f5 f6 f7 f8 f9 f10 f11 f16 f21
   obtain ⟨ga, e17, hpa⟩ := f19
   obtain ⟨gb, e18, hpb⟩ := f20
   have h17 : vals 17 = .pointer (some ⟨ga, 0, none⟩) := by simpa [dv, ldeps, pdeps, Region.binds, List.idxOf_cons] using e17
   have h18 : vals 18 = .pointer (some ⟨gb, 0, none⟩) := by simpa [dv, ldeps, pdeps, Region.binds, List.idxOf_cons] using e18
   have hga0 : wr.heap.size ≤ ga := by
    obtain ⟨g', e, h⟩ := f17
    rw [h17] at e
    obtain rfl : ga = g' := by simpa using e
    exact h.1
   have hgb0 : wr.heap.size ≤ gb := by
    obtain ⟨g', e, h⟩ := f18
    rw [h18] at e
    obtain rfl : gb = g' := by simpa using e
    exact h.1
   obtain ⟨y, hba, hbb, hy⟩ := hpa.join hpb
   rw [h17, h18]
   have HX1 := Lib.hid (show Ext wr W from hx.ext)
   have HY := Lib.hid hy
   obtain ⟨YC, hyc⟩ : ∃ YC, YC = y.c := ⟨_, rfl⟩
   obtain ⟨YR, hyr⟩ : ∃ YR, YR = y.r := ⟨_, rfl⟩
   obtain ⟨K1, L1, s1, p1, q1, n1, c1⟩ : ∃ K1 L1 s1 p1 q1 n1 c1, YC = [.int .i64 K1, .int .i64 L1, .bool s1, .bool false, .pointer p1] ∧ YR = [.int .i64 K1, .int .i64 L1, .bool s1, .bool false, .slice q1 n1 c1] := ⟨_, _, _, _, _, _, _, hyc, hyr⟩
   obtain ⟨c1, hyC, hyR⟩ := c1
   have HBA := Lib.hid (show Blk W ga #[.int .i64 K1, .int .i64 L1, .bool s1, .bool false, .pointer p1] 25 from by rw [← hyc, hyC] at hba; exact hba)
   have HBB := Lib.hid (show Blk W gb #[.int .i64 K1, .int .i64 L1, .bool s1, .bool false, .slice q1 n1 c1] 30 from by rw [← hyr, hyR] at hbb; exact hbb)
   have HYC := Lib.hid (hyc.symm.trans hyC)
   have HYR := Lib.hid (hyr.symm.trans hyR)
   clear e17 e18 hpa hpb h17 h18 hba hbb hy f12 f13 f14 f15 f17 f18 hx HF hkv hyc hyr hyC hyR
   generalize vals 12 = y12
   generalize vals 13 = y13
   generalize vals 14 = y14
   generalize vals 15 = y15
   generalize vals 19 = y19
   generalize vals 20 = y20
   obtain ⟨ca, fa⟩ := HBA.out.facts
   have HK3 := Lib.hid (fun x hx => (HAT.out x hx).k13.2)
   go_wp2_with (at_builtin; first
    | (refine wpList_push rfl _ _ _ rfl w.heap.size 25 (.agg #[.int .i64 0, .int .i64 0, .bool false, .bool false, .pointer none]) 5 32 Tryz.underlying36 infoCollC rfl (by decide) u5 L.length (flatC L) rfl ((ownsRow_ext HO.out HX1.out).alloc _) W.heap.size 25 #[.int .i64 K1, .int .i64 L1, .bool s1, .bool false, .pointer p1] rfl (Blk.new _ _ _ rfl) rfl (by simp [Value.oneCell']) (by unfold maxLen; omega) (by omega) (by have := HX.out.size; have := HX1.out.size; simp <;> omega) ?_; intro v7 w7 hown hgr hat; have HX7 := Lib.hid (ext_own (Ext.trans HX.out HX1.out) HO.out hgr); have HP7 := Lib.hid (kept_other ((ownsRow_ext HP.out HX1.out).alloc _) ((ownsRow_ext HO.out HX1.out).alloc _) (by decide) hgr); have HA7 := Lib.hid (show ∀ x ∈ L, x.At w7 from fun x hx => (((HAT.out x hx).ext HX1.out).ext ((Ext.refl W).alloc _)).grownC hgr ((ownsRow_ext HO.out HX1.out).alloc _) (fun h => (HZ.out h).1) HK3.out); have HY7 := Lib.hid ((HY.out.ext ((Ext.refl W).alloc _)).grownC hgr ((ownsRow_ext HO.out HX1.out).alloc _) (fun h => (HZ.out h).1) HK3.out); have HB7 := Lib.hid (show Blk w7 gb _ _ from (hgr.block gb (by have := HBB.out.lt; simp <;> omega) (fun e => by have := own_lt HO.out gb e.symm; omega)).trans (HBB.out.alloc _)); have HO7 := Lib.hid hown; clear hown hgr hat ca fa; obtain ⟨cb, fb⟩ := HB7.out.facts)
    | (refine wpList_push rfl _ _ _ rfl w.heap.size 30 (.agg #[.int .i64 0, .int .i64 0, .bool false, .bool false, .slice none 0 0]) 5 48 Tryz.underlying37 infoCollR rfl (by decide) u6 L.length (flatCR L) rfl (HP7.out.alloc _) w7.heap.size 30 #[.int .i64 K1, .int .i64 L1, .bool s1, .bool false, .slice q1 n1 c1] rfl (Blk.new _ _ _ rfl) rfl (by simp [Value.oneCell']) (by unfold maxLen; omega) (by omega) (by have := HX7.out.size; simp <;> omega) ?_; intro v8 w8 hown hgr hat; have HX8 := Lib.hid (ext_own HX7.out HP7.out hgr); have HO8 := Lib.hid (kept_other (HO7.out.alloc _) (HP7.out.alloc _) (by decide) hgr); have HA8 := Lib.hid (show ∀ x ∈ L, x.At w8 from fun x hx => ((HA7.out x hx).ext ((Ext.refl w7).alloc _)).grownR hgr (HP7.out.alloc _) (fun h => (HZ.out h).2) HK3.out); have HY8 := Lib.hid ((HY7.out.ext ((Ext.refl w7).alloc _)).grownR hgr (HP7.out.alloc _) (fun h => (HZ.out h).2) HK3.out); have HP8 := Lib.hid hown; clear hown hgr hat cb fb))
   go_roundw
   case rel =>
    refine ⟨L ++ [y], by simp; omega, by simp; omega, by rw [List.length_append]; go_num, ?_, ?_, ?_, HX8.out, fun h => by simp at h⟩
    ·have h := HO8.out
     rw [show flatC (L ++ [y]) = flatC L ++ y.c by simp [flatC], HYC.out, List.length_append]
     exact h
    ·have h := HP8.out
     rw [show flatCR (L ++ [y]) = flatCR L ++ y.r by simp [flatCR], HYR.out, List.length_append]
     exact h
    ·intro x hx
     rcases List.mem_append.1 hx with hx | hx
     ·exact HA8.out x hx
     ·obtain rfl : x = y := by simpa using hx
      exact HY8.out
   case measure => simp [intOf]; omega
  ·by_cases h1 : L.length < n
   ·have h1I : (L.length : Int) < (n : Int) := by omega
    have h4I : ¬ (L.length : Int) < 4 := by omega
    go_wp2_with fail
    go_ret3
    exact ⟨⟨u5, u6, L, rfl, HO.out, HP.out, HAT.out, by omega⟩, HX.out⟩
   ·have h1I : ¬ (L.length : Int) < (n : Int) := by omega
    go_wp2_with fail
    go_ret3
    exact ⟨⟨u5, u6, L, rfl, HO.out, HP.out, HAT.out, by omega⟩, HX.out⟩
set_option maxHeartbeats 1000000 in
theorem refbinary_any (w : World) :
  Calls Tryz.prog 16 #[] w fun e w' => e = .returned (.agg #[.int .i64 1, .int .i64 0, .bool false, .bool false, .slice none 0 0]) ∧ Below w.heap.size w w' := by
 go_enter Tryz.func16, Tryz.ntmps16
 go_wp2
 go_returns
 exact ⟨rfl, by go_grown⟩
/-- The ways of collations in hand. -/
def fsL (L : List C5) (j : Nat) : List UInt8 → List UInt8 → Int := match L[j]? with
 | some x => x.f
 | none => collC 1 0 false false
theorem fsL_chain {L : List C5} {w : World} (h : ∀ x ∈ L, x.At w) (j : Nat) : Chain (fsL L j) := by
 unfold fsL
 split
 ·rename_i x hx
  exact (h x (List.mem_of_getElem? hx)).chain
 ·exact chain_coll _ _ _ _
theorem flatC_length (L : List C5) : (flatC L).length = L.length * 5 := by
 induction L with
 | nil => rfl
 | cons x L ih => simp [flatC, C5.c] at *; omega
theorem flatC_get : ∀ (L : List C5) (j : Nat) (x : C5), L[j]? = some x → ∀ k, k < 5 → (flatC L)[j * 5 + k]? = x.c[k]?
 | y :: L, 0, x, h, k, hk => by
  obtain rfl : y = x := by simpa using h
  rw [Nat.zero_mul, Nat.zero_add]
  simp only [flatC, List.flatMap_cons]
  rw [List.getElem?_append_left (by simp [C5.c]; omega)]
 | y :: L, j + 1, x, h, k, hk => by
  have ih := flatC_get L j x (by simpa using h) k hk
  simp only [flatC, List.flatMap_cons] at ih ⊢
  rw [List.getElem?_append_right (by simp [C5.c]; omega), ← ih]
  congr 1
  simp [C5.c]; omega
end Go.Proofs.YtipokgedmfnlaaaGreatDoor
