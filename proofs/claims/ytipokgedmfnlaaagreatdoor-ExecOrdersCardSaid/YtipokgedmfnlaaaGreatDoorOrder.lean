/-
 Sorting in place by a closure: the world while numbers are exchanged; swapRange. Sorting in place by a closure: rotate. Sorting in place by a closure: insertion. Sorting in place by a closure: what symMerge's search finds, in plain Lean. Sorting in place by a closure: symMerge of one left number. Sorting in place by a closure: symMerge of one right number. Sorting in place by a closure: symMerge. Sorting in place by a closure: slices.SortStableFunc of up to thirty numbers. exec.Order: rows' places in order.
-/
import Derived.Test.YtipokgedmfnlaaaGreatDoorProg
import Derived.Test.YtipokgedmfnlaaaGreatDoorBase
import Derived.Test.YtipokgedmfnlaaaGreatDoorPar
import Derived.BigQuiet
import Derived.BigRegion
import Derived.Shelf.RegionOpenPlain
import Derived.Deep.Cut
import Derived.Test.YtipokgedmfnlaaaGreatDoorOrd
namespace Go.Proofs.YtipokgedmfnlaaaGreatDoor
open Go.RowKit Go.Lib
set_option maxRecDepth 100000

/-- Numbers d 0 .. d (n-1) lie in block g; all other blocks of w0 are as they were. -/
structure Srt (w0 : World) (g n : Nat) (d : Nat → Nat) (w : World) : Prop where
 os : w.os = w0.os
 tape : w.tape = w0.tape
 output : w.output = w0.output
 size : w0.heap.size ≤ w.heap.size
 old : ∀ i, i < w0.heap.size → i ≠ g → w.heap[i]? = w0.heap[i]?
 blk : ∃ cs : Array Value, Blk w g cs 3 ∧ n ≤ cs.size ∧ ∀ k, k < n → cs[k]? = some (.int .i64 (d k : Int))
theorem Srt.drew {w0 w : World} {g n : Nat} {d : Nat → Nat} (h : Srt w0 g n d w) : Srt w0 g n d w.drew := ⟨h.os, h.tape, h.output, h.size, h.old, h.blk⟩
theorem Srt.ext {w0 w w' : World} {g n : Nat} {d : Nat → Nat} (h : Srt w0 g n d w) (hx : Ext w w') : Srt w0 g n d w' := by
 obtain ⟨cs, h1, h2, h3⟩ := h.blk
 exact ⟨hx.os.trans h.os, hx.tape.trans h.tape, hx.output.trans h.output, Nat.le_trans h.size hx.size, fun i hi hg => (hx.block i (Nat.lt_of_lt_of_le hi h.size)).trans (h.old i hi hg), cs, h1.keep hx, h2, h3⟩
theorem Srt.cell {w0 w : World} {g n : Nat} {d : Nat → Nat} (h : Srt w0 g n d w) {k : Nat} (hk : k < n) : w.cell? ⟨g, k, none⟩ = some (.int .i64 (d k : Int)) := by
 obtain ⟨cs, h1, h2, h3⟩ := h.blk
 exact (h1.cell k).trans (h3 k hk)
theorem Srt.free {w0 w : World} {g n : Nat} {d : Nat → Nat} (h : Srt w0 g n d w) (k : Nat) : w.frozen? ⟨g, k, none⟩ = false := by
 obtain ⟨cs, h1, h2, h3⟩ := h.blk
 exact h1.free k
theorem Srt.like {w0 w : World} {g n : Nat} {d d' : Nat → Nat} (h : Srt w0 g n d w) (e : ∀ k, k < n → d' k = d k) : Srt w0 g n d' w := by
 obtain ⟨cs, h1, h2, h3⟩ := h.blk
 exact ⟨h.os, h.tape, h.output, h.size, h.old, cs, h1, h2, fun k hk => by rw [e k hk]; exact h3 k hk⟩
/-- Two places exchanged. -/
def swp (d : Nat → Nat) (i j : Nat) : Nat → Nat := fun k => if k = i then d j else if k = j then d i else d k
theorem os_set (w : World) (a : Addr) (v : Value) : (w.setCell a v).os = w.os ∧ (w.setCell a v).tape = w.tape ∧ (w.setCell a v).output = w.output := by
 unfold World.setCell
 repeat' split
 all_goals exact ⟨rfl, rfl, rfl⟩
theorem Srt.swap {w0 w : World} {g n : Nat} {d : Nat → Nat} (h : Srt w0 g n d w) {i j : Nat} (hi : i < n) (hj : j < n) :
  Srt w0 g n (swp d i j) ((w.setCell ⟨g, i, none⟩ (.int .i64 (d j : Int))).setCell ⟨g, j, none⟩ (.int .i64 (d i : Int))) := by
 obtain ⟨cs, h1, h2, h3⟩ := h.blk
 have hb := (h1.set i (.int .i64 (d j : Int))).set j (.int .i64 (d i : Int))
 refine ⟨?_, ?_, ?_, ?_, fun q hq hg => ?_, _, hb, by simpa using h2, fun k hk => ?_⟩
 ·rw [(os_set _ _ _).1, (os_set _ _ _).1]; exact h.os
 ·rw [(os_set _ _ _).2.1, (os_set _ _ _).2.1]; exact h.tape
 ·rw [(os_set _ _ _).2.2, (os_set _ _ _).2.2]; exact h.output
 ·simpa using h.size
 ·rw [heap_setCell_other _ _ _ _ (by simpa using hg), heap_setCell_other _ _ _ _ (by simpa using hg)]
  exact h.old q hq hg
 ·have hkc : k < cs.size := Nat.lt_of_lt_of_le hk h2
  unfold swp
  by_cases e2 : k = j
  ·subst e2
   rw [Array.getElem?_setIfInBounds_self_of_lt (by simpa using hkc)]
   by_cases e1 : k = i
   ·subst e1; rw [if_pos rfl]
   ·rw [if_neg e1, if_pos rfl]
  ·rw [Array.getElem?_setIfInBounds_ne (fun e => e2 e.symm)]
   by_cases e1 : k = i
   ·subst e1
    rw [if_pos rfl, Array.getElem?_setIfInBounds_self_of_lt hkc]
   ·rw [if_neg e1, if_neg e2, Array.getElem?_setIfInBounds_ne (fun e => e1 e.symm)]
    exact h3 k hk
theorem Srt.two {w0 w : World} {g n : Nat} {d : Nat → Nat} (h : Srt w0 g n d w) {i j : Nat} (hj : j < n) (v : Value) : ∃ u, (w.setCell ⟨g, i, none⟩ v).cell? ⟨g, j, none⟩ = some u := by
 obtain ⟨cs, h1, h2, h3⟩ := h.blk
 have hb := (h1.set i v).cell j
 exact ⟨_, hb.trans (Array.getElem?_eq_getElem (by simpa using Nat.lt_of_lt_of_le hj h2))⟩
/-- i places from a on and from b on, exchanged. -/
def swr (d : Nat → Nat) (a b i : Nat) : Nat → Nat := fun k => if a ≤ k ∧ k < a + i then d (b + (k - a)) else if b ≤ k ∧ k < b + i then d (a + (k - b)) else d k
theorem swr_zero (d : Nat → Nat) (a b : Nat) : swr d a b 0 = d := by
 funext k
 unfold swr
 rw [if_neg (by omega), if_neg (by omega)]
theorem swr_succ (d : Nat → Nat) (a b i : Nat) (h : a + i < b) : swp (swr d a b i) (a + i) (b + i) = swr d a b (i + 1) := by
 funext k
 unfold swp swr
 by_cases e1 : k = a + i
 ·subst e1
  rw [if_pos rfl, if_neg (by omega), if_neg (by omega), if_pos (by omega)]
  congr 1; omega
 ·rw [if_neg e1]
  by_cases e2 : k = b + i
  ·subst e2
   rw [if_pos rfl, if_neg (by omega), if_neg (by omega), if_neg (by omega), if_pos (by omega)]
   congr 1; omega
  ·rw [if_neg e2]
   by_cases e3 : a ≤ k ∧ k < a + i
   ·have e3' : a ≤ k ∧ k < a + (i + 1) := by omega
    rw [if_pos e3, if_pos e3']
   ·have e3' : ¬ (a ≤ k ∧ k < a + (i + 1)) := by omega
    rw [if_neg e3, if_neg e3']
    by_cases e4 : b ≤ k ∧ k < b + i
    ·have e4' : b ≤ k ∧ k < b + (i + 1) := by omega
     rw [if_pos e4, if_pos e4']
    ·have e4' : ¬ (b ≤ k ∧ k < b + (i + 1)) := by omega
     rw [if_neg e4, if_neg e4']
set_option maxHeartbeats 8000000 in
theorem swaprange_any (w0 : World) (g n cap a b m : Nat) (fv : Value) (d : Nat → Nat) (w : World) (h : Srt w0 g n d w) (hab : a + m ≤ b) (hbn : b + m ≤ n) (hn : n ≤ 1000000) :
  Calls Tryz.prog 258 #[.slice (some ⟨g, 0, none⟩) n cap, .int .i64 (a : Int), .int .i64 (b : Int), .int .i64 (m : Int), fv] w fun e w' => e = .returned (.tuple #[]) ∧ Srt w0 g n (swr d a b m) w' := by
 have mixed : Tryz.prog.follows .mixedOrders = true := by kernel_rfl
 have HS := Lib.hid h
 clear h
 go_enter Tryz.func258, Tryz.ntmps258
 go_wp2_with fail
 go_loopw [10] (fun v wr => ∃ i : Nat, i ≤ m ∧ v = .int .i64 i ∧ Srt w0 g n (swr d a b i) wr) (fun v _ => m - (intOf v).toNat)
 case atStart => exact ⟨0, Nat.zero_le _, rfl, by rw [swr_zero]; exact HS.out⟩
 case round =>
  obtain ⟨i, hi, rfl, hs⟩ := hrel
  by_cases him : i < m
  ·have himI : (i : Int) < (m : Int) := by omega
   have S3 := Lib.hid (hs.swap (i := a + i) (j := b + i) (by omega) (by omega)).drew
   have ca := hs.cell (k := a + i) (by omega)
   have cb := hs.cell (k := b + i) (by omega)
   have fa := hs.free (a + i)
   have fb := hs.free (b + i)
   obtain ⟨u, cc⟩ := hs.two (i := a + i) (j := b + i) (by omega) (.int .i64 (swr d a b i (b + i) : Int))
   have hsw := Lib.hid (swr_succ d a b i (by omega))
   generalize swr d a b i (a + i) = X at ca S3
   generalize swr d a b i (b + i) = Y at cb S3 cc
   have ea : ((a : Int) + (i : Int)).toNat = a + i := by omega
   have pa : (0 : Int) ≤ (a : Int) + (i : Int) := by omega
   have ba : (a : Int) + (i : Int) < (n : Int) := by omega
   have ra : IntKind.i64.wrap ((a : Int) + (i : Int)) = (a : Int) + (i : Int) := by rw [IntKind.wrap_i64]; omega
   have eb : ((b : Int) + (i : Int)).toNat = b + i := by omega
   have pb : (0 : Int) ≤ (b : Int) + (i : Int) := by omega
   have bb : (b : Int) + (i : Int) < (n : Int) := by omega
   have rb : IntKind.i64.wrap ((b : Int) + (i : Int)) = (b : Int) + (i : Int) := by rw [IntKind.wrap_i64]; omega
   clear hs
   go_wp2_with fail
   go_big_region_o
   rw [hsw.out] at S3
   clear ca cb cc fa fb ea pa ba ra eb pb bb rb hsw
   generalize ((wr.setCell ⟨g, a + i, none⟩ (.int .i64 (Y : Int))).setCell ⟨g, b + i, none⟩ (.int .i64 (X : Int))).drew = w3 at S3 ⊢
   go_wp2_with fail
   go_roundw
   case rel => exact ⟨i + 1, by omega, by go_num, S3.out⟩
   case measure => simp [intOf]; omega
  ·have himI : ¬ (i : Int) < (m : Int) := by omega
   obtain rfl : i = m := by omega
   have HS2 := Lib.hid hs
   clear hs
   go_wp2_with fail
   go_end0
   exact ⟨rfl, HS2.out⟩
end Go.Proofs.YtipokgedmfnlaaaGreatDoor

namespace Go.Proofs.YtipokgedmfnlaaaGreatDoor
open Go.RowKit Go.Lib
set_option maxRecDepth 100000

/-- [a, m) and [m, b) change places. -/
def rot (d : Nat → Nat) (a m b : Nat) : Nat → Nat := fun k => if a ≤ k ∧ k < a + (b - m) then d (k + (m - a)) else if a + (b - m) ≤ k ∧ k < b then d (k - (b - m)) else d k
theorem rot_left (d : Nat → Nat) (m i j : Nat) (h0 : 0 < j) (h1 : j < i) (h2 : i ≤ m) : rot (swr d (m - i) m j) (m - (i - j)) m (m + j) = rot d (m - i) m (m + j) := by
 funext k
 unfold rot swr
 repeat' split
 all_goals first | rfl | (exfalso; omega) | (congr 1; omega)
theorem rot_right (d : Nat → Nat) (m i j : Nat) (h0 : 0 < i) (h1 : i < j) (h2 : i ≤ m) : rot (swr d (m - i) (m + j - i) i) (m - i) m (m + (j - i)) = rot d (m - i) m (m + j) := by
 funext k
 unfold rot swr
 repeat' split
 all_goals first | rfl | (exfalso; omega) | (congr 1; omega)
theorem rot_even (d : Nat → Nat) (m i : Nat) (h2 : i ≤ m) : swr d (m - i) m i = rot d (m - i) m (m + i) := by
 funext k
 unfold rot swr
 repeat' split
 all_goals first | rfl | (exfalso; omega) | (congr 1; omega)
theorem swaprange_z (w0 : World) (g n cap a b m : Nat) (A B M : Int) (fv : Value) (d : Nat → Nat) (w : World) (h : Srt w0 g n d w) (hA : A = a) (hB : B = b) (hM : M = m) (hab : a + m ≤ b) (hbn : b + m ≤ n) (hn : n ≤ 1000000) :
  Calls Tryz.prog 258 #[.slice (some ⟨g, 0, none⟩) n cap, .int .i64 A, .int .i64 B, .int .i64 M, fv] w fun e w' => e = .returned (.tuple #[]) ∧ Srt w0 g n (swr d a b m) w' := by
 subst hA hB hM
 exact swaprange_any w0 g n cap a b m fv d w h hab hbn hn
set_option maxHeartbeats 8000000 in
theorem rotate_any (w0 : World) (g n cap a m b : Nat) (fv : Value) (d : Nat → Nat) (w : World) (h : Srt w0 g n d w) (ham : a < m) (hmb : m < b) (hbn : b ≤ n) (hn : n ≤ 1000000) :
  Calls Tryz.prog 220 #[.slice (some ⟨g, 0, none⟩) n cap, .int .i64 (a : Int), .int .i64 (m : Int), .int .i64 (b : Int), fv] w fun e w' => e = .returned (.tuple #[]) ∧ Srt w0 g n (rot d a m b) w' := by
 have HS := Lib.hid h
 clear h
 have s1 : wrap64 ((m : Int) - (a : Int)) = (m : Int) - (a : Int) := IntWalk.wrap64_in _ (by omega)
 have s2 : wrap64 ((b : Int) - (m : Int)) = (b : Int) - (m : Int) := IntWalk.wrap64_in _ (by omega)
 go_enter Tryz.func220, Tryz.ntmps220
 go_wp2_with fail
 clear s1 s2
 go_loopw [10, 11] (fun v u wr => ∃ (i j : Nat) (d1 : Nat → Nat), 0 < i ∧ 0 < j ∧ i ≤ m ∧ m + j ≤ n ∧ v = .int .i64 i ∧ u = .int .i64 j ∧ rot d1 (m - i) m (m + j) = rot d a m b ∧ Srt w0 g n d1 wr) (fun v u _ => (intOf v).toNat + (intOf u).toNat)
 case atStart => exact ⟨m - a, b - m, d, by omega, by omega, by omega, by omega, by congr 1; omega, by congr 1; omega, by rw [show m - (m - a) = a by omega, show m + (b - m) = b by omega], HS.out⟩
 case round =>
  obtain ⟨i, j, d1, hi, hj, him, hjn, rfl, rfl, hrot, hs⟩ := hrel
  have t1 : wrap64 ((m : Int) - (i : Int)) = (m : Int) - (i : Int) := IntWalk.wrap64_in _ (by omega)
  have HS1 := Lib.hid hs
  have HR := Lib.hid hrot
  clear hs hrot
  by_cases hne : i = j
  ·subst hne
   go_wp2_with fail
   refine Calls.mono (swaprange_z w0 g n cap (m - i) m i _ _ _ fv d1 wr HS1.out (by omega) (by omega) (by omega) (by omega) (by omega) hn) ?_
   rintro e w2 ⟨rfl, h2⟩
   rw [rot_even d1 m i him, HR.out] at h2
   have H2 := Lib.hid h2
   clear h2
   go_wp2_with fail
   go_end0
   exact ⟨rfl, H2.out⟩
  ·have hneb : ((i : Int) != (j : Int)) = true := by simp; omega
   by_cases hgt : j < i
   ·have hgtI : (j : Int) < (i : Int) := by omega
    have t2 : wrap64 ((i : Int) - (j : Int)) = (i : Int) - (j : Int) := IntWalk.wrap64_in _ (by omega)
    go_wp2_with fail
    refine Calls.mono (swaprange_z w0 g n cap (m - i) m j _ _ _ fv d1 wr HS1.out (by omega) (by omega) (by omega) (by omega) (by omega) hn) ?_
    rintro e w2 ⟨rfl, h2⟩
    have H2 := Lib.hid h2
    clear h2
    go_wp2_with fail
    go_roundw
    case rel => exact ⟨i - j, j, swr d1 (m - i) m j, by omega, by omega, by omega, by omega, by congr 1; omega, rfl, by rw [rot_left d1 m i j hj hgt him]; exact HR.out, H2.out⟩
    case measure => simp [intOf]; omega
   ·have hgtI : ¬ (j : Int) < (i : Int) := by omega
    have t2 : wrap64 ((j : Int) - (i : Int)) = (j : Int) - (i : Int) := IntWalk.wrap64_in _ (by omega)
    have t3 : wrap64 ((m : Int) + (j : Int)) = (m : Int) + (j : Int) := IntWalk.wrap64_in _ (by omega)
    have t4 : wrap64 ((m : Int) + (j : Int) - (i : Int)) = (m : Int) + (j : Int) - (i : Int) := IntWalk.wrap64_in _ (by omega)
    go_wp2_with fail
    refine Calls.mono (swaprange_z w0 g n cap (m - i) (m + j - i) i _ _ _ fv d1 wr HS1.out (by omega) (by omega) (by omega) (by omega) (by omega) hn) ?_
    rintro e w2 ⟨rfl, h2⟩
    have H2 := Lib.hid h2
    clear h2
    go_wp2_with fail
    go_roundw
    case rel => exact ⟨i, j - i, swr d1 (m - i) (m + j - i) i, by omega, by omega, by omega, by omega, rfl, by congr 1; omega, by rw [rot_right d1 m i j hi (by omega) him]; exact HR.out, H2.out⟩
    case measure => simp [intOf]; omega
end Go.Proofs.YtipokgedmfnlaaaGreatDoor

namespace Go.Proofs.YtipokgedmfnlaaaGreatDoor
open Go.RowKit Go.Lib
set_option maxRecDepth 100000

/-- Above by the closure, or as great and come later. -/
def LT (cf : Nat → Nat → Int) (x y : Nat) : Prop := cf x y < 0 ∨ (cf x y = 0 ∧ x < y)
/-- What is asked of the closure's order. -/
structure Cf (cf : Nat → Nat → Int) : Prop where
 swap : ∀ x y, cf y x = -cf x y
 trans : ∀ x y z, LT cf x y → LT cf y z → LT cf x z
theorem Cf.back {cf : Nat → Nat → Int} (h : Cf cf) {x y : Nat} (hn : ¬ cf x y < 0) (hl : y < x) : LT cf y x := by
 have := h.swap x y
 unfold LT
 omega
/-- In order from a to b. -/
def Sor (cf : Nat → Nat → Int) (d : Nat → Nat) (a b : Nat) : Prop := ∀ i j, a ≤ i → i < j → j < b → LT cf (d i) (d j)
/-- In order from a to i, the numbers of these places; behind them as it was. -/
structure Ins (cf : Nat → Nat → Int) (d0 d : Nat → Nat) (a b i : Nat) : Prop where
 sor : Sor cf d a i
 own : ∀ k, a ≤ k → k < i → a ≤ d k ∧ d k < i
 rest : ∀ k, i ≤ k → k < b → d k = k
 out : ∀ k, ¬ (a ≤ k ∧ k < b) → d k = d0 k
/-- Number i stands at place j; all others up to i are in order, and it is under all behind it. -/
structure InsJ (cf : Nat → Nat → Int) (d0 d : Nat → Nat) (a b i j : Nat) : Prop where
 at' : d j = i
 sor : ∀ p q, a ≤ p → p < q → q ≤ i → p ≠ j → q ≠ j → LT cf (d p) (d q)
 up : ∀ q, j < q → q ≤ i → LT cf i (d q)
 own : ∀ k, a ≤ k → k ≤ i → k ≠ j → a ≤ d k ∧ d k < i
 rest : ∀ k, i < k → k < b → d k = k
 out : ∀ k, ¬ (a ≤ k ∧ k < b) → d k = d0 k
theorem Ins.start {cf : Nat → Nat → Int} {d0 d : Nat → Nat} {a b i : Nat} (h : Ins cf d0 d a b i) (hi : i < b) (_ha : a ≤ i) : InsJ cf d0 d a b i i :=
 ⟨h.rest i (Nat.le_refl _) hi, fun p q hp hpq hq _ hqj => h.sor p q hp hpq (by omega), fun q hq hq2 => by omega, fun k hk hki hkj => h.own k hk (by omega), fun k hk hkb => h.rest k (by omega) hkb, h.out⟩
theorem InsJ.stop {cf : Nat → Nat → Int} (hc : Cf cf) {d0 d : Nat → Nat} {a b i j : Nat} (h : InsJ cf d0 d a b i j) (ha : a ≤ j) (hj : j ≤ i) (hs : j = a ∨ ¬ cf (d j) (d (j - 1)) < 0) : Ins cf d0 d a b (i + 1) := by
 refine ⟨fun p q hp hpq hq => ?_, fun k hk hki => ?_, fun k hk hkb => h.rest k (by omega) hkb, h.out⟩
 ·by_cases e1 : p = j
  ·subst e1
   rw [h.at']
   exact h.up q hpq (by omega)
  ·by_cases e2 : q = j
   ·subst e2
    have hlast : LT cf (d (q - 1)) (d q) := by
     rcases hs with hs | hs
     ·omega
     ·exact hc.back hs (by rw [h.at']; exact (h.own (q - 1) (by omega) (by omega) (by omega)).2)
    by_cases e3 : p = q - 1
    ·rw [e3]; exact hlast
    ·exact hc.trans _ _ _ (h.sor p (q - 1) hp (by omega) (by omega) e1 (by omega)) hlast
   ·exact h.sor p q hp hpq (by omega) e1 e2
 ·by_cases e : k = j
  ·subst e; rw [h.at']; omega
  ·have := h.own k hk (by omega) e
   omega
theorem InsJ.step {cf : Nat → Nat → Int} {d0 d : Nat → Nat} {a b i j : Nat} (h : InsJ cf d0 d a b i j) (ha : a < j) (hj : j ≤ i) (hi : i < b) (hs : cf (d j) (d (j - 1)) < 0) : InsJ cf d0 (swp d j (j - 1)) a b i (j - 1) := by
 have hat := h.at'
 have s0 : swp d j (j - 1) j = d (j - 1) := by unfold swp; rw [if_pos rfl]
 have s1 : swp d j (j - 1) (j - 1) = i := by unfold swp; rw [if_neg (by omega), if_pos rfl, hat]
 have s2 : ∀ k, k ≠ j → k ≠ j - 1 → swp d j (j - 1) k = d k := fun k h1 h2 => by unfold swp; rw [if_neg h1, if_neg h2]
 refine ⟨s1, fun p q hp hpq hq hpj hqj => ?_, fun q hq hq2 => ?_, fun k hk hki hkj => ?_, fun k hk hkb => ?_, fun k hk => ?_⟩
 ·by_cases e1 : p = j
  ·subst e1
   rw [s0, s2 q (by omega) hqj]
   exact h.sor (p - 1) q (by omega) (by omega) hq (by omega) (by omega)
  ·rw [s2 p e1 hpj]
   by_cases e2 : q = j
   ·subst e2
    rw [s0]
    exact h.sor p (q - 1) hp (by omega) (by omega) e1 (by omega)
   ·rw [s2 q e2 hqj]
    exact h.sor p q hp hpq hq e1 e2
 ·by_cases e : q = j
  ·subst e
   rw [s0]
   rw [hat] at hs
   exact .inl hs
  ·rw [s2 q e (by omega)]
   exact h.up q (by omega) hq2
 ·by_cases e : k = j
  ·subst e
   rw [s0]
   exact h.own (k - 1) (by omega) (by omega) (by omega)
  ·rw [s2 k e hkj]
   exact h.own k hk hki e
 ·rw [s2 k (by omega) (by omega)]
  exact h.rest k hk hkb
 ·rw [s2 k (by omega) (by omega)]
  exact h.out k hk
theorem Srt.toExt {w0 w : World} {g n : Nat} {d : Nat → Nat} (h : Srt w0 g n d w) (hg : w0.heap.size ≤ g) : Ext w0 w := ⟨h.os, h.tape, h.output, h.size, fun k hk => h.old k hk (by omega)⟩
/-- What is asked of the closure. -/
def CmpOk (w0 : World) (n : Nat) (cf : Nat → Nat → Int) (c1 c2 c3 : Value) : Prop :=
 ∀ W, Ext w0 W → ∀ x y : Nat, x < n → y < n → Calls Tryz.prog 69 #[.int .i64 (x : Int), .int .i64 (y : Int), c1, c2, c3] W fun e w' => e = .returned (.int .i64 (cf x y)) ∧ Below W.heap.size W w'
/-- The closure as a value. -/
def InsOut (w0 : World) (g n a b : Nat) (cf : Nat → Nat → Int) (d : Nat → Nat) (e : Ending) (w' : World) : Prop := e = .returned (.tuple #[]) ∧ ∃ d', Srt w0 g n d' w' ∧ Ins cf d d' a b b
set_option maxHeartbeats 8000000 in
theorem insertion_any (w0 : World) (g n cap a b : Nat) (cf : Nat → Nat → Int) (hc : Cf cf) (c1 c2 c3 : Value) (d : Nat → Nat) (w : World) (h : Srt w0 g n d w) (hg : w0.heap.size ≤ g) (hcmp : CmpOk w0 n cf c1 c2 c3) (hab : a ≤ b) (hbn : b ≤ n) (hn : n ≤ 1000000) (hd : ∀ k, a ≤ k → k < b → d k = k) :
  Calls Tryz.prog 169 #[.slice (some ⟨g, 0, none⟩) n cap, .int .i64 (a : Int), .int .i64 (b : Int), .func (.func 69) #[] #[c1, c2, c3]] w (InsOut w0 g n a b cf d) := by
 have mixed : Tryz.prog.follows .mixedOrders = true := by kernel_rfl
 have HS := Lib.hid h
 have HC := Lib.hid hcmp
 have HCf := Lib.hid hc
 have HD := Lib.hid hd
 clear h hcmp hc hd
 go_enter Tryz.func169, Tryz.ntmps169
 have s1 : wrap64 ((a : Int) + 1) = (a : Int) + 1 := IntWalk.wrap64_in _ (by omega)
 go_wp2_with fail
 clear s1
 by_cases hab2 : a < b
 ·go_loopw [8, 9] (fun v _ wr => ∃ (i : Nat) (d1 : Nat → Nat), a < i ∧ i ≤ b ∧ v = .int .i64 i ∧ Srt w0 g n d1 wr ∧ Ins cf d d1 a b i) (fun v _ _ => b - (intOf v).toNat)
  case atStart => exact ⟨a + 1, d, by omega, by omega, by go_num, HS.out, ⟨fun i j h1 h2 h3 => by omega, fun k h1 h2 => by rw [HD.out k h1 (by omega)]; omega, fun k h1 h2 => HD.out k (by omega) h2, fun _ _ => rfl⟩⟩
  case round =>
   obtain ⟨i, d1, hai, hib, rfl, hs, hins⟩ := hrel
   have HS1 := Lib.hid hs
   have HI := Lib.hid hins
   clear hs hins
   by_cases hlt : i < b
   ·have hltI : (i : Int) < (b : Int) := by omega
    go_wp2_with fail
    go_loopw [9] (fun v wr2 => ∃ (j : Nat) (d2 : Nat → Nat), a ≤ j ∧ j ≤ i ∧ v = .int .i64 j ∧ Srt w0 g n d2 wr2 ∧ InsJ cf d d2 a b i j) (fun v _ => (intOf v).toNat)
    case atStart => exact ⟨i, d1, by omega, Nat.le_refl _, rfl, HS1.out, HI.out.start hlt (by omega)⟩
    case round =>
     obtain ⟨j, d2, haj, hji, rfl, hs2, hins2⟩ := hrel
     have HS2 := Lib.hid hs2
     have HI2 := Lib.hid hins2
     clear hs2 hins2
     by_cases hja : a < j
     ·obtain ⟨jp, rfl⟩ : ∃ q, j = q + 1 := ⟨j - 1, by omega⟩
      have hjaI : (a : Int) < (jp : Int) + 1 := by omega
      have hjb : (decide ((a : Int) < (jp : Int) + 1)) = true := decide_eq_true hjaI
      have w2 : IntKind.i64.wrap (jp : Int) = (jp : Int) := by rw [IntKind.wrap_i64]; omega
      have p0 : (0 : Int) ≤ (jp : Int) + 1 := by omega
      have e0 : ((jp : Int) + 1).toNat = jp + 1 := by omega
      have b1 : (jp : Int) + 1 < (n : Int) := by omega
      have b2 : (jp : Int) < (n : Int) := by omega
      have hx : d2 (jp + 1) < n := by rw [HI2.out.at']; omega
      have hy : d2 jp < n := by have := HI2.out.own jp (by omega) (by omega) (by omega); omega
      have HF := Lib.hid (show ∀ W, Ext wr W → W.cell? ⟨g, jp + 1, none⟩ = some (.int .i64 (d2 (jp + 1) : Int)) ∧ W.cell? ⟨g, jp, none⟩ = some (.int .i64 (d2 jp : Int)) from fun W hW => ⟨(HS2.out.ext hW).cell (by omega), (HS2.out.ext hW).cell (by omega)⟩)
      have KC := Lib.hid (fun (W : World) (hW : Ext wr W) => HC.out W (Ext.trans (HS2.out.toExt hg) hW) (d2 (jp + 1)) (d2 jp) hx hy)
      have HStop := Lib.hid (fun hs => HI2.out.stop HCf.out (by omega) hji (.inr hs))
      have HStep := Lib.hid (fun hs => HI2.out.step (by omega) hji hlt hs)
      simp only [Nat.add_sub_cancel] at HStop HStep
      generalize hX : d2 (jp + 1) = X at HF KC HStop HStep
      generalize hY : d2 jp = Y at HF KC HStop HStep
      go_wp2_with fail
      refine wp_par 17 (fun
        | 0 => fun v _ => v = .int .i64 ((jp : Int) + 1)
        | 1 => fun v _ => v = .int .i64 (a : Int)
        | 2 => fun v _ => v = .bool true
        | 3 => fun v _ => v = .bool true
        | 4 => fun v _ => v = .func (.func 69) #[] #[c1, c2, c3]
        | 5 => fun v _ => v = .slice (some ⟨g, 0, none⟩) n cap
        | 6 => fun v _ => v = .int .i64 ((jp : Int) + 1)
        | 7 => fun v _ => v = .pointer (some ⟨g, jp + 1, none⟩)
        | 8 => fun v _ => v = .int .i64 (X : Int)
        | 9 => fun v _ => v = .slice (some ⟨g, 0, none⟩) n cap
        | 10 => fun v _ => v = .int .i64 ((jp : Int) + 1)
        | 11 => fun v _ => v = .int .i64 (jp : Int)
        | 12 => fun v _ => v = .pointer (some ⟨g, jp, none⟩)
        | 13 => fun v _ => v = .int .i64 (Y : Int)
        | 14 => fun v _ => v = .int .i64 (cf X Y)
        | 15 => fun v _ => v = .bool (decide (cf X Y < 0))
        | 16 => fun v _ => v = .bool (decide (cf X Y < 0))
        | _ => fun _ _ => True) (by kernel_rfl) (by kernel_rfl) (by kernel_rfl) ?_ ?_
      ·simp (maxSteps := 20000000) only [List.take_succ_cons, List.take_zero, ParAll, Act.put, List.setIfInBounds_toArray, List.set_cons_succ, List.set_cons_zero]
       refine ⟨?_, ?_, ?_, ?_, ?_, ?_, ?_, ?_, ?_, ?_, ?_, ?_, ?_, ?_, ?_, ?_, ?_, trivial⟩
       iterate 14
        next =>
         intro vals W hx hd
         have hW := HF.out W hx
         simp [PDeps, pdeps, Region.binds] at hd
         first
          | refine ParOb.plain rfl ?_
          | refine ParOb.wanted (by simp [Region.wanted, yielded, hd]) ?_
         go_simp
         exact ParPost.same fun _ _ => rfl
       ·intro vals W hx hd
        have hW := HF.out W hx
        simp [PDeps, pdeps, Region.binds] at hd
        first
         | refine ParOb.plain rfl ?_
         | refine ParOb.wanted (by simp [Region.wanted, yielded, hd]) ?_
        go_simp
        refine Calls.mono (KC.out W hx) ?_
        rintro e w9 ⟨rfl, hb9⟩
        exact ⟨_, rfl, hb9, fun _ _ => rfl⟩
       iterate 2
        next =>
         intro vals W hx hd
         have hW := HF.out W hx
         simp [PDeps, pdeps, Region.binds] at hd
         first
          | refine ParOb.plain rfl ?_
          | refine ParOb.wanted (by simp [Region.wanted, yielded, hd]) ?_
         go_simp
         exact ParPost.same fun _ _ => rfl
      intro vals W hx hf
      simp (maxSteps := 20000000) only [ParFacts, List.take_succ_cons, List.take_zero, and_true] at hf
      simp (maxSteps := 20000000) only [List.drop_succ_cons, List.drop_zero, List.take_succ_cons, List.take_zero, ParEnd, Act.put, List.setIfInBounds_toArray, List.set_cons_succ, List.set_cons_zero, hf]
      clear hf
      have hs := HS2.out.ext hx
      clear hx HF KC
      cases hlv : decide (cf X Y < 0)
      ·have hstop := Lib.hid (HStop.out (by have := of_decide_eq_false hlv; omega))
       have HS3 := Lib.hid hs
       clear hs HStop HStep
       go_wp2_with fail
       go_roundw
       case rel => exact ⟨i + 1, d2, by omega, by omega, by go_num, HS3.out, hstop.out⟩
       case measure => simp [intOf]; omega
      ·have hstep := Lib.hid (HStep.out (of_decide_eq_true hlv))
       have S3 := Lib.hid (hs.swap (i := jp + 1) (j := jp) (by omega) (by omega)).drew
       have ca := hs.cell (k := jp + 1) (by omega)
       have cb := hs.cell (k := jp) (by omega)
       have fa := hs.free (jp + 1)
       have fb := hs.free jp
       obtain ⟨u, cc⟩ := hs.two (i := jp + 1) (j := jp) (by omega) (.int .i64 (d2 jp : Int))
       rw [hX] at ca S3
       rw [hY] at cb S3 cc
       clear hs HStop HStep
       go_wp2_with fail
       go_big_region_o
       clear ca cb cc fa fb
       generalize ((W.setCell ⟨g, jp + 1, none⟩ (.int .i64 (Y : Int))).setCell ⟨g, jp, none⟩ (.int .i64 (X : Int))).drew = w3 at S3 ⊢
       go_wp2_with fail
       go_roundw
       case rel => exact ⟨jp, swp d2 (jp + 1) jp, by omega, by omega, by go_num, S3.out, hstep.out⟩
       case measure => simp [intOf]
     ·obtain rfl : j = a := by omega
      have hstop := Lib.hid (HI2.out.stop HCf.out (Nat.le_refl _) hji (.inl rfl))
      have hjb : (decide ((j : Int) < (j : Int))) = false := by simp
      have HF := Lib.hid (show ∀ W, Ext wr W → True from fun _ _ => trivial)
      go_wp2_with fail
      refine wp_par 17 (fun
        | 0 => fun v _ => v = .int .i64 (j : Int)
        | 1 => fun v _ => v = .int .i64 (j : Int)
        | 2 => fun v _ => v = .bool false
        | 3 => fun v _ => v = .bool false
        | 4 => fun v _ => v = undef
        | 5 => fun v _ => v = undef
        | 6 => fun v _ => v = undef
        | 7 => fun v _ => v = undef
        | 8 => fun v _ => v = undef
        | 9 => fun v _ => v = undef
        | 10 => fun v _ => v = undef
        | 11 => fun v _ => v = undef
        | 12 => fun v _ => v = undef
        | 13 => fun v _ => v = undef
        | 14 => fun v _ => v = undef
        | 15 => fun v _ => v = undef
        | 16 => fun v _ => v = .bool false
        | _ => fun _ _ => True) (by kernel_rfl) (by kernel_rfl) (by kernel_rfl) ?_ ?_
      ·simp (maxSteps := 20000000) only [List.take_succ_cons, List.take_zero, ParAll, Act.put, List.setIfInBounds_toArray, List.set_cons_succ, List.set_cons_zero]
       refine ⟨?_, ?_, ?_, ?_, ?_, ?_, ?_, ?_, ?_, ?_, ?_, ?_, ?_, ?_, ?_, ?_, ?_, trivial⟩
       iterate 4
        next =>
         intro vals W hx hd
         have hW := HF.out W hx
         simp [PDeps, pdeps, Region.binds] at hd
         first
          | refine ParOb.plain rfl ?_
          | refine ParOb.wanted (by simp [Region.wanted, yielded, hd]) ?_
         go_simp
         exact ParPost.same fun _ _ => rfl
       iterate 12
        next =>
         intro vals W hx hd
         have hW := HF.out W hx
         simp [PDeps, pdeps, Region.binds] at hd
         exact ParOb.passed (by simp [Region.wanted, yielded, hd] <;> decide) fun _ _ => rfl
       ·intro vals W hx hd
        have hW := HF.out W hx
        simp [PDeps, pdeps, Region.binds] at hd
        first
         | refine ParOb.plain rfl ?_
         | refine ParOb.wanted (by simp [Region.wanted, yielded, hd]) ?_
        go_simp
        exact ParPost.same fun _ _ => rfl
      intro vals W hx hf
      simp (maxSteps := 20000000) only [ParFacts, List.take_succ_cons, List.take_zero, and_true] at hf
      simp (maxSteps := 20000000) only [List.drop_succ_cons, List.drop_zero, List.take_succ_cons, List.take_zero, ParEnd, Act.put, List.setIfInBounds_toArray, List.set_cons_succ, List.set_cons_zero, hf]
      clear hf
      have HS3 := Lib.hid (HS2.out.ext hx)
      clear hx HF
      go_wp2_with fail
      go_roundw
      case rel => exact ⟨i + 1, d2, by omega, by omega, by go_num, HS3.out, hstop.out⟩
      case measure => simp [intOf]; omega
   ·have hltI : ¬ (i : Int) < (b : Int) := by omega
    obtain rfl : i = b := by omega
    go_wp2_with fail
    go_end0
    exact ⟨rfl, d1, HS1.out, HI.out⟩
 ·obtain rfl : a = b := by omega
  go_loopw [8, 9] (fun v _ wr => v = .int .i64 ((a : Int) + 1) ∧ Srt w0 g n d wr) (fun _ _ _ => 0)
  case atStart => exact ⟨rfl, HS.out⟩
  case round =>
   obtain ⟨rfl, hs⟩ := hrel
   have HS1 := Lib.hid hs
   clear hs
   go_wp2_with fail
   go_end0
   exact ⟨rfl, d, HS1.out, ⟨fun i j h1 h2 h3 => by omega, fun k h1 h2 => by omega, fun k h1 h2 => by omega, fun _ _ => rfl⟩⟩
end Go.Proofs.YtipokgedmfnlaaaGreatDoor

namespace Go.Proofs.YtipokgedmfnlaaaGreatDoor
open Go.RowKit Go.Lib
set_option maxRecDepth 100000

/-- Two parts in order, all numbers of the left below T, all of the right from T on. -/
structure Mg (cf : Nat → Nat → Int) (d : Nat → Nat) (a m b T : Nat) : Prop where
 left : Sor cf d a m
 right : Sor cf d m b
 low : ∀ k, a ≤ k → k < m → d k < T
 high : ∀ k, m ≤ k → k < b → T ≤ d k
/-- A test of the right against the left tells LT. -/
theorem Mg.test {cf : Nat → Nat → Int} {d : Nat → Nat} {a m b T : Nat} (h : Mg cf d a m b T) {x y : Nat} (hx : a ≤ x) (hxm : x < m) (hy : m ≤ y) (hyb : y < b) : cf (d y) (d x) < 0 ↔ LT cf (d y) (d x) := by
 have h1 := h.low x hx hxm
 have h2 := h.high y hy hyb
 unfold LT
 omega
theorem Mg.back {cf : Nat → Nat → Int} (hc : Cf cf) {d : Nat → Nat} {a m b T : Nat} (h : Mg cf d a m b T) {x y : Nat} (hx : a ≤ x) (hxm : x < m) (hy : m ≤ y) (hyb : y < b) (hn : ¬ cf (d y) (d x) < 0) : LT cf (d x) (d y) := by
 have h1 := h.low x hx hxm
 have h2 := h.high y hy hyb
 exact hc.back hn (by omega)
/-- The search's place s: from below on the left stands below its mirror, from s on it stands above. -/
structure Cutp (cf : Nat → Nat → Int) (d : Nat → Nat) (a m b n s : Nat) : Prop where
 sa : a ≤ s
 sm : s ≤ m
 se : m + s ≤ n
 eb : n ≤ b + s
 below : a < s → n - s < b → LT cf (d (s - 1)) (d (n - s))
 above : s < m → m < n - s → LT cf (d (n - s - 1)) (d s)
/-- After the turn all to the left of mid = n - m stands below all to the right. -/
theorem Cutp.apart {cf : Nat → Nat → Int} (hc : Cf cf) {d : Nat → Nat} {a m b n s T : Nat} (h : Mg cf d a m b T) (c : Cutp cf d a m b n s) (_ham : a < m) (_hmb : m < b) (hmid : m + a < n) :
  ∀ x y, a ≤ x → x < n - m → n - m ≤ y → y < b → LT cf (rot d s m (n - s) x) (rot d s m (n - s) y) := by
 have hL : ∀ x y, a ≤ x → x < s → n - s ≤ y → y < b → LT cf (d x) (d y) := fun x y hx hxs hy hyb => by
  have h1 := c.below (by omega) (by omega)
  have hsm := c.sm
  have hse := c.se
  have h2 : x = s - 1 ∨ LT cf (d x) (d (s - 1)) := by
   by_cases e : x = s - 1
   ·exact .inl e
   ·exact .inr (h.left x (s - 1) hx (by omega) (by omega))
  have h3 : y = n - s ∨ LT cf (d (n - s)) (d y) := by
   by_cases e : y = n - s
   ·exact .inl e
   ·exact .inr (h.right (n - s) y (by omega) (by omega) hyb)
  have h4 : LT cf (d x) (d (n - s)) := by
   rcases h2 with h2 | h2
   ·rw [h2]; exact h1
   ·exact hc.trans _ _ _ h2 h1
  rcases h3 with h3 | h3
  ·rw [h3]; exact h4
  ·exact hc.trans _ _ _ h4 h3
 have hR : ∀ x y, m ≤ x → x < n - s → s ≤ y → y < m → LT cf (d x) (d y) := fun x y hx hxe hy hym => by
  have h1 := c.above (by omega) (by omega)
  have heb := c.eb
  have has := c.sa
  have h2 : x = n - s - 1 ∨ LT cf (d x) (d (n - s - 1)) := by
   by_cases e : x = n - s - 1
   ·exact .inl e
   ·exact .inr (h.right x (n - s - 1) hx (by omega) (by omega))
  have h3 : y = s ∨ LT cf (d s) (d y) := by
   by_cases e : y = s
   ·exact .inl e
   ·exact .inr (h.left s y has (by omega) hym)
  have h4 : LT cf (d x) (d s) := by
   rcases h2 with h2 | h2
   ·rw [h2]; exact h1
   ·exact hc.trans _ _ _ h2 h1
  rcases h3 with h3 | h3
  ·rw [h3]; exact h4
  ·exact hc.trans _ _ _ h4 h3
 have has := c.sa
 have hsm := c.sm
 have hse := c.se
 have heb := c.eb
 intro x y hx hxm hy hyb
 unfold rot
 by_cases e1 : s ≤ x
 ·rw [if_pos (show s ≤ x ∧ x < s + (n - s - m) by omega)]
  by_cases e2 : y < n - s
  ·rw [if_neg (show ¬ (s ≤ y ∧ y < s + (n - s - m)) by omega), if_pos (show s + (n - s - m) ≤ y ∧ y < n - s by omega)]
   exact hR _ _ (by omega) (by omega) (by omega) (by omega)
  ·rw [if_neg (show ¬ (s ≤ y ∧ y < s + (n - s - m)) by omega), if_neg (show ¬ (s + (n - s - m) ≤ y ∧ y < n - s) by omega)]
   exact h.right _ _ (by omega) (by omega) hyb
 ·rw [if_neg (show ¬ (s ≤ x ∧ x < s + (n - s - m)) by omega), if_neg (show ¬ (s + (n - s - m) ≤ x ∧ x < n - s) by omega)]
  by_cases e2 : y < n - s
  ·rw [if_neg (show ¬ (s ≤ y ∧ y < s + (n - s - m)) by omega), if_pos (show s + (n - s - m) ≤ y ∧ y < n - s by omega)]
   exact h.left _ _ hx (by omega) (by omega)
  ·rw [if_neg (show ¬ (s ≤ y ∧ y < s + (n - s - m)) by omega), if_neg (show ¬ (s + (n - s - m) ≤ y ∧ y < n - s) by omega)]
   exact hL _ _ hx (by omega) (by omega) hyb
theorem rot_a (d : Nat → Nat) {s m e k : Nat} (h : k < s) : rot d s m e k = d k := by
 unfold rot
 rw [if_neg (show ¬ (s ≤ k ∧ k < s + (e - m)) by omega), if_neg (show ¬ (s + (e - m) ≤ k ∧ k < e) by omega)]
theorem rot_b (d : Nat → Nat) {s m e k : Nat} (h : s ≤ k) (h2 : k < s + (e - m)) : rot d s m e k = d (k + (m - s)) := by
 unfold rot
 rw [if_pos (show s ≤ k ∧ k < s + (e - m) by omega)]
theorem rot_c (d : Nat → Nat) {s m e k : Nat} (h : s + (e - m) ≤ k) (h2 : k < e) : rot d s m e k = d (k - (e - m)) := by
 unfold rot
 rw [if_neg (show ¬ (s ≤ k ∧ k < s + (e - m)) by omega), if_pos (show s + (e - m) ≤ k ∧ k < e by omega)]
theorem rot_d (d : Nat → Nat) {s m e k : Nat} (hs : s ≤ m) (hm : m ≤ e) (h : e ≤ k) : rot d s m e k = d k := by
 unfold rot
 rw [if_neg (show ¬ (s ≤ k ∧ k < s + (e - m)) by omega), if_neg (show ¬ (s + (e - m) ≤ k ∧ k < e) by omega)]
/-- What the left half is merged of. -/
theorem Mg.half1 {cf : Nat → Nat → Int} {d : Nat → Nat} {a m b n s T : Nat} (h : Mg cf d a m b T) (c : Cutp cf d a m b n s) : Mg cf (rot d s m (n - s)) a s (n - m) T := by
 have h1 := c.sa
 have h2 := c.sm
 have h3 := c.se
 have h4 := c.eb
 refine ⟨fun x y hx hxy hy => ?_, fun x y hx hxy hy => ?_, fun k hk hks => ?_, fun k hk hkm => ?_⟩
 ·rw [rot_a d (by omega), rot_a d hy]
  exact h.left x y hx hxy (by omega)
 ·rw [rot_b d hx (by omega), rot_b d (by omega) (by omega)]
  exact h.right _ _ (by omega) (by omega) (by omega)
 ·rw [rot_a d hks]
  exact h.low k hk (by omega)
 ·rw [rot_b d hk (by omega)]
  exact h.high _ (by omega) (by omega)
/-- What the right half is merged of. -/
theorem Mg.half2 {cf : Nat → Nat → Int} {d : Nat → Nat} {a m b n s T : Nat} (h : Mg cf d a m b T) (c : Cutp cf d a m b n s) : Mg cf (rot d s m (n - s)) (n - m) (n - s) b T := by
 have h1 := c.sa
 have h2 := c.sm
 have h3 := c.se
 have h4 := c.eb
 refine ⟨fun x y hx hxy hy => ?_, fun x y hx hxy hy => ?_, fun k hk hks => ?_, fun k hk hkb => ?_⟩
 ·rw [rot_c d (by omega) (by omega), rot_c d (by omega) hy]
  exact h.left _ _ (by omega) (by omega) (by omega)
 ·rw [rot_d d h2 (by omega) hx, rot_d d h2 (by omega) (by omega)]
  exact h.right _ _ (by omega) hxy hy
 ·rw [rot_c d (by omega) hks]
  exact h.low _ (by omega) (by omega)
 ·rw [rot_d d h2 (by omega) hk]
  exact h.high _ (by omega) hkb
/-- What a merge leaves: order from a to b, none but old numbers, all else kept. -/
structure Mout (cf : Nat → Nat → Int) (d d' : Nat → Nat) (a b : Nat) : Prop where
 sor : Sor cf d' a b
 old : ∀ k, a ≤ k → k < b → ∃ j, a ≤ j ∧ j < b ∧ d' k = d j
 out : ∀ k, ¬ (a ≤ k ∧ k < b) → d' k = d k
theorem Mout.join {cf : Nat → Nat → Int} {d d1 d2 d3 : Nat → Nat} {a c b : Nat} (h1 : Mout cf d1 d2 a c) (h2 : Mout cf d2 d3 c b) (hac : a ≤ c) (hcb : c ≤ b)
  (hap : ∀ x y, a ≤ x → x < c → c ≤ y → y < b → LT cf (d1 x) (d1 y)) (h0 : ∀ k, a ≤ k → k < b → ∃ j, a ≤ j ∧ j < b ∧ d1 k = d j) (ho : ∀ k, ¬ (a ≤ k ∧ k < b) → d1 k = d k) : Mout cf d d3 a b := by
 have hl : ∀ k, a ≤ k → k < c → ∃ j, a ≤ j ∧ j < c ∧ d3 k = d1 j := fun k hk hkc => by
  obtain ⟨j, j1, j2, j3⟩ := h1.old k hk hkc
  exact ⟨j, j1, j2, (h2.out k (by omega)).trans j3⟩
 have hr : ∀ k, c ≤ k → k < b → ∃ j, c ≤ j ∧ j < b ∧ d3 k = d1 j := fun k hk hkb => by
  obtain ⟨j, j1, j2, j3⟩ := h2.old k hk hkb
  exact ⟨j, j1, j2, j3.trans (h1.out j (by omega))⟩
 refine ⟨fun x y hx hxy hy => ?_, fun k hk hkb => ?_, fun k hk => ?_⟩
 ·by_cases e1 : y < c
  ·rw [h2.out x (by omega), h2.out y (by omega)]
   exact h1.sor x y hx hxy e1
  ·by_cases e2 : c ≤ x
   ·exact h2.sor x y e2 hxy hy
   ·obtain ⟨j, j1, j2, j3⟩ := hl x hx (by omega)
    obtain ⟨q, q1, q2, q3⟩ := hr y (by omega) hy
    rw [j3, q3]
    exact hap j q j1 j2 q1 q2
 ·by_cases e : k < c
  ·obtain ⟨j, j1, j2, j3⟩ := hl k hk e
   obtain ⟨q, q1, q2, q3⟩ := h0 j j1 (by omega)
   exact ⟨q, q1, q2, j3.trans q3⟩
  ·obtain ⟨j, j1, j2, j3⟩ := hr k (by omega) hkb
   obtain ⟨q, q1, q2, q3⟩ := h0 j (by omega) j2
   exact ⟨q, q1, q2, j3.trans q3⟩
 ·rw [h2.out k (by omega), h1.out k (by omega)]
  exact ho k hk
/-- The search at its end has found the place. -/
theorem Cutp.of {cf : Nat → Nat → Int} {d : Nat → Nat} {a m b n s s0 r0 : Nat} (hs0 : a ≤ s0) (h1 : s0 ≤ s) (h2 : s ≤ r0) (hr0 : r0 ≤ m) (hn : m + r0 ≤ n) (hb : n ≤ b + s0)
  (e0 : s0 = a ∨ n = b + s0) (e1 : r0 = m ∨ n = m + r0) (lo : s = s0 ∨ LT cf (d (s - 1)) (d (n - s))) (hi : s = r0 ∨ LT cf (d (n - s - 1)) (d s)) : Cutp cf d a m b n s :=
 ⟨by omega, by omega, by omega, by omega, fun ha hb2 => by
  rcases lo with lo | lo
  ·omega
  ·exact lo, fun ha hb2 => by
  rcases hi with hi | hi
  ·omega
  ·exact hi⟩
/-- A turn that puts [m, e) ahead of [s, m) where it belongs. -/
theorem Mg.turn {cf : Nat → Nat → Int} (hc : Cf cf) {d : Nat → Nat} {a m b s e T : Nat} (h : Mg cf d a m b T) (has : a ≤ s) (hsm : s < m) (hme : m ≤ e) (heb : e ≤ b)
  (h1 : a < s → m < e → LT cf (d (s - 1)) (d m)) (h2 : m < e → LT cf (d (e - 1)) (d s)) (h3 : e < b → LT cf (d (m - 1)) (d e)) : Mout cf d (rot d s m e) a b := by
 have L : ∀ x y, a ≤ x → x ≤ y → y < m → x = y ∨ LT cf (d x) (d y) := fun x y hx hxy hy => by
  by_cases q : x = y
  ·exact .inl q
  ·exact .inr (h.left x y hx (by omega) hy)
 have R : ∀ x y, m ≤ x → x ≤ y → y < b → x = y ∨ LT cf (d x) (d y) := fun x y hx hxy hy => by
  by_cases q : x = y
  ·exact .inl q
  ·exact .inr (h.right x y hx (by omega) hy)
 have J : ∀ x y z u, (x = y ∨ LT cf (d x) (d y)) → LT cf (d y) (d z) → (z = u ∨ LT cf (d z) (d u)) → LT cf (d x) (d u) := fun x y z u q1 q2 q3 => by
  have q4 : LT cf (d x) (d z) := by
   rcases q1 with q1 | q1
   ·rw [q1]; exact q2
   ·exact hc.trans _ _ _ q1 q2
  rcases q3 with q3 | q3
  ·rw [← q3]; exact q4
  ·exact hc.trans _ _ _ q4 q3
 have k1 : ∀ x y, a ≤ x → x < s → m ≤ y → y < e → LT cf (d x) (d y) := fun x y hx hxs hy hye =>
  J x (s - 1) m y (L _ _ hx (by omega) (by omega)) (h1 (by omega) (by omega)) (R _ _ (by omega) hy (by omega))
 have k2 : ∀ x y, s ≤ x → x < m → m ≤ y → y < e → LT cf (d y) (d x) := fun x y hx hxm hy hye =>
  J y (e - 1) s x (R _ _ hy (by omega) (by omega)) (h2 (by omega)) (L _ _ has hx hxm)
 have k3 : ∀ x y, a ≤ x → x < m → e ≤ y → y < b → LT cf (d x) (d y) := fun x y hx hxm hy hyb =>
  J x (m - 1) e y (L _ _ hx (by omega) (by omega)) (h3 (by omega)) (R _ _ hme hy hyb)
 have src : ∀ k, a ≤ k → k < b → ∃ j, a ≤ j ∧ j < b ∧ rot d s m e k = d j := fun k hk hkb => by
  unfold rot
  split
  ·exact ⟨_, by omega, by omega, rfl⟩
  ·split
   ·exact ⟨_, by omega, by omega, rfl⟩
   ·exact ⟨k, hk, hkb, rfl⟩
 refine ⟨fun x y hx hxy hy => ?_, src, fun k hk => ?_⟩
 ·by_cases x1 : x < s
  ·rw [rot_a d x1]
   by_cases y1 : y < s
   ·rw [rot_a d y1]; exact h.left _ _ hx hxy (by omega)
   ·by_cases y2 : y < s + (e - m)
    ·rw [rot_b d (by omega) y2]; exact k1 _ _ hx x1 (by omega) (by omega)
    ·by_cases y3 : y < e
     ·rw [rot_c d (by omega) y3]; exact h.left _ _ hx (by omega) (by omega)
     ·rw [rot_d d (by omega) hme (by omega)]; exact k3 _ _ hx (by omega) (by omega) hy
  ·by_cases x2 : x < s + (e - m)
   ·rw [rot_b d (by omega) x2]
    by_cases y2 : y < s + (e - m)
    ·rw [rot_b d (by omega) y2]; exact h.right _ _ (by omega) (by omega) (by omega)
    ·by_cases y3 : y < e
     ·rw [rot_c d (by omega) y3]; exact k2 _ _ (by omega) (by omega) (by omega) (by omega)
     ·rw [rot_d d (by omega) hme (by omega)]; exact h.right _ _ (by omega) (by omega) (by omega)
   ·by_cases x3 : x < e
    ·rw [rot_c d (by omega) x3]
     by_cases y3 : y < e
     ·rw [rot_c d (by omega) y3]; exact h.left _ _ (by omega) (by omega) (by omega)
     ·rw [rot_d d (by omega) hme (by omega)]; exact k3 _ _ (by omega) (by omega) (by omega) hy
    ·rw [rot_d d (by omega) hme (by omega), rot_d d (by omega) hme (by omega)]; exact h.right _ _ (by omega) hxy hy
 ·unfold rot
  rw [if_neg (by omega), if_neg (by omega)]
/-- No turn at all. -/
theorem rot_none (d : Nat → Nat) (s m : Nat) : rot d s m m = d := by
 funext k
 unfold rot
 repeat' split
 all_goals first | rfl | (exfalso; omega) | (congr 1; omega)
theorem rot_none' (d : Nat → Nat) (m e : Nat) : rot d m m e = d := by
 funext k
 unfold rot
 repeat' split
 all_goals first | rfl | (exfalso; omega) | (congr 1; omega)
/-- One more exchange carries the one number on. -/
theorem rot_up (d : Nat → Nat) (a k : Nat) (h : a ≤ k) : swp (rot d a (a + 1) (k + 1)) k (k + 1) = rot d a (a + 1) (k + 1 + 1) := by
 funext x
 unfold swp rot
 repeat' split
 all_goals first | rfl | (exfalso; omega) | (congr 1; omega)
theorem rot_down (d : Nat → Nat) (m k : Nat) (h : k < m) : swp (rot d (k + 1) m (m + 1)) (k + 1) k = rot d k m (m + 1) := by
 funext x
 unfold swp rot
 repeat' split
 all_goals first | rfl | (exfalso; omega) | (congr 1; omega)
/-- One left number: it goes to where the search says. -/
theorem Mg.one {cf : Nat → Nat → Int} (hc : Cf cf) {d : Nat → Nat} {a b i T : Nat} (h : Mg cf d a (a + 1) b T) (hi : a + 1 ≤ i) (hib : i ≤ b)
  (lo : i = a + 1 ∨ LT cf (d (i - 1)) (d a)) (hi2 : i = b ∨ LT cf (d a) (d i)) : Mout cf d (rot d a (a + 1) i) a b :=
 h.turn hc (Nat.le_refl _) (by omega) hi hib (fun h1 _ => by omega) (fun h1 => by
  rcases lo with lo | lo
  ·omega
  ·exact lo) (fun h1 => by
  rcases hi2 with hi2 | hi2
  ·omega
  ·simpa using hi2)
/-- One right number. -/
theorem Mg.last {cf : Nat → Nat → Int} (hc : Cf cf) {d : Nat → Nat} {a m i T : Nat} (h : Mg cf d a m (m + 1) T) (ham : a < m) (hi : a ≤ i) (him : i ≤ m)
  (lo : i = a ∨ LT cf (d (i - 1)) (d m)) (hi2 : i = m ∨ LT cf (d m) (d i)) : Mout cf d (rot d i m (m + 1)) a (m + 1) := by
 by_cases e : i = m
 ·subst e
  rw [rot_none']
  have k := h.turn (s := a) (e := i) hc (Nat.le_refl _) ham (Nat.le_refl _) (by omega) (fun h1 _ => by omega) (fun h1 => by omega) (fun h1 => by
   rcases lo with lo | lo
   ·omega
   ·exact lo)
  rw [rot_none] at k
  exact k
 ·exact h.turn hc hi (by omega) (by omega) (Nat.le_refl _) (fun h1 _ => by
   rcases lo with lo | lo
   ·omega
   ·exact lo) (fun h1 => by
   rcases hi2 with hi2 | hi2
   ·omega
   ·simpa using hi2) (fun h1 => by omega)
/-- What the search knows. -/
structure Sea (cf : Nat → Nat → Int) (d : Nat → Nat) (n s0 r0 s r : Nat) : Prop where
 s0s : s0 ≤ s
 sr : s ≤ r
 rr0 : r ≤ r0
 lo : s = s0 ∨ LT cf (d (s - 1)) (d (n - s))
 hi : r = r0 ∨ LT cf (d (n - r - 1)) (d r)
theorem Sea.up {cf : Nat → Nat → Int} (hc : Cf cf) {d : Nat → Nat} {a m b n s0 r0 s r T c : Nat} (h : Mg cf d a m b T) (q : Sea cf d n s0 r0 s r) (hs0 : a ≤ s0) (hr0 : r0 ≤ m) (hn : m + r0 ≤ n) (hb : n ≤ b + s0) (h1 : s ≤ c) (h2 : c < r) (ht : ¬ cf (d (n - 1 - c)) (d c) < 0) : Sea cf d n s0 r0 (c + 1) r := by
 have := q.s0s
 have := q.rr0
 refine ⟨by omega, by omega, by omega, .inr ?_, q.hi⟩
 rw [Nat.add_sub_cancel, show n - (c + 1) = n - 1 - c by omega]
 exact h.back hc (by omega) (by omega) (by omega) (by omega) ht
theorem Sea.down {cf : Nat → Nat → Int} {d : Nat → Nat} {a m b n s0 r0 s r T c : Nat} (h : Mg cf d a m b T) (q : Sea cf d n s0 r0 s r) (hs0 : a ≤ s0) (hr0 : r0 ≤ m) (hn : m + r0 ≤ n) (hb : n ≤ b + s0) (h1 : s ≤ c) (h2 : c < r) (ht : cf (d (n - 1 - c)) (d c) < 0) : Sea cf d n s0 r0 s c := by
 have := q.s0s
 have := q.rr0
 refine ⟨by omega, by omega, by omega, q.lo, .inr ?_⟩
 rw [show n - c - 1 = n - 1 - c by omega]
 exact (h.test (by omega) (by omega) (by omega) (by omega)).1 ht
theorem Sea.cut {cf : Nat → Nat → Int} {d : Nat → Nat} {a m b n s0 r0 s : Nat} (q : Sea cf d n s0 r0 s s) (hs0 : a ≤ s0) (hr0 : r0 ≤ m) (hn : m + r0 ≤ n) (hb : n ≤ b + s0) (e0 : s0 = a ∨ n = b + s0) (e1 : r0 = m ∨ n = m + r0) : Cutp cf d a m b n s :=
 Cutp.of hs0 q.s0s q.rr0 hr0 hn hb e0 e1 q.lo q.hi
/-- A turn takes no number in from without. -/
theorem rot_old (d : Nat → Nat) {a s m e b : Nat} (has : a ≤ s) (hsm : s ≤ m) (hme : m ≤ e) (heb : e ≤ b) : (∀ k, a ≤ k → k < b → ∃ j, a ≤ j ∧ j < b ∧ rot d s m e k = d j) ∧ ∀ k, ¬ (a ≤ k ∧ k < b) → rot d s m e k = d k := by
 refine ⟨fun k hk hkb => ?_, fun k hk => ?_⟩
 ·unfold rot
  split
  ·exact ⟨_, by omega, by omega, rfl⟩
  ·split
   ·exact ⟨_, by omega, by omega, rfl⟩
   ·exact ⟨k, hk, hkb, rfl⟩
 ·unfold rot
  rw [if_neg (by omega), if_neg (by omega)]
/-- Nothing to merge. -/
theorem Mout.left {cf : Nat → Nat → Int} {d : Nat → Nat} {a b : Nat} (h : Sor cf d a b) : Mout cf d d a b := ⟨h, fun k h1 h2 => ⟨k, h1, h2, rfl⟩, fun _ _ => rfl⟩
theorem Mg.trivL {cf : Nat → Nat → Int} {d : Nat → Nat} {a m b T : Nat} (h : Mg cf d a m b T) (e : m ≤ a ∨ b ≤ m) : Mout cf d d a b := by
 refine Mout.left fun x y hx hxy hy => ?_
 rcases e with e | e
 ·exact h.right x y (by omega) hxy hy
 ·exact h.left x y hx hxy (by omega)
end Go.Proofs.YtipokgedmfnlaaaGreatDoor

namespace Go.Proofs.YtipokgedmfnlaaaGreatDoor
open Go.RowKit Go.Lib
set_option maxRecDepth 100000

def MrgOut (w0 : World) (g n a b : Nat) (cf : Nat → Nat → Int) (d : Nat → Nat) (e : Ending) (w' : World) : Prop := e = .returned (.tuple #[]) ∧ ∃ d', Srt w0 g n d' w' ∧ Mout cf d d' a b
set_option maxHeartbeats 8000000 in
theorem symone_any (w0 : World) (g n cap a b T : Nat) (cf : Nat → Nat → Int) (hc : Cf cf) (c1 c2 c3 : Value) (d : Nat → Nat) (w : World) (h : Srt w0 g n d w) (hg : w0.heap.size ≤ g) (hcmp : CmpOk w0 n cf c1 c2 c3) (hab : a + 1 < b) (hbn : b ≤ n) (hn : n ≤ 1000000)
  (hm : Mg cf d a (a + 1) b T) (hd : ∀ k, k < n → d k < n) :
  Calls Tryz.prog 170 #[.slice (some ⟨g, 0, none⟩) n cap, .int .i64 (a : Int), .int .i64 ((a : Int) + 1), .int .i64 (b : Int), .func (.func 69) #[] #[c1, c2, c3]] w (MrgOut w0 g n a b cf d) := by
 have mixed : Tryz.prog.follows .mixedOrders = true := by kernel_rfl
 have HS := Lib.hid h
 have HC := Lib.hid hcmp
 have HCf := Lib.hid hc
 have HD := Lib.hid hd
 have HM := Lib.hid hm
 clear h hcmp hc hd hm
 go_enter Tryz.func170, Tryz.ntmps170
 have s1 : wrap64 ((a : Int) + 1 - (a : Int)) = 1 := by rw [IntWalk.wrap64_in _ (by omega)]; omega
 go_wp2_with fail
 clear s1
 go_loopw [10, 11, 12] (fun v u _ wr => ∃ i j : Nat, a + 1 ≤ i ∧ i ≤ j ∧ j ≤ b ∧ v = .int .i64 i ∧ u = .int .i64 j ∧ Srt w0 g n d wr ∧ (i = a + 1 ∨ LT cf (d (i - 1)) (d a)) ∧ (j = b ∨ LT cf (d a) (d j))) (fun v u _ _ => (intOf u).toNat - (intOf v).toNat)
 case atStart => exact ⟨a + 1, b, Nat.le_refl _, by omega, Nat.le_refl _, by go_num, rfl, HS.out, .inl rfl, .inl rfl⟩
 case round =>
  obtain ⟨i, j, hai, hij, hjb, rfl, rfl, hs, hlo, hhi⟩ := hrel
  have HS1 := Lib.hid hs
  have HLo := Lib.hid hlo
  have HHi := Lib.hid hhi
  clear hs hlo hhi
  by_cases hlt : i < j
  ·have hltI : (i : Int) < (j : Int) := by omega
   go_wp2_with fail
   obtain ⟨c, hcI⟩ : ∃ c : Nat, ((i : Int) + (j : Int)) / 2 = (c : Int) := ⟨(i + j) / 2, by omega⟩
   have hic : i ≤ c := by omega
   have hcj : c < j := by omega
   rw [hcI]
   clear hcI
   have hx : d c < n := HD.out c (by omega)
   have hy : d a < n := HD.out a (by omega)
   have b1 : (c : Int) < (n : Int) := by omega
   have b2 : (a : Int) < (n : Int) := by omega
   have HF := Lib.hid (show ∀ W, Ext wr W → W.cell? ⟨g, c, none⟩ = some (.int .i64 (d c : Int)) ∧ W.cell? ⟨g, a, none⟩ = some (.int .i64 (d a : Int)) from fun W hW => ⟨(HS1.out.ext hW).cell (by omega), (HS1.out.ext hW).cell (by omega)⟩)
   have KC := Lib.hid (fun (W : World) (hW : Ext wr W) => HC.out W (Ext.trans (HS1.out.toExt hg) hW) (d c) (d a) hx hy)
   have HUp := Lib.hid (fun hq : cf (d c) (d a) < 0 => (HM.out.test (x := a) (y := c) (Nat.le_refl _) (Nat.lt_succ_self _) (by omega) (by omega)).1 hq)
   have HDn := Lib.hid (fun hq : ¬ cf (d c) (d a) < 0 => HM.out.back HCf.out (x := a) (y := c) (Nat.le_refl _) (Nat.lt_succ_self _) (by omega) (by omega) hq)
   generalize hX : d c = X at HF KC HUp HDn hx
   generalize hY : d a = Y at HF KC HUp HDn hy
   refine wp_par 11 (fun
     | 0 => fun v _ => v = .func (.func 69) #[] #[c1, c2, c3]
     | 1 => fun v _ => v = .slice (some ⟨g, 0, none⟩) n cap
     | 2 => fun v _ => v = .int .i64 (c : Int)
     | 3 => fun v _ => v = .pointer (some ⟨g, c, none⟩)
     | 4 => fun v _ => v = .int .i64 (X : Int)
     | 5 => fun v _ => v = .slice (some ⟨g, 0, none⟩) n cap
     | 6 => fun v _ => v = .int .i64 (a : Int)
     | 7 => fun v _ => v = .pointer (some ⟨g, a, none⟩)
     | 8 => fun v _ => v = .int .i64 (Y : Int)
     | 9 => fun v _ => v = .int .i64 (cf X Y)
     | 10 => fun v _ => v = .bool (decide (cf X Y < 0))
     | _ => fun _ _ => True) (by kernel_rfl) (by kernel_rfl) (by kernel_rfl) ?_ ?_
   ·simp (maxSteps := 20000000) only [List.take_succ_cons, List.take_zero, ParAll, Act.put, List.setIfInBounds_toArray, List.set_cons_succ, List.set_cons_zero]
    refine ⟨?_, ?_, ?_, ?_, ?_, ?_, ?_, ?_, ?_, ?_, ?_, trivial⟩
    iterate 9
     next =>
      intro vals W hx hd
      have hW := HF.out W hx
      simp [PDeps, pdeps, Region.binds] at hd
      first
       | refine ParOb.plain rfl ?_
       | refine ParOb.wanted (by simp [Region.wanted, yielded, hd]) ?_
      go_simp
      exact ParPost.same fun _ _ => rfl
    ·intro vals W hx hd
     have hW := HF.out W hx
     simp [PDeps, pdeps, Region.binds] at hd
     first
      | refine ParOb.plain rfl ?_
      | refine ParOb.wanted (by simp [Region.wanted, yielded, hd]) ?_
     go_simp
     refine Calls.mono (KC.out W hx) ?_
     rintro e w9 ⟨rfl, hb9⟩
     exact ⟨_, rfl, hb9, fun _ _ => rfl⟩
    ·intro vals W hx hd
     have hW := HF.out W hx
     simp [PDeps, pdeps, Region.binds] at hd
     first
      | refine ParOb.plain rfl ?_
      | refine ParOb.wanted (by simp [Region.wanted, yielded, hd]) ?_
     go_simp
     exact ParPost.same fun _ _ => rfl
   intro vals W hx hf
   simp (maxSteps := 20000000) only [ParFacts, List.take_succ_cons, List.take_zero, and_true] at hf
   simp (maxSteps := 20000000) only [List.drop_succ_cons, List.drop_zero, List.take_succ_cons, List.take_zero, ParEnd, Act.put, List.setIfInBounds_toArray, List.set_cons_succ, List.set_cons_zero, hf]
   clear hf
   have HS2 := Lib.hid (HS1.out.ext hx)
   clear hx HF KC
   cases hlv : decide (cf X Y < 0)
   ·have hdn := Lib.hid (HDn.out (of_decide_eq_false hlv))
    go_wp2_with fail
    go_roundw
    case rel => exact ⟨i, c, hai, hic, by omega, rfl, rfl, HS2.out, HLo.out, .inr (by rw [hX, hY]; exact hdn.out)⟩
    case measure => simp [intOf]; omega
   ·have hup := Lib.hid (HUp.out (of_decide_eq_true hlv))
    go_wp2_with fail
    go_roundw
    case rel => exact ⟨c + 1, j, by omega, by omega, hjb, by go_num, rfl, HS2.out, .inr (by rw [Nat.add_sub_cancel, hX, hY]; exact hup.out), HHi.out⟩
    case measure => simp [intOf]; omega
  ·obtain rfl : i = j := by omega
   have HOne := Lib.hid (HM.out.one HCf.out hai hjb HLo.out HHi.out)
   clear HLo HHi
   go_wp2_with fail
   have s2 : wrap64 ((i : Int) - 1) = (i : Int) - 1 := IntWalk.wrap64_in _ (by omega)
   go_loopw [13] (fun v wr2 => ∃ k : Nat, a ≤ k ∧ k + 1 ≤ i ∧ v = .int .i64 k ∧ Srt w0 g n (rot d a (a + 1) (k + 1)) wr2) (fun v _ => i - (intOf v).toNat)
   case atStart => exact ⟨a, Nat.le_refl _, hai, rfl, by rw [rot_none]; exact HS1.out⟩
   case round =>
    obtain ⟨k, hak, hki, rfl, hs⟩ := hrel
    by_cases hlt2 : k + 1 < i
    ·have hlt2I : (k : Int) < (i : Int) - 1 := by omega
     have S3 := Lib.hid (hs.swap (i := k) (j := k + 1) (by omega) (by omega)).drew
     have ca := hs.cell (k := k) (by omega)
     have cb := hs.cell (k := k + 1) (by omega)
     have fa := hs.free k
     have fb := hs.free (k + 1)
     obtain ⟨u, cc⟩ := hs.two (i := k) (j := k + 1) (by omega) (.int .i64 (rot d a (a + 1) (k + 1) (k + 1) : Int))
     have hsw := Lib.hid (rot_up d a k hak)
     generalize rot d a (a + 1) (k + 1) k = X at ca S3
     generalize rot d a (a + 1) (k + 1) (k + 1) = Y at cb S3 cc
     have p0 : (0 : Int) ≤ (k : Int) + 1 := by omega
     have e0 : ((k : Int) + 1).toNat = k + 1 := by omega
     have b1 : (k : Int) + 1 < (n : Int) := by omega
     have b2 : (k : Int) < (n : Int) := by omega
     have w2 : IntKind.i64.wrap ((k : Int) + 1) = (k : Int) + 1 := by rw [IntKind.wrap_i64]; omega
     clear hs
     go_wp2_with fail
     go_big_region_o
     rw [hsw.out] at S3
     clear ca cb cc fa fb hsw
     generalize ((wr.setCell ⟨g, k, none⟩ (.int .i64 (Y : Int))).setCell ⟨g, k + 1, none⟩ (.int .i64 (X : Int))).drew = w3 at S3 ⊢
     go_wp2_with fail
     go_roundw
     case rel => exact ⟨k + 1, by omega, by omega, by go_num, S3.out⟩
     case measure => simp [intOf]; omega
    ·have hlt2I : ¬ (k : Int) < (i : Int) - 1 := by omega
     obtain rfl : i = k + 1 := by omega
     have HS2 := Lib.hid hs
     clear hs
     go_wp2_with fail
     go_end0
     exact ⟨rfl, _, HS2.out, HOne.out⟩
end Go.Proofs.YtipokgedmfnlaaaGreatDoor

namespace Go.Proofs.YtipokgedmfnlaaaGreatDoor
open Go.RowKit Go.Lib
set_option maxRecDepth 100000

set_option maxHeartbeats 8000000 in
theorem symlast_any (w0 : World) (g n cap a m T : Nat) (cf : Nat → Nat → Int) (hc : Cf cf) (c1 c2 c3 : Value) (d : Nat → Nat) (w : World) (h : Srt w0 g n d w) (hg : w0.heap.size ≤ g) (hcmp : CmpOk w0 n cf c1 c2 c3) (ham : a + 1 < m) (hbn : m + 1 ≤ n) (hn : n ≤ 1000000)
  (hm : Mg cf d a m (m + 1) T) (hd : ∀ k, k < n → d k < n) :
  Calls Tryz.prog 170 #[.slice (some ⟨g, 0, none⟩) n cap, .int .i64 (a : Int), .int .i64 (m : Int), .int .i64 ((m : Int) + 1), .func (.func 69) #[] #[c1, c2, c3]] w (MrgOut w0 g n a (m + 1) cf d) := by
 have mixed : Tryz.prog.follows .mixedOrders = true := by kernel_rfl
 have HS := Lib.hid h
 have HC := Lib.hid hcmp
 have HCf := Lib.hid hc
 have HD := Lib.hid hd
 have HM := Lib.hid hm
 clear h hcmp hc hd hm
 go_enter Tryz.func170, Tryz.ntmps170
 have s1 : wrap64 ((m : Int) - (a : Int)) = (m : Int) - (a : Int) := IntWalk.wrap64_in _ (by omega)
 have s2 : ((m : Int) - (a : Int) == 1) = false := by
  rw [beq_eq_false_iff_ne]; omega
 have s3 : wrap64 ((m : Int) + 1 - (m : Int)) = 1 := by rw [IntWalk.wrap64_in _ (by omega)]; omega
 go_wp2_with fail
 clear s1 s2 s3
 go_loopw [14, 15, 16] (fun v u _ wr => ∃ i j : Nat, a ≤ i ∧ i ≤ j ∧ j ≤ m ∧ v = .int .i64 i ∧ u = .int .i64 j ∧ Srt w0 g n d wr ∧ (i = a ∨ LT cf (d (i - 1)) (d m)) ∧ (j = m ∨ LT cf (d m) (d j))) (fun v u _ _ => (intOf u).toNat - (intOf v).toNat)
 case atStart => exact ⟨a, m, Nat.le_refl _, by omega, Nat.le_refl _, rfl, rfl, HS.out, .inl rfl, .inl rfl⟩
 case round =>
  obtain ⟨i, j, hai, hij, hjb, rfl, rfl, hs, hlo, hhi⟩ := hrel
  have HS1 := Lib.hid hs
  have HLo := Lib.hid hlo
  have HHi := Lib.hid hhi
  clear hs hlo hhi
  by_cases hlt : i < j
  ·have hltI : (i : Int) < (j : Int) := by omega
   go_wp2_with fail
   obtain ⟨c, hcI⟩ : ∃ c : Nat, ((i : Int) + (j : Int)) / 2 = (c : Int) := ⟨(i + j) / 2, by omega⟩
   have hic : i ≤ c := by omega
   have hcj : c < j := by omega
   rw [hcI]
   clear hcI
   have hx : d m < n := HD.out m (by omega)
   have hy : d c < n := HD.out c (by omega)
   have b1 : (c : Int) < (n : Int) := by omega
   have b2 : (m : Int) < (n : Int) := by omega
   have HF := Lib.hid (show ∀ W, Ext wr W → W.cell? ⟨g, c, none⟩ = some (.int .i64 (d c : Int)) ∧ W.cell? ⟨g, m, none⟩ = some (.int .i64 (d m : Int)) from fun W hW => ⟨(HS1.out.ext hW).cell (by omega), (HS1.out.ext hW).cell (by omega)⟩)
   have KC := Lib.hid (fun (W : World) (hW : Ext wr W) => HC.out W (Ext.trans (HS1.out.toExt hg) hW) (d m) (d c) hx hy)
   have HUp := Lib.hid (fun hq : cf (d m) (d c) < 0 => (HM.out.test (x := c) (y := m) (by omega) (by omega) (Nat.le_refl _) (Nat.lt_succ_self _)).1 hq)
   have HDn := Lib.hid (fun hq : ¬ cf (d m) (d c) < 0 => HM.out.back HCf.out (x := c) (y := m) (by omega) (by omega) (Nat.le_refl _) (Nat.lt_succ_self _) hq)
   generalize hX : d m = X at HF KC HUp HDn hx
   generalize hY : d c = Y at HF KC HUp HDn hy
   refine wp_par 12 (fun
     | 0 => fun v _ => v = .func (.func 69) #[] #[c1, c2, c3]
     | 1 => fun v _ => v = .slice (some ⟨g, 0, none⟩) n cap
     | 2 => fun v _ => v = .int .i64 (m : Int)
     | 3 => fun v _ => v = .pointer (some ⟨g, m, none⟩)
     | 4 => fun v _ => v = .int .i64 (X : Int)
     | 5 => fun v _ => v = .slice (some ⟨g, 0, none⟩) n cap
     | 6 => fun v _ => v = .int .i64 (c : Int)
     | 7 => fun v _ => v = .pointer (some ⟨g, c, none⟩)
     | 8 => fun v _ => v = .int .i64 (Y : Int)
     | 9 => fun v _ => v = .int .i64 (cf X Y)
     | 10 => fun v _ => v = .bool (decide (cf X Y < 0))
     | 11 => fun v _ => v = .bool (!decide (cf X Y < 0))
     | _ => fun _ _ => True) (by kernel_rfl) (by kernel_rfl) (by kernel_rfl) ?_ ?_
   ·simp (maxSteps := 20000000) only [List.take_succ_cons, List.take_zero, ParAll, Act.put, List.setIfInBounds_toArray, List.set_cons_succ, List.set_cons_zero]
    refine ⟨?_, ?_, ?_, ?_, ?_, ?_, ?_, ?_, ?_, ?_, ?_, ?_, trivial⟩
    iterate 9
     next =>
      intro vals W hx hd
      have hW := HF.out W hx
      simp [PDeps, pdeps, Region.binds] at hd
      first
       | refine ParOb.plain rfl ?_
       | refine ParOb.wanted (by simp [Region.wanted, yielded, hd]) ?_
      go_simp
      exact ParPost.same fun _ _ => rfl
    ·intro vals W hx hd
     have hW := HF.out W hx
     simp [PDeps, pdeps, Region.binds] at hd
     first
      | refine ParOb.plain rfl ?_
      | refine ParOb.wanted (by simp [Region.wanted, yielded, hd]) ?_
     go_simp
     refine Calls.mono (KC.out W hx) ?_
     rintro e w9 ⟨rfl, hb9⟩
     exact ⟨_, rfl, hb9, fun _ _ => rfl⟩
    iterate 2
     next =>
      intro vals W hx hd
      have hW := HF.out W hx
      simp [PDeps, pdeps, Region.binds] at hd
      first
       | refine ParOb.plain rfl ?_
       | refine ParOb.wanted (by simp [Region.wanted, yielded, hd]) ?_
      go_simp
      exact ParPost.same fun _ _ => rfl
   intro vals W hx hf
   simp (maxSteps := 20000000) only [ParFacts, List.take_succ_cons, List.take_zero, and_true] at hf
   simp (maxSteps := 20000000) only [List.drop_succ_cons, List.drop_zero, List.take_succ_cons, List.take_zero, ParEnd, Act.put, List.setIfInBounds_toArray, List.set_cons_succ, List.set_cons_zero, hf]
   clear hf
   have HS2 := Lib.hid (HS1.out.ext hx)
   clear hx HF KC
   cases hlv : decide (cf X Y < 0)
   ·have hdn := Lib.hid (HDn.out (of_decide_eq_false hlv))
    go_wp2_with fail
    go_roundw
    case rel => exact ⟨c + 1, j, by omega, by omega, hjb, by go_num, rfl, HS2.out, .inr (by rw [Nat.add_sub_cancel, hX, hY]; exact hdn.out), HHi.out⟩
    case measure => simp [intOf]; omega
   ·have hup := Lib.hid (HUp.out (of_decide_eq_true hlv))
    go_wp2_with fail
    go_roundw
    case rel => exact ⟨i, c, hai, hic, by omega, rfl, rfl, HS2.out, HLo.out, .inr (by rw [hX, hY]; exact hup.out)⟩
    case measure => simp [intOf]; omega
  ·obtain rfl : i = j := by omega
   have HOne := Lib.hid (HM.out.last HCf.out (by omega) hai hjb HLo.out HHi.out)
   clear HLo HHi
   go_wp2_with fail
   go_loopw [17] (fun v wr2 => ∃ k : Nat, i ≤ k ∧ k ≤ m ∧ v = .int .i64 k ∧ Srt w0 g n (rot d k m (m + 1)) wr2) (fun v _ => (intOf v).toNat)
   case atStart => exact ⟨m, hjb, Nat.le_refl _, rfl, by rw [rot_none']; exact HS1.out⟩
   case round =>
    obtain ⟨k, hak, hki, rfl, hs⟩ := hrel
    by_cases hlt2 : i < k
    ·obtain ⟨kp, rfl⟩ : ∃ q, k = q + 1 := ⟨k - 1, by omega⟩
     have hlt2I : (i : Int) < (kp : Int) + 1 := by omega
     have S3 := Lib.hid (hs.swap (i := kp + 1) (j := kp) (by omega) (by omega)).drew
     have ca := hs.cell (k := kp + 1) (by omega)
     have cb := hs.cell (k := kp) (by omega)
     have fa := hs.free (kp + 1)
     have fb := hs.free kp
     obtain ⟨u, cc⟩ := hs.two (i := kp + 1) (j := kp) (by omega) (.int .i64 (rot d (kp + 1) m (m + 1) kp : Int))
     have hsw := Lib.hid (rot_down d m kp (by omega))
     generalize rot d (kp + 1) m (m + 1) (kp + 1) = X at ca S3
     generalize rot d (kp + 1) m (m + 1) kp = Y at cb S3 cc
     have p0 : (0 : Int) ≤ (kp : Int) + 1 := by omega
     have e0 : ((kp : Int) + 1).toNat = kp + 1 := by omega
     have b1 : (kp : Int) + 1 < (n : Int) := by omega
     have b2 : (kp : Int) < (n : Int) := by omega
     have w2 : IntKind.i64.wrap (kp : Int) = (kp : Int) := by rw [IntKind.wrap_i64]; omega
     clear hs
     go_wp2_with fail
     go_big_region_o
     rw [hsw.out] at S3
     clear ca cb cc fa fb hsw
     generalize ((wr.setCell ⟨g, kp + 1, none⟩ (.int .i64 (Y : Int))).setCell ⟨g, kp, none⟩ (.int .i64 (X : Int))).drew = w3 at S3 ⊢
     go_wp2_with fail
     go_roundw
     case rel => exact ⟨kp, by omega, by omega, by go_num, S3.out⟩
     case measure => simp [intOf]
    ·have hlt2I : ¬ (i : Int) < (k : Int) := by omega
     obtain rfl : i = k := by omega
     have HS2 := Lib.hid hs
     clear hs
     go_wp2_with fail
     go_end0
     exact ⟨rfl, _, HS2.out, HOne.out⟩
end Go.Proofs.YtipokgedmfnlaaaGreatDoor

namespace Go.Proofs.YtipokgedmfnlaaaGreatDoor
open Go.RowKit Go.Lib
set_option maxRecDepth 100000

theorem Mg.like {cf : Nat → Nat → Int} {d d' : Nat → Nat} {a m b T : Nat} (h : Mg cf d a m b T) (e : ∀ k, a ≤ k → k < b → d' k = d k) (ham : a ≤ m) (hmb : m ≤ b) : Mg cf d' a m b T :=
 ⟨fun x y h1 h2 h3 => by rw [e x h1 (by omega), e y (by omega) (by omega)]; exact h.left x y h1 h2 h3, fun x y h1 h2 h3 => by rw [e x (by omega) (by omega), e y (by omega) h3]; exact h.right x y h1 h2 h3,
  fun k h1 h2 => by rw [e k h1 (by omega)]; exact h.low k h1 h2, fun k h1 h2 => by rw [e k (by omega) h2]; exact h.high k h1 h2⟩
/-- What is left to do behind the turn. -/
structure Two (cf : Nat → Nat → Int) (d d1 : Nat → Nat) (a s mid e b T n : Nat) : Prop where
 one : Mg cf d1 a s mid T
 two : Mg cf d1 mid e b T
 join : ∀ d2 d3, Mout cf d1 d2 a mid → Mout cf d2 d3 mid b → Mout cf d d3 a b
 small : ∀ k, k < n → d1 k < n
 sa : a ≤ s
 smid : s ≤ mid
 mide : mid ≤ e
 eb : e ≤ b
theorem Mg.two_of {cf : Nat → Nat → Int} (hc : Cf cf) {d : Nat → Nat} {a m b s mid T n : Nat} (h : Mg cf d a m b T) (c : Cutp cf d a m b (mid + m) s) (ham : a < m) (hmb : m < b) (hmid : a < mid) (hmidb : mid ≤ b) (hbn : b ≤ n) (hd : ∀ k, k < n → d k < n) :
  Two cf d (rot d s m (mid + m - s)) a s mid (mid + m - s) b T n := by
 have h1 := h.half1 c
 have h2 := h.half2 c
 have h3 := c.apart hc h ham hmb (by omega)
 have e1 := c.sa
 have e2 := c.sm
 have e3 := c.se
 have e4 := c.eb
 obtain ⟨h4, h5⟩ := rot_old d (a := a) (s := s) (m := m) (e := mid + m - s) (b := b) e1 e2 (by omega) (by omega)
 rw [Nat.add_sub_cancel] at h1 h2 h3
 refine ⟨h1, h2, fun d2 d3 k1 k2 => k1.join k2 (by omega) hmidb h3 h4 h5, fun k hk => ?_, e1, by omega, by omega, by omega⟩
 by_cases hin : a ≤ k ∧ k < b
 ·obtain ⟨j, _, j2, j3⟩ := h4 k hin.1 hin.2
  rw [j3]; exact hd j (by omega)
 ·rw [h5 k hin]; exact hd k hk
theorem Mout.small {cf : Nat → Nat → Int} {d d' : Nat → Nat} {a b n : Nat} (h : Mout cf d d' a b) (hbn : b ≤ n) (hd : ∀ k, k < n → d k < n) : ∀ k, k < n → d' k < n := by
 intro k hk
 by_cases hin : a ≤ k ∧ k < b
 ·obtain ⟨j, _, j2, j3⟩ := h.old k hin.1 hin.2
  rw [j3]; exact hd j (by omega)
 ·rw [h.out k hin]; exact hd k hk
/-- symMerge at up to N numbers. -/
def SymAt (w0 : World) (g n cap : Nat) (cf : Nat → Nat → Int) (c1 c2 c3 : Value) (N : Nat) : Prop :=
 ∀ (a m b T : Nat) (d : Nat → Nat) (w : World) (A M B : Int), A = a → M = m → B = b → b - a ≤ N → Srt w0 g n d w → a < m → m < b → b ≤ n → Mg cf d a m b T → (∀ k, k < n → d k < n) →
  Calls Tryz.prog 170 #[.slice (some ⟨g, 0, none⟩) n cap, .int .i64 A, .int .i64 M, .int .i64 B, .func (.func 69) #[] #[c1, c2, c3]] w (MrgOut w0 g n a b cf d)
theorem rotate_z (w0 : World) (g n cap a m b : Nat) (A M B : Int) (fv : Value) (d : Nat → Nat) (w : World) (h : Srt w0 g n d w) (hA : A = a) (hM : M = m) (hB : B = b) (ham : a < m) (hmb : m < b) (hbn : b ≤ n) (hn : n ≤ 1000000) :
  Calls Tryz.prog 220 #[.slice (some ⟨g, 0, none⟩) n cap, .int .i64 A, .int .i64 M, .int .i64 B, fv] w fun e w' => e = .returned (.tuple #[]) ∧ Srt w0 g n (rot d a m b) w' := by
 subst hA hM hB
 exact rotate_any w0 g n cap a m b fv d w h ham hmb hbn hn
set_option maxHeartbeats 8000000 in
theorem symmain_any (w0 : World) (g n cap a m b T N : Nat) (cf : Nat → Nat → Int) (hc : Cf cf) (c1 c2 c3 : Value) (d : Nat → Nat) (w : World) (hrec : SymAt w0 g n cap cf c1 c2 c3 N) (hN : b - a ≤ N + 1) (h : Srt w0 g n d w) (hg : w0.heap.size ≤ g) (hcmp : CmpOk w0 n cf c1 c2 c3) (ham : a + 1 < m) (hmb : m + 1 < b) (hbn : b ≤ n) (hn : n ≤ 1000000)
  (hm : Mg cf d a m b T) (hd : ∀ k, k < n → d k < n) :
  Calls Tryz.prog 170 #[.slice (some ⟨g, 0, none⟩) n cap, .int .i64 (a : Int), .int .i64 (m : Int), .int .i64 (b : Int), .func (.func 69) #[] #[c1, c2, c3]] w (MrgOut w0 g n a b cf d) := by
 have mixed : Tryz.prog.follows .mixedOrders = true := by kernel_rfl
 have HS := Lib.hid h
 have HC := Lib.hid hcmp
 have HCf := Lib.hid hc
 have HD := Lib.hid hd
 have HM := Lib.hid hm
 have HR := Lib.hid hrec
 clear h hcmp hc hd hm hrec
 go_enter Tryz.func170, Tryz.ntmps170
 have s1 : wrap64 ((m : Int) - (a : Int)) = (m : Int) - (a : Int) := IntWalk.wrap64_in _ (by omega)
 have s2 : ((m : Int) - (a : Int) == 1) = false := by
  rw [beq_eq_false_iff_ne]; omega
 have s3 : wrap64 ((b : Int) - (m : Int)) = (b : Int) - (m : Int) := IntWalk.wrap64_in _ (by omega)
 have s4 : ((b : Int) - (m : Int) == 1) = false := by
  rw [beq_eq_false_iff_ne]; omega
 go_upto_region 25 with (fail)
 clear s1 s2 s3 s4
 obtain ⟨mid, hmid0⟩ : ∃ mid : Nat, mid = (a + b) / 2 := ⟨_, rfl⟩
 have hmidI : ((a : Int) + (b : Int)) / 2 = (mid : Int) := by omega
 have ha1 : a + 1 < mid := by omega
 have hb1 : mid + 1 < b := by omega
 have hab : 2 * mid ≤ a + b ∧ a + b ≤ 2 * mid + 1 := by omega
 rw [hmidI]
 clear hmidI hmid0
 go_upto_region 27 with (fail)
 obtain ⟨Z, hZ⟩ : ∃ Z : Nat, Z ≤ mid + m ∧ mid + m ≤ Z := ⟨_, Nat.le_refl _, Nat.le_refl _⟩
 have hZI : (mid : Int) + (m : Int) = (Z : Int) := by omega
 rw [hZI]
 clear hZI
 go_upto_if 140 with (fail)
 go_cut [20, 21] from 25 (fun s r wx => (∃ s0 r0 : Nat, s = .int .i64 s0 ∧ r = .int .i64 r0 ∧ a ≤ s0 ∧ s0 ≤ r0 ∧ r0 ≤ m ∧ m + r0 ≤ Z ∧ Z ≤ b + s0 ∧ (s0 = a ∨ Z = b + s0) ∧ (r0 = m ∨ Z = m + r0)) ∧ wx = w)
 case first =>
  as_aux_lemma =>
   by_cases hmm : mid < m
   ·have hmmI : (mid : Int) < (m : Int) := by omega
    go_wp2_with fail
    go_meet
    case rel => exact ⟨⟨Z - b, mid, by congr 1; omega, rfl, by omega, by omega, by omega, by omega, by omega, by omega, by omega⟩, rfl⟩
   ·have hmmI : ¬ (mid : Int) < (m : Int) := by omega
    go_wp2_with fail
    go_meet
    case rel => exact ⟨⟨a, m, rfl, rfl, by omega, by omega, by omega, by omega, by omega, .inl rfl, .inl rfl⟩, rfl⟩
 case rest =>
  as_aux_lemma =>
   obtain ⟨⟨s0, r0, rfl, rfl, q1, q2, q3, q4, q5, q6, q7⟩, rfl⟩ := hcut
   have s5 : wrap64 ((Z : Int) - 1) = (Z : Int) - 1 := IntWalk.wrap64_in _ (by omega)
   go_wp2_with fail
   clear s5
   go_loopw [20, 21, 23] (fun v u _ wr => ∃ i j : Nat, v = .int .i64 i ∧ u = .int .i64 j ∧ Srt w0 g n d wr ∧ Sea cf d Z s0 r0 i j) (fun v u _ _ => (intOf u).toNat - (intOf v).toNat)
   case atStart => exact ⟨s0, r0, rfl, rfl, HS.out, ⟨Nat.le_refl _, q2, Nat.le_refl _, .inl rfl, .inl rfl⟩⟩
   case round =>
    obtain ⟨i, j, rfl, rfl, hs, hsea⟩ := hrel
    have k1 := hsea.s0s
    have k2 := hsea.sr
    have k3 := hsea.rr0
    have HS1 := Lib.hid hs
    have HSea := Lib.hid hsea
    clear hs hsea
    by_cases hlt : i < j
    ·have hltI : (i : Int) < (j : Int) := by omega
     go_wp2_with fail
     obtain ⟨c, hcI⟩ : ∃ c : Nat, ((i : Int) + (j : Int)) / 2 = (c : Int) := ⟨(i + j) / 2, by omega⟩
     have hic : i ≤ c := by omega
     have hcj : c < j := by omega
     rw [hcI]
     clear hcI
     have hx : d (Z - 1 - c) < n := HD.out _ (by omega)
     have hy : d c < n := HD.out c (by omega)
     have b1 : (c : Int) < (n : Int) := by omega
     have e2 : ((Z : Int) - 1 - (c : Int)).toNat = Z - 1 - c := by omega
     have e3 : (c : Int) ≤ (Z : Int) - 1 := by omega
     have e4 : (Z : Int) - 1 - (c : Int) < (n : Int) := by omega
     have e5 : IntKind.i64.wrap ((Z : Int) - 1 - (c : Int)) = (Z : Int) - 1 - (c : Int) := by rw [IntKind.wrap_i64]; omega
     have HF := Lib.hid (show ∀ W, Ext wr W → W.cell? ⟨g, Z - 1 - c, none⟩ = some (.int .i64 (d (Z - 1 - c) : Int)) ∧ W.cell? ⟨g, c, none⟩ = some (.int .i64 (d c : Int)) from fun W hW => ⟨(HS1.out.ext hW).cell (by omega), (HS1.out.ext hW).cell (by omega)⟩)
     have KC := Lib.hid (fun (W : World) (hW : Ext wr W) => HC.out W (Ext.trans (HS1.out.toExt hg) hW) (d (Z - 1 - c)) (d c) hx hy)
     have HUp := Lib.hid (fun hq : cf (d (Z - 1 - c)) (d c) < 0 => HSea.out.down HM.out q1 q3 q4 q5 hic hcj hq)
     have HDn := Lib.hid (fun hq : ¬ cf (d (Z - 1 - c)) (d c) < 0 => HSea.out.up HCf.out HM.out q1 q3 q4 q5 hic hcj hq)
     generalize hX : d (Z - 1 - c) = X at HF KC HUp HDn hx
     generalize hY : d c = Y at HF KC HUp HDn hy
     refine wp_par 14 (fun
       | 0 => fun v _ => v = .func (.func 69) #[] #[c1, c2, c3]
       | 1 => fun v _ => v = .slice (some ⟨g, 0, none⟩) n cap
       | 2 => fun v _ => v = .int .i64 ((Z : Int) - 1)
       | 3 => fun v _ => v = .int .i64 (c : Int)
       | 4 => fun v _ => v = .int .i64 ((Z : Int) - 1 - (c : Int))
       | 5 => fun v _ => v = .pointer (some ⟨g, Z - 1 - c, none⟩)
       | 6 => fun v _ => v = .int .i64 (X : Int)
       | 7 => fun v _ => v = .slice (some ⟨g, 0, none⟩) n cap
       | 8 => fun v _ => v = .int .i64 (c : Int)
       | 9 => fun v _ => v = .pointer (some ⟨g, c, none⟩)
       | 10 => fun v _ => v = .int .i64 (Y : Int)
       | 11 => fun v _ => v = .int .i64 (cf X Y)
       | 12 => fun v _ => v = .bool (decide (cf X Y < 0))
       | 13 => fun v _ => v = .bool (!decide (cf X Y < 0))
       | _ => fun _ _ => True) (by kernel_rfl) (by kernel_rfl) (by kernel_rfl) ?_ ?_
     ·simp (maxSteps := 20000000) only [List.take_succ_cons, List.take_zero, ParAll, Act.put, List.setIfInBounds_toArray, List.set_cons_succ, List.set_cons_zero]
      refine ⟨?_, ?_, ?_, ?_, ?_, ?_, ?_, ?_, ?_, ?_, ?_, ?_, ?_, ?_, trivial⟩
      iterate 11
       next =>
        intro vals W hx hd
        have hW := HF.out W hx
        simp [PDeps, pdeps, Region.binds] at hd
        first
         | refine ParOb.plain rfl ?_
         | refine ParOb.wanted (by simp [Region.wanted, yielded, hd]) ?_
        go_simp
        exact ParPost.same fun _ _ => rfl
      ·intro vals W hx hd
       have hW := HF.out W hx
       simp [PDeps, pdeps, Region.binds] at hd
       first
        | refine ParOb.plain rfl ?_
        | refine ParOb.wanted (by simp [Region.wanted, yielded, hd]) ?_
       go_simp
       refine Calls.mono (KC.out W hx) ?_
       rintro e w9 ⟨rfl, hb9⟩
       exact ⟨_, rfl, hb9, fun _ _ => rfl⟩
      iterate 2
       next =>
        intro vals W hx hd
        have hW := HF.out W hx
        simp [PDeps, pdeps, Region.binds] at hd
        first
         | refine ParOb.plain rfl ?_
         | refine ParOb.wanted (by simp [Region.wanted, yielded, hd]) ?_
        go_simp
        exact ParPost.same fun _ _ => rfl
     intro vals W hx hf
     simp (maxSteps := 20000000) only [ParFacts, List.take_succ_cons, List.take_zero, and_true] at hf
     simp (maxSteps := 20000000) only [List.drop_succ_cons, List.drop_zero, List.take_succ_cons, List.take_zero, ParEnd, Act.put, List.setIfInBounds_toArray, List.set_cons_succ, List.set_cons_zero, hf]
     clear hf
     have HS2 := Lib.hid (HS1.out.ext hx)
     clear hx HF KC e2 e3 e4 e5
     cases hlv : decide (cf X Y < 0)
     ·have hdn := Lib.hid (HDn.out (of_decide_eq_false hlv))
      clear HUp HDn
      go_wp2_with fail
      go_roundw
      case rel => exact ⟨c + 1, j, by go_num, rfl, HS2.out, hdn.out⟩
      case measure => simp [intOf]; omega
     ·have hup := Lib.hid (HUp.out (of_decide_eq_true hlv))
      clear HUp HDn
      go_wp2_with fail
      go_roundw
      case rel => exact ⟨i, c, rfl, rfl, HS2.out, hup.out⟩
      case measure => simp [intOf]; omega
    ·obtain rfl : i = j := by omega
     have hcut2 := HSea.out.cut q1 q3 q4 q5 q6 q7
     have hZe : Z = mid + m := by omega
     have htwo := hZe ▸ hcut2
     have HTwo := Lib.hid (HM.out.two_of HCf.out htwo (by omega) (by omega) (by omega) (by omega) hbn HD.out)
     rw [← hZe] at HTwo
     have c1' := hcut2.sa
     have c2' := hcut2.sm
     have c3' := hcut2.se
     have c4' := hcut2.eb
     clear hcut2 hZe htwo HSea
     have s6 : wrap64 ((Z : Int) - (i : Int)) = (Z : Int) - (i : Int) := IntWalk.wrap64_in _ (by omega)
     obtain ⟨E, hE⟩ : ∃ E : Nat, E = Z - i := ⟨_, rfl⟩
     rw [← hE] at HTwo
     have hEI : (Z : Int) - (i : Int) = (E : Int) := by omega
     have hE1 : E ≤ Z - i := by omega
     have hE2 : Z - i ≤ E := by omega
     clear hE
     go_upto_region 39 with (fail)
     clear hEI s6 q1 q2 q3 q4 q5 q6 q7 k1 k2 k3 hlt
     have HD1 := Lib.hid HTwo.out.small
     go_cut [185] from 25 (fun v wx => (∃ B : Bool, v = .bool B ∧ (B = true → i < m ∧ m < E) ∧ (B = false → ¬ (i < m ∧ m < E))) ∧ wx = wr)
     case first =>
      as_aux_lemma =>
       by_cases h1 : i < m
       ·have h1I : (i : Int) < (m : Int) := by omega
        by_cases h2 : m < E
        ·have h2I : (m : Int) < (E : Int) := by omega
         go_wp2_with fail
         go_meet
         case rel => exact ⟨⟨true, rfl, fun _ => ⟨h1, h2⟩, fun h => by cases h⟩, rfl⟩
        ·have h2I : ¬ (m : Int) < (E : Int) := by omega
         go_wp2_with fail
         go_meet
         case rel => exact ⟨⟨false, rfl, fun h => (by cases h), fun _ h => h2 h.2⟩, rfl⟩
       ·have h1I : ¬ (i : Int) < (m : Int) := by omega
        go_wp2_with fail
        go_meet
        case rel => exact ⟨⟨false, rfl, fun h => (by cases h), fun _ h => h1 h.1⟩, rfl⟩
     case rest =>
      as_aux_lemma =>
       obtain ⟨⟨B, rfl, hBt, hBf⟩, rfl⟩ := hcut
       go_upto_if 185 with (fail)
       go_cut [] from 25 (fun wx => Srt w0 g n (rot d i m E) wx)
       case first =>
        as_aux_lemma =>
         cases B
         ·have hno := hBf rfl
          clear hBt hBf
          go_wp2_with fail
          go_meet
          case rel =>
           have he : rot d i m E = d := by
            by_cases h1 : i < m
            ·rw [show E = m by omega]; exact rot_none d i m
            ·rw [show i = m by omega]; exact rot_none' d m E
           rw [he]; exact HS1.out
         ·have hyes := hBt rfl
          clear hBt hBf
          go_wp2_with fail
          refine Calls.mono (rotate_z w0 g n cap i m E _ _ _ _ d wc HS1.out rfl rfl rfl hyes.1 hyes.2 (by omega) hn) ?_
          rintro e w2 ⟨rfl, h2⟩
          have H2 := Lib.hid h2
          clear h2
          go_wp2_with fail
          go_meet
          case rel => exact H2.out
       case rest =>
        as_aux_lemma =>
         have HSR := Lib.hid hcut
         clear hcut HS1 hBt hBf HS HM HD
         generalize hd1 : rot d i m E = d1 at HTwo HSR HD1
         clear hd1
         have t1 := HTwo.out.sa
         have t2 := HTwo.out.smid
         have t3 := HTwo.out.mide
         have t4 := HTwo.out.eb
         go_upto_region 41 with (fail)
         go_cut [199] from 25 (fun v wx => (∃ B : Bool, v = .bool B ∧ (B = true → a < i ∧ i < mid) ∧ (B = false → ¬ (a < i ∧ i < mid))) ∧ wx = wc)
         case first =>
          as_aux_lemma =>
           by_cases h1 : a < i
           ·have h1I : (a : Int) < (i : Int) := by omega
            by_cases h2 : i < mid
            ·have h2I : (i : Int) < (mid : Int) := by omega
             go_wp2_with fail
             go_meet
             case rel => exact ⟨⟨true, rfl, fun _ => ⟨h1, h2⟩, fun h => by cases h⟩, rfl⟩
            ·have h2I : ¬ (i : Int) < (mid : Int) := by omega
             go_wp2_with fail
             go_meet
             case rel => exact ⟨⟨false, rfl, fun h => (by cases h), fun _ h => h2 h.2⟩, rfl⟩
           ·have h1I : ¬ (a : Int) < (i : Int) := by omega
            go_wp2_with fail
            go_meet
            case rel => exact ⟨⟨false, rfl, fun h => (by cases h), fun _ h => h1 h.1⟩, rfl⟩
         case rest =>
          as_aux_lemma =>
           obtain ⟨⟨B2, rfl, hBt, hBf⟩, rfl⟩ := hcut
           go_upto_if 199 with (fail)
           go_cut [] from 25 (fun wx => ∃ d2, Srt w0 g n d2 wx ∧ Mout cf d1 d2 a mid)
           case first =>
            as_aux_lemma =>
             cases B2
             ·have hno := hBf rfl
              clear hBt hBf
              go_wp2_with fail
              go_meet
              case rel => exact ⟨d1, HSR.out, HTwo.out.one.trivL (by omega)⟩
             ·have hyes := hBt rfl
              clear hBt hBf
              go_wp2_with fail
              refine Calls.mono (HR.out a i mid T d1 wc _ _ _ rfl rfl rfl (by omega) HSR.out hyes.1 hyes.2 (by omega) HTwo.out.one HD1.out) ?_
              rintro e w2 ⟨rfl, d2, h2, h3⟩
              have H2 := Lib.hid h2
              have H3 := Lib.hid h3
              clear h2 h3
              go_wp2_with fail
              go_meet
              case rel => exact ⟨d2, H2.out, H3.out⟩
           case rest =>
            as_aux_lemma =>
             obtain ⟨d2, h2, h3⟩ := hcut
             have H2 := Lib.hid h2
             have H3 := Lib.hid h3
             clear h2 h3 hBt hBf HSR
             by_cases hyes : mid < E ∧ E < b
             ·have y1 : (mid : Int) < (E : Int) := by omega
              have y2 : (E : Int) < (b : Int) := by omega
              go_wp2_with fail
              refine Calls.mono (HR.out mid E b T d2 wc _ _ _ rfl rfl rfl (by omega) H2.out hyes.1 hyes.2 (by omega) (HTwo.out.two.like (fun k h4 h5 => H3.out.out k (by omega)) (by omega) (by omega)) (H3.out.small (by omega) HD1.out)) ?_
              rintro e w3 ⟨rfl, d3, h4, h5⟩
              have H4 := Lib.hid h4
              have H5 := Lib.hid h5
              clear h4 h5
              go_wp2_with fail
              go_end0
              exact ⟨rfl, d3, H4.out, HTwo.out.join d2 d3 H3.out H5.out⟩
             ·have H5 := Lib.hid ((HTwo.out.two.like (d' := d2) (fun k h4 h5 => H3.out.out k (by omega)) (by omega) (by omega)).trivL (by omega))
              by_cases y1 : mid < E
              ·have y1I : (mid : Int) < (E : Int) := by omega
               have y2 : ¬ (E : Int) < (b : Int) := by omega
               go_wp2_with fail
               go_end0
               exact ⟨rfl, d2, H2.out, HTwo.out.join d2 d2 H3.out H5.out⟩
              ·have y1I : ¬ (mid : Int) < (E : Int) := by omega
               go_wp2_with fail
               go_end0
               exact ⟨rfl, d2, H2.out, HTwo.out.join d2 d2 H3.out H5.out⟩
theorem symmerge_any (w0 : World) (g n cap : Nat) (cf : Nat → Nat → Int) (hc : Cf cf) (c1 c2 c3 : Value) (hg : w0.heap.size ≤ g) (hcmp : CmpOk w0 n cf c1 c2 c3) (hn : n ≤ 1000000) : ∀ N, SymAt w0 g n cap cf c1 c2 c3 N
 | 0 => fun a m b T d w A M B _ _ _ hN _ ham hmb _ _ _ => by omega
 | N + 1 => fun a m b T d w A M B hA hM hB hN h ham hmb hbn hm hd => by
  subst hA hM hB
  by_cases h1 : m = a + 1
  ·subst h1
   rw [show ((a + 1 : Nat) : Int) = (a : Int) + 1 by omega]
   exact symone_any w0 g n cap a b T cf hc c1 c2 c3 d w h hg hcmp hmb hbn hn hm hd
  ·by_cases h2 : b = m + 1
   ·subst h2
    rw [show ((m + 1 : Nat) : Int) = (m : Int) + 1 by omega]
    exact symlast_any w0 g n cap a m T cf hc c1 c2 c3 d w h hg hcmp (by omega) hbn hn hm hd
   ·exact symmain_any w0 g n cap a m b T N cf hc c1 c2 c3 d w (symmerge_any w0 g n cap cf hc c1 c2 c3 hg hcmp hn N) (by omega) h hg hcmp (by omega) (by omega) hbn hn hm hd
end Go.Proofs.YtipokgedmfnlaaaGreatDoor

namespace Go.Proofs.YtipokgedmfnlaaaGreatDoor
open Go.RowKit Go.Lib
set_option maxRecDepth 100000

theorem insertion_z (w0 : World) (g n cap a b : Nat) (A B : Int) (cf : Nat → Nat → Int) (hc : Cf cf) (c1 c2 c3 : Value) (d : Nat → Nat) (w : World) (h : Srt w0 g n d w) (hA : A = a) (hB : B = b) (hg : w0.heap.size ≤ g) (hcmp : CmpOk w0 n cf c1 c2 c3) (hab : a ≤ b) (hbn : b ≤ n) (hn : n ≤ 1000000) (hd : ∀ k, a ≤ k → k < b → d k = k) :
  Calls Tryz.prog 169 #[.slice (some ⟨g, 0, none⟩) n cap, .int .i64 A, .int .i64 B, .func (.func 69) #[] #[c1, c2, c3]] w (InsOut w0 g n a b cf d) := by
 subst hA hB
 exact insertion_any w0 g n cap a b cf hc c1 c2 c3 d w h hg hcmp hab hbn hn hd
def StabOut (w0 : World) (g n : Nat) (cf : Nat → Nat → Int) (e : Ending) (w' : World) : Prop := e = .returned (.tuple #[]) ∧ ∃ d', Srt w0 g n d' w' ∧ Sor cf d' 0 n ∧ ∀ k, k < n → d' k < n
set_option maxHeartbeats 8000000 in
theorem stable_any (w0 : World) (g n cap : Nat) (cf : Nat → Nat → Int) (hc : Cf cf) (c1 c2 c3 : Value) (w : World) (h : Srt w0 g n (fun k => k) w) (hg : w0.heap.size ≤ g) (hcmp : CmpOk w0 n cf c1 c2 c3) (hn : n ≤ 30) :
  Calls Tryz.prog 115 #[.slice (some ⟨g, 0, none⟩) n cap, .int .i64 (n : Int), .func (.func 69) #[] #[c1, c2, c3]] w (StabOut w0 g n cf) := by
 have HS := Lib.hid h
 have HC := Lib.hid hcmp
 have HCf := Lib.hid hc
 clear h hcmp hc
 go_enter Tryz.func115, Tryz.ntmps115
 by_cases h20 : 20 ≤ n
 ·have h20I : (20 : Int) ≤ (n : Int) := by omega
  have h40I : ¬ (40 : Int) ≤ (n : Int) := by omega
  go_wp2_with fail
  refine wp_loop_rounds 2 ?_
  rw [rounds_succ]
  go_wp2_with fail
  refine Calls.mono (insertion_z w0 g n cap 0 20 _ _ cf HCf.out c1 c2 c3 _ w HS.out rfl rfl hg HC.out (by omega) h20 (by omega) (fun _ _ _ => rfl)) ?_
  rintro e w1 ⟨rfl, d1, h1, h2⟩
  have H1 := Lib.hid h1
  have H2 := Lib.hid h2
  clear h1 h2
  go_wp2_with fail
  rw [rounds_succ]
  go_wp2_with fail
  refine Calls.mono (insertion_z w0 g n cap 20 n _ _ cf HCf.out c1 c2 c3 d1 w1 H1.out rfl rfl hg HC.out h20 (Nat.le_refl _) (by omega) (fun k h3 h4 => H2.out.out k (by omega))) ?_
  rintro e w2 ⟨rfl, d2, h3, h4⟩
  have H3 := Lib.hid h3
  have H4 := Lib.hid h4
  clear h3 h4
  have hmg : Mg cf d2 0 20 n 20 := ⟨fun x y k1 k2 k3 => by rw [H4.out.out x (by omega), H4.out.out y (by omega)]; exact H2.out.sor x y k1 k2 k3, fun x y k1 k2 k3 => H4.out.sor x y k1 k2 k3,
   fun k k1 k2 => by rw [H4.out.out k (by omega)]; exact (H2.out.own k k1 k2).2, fun k k1 k2 => (H4.out.own k k1 k2).1⟩
  have hsm : ∀ k, k < n → d2 k < n := fun k hk => by
   by_cases q : k < 20
   ·rw [H4.out.out k (by omega)]; have := (H2.out.own k (by omega) q).2; omega
   ·exact (H4.out.own k (by omega) hk).2
  have HMg := Lib.hid hmg
  have HSm := Lib.hid hsm
  clear hmg hsm
  by_cases h21 : 20 < n
  ·have h21I : (20 : Int) < (n : Int) := by omega
   have h41I : ¬ (40 : Int) < (n : Int) := by omega
   go_wp2_with fail
   refine wp_loop_rounds 2 ?_
   rw [rounds_succ]
   go_wp2_with fail
   refine wp_loop_rounds 1 ?_
   rw [rounds_succ]
   go_wp2_with fail
   refine Calls.mono (symmerge_any w0 g n cap cf HCf.out c1 c2 c3 hg HC.out (by omega) n 0 20 n 20 d2 w2 _ _ _ rfl rfl rfl (by omega) H3.out (by omega) h21 (Nat.le_refl _) HMg.out HSm.out) ?_
   rintro e w3 ⟨rfl, d3, h5, h6⟩
   have H5 := Lib.hid h5
   have H6 := Lib.hid h6
   clear h5 h6
   go_wp2_with fail
   rw [rounds_succ]
   go_wp2_with fail
   go_end0
   exact ⟨rfl, d3, H5.out, H6.out.sor, H6.out.small (Nat.le_refl _) HSm.out⟩
  ·have h21I : ¬ (20 : Int) < (n : Int) := by omega
   go_wp2_with fail
   refine wp_loop_rounds 1 ?_
   rw [rounds_succ]
   go_wp2_with fail
   go_end0
   exact ⟨rfl, d2, H3.out, (HMg.out.trivL (.inr (by omega))).sor, HSm.out⟩
 ·have h20I : ¬ (20 : Int) ≤ (n : Int) := by omega
  have h21I : ¬ (20 : Int) < (n : Int) := by omega
  go_wp2_with fail
  refine wp_loop_rounds 1 ?_
  rw [rounds_succ]
  go_wp2_with fail
  refine Calls.mono (insertion_z w0 g n cap 0 n _ _ cf HCf.out c1 c2 c3 _ w HS.out rfl rfl hg HC.out (by omega) (Nat.le_refl _) (by omega) (fun _ _ _ => rfl)) ?_
  rintro e w1 ⟨rfl, d1, h1, h2⟩
  have H1 := Lib.hid h1
  have H2 := Lib.hid h2
  clear h1 h2
  go_wp2_with fail
  refine wp_loop_rounds 1 ?_
  rw [rounds_succ]
  go_wp2_with fail
  go_end0
  exact ⟨rfl, d1, H1.out, H2.out.sor, fun k hk => (H2.out.own k (by omega) hk).2⟩
set_option maxHeartbeats 2000000 in
theorem sortstable_any (w0 : World) (g n cap : Nat) (cf : Nat → Nat → Int) (hc : Cf cf) (c1 c2 c3 : Value) (w : World) (h : Srt w0 g n (fun k => k) w) (hg : w0.heap.size ≤ g) (hcmp : CmpOk w0 n cf c1 c2 c3) (hn : n ≤ 30) :
  Calls Tryz.prog 68 #[.slice (some ⟨g, 0, none⟩) n cap, .func (.func 69) #[] #[c1, c2, c3]] w (StabOut w0 g n cf) := by
 have KS := Lib.hid (stable_any w0 g n cap cf hc c1 c2 c3 w h hg hcmp hn)
 clear h hcmp hc
 go_enter Tryz.func68, Tryz.ntmps68
 go_wp2_with fail
 refine Calls.mono KS.out ?_
 rintro e w1 ⟨rfl, d1, h1⟩
 have H1 := Lib.hid h1
 clear h1
 go_wp2_with fail
 go_end0
 exact ⟨rfl, d1, H1.out⟩
end Go.Proofs.YtipokgedmfnlaaaGreatDoor

namespace Go.Proofs.YtipokgedmfnlaaaGreatDoor
open Go.RowKit Go.Lib
set_option maxRecDepth 100000

/-! ### The plain law of the order -/
theorem chain_leK {f : List UInt8 → List UInt8 → Int} (hf : Chain f) : Chain fun X Y : V3 => leK X.k X.n X.s Y.k Y.n Y.s f := by
 have hv : ∀ X Y : V3, leK X.k X.n X.s Y.k Y.n Y.s f = -1 ∨ leK X.k X.n X.s Y.k Y.n Y.s f = 0 ∨ leK X.k X.n X.s Y.k Y.n Y.s f = 1 := fun X Y => by
  have := leK_vals hf X.k X.n X.s Y.k Y.n Y.s
  omega
 have he : ∀ X Y Z : V3, leK X.k X.n X.s Y.k Y.n Y.s f = 0 → leK X.k X.n X.s Z.k Z.n Z.s f = leK Y.k Y.n Y.s Z.k Z.n Z.s f := fun X Y Z h => by
  have c := (vOrd_chain hf X.k X.n X.s Y.k Y.n Y.s Z.k Z.n Z.s).le
  unfold leK at *
  rcases c with c | c
  ·exact absurd h c
  ·exact c.symm
 refine ⟨fun X => vOrd_refl _ _ _ _ (hf.refl _), fun X Y => leK_swap hf _ _ _ _ _ _, hv, he, fun X Y Z h1 h2 => ?_⟩
 have c := (vOrd_chain hf X.k X.n X.s Y.k Y.n Y.s Z.k Z.n Z.s).up
 have s1 := leK_swap hf Y.k Y.n Y.s Z.k Z.n Z.s
 have e1 := he X Z Y
 have v := hv X Z
 unfold leK at *
 omega
/-- A column's order, up or down. -/
def colK (fs : Nat → List UInt8 → List UInt8 → Int) (ds : Nat → Bool) (i : Nat) (X Y : V3) : Int := if ds i then -leK X.k X.n X.s Y.k Y.n Y.s (fs i) else leK X.k X.n X.s Y.k Y.n Y.s (fs i)
theorem Chain.neg {α : Type} {f : α → α → Int} (h : Chain f) : Chain fun x y => -f x y := by
 refine ⟨fun x => by rw [h.refl]; rfl, fun x y => by rw [h.swap x y], fun x y => ?_, fun x y z hz => ?_, fun x y z h1 h2 => ?_⟩
 ·have := h.vals x y; omega
 ·rw [h.eql x y z (by omega)]
 ·have a1 := h.swap x y
  have a2 := h.swap y z
  have a3 := h.swap x z
  have := h.trans z y x (by omega) (by omega)
  omega
theorem chain_col {fs : Nat → List UInt8 → List UInt8 → Int} (h : ∀ i, Chain (fs i)) (ds : Nat → Bool) (i : Nat) : Chain (colK fs ds i) := by
 unfold colK
 cases ds i
 ·exact chain_leK (h i)
 ·exact (chain_leK (h i)).neg
/-- Columns i .. i + m - 1. -/
def ordV (fs : Nat → List UInt8 → List UInt8 → Int) (ds : Nat → Bool) : Nat → Nat → (Nat → V3) → (Nat → V3) → Int
 | _, 0, _, _ => 0
 | i, m + 1, x, y => if colK fs ds i (x i) (y i) ≠ 0 then colK fs ds i (x i) (y i) else ordV fs ds (i + 1) m x y
theorem chain_ordV {fs : Nat → List UInt8 → List UInt8 → Int} (h : ∀ i, Chain (fs i)) (ds : Nat → Bool) : ∀ m i, Chain (ordV fs ds i m)
 | 0, i => ⟨fun _ => rfl, fun _ _ => rfl, fun _ _ => .inr (.inl rfl), fun _ _ _ _ => rfl, fun _ _ _ h => by simp [ordV] at h⟩
 | m + 1, i => ((chain_col h ds i).map fun x : Nat → V3 => x i).then (chain_ordV h ds m (i + 1))
theorem ordL_V (fs : Nat → List UInt8 → List UInt8 → Int) (ds : Nat → Bool) : ∀ (m i : Nat) (X Y : List V3) (x y : Nat → V3), X.length = m → Y.length = m → (∀ j, j < m → X[j]? = some (x (i + j))) → (∀ j, j < m → Y[j]? = some (y (i + j))) → ordL fs ds i X Y = ordV fs ds i m x y
 | 0, i, X, Y, x, y, hX, hY, _, _ => by
  rw [List.length_eq_zero_iff.1 hX, List.length_eq_zero_iff.1 hY]; rfl
 | m + 1, i, a :: X, b :: Y, x, y, hX, hY, h1, h2 => by
  have e1 : a = x i := by simpa using h1 0 (by omega)
  have e2 : b = y i := by simpa using h2 0 (by omega)
  have ih := ordL_V fs ds m (i + 1) X Y x y (by simpa using hX) (by simpa using hY) (fun j hj => by have := h1 (j + 1) (by omega); rw [show i + 1 + j = i + (j + 1) by omega]; simpa using this) (fun j hj => by have := h2 (j + 1) (by omega); rw [show i + 1 + j = i + (j + 1) by omega]; simpa using this)
  rw [ordL, ordV, ← ih, e1, e2]
  rfl
 | m + 1, i, [], _, _, _, hX, _, _, _ => by simp at hX
 | m + 1, i, _ :: _, [], _, _, _, hY, _, _ => by simp at hY
def zV : V3 := ⟨0, 0, ⟨#[]⟩⟩
/-- The order of rows by their places. -/
def cfR (fs : Nat → List UInt8 → List UInt8 → Int) (ds : Nat → Bool) (m : Nat) (R : List (List V3)) (a b : Nat) : Int := ordV fs ds 0 m (fun j => (R.getD a []).getD j zV) (fun j => (R.getD b []).getD j zV)
theorem cfR_ord (fs : Nat → List UInt8 → List UInt8 → Int) (ds : Nat → Bool) (m : Nat) (R : List (List V3)) (hm : ∀ r ∈ R, r.length = m) (a b : Nat) (ha : a < R.length) (hb : b < R.length) : cfR fs ds m R a b = ordL fs ds 0 R[a] R[b] := by
 unfold cfR
 refine (ordL_V fs ds m 0 R[a] R[b] _ _ (hm _ (List.getElem_mem ha)) (hm _ (List.getElem_mem hb)) (fun j hj => ?_) (fun j hj => ?_)).symm
 ·have := hm _ (List.getElem_mem ha)
  simp [List.getD_eq_getElem?_getD, ha, show j < R[a].length by omega]
 ·have := hm _ (List.getElem_mem hb)
  simp [List.getD_eq_getElem?_getD, hb, show j < R[b].length by omega]
theorem chain_cfR {fs : Nat → List UInt8 → List UInt8 → Int} (h : ∀ i, Chain (fs i)) (ds : Nat → Bool) (m : Nat) (R : List (List V3)) : Chain (cfR fs ds m R) :=
 (chain_ordV h ds m 0).map fun a j => (R.getD a []).getD j zV
theorem Chain.cf {cf : Nat → Nat → Int} (h : Chain cf) : Cf cf := by
 refine ⟨h.swap, fun x y z h1 h2 => ?_⟩
 unfold LT at *
 have v1 := h.vals x y
 have v2 := h.vals y z
 have v3 := h.vals x z
 have e1 := h.eql x y z
 have e2 := h.eql y z x
 have s1 := h.swap x y
 have s2 := h.swap x z
 have t := h.trans x y z
 omega

/-! ### The walk -/
def OrderOut (w : World) (n : Nat) (cf : Nat → Nat → Int) (e : Ending) (w' : World) : Prop := (∃ v d, e = .returned v ∧ ReadsL w' v (intsV ((List.range n).map d)) ∧ Sor cf d 0 n ∧ ∀ k, k < n → d k < n) ∧ Below w.heap.size w w'
theorem Srt.reads {w0 w : World} {g n : Nat} {d : Nat → Nat} (h : Srt w0 g n d w) : ReadsL w (.slice (some ⟨g, 0, none⟩) n n) (intsV ((List.range n).map d)) := by
 refine .inr ⟨g, n, by simp [intsV], by simp [intsV], fun k u hu => ?_⟩
 by_cases hk : k < n
 ·rw [h.cell hk]
  simp [intsV, hk] at hu
  rw [hu]
 ·rw [List.getElem?_eq_none (by simp [intsV]; omega)] at hu
  cases hu
theorem sortstable_none (c1 c2 c3 : Value) (w : World) :
  Calls Tryz.prog 68 #[.slice none 0 0, .func (.func 69) #[] #[c1, c2, c3]] w fun e w' => e = .returned (.tuple #[]) ∧ Below w.heap.size w w' := by
 have hI : ∀ W, Calls Tryz.prog 169 #[.slice none 0 0, .int .i64 0, .int .i64 0, .func (.func 69) #[] #[c1, c2, c3]] W fun e w' => e = .returned (.tuple #[]) ∧ W = w' := fun W => by
  go_enter Tryz.func169, Tryz.ntmps169
  go_wp2_with fail
  refine wp_loop_rounds 1 ?_
  rw [rounds_succ]
  go_wp2_with fail
  go_end0
  exact ⟨rfl, rfl⟩
 have hS : ∀ W, Calls Tryz.prog 115 #[.slice none 0 0, .int .i64 0, .func (.func 69) #[] #[c1, c2, c3]] W fun e w' => e = .returned (.tuple #[]) ∧ W = w' := fun W => by
  go_enter Tryz.func115, Tryz.ntmps115
  go_wp2_with fail
  refine wp_loop_rounds 1 ?_
  rw [rounds_succ]
  go_wp2_with fail
  refine Calls.mono (hI W) ?_
  rintro e w1 ⟨rfl, rfl⟩
  go_wp2_with fail
  refine wp_loop_rounds 1 ?_
  rw [rounds_succ]
  go_wp2_with fail
  go_end0
  exact ⟨rfl, rfl⟩
 go_enter Tryz.func68, Tryz.ntmps68
 go_wp2_with fail
 refine Calls.mono (hS w) ?_
 rintro e w1 ⟨rfl, rfl⟩
 go_wp2_with fail
 go_end0
 exact ⟨rfl, Below.refl _ _⟩
set_option maxHeartbeats 8000000 in
theorem order_any (v cv dv : Value) (R : List (List V3)) (n q m : Nat) (fs : Nat → List UInt8 → List UInt8 → Int) (ds : Nat → Bool) (w : World)
  (hR : RowsAt w v R) (hF : FewR R) (hC : CollsAt w cv n fs) (hD : DescAt w dv q ds) (hch : ∀ i, Chain (fs i)) (hm : ∀ r ∈ R, r.length = m) (hG : ∀ W, Ext w W → Glob W) :
  Calls Tryz.prog 37 #[v, cv, dv] w (OrderOut w R.length (cfR fs ds m R)) := by
 have HG := Lib.hid hG
 have HR := Lib.hid hR
 have HF := Lib.hid hF
 have HC := Lib.hid hC
 have HD := Lib.hid hD
 have HCH := Lib.hid hch
 have HM := Lib.hid hm
 obtain ⟨a1, k1, hv, hk1, _, _⟩ := id hR
 obtain ⟨a2, k2, hcv, _⟩ := id hC
 obtain ⟨a3, k3, hdv, _⟩ := id hD
 have hlen : R.length ≤ 30 := hF.1
 clear hG hR hF hC hD hch hm
 subst hv hcv hdv
 have hB1 := ((Blk.new w #[.slice a1 R.length k1] 22 rfl).alloc (.cells #[.slice a2 n k2] 36)).alloc (.cells #[.slice a3 q k3] 88)
 have hB2 := (Blk.new (w.alloc (.cells #[.slice a1 R.length k1] 22)) #[.slice a2 n k2] 36 (n := w.heap.size + 1) (by simp)).alloc (.cells #[.slice a3 q k3] 88)
 have hB3 := Blk.new ((w.alloc (.cells #[.slice a1 R.length k1] 22)).alloc (.cells #[.slice a2 n k2] 36)) #[.slice a3 q k3] 88 (n := w.heap.size + 1 + 1) (by simp)
 have hx0 := (((Ext.refl w).alloc (.cells #[.slice a1 R.length k1] 22)).alloc (.cells #[.slice a2 n k2] 36)).alloc (.cells #[.slice a3 q k3] 88)
 have hQ1 := Lib.hid hB1
 have hQ2 := Lib.hid hB2
 have hQ3 := Lib.hid hB3
 have HX0 := Lib.hid hx0
 clear hB1 hB2 hB3 hx0
 go_enter Tryz.func37, Tryz.ntmps37
 repeat (first | go_values | go_skip | go_guarded | go_step | go_upon)
 generalize ((w.alloc (.cells #[.slice a1 R.length k1] 22)).alloc (.cells #[.slice a2 n k2] 36)).alloc (.cells #[.slice a3 q k3] 88) = W0 at hQ1 hQ2 hQ3 HX0 ⊢
 obtain ⟨cq, fq⟩ := hQ1.out.facts
 clear hk1
 go_wp2_with fail
 go_loopw [7, 8, 11] (fun o _ i wr => ∃ k : Nat, k ≤ R.length ∧ i = .int .i64 k ∧ wr.ownsRow W0.heap.size 3 1 o k (intsV (List.range k)) ∧ Ext W0 wr ∧ (k = 0 → o = .slice none 0 0)) (fun _ _ i _ => R.length - (intOf i).toNat)
 case atStart => exact ⟨0, Nat.zero_le _, rfl, World.ownsRow_nil _ _ _ _, Ext.refl _, fun _ => rfl⟩
 case round =>
  obtain ⟨k, hk, rfl, hown, hx, hz⟩ := hrel
  have HOw := Lib.hid hown
  have HXr := Lib.hid hx
  have HZ := Lib.hid hz
  clear hown hx hz
  by_cases hlt : k < R.length
  ·have hltI : (k : Int) < (R.length : Int) := by omega
   go_wp2_with (at_builtin; refine wpList_push rfl _ _ _ rfl W0.heap.size 3 (.int .i64 0) 1 8 Tryz.underlying40 infoInt1 rfl (by decide) u7 k (intsV (List.range k)) rfl (HOw.out.alloc _) wr.heap.size 3 #[.int .i64 k] rfl (Blk.new _ _ _ rfl) rfl (by simp [Value.oneCell']) (by unfold maxLen; omega) (by omega) (by have := HXr.out.size; simp <;> omega) ?_; intro v5 w5 hown hgr hat)
   have hx5 : Ext W0 w5 := ((show Below W0.heap.size W0 wr from HXr.out).alloc HXr.out.size _).grown hgr (by have := HXr.out.size; simp <;> omega) (fun k hk => by
    rcases HOw.out.2 with ⟨e, _⟩ | ⟨g', _, _, e, hB, _⟩
    ·rw [e] at hk; simp [Value.ownBlock] at hk
    ·rw [e] at hk; simp [Value.ownBlock] at hk; omega)
   rw [show intsV (List.range k) ++ #[Value.int .i64 (k : Int)].toList = intsV (List.range (k + 1)) by rw [List.range_succ, intsV_snoc]] at hown
   have HO5 := Lib.hid hown
   have HX5 := Lib.hid hx5
   clear hown hx5 hgr hat
   go_wp2_with fail
   go_roundw
   case rel => exact ⟨k + 1, by omega, by go_num, HO5.out, HX5.out, fun h => by omega⟩
   case measure => simp [intOf]; omega
  ·obtain rfl : k = R.length := by omega
   have hltI : ¬ (R.length : Int) < (R.length : Int) := by omega
   by_cases h0 : R.length = 0
   ·obtain rfl := HZ.out h0
    go_wp2_with fail
    refine Calls.mono (sortstable_none _ _ _ wr) ?_
    rintro e w2 ⟨rfl, hb2⟩
    have HX2 := Lib.hid (Ext.trans HX0.out (Ext.trans HXr.out hb2))
    clear hb2
    go_wp2_with fail
    refine Calls.mono (clip_none w2) ?_
    rintro e w3 ⟨rfl, rfl⟩
    go_wp2_with fail
    go_ret
    exact ⟨⟨_, fun k => k, rfl, .inl ⟨rfl, by rw [h0]; rfl⟩, fun i j _ h1 h2 => by omega, fun k hk => by omega⟩, HX2.out⟩
   ·have hown := HOw.out
    obtain ⟨hl, hown⟩ := hown
    rcases hown with ⟨_, h1⟩ | ⟨g, cap, cur, rfl, hge, hblk, hnc, _, hcs, htk⟩
    ·exact absurd h1 h0
    ·have hS : Srt W0 g R.length (fun k => k) wr := ⟨HXr.out.os, HXr.out.tape, HXr.out.output, HXr.out.size, fun i hi _ => HXr.out.block i hi, cur, hblk, by omega, fun k hk => by
      have h1 := congrArg (fun l : List Value => l[k]?) htk
      simp only [Nat.mul_one, List.getElem?_take, if_pos hk, Array.getElem?_toList] at h1
      rw [h1]
      simp [intsV, hk]⟩
     have hC : CmpOk W0 R.length (cfR fs ds m R) (.pointer (some ⟨w.heap.size, 0, none⟩)) (.pointer (some ⟨w.heap.size + 1, 0, none⟩)) (.pointer (some ⟨w.heap.size + 1 + 1, 0, none⟩)) := fun W hW x y hx hy => by
      have hw := Ext.trans HX0.out hW
      rw [cfR_ord fs ds m R HM.out x y hx hy]
      exact ordfun_any _ _ _ R n q fs ds _ _ _ x y W (HR.out.ext hw) HF.out (HC.out.ext hw) (HD.out.ext hw) HCH.out (hQ1.out.keep hW) (hQ2.out.keep hW) (hQ3.out.keep hW) hx hy fun W2 h2 => HG.out W2 (Ext.trans hw h2)
     have HS := Lib.hid hS
     have HCm := Lib.hid hC
     have HGe := Lib.hid hge
     clear hl hblk hcs htk hS hC hge cq fq
     go_wp2_with fail
     refine Calls.mono (sortstable_any W0 g R.length cap (cfR fs ds m R) (chain_cfR HCH.out ds m R).cf _ _ _ wr HS.out HGe.out HCm.out hlen) ?_
     rintro e w2 ⟨rfl, d, h2, h3, h4⟩
     have H2 := Lib.hid h2
     have H3 := Lib.hid h3
     have H4 := Lib.hid h4
     clear h2 h3 h4
     go_wp2_with fail
     refine Calls.mono (clipI_any g R.length cap hnc w2) ?_
     rintro e w3 ⟨rfl, rfl⟩
     go_wp2_with fail
     go_ret
     exact ⟨⟨_, d, rfl, H2.out.reads, H3.out, H4.out⟩, Ext.trans HX0.out (H2.out.toExt HGe.out)⟩
end Go.Proofs.YtipokgedmfnlaaaGreatDoor
