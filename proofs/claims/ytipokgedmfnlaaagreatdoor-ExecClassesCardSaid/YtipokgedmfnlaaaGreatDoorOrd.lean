/-
 Rows of values as they lie in memory; out of the reading of an argument; are they few and short (umlautlaw23.few). Rows out of the reading of an argument. Collations in a slice; exec.at.
-/
import Derived.Test.YtipokgedmfnlaaaGreatDoorProg
import Derived.Test.YtipokgedmfnlaaaGreatDoorBase
import Derived.Test.YtipokgedmfnlaaaGreatDoorVal
import Derived.ChangeSlices
import Derived.Lib.SmallJoins
import Derived.ChangeArms
import Derived.Test.YtipokgedmfnlaaaGreatDoorValComparesLaw
namespace Go.Proofs.YtipokgedmfnlaaaGreatDoor
open Go.RowKit Go.ChangeAt
set_option maxRecDepth 100000

/-- A value: kind, number, text. -/
structure V3 where
 k : Int
 n : Int
 s : ByteArray
def V3.val (x : V3) : Value := vV x.k x.n x.s
/-- A row of values in memory. -/
def RowAt (w : World) (v : Value) (r : List V3) : Prop :=
 ∃ a c, v = .slice a r.length c ∧ r.length ≤ c ∧ (0 < r.length → ∃ g o, a = some ⟨g, o, none⟩ ∧ g < w.heap.size ∧
  ∀ (j : Nat) (x : V3), r[j]? = some x → w.cell? ⟨g, o + j * 3, none⟩ = some (.int .i64 x.k) ∧ w.cell? ⟨g, o + j * 3 + 1, none⟩ = some (.int .i64 x.n) ∧ w.cell? ⟨g, o + j * 3 + 2, none⟩ = some (.string x.s))
/-- Rows in memory. -/
def RowsAt (w : World) (v : Value) (R : List (List V3)) : Prop :=
 ∃ a c, v = .slice a R.length c ∧ R.length ≤ c ∧ c ≤ maxLen ∧ (0 < R.length → ∃ g o, a = some ⟨g, o, none⟩ ∧ g < w.heap.size ∧
  ∀ (j : Nat) (r : List V3), R[j]? = some r → ∃ u, w.cell? ⟨g, o + j, none⟩ = some u ∧ RowAt w u r)
theorem RowAt.ext {w w' : World} {v : Value} {r : List V3} (h : RowAt w v r) (hx : Ext w w') : RowAt w' v r := by
 obtain ⟨a, c, h1, h2, h3⟩ := h
 refine ⟨a, c, h1, h2, fun h0 => ?_⟩
 obtain ⟨g, o, e1, e2, e3⟩ := h3 h0
 refine ⟨g, o, e1, Nat.lt_of_lt_of_le e2 hx.size, fun j x hj => ?_⟩
 obtain ⟨f1, f2, f3⟩ := e3 j x hj
 exact ⟨(hx.cell e2).trans f1, (hx.cell e2).trans f2, (hx.cell e2).trans f3⟩
theorem RowsAt.ext {w w' : World} {v : Value} {R : List (List V3)} (h : RowsAt w v R) (hx : Ext w w') : RowsAt w' v R := by
 obtain ⟨a, c, h1, h2, h4, h3⟩ := h
 refine ⟨a, c, h1, h2, h4, fun h0 => ?_⟩
 obtain ⟨g, o, e1, e2, e3⟩ := h3 h0
 refine ⟨g, o, e1, Nat.lt_of_lt_of_le e2 hx.size, fun j x hj => ?_⟩
 obtain ⟨u, f1, f2⟩ := e3 j x hj
 exact ⟨u, (hx.cell e2).trans f1, f2.ext hx⟩
/-- Few rows of short values. -/
def FewR (R : List (List V3)) : Prop := R.length ≤ 30 ∧ ∀ r ∈ R, r.length ≤ 4 ∧ ∀ x ∈ r, x.s.size ≤ 60
def FewPost (R : List (List V3)) (w : World) (e : Ending) (w' : World) : Prop := (∃ b, e = .returned (.bool b) ∧ (b = true → FewR R)) ∧ w = w'
set_option maxHeartbeats 8000000 in
theorem few_any (v : Value) (R : List (List V3)) (w : World) (hR : RowsAt w v R) :
  Calls Tryz.prog 11 #[v] w (FewPost R w) := by
 obtain ⟨a, c, rfl, hc, hcm, hcell⟩ := hR
 have HCell := Lib.hid hcell
 clear hcell
 go_enter Tryz.func11, Tryz.ntmps11
 by_cases hlen : (30 : Int) < (R.length : Int)
 ·go_wp2_with fail
  go_ret
  exact ⟨⟨_, rfl, fun h => by cases h⟩, rfl⟩
 ·go_wp2_with fail
  go_loopw [3, 4] (fun i _ wr => ∃ k : Nat, k ≤ R.length ∧ i = .int .i64 k ∧ (∀ r ∈ R.take k, r.length ≤ 4 ∧ ∀ x ∈ r, x.s.size ≤ 60) ∧ wr = w) (fun i _ _ => R.length - (intOf i).toNat)
  case atStart => exact ⟨0, Nat.zero_le _, rfl, fun r hr => by simp at hr, rfl⟩
  case round =>
   obtain ⟨k, hk, rfl, hall, rfl⟩ := hrel
   have HAll := Lib.hid hall
   clear hall
   by_cases hkl : k < R.length
   ·have hklI : (k : Int) < (R.length : Int) := by omega
    obtain ⟨g, o, rfl, hg, hcl⟩ := HCell.out (by omega)
    obtain ⟨u, hu, hrow⟩ := hcl k R[k] (List.getElem?_eq_getElem hkl)
    have hr : R[k] ∈ R := List.getElem_mem hkl
    have htk : R.take (k + 1) = R.take k ++ [R[k]] := by rw [List.take_succ_eq_append_getElem hkl]
    have HTk := Lib.hid htk
    generalize R[k] = r at hrow HTk
    clear hcl hr htk
    obtain ⟨a2, c2, rfl, hc2, hcell2⟩ := hrow
    have HCell2 := Lib.hid hcell2
    clear hcell2
    by_cases hl4 : (4 : Int) < (r.length : Int)
    ·go_wp2_with fail
     go_ret
     exact ⟨⟨_, rfl, fun h => by cases h⟩, rfl⟩
    ·go_wp2_with fail
     go_loopw [4] (fun i wr2 => ∃ q : Nat, q ≤ r.length ∧ i = .int .i64 q ∧ (∀ x ∈ r.take q, x.s.size ≤ 60) ∧ wr2 = wr) (fun i _ => r.length - (intOf i).toNat)
     case atStart => exact ⟨0, Nat.zero_le _, rfl, fun x hx => by simp at hx, rfl⟩
     case round =>
      obtain ⟨q, hq, rfl, hin, rfl⟩ := hrel
      have HIn := Lib.hid hin
      clear hin
      by_cases hql : q < r.length
      ·have hqlI : (q : Int) < (r.length : Int) := by omega
       obtain ⟨g2, o2, rfl, hg2, hcl2⟩ := HCell2.out (by omega)
       obtain ⟨e0, e1, e2⟩ := hcl2 q r[q] (List.getElem?_eq_getElem hql)
       have hqk : r.take (q + 1) = r.take q ++ [r[q]] := by rw [List.take_succ_eq_append_getElem hql]
       have HQk := Lib.hid hqk
       generalize r[q] = x at e0 e1 e2 HQk
       clear hcl2 hqk
       by_cases h60 : (60 : Int) < (x.s.size : Int)
       ·go_wp2_with fail
        go_ret
        exact ⟨⟨_, rfl, fun h => by cases h⟩, rfl⟩
       ·go_wp2_with fail
        go_roundw
        case rel => exact ⟨q + 1, by omega, by go_num, fun y hy => by
         rw [HQk.out, List.mem_append, List.mem_singleton] at hy
         rcases hy with hy | rfl
         ·exact HIn.out y hy
         ·omega, trivial⟩
        case measure => simp [intOf]; omega
      ·go_wp2_with fail
       go_roundw
       case rel => exact ⟨k + 1, by omega, by go_num, fun y hy => by
        rw [HTk.out, List.mem_append, List.mem_singleton] at hy
        rcases hy with hy | rfl
        ·exact HAll.out y hy
        ·have hfull := HIn.out
         rw [List.take_of_length_le (by omega)] at hfull
         exact ⟨by omega, hfull⟩, trivial⟩
       case measure => simp [intOf]; omega
   ·have hklI : ¬ (k : Int) < (R.length : Int) := by omega
    go_wp2_with fail
    go_ret
    refine ⟨⟨_, rfl, fun _ => ⟨by omega, ?_⟩⟩, rfl⟩
    have hfull := HAll.out
    rw [List.take_of_length_le (by omega)] at hfull
    exact hfull
end Go.Proofs.YtipokgedmfnlaaaGreatDoor

namespace Go.Proofs.YtipokgedmfnlaaaGreatDoor
open Go.RowKit Go.ChangeAt Go.ChangeShapes
set_option maxRecDepth 100000

theorem spot_none {w : World} {b o : Nat} {sp : Option Nat} {v : Value} (h : w.cell? ⟨b, o, sp⟩ = some v) : sp = none := by
 cases sp with
 | none => rfl
 | some x =>
  unfold World.cell? at h
  split at h <;> simp at h
theorem add_none (g o n : Nat) : (⟨g, o, none⟩ : Addr).add n = ⟨g, o + n, none⟩ := by
 unfold Addr.add
 split
 ·subst n; rfl
 ·rfl
theorem three_of {α : Type} {l : List α} (h : l.length = 3) : ∃ a b c, l = [a, b, c] := by
 match l, h with
 | [a, b, c], _ => exact ⟨a, b, c, rfl⟩
section
variable {H : Type} {enc : TypeId × Value → H} {w : World} {base : Nat} {spare : Nat → Bool} {held : Bool}
/-- A number of 64 bits. -/
def InV (y : V3) : Prop := -9223372036854775808 ≤ y.n ∧ y.n ≤ 9223372036854775807
theorem v3_of_trod {n : Nat} {cs : List Value} {x : DataW H × List MemPlace} (h : DataW.trod enc Tryz.prog w base spare held n 45 cs = some x) :
  ∃ y : V3, cs = [.int .i64 y.k, .int .i64 y.n, .string y.s] ∧ InV y := by
 have k3 : Tryz.prog.cellsOf 45 = 3 := by kernel_rfl
 have ki : Tryz.prog.cellsOf 3 = 1 := by kernel_rfl
 have kl : Tryz.prog.cellsOf 2 = 1 := by kernel_rfl
 have ks : Tryz.prog.cellsOf 9 = 1 := by kernel_rfl
 obtain ⟨xs, m, rfl, _, hlen, hxs, hf⟩ := DataW.trod_struct Tryz.underlying45 h
 rw [k3] at hlen
 obtain ⟨c0, c1, c2, rfl⟩ := three_of hlen
 obtain ⟨x0, x1, x2, rfl⟩ := three_of (show xs.length = 3 from hxs)
 have f0 := hf 0 _ rfl
 have f1 := hf 1 _ rfl
 have f2 := hf 2 _ rfl
 simp [ki, kl, ks] at f0 f1 f2
 obtain ⟨k, e0, _⟩ := DataW.trod_int Tryz.underlying3 f0
 obtain ⟨q, e1, _, hw⟩ := DataW.trod_int Tryz.underlying2 f1
 obtain ⟨s, e2, _⟩ := DataW.trod_string Tryz.underlying9 f2
 simp only [List.cons.injEq, and_true] at e0 e1 e2
 subst e0 e1 e2
 exact ⟨⟨k, q, s⟩, rfl, by simpa [Lit.wf, InV, IntKind.min, IntKind.max, IntKind.signed, IntKind.bits] using hw⟩
theorem row_of_trod {n : Nat} {cs : List Value} {x : DataW H × List MemPlace} (h : DataW.trod enc Tryz.prog w base spare held n 35 cs = some x) :
  ∃ u r, cs = [u] ∧ RowAt w u r ∧ ∀ y ∈ r, InV y := by
 have k3 : Tryz.prog.cellsOf 45 = 3 := by kernel_rfl
 rcases DataW.trod_slice Tryz.underlying35 h with ⟨rfl, _⟩ | ⟨a, len, cap, el, rs, m, rfl, rfl, _, hb, hlc, hcm, hlen, hel, _, _⟩
 ·exact ⟨_, [], rfl, ⟨none, 0, rfl, Nat.le_refl _, fun h => absurd h (Nat.lt_irrefl _)⟩, fun y hy => by cases hy⟩
 ·have each : ∀ i, ∃ y : V3, InV y ∧ (i < len → ∀ j, j < 3 → w.cell? ((a.add (i * 3)).add j) = ([.int .i64 y.k, .int .i64 y.n, .string y.s] : List Value)[j]?) := by
   intro i
   by_cases hi : i < len
   ·have h1 := hel i hi
    rw [k3, List.getElem?_eq_getElem (by omega)] at h1
    obtain ⟨ce, hce, hte⟩ := Option.bind_eq_some_iff.1 h1
    obtain ⟨y, rfl, hin⟩ := v3_of_trod hte
    obtain ⟨_, _, hcc⟩ := World.cells?_some hce
    exact ⟨y, hin, fun _ j hj => hcc j hj⟩
   ·exact ⟨⟨0, 0, ⟨#[]⟩⟩, by unfold InV; simp, fun h => absurd h hi⟩
  obtain ⟨f, hf⟩ := Classical.axiomOfChoice each
  have hfi := fun i => (hf i).1
  replace hf := fun i => (hf i).2
  refine ⟨_, (List.range len).map f, rfl, ⟨some a, cap, by simp, by simpa using hlc, fun h0 => ?_⟩, fun y hy => by
   obtain ⟨i, _, rfl⟩ := List.mem_map.1 hy
   exact hfi i⟩
  have h0' : 0 < len := by simpa using h0
  obtain ⟨g, o, sp⟩ := a
  obtain rfl : sp = none := by
   have h00 := hf 0 h0' 0 (by omega)
   exact spot_none h00
  refine ⟨g, o, rfl, World.block_lt_of_cell? w _ (hf 0 h0' 0 (by omega)), fun j y hj => ?_⟩
  rw [List.getElem?_map] at hj
  by_cases hjl : j < len
  ·rw [List.getElem?_range hjl] at hj
   obtain rfl : f j = y := by simpa using hj
   have e0 := hf j hjl 0 (by omega)
   have e1 := hf j hjl 1 (by omega)
   have e2 := hf j hjl 2 (by omega)
   simp only [add_none] at e0 e1 e2
   exact ⟨e0, e1, e2⟩
  ·rw [List.getElem?_eq_none (by simpa using hjl)] at hj
   cases hj
theorem rows_of_trod {n : Nat} {cs : List Value} {x : DataW H × List MemPlace} (h : DataW.trod enc Tryz.prog w base spare held n 22 cs = some x) :
  ∃ u R, cs = [u] ∧ RowsAt w u R ∧ ∀ r ∈ R, ∀ y ∈ r, InV y := by
 have k1 : Tryz.prog.cellsOf 35 = 1 := by kernel_rfl
 rcases DataW.trod_slice Tryz.underlying22 h with ⟨rfl, _⟩ | ⟨a, len, cap, el, rs, m, rfl, rfl, _, hb, hlc, hcm, hlen, hel, _, _⟩
 ·exact ⟨_, [], rfl, ⟨none, 0, rfl, Nat.le_refl _, Nat.zero_le _, fun h => absurd h (Nat.lt_irrefl _)⟩, fun r hr => by cases hr⟩
 ·have each : ∀ i, ∃ r : List V3, (∀ y ∈ r, InV y) ∧ (i < len → ∃ u, w.cell? (a.add i) = some u ∧ RowAt w u r) := by
   intro i
   by_cases hi : i < len
   ·have h1 := hel i hi
    rw [k1, Nat.mul_one, List.getElem?_eq_getElem (by omega)] at h1
    obtain ⟨ce, hce, hte⟩ := Option.bind_eq_some_iff.1 h1
    obtain ⟨u, r, rfl, hr, hin⟩ := row_of_trod hte
    exact ⟨r, hin, fun _ => ⟨u, cell_of_cells?_one hce, hr⟩⟩
   ·exact ⟨[], fun y hy => (by cases hy), fun h => absurd h hi⟩
  obtain ⟨f, hf⟩ := Classical.axiomOfChoice each
  have hfi := fun i => (hf i).1
  replace hf := fun i => (hf i).2
  refine ⟨_, (List.range len).map f, rfl, ⟨some a, cap, by simp, by simpa using hlc, hcm, fun h0 => ?_⟩, fun r hr => by
   obtain ⟨i, _, rfl⟩ := List.mem_map.1 hr
   exact hfi i⟩
  have h0' : 0 < len := by simpa using h0
  obtain ⟨g, o, sp⟩ := a
  obtain ⟨u0, h00, _⟩ := hf 0 h0'
  obtain rfl : sp = none := spot_none h00
  refine ⟨g, o, rfl, World.block_lt_of_cell? w _ h00, fun j y hj => ?_⟩
  rw [List.getElem?_map] at hj
  by_cases hjl : j < len
  ·rw [List.getElem?_range hjl] at hj
   obtain rfl : f j = y := by simpa using hj
   have e0 := hf j hjl
   rw [add_none] at e0
   exact e0
  ·rw [List.getElem?_eq_none (by simpa using hjl)] at hj
   cases hj
theorem open_rows {r : Reach} {b0 : Nat} {v : Value} {d : DataW H} {ps : List MemPlace} (hval : Value.okWide Tryz.prog w r b0 22 v) (hd : DataW.Trod enc Tryz.prog w base spare held 22 v d ps) :
  ∃ R, RowsAt w v R ∧ ∀ r ∈ R, ∀ y ∈ r, InV y := by
 obtain ⟨a, len, cap, rfl⟩ := WideShapes.okWide_slice Tryz.underlying22 hval
 obtain ⟨fuel, hf⟩ := hd
 obtain ⟨u, R, h, h1, h2⟩ := rows_of_trod hf
 simp [Value.cells] at h
 subst h
 exact ⟨R, h1, h2⟩
end
end Go.Proofs.YtipokgedmfnlaaaGreatDoor

namespace Go.Proofs.YtipokgedmfnlaaaGreatDoor
open Go.RowKit Go.Lib
set_option maxRecDepth 100000

/-- Collations in a slice: at place j the way fs j; behind them the bytes' own. -/
def CollsAt (w : World) (v : Value) (n : Nat) (fs : Nat → List UInt8 → List UInt8 → Int) : Prop :=
 ∃ a c, v = .slice a n c ∧ n ≤ c ∧ (0 < n → ∃ g o, a = some ⟨g, o, none⟩ ∧ g < w.heap.size ∧
  ∀ j, j < n → ∃ K lv sh p, w.cell? ⟨g, o + j * 5, none⟩ = some (.int .i64 K) ∧ w.cell? ⟨g, o + j * 5 + 1, none⟩ = some (.int .i64 lv) ∧ w.cell? ⟨g, o + j * 5 + 2, none⟩ = some (.bool sh) ∧
   w.cell? ⟨g, o + j * 5 + 3, none⟩ = some (.bool false) ∧ w.cell? ⟨g, o + j * 5 + 4, none⟩ = some (.pointer p) ∧ CollIn w K lv sh p (fs j)) ∧ ∀ j, n ≤ j → fs j = collC 1 0 false false
theorem CollsAt.ext {w w' : World} {v : Value} {n : Nat} {fs : Nat → List UInt8 → List UInt8 → Int} (h : CollsAt w v n fs) (hx : Ext w w') : CollsAt w' v n fs := by
 obtain ⟨a, c, h1, h2, h3, h4⟩ := h
 refine ⟨a, c, h1, h2, fun h0 => ?_, h4⟩
 obtain ⟨g, o, e1, e2, e3⟩ := h3 h0
 refine ⟨g, o, e1, Nat.lt_of_lt_of_le e2 hx.size, fun j hj => ?_⟩
 obtain ⟨K, lv, sh, p, f0, f1, f2, f3, f4, f5⟩ := e3 j hj
 exact ⟨K, lv, sh, p, (hx.cell e2).trans f0, (hx.cell e2).trans f1, (hx.cell e2).trans f2, (hx.cell e2).trans f3, (hx.cell e2).trans f4, f5.ext hx⟩
theorem ret_c {t : Tmp} {fn : Func} (h : fn.results = #[.cell t 25]) (tmps : Array Value) {w : World} {g : Nat} {cs : Array Value} (hc : cs.size = 5) (hp : tmps.getD t undef = .pointer (some ⟨g, 0, none⟩)) (hg : Blk w g cs 25) :
  (results fn tmps).run Tryz.prog w = .ok (.agg cs) w := by
 have h1 : tmps[t]?.getD undef = .pointer (some ⟨g, 0, none⟩) := by simpa using hp
 have hr := run_loadVar_row w g 25 25 cs (0, 0) _ hg Tryz.underlying25 rfl (by rw [hc]; kernel_rfl)
 simp [results, h, h1, asAddr, hr]
def CollOut (w : World) (f : List UInt8 → List UInt8 → Int) (e : Ending) (w' : World) : Prop :=
 (∃ K lv sh p, e = .returned (cV K lv sh false p) ∧ CollIn w' K lv sh p f) ∧ Below w.heap.size w w'
set_option maxHeartbeats 4000000 in
theorem execat_any (v : Value) (n i : Nat) (fs : Nat → List UInt8 → List UInt8 → Int) (w : World) (h : CollsAt w v n fs) (hG : ∀ W, Ext w W → Glob W) :
  Calls Tryz.prog 70 #[v, .int .i64 (i : Int)] w (CollOut w (fs i)) := by
 obtain ⟨a, c, rfl, hc, hcell, hbeh⟩ := h
 have HG := Lib.hid hG
 clear hG
 go_enter Tryz.func70, Tryz.ntmps70
 by_cases hi : i < n
 ·have hiI : (i : Int) < (n : Int) := by omega
  obtain ⟨g, o, rfl, hg, hall⟩ := hcell (by omega)
  obtain ⟨K, lv, sh, p, f0, f1, f2, f3, f4, f5⟩ := hall i hi
  have HIn := Lib.hid f5
  clear hall hbeh f5
  go_wp2_with fail
  refine bodyPost_ret (ret_c rfl _ rfl rfl (Blk.new w _ _ rfl)) rfl ?_
  exact ⟨⟨K, lv, sh, p, rfl, HIn.out.ext ((Ext.refl w).alloc _)⟩, (Ext.refl w).alloc _⟩
 ·have hiI : ¬ (i : Int) < (n : Int) := by omega
  have hf := hbeh i (by omega)
  rw [hf]
  clear hbeh hcell hf
  go_wp2_with fail
  refine bodyPost_ret (ret_c rfl _ rfl rfl (Blk.new w _ _ rfl)) rfl ?_
  exact ⟨⟨1, 0, false, none, rfl, fun a b ha hb => cmpAt_small 1 0 false none a b _ (.inl rfl) ha hb fun W hW => (HG.out W (Ext.trans ((Ext.refl w).alloc _) hW)).tabs⟩, (Ext.refl w).alloc _⟩
/-- Two rows in order, from column i on. -/
def ordL (fs : Nat → List UInt8 → List UInt8 → Int) (ds : Nat → Bool) : Nat → List V3 → List V3 → Int
 | i, a :: x, b :: y =>
  let k := leK a.k a.n a.s b.k b.n b.s (fs i)
  let k := if ds i then -k else k
  if k ≠ 0 then k else ordL fs ds (i + 1) x y
 | _, _, _ => 0
theorem ordL_drop (fs : Nat → List UInt8 → List UInt8 → Int) (ds : Nat → Bool) (i : Nat) (x y : List V3) (hx : i < x.length) (hy : i < y.length) :
  ordL fs ds i (x.drop i) (y.drop i) = if (if ds i then -leK x[i].k x[i].n x[i].s y[i].k y[i].n y[i].s (fs i) else leK x[i].k x[i].n x[i].s y[i].k y[i].n y[i].s (fs i)) ≠ 0 then (if ds i then -leK x[i].k x[i].n x[i].s y[i].k y[i].n y[i].s (fs i) else leK x[i].k x[i].n x[i].s y[i].k y[i].n y[i].s (fs i)) else ordL fs ds (i + 1) (x.drop (i + 1)) (y.drop (i + 1)) := by
 rw [List.drop_eq_getElem_cons hx, List.drop_eq_getElem_cons hy]
 rfl
theorem ordL_end (fs : Nat → List UInt8 → List UInt8 → Int) (ds : Nat → Bool) (i : Nat) (x y : List V3) (h : x.length ≤ i ∨ y.length ≤ i) : ordL fs ds i (x.drop i) (y.drop i) = 0 := by
 rcases h with h | h
 ·rw [List.drop_of_length_le h]; rfl
 ·rw [List.drop_of_length_le h]
  cases x.drop i <;> rfl
/-- What stands in the ways up and down. -/
def DescAt (w : World) (v : Value) (n : Nat) (ds : Nat → Bool) : Prop :=
 ∃ a c, v = .slice a n c ∧ n ≤ c ∧ (0 < n → ∃ g o, a = some ⟨g, o, none⟩ ∧ g < w.heap.size ∧ ∀ j, j < n → w.cell? ⟨g, o + j, none⟩ = some (.bool (ds j))) ∧ ∀ j, n ≤ j → ds j = false
theorem DescAt.ext {w w' : World} {v : Value} {n : Nat} {ds : Nat → Bool} (h : DescAt w v n ds) (hx : Ext w w') : DescAt w' v n ds := by
 obtain ⟨a, c, h1, h2, h3, h4⟩ := h
 refine ⟨a, c, h1, h2, fun h0 => ?_, h4⟩
 obtain ⟨g, o, e1, e2, e3⟩ := h3 h0
 exact ⟨g, o, e1, Nat.lt_of_lt_of_le e2 hx.size, fun j hj => (hx.cell e2).trans (e3 j hj)⟩
/-- How Order's closure tells two rows' order, in any later world. -/
def OrdOut (w : World) (r : Int) (e : Ending) (w' : World) : Prop := e = .returned (.int .i64 r) ∧ Below w.heap.size w w'
def isCollC (f : List UInt8 → List UInt8 → Int) (v : Value) (w : World) : Prop := ∃ K lv sh p, v = cV K lv sh false p ∧ CollIn w K lv sh p f
theorem order_c (X Y : V3) (f : List UInt8 → List UInt8 → Int) (v : Value) (w : World) (h : isCollC f v w) (h0 : X.s.size ≤ 60) (h1 : Y.s.size ≤ 60) :
  Calls Tryz.prog 35 #[.agg #[.int .i64 X.k, .int .i64 X.n, .string X.s], .agg #[.int .i64 Y.k, .int .i64 Y.n, .string Y.s], v] w fun e w' => e = .returned (.int .i64 (leK X.k X.n X.s Y.k Y.n Y.s f)) ∧ Below w.heap.size w w' := by
 obtain ⟨K, lv, sh, p, rfl, hin⟩ := h
 exact order_in X.k X.n X.s Y.k Y.n Y.s K lv sh p f w hin (by omega) (by omega)
set_option maxHeartbeats 8000000 in
theorem ordfun_any (v cv dv : Value) (R : List (List V3)) (n m : Nat) (fs : Nat → List UInt8 → List UInt8 → Int) (ds : Nat → Bool) (q1 q2 q3 a b : Nat) (w : World)
  (hR : RowsAt w v R) (hF : FewR R) (hC : CollsAt w cv n fs) (hD : DescAt w dv m ds) (hch : ∀ i, Chain (fs i)) (b1 : Blk w q1 #[v] 22) (b2 : Blk w q2 #[cv] 36) (b3 : Blk w q3 #[dv] 88) (ha : a < R.length) (hb : b < R.length) (hG : ∀ W, Ext w W → Glob W) :
  Calls Tryz.prog 69 #[.int .i64 (a : Int), .int .i64 (b : Int), .pointer (some ⟨q1, 0, none⟩), .pointer (some ⟨q2, 0, none⟩), .pointer (some ⟨q3, 0, none⟩)] w (OrdOut w (ordL fs ds 0 R[a] R[b])) := by
 have HG := Lib.hid hG
 have HCH := Lib.hid hch
 obtain ⟨a5, c5, ecv, _⟩ := id hC
 subst ecv
 have HC := Lib.hid hC
 have HB1 := Lib.hid b1
 have HB2 := Lib.hid b2
 have HB3 := Lib.hid b3
 obtain ⟨a1, c1, rfl, hc1, hcm, hcell⟩ := hR
 obtain ⟨g, o, rfl, hg, hall⟩ := hcell (by omega)
 obtain ⟨ua, hua, hra⟩ := hall a R[a] (List.getElem?_eq_getElem ha)
 obtain ⟨ub, hub, hrb⟩ := hall b R[b] (List.getElem?_eq_getElem hb)
 obtain ⟨hla, hsa⟩ := hF.2 R[a] (List.getElem_mem ha)
 obtain ⟨hlb, hsb⟩ := hF.2 R[b] (List.getElem_mem hb)
 generalize R[a] = x at hra hla hsa ⊢
 generalize R[b] = y at hrb hlb hsb ⊢
 have haI : (a : Int) < (R.length : Int) := by omega
 have hbI : (b : Int) < (R.length : Int) := by omega
 obtain ⟨a2, c2, rfl, hc2, hx2⟩ := hra
 obtain ⟨a3, c3, rfl, hc3, hx3⟩ := hrb
 obtain ⟨a4, c4, rfl, hc4, hd4, hbeh⟩ := hD
 have HX2 := Lib.hid hx2
 have HX3 := Lib.hid hx3
 have HD4 := Lib.hid hd4
 have HBeh := Lib.hid hbeh
 have HSA := Lib.hid hsa
 have HSB := Lib.hid hsb
 have HF := Lib.hid (show ∀ W, Ext w W → W.cell? ⟨q1, 0, none⟩ = some (.slice (some ⟨g, o, none⟩) R.length c1) ∧ W.cell? ⟨g, o + a, none⟩ = some (.slice a2 x.length c2) ∧ W.cell? ⟨g, o + b, none⟩ = some (.slice a3 y.length c3) from
  fun W hW => ⟨by simpa using (HB1.out.keep hW).cell 0, (hW.cell hg).trans hua, (hW.cell hg).trans hub⟩)
 clear hG hch hC b1 b2 b3 hcell hall hua hub hsa hsb hx2 hx3 hd4 hbeh hF
 go_enter Tryz.func69, Tryz.ntmps69
 go_wp2_with fail
 refine wp_par 10 (fun
   | 0 => fun v _ => v = .slice (some ⟨g, o, none⟩) R.length c1
   | 1 => fun v _ => v = .int .i64 (a : Int)
   | 2 => fun v _ => v = .pointer (some ⟨g, o + a, none⟩)
   | 3 => fun v _ => v = .slice a2 x.length c2
   | 4 => fun v _ => v = .slice (some ⟨g, o, none⟩) R.length c1
   | 5 => fun v _ => v = .int .i64 (b : Int)
   | 6 => fun v _ => v = .pointer (some ⟨g, o + b, none⟩)
   | 7 => fun v _ => v = .slice a3 y.length c3
   | 8 => fun v _ => v = .slice a2 x.length c2
   | 9 => fun v _ => v = .slice a3 y.length c3
   | _ => fun _ _ => True) (by kernel_rfl) (by kernel_rfl) (by kernel_rfl) ?_ ?_
 ·simp (maxSteps := 20000000) only [List.take_succ_cons, List.take_zero, ParAll, Act.put, List.setIfInBounds_toArray, List.set_cons_succ, List.set_cons_zero]
  refine ⟨?_, ?_, ?_, ?_, ?_, ?_, ?_, ?_, ?_, ?_, trivial⟩
  iterate 10
   next =>
    intro vals W hx hd
    have hW := HF.out W hx
    simp [PDeps, pdeps, Region.binds] at hd
    first
     | refine ParOb.plain rfl ?_
     | refine ParOb.wanted (by simp [Region.wanted, yielded, hd]) ?_
    go_simp
    exact ParPost.same fun _ _ => rfl
 intro vals W hx hf
 simp (maxSteps := 20000000) only [ParFacts, List.take_succ_cons, List.take_zero, and_true] at hf
 simp (maxSteps := 20000000) only [List.drop_succ_cons, List.drop_zero, List.take_succ_cons, List.take_zero, ParEnd, Act.put, List.setIfInBounds_toArray, List.set_cons_succ, List.set_cons_zero, hf]
 clear hf
 have HX := Lib.hid hx
 clear hx HF
 go_wp2_with fail
 go_loopw [10, 11, 25] (fun _ _ i wr => ∃ k : Nat, k ≤ x.length ∧ k ≤ y.length ∧ i = .int .i64 k ∧ ordL fs ds 0 x y = ordL fs ds k (x.drop k) (y.drop k) ∧ Ext w wr) (fun _ _ i _ => x.length - (intOf i).toNat)
 case atStart => exact ⟨0, Nat.zero_le _, Nat.zero_le _, rfl, rfl, HX.out⟩
 case round =>
  obtain ⟨k, hk1, hk2, rfl, hord, hxr⟩ := hrel
  have HXr := Lib.hid hxr
  clear hxr
  by_cases hlt : k < x.length ∧ k < y.length
  ·have hltI : (k : Int) < (x.length : Int) := by omega
   have hltJ : (k : Int) < (y.length : Int) := by omega
   have hmin : (k : Int) < min (x.length : Int) (y.length : Int) := by omega
   obtain ⟨g2, o2, rfl, hg2, hcx⟩ := HX2.out (by omega)
   obtain ⟨g3, o3, rfl, hg3, hcy⟩ := HX3.out (by omega)
   obtain ⟨x0, x1, x2⟩ := hcx k x[k] (List.getElem?_eq_getElem hlt.1)
   obtain ⟨y0, y1, y2⟩ := hcy k y[k] (List.getElem?_eq_getElem hlt.2)
   have hxs := HSA.out x[k] (List.getElem_mem hlt.1)
   have hys := HSB.out y[k] (List.getElem_mem hlt.2)
   rw [ordL_drop fs ds k x y hlt.1 hlt.2] at hord
   generalize x[k] = X at x0 x1 x2 hxs hord
   generalize y[k] = Y at y0 y1 y2 hys hord
   have HOrd := Lib.hid hord
   have HF := Lib.hid (show ∀ W, Ext wr W → W.cell? ⟨q2, 0, none⟩ = some (.slice a5 n c5) ∧ W.cell? ⟨g2, o2 + k * 3, none⟩ = some (.int .i64 X.k) ∧ W.cell? ⟨g2, o2 + k * 3 + 1, none⟩ = some (.int .i64 X.n) ∧ W.cell? ⟨g2, o2 + k * 3 + 2, none⟩ = some (.string X.s) ∧
     W.cell? ⟨g3, o3 + k * 3, none⟩ = some (.int .i64 Y.k) ∧ W.cell? ⟨g3, o3 + k * 3 + 1, none⟩ = some (.int .i64 Y.n) ∧ W.cell? ⟨g3, o3 + k * 3 + 2, none⟩ = some (.string Y.s) from
    fun W hW => ⟨by simpa using (HB2.out.keep (Ext.trans HXr.out hW)).cell 0, ((Ext.trans HXr.out hW).cell hg2).trans x0, ((Ext.trans HXr.out hW).cell hg2).trans x1, ((Ext.trans HXr.out hW).cell hg2).trans x2,
     ((Ext.trans HXr.out hW).cell hg3).trans y0, ((Ext.trans HXr.out hW).cell hg3).trans y1, ((Ext.trans HXr.out hW).cell hg3).trans y2⟩)
   clear hcx hcy x0 x1 x2 y0 y1 y2 hord
   go_wp2_with fail
   refine wp_par 13 (fun
     | 0 => fun v _ => v = .slice (some ⟨g2, o2, none⟩) x.length c2
     | 1 => fun v _ => v = .int .i64 (k : Int)
     | 2 => fun v _ => v = .pointer (some ⟨g2, o2 + k * 3, none⟩)
     | 3 => fun v _ => v = .agg #[.int .i64 X.k, .int .i64 X.n, .string X.s]
     | 4 => fun v _ => v = .slice (some ⟨g3, o3, none⟩) y.length c3
     | 5 => fun v _ => v = .int .i64 (k : Int)
     | 6 => fun v _ => v = .pointer (some ⟨g3, o3 + k * 3, none⟩)
     | 7 => fun v _ => v = .agg #[.int .i64 Y.k, .int .i64 Y.n, .string Y.s]
     | 8 => fun v _ => v = .slice a5 n c5
     | 9 => fun v _ => v = .int .i64 (k : Int)
     | 10 => isCollC (fs k)
     | 11 => fun v _ => v = .int .i64 (leK X.k X.n X.s Y.k Y.n Y.s (fs k))
     | 12 => fun v _ => v = .int .i64 (leK X.k X.n X.s Y.k Y.n Y.s (fs k))
     | _ => fun _ _ => True) (by kernel_rfl) (by kernel_rfl) (by kernel_rfl) ?_ ?_
   ·simp (maxSteps := 20000000) only [List.take_succ_cons, List.take_zero, ParAll, Act.put, List.setIfInBounds_toArray, List.set_cons_succ, List.set_cons_zero]
    refine ⟨?_, ?_, ?_, ?_, ?_, ?_, ?_, ?_, ?_, ?_, ?_, ?_, ?_, trivial⟩
    iterate 10
     next =>
      intro vals W hx hd
      have hW := HF.out W hx
      simp [PDeps, pdeps, Region.binds] at hd
      first
       | refine ParOb.plain rfl ?_
       | refine ParOb.wanted (by simp [Region.wanted, yielded, hd]) ?_
      go_simp
      exact ParPost.same fun _ _ => rfl
    ·intro vals W hx hd
     have hW := HF.out W hx
     simp [PDeps, pdeps, Region.binds] at hd
     first
      | refine ParOb.plain rfl ?_
      | refine ParOb.wanted (by simp [Region.wanted, yielded, hd]) ?_
     go_simp
     refine Calls.mono (execat_any (.slice a5 n c5) n k fs W (HC.out.ext (Ext.trans HXr.out hx)) fun W2 h2 => HG.out W2 (Ext.trans (Ext.trans HXr.out hx) h2)) ?_
     rintro e w9 ⟨⟨K, lv, sh, p, rfl, hin⟩, hb9⟩
     exact ⟨_, rfl, hb9, fun w10 h10 => ⟨K, lv, sh, p, rfl, hin.ext h10⟩⟩
    ·intro vals W hx hd
     have hW := HF.out W hx
     simp [PDeps, pdeps, Region.binds] at hd
     first
      | refine ParOb.plain rfl ?_
      | refine ParOb.wanted (by simp [Region.wanted, yielded, hd]) ?_
     go_simp
     refine Calls.mono (order_c X Y (fs k) _ W hd.2.2 hxs hys) ?_
     rintro e w9 ⟨rfl, hb9⟩
     exact ⟨_, rfl, hb9, fun _ _ => rfl⟩
    ·intro vals W hx hd
     have hW := HF.out W hx
     simp [PDeps, pdeps, Region.binds] at hd
     first
      | refine ParOb.plain rfl ?_
      | refine ParOb.wanted (by simp [Region.wanted, yielded, hd]) ?_
     go_simp
     exact ParPost.same fun _ _ => rfl
   intro vals W hx hf
   simp (maxSteps := 20000000) only [ParFacts, List.take_succ_cons, List.take_zero, and_true, Nat.reduceAdd] at hf
   obtain ⟨f0, f1, f2, f3, f4, f5, f6, f7, f8, f9, f10, f11, f12⟩ := hf
   simp (maxSteps := 20000000) only [List.drop_succ_cons, List.drop_zero, List.take_succ_cons, List.take_zero, ParEnd, Act.put, List.setIfInBounds_toArray, List.set_cons_succ, List.set_cons_zero, Nat.reduceAdd, f0, f1, f2, f3, f4, f5, f6, f7, f8, f9, f11, f12]
   clear f0 f1 f2 f3 f4 f5 f6 f7 f8 f9 f11 f12
   generalize vals 10 = y10 at f10 ⊢
   have HX5 := Lib.hid (Ext.trans HXr.out hx)
   clear hx HF
   obtain ⟨v1, v2⟩ := leK_vals (HCH.out k) X.k X.n X.s Y.k Y.n Y.s
   have hst := HOrd.out
   generalize leK X.k X.n X.s Y.k Y.n Y.s (fs k) = r at hst v1 v2 ⊢
   have hneg : wrap64 (-r) = -r := IntWalk.wrap64_in _ (by omega)
   obtain ⟨c3', f3'⟩ := (HB3.out.keep HX5.out).facts
   clear v1 v2 HOrd
   by_cases hkm : k < m
   ·have hkmI : (k : Int) < (m : Int) := by omega
    obtain ⟨g4, o4, rfl, hg4, hcd⟩ := HD4.out (by omega)
    have hdk := (HX5.out.cell hg4).trans (hcd k hkm)
    clear hcd
    cases hds : ds k
    ·rw [hds] at hdk hst
     cases hz : (r != 0)
     ·have hr0 : r = 0 := by
       have h : r = 0 := by simpa using hz
       omega
      simp only [Bool.false_eq_true, if_false] at hst
      rw [if_neg (by simp [hr0])] at hst
      have HN := Lib.hid hst
      clear hst
      go_wp2_with fail
      go_roundw
      case rel => exact ⟨k + 1, by omega, by omega, by go_num, HN.out, HX5.out⟩
      case measure => simp [intOf]; omega
     ·have hr0 : r ≠ 0 := by
       have h : r ≠ 0 := by simpa using hz
       omega
      simp only [Bool.false_eq_true, if_false] at hst
      rw [if_pos (by simpa using hr0)] at hst
      have HN := Lib.hid hst
      clear hst
      go_wp2_with fail
      go_ret
      exact ⟨by rw [HN.out]; rfl, HX5.out⟩
    ·rw [hds] at hdk hst
     cases hz : (-r != 0)
     ·have hr0 : r = 0 := by
       have h : -r = 0 := by simpa using hz
       omega
      simp only [if_true] at hst
      rw [if_neg (by simp [hr0])] at hst
      have HN := Lib.hid hst
      clear hst
      go_wp2_with fail
      go_roundw
      case rel => exact ⟨k + 1, by omega, by omega, by go_num, HN.out, HX5.out⟩
      case measure => simp [intOf]; omega
     ·have hr0 : r ≠ 0 := by
       have h : -r ≠ 0 := by simpa using hz
       omega
      simp only [if_true] at hst
      rw [if_pos (by simpa using hr0)] at hst
      have HN := Lib.hid hst
      clear hst
      go_wp2_with fail
      go_ret
      exact ⟨by rw [HN.out]; exact congrArg (fun z => Ending.returned (.int .i64 z)) hneg, HX5.out⟩
   ·have hkmI : ¬ (k : Int) < (m : Int) := by omega
    have hds := HBeh.out k (by omega)
    rw [hds] at hst
    cases hz : (r != 0)
    ·have hr0 : r = 0 := by
      have h : r = 0 := by simpa using hz
      omega
     simp only [Bool.false_eq_true, if_false] at hst
     rw [if_neg (by simp [hr0])] at hst
     have HN := Lib.hid hst
     clear hst
     go_wp2_with fail
     go_roundw
     case rel => exact ⟨k + 1, by omega, by omega, by go_num, HN.out, HX5.out⟩
     case measure => simp [intOf]; omega
    ·have hr0 : r ≠ 0 := by
      have h : r ≠ 0 := by simpa using hz
      omega
     simp only [Bool.false_eq_true, if_false] at hst
     rw [if_pos (by simpa using hr0)] at hst
     have HN := Lib.hid hst
     clear hst
     go_wp2_with fail
     go_ret
     exact ⟨by rw [HN.out]; rfl, HX5.out⟩
  ·have hmin : ¬ (k : Int) < min (x.length : Int) (y.length : Int) := by omega
   have he := hord.trans (ordL_end fs ds k x y (by omega))
   have HE := Lib.hid he
   clear hord he
   go_wp2_with fail
   go_ret
   exact ⟨by rw [HE.out]; rfl, HXr.out⟩
end Go.Proofs.YtipokgedmfnlaaaGreatDoor
