import Derived.Test.YtchpbdodlbghaaaGreatDoorBase
import Derived.Test.YtchpbdodlbghaaaGreatDoorReg
import Derived.Test.YtchpbdodlbghaaaGreatDoorScrJ
import Derived.Test.YtchpbdodlbghaaaGreatDoorShelf
namespace Go.Proofs.YtchpbdodlbghaaaGreatDoor
open Go.RowKit Go.Lib
set_option maxRecDepth 100000

set_option maxHeartbeats 1000000 in
theorem btree_new (f : Int) (h4 : 4 ≤ f) (h64 : f ≤ 64) (w : World) :
    Calls Tryz.prog 22 #[.int .i64 f] w fun e w' => (∃ p, e = .returned (.tuple #[.pointer (some ⟨p, 0, none⟩), .int .i64 0])) ∧ Below w.heap.size w w' := by
  have e1 : ¬ f < 4 := by omega
  have e2 : ¬ 64 < f := by omega
  have b1 : decide (f < 4) = false := decide_eq_false e1
  have b2 : decide (64 < f) = false := decide_eq_false e2
  go_enter Tryz.func22, Tryz.ntmps22
  repeat (first | go_values | go_skip | go_guarded | go_step | go_upon)
  go_ret2
  exact ⟨⟨_, rfl⟩, by go_grown⟩
def DbAt (B : Nat) (w : World) (d : Nat) (f : Int) : Prop := ∃ M1 M2, B ≤ d ∧ B ≤ M1 ∧ B ≤ M2 ∧ Blk w d #[.int .i64 f, .map (some M1), .map (some M2)] 72 ∧ GMap Tryz.prog 282 w M1 [] ∧ GMap Tryz.prog 282 w M2 []
theorem DbAt.ext {B : Nat} {w w' : World} {d : Nat} {f : Int} (h : DbAt B w d f) (hx : Ext w w') : DbAt B w' d f := by
  obtain ⟨M1, M2, h1, h2, h3, h4, h5, h6⟩ := h
  exact ⟨M1, M2, h1, h2, h3, h4.keep hx, h5.keep hx, h6.keep hx⟩
theorem DbAt.mono {B B' : Nat} {w : World} {d : Nat} {f : Int} (h : DbAt B w d f) (hB : B' ≤ B) : DbAt B' w d f := by
  obtain ⟨M1, M2, h1, h2, h3, h4⟩ := h
  exact ⟨M1, M2, by omega, by omega, by omega, h4⟩
def DbPost (w : World) (f : Int) (e : Ending) (w' : World) : Prop := ∃ d, e = .returned (.tuple #[.pointer (some ⟨d, 0, none⟩), .int .i64 0]) ∧ DbAt w.heap.size w' d f ∧ Below w.heap.size w w'
set_option maxHeartbeats 1000000 in
theorem store_new (f : Int) (h4 : 4 ≤ f) (h64 : f ≤ 64) (w : World) :
    Calls Tryz.prog 13 #[.int .i64 f] w (DbPost w f) := by
  have hmm := @run_makeMap Tryz.prog
  have KB := Lib.hid (btree_new f h4 h64 w)
  go_enter Tryz.func13, Tryz.ntmps13
  repeat (first | go_values | go_skip | go_guarded | go_step | go_upon)
  refine KB.out.mono ?_
  rintro e w1 ⟨⟨p, rfl⟩, hb1⟩
  have HB := Lib.hid hb1
  clear hb1
  go_simp
  repeat (first | go_values | go_skip | go_guarded | go_step | go_upon)
  have hs := HB.out.size
  go_ret2
  exact ⟨_, rfl, ⟨_, _, by omega, by omega, by omega, Blk.new _ _ _ (by simp), ((GMap.new _ _ _ rfl).alloc _).alloc _, (GMap.new _ _ _ (by simp)).alloc _⟩, ((HB.out.alloc hs _).alloc (by simp; omega) _).alloc (by simp; omega) _⟩
def EngAt (B : Nat) (w : World) (g : Nat) (r b f p : Int) : Prop := ∃ d q, B ≤ g ∧ B ≤ q ∧ Blk w g #[.int .i64 r, .int .i64 b, .int .i64 f, .int .i64 p, .pointer (some ⟨d, 0, none⟩), .pointer (some ⟨q, 0, none⟩)] 51 ∧ DbAt B w d f ∧ RegAt w q
theorem EngAt.ext {B : Nat} {w w' : World} {g : Nat} {r b f p : Int} (h : EngAt B w g r b f p) (hx : Ext w w') : EngAt B w' g r b f p := by
  obtain ⟨d, q, h1, h2, h3, h4, h5⟩ := h
  exact ⟨d, q, h1, h2, h3.keep hx, h4.ext hx, h5.ext hx⟩
theorem EngAt.mono {B B' : Nat} {w : World} {g : Nat} {r b f p : Int} (h : EngAt B w g r b f p) (hB : B' ≤ B) : EngAt B' w g r b f p := by
  obtain ⟨d, q, h1, h2, h3, h4, h5⟩ := h
  exact ⟨d, q, by omega, by omega, h3, h4.mono hB, h5⟩
def okC (r b f p : Int) : Prop := 1 ≤ r ∧ r ≤ 1000000 ∧ 1 ≤ b ∧ b ≤ 100000 ∧ 4 ≤ f ∧ f ≤ 64 ∧ 0 ≤ p ∧ p ≤ 31
instance (r b f p : Int) : Decidable (okC r b f p) := by unfold okC; infer_instance
def cfV (r b f p : Int) : Value := .agg #[.int .i64 r, .int .i64 b, .int .i64 f, .int .i64 p]
def NoEng (w : World) (e : Ending) (w' : World) : Prop := e = .returned (.tuple #[.pointer none, .int .i64 1]) ∧ Below w.heap.size w w'
set_option maxHeartbeats 4000000 in
theorem engine_bad (r b f p : Int) (h : ¬ okC r b f p) (w : World) :
    Calls Tryz.prog 6 #[.agg #[.int .i64 r, .int .i64 b, .int .i64 f, .int .i64 p]] w (NoEng w) := by
  by_cases c0 : r < 1
  · have d0 : decide (r < 1) = true := decide_eq_true c0
    clear h
    go_enter Tryz.func6, Tryz.ntmps6
    repeat (first | go_values | go_skip | go_guarded | go_step | go_upon)
    go_ret2
    exact ⟨rfl, by go_grown⟩
  have d0 : decide (r < 1) = false := decide_eq_false c0
  by_cases c1 : 1000000 < r
  · have d1 : decide (1000000 < r) = true := decide_eq_true c1
    clear h
    go_enter Tryz.func6, Tryz.ntmps6
    repeat (first | go_values | go_skip | go_guarded | go_step | go_upon)
    go_ret2
    exact ⟨rfl, by go_grown⟩
  have d1 : decide (1000000 < r) = false := decide_eq_false c1
  by_cases c2 : b < 1
  · have d2 : decide (b < 1) = true := decide_eq_true c2
    clear h
    go_enter Tryz.func6, Tryz.ntmps6
    repeat (first | go_values | go_skip | go_guarded | go_step | go_upon)
    go_ret2
    exact ⟨rfl, by go_grown⟩
  have d2 : decide (b < 1) = false := decide_eq_false c2
  by_cases c3 : 100000 < b
  · have d3 : decide (100000 < b) = true := decide_eq_true c3
    clear h
    go_enter Tryz.func6, Tryz.ntmps6
    repeat (first | go_values | go_skip | go_guarded | go_step | go_upon)
    go_ret2
    exact ⟨rfl, by go_grown⟩
  have d3 : decide (100000 < b) = false := decide_eq_false c3
  by_cases c4 : f < 4
  · have d4 : decide (f < 4) = true := decide_eq_true c4
    clear h
    go_enter Tryz.func6, Tryz.ntmps6
    repeat (first | go_values | go_skip | go_guarded | go_step | go_upon)
    go_ret2
    exact ⟨rfl, by go_grown⟩
  have d4 : decide (f < 4) = false := decide_eq_false c4
  by_cases c5 : 64 < f
  · have d5 : decide (64 < f) = true := decide_eq_true c5
    clear h
    go_enter Tryz.func6, Tryz.ntmps6
    repeat (first | go_values | go_skip | go_guarded | go_step | go_upon)
    go_ret2
    exact ⟨rfl, by go_grown⟩
  have d5 : decide (64 < f) = false := decide_eq_false c5
  by_cases c6 : p < 0
  · have d6 : decide (p < 0) = true := decide_eq_true c6
    clear h
    go_enter Tryz.func6, Tryz.ntmps6
    repeat (first | go_values | go_skip | go_guarded | go_step | go_upon)
    go_ret2
    exact ⟨rfl, by go_grown⟩
  have d6 : decide (p < 0) = false := decide_eq_false c6
  by_cases c7 : 31 < p
  · have d7 : decide (31 < p) = true := decide_eq_true c7
    clear h
    go_enter Tryz.func6, Tryz.ntmps6
    repeat (first | go_values | go_skip | go_guarded | go_step | go_upon)
    go_ret2
    exact ⟨rfl, by go_grown⟩
  have d7 : decide (31 < p) = false := decide_eq_false c7
  exact absurd ⟨by omega, by omega, by omega, by omega, by omega, by omega, by omega, by omega⟩ h
def EngPost (w : World) (r b f p : Int) (e : Ending) (w' : World) : Prop := ∃ g, e = .returned (.tuple #[.pointer (some ⟨g, 0, none⟩), .int .i64 0]) ∧ EngAt w.heap.size w' g r b f p ∧ Below w.heap.size w w'
def isRegV (B : Nat) (v : Value) (w : World) : Prop := ∃ q, v = .pointer (some ⟨q, 0, none⟩) ∧ B ≤ q ∧ RegAt w q
def isEngR (B : Nat) (r b f p : Int) (d : Nat) (v : Value) (w : World) : Prop := ∃ q, v = .agg #[.int .i64 r, .int .i64 b, .int .i64 f, .int .i64 p, .pointer (some ⟨d, 0, none⟩), .pointer (some ⟨q, 0, none⟩)] ∧ B ≤ q ∧ RegAt w q
def isEng (B : Nat) (r b f p : Int) (d : Nat) (v : Value) (w : World) : Prop := ∃ g q, v = .pointer (some ⟨g, 0, none⟩) ∧ B ≤ g ∧ B ≤ q ∧ Blk w g #[.int .i64 r, .int .i64 b, .int .i64 f, .int .i64 p, .pointer (some ⟨d, 0, none⟩), .pointer (some ⟨q, 0, none⟩)] 51 ∧ RegAt w q
set_option maxHeartbeats 4000000 in
theorem engine_good (r b f p : Int) (h : okC r b f p) (w : World) :
    Calls Tryz.prog 6 #[.agg #[.int .i64 r, .int .i64 b, .int .i64 f, .int .i64 p]] w (EngPost w r b f p) := by
  obtain ⟨h1, h2, h3, h4, h5, h6, h7, h8⟩ := h
  have KS := Lib.hid (fun W => store_new f h5 h6 W)
  have d0 : decide (r < 1) = false := decide_eq_false (by omega)
  have d1 : decide (1000000 < r) = false := decide_eq_false (by omega)
  have d2 : decide (b < 1) = false := decide_eq_false (by omega)
  have d3 : decide (100000 < b) = false := decide_eq_false (by omega)
  have d4 : decide (f < 4) = false := decide_eq_false (by omega)
  have d5 : decide (64 < f) = false := decide_eq_false (by omega)
  have d6 : decide (p < 0) = false := decide_eq_false (by omega)
  have d7 : decide (31 < p) = false := decide_eq_false (by omega)
  have c0 : ¬ r < 1 := by omega
  have c1 : ¬ 1000000 < r := by omega
  have c2 : ¬ b < 1 := by omega
  have c3 : ¬ 100000 < b := by omega
  have c4 : ¬ f < 4 := by omega
  have c5 : ¬ 64 < f := by omega
  have c6 : ¬ p < 0 := by omega
  have c7 : ¬ 31 < p := by omega
  go_enter Tryz.func6, Tryz.ntmps6
  go_upto_region 1 with (fail)
  have hx0 : Ext w (w.alloc (.cells #[.int .i64 r, .int .i64 b, .int .i64 f, .int .i64 p] 23)) := (Ext.refl w).alloc _
  have hC0 := Blk.new w #[.int .i64 r, .int .i64 b, .int .i64 f, .int .i64 p] 23 (n := w.heap.size) rfl
  generalize w.alloc (.cells #[.int .i64 r, .int .i64 b, .int .i64 f, .int .i64 p] 23) = W0 at hx0 hC0 ⊢
  have HX0 := Lib.hid hx0
  have HW0 := Lib.hid hx0.size
  have HC0 := Lib.hid hC0
  obtain ⟨cc, fc⟩ := hC0.facts
  clear hx0 hC0
  repeat (first | go_values | go_skip | go_guarded | go_step | go_upon)
  refine (KS.out W0).mono ?_
  rintro e w1 ⟨d, rfl, hd, hb1⟩
  have HX1 := Lib.hid (show Ext w w1 from HX0.out.trans hb1)
  have HC1 := Lib.hid (HC0.out.keep hb1)
  have HD1 := Lib.hid hd
  obtain ⟨cc, fc⟩ := HC1.out.facts
  clear hb1 hd HX0 KS
  go_simp
  go_upto_region 6 with (fail)
  have HF := Lib.hid (show ∀ W, Ext w1 W → ∀ o, W.cell? ⟨w.heap.size, o, none⟩ = (#[.int .i64 r, .int .i64 b, .int .i64 f, .int .i64 p] : Array Value)[o]? from fun W hW => (HC1.out.keep hW).cell)
  have HS1 := Lib.hid HX1.out.size
  refine wp_par 7 (fun
      | 0 => fun v _ => v = .agg #[.int .i64 r, .int .i64 b, .int .i64 f, .int .i64 p]
      | 1 => fun v _ => v = .pointer (some ⟨d, 0, none⟩)
      | 2 => isRegV w1.heap.size
      | 3 => isEngR w1.heap.size r b f p d
      | 4 => isEng w1.heap.size r b f p d
      | 5 => isEng w1.heap.size r b f p d
      | 6 => fun v _ => v = .int .i64 0
      | _ => fun _ _ => True) (by kernel_rfl) (by kernel_rfl) (by kernel_rfl) ?_ ?_
  · simp (maxSteps := 20000000) only [List.take_succ_cons, List.take_zero, ParAll, Act.put, List.setIfInBounds_toArray, List.set_cons_succ, List.set_cons_zero]
    refine ⟨?_, ?_, ?_, ?_, ?_, ?_, ?_, trivial⟩
    · intro vals W hx hd
      have hW := HF.out W hx
      simp [PDeps, pdeps, Region.binds] at hd
      first
        | refine ParOb.plain rfl ?_
        | refine ParOb.wanted (by simp [Region.wanted, yielded, hd]) ?_
      go_simp
      exact ParPost.same fun _ _ => rfl
    · intro vals W hx hd
      have hW := HF.out W hx
      simp [PDeps, pdeps, Region.binds] at hd
      first
        | refine ParOb.plain rfl ?_
        | refine ParOb.wanted (by simp [Region.wanted, yielded, hd]) ?_
      go_simp
      exact ParPost.same fun _ _ => rfl
    · intro vals W hx hd
      have hW := HF.out W hx
      simp [PDeps, pdeps, Region.binds] at hd
      first
        | refine ParOb.plain rfl ?_
        | refine ParOb.wanted (by simp [Region.wanted, yielded, hd]) ?_
      go_simp
      refine (regnew_any W).mono ?_
      rintro e w2 ⟨q, rfl, hq, hr, hb⟩
      exact ⟨_, rfl, hb, fun w3 h3 => ⟨q, rfl, by have := hx.size; omega, hr.ext h3⟩⟩
    · intro vals W hx hd
      have hW := HF.out W hx
      simp [PDeps, pdeps, Region.binds] at hd
      first
        | refine ParOb.plain rfl ?_
        | refine ParOb.wanted (by simp [Region.wanted, yielded, hd]) ?_
      obtain ⟨_, _, q, hv, hq, hr⟩ := hd
      go_simp
      exact ParPost.same fun w3 h3 => ⟨q, rfl, hq, hr.ext h3⟩
    · intro vals W hx hd
      have hW := HF.out W hx
      simp [PDeps, pdeps, Region.binds] at hd
      first
        | refine ParOb.plain rfl ?_
        | refine ParOb.wanted (by simp [Region.wanted, yielded, hd]) ?_
      obtain ⟨q, hv, hq, hr⟩ := hd
      go_simp
      exact ⟨(Ext.refl _).alloc _, fun w3 h3 => ⟨_, q, rfl, by have := hx.size; omega, hq, (Blk.new _ _ _ rfl).keep h3, (hr.ext ((Ext.refl _).alloc _)).ext h3⟩⟩
    · intro vals W hx hd
      have hW := HF.out W hx
      simp [PDeps, pdeps, Region.binds] at hd
      first
        | refine ParOb.plain rfl ?_
        | refine ParOb.wanted (by simp [Region.wanted, yielded, hd]) ?_
      go_simp
      exact ParPost.same fun w3 h3 => by
        obtain ⟨g, q, hv, hg, hq, hb, hr⟩ := hd.1
        exact ⟨g, q, hv, hg, hq, hb.keep h3, hr.ext h3⟩
    · intro vals W hx hd
      have hW := HF.out W hx
      simp [PDeps, pdeps, Region.binds] at hd
      first
        | refine ParOb.plain rfl ?_
        | refine ParOb.wanted (by simp [Region.wanted, yielded, hd]) ?_
      go_simp
      exact ParPost.same fun _ _ => rfl
  intro vals W hx hf
  simp (maxSteps := 20000000) only [ParFacts, List.take_succ_cons, List.take_zero, and_true, Nat.reduceAdd] at hf
  obtain ⟨f0, f1, f2, f3, f4, f5, f6⟩ := hf
  simp (maxSteps := 20000000) only [List.drop_succ_cons, List.drop_zero, List.take_succ_cons, List.take_zero, ParEnd, Act.put, List.setIfInBounds_toArray, List.set_cons_succ, List.set_cons_zero, Nat.reduceAdd, f0, f1, f6]
  clear f0 f1 f6
  generalize vals 2 = y2 at f2 ⊢
  generalize vals 3 = y3 at f3 ⊢
  generalize vals 4 = y4 at f4 ⊢
  generalize vals 5 = y5 at f5 ⊢
  clear f2 f3 f4
  have HXW := Lib.hid (HX1.out.trans hx)
  have HDW := Lib.hid ((HD1.out.mono (show w.heap.size ≤ W0.heap.size from HW0.out)).ext hx)
  clear hx
  obtain ⟨g, q, rfl, hg, hq, hb, hr⟩ := f5
  have HE := Lib.hid (show EngAt w.heap.size W g r b f p from ⟨d, q, by have := HS1.out; omega, by have := HS1.out; omega, hb, HDW.out, hr⟩)
  clear hb hr hg hq
  repeat (first | go_values | go_skip | go_guarded | go_step | go_upon)
  go_ret2
  exact ⟨g, rfl, HE.out, HXW.out⟩
end Go.Proofs.YtchpbdodlbghaaaGreatDoor
namespace Go.Proofs.YtchpbdodlbghaaaGreatDoor
open Go.RowKit Go.Lib
set_option maxRecDepth 100000

def AllIn (l : List UInt8) (t : ByteArray) : Prop := ∀ x ∈ t.data.toList, x ∈ l
set_option maxHeartbeats 4000000 in
theorem trimRight_all (b : Nat) (l : List UInt8) (s : ByteArray) (w : World) (hS : ∀ x : UInt8, x ∈ l → w.cell? ⟨b, x.toNat, none⟩ = some (.bool true)) (ha : AllIn l s) (hs : s.size ≤ 1000000) :
    Calls Tryz.prog 30 #[.string s, .pointer (some ⟨b, 0, none⟩)] w fun e w' => e = .returned (.string ⟨#[]⟩) ∧ w' = w := by
  have HS := Lib.hid hS
  have HA := Lib.hid ha
  clear hS ha
  go_enter Tryz.func30, Tryz.ntmps30
  repeat (first | go_values | go_skip | go_guarded | go_step | go_upon)
  go_loopw [0] (fun v W => ∃ t : ByteArray, v = .string t ∧ AllIn l t ∧ t.size ≤ s.size ∧ W = w) (fun v _ => match v with | .string t => t.size | _ => 0)
  case atStart => exact ⟨s, rfl, HA.out, Nat.le_refl _, rfl⟩
  case round =>
    obtain ⟨t, rfl, ht, hts, rfl⟩ := hrel
    have HT := Lib.hid ht
    clear ht
    by_cases h0 : 0 < t.size
    · go_wp2_with fail
      have hx : t[t.size - 1]'(by omega) ∈ l := HT.out _ (by simp [ByteArray.getElem_eq_getElem_data])
      refine (Tryz.asciiSet_contains b (t[t.size - 1]'(by omega)) true _ (HS.out _ hx)).mono ?_
      rintro e w2 ⟨rfl, rfl⟩
      go_simp
      repeat (first | go_values | go_skip | go_guarded | go_step | go_upon)
      go_roundw
      case rel =>
        refine ⟨_, rfl, fun x hx => HT.out x ?_, by simp [ByteArray.size_extract]; omega, trivial⟩
        simp [ByteArray.data_extract] at hx
        exact List.dropLast_subset _ hx
      case measure => simp [ByteArray.size_extract]; omega
    · have ht0 : t = ⟨#[]⟩ := by
        have h1 : t.size = 0 := by omega
        have h2 : t.data.size = 0 := h1
        cases t with
        | mk d => exact congrArg ByteArray.mk (Array.size_eq_zero_iff.1 h2)
      subst ht0
      repeat (first | go_values | go_skip | go_guarded | go_step | go_upon)
      go_ret
      exact ⟨rfl, rfl⟩
theorem trimLeft_none (b : Nat) (w : World) : Calls Tryz.prog 29 #[.string ⟨#[]⟩, .pointer (some ⟨b, 0, none⟩)] w fun e w' => e = .returned (.string ⟨#[]⟩) ∧ w' = w := by
  go_enter Tryz.func29, Tryz.ntmps29
  repeat (first | go_values | go_skip | go_guarded | go_step | go_upon)
  go_loopw [0] (fun v W => v = .string ⟨#[]⟩ ∧ W = w) (fun _ _ => 0)
  case atStart => exact ⟨rfl, rfl⟩
  case round =>
    obtain ⟨rfl, rfl⟩ := hrel
    repeat (first | go_values | go_skip | go_guarded | go_step | go_upon)
    go_ret
    exact ⟨rfl, rfl⟩
def nmL : List UInt8 := [97, 98, 99, 100, 101, 102, 103, 104, 105, 106, 107, 108, 109, 110, 111, 112, 113, 114, 115, 116, 117, 118, 119, 120, 121, 122, 48, 49, 50, 51, 52, 53, 54, 55, 56, 57, 95]
theorem zeroSet : ∀ w, (zeroValue 86).run Tryz.prog w = .ok (.agg (Array.replicate 256 (.bool false))) w := fun _ => by kernel_rfl
theorem infoSet : (Tryz.prog.info? 86).map (·.size) = some 256 := by kernel_rfl
set_option maxHeartbeats 4000000 in
theorem trim_all (s : ByteArray) (w : World) (hse : (s.toList == []) = false) (hs : s.size ≤ 1000000) (ha : AllIn nmL s) :
    Calls Tryz.prog 17 #[.string s, .string ⟨nmL.toArray⟩] w fun e w' => e = .returned (.string ⟨#[]⟩) ∧ Below w.heap.size w w' := by
  have HA := Lib.hid ha
  clear ha
  have hce : nmL.isEmpty = false := rfl
  have hcl : (nmL.length : Int) = 37 := rfl
  go_enter Tryz.func17, Tryz.ntmps17
  repeat (first | go_values | go_skip | go_guarded | go_step | go_upon)
  refine (Tryz.strings_makeASCIISet zeroSet ⟨nmL.toArray⟩ _ (by decide) ?_).mono ?_
  · intro j b hj
    have hm := List.mem_of_getElem? hj
    have hall : ∀ b ∈ nmL, b.toNat < 128 := by decide
    exact hall b hm
  rintro e w2 ⟨rfl, rfl⟩
  generalize hSC : Lib.setCells (⟨nmL.toArray⟩ : ByteArray).data.toList = sc
  have hsz : sc.size = 256 := by rw [← hSC]; exact Lib.setCells_size _
  have hall : sc.all (·.oneCell') = true := by
    rw [← hSC, Lib.setCells_eq, Array.all_eq_true]
    intro i hi
    simp [Value.oneCell']
  have hin : ∀ x : UInt8, x ∈ nmL → sc[x.toNat]? = some (.bool true) := by
    intro x hx
    rw [← hSC, Lib.setCells_at]
    simp [hx]
  have HSZ := Lib.hid hsz
  have HAL := Lib.hid hall
  have HIN := Lib.hid hin
  clear hSC hsz hall hin
  have hz := zeroSet
  go_simp
  go_wp2_with (refine wpList_store_row rfl 86 (.tmp 5) (.tmp 32) rfl (w.heap.size + 1) sc rfl rfl 86 (Array.replicate 256 (.bool false)) (Blk.new (w.alloc (.cells sc 86)) (Array.replicate 256 (.bool false)) 86 (by simp)) (by rw [HSZ.out]; exact infoSet) (by rw [HSZ.out, Array.size_replicate]) HAL.out ?_)
  rw [show ((w.alloc (.cells sc 86)).alloc (.cells (Array.replicate 256 (.bool false)) 86)).setRow (w.heap.size + 1) sc = (w.alloc (.cells sc 86)).alloc (.cells sc 86) from by
    have := World.setRow_alloc_new (w.alloc (.cells sc 86)) (Array.replicate 256 (.bool false)) sc 86
    simpa using this]
  clear hz
  have hB : Blk ((w.alloc (.cells sc 86)).alloc (.cells sc 86)) (w.heap.size + 1) sc 86 := Blk.new (w.alloc (.cells sc 86)) sc 86 (by simp)
  have hX : Below w.heap.size w ((w.alloc (.cells sc 86)).alloc (.cells sc 86)) := by go_grown
  generalize ((w.alloc (.cells sc 86)).alloc (.cells sc 86)) = W1 at hB hX ⊢
  repeat (first | go_values | go_skip | go_guarded | go_step | go_upon)
  refine (trimRight_all (w.heap.size + 1) nmL s W1 (fun x hx => (hB.cell _).trans (HIN.out x hx)) HA.out hs).mono ?_
  rintro e w3 ⟨rfl, rfl⟩
  go_simp
  repeat (first | go_values | go_skip | go_guarded | go_step | go_upon)
  refine (trimLeft_none (w.heap.size + 1) _).mono ?_
  rintro e w4 ⟨rfl, rfl⟩
  go_simp
  repeat (first | go_values | go_skip | go_guarded | go_step | go_upon)
  go_ret
  exact ⟨rfl, hX⟩
def lowF (c : Int) : Int := if 65 ≤ c ∧ c ≤ 90 then c + 32 else c
theorem low_any (x : Int) (h0 : 0 ≤ x) (h1 : x ≤ 1114111) (w : World) : Calls Tryz.prog 201 #[.int .i32 x] w fun e w' => e = .returned (.int .i32 (lowF x)) ∧ w' = w := by
  have hw : IntKind.i32.wrap (x + 32) = x + 32 := by
    simp [IntKind.wrap, IntKind.signed, IntKind.bits]
    omega
  go_enter Tryz.func201, Tryz.ntmps201
  go_wp2_with fail
  all_goals
    go_ret
    refine ⟨?_, rfl⟩
    unfold lowF
    first
      | (rw [if_pos (by omega)]; simp_all; done)
      | (rw [if_neg (by omega)]; rfl)
theorem mapLow (w : World) : MapAtRunes Tryz.prog 201 #[] lowF w := by
  intro W x hx _
  refine (low_any (x : Int) (by omega) (by omega) W).mono ?_
  rintro e w' ⟨rfl, rfl⟩
  exact ⟨rfl, 0, rfl⟩
set_option maxHeartbeats 4000000 in
theorem regname_any (s m : ByteArray) (w : World) (hm : (Lib.mapD lowF s.data.toList).toArray = m.data) (hse : (s.toList == []) = false) (hme : (m.toList == []) = false) (h0 : 0 < s.size) (hs : s.size ≤ 16) (hb : 57 < (s[0]'h0).toNat) (hms : m.size ≤ 1000) (hall : AllIn nmL m) (hT : Lib.Utf8Tabs 1 2 w) :
    Calls Tryz.prog 134 #[.string s] w fun e w' => e = .returned (.tuple #[.string m, .bool true]) ∧ Below w.heap.size w w' := by
  have HT := Lib.hid hT
  have HM := Lib.hid hm
  have HA := Lib.hid hall
  clear hT hm hall
  go_enter Tryz.func134, Tryz.ntmps134
  go_wp2_with fail
  refine (Tryz.strings_Map_runes 201 #[] (fun _ _ => by kernel_rfl) lowF s w (by omega) (mapLow w) (fun x hx => by unfold lowF; split <;> omega) HT.out).mono ?_
  rintro e w2 ⟨rfl, hb2⟩
  rw [HM.out]
  have HX2 := Lib.hid hb2
  clear hb2
  go_simp
  repeat (first | go_values | go_skip | go_guarded | go_step | go_upon)
  refine (trim_all m _ hme (by omega) HA.out).mono ?_
  rintro e w3 ⟨rfl, hb3⟩
  have HX3 : Hid (Below w.heap.size w w3) := Lib.hid (HX2.out.trans (hb3.mono HX2.out.size))
  clear hb3
  go_simp
  repeat (first | go_values | go_skip | go_guarded | go_step | go_upon)
  go_ret2
  exact ⟨rfl, HX3.out⟩
end Go.Proofs.YtchpbdodlbghaaaGreatDoor
namespace Go.Proofs.YtchpbdodlbghaaaGreatDoor
open Go.RowKit Go.Lib
set_option maxRecDepth 100000

def binS : ByteArray := ⟨#[98, 105, 110, 97, 114, 121]⟩
theorem name_bin (w : World) (hT : Lib.Utf8Tabs 1 2 w) : Calls Tryz.prog 134 #[.string ⟨#[98, 105, 110, 97, 114, 121]⟩] w fun e w' => e = .returned (.tuple #[.string ⟨#[98, 105, 110, 97, 114, 121]⟩, .bool true]) ∧ Below w.heap.size w w' :=
  regname_any _ _ w (by decide +kernel) (by decide +kernel) (by decide +kernel) (by decide) (by decide) (by decide) (by decide) (by unfold AllIn; decide) hT
theorem blk5K {W : World} {g : Nat} {a b c d e : Value} {t : TypeId} (h : Blk W g #[a, b, c, d, e] t) (a' b' c' d' e' : Value) :
    Blk (((((W.setCell ⟨g, 0, none⟩ a').setCell ⟨g, 1, none⟩ b').setCell ⟨g, 2, none⟩ c').setCell ⟨g, 3, none⟩ d').setCell ⟨g, 4, none⟩ e') g #[a', b', c', d', e'] t :=
  ((((h.set 0 a').set 1 b').set 2 c').set 3 d').set 4 e'
theorem ret_collK {t u : Tmp} {fn : Func} (h : fn.results = #[.cell t 77, .tmp u]) (tmps : Array Value) {w : World} {g : Nat} {cs : Array Value} (hc : cs.size = 5) (hp : tmps.getD t undef = .pointer (some ⟨g, 0, none⟩)) (hg : Blk w g cs 77) :
    (results fn tmps).run Tryz.prog w = .ok (.tuple #[.agg cs, tmps.getD u undef]) w := by
  have hp' : tmps[t]?.getD undef = .pointer (some ⟨g, 0, none⟩) := by simpa using hp
  have hr := run_loadVar_row w g 77 77 cs (0, 0) _ hg Tryz.underlying77 rfl (by rw [hc]; kernel_rfl)
  simp [results, h, hp', asAddr, hr]
theorem ret_scol {t u : Tmp} {fn : Func} (h : fn.results = #[.cell t 177, .tmp u]) (tmps : Array Value) {w : World} {g : Nat} {cs : Array Value} (hc : cs.size = 9) (hp : tmps.getD t undef = .pointer (some ⟨g, 0, none⟩)) (hg : Blk w g cs 177) :
    (results fn tmps).run Tryz.prog w = .ok (.tuple #[.agg cs, tmps.getD u undef]) w := by
  have hp' : tmps[t]?.getD undef = .pointer (some ⟨g, 0, none⟩) := by simpa using hp
  have hr := run_loadVar_row w g 177 177 cs (0, 0) _ hg Tryz.underlying177 rfl (by rw [hc]; kernel_rfl)
  simp [results, h, hp', asAddr, hr]
theorem infoSCol : (Tryz.prog.info? 177).map (·.size) = some 9 := by kernel_rfl
theorem infoCl : (Tryz.prog.info? 77).map (·.size) = some 5 := by kernel_rfl
set_option maxHeartbeats 4000000 in
theorem get_bin (q : Nat) (w : World) (hR : RegAt w q) (hT : ∀ W, Ext w W → Lib.Utf8Tabs 1 2 W) :
    Calls Tryz.prog 136 #[.pointer (some ⟨q, 0, none⟩), .string ⟨#[98, 105, 110, 97, 114, 121]⟩] w fun e w' => e = .returned (.tuple #[cB, .bool true]) ∧ Below w.heap.size w w' := by
  have HR := Lib.hid hR
  have KN := Lib.hid (fun W (hW : Ext w W) => name_bin W (hT W hW))
  clear hR hT
  unfold cB
  go_enter Tryz.func136, Tryz.ntmps136
  repeat (first | go_values | go_skip | go_guarded | go_step | go_upon)
  have hT0 : Blk (w.alloc (.cells #[.int .i64 0, .int .i64 0, .bool false, .bool false, .pointer none] 77)) w.heap.size #[.int .i64 0, .int .i64 0, .bool false, .bool false, .pointer none] 77 := Blk.new w _ _ rfl
  have hx0 : Ext w (w.alloc (.cells #[.int .i64 0, .int .i64 0, .bool false, .bool false, .pointer none] 77)) := (Ext.refl _).alloc _
  generalize (w.alloc (.cells #[.int .i64 0, .int .i64 0, .bool false, .bool false, .pointer none] 77)) = W0 at hT0 hx0 ⊢
  refine (KN.out W0 hx0).mono ?_
  rintro e w2 ⟨rfl, hb2⟩
  have hT2 := hT0.keep hb2
  have HT2 := Lib.hid hT2
  obtain ⟨M, l, hq, hl, hm, _⟩ := HR.out.ext (Below.trans hx0 (hb2.mono hx0.size))
  have HX2 : Hid (Below w.heap.size w w2) := Lib.hid (Below.trans hx0 (hb2.mono hx0.size))
  have HL := Lib.hid hl
  have HMm := Lib.hid hm
  obtain ⟨cq, fq⟩ := hq.facts
  obtain ⟨ct, ft⟩ := hT2.facts
  have hs2 := hT2.lt
  clear hT0 hx0 hb2 hT2 hl hm hq
  unfold kB cB at HMm
  go_simp
  go_wp2_with (at_lookup; refine wpList_look rfl _ _ _ _ rfl M (.tuple #[.agg #[.int .i64 1, .int .i64 0, .bool false, .bool false, .pointer none], .bool true]) rfl (HL.out.run_hit keyedName Tryz.underlying79 HMm.out true) ?_)
  have hb := HX2.out
  refine bodyPost_ret (ret_collK rfl _ rfl rfl ((blk5K HT2.out _ _ _ _ _).alloc _)) rfl ?_
  exact ⟨rfl, by go_grown⟩
def scA : Array Value := #[.string ⟨#[97]⟩, .string ⟨#[98, 105, 110, 97, 114, 121]⟩, .int .i64 2, .int .i64 1, .int .i64 0, .bool false, .bool false, .pointer none, .bool false]
set_option maxHeartbeats 4000000 in
theorem column_ct (gg q d : Nat) (r b f p : Int) (w : World) (hg : Blk w gg #[.int .i64 r, .int .i64 b, .int .i64 f, .int .i64 p, .pointer (some ⟨d, 0, none⟩), .pointer (some ⟨q, 0, none⟩)] 51) (hr : RegAt w q) (hT : ∀ W, Ext w W → Lib.Utf8Tabs 1 2 W) :
    Calls Tryz.prog 82 #[.pointer (some ⟨gg, 0, none⟩), .agg #[.string ⟨#[97]⟩, .string ⟨#[]⟩, .int .i64 2, .bool false, .bool false, .bool false]] w fun e w' => e = .returned (.tuple #[.agg scA, .int .i64 0]) ∧ Below w.heap.size w w' := by
  have KG := Lib.hid (fun W (hW : Ext w W) => get_bin q W (hr.ext hW) (fun V hV => hT V (Ext.trans hW hV)))
  have KN := Lib.hid (fun W (hW : Ext w W) => name_bin W (hT W hW))
  have hgl := hg.lt
  have hx0 : Ext w ((w.alloc (.cells #[.string ⟨#[97]⟩, .string ⟨#[]⟩, .int .i64 2, .bool false, .bool false, .bool false] 175)).alloc (.cells #[.string ⟨#[]⟩, .string ⟨#[]⟩, .int .i64 0, .int .i64 0, .int .i64 0, .bool false, .bool false, .pointer none, .bool false] 177)) := ((Ext.refl w).alloc _).alloc _
  have hB0 : Blk ((w.alloc (.cells #[.string ⟨#[97]⟩, .string ⟨#[]⟩, .int .i64 2, .bool false, .bool false, .bool false] 175)).alloc (.cells #[.string ⟨#[]⟩, .string ⟨#[]⟩, .int .i64 0, .int .i64 0, .int .i64 0, .bool false, .bool false, .pointer none, .bool false] 177)) w.heap.size #[.string ⟨#[97]⟩, .string ⟨#[]⟩, .int .i64 2, .bool false, .bool false, .bool false] 175 := (Blk.new w _ _ rfl).alloc _
  have hR0 : Blk ((w.alloc (.cells #[.string ⟨#[97]⟩, .string ⟨#[]⟩, .int .i64 2, .bool false, .bool false, .bool false] 175)).alloc (.cells #[.string ⟨#[]⟩, .string ⟨#[]⟩, .int .i64 0, .int .i64 0, .int .i64 0, .bool false, .bool false, .pointer none, .bool false] 177)) (w.heap.size + 1) #[.string ⟨#[]⟩, .string ⟨#[]⟩, .int .i64 0, .int .i64 0, .int .i64 0, .bool false, .bool false, .pointer none, .bool false] 177 := Blk.new _ _ _ (by simp)
  have hG0 := hg.keep hx0
  have HX0 := Lib.hid hx0
  have HB0 := Lib.hid hB0
  have HR0 := Lib.hid hR0
  have HG0 := Lib.hid hG0
  clear hg hr hx0 hB0 hR0 hG0 hT
  go_enter Tryz.func82, Tryz.ntmps82
  go_upto_region 1 with (fail)
  generalize (w.alloc (.cells #[.string ⟨#[97]⟩, .string ⟨#[]⟩, .int .i64 2, .bool false, .bool false, .bool false] 175)).alloc (.cells #[.string ⟨#[]⟩, .string ⟨#[]⟩, .int .i64 0, .int .i64 0, .int .i64 0, .bool false, .bool false, .pointer none, .bool false] 177) = W0 at HX0 HB0 HR0 HG0 ⊢
  obtain ⟨cb, fb⟩ := HB0.out.facts
  obtain ⟨cg, fg⟩ := HG0.out.facts
  have hbl := HB0.out.lt
  have hgl0 := HG0.out.lt
  repeat (first | go_values | go_skip | go_guarded | go_step | go_upon)
  refine (KG.out W0 HX0.out).mono ?_
  rintro e w1 ⟨rfl, hb1⟩
  unfold cB
  have HX1 := Lib.hid (HX0.out.trans hb1)
  have HB1 := Lib.hid (HB0.out.keep hb1)
  have HR1 := Lib.hid (HR0.out.keep hb1)
  clear hb1 HX0 HB0 HR0 HG0 cb fb cg fg KG
  have hxa : Ext w1 (w1.alloc (.cells #[.int .i64 0, .int .i64 0, .bool false, .bool false, .pointer none] 77)) := (Ext.refl w1).alloc _
  have HCa := Lib.hid (Blk.new w1 #[.int .i64 0, .int .i64 0, .bool false, .bool false, .pointer none] 77 rfl)
  have HBa := Lib.hid (HB1.out.keep hxa)
  have HRa := Lib.hid (HR1.out.keep hxa)
  have HXa := Lib.hid (HX1.out.trans hxa)
  have hs1 := HX1.out.size
  have hrl := HR1.out.lt
  go_wp2_with (generalize w1.alloc (.cells #[.int .i64 0, .int .i64 0, .bool false, .bool false, .pointer none] 77) = Wa at HCa HBa HRa HXa ⊢; refine wpList_store_row rfl 77 (.tmp 7) (.tmp 30) rfl w1.heap.size #[.int .i64 1, .int .i64 0, .bool false, .bool false, .pointer none] rfl rfl 77 #[.int .i64 0, .int .i64 0, .bool false, .bool false, .pointer none] HCa.out infoCl rfl (by simp [Value.oneCell']) ?_; have HC2 := Lib.hid (show Blk (Wa.setRow w1.heap.size #[.int .i64 1, .int .i64 0, .bool false, .bool false, .pointer none]) w1.heap.size #[.int .i64 1, .int .i64 0, .bool false, .bool false, .pointer none] 77 from setRow_heap Wa _ _ _ _ _ HCa.out); have HB2 := Lib.hid (show Blk (Wa.setRow w1.heap.size #[.int .i64 1, .int .i64 0, .bool false, .bool false, .pointer none]) w.heap.size _ 175 from (setRow_other Wa w1.heap.size w.heap.size _ (by omega)).trans HBa.out); have HR2 := Lib.hid (show Blk (Wa.setRow w1.heap.size #[.int .i64 1, .int .i64 0, .bool false, .bool false, .pointer none]) (w.heap.size + 1) _ 177 from (setRow_other Wa w1.heap.size (w.heap.size + 1) _ (by omega)).trans HRa.out); have HX2 := Lib.hid (below_row HXa.out hs1 #[.int .i64 1, .int .i64 0, .bool false, .bool false, .pointer none]); generalize Wa.setRow w1.heap.size #[.int .i64 1, .int .i64 0, .bool false, .bool false, .pointer none] = W2 at HC2 HB2 HR2 HX2 ⊢; clear HCa HBa HRa HXa hxa)
  refine (KN.out W2 HX2.out).mono ?_
  rintro e w3 ⟨rfl, hb3⟩
  have HX3 := Lib.hid (Below.trans HX2.out (hb3.mono HX2.out.size))
  have HC3 := Lib.hid (HC2.out.keep hb3)
  have HB3 := Lib.hid (HB2.out.keep hb3)
  have HR3 := Lib.hid (HR2.out.keep hb3)
  clear hb3 HX2 HC2 HB2 HR2 KN
  obtain ⟨cb, fb⟩ := HB3.out.facts
  obtain ⟨cc, fc⟩ := HC3.out.facts
  have hbl3 := HB3.out.lt
  have hcl3 := HC3.out.lt
  go_simp
  go_wp2_with (refine wpList_store_row rfl 177 (.tmp 4) (.tmp 48) rfl (w.heap.size + 1) #[.string ⟨#[97]⟩, .string ⟨#[98, 105, 110, 97, 114, 121]⟩, .int .i64 2, .int .i64 1, .int .i64 0, .bool false, .bool false, .pointer none, .bool false] rfl rfl 177 #[.string ⟨#[]⟩, .string ⟨#[]⟩, .int .i64 0, .int .i64 0, .int .i64 0, .bool false, .bool false, .pointer none, .bool false] HR3.out infoSCol rfl (by simp [Value.oneCell']) ?_)
  refine bodyPost_ret (ret_scol rfl _ rfl rfl (setRow_heap w3 (w.heap.size + 1) #[.string ⟨#[]⟩, .string ⟨#[]⟩, .int .i64 0, .int .i64 0, .int .i64 0, .bool false, .bool false, .pointer none, .bool false] #[.string ⟨#[97]⟩, .string ⟨#[98, 105, 110, 97, 114, 121]⟩, .int .i64 2, .int .i64 1, .int .i64 0, .bool false, .bool false, .pointer none, .bool false] _ _ HR3.out)) rfl ?_
  exact ⟨rfl, below_row HX3.out (by omega) #[.string ⟨#[97]⟩, .string ⟨#[98, 105, 110, 97, 114, 121]⟩, .int .i64 2, .int .i64 1, .int .i64 0, .bool false, .bool false, .pointer none, .bool false]⟩
end Go.Proofs.YtchpbdodlbghaaaGreatDoor
