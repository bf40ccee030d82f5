/-
 The leaves on the road of the law of LIMIT and OFFSET: a number's eight bytes, a value that is an integer, its key. Rows in groups: the keys, the map of the keys found, the groups as a slice of slices (exec.Groups over whatever the key of a row is). What the law of LIMIT and OFFSET calls: the two cuts are one, and the layer is awake.
-/
import Derived.Test.YtipokgedmfnlaaaGreatDoorProg
import Derived.Test.YtipokgedmfnlaaaGreatDoorBase
import Derived.Test.YtipokgedmfnlaaaGreatDoorPar
import Derived.Test.YtipokgedmfnlaaaGreatDoorGMap
import Derived.Test.YtipokgedmfnlaaaGreatDoorOwn
import Derived.DeepKeys4
import Derived.Deep.DeepMust
namespace Go.Proofs.YtipokgedmfnlaaaGreatDoor
open Go.RowKit

def turnU (n : Int) : Int := bits BinOp.xor IntKind.u64 (IntKind.u64.wrap n) 9223372036854775808
def num8 (u : Int) : List Int := [u / 72057594037927936 % 256, u / 281474976710656 % 256, u / 1099511627776 % 256, u / 4294967296 % 256, u / 16777216 % 256, u / 65536 % 256, u / 256 % 256, u % 256]
/-- An integer's key. -/
def keyS (k : Int) : ByteArray := ⟨#[3] ++ (strOfNums (num8 (turnU k))).data⟩
theorem keyS_size (k : Int) : (keyS k).size = 9 := by
 show (#[3] ++ (strOfNums (num8 (turnU k))).data).size = 9
 rw [Array.size_append]
 show 1 + (strOfNums (num8 (turnU k))).size = 9
 rw [strOfNums_size]; rfl

set_option maxHeartbeats 400000 in
theorem turn_any (n : Int) (w : World) :
  Calls Tryz.prog 200 #[.int .i64 n] w fun e w' => e = .returned (.int .u64 (turnU n)) ∧ w = w' := by
 go_enter Tryz.func200, Tryz.ntmps200
 go_wp2
 go_returns
 exact ⟨rfl, rfl⟩
set_option maxRecDepth 100000 in
set_option maxHeartbeats 1000000 in
theorem number_any (n : Int) (w : World) (h0 : 0 ≤ turnU n) (h1 : turnU n < 18446744073709551616) :
  Calls Tryz.prog 136 #[.int .i64 n] w fun e w' => e = .returned (.string (strOfNums (num8 (turnU n)))) ∧ Below w.heap.size w w' := by
 generalize hu : turnU n = u at *
 have HU := Lib.hid hu
 clear hu
 go_enter Tryz.func136, Tryz.ntmps136
 go_wp2_with fail
 refine (turn_any n w).mono ?_
 rintro e w' ⟨rfl, rfl⟩
 rw [HU.out]
 go_wp2_with fail
 refine wp_loop_rounds 9 ?_
 repeat any_goals (rw [rounds_succ]; go_wp2)
 rw [run_convert_bytes_arg _ 123 5 Tryz.underlying123 Tryz.underlying5 w.heap.size 0 8 8 (num8 u) rfl ?hc 9 Tryz.underlying9]
 case hc =>
  intro i hi
  have : i = 0 ∨ i = 1 ∨ i = 2 ∨ i = 3 ∨ i = 4 ∨ i = 5 ∨ i = 6 ∨ i = 7 := by omega
  rcases this with rfl | rfl | rfl | rfl | rfl | rfl | rfl | rfl <;> (simp [go_sem, num8]; try omega)
 go_wp2
 go_returns
 refine ⟨rfl, by go_grown⟩
set_option maxHeartbeats 400000 in
theorem int_any (n : Int) (w : World) :
  Calls Tryz.prog 44 #[.int .i64 n] w fun e w' => e = .returned (.agg #[.int .i64 2, .int .i64 n, .string ⟨#[]⟩]) ∧ Below w.heap.size w w' := by
 go_enter Tryz.func44, Tryz.ntmps44
 go_wp2
 go_returns
 refine ⟨rfl, by go_grown⟩
set_option maxHeartbeats 400000 in
theorem null_any (w : World) :
  Calls Tryz.prog 63 #[] w fun e w' => e = .returned (.agg #[.int .i64 0, .int .i64 0, .string ⟨#[]⟩]) ∧ Below w.heap.size w w' := by
 go_enter Tryz.func63, Tryz.ntmps63
 go_wp2
 go_returns
 refine ⟨rfl, by go_grown⟩
set_option maxHeartbeats 400000 in
theorem ok_int (n : Int) (w : World) :
  Calls Tryz.prog 112 #[.agg #[.int .i64 2, .int .i64 n, .string ⟨#[]⟩]] w fun e w' => e = .returned (.bool true) ∧ Below w.heap.size w w' := by
 go_enter Tryz.func112, Tryz.ntmps112
 go_wp2
 go_returns
 refine ⟨rfl, by go_grown⟩
set_option maxHeartbeats 400000 in
theorem is_int (n : Int) (w : World) :
  Calls Tryz.prog 65 #[.agg #[.int .i64 2, .int .i64 n, .string ⟨#[]⟩]] w fun e w' => e = .returned (.agg #[.int .i64 2, .int .i64 n, .string ⟨#[]⟩]) ∧ Below w.heap.size w w' := by
 go_enter Tryz.func65, Tryz.ntmps65
 go_wp2
 go_returns
 refine ⟨rfl, by go_grown⟩
set_option maxHeartbeats 400000 in
theorem at_nil (i : Int) (h0 : 0 ≤ i) (w : World) :
  Calls Tryz.prog 70 #[.slice none 0 0, .int .i64 i] w fun e w' => e = .returned (.agg #[.int .i64 1, .int .i64 0, .bool false, .bool false, .pointer none]) ∧ Below w.heap.size w w' := by
 go_enter Tryz.func70, Tryz.ntmps70
 go_wp2
 go_returns
 refine ⟨rfl, by go_grown⟩
set_option maxRecDepth 100000 in
set_option maxHeartbeats 1000000 in
theorem value_int (n : Int) (w : World) (h0 : 0 ≤ turnU n) (h1 : turnU n < 18446744073709551616) :
  Calls Tryz.prog 84 #[.agg #[.int .i64 2, .int .i64 n, .string ⟨#[]⟩], .agg #[.int .i64 1, .int .i64 0, .bool false, .bool false, .pointer none, .bool false]] w fun e w' => e = .returned (.string ⟨#[3] ++ (strOfNums (num8 (turnU n))).data⟩) ∧ Below w.heap.size w w' := by
 have H0 := Lib.hid h0
 have H1 := Lib.hid h1
 clear h0 h1
 go_enter Tryz.func84, Tryz.ntmps84
 go_wp2_with fail
 refine (is_int n _).mono ?_
 rintro e w1 ⟨rfl, hb⟩
 have k0 : Blk w1 w.heap.size #[.int .i64 2, .int .i64 n, .string ⟨#[]⟩] 45 := (Blk.alloc (Blk.new _ _ _ rfl) _).keep hb
 have k1 : Blk w1 (w.heap.size + 1) #[.int .i64 1, .int .i64 0, .bool false, .bool false, .pointer none, .bool false] 165 := (Blk.new _ _ _ (by simp)).keep hb
 obtain ⟨c0, f0⟩ := k0.facts
 obtain ⟨c1, f1⟩ := k1.facts
 have hz := hb.size
 simp at hz
 have K0 := Lib.hid k0
 have K1 := Lib.hid k1
 have hb0 : Below w.heap.size w w1 := (((Below.refl _ _).alloc (Nat.le_refl _) _).alloc (by simp) _).trans (hb.mono (by simp; omega))
 have HB0 := Lib.hid hb0
 clear hb0
 have HB := Lib.hid hb
 clear k0 k1 hb
 dsimp only
 go_upto_region 9 with (fail)
 have hK0 : ∀ W, Ext (((w1.setCell ⟨w.heap.size, 0, none⟩ (.int .i64 2)).setCell ⟨w.heap.size, 1, none⟩ (.int .i64 n)).setCell ⟨w.heap.size, 2, none⟩ (.string ⟨#[]⟩)) W → W.cell? ⟨w.heap.size, 1, none⟩ = some (.int .i64 n) := by
  intro W hx
  exact ((((K0.out.set 0 _).set 1 _).set 2 _).keep hx).cell 1
 have HK0 := Lib.hid hK0
 clear hK0
 refine wp_par 7 (fun
  | 0 => fun v W => ∃ b, v = .slice (some ⟨b, 0, none⟩) 1 1 ∧ Blk W b #[.int .u8 3] 5
  | 1 => fun v _ => v = .string ⟨#[3]⟩
  | 2 => fun v _ => v = .pointer (some ⟨w.heap.size, 1, none⟩)
  | 3 => fun v _ => v = .int .i64 n
  | 4 => fun v _ => v = .string (strOfNums (num8 (turnU n)))
  | _ => fun v _ => v = .string ⟨#[3] ++ (strOfNums (num8 (turnU n))).data⟩) (by kernel_rfl) (by kernel_rfl) (by kernel_rfl) ?_ ?_
 ·simp only [List.take_succ_cons, List.take_zero, ParAll, Act.put, List.setIfInBounds_toArray, List.set_cons_succ, List.set_cons_zero]
  refine ⟨?_, ?_, ?_, ?_, ?_, ?_, ?_, trivial⟩
  ·intro vals W hx hd
   refine ParOb.plain rfl ?_
   go_simp
   exact ⟨(Ext.refl _).alloc _, fun w2 h2 => ⟨_, rfl, (Blk.new _ _ _ rfl).keep h2⟩⟩
  ·intro vals W hx hd
   refine ParOb.plain rfl ?_
   obtain ⟨h0, h1⟩ := hd
   clear h1
   dsimp only at h0
   obtain ⟨b, h0, hk⟩ := h0
   go_simp
   rw [run_convert_bytes_arg _ 123 5 Tryz.underlying123 Tryz.underlying5 b 0 1 1 [3] rfl ?hc 9 Tryz.underlying9]
   case hc =>
    intro i hi
    obtain rfl : i = 0 := by omega
    rw [hk.cell]; rfl
   go_simp
   exact ⟨Ext.refl _, fun _ _ => rfl⟩
  ·intro vals W hx hd
   refine ParOb.plain rfl ?_
   go_simp
   exact ⟨Ext.refl _, fun _ _ => rfl⟩
  ·intro vals W hx hd
   refine ParOb.plain rfl ?_
   simp [PDeps, pdeps, Region.binds] at hd
   have c := HK0.out W hx
   go_simp
   exact ⟨Ext.refl _, fun _ _ => rfl⟩
  ·intro vals W hx hd
   refine ParOb.plain rfl ?_
   simp [PDeps, pdeps, Region.binds] at hd
   go_simp
   refine (number_any n W H0.out H1.out).mono ?_
   rintro e w2 ⟨rfl, hb2⟩
   exact ⟨_, rfl, hb2, fun _ _ => rfl⟩
  ·intro vals W hx hd
   refine ParOb.plain rfl ?_
   simp [PDeps, pdeps, Region.binds] at hd
   have hsz : (strOfNums (num8 (turnU n))).size = 8 := by simp [strOfNums_size, num8]
   go_simp
   exact ⟨Ext.refl _, fun _ _ => rfl⟩
  ·intro vals W hx hd
   refine ParOb.plain rfl ?_
   simp [PDeps, pdeps, Region.binds] at hd
   go_simp
   exact ⟨Ext.refl _, fun _ _ => rfl⟩
 intro vals W hx hf
 simp [ParFacts] at hf
 obtain ⟨⟨b, h0, -⟩, hf⟩ := hf
 simp only [List.drop, ParEnd, List.take, Act.put, List.setIfInBounds_toArray, List.set_cons_succ, List.set_cons_zero, h0, hf]
 clear h0 hf
 have k1 : Blk W (w.heap.size + 1) #[.int .i64 1, .int .i64 0, .bool false, .bool false, .pointer none, .bool false] 165 := (((K1.out.other (by simp) _).other (by simp) _).other (by simp) _).keep hx
 have hW : Below w.heap.size w W := (((HB0.out.setCell (Nat.le_refl _) _).setCell (Nat.le_refl _) _).setCell (Nat.le_refl _) _).trans (Below.mono hx (by simp; omega))
 obtain ⟨c4, f4⟩ := k1.facts
 clear c0 f0 c1 f1 hx k1
 have HW := Lib.hid hW
 clear hW
 refine wpList_nil ?_
 go_wp2
 go_returns
 exact ⟨rfl, HW.out⟩

set_option maxRecDepth 100000 in
set_option maxHeartbeats 1000000 in
theorem key_int (rb : Nat) (k : Int) (w : World) (hk : 0 ≤ turnU k ∧ turnU k < 18446744073709551616) (hr : Blk w rb #[.int .i64 2, .int .i64 k, .string ⟨#[]⟩] 45) :
  Calls Tryz.prog 45 #[.slice (some ⟨rb, 0, none⟩) 1 1, .slice none 0 0] w fun e w' => e = .returned (.agg #[.string (keyS k), .string ⟨#[]⟩, .string ⟨#[]⟩, .string ⟨#[]⟩, .string ⟨#[]⟩]) ∧ Below w.heap.size w w' := by
 have HK := Lib.hid hk
 clear hk
 obtain ⟨c0, f0⟩ := hr.facts
 have hl := hr.lt
 have HR := Lib.hid hr
 clear hr f0
 go_enter Tryz.func45, Tryz.ntmps45
 go_wp2_with fail
 refine wp_loop_rounds 2 ?_
 rw [rounds_succ]
 go_upto_region 5 with (fail)
 have hF : ∀ W, Ext ((((w.alloc (.cells #[.string ⟨#[]⟩, .string ⟨#[]⟩, .string ⟨#[]⟩, .string ⟨#[]⟩, .string ⟨#[]⟩] 103)).alloc (.cells #[.string ⟨#[]⟩, .string ⟨#[]⟩, .string ⟨#[]⟩, .string ⟨#[]⟩, .string ⟨#[]⟩] 103))).alloc (.cells #[.int .i64 2, .int .i64 k, .string ⟨#[]⟩] 45)) W →
   (∀ o, W.cell? ⟨w.heap.size + 1, o, none⟩ = #[Value.string ⟨#[]⟩, .string ⟨#[]⟩, .string ⟨#[]⟩, .string ⟨#[]⟩, .string ⟨#[]⟩][o]?) ∧ (∀ o, W.frozen? ⟨w.heap.size + 1, o, none⟩ = false) ∧
   (∀ o, W.cell? ⟨w.heap.size + 1 + 1, o, none⟩ = #[Value.int .i64 2, .int .i64 k, .string ⟨#[]⟩][o]?) ∧
   (∀ o, W.cell? ⟨w.heap.size, o, none⟩ = #[Value.string ⟨#[]⟩, .string ⟨#[]⟩, .string ⟨#[]⟩, .string ⟨#[]⟩, .string ⟨#[]⟩][o]?) ∧ (∀ o, W.frozen? ⟨w.heap.size, o, none⟩ = false) := by
  intro W hx
  have k0 := (((Blk.new w #[.string ⟨#[]⟩, .string ⟨#[]⟩, .string ⟨#[]⟩, .string ⟨#[]⟩, .string ⟨#[]⟩] 103 rfl).alloc (.cells #[.string ⟨#[]⟩, .string ⟨#[]⟩, .string ⟨#[]⟩, .string ⟨#[]⟩, .string ⟨#[]⟩] 103)).alloc (.cells #[.int .i64 2, .int .i64 k, .string ⟨#[]⟩] 45)).keep hx
  have k1 := ((Blk.new (w.alloc (.cells #[.string ⟨#[]⟩, .string ⟨#[]⟩, .string ⟨#[]⟩, .string ⟨#[]⟩, .string ⟨#[]⟩] 103)) #[.string ⟨#[]⟩, .string ⟨#[]⟩, .string ⟨#[]⟩, .string ⟨#[]⟩, .string ⟨#[]⟩] 103 (n := w.heap.size + 1) (by simp)).alloc (.cells #[.int .i64 2, .int .i64 k, .string ⟨#[]⟩] 45)).keep hx
  have k2 := (Blk.new ((w.alloc (.cells #[.string ⟨#[]⟩, .string ⟨#[]⟩, .string ⟨#[]⟩, .string ⟨#[]⟩, .string ⟨#[]⟩] 103)).alloc (.cells #[.string ⟨#[]⟩, .string ⟨#[]⟩, .string ⟨#[]⟩, .string ⟨#[]⟩, .string ⟨#[]⟩] 103)) #[.int .i64 2, .int .i64 k, .string ⟨#[]⟩] 45 (n := w.heap.size + 1 + 1) (by simp)).keep hx
  exact ⟨k1.cell, k1.free, k2.cell, k0.cell, k0.free⟩
 have HF := Lib.hid hF
 clear hF
 refine wp_par 12 (fun
   | 0 => fun v _ => v = .int .i64 0
   | 1 => fun v _ => v = .int .i64 0
   | 2 => fun v _ => v = .pointer (some ⟨w.heap.size + 1, 0, none⟩)
   | 3 => fun v _ => v = .string ⟨#[]⟩
   | 4 => fun v _ => v = .agg #[.int .i64 2, .int .i64 k, .string ⟨#[]⟩]
   | 5 => fun v _ => v = .slice none 0 0
   | 6 => fun v _ => v = .int .i64 0
   | 7 => fun v _ => v = .agg #[.int .i64 1, .int .i64 0, .bool false, .bool false, .pointer none]
   | 8 => fun v _ => v = .agg #[.int .i64 1, .int .i64 0, .bool false, .bool false, .pointer none, .bool false]
   | 9 => fun v _ => v = .string (keyS k)
   | 10 => fun v _ => v = .string (keyS k)
   | 11 => fun v _ => v = .pointer (some ⟨w.heap.size + 1, 0, none⟩)
   | _ => fun _ _ => True) (by kernel_rfl) (by kernel_rfl) (by kernel_rfl) ?_ ?_
 ·simp (maxSteps := 20000000) only [List.take_succ_cons, List.take_zero, ParAll, Act.put, List.setIfInBounds_toArray, List.set_cons_succ, List.set_cons_zero]
  refine ⟨?_, ?_, ?_, ?_, ?_, ?_, ?_, ?_, ?_, ?_, ?_, ?_, trivial⟩
  iterate 7
   next =>
    intro vals W hx hd
    have hW := HF.out W hx
    simp [PDeps, pdeps, Region.binds] at hd
    first
     | refine ParOb.plain rfl ?_
     | refine ParOb.wanted (by simp [Region.wanted, yielded, hd]) ?_
    go_simp
    exact ParPost.same fun _ _ => rfl
  ·intro vals W hx hd
   have hW := HF.out W hx
   simp [PDeps, pdeps, Region.binds] at hd
   first
    | refine ParOb.plain rfl ?_
    | refine ParOb.wanted (by simp [Region.wanted, yielded, hd]) ?_
   go_simp
   refine (at_nil 0 (by omega) W).mono ?_
   rintro e w2 ⟨rfl, hb2⟩
   exact ⟨_, rfl, hb2, fun _ _ => rfl⟩
  ·intro vals W hx hd
   have hW := HF.out W hx
   simp [PDeps, pdeps, Region.binds] at hd
   first
    | refine ParOb.plain rfl ?_
    | refine ParOb.wanted (by simp [Region.wanted, yielded, hd]) ?_
   go_simp
   exact ParPost.same fun _ _ => rfl
  ·intro vals W hx hd
   have hW := HF.out W hx
   simp [PDeps, pdeps, Region.binds] at hd
   first
    | refine ParOb.plain rfl ?_
    | refine ParOb.wanted (by simp [Region.wanted, yielded, hd]) ?_
   go_simp
   refine (value_int k W HK.out.1 HK.out.2).mono ?_
   rintro e w2 ⟨rfl, hb2⟩
   exact ⟨_, rfl, hb2, fun _ _ => rfl⟩
  ·intro vals W hx hd
   have hW := HF.out W hx
   simp [PDeps, pdeps, Region.binds] at hd
   first
    | refine ParOb.plain rfl ?_
    | refine ParOb.wanted (by simp [Region.wanted, yielded, hd]) ?_
   have hsz := keyS_size k
   go_simp
   exact ParPost.same fun _ _ => rfl
  ·intro vals W hx hd
   have hW := HF.out W hx
   simp [PDeps, pdeps, Region.binds] at hd
   first
    | refine ParOb.plain rfl ?_
    | refine ParOb.wanted (by simp [Region.wanted, yielded, hd]) ?_
   go_simp
   exact ParPost.same fun _ _ => rfl
 intro vals W hx hf
 simp (maxSteps := 20000000) only [ParFacts, List.take_succ_cons, List.take_zero, and_true] at hf
 simp (maxSteps := 20000000) only [List.drop_succ_cons, List.drop_zero, List.take_succ_cons, List.take_zero, ParEnd, Act.put, List.setIfInBounds_toArray, List.set_cons_succ, List.set_cons_zero, hf]
 clear hf
 have hW := HF.out W hx
 have hB : Below w.heap.size w W := ((((Below.refl _ _).alloc (Nat.le_refl _) _).alloc (by simp) _).alloc (by simp; omega) _).trans (Below.mono hx (by simp; omega))
 have HB := Lib.hid hB
 clear hB hx c0
 go_wp2
 rw [rounds_succ]
 go_wp2
 refine bodyPost_ret (v := .agg #[.string (keyS k), .string ⟨#[]⟩, .string ⟨#[]⟩, .string ⟨#[]⟩, .string ⟨#[]⟩]) (by simp [results, Tryz.results45, go_sem, hW]) rfl ⟨rfl, ?_⟩
 exact (((((HB.out.setCell (by simp) _).setCell (Nat.le_refl _) _).setCell (Nat.le_refl _) _).setCell (Nat.le_refl _) _).setCell (Nat.le_refl _) _).setCell (Nat.le_refl _) _
end Go.Proofs.YtipokgedmfnlaaaGreatDoor

namespace Go.Proofs.YtipokgedmfnlaaaGreatDoor
open Go.RowKit
/-- Five texts. -/
abbrev K5 := List UInt8 × List UInt8 × List UInt8 × List UInt8 × List UInt8
def bs (l : List UInt8) : ByteArray := ⟨l.toArray⟩
theorem bs_inj {a b : List UInt8} (h : bs a = bs b) : a = b := by
 have := congrArg (fun x : ByteArray => x.data.toList) h
 simpa [bs] using this
theorem bs_size (l : List UInt8) : (bs l).size = l.length := by simp [bs, ByteArray.size]
theorem bs_toList (s : ByteArray) : bs s.data.toList = s := rfl
def kv (x : K5) : Value := .agg #[.string (bs x.1), .string (bs x.2.1), .string (bs x.2.2.1), .string (bs x.2.2.2.1), .string (bs x.2.2.2.2)]
theorem kv_inj {x y : K5} (h : kv x = kv y) : x = y := by
 obtain ⟨a, b, c, d, e⟩ := x
 obtain ⟨a', b', c', d', e'⟩ := y
 simp only [kv, Value.agg.injEq, Array.mk.injEq, List.cons.injEq, Value.string.injEq, and_true] at h
 obtain ⟨h1, h2, h3, h4, h5⟩ := h
 rw [bs_inj h1, bs_inj h2, bs_inj h3, bs_inj h4, bs_inj h5]
def K5.ok (x : K5) : Prop := x.1.length ≤ maxLen ∧ x.2.1.length ≤ maxLen ∧ x.2.2.1.length ≤ maxLen ∧ x.2.2.2.1.length ≤ maxLen ∧ x.2.2.2.2.length ≤ maxLen
theorem laidOut : laidOutB Tryz.prog = true := by kernel_rfl
theorem rowGroup : (103 : TypeId) < Tryz.prog.types.size := of_decide_eq_true (by kernel_rfl)
theorem keyTypeGroup : Tryz.prog.keyType 103 = true := by kernel_rfl
theorem cellsGroup : Tryz.prog.cellsOf 103 = 5 := by kernel_rfl
theorem cellsString : Tryz.prog.cellsOf 9 = 1 := by kernel_rfl
theorem groupLaw : WideMaps.KeyLaw Tryz.prog 103 := deep_law_laid laidOut (m := 2) (by omega) rowGroup (by kernel_rfl) (by rw [Tryz.underlying103])
theorem keyOk5' {P : Program} {g s : TypeId} (hu : P.underlying g = some (.array 5 s)) (hs : P.underlying s = some .string) (hk : P.keyType g = true) (hc : P.cellsOf g = 5) (hcs : P.cellsOf s = 1) (hr : g < P.types.size) (x : K5) (h : x.ok) : KeyOk P g (kv x) := by
 obtain ⟨h1, h2, h3, h4, h5⟩ := h
 obtain ⟨d, hd⟩ : ∃ d, P.types.size = d + 1 := ⟨P.types.size - 1, (Nat.succ_pred_eq_of_pos (Nat.lt_of_le_of_lt (Nat.zero_le _) hr)).symm⟩
 unfold KeyOk keyOf kv
 rw [hu]
 simp [hk, Value.formed, hu, hc, Value.cells, Program.keyLits, hd, hcs, hs, bs_size, h1, h2, h3, h4, h5, List.range_succ]
theorem keyOk5 (x : K5) (h : x.ok) : KeyOk Tryz.prog 103 (kv x) :=
 keyOk5' Tryz.underlying103 Tryz.underlying9 keyTypeGroup cellsGroup cellsString rowGroup x h

/-! ### The plain law -/
/-- The keys found so far, in the order of their coming, and the places of each. -/
def gstep (K : Nat → K5) (st : List K5 × List (List Nat)) (i : Nat) : List K5 × List (List Nat) :=
 if K i ∈ st.1 then (st.1, st.2.set (st.1.idxOf (K i)) (st.2.getD (st.1.idxOf (K i)) [] ++ [i])) else (st.1 ++ [K i], st.2 ++ [[i]])
def gst (K : Nat → K5) : Nat → List K5 × List (List Nat)
 | 0 => ([], [])
 | i + 1 => gstep K (gst K i) i
theorem gst_ok (K : Nat → K5) : ∀ i, (gst K i).1.Nodup ∧ (gst K i).1.length = (gst K i).2.length ∧ (gst K i).1.length ≤ i ∧ (∀ l ∈ (gst K i).2, l.length ≤ i) ∧ ∀ x ∈ (gst K i).1, ∃ j, j < i ∧ x = K j
 | 0 => by simp [gst]
 | i + 1 => by
  obtain ⟨h1, h2, h3, h4, h5⟩ := gst_ok K i
  simp only [gst, gstep]
  split
  ·rename_i hm
   refine ⟨h1, by simpa using h2, by simp only []; omega, fun l hl => ?_, fun x hx => ?_⟩
   ·rcases List.mem_or_eq_of_mem_set hl with h | h
    ·have := h4 l h; omega
    ·subst h
     rw [List.length_append, List.length_singleton]
     have hlt : (gst K i).1.idxOf (K i) < (gst K i).2.length := by rw [← h2]; exact List.idxOf_lt_length_of_mem hm
     have := h4 _ (List.getElem_mem hlt)
     rw [List.getD_eq_getElem?_getD, List.getElem?_eq_getElem hlt]
     simp only [Option.getD_some]; omega
   ·obtain ⟨j, hj, e⟩ := h5 x hx
    exact ⟨j, by omega, e⟩
  ·rename_i hm
   refine ⟨?_, by simp [h2], by simp; omega, fun l hl => ?_, fun x hx => ?_⟩
   ·rw [List.nodup_append]
    exact ⟨h1, by simp, fun a ha b hb e => hm (by simp at hb; rw [← hb, ← e]; exact ha)⟩
   ·rcases List.mem_append.1 hl with h | h
    ·have := h4 l h; omega
    ·simp at h; subst h; simp
   ·rcases List.mem_append.1 hx with h | h
    ·obtain ⟨j, hj, e⟩ := h5 x h
     exact ⟨j, by omega, e⟩
    ·simp at h; exact ⟨i, by omega, h⟩

/-- What the map holds. -/
def gmap (l : List K5) : List (Value × Value) := (List.range l.length).map fun n => (kv (l.getD n default), .int .i64 (n : Int))
theorem gmap_snoc (l : List K5) (x : K5) : gmap (l ++ [x]) = gmap l ++ [(kv x, .int .i64 (l.length : Int))] := by
 simp only [gmap, List.length_append, List.length_singleton, List.range_succ, List.map_append, List.map_cons, List.map_nil]
 congr 1
 ·refine List.map_congr_left fun n hn => ?_
  rw [List.mem_range] at hn
  simp [List.getD_eq_getElem?_getD, List.getElem?_append_left hn]
 ·simp [List.getD_eq_getElem?_getD]
theorem gmap_miss {l : List K5} {x : K5} (h : x ∉ l) : ∀ p ∈ gmap l, p.1 ≠ kv x := by
 intro p hp e
 obtain ⟨n, hn, rfl⟩ := List.mem_map.1 hp
 rw [List.mem_range] at hn
 have := kv_inj e
 rw [List.getD_eq_getElem?_getD, List.getElem?_eq_getElem hn] at this
 exact h (this ▸ List.getElem_mem hn)
theorem gmap_hit {l : List K5} {x : K5} (h : x ∈ l) : (kv x, Value.int .i64 (l.idxOf x : Int)) ∈ gmap l := by
 have hlt := List.idxOf_lt_length_of_mem h
 refine List.mem_map.2 ⟨l.idxOf x, List.mem_range.2 hlt, ?_⟩
 rw [List.getD_eq_getElem?_getD, List.getElem?_eq_getElem hlt]
 simp
theorem gmap_ok {P : Program} {k : TypeId} {l : List K5} (h : ∀ x ∈ l, KeyOk P k (kv x)) : ∀ p ∈ gmap l, KeyOk P k p.1 := by
 intro p hp
 obtain ⟨n, hn, rfl⟩ := List.mem_map.1 hp
 rw [List.mem_range] at hn
 refine h _ ?_
 rw [List.getD_eq_getElem?_getD, List.getElem?_eq_getElem hn]
 exact List.getElem_mem hn
theorem gmap_nodup {l : List K5} (h : l.Nodup) : ((gmap l).map (·.1)).Nodup := by
 have e : (gmap l).map (·.1) = l.map kv := by
  apply List.ext_getElem?
  intro n
  simp only [gmap, List.map_map, List.getElem?_map]
  by_cases hn : n < l.length
  ·simp [hn, List.getD_eq_getElem?_getD]
  ·simp [List.getElem?_eq_none (show l.length ≤ n by omega), List.getElem?_eq_none (show (List.range l.length).length ≤ n by simp; omega)]
 rw [e]
 exact List.pairwise_map.2 (h.imp fun hne e => hne (kv_inj e))
/-- The places as Go has them. -/
def gcells (L : List (List Nat)) : List (List Value) := L.map fun l => l.map fun n : Nat => Value.int .i64 (n : Int)
theorem gcells_length (L : List (List Nat)) : (gcells L).length = L.length := by simp [gcells]
theorem gcells_hit {K : Nat → K5} {k n : Nat} {l : List Nat} (hm : K k ∈ (gst K k).1) (hn : (gst K k).1.idxOf (K k) = n) (hl : (gst K k).2[n]? = some l) :
  (gst K (k + 1)).1 = (gst K k).1 ∧ gcells (gst K (k + 1)).2 = (gcells (gst K k).2).set n ((l.map fun n : Nat => Value.int .i64 (n : Int)) ++ [.int .i64 (k : Int)]) := by
 simp only [gst, gstep, if_pos hm, hn, List.getD_eq_getElem?_getD, hl, Option.getD_some, true_and]
 simp [gcells, List.map_set]
theorem gcells_miss {K : Nat → K5} {k : Nat} (hm : K k ∉ (gst K k).1) :
  (gst K (k + 1)).1 = (gst K k).1 ++ [K k] ∧ (gcells (gst K k).2 ++ [[]]).set (gst K k).2.length [.int .i64 (k : Int)] = gcells (gst K (k + 1)).2 := by
 simp only [gst, gstep, if_neg hm, true_and]
 rw [← gcells_length, List.set_append_right _ _ (Nat.le_refl _)]
 simp [gcells]
theorem map_apart {w : World} {b B n size : Nat} {l : List (Value × Value)} {e : TypeId} {u : Value} {xs : List Value} (h : MapIs w b l) (hr : w.ownsRow B e size u n xs) : some b ≠ u.ownBlock := by
 intro he
 obtain ⟨es, c, h1, _⟩ := h
 obtain ⟨cur, h2, _⟩ := ownsRow_heap hr he.symm
 rw [h1] at h2
 simp at h2

/-! ### The walk -/
theorem info40 : (Tryz.prog.info? 40).map (fun i => (i.zero, i.size, i.bytes)) = some (some (.slice none 0 0), 1, 24) := by kernel_rfl
theorem info3 : (Tryz.prog.info? 3).map (fun i => (i.zero, i.size, i.bytes)) = some (some (.int .i64 0), 1, 8) := by kernel_rfl
theorem zeroInt (w : World) : (zeroValue 3).run Tryz.prog w = .ok (.int .i64 0) w := by kernel_rfl
set_option maxHeartbeats 400000 in
theorem clip_any (ao : Option Addr) (n cap : Nat) (w : World) (h : n ≤ cap) (_hc : cap ≤ 9223372036854775807) :
  Calls Tryz.prog 46 #[.slice ao n cap] w fun e w' => e = .returned (.slice ao n n) ∧ w = w' := by
 go_enter Tryz.func46, Tryz.ntmps46
 go_wp2
 go_ret
 exact ⟨rfl, rfl⟩
set_option maxRecDepth 100000 in
set_option maxHeartbeats 1000000 in
theorem groups_any (b o m c : Nat) (rowv : Nat → Value) (cv : Value) (K : Nat → K5) (w : World) (hm : m * 24 ≤ 140737488351232)
  (hrow : ∀ i, i < m → w.cell? ⟨b, o + i, none⟩ = some (rowv i)) (hkok : ∀ i, i < m → (K i).ok)
  (hkey : ∀ i, i < m → ∀ w1, Below w.heap.size w w1 → Calls Tryz.prog 45 #[rowv i, cv] w1 fun e w2 => e = .returned (kv (K i)) ∧ Below w1.heap.size w1 w2) :
  Calls Tryz.prog 14 #[.slice (some ⟨b, o, none⟩) m c, cv] w fun e w' => ∃ v, e = .returned v ∧ ReadsLL w' v (gcells (gst K m).2) ∧ Below w.heap.size w w' := by
 have HROW := Lib.hid hrow
 have HKOK := Lib.hid hkok
 have HKEY := Lib.hid hkey
 clear hrow hkok hkey
 have hmm := @run_makeMap Tryz.prog
 go_enter Tryz.func14, Tryz.ntmps14
 go_wp2_with fail
 go_loopw [5, 15] (fun v i wr => ∃ k : Nat, k ≤ m ∧ i = .int .i64 k ∧ OwnsLL wr w.heap.size 40 3 v (gcells (gst K k).2) ∧ MapIs wr w.heap.size (gmap (gst K k).1) ∧ Below w.heap.size w wr)
  (fun _ i _ => m - (intOf i).toNat)
 case atStart => exact ⟨0, Nat.zero_le _, rfl, OwnsLL.nil _ _ _ _, MapIs.new _ rfl, (Below.refl _ _).alloc (Nat.le_refl _) _⟩
 case round =>
  obtain ⟨k, hk, rfl, hown, hmap, hbel⟩ := hrel
  have hg := gst_ok K k
  have HOWN := Lib.hid hown
  have HMAP := Lib.hid hmap
  have HBEL := Lib.hid hbel
  have HG := Lib.hid hg
  clear hown hmap hbel hg
  by_cases hlt : k < m
  ·have hc : wr.cell? ⟨b, o + k, none⟩ = some (rowv k) := by
    have h := HROW.out k hlt
    rw [HBEL.out.cell (World.block_lt_of_cell? w _ h)]; exact h
   go_wp2_with fail
   refine (HKEY.out k hlt wr HBEL.out).mono ?_
   rintro e w1 ⟨rfl, hb1⟩
   obtain ⟨a0, a1, a2, a3, a4, hkv⟩ : ∃ a0 a1 a2 a3 a4, kv (K k) = .agg #[.string a0, .string a1, .string a2, .string a3, .string a4] := ⟨_, _, _, _, _, rfl⟩
   rw [hkv]
   have HKV := Lib.hid hkv
   clear hkv
   have HB1 := Lib.hid hb1
   clear hb1
   by_cases hmem : K k ∈ (gst K k).1
   ·obtain ⟨n, hn⟩ : ∃ n, (gst K k).1.idxOf (K k) = n := ⟨_, rfl⟩
    obtain ⟨l, hl⟩ : ∃ l, (gst K k).2[n]? = some l := ⟨_, List.getElem?_eq_getElem (by rw [← HG.out.2.1, ← hn]; exact List.idxOf_lt_length_of_mem hmem)⟩
    have hll : l.length ≤ k := HG.out.2.2.2.1 l (List.mem_of_getElem? hl)
    have hnl : n < (gst K k).2.length := (List.getElem?_eq_some_iff.1 hl).1
    have hlen : (gst K k).2.length ≤ k := by have := HG.out.2.1; have := HG.out.2.2.1; omega
    have hgl : (gcells (gst K k).2)[n]? = some (l.map fun n : Nat => Value.int .i64 (n : Int)) := by simp [gcells, hl]
    have hgt : gmap (gst K k).1 = gmap (gst K k).1 ∧ (kv (K k), Value.int .i64 (n : Int)) ∈ gmap (gst K k).1 := ⟨rfl, hn ▸ gmap_hit hmem⟩
    have hx : Below wr.heap.size wr (w1.alloc (.cells #[.string a0, .string a1, .string a2, .string a3, .string a4] 103)) := HB1.out.alloc HB1.out.size _
    have hlook : (Instr.lookup 101 (.map (some w.heap.size)) (.agg #[.string a0, .string a1, .string a2, .string a3, .string a4]) true).run Tryz.prog (w1.alloc (.cells #[.string a0, .string a1, .string a2, .string a3, .string a4] 103)) = .ok (.tuple #[.int .i64 (n : Int), .bool true]) (w1.alloc (.cells #[.string a0, .string a1, .string a2, .string a3, .string a4] 103)) := by
     rw [← HKV.out]
     exact run_lookup_hit groupLaw Tryz.underlying101 (HMAP.out.keep hx) (gmap_ok fun x hx => by
      obtain ⟨j, hj, rfl⟩ := HG.out.2.2.2.2 x hx
      exact keyOk5 _ (HKOK.out j (by omega))) (gmap_nodup HG.out.1) (keyOk5 _ (HKOK.out k hlt)) hgt.2
    obtain ⟨g, cap, vs, u, hv, o1, o2, o3, o4, o5, o6, o7, o8, o9, o10, o11⟩ := (HOWN.out.ext hx).at hgl
    subst hv
    have hlc : (gcells (gst K k).2).length = (gst K k).2.length := by simp [gcells]
    rw [hlc] at o1 o2 o11
    rw [hlc]
    have HN := Lib.hid hn
    have HM := Lib.hid hmem
    have HL := Lib.hid hl
    have HX := Lib.hid hx
    have HO := Lib.hid (And.intro o1 (And.intro o2 (And.intro o3 (And.intro o4 o5))))
    have HO6 := Lib.hid o6
    have HGL := Lib.hid hgl
    clear hn hl hgt hx o1 o2 o3 o4 o5 o6 hgl hlc hmem
    have hbA : w.heap.size ≤ (w1.alloc (.cells #[.string a0, .string a1, .string a2, .string a3, .string a4] 103)).heap.size := by
     have := HBEL.out.size; have := HX.out.size; omega
    go_wp2_with (at_builtin; go_must (refine wpList_push rfl _ _ 40 rfl w.heap.size 3 (.int .i64 0) 1 8 Tryz.underlying40 info3 rfl (by decide) _ _ _ rfl (HO6.out.alloc _) _ 3 #[.int .i64 k] rfl (Blk.new _ _ _ (by simp)) rfl ?_ ?_ ?_ ?_ ?_))
    ·rfl
    ·simp only [List.length_map]; unfold maxLen; omega
    ·simp only [List.length_map]; omega
    ·have := hbA; simp at this ⊢; omega
    ·intro v' w5 hown' hgrow hat
     obtain ⟨o1, o2, o3, o4, o5⟩ := HO.out
     have hgr := OwnsLL.grow (eo := 40) (ei := 3) (L := gcells (gst K k).2) (cap := cap) (n := n) (g := g) (x := .int .i64 k) (l := l.map fun n : Nat => Value.int .i64 (n : Int)) (by decide) (by simpa [gcells] using o1.alloc _) (by simpa [gcells] using o2) (fun j u l hu hl => (o3 j u l hu hl).alloc _) o4 o5 HGL.out (by simpa using hown') hgrow (by simpa using hat)
     obtain ⟨ao, cc, rfl, hcc⟩ := ownsRow_slice hown'
     obtain ⟨hll2, c5, f5⟩ := hgr
     have HLL := Lib.hid hll2
     have HGROW := Lib.hid hgrow
     clear hll2 hgrow hown' o1 o2 o3 o4 o5 hat hc hlook
     go_wp2
     go_roundw
     case rel =>
      obtain ⟨e1, e2⟩ := gcells_hit HM.out HN.out HL.out
      obtain ⟨o1, o2, o3, o4, o5⟩ := HO.out
      have m2 := (HMAP.out.keep HX.out).alloc (.cells #[.int .i64 (k : Int)] 3)
      refine ⟨k + 1, by omega, by go_num, ?_, ?_, ?_⟩
      ·rw [e2]
       simpa [gcells_length] using HLL.out
      ·rw [e1]
       exact (m2.grown HGROW.out (map_apart m2 (HO6.out.alloc _))).setCell (fun e => map_apart (HMAP.out.keep HX.out) o1 (by simp [Value.ownBlock, e])) _
      ·refine Below.setCell (((HBEL.out.trans (HX.out.mono HBEL.out.size)).alloc hbA _).grown HGROW.out (Nat.le_trans hbA (by simp)) (fun g hg => (HO6.out.lt g hg).1)) o9 _
     case measure => simp [intOf]; omega
   ·have hlen : (gst K k).2.length ≤ k := by have := HG.out.2.1; have := HG.out.2.2.1; omega
    have hx : Below wr.heap.size wr (w1.alloc (.cells #[.string a0, .string a1, .string a2, .string a3, .string a4] 103)) := HB1.out.alloc HB1.out.size _
    have hok : ∀ x ∈ (gst K k).1, KeyOk Tryz.prog 103 (kv x) := fun x hx => by
     obtain ⟨j, hj, rfl⟩ := HG.out.2.2.2.2 x hx
     exact keyOk5 _ (HKOK.out j (by omega))
    have hm0 := HMAP.out.keep hx
    have hlook : (Instr.lookup 101 (.map (some w.heap.size)) (.agg #[.string a0, .string a1, .string a2, .string a3, .string a4]) true).run Tryz.prog (w1.alloc (.cells #[.string a0, .string a1, .string a2, .string a3, .string a4] 103)) = .ok (.tuple #[.int .i64 0, .bool false]) (w1.alloc (.cells #[.string a0, .string a1, .string a2, .string a3, .string a4] 103)) := by
     rw [← HKV.out]
     exact run_lookup_miss groupLaw Tryz.underlying101 zeroInt hm0 (gmap_ok hok) (keyOk5 _ (HKOK.out k hlt)) (gmap_miss hmem)
    obtain ⟨w3, hupd, hmap3, hg3⟩ := run_update_miss groupLaw Tryz.underlying101 hm0 (gmap_ok hok) (keyOk5 _ (HKOK.out k hlt)) (gmap_miss hmem) (.int .i64 ((gst K k).2.length : Int))
    rw [HKV.out] at hupd
    have hOW := (HOWN.out.ext hx).grown hg3 (fun c e he => by
     obtain ⟨es, cl, h, _⟩ := hm0
     rw [h] at he; cases he)
    have hbel3 : Below w.heap.size w w3 := (HBEL.out.trans (hx.mono HBEL.out.size)).grown hg3 (by have := HBEL.out.size; have := hx.size; omega) (fun k hk => by cases hk; exact Nat.le_refl _)
    obtain ⟨vs, o1, o2, o3, o4⟩ := hOW
    obtain ⟨ao, cap, hv, hcap⟩ := ownsRow_slice o1
    subst hv
    rw [gcells_length] at *
    have HM := Lib.hid hmem
    have HX := Lib.hid hx
    have HM3 := Lib.hid hmap3
    have HBEL3 := Lib.hid hbel3
    have HO1 := Lib.hid o1
    have HO := Lib.hid (And.intro o2 (And.intro o3 o4))
    clear hx hok hm0 hmap3 hg3 hbel3 o1 o2 o3 o4 hmem
    go_wp2_with (at_builtin; go_must (refine wpList_push rfl _ _ 41 rfl w.heap.size 40 (.slice none 0 0) 1 24 Tryz.underlying41 info40 rfl (by decide) _ _ _ rfl (HO1.out.alloc _) _ 40 #[.slice none 0 0] rfl (Blk.new _ _ _ rfl) rfl ?_ ?_ ?_ ?_ ?_))
    ·rfl
    ·unfold maxLen; omega
    ·omega
    ·have := HBEL3.out.size; simp; omega
    ·intro v4 w4 hown4 hgrow4 hat4
     obtain ⟨o2, o3, o4⟩ := HO.out
     have hLL := OwnsLL.push (eo := 40) (ei := 3) (L := gcells (gst K k).2) (by decide) (by simpa [gcells] using HO1.out.alloc _) (by simpa [gcells] using o2) (fun j u l hu hl => (o3 j u l hu hl).alloc _) o4 (by simpa [gcells_length] using hown4) hgrow4
     have hm4 := (HM3.out.alloc (.cells #[.slice none 0 0] 40)).grown hgrow4 (map_apart (HM3.out.alloc (.cells #[.slice none 0 0] 40)) (HO1.out.alloc (.cells #[.slice none 0 0] 40)))
     have hbel4 : Below w.heap.size w w4 := (HBEL3.out.alloc HBEL3.out.size _).grown hgrow4 (by have := HBEL3.out.size; simp; omega) (fun g hg => (HO1.out.lt g hg).1)
     obtain ⟨g, cp, vs4, u, hv, p1, p2, p3, p4, p5, p6, p7, p8, p9, p10, p11⟩ := hLL.at (n := (gst K k).2.length) (l := []) (by simp [gcells])
     subst hv
     have hl4 : (gcells (gst K k).2 ++ [[]]).length = (gst K k).2.length + 1 := by simp [gcells]
     rw [hl4] at p1 p11
     rw [hl4]
     obtain ⟨au, cu, hu, hcu⟩ := ownsRow_slice p6
     subst hu
     have HP6 := Lib.hid p6
     have HP1 := Lib.hid p1
     have HP := Lib.hid (And.intro p2 (And.intro p3 (And.intro p4 p5)))
     have HM4 := Lib.hid hm4
     have HBEL4 := Lib.hid hbel4
     clear o2 o3 o4 hLL hm4 hbel4 hgrow4 hat4 hown4 p1 p2 p3 p4 p5 p6 hlook hupd hl4 hc
     go_wp2_with (at_builtin; go_must (refine wpList_push rfl _ _ 40 rfl w.heap.size 3 (.int .i64 0) 1 8 Tryz.underlying40 info3 rfl (by decide) _ _ _ rfl (HP6.out.alloc _) _ 3 #[.int .i64 k] rfl (Blk.new _ _ _ rfl) rfl ?_ ?_ ?_ ?_ ?_))
     ·rfl
     ·unfold maxLen; simp
     ·simp
     ·have := HBEL4.out.size; simp; omega
     ·intro v' w5 hown' hgrow hat
      obtain ⟨o2, o3, o4, o5⟩ := HP.out
      have hgr := OwnsLL.grow (eo := 40) (ei := 3) (L := gcells (gst K k).2 ++ [[]]) (cap := cp) (n := (gst K k).2.length) (g := g) (x := .int .i64 k) (l := []) (by decide) (by simpa [gcells] using HP1.out.alloc _) (by simpa [gcells] using o2) (fun j u l hu hl => (o3 j u l hu hl).alloc _) o4 o5 (by simp [gcells]) (by simpa using hown') hgrow (by simpa using hat)
      obtain ⟨ao, cc, rfl, hcc⟩ := ownsRow_slice hown'
      obtain ⟨hll2, c5, f5⟩ := hgr
      have HLL := Lib.hid hll2
      have HGROW := Lib.hid hgrow
      clear hll2 hgrow hown' o2 o3 o4 o5 hat
      go_wp2
      go_roundw
      case rel =>
       obtain ⟨e1, e2⟩ := gcells_miss HM.out
       refine ⟨k + 1, by omega, by go_num, ?_, ?_, ?_⟩
       ·rw [← e2]
        simpa [gcells_length] using HLL.out
       ·rw [e1, gmap_snoc, HG.out.2.1]
        exact ((HM4.out.alloc (.cells #[.int .i64 (k : Int)] 3)).grown HGROW.out (map_apart (HM4.out.alloc (.cells #[.int .i64 (k : Int)] 3)) (HP6.out.alloc (.cells #[.int .i64 (k : Int)] 3)))).setCell (fun e => map_apart HM4.out HP1.out (by simp [Value.ownBlock, e])) _
       ·exact Below.setCell ((HBEL4.out.alloc HBEL4.out.size _).grown HGROW.out (Nat.le_trans HBEL4.out.size (by simp)) (fun g hg => (HP6.out.lt g hg).1)) p9 _
      case measure => simp [intOf]; omega
  ·obtain rfl : k = m := by omega
   go_wp2_with fail
   have hsh : ∃ ao cap, u5 = .slice ao (gst K k).2.length cap ∧ (gst K k).2.length ≤ cap ∧ cap ≤ 9223372036854775807 := by
    rcases HOWN.out.shape with ⟨h1, h2⟩ | ⟨g, cap, h1, h2, _, _, h3⟩
    ·have h0 : (gst K k).2.length = 0 := by rw [← gcells_length, h2]; rfl
     exact ⟨none, 0, by rw [h1, h0], by omega, by omega⟩
    ·exact ⟨_, cap, by rw [h1, gcells_length], by rw [← gcells_length]; exact h2, by unfold maxLen at h3; omega⟩
   obtain ⟨ao, cap, rfl, h1, h2⟩ := hsh
   refine (clip_any ao _ cap _ h1 h2).mono ?_
   rintro e w' ⟨rfl, rfl⟩
   go_wp2
   go_ret
   exact ⟨_, rfl, HOWN.out.reads, HBEL.out⟩
end Go.Proofs.YtipokgedmfnlaaaGreatDoor

namespace Go.Proofs.YtipokgedmfnlaaaGreatDoor
open Go.RowKit

def cutF (n o : Int) : Int := if o < 0 then 0 else if n < o then n else o
def cutT (n l o : Int) : Int := if l < 0 then n else if n - cutF n o < l then n else cutF n o + l
set_option maxHeartbeats 1000000 in
theorem cut_any (n l o : Int) (w : World) (hn : 0 ≤ n) (hn2 : n ≤ 65535) (hl : -9223372036854775808 ≤ l ∧ l ≤ 9223372036854775807) (ho : -9223372036854775808 ≤ o ∧ o ≤ 9223372036854775807) :
  Calls Tryz.prog 43 #[.int .i64 n, .int .i64 l, .int .i64 o] w fun e w' => e = .returned (.tuple #[.int .i64 (cutF n o), .int .i64 (cutT n l o)]) ∧ w = w' := by
 go_enter Tryz.func43, Tryz.ntmps43
 go_wp2
 all_goals (go_ret2; refine ⟨?_, rfl⟩)
 all_goals (simp only [Ending.returned.injEq, Value.tuple.injEq, Array.mk.injEq, List.cons.injEq, and_true, Array.getD_eq_getD_getElem?, List.getElem?_toArray]; simp [cutF, cutT]; (repeat' split at *) <;> omega)

theorem turn1 : turnU 1 = 9223372036854775809 := by decide
theorem turn2 : turnU 2 = 9223372036854775810 := by decide
/-- The keys of three rows: 1, 2, 1. -/
def aK (i : Nat) : K5 := ((keyS (if i = 1 then 2 else 1)).data.toList, [], [], [], [])
theorem aK_groups : (gst aK 3).2 = [[0, 2], [1]] := by decide
theorem aK_kv (i : Nat) : kv (aK i) = .agg #[.string (keyS (if i = 1 then 2 else 1)), .string ⟨#[]⟩, .string ⟨#[]⟩, .string ⟨#[]⟩, .string ⟨#[]⟩] := rfl
theorem aK_ok (i : Nat) : (aK i).ok := by
 have h := keyS_size (if i = 1 then 2 else 1)
 refine ⟨?_, ?_, ?_, ?_, ?_⟩ <;> simp only [aK, List.length_nil, maxLen]
 ·have e : (keyS (if i = 1 then 2 else 1)).data.toList.length = 9 := h
  omega
 all_goals omega

set_option maxRecDepth 100000 in
set_option maxHeartbeats 1000000 in
theorem awake23 (w : World) :
  Calls Tryz.prog 12 #[] w fun e w' => e = .returned (.bool true) ∧ Below w.heap.size w w' := by
 go_enter Tryz.func12, Tryz.ntmps12
 go_wp2_with fail
 refine (cut_any 5 2 4 w (by decide) (by decide) (by decide) (by decide)).mono ?_
 rintro e w0 ⟨rfl, rfl⟩
 simp only [show cutF 5 4 = 4 from by decide, show cutT 5 2 4 = 5 from by decide]
 go_wp2_with fail
 refine (int_any 1 _).mono ?_
 rintro e w1 ⟨rfl, hb1⟩
 go_wp2_with fail
 refine (int_any 2 _).mono ?_
 rintro e w2 ⟨rfl, hb2⟩
 have k1 : Blk w2 w1.heap.size #[.int .i64 2, .int .i64 1, .string ⟨#[]⟩] 45 := (Blk.new _ _ _ rfl).keep hb2
 have HK1 := Lib.hid k1
 have HB2 := Lib.hid hb2
 have HB1 := Lib.hid hb1
 clear k1 hb2 hb1
 go_wp2_with fail
 refine (int_any 1 _).mono ?_
 rintro e w3 ⟨rfl, hb3⟩
 have k1 : Blk w3 w1.heap.size #[.int .i64 2, .int .i64 1, .string ⟨#[]⟩] 45 := (HK1.out.alloc _).keep hb3
 have k2 : Blk w3 w2.heap.size #[.int .i64 2, .int .i64 2, .string ⟨#[]⟩] 45 := (Blk.new _ _ _ rfl).keep hb3
 have L1 := Lib.hid k1
 have L2 := Lib.hid k2
 have HB3 := Lib.hid hb3
 clear k1 k2 hb3
 go_wp2_with fail
 have hW1 := (L1.out.alloc (.cells #[.int .i64 2, .int .i64 1, .string ⟨#[]⟩] 45)).alloc (.cells #[.slice (some ⟨w1.heap.size, 0, none⟩) 1 1, .slice (some ⟨w2.heap.size, 0, none⟩) 1 1, .slice (some ⟨w3.heap.size, 0, none⟩) 1 1] 35)
 have hW2 := (L2.out.alloc (.cells #[.int .i64 2, .int .i64 1, .string ⟨#[]⟩] 45)).alloc (.cells #[.slice (some ⟨w1.heap.size, 0, none⟩) 1 1, .slice (some ⟨w2.heap.size, 0, none⟩) 1 1, .slice (some ⟨w3.heap.size, 0, none⟩) 1 1] 35)
 have hW3 := (Blk.new w3 #[.int .i64 2, .int .i64 1, .string ⟨#[]⟩] 45 rfl).alloc (.cells #[.slice (some ⟨w1.heap.size, 0, none⟩) 1 1, .slice (some ⟨w2.heap.size, 0, none⟩) 1 1, .slice (some ⟨w3.heap.size, 0, none⟩) 1 1] 35)
 have hW4 := Blk.new (w3.alloc (.cells #[.int .i64 2, .int .i64 1, .string ⟨#[]⟩] 45)) #[.slice (some ⟨w1.heap.size, 0, none⟩) 1 1, .slice (some ⟨w2.heap.size, 0, none⟩) 1 1, .slice (some ⟨w3.heap.size, 0, none⟩) 1 1] 35 (n := w3.heap.size + 1) (by simp)
 have hBW : Below w.heap.size w ((w3.alloc (.cells #[.int .i64 2, .int .i64 1, .string ⟨#[]⟩] 45)).alloc (.cells #[.slice (some ⟨w1.heap.size, 0, none⟩) 1 1, .slice (some ⟨w2.heap.size, 0, none⟩) 1 1, .slice (some ⟨w3.heap.size, 0, none⟩) 1 1] 35)) := by
  have h1 := HB1.out.size
  have h2 := HB2.out.size
  have h3 := HB3.out.size
  simp at h2 h3
  exact ((((((HB1.out.alloc h1 _).trans (HB2.out.mono (by simp; omega))).alloc (by omega) _).trans (HB3.out.mono (by simp; omega))).alloc (by omega) _).alloc (by simp; omega) _)
 generalize (w3.alloc (.cells #[.int .i64 2, .int .i64 1, .string ⟨#[]⟩] 45)).alloc (.cells #[.slice (some ⟨w1.heap.size, 0, none⟩) 1 1, .slice (some ⟨w2.heap.size, 0, none⟩) 1 1, .slice (some ⟨w3.heap.size, 0, none⟩) 1 1] 35) = W at *
 refine (groups_any (w3.heap.size + 1) 0 3 3 (fun i => .slice (some ⟨[w1.heap.size, w2.heap.size, w3.heap.size].getD i 0, 0, none⟩) 1 1) (.slice none 0 0) aK W (by decide) ?_ (fun i _ => aK_ok i) ?_).mono ?_
 ·intro i hi
  rw [hW4.cell]
  have : i = 0 ∨ i = 1 ∨ i = 2 := by omega
  rcases this with rfl | rfl | rfl <;> rfl
 ·intro i hi w' hb
  rw [aK_kv]
  have : i = 0 ∨ i = 1 ∨ i = 2 := by omega
  rcases this with rfl | rfl | rfl
  ·exact key_int _ 1 w' (by rw [turn1]; decide) (hW1.keep hb)
  ·exact key_int _ 2 w' (by rw [turn2]; decide) (hW2.keep hb)
  ·exact key_int _ 1 w' (by rw [turn1]; decide) (hW3.keep hb)
 ·rintro e w' ⟨v, rfl, hr, hb⟩
  rw [aK_groups] at hr
  obtain ⟨vs, r1, r2, r3⟩ := hr
  rcases r1 with ⟨_, h0⟩ | ⟨g, c, rfl, hc, hcell⟩
  ·subst h0; simp [gcells] at r2
  ·obtain ⟨u0, u1, rfl⟩ : ∃ u0 u1, vs = [u0, u1] := by
    match vs, r2 with
    | [a, b], _ => exact ⟨a, b, rfl⟩
   have q0 := hcell 0 u0 rfl
   rcases r3 0 u0 _ rfl rfl with ⟨_, h0⟩ | ⟨g2, c2, rfl, hc2, hcell2⟩
   ·simp at h0
   have q1 := hcell2 1 _ rfl
   have HB := Lib.hid (hBW.trans (hb.mono hBW.size))
   simp only [List.length_cons, List.length_nil, List.length_map] at *
   clear r2 r3 hcell hcell2 hW1 hW2 hW3 hW4 hBW hb
   go_wp2
   go_ret
   exact ⟨rfl, HB.out⟩
end Go.Proofs.YtipokgedmfnlaaaGreatDoor
