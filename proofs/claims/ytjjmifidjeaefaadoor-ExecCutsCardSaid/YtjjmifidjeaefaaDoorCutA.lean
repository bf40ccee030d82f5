/-
  The leaves on the road of the law of LIMIT and OFFSET: a number's eight bytes, a value that is an integer, its key.
-/
import Derived.Test.YtjjmifidjeaefaaDoorProg
import Derived.Test.YtjjmifidjeaefaaDoorBase
import Derived.Test.YtjjmifidjeaefaaDoorPar
namespace Go.Proofs.YtjjmifidjeaefaaDoor
open Go.RowKit

def turnU (n : Int) : Int := bits BinOp.xor IntKind.u64 (IntKind.u64.wrap n) 9223372036854775808
def num8 (u : Int) : List Int := [u / 72057594037927936 % 256, u / 281474976710656 % 256, u / 1099511627776 % 256, u / 4294967296 % 256, u / 16777216 % 256, u / 65536 % 256, u / 256 % 256, u % 256]
/-- An integer's key. -/
def keyS (k : Int) : ByteArray := ⟨#[3] ++ (strOfNums (num8 (turnU k))).data⟩
theorem keyS_size (k : Int) : (keyS k).size = 9 := by
  show (#[3] ++ (strOfNums (num8 (turnU k))).data).size = 9
  rw [Array.size_append]
  show 1 + (strOfNums (num8 (turnU k))).size = 9
  rw [strOfNums_size]; rfl

set_option maxHeartbeats 400000 in
theorem turn_any (n : Int) (w : World) :
    Calls Tryd.prog 77 #[.int .i64 n] w fun e w' => e = .returned (.int .u64 (turnU n)) ∧ w = w' := by
  go_enter Tryd.func77, Tryd.ntmps77
  go_wp2
  go_returns
  exact ⟨rfl, rfl⟩
set_option maxRecDepth 100000 in
set_option maxHeartbeats 1000000 in
theorem number_any (n : Int) (w : World) (h0 : 0 ≤ turnU n) (h1 : turnU n < 18446744073709551616) :
    Calls Tryd.prog 61 #[.int .i64 n] w fun e w' => e = .returned (.string (strOfNums (num8 (turnU n)))) ∧ Below w.heap.size w w' := by
  generalize hu : turnU n = u at *
  have HU := Lib.hid hu
  clear hu
  go_enter Tryd.func61, Tryd.ntmps61
  go_wp2_with fail
  refine (turn_any n w).mono ?_
  rintro e w' ⟨rfl, rfl⟩
  rw [HU.out]
  go_wp2_with fail
  refine wp_loop_rounds 9 ?_
  repeat any_goals (rw [rounds_succ]; go_wp2)
  rw [run_convert_bytes_arg _ 42 5 Tryd.underlying42 Tryd.underlying5 w.heap.size 0 8 8 (num8 u) rfl ?hc 9 Tryd.underlying9]
  case hc =>
    intro i hi
    have : i = 0 ∨ i = 1 ∨ i = 2 ∨ i = 3 ∨ i = 4 ∨ i = 5 ∨ i = 6 ∨ i = 7 := by omega
    rcases this with rfl | rfl | rfl | rfl | rfl | rfl | rfl | rfl <;> (simp [go_sem, num8]; try omega)
  go_wp2
  go_returns
  refine ⟨rfl, by go_grown⟩
set_option maxHeartbeats 400000 in
theorem int_any (n : Int) (w : World) :
    Calls Tryd.prog 22 #[.int .i64 n] w fun e w' => e = .returned (.agg #[.int .i64 2, .int .i64 n, .string ⟨#[]⟩]) ∧ Below w.heap.size w w' := by
  go_enter Tryd.func22, Tryd.ntmps22
  go_wp2
  go_returns
  refine ⟨rfl, by go_grown⟩
set_option maxHeartbeats 400000 in
theorem null_any (w : World) :
    Calls Tryd.prog 76 #[] w fun e w' => e = .returned (.agg #[.int .i64 0, .int .i64 0, .string ⟨#[]⟩]) ∧ Below w.heap.size w w' := by
  go_enter Tryd.func76, Tryd.ntmps76
  go_wp2
  go_returns
  refine ⟨rfl, by go_grown⟩
set_option maxHeartbeats 400000 in
theorem ok_int (n : Int) (w : World) :
    Calls Tryd.prog 75 #[.agg #[.int .i64 2, .int .i64 n, .string ⟨#[]⟩]] w fun e w' => e = .returned (.bool true) ∧ Below w.heap.size w w' := by
  go_enter Tryd.func75, Tryd.ntmps75
  go_wp2
  go_returns
  refine ⟨rfl, by go_grown⟩
set_option maxHeartbeats 400000 in
theorem is_int (n : Int) (w : World) :
    Calls Tryd.prog 60 #[.agg #[.int .i64 2, .int .i64 n, .string ⟨#[]⟩]] w fun e w' => e = .returned (.agg #[.int .i64 2, .int .i64 n, .string ⟨#[]⟩]) ∧ Below w.heap.size w w' := by
  go_enter Tryd.func60, Tryd.ntmps60
  go_wp2
  go_returns
  refine ⟨rfl, by go_grown⟩
set_option maxHeartbeats 400000 in
theorem at_nil (i : Int) (h0 : 0 ≤ i) (w : World) :
    Calls Tryd.prog 50 #[.slice none 0 0, .int .i64 i] w fun e w' => e = .returned (.agg #[.int .i64 1, .int .i64 0, .bool false, .bool false, .pointer none]) ∧ Below w.heap.size w w' := by
  go_enter Tryd.func50, Tryd.ntmps50
  go_wp2
  go_returns
  refine ⟨rfl, by go_grown⟩
set_option maxRecDepth 100000 in
set_option maxHeartbeats 1000000 in
theorem value_int (n : Int) (w : World) (h0 : 0 ≤ turnU n) (h1 : turnU n < 18446744073709551616) :
    Calls Tryd.prog 49 #[.agg #[.int .i64 2, .int .i64 n, .string ⟨#[]⟩], .agg #[.int .i64 1, .int .i64 0, .bool false, .bool false, .pointer none, .bool false]] w fun e w' => e = .returned (.string ⟨#[3] ++ (strOfNums (num8 (turnU n))).data⟩) ∧ Below w.heap.size w w' := by
  have H0 := Lib.hid h0
  have H1 := Lib.hid h1
  clear h0 h1
  go_enter Tryd.func49, Tryd.ntmps49
  go_wp2_with fail
  refine (is_int n _).mono ?_
  rintro e w1 ⟨rfl, hb⟩
  have k0 : Blk w1 w.heap.size #[.int .i64 2, .int .i64 n, .string ⟨#[]⟩] 49 := (Blk.alloc (Blk.new _ _ _ rfl) _).keep hb
  have k1 : Blk w1 (w.heap.size + 1) #[.int .i64 1, .int .i64 0, .bool false, .bool false, .pointer none, .bool false] 80 := (Blk.new _ _ _ (by simp)).keep hb
  obtain ⟨c0, f0⟩ := k0.facts
  obtain ⟨c1, f1⟩ := k1.facts
  have hz := hb.size
  simp at hz
  have K0 := Lib.hid k0
  have K1 := Lib.hid k1
  have hb0 : Below w.heap.size w w1 := (((Below.refl _ _).alloc (Nat.le_refl _) _).alloc (by simp) _).trans (hb.mono (by simp; omega))
  have HB0 := Lib.hid hb0
  clear hb0
  have HB := Lib.hid hb
  clear k0 k1 hb
  dsimp only
  go_upto_region 9 with (fail)
  have hK0 : ∀ W, Ext (((w1.setCell ⟨w.heap.size, 0, none⟩ (.int .i64 2)).setCell ⟨w.heap.size, 1, none⟩ (.int .i64 n)).setCell ⟨w.heap.size, 2, none⟩ (.string ⟨#[]⟩)) W → W.cell? ⟨w.heap.size, 1, none⟩ = some (.int .i64 n) := by
    intro W hx
    exact ((((K0.out.set 0 _).set 1 _).set 2 _).keep hx).cell 1
  have HK0 := Lib.hid hK0
  clear hK0
  refine wp_par 7 (fun
    | 0 => fun v W => ∃ b, v = .slice (some ⟨b, 0, none⟩) 1 1 ∧ Blk W b #[.int .u8 3] 5
    | 1 => fun v _ => v = .string ⟨#[3]⟩
    | 2 => fun v _ => v = .pointer (some ⟨w.heap.size, 1, none⟩)
    | 3 => fun v _ => v = .int .i64 n
    | 4 => fun v _ => v = .string (strOfNums (num8 (turnU n)))
    | _ => fun v _ => v = .string ⟨#[3] ++ (strOfNums (num8 (turnU n))).data⟩) (by kernel_rfl) (by kernel_rfl) (by kernel_rfl) ?_ ?_
  · simp only [List.take_succ_cons, List.take_zero, ParAll, Act.put, List.setIfInBounds_toArray, List.set_cons_succ, List.set_cons_zero]
    refine ⟨?_, ?_, ?_, ?_, ?_, ?_, ?_, trivial⟩
    · intro vals W hx hd
      refine ParOb.plain rfl ?_
      go_simp
      exact ⟨(Ext.refl _).alloc _, fun w2 h2 => ⟨_, rfl, (Blk.new _ _ _ rfl).keep h2⟩⟩
    · intro vals W hx hd
      refine ParOb.plain rfl ?_
      obtain ⟨h0, h1⟩ := hd
      clear h1
      dsimp only at h0
      obtain ⟨b, h0, hk⟩ := h0
      go_simp
      rw [run_convert_bytes_arg _ 42 5 Tryd.underlying42 Tryd.underlying5 b 0 1 1 [3] rfl ?hc 9 Tryd.underlying9]
      case hc =>
        intro i hi
        obtain rfl : i = 0 := by omega
        rw [hk.cell]; rfl
      go_simp
      exact ⟨Ext.refl _, fun _ _ => rfl⟩
    · intro vals W hx hd
      refine ParOb.plain rfl ?_
      go_simp
      exact ⟨Ext.refl _, fun _ _ => rfl⟩
    · intro vals W hx hd
      refine ParOb.plain rfl ?_
      simp [PDeps, pdeps, Region.binds] at hd
      have c := HK0.out W hx
      go_simp
      exact ⟨Ext.refl _, fun _ _ => rfl⟩
    · intro vals W hx hd
      refine ParOb.plain rfl ?_
      simp [PDeps, pdeps, Region.binds] at hd
      go_simp
      refine (number_any n W H0.out H1.out).mono ?_
      rintro e w2 ⟨rfl, hb2⟩
      exact ⟨_, rfl, hb2, fun _ _ => rfl⟩
    · intro vals W hx hd
      refine ParOb.plain rfl ?_
      simp [PDeps, pdeps, Region.binds] at hd
      have hsz : (strOfNums (num8 (turnU n))).size = 8 := by simp [strOfNums_size, num8]
      go_simp
      exact ⟨Ext.refl _, fun _ _ => rfl⟩
    · intro vals W hx hd
      refine ParOb.plain rfl ?_
      simp [PDeps, pdeps, Region.binds] at hd
      go_simp
      exact ⟨Ext.refl _, fun _ _ => rfl⟩
  intro vals W hx hf
  simp [ParFacts] at hf
  obtain ⟨⟨b, h0, -⟩, hf⟩ := hf
  simp only [List.drop, ParEnd, List.take, Act.put, List.setIfInBounds_toArray, List.set_cons_succ, List.set_cons_zero, h0, hf]
  clear h0 hf
  have k1 : Blk W (w.heap.size + 1) #[.int .i64 1, .int .i64 0, .bool false, .bool false, .pointer none, .bool false] 80 := (((K1.out.other (by simp) _).other (by simp) _).other (by simp) _).keep hx
  have hW : Below w.heap.size w W := (((HB0.out.setCell (Nat.le_refl _) _).setCell (Nat.le_refl _) _).setCell (Nat.le_refl _) _).trans (Below.mono hx (by simp; omega))
  obtain ⟨c4, f4⟩ := k1.facts
  clear c0 f0 c1 f1 hx k1
  have HW := Lib.hid hW
  clear hW
  refine wpList_nil ?_
  go_wp2
  go_returns
  exact ⟨rfl, HW.out⟩

set_option maxRecDepth 100000 in
set_option maxHeartbeats 1000000 in
theorem key_int (rb : Nat) (k : Int) (w : World) (hk : 0 ≤ turnU k ∧ turnU k < 18446744073709551616) (hr : Blk w rb #[.int .i64 2, .int .i64 k, .string ⟨#[]⟩] 49) :
    Calls Tryd.prog 35 #[.slice (some ⟨rb, 0, none⟩) 1 1, .slice none 0 0] w fun e w' => e = .returned (.agg #[.string (keyS k), .string ⟨#[]⟩, .string ⟨#[]⟩, .string ⟨#[]⟩, .string ⟨#[]⟩]) ∧ Below w.heap.size w w' := by
  have HK := Lib.hid hk
  clear hk
  obtain ⟨c0, f0⟩ := hr.facts
  have hl := hr.lt
  have HR := Lib.hid hr
  clear hr f0
  go_enter Tryd.func35, Tryd.ntmps35
  go_wp2_with fail
  refine wp_loop_rounds 2 ?_
  rw [rounds_succ]
  go_upto_region 5 with (fail)
  have hF : ∀ W, Ext ((((w.alloc (.cells #[.string ⟨#[]⟩, .string ⟨#[]⟩, .string ⟨#[]⟩, .string ⟨#[]⟩, .string ⟨#[]⟩] 66)).alloc (.cells #[.string ⟨#[]⟩, .string ⟨#[]⟩, .string ⟨#[]⟩, .string ⟨#[]⟩, .string ⟨#[]⟩] 66))).alloc (.cells #[.int .i64 2, .int .i64 k, .string ⟨#[]⟩] 49)) W →
      (∀ o, W.cell? ⟨w.heap.size + 1, o, none⟩ = #[Value.string ⟨#[]⟩, .string ⟨#[]⟩, .string ⟨#[]⟩, .string ⟨#[]⟩, .string ⟨#[]⟩][o]?) ∧ (∀ o, W.frozen? ⟨w.heap.size + 1, o, none⟩ = false) ∧
      (∀ o, W.cell? ⟨w.heap.size + 1 + 1, o, none⟩ = #[Value.int .i64 2, .int .i64 k, .string ⟨#[]⟩][o]?) ∧
      (∀ o, W.cell? ⟨w.heap.size, o, none⟩ = #[Value.string ⟨#[]⟩, .string ⟨#[]⟩, .string ⟨#[]⟩, .string ⟨#[]⟩, .string ⟨#[]⟩][o]?) ∧ (∀ o, W.frozen? ⟨w.heap.size, o, none⟩ = false) := by
    intro W hx
    have k0 := (((Blk.new w #[.string ⟨#[]⟩, .string ⟨#[]⟩, .string ⟨#[]⟩, .string ⟨#[]⟩, .string ⟨#[]⟩] 66 rfl).alloc (.cells #[.string ⟨#[]⟩, .string ⟨#[]⟩, .string ⟨#[]⟩, .string ⟨#[]⟩, .string ⟨#[]⟩] 66)).alloc (.cells #[.int .i64 2, .int .i64 k, .string ⟨#[]⟩] 49)).keep hx
    have k1 := ((Blk.new (w.alloc (.cells #[.string ⟨#[]⟩, .string ⟨#[]⟩, .string ⟨#[]⟩, .string ⟨#[]⟩, .string ⟨#[]⟩] 66)) #[.string ⟨#[]⟩, .string ⟨#[]⟩, .string ⟨#[]⟩, .string ⟨#[]⟩, .string ⟨#[]⟩] 66 (n := w.heap.size + 1) (by simp)).alloc (.cells #[.int .i64 2, .int .i64 k, .string ⟨#[]⟩] 49)).keep hx
    have k2 := (Blk.new ((w.alloc (.cells #[.string ⟨#[]⟩, .string ⟨#[]⟩, .string ⟨#[]⟩, .string ⟨#[]⟩, .string ⟨#[]⟩] 66)).alloc (.cells #[.string ⟨#[]⟩, .string ⟨#[]⟩, .string ⟨#[]⟩, .string ⟨#[]⟩, .string ⟨#[]⟩] 66)) #[.int .i64 2, .int .i64 k, .string ⟨#[]⟩] 49 (n := w.heap.size + 1 + 1) (by simp)).keep hx
    exact ⟨k1.cell, k1.free, k2.cell, k0.cell, k0.free⟩
  have HF := Lib.hid hF
  clear hF
  refine wp_par 12 (fun
      | 0 => fun v _ => v = .int .i64 0
      | 1 => fun v _ => v = .int .i64 0
      | 2 => fun v _ => v = .pointer (some ⟨w.heap.size + 1, 0, none⟩)
      | 3 => fun v _ => v = .string ⟨#[]⟩
      | 4 => fun v _ => v = .agg #[.int .i64 2, .int .i64 k, .string ⟨#[]⟩]
      | 5 => fun v _ => v = .slice none 0 0
      | 6 => fun v _ => v = .int .i64 0
      | 7 => fun v _ => v = .agg #[.int .i64 1, .int .i64 0, .bool false, .bool false, .pointer none]
      | 8 => fun v _ => v = .agg #[.int .i64 1, .int .i64 0, .bool false, .bool false, .pointer none, .bool false]
      | 9 => fun v _ => v = .string (keyS k)
      | 10 => fun v _ => v = .string (keyS k)
      | 11 => fun v _ => v = .pointer (some ⟨w.heap.size + 1, 0, none⟩)
      | _ => fun _ _ => True) (by kernel_rfl) (by kernel_rfl) (by kernel_rfl) ?_ ?_
  · simp only [List.take_succ_cons, List.take_zero, ParAll, Act.put, List.setIfInBounds_toArray, List.set_cons_succ, List.set_cons_zero]
    refine ⟨?_, ?_, ?_, ?_, ?_, ?_, ?_, ?_, ?_, ?_, ?_, ?_, trivial⟩
    · intro vals W hx hd
      have hW := HF.out W hx
      refine ParOb.plain rfl ?_
      simp [PDeps, pdeps, Region.binds] at hd
      go_simp
      exact ParPost.same fun _ _ => rfl
    · intro vals W hx hd
      have hW := HF.out W hx
      refine ParOb.plain rfl ?_
      simp [PDeps, pdeps, Region.binds] at hd
      go_simp
      exact ParPost.same fun _ _ => rfl
    · intro vals W hx hd
      have hW := HF.out W hx
      refine ParOb.plain rfl ?_
      simp [PDeps, pdeps, Region.binds] at hd
      go_simp
      exact ParPost.same fun _ _ => rfl
    · intro vals W hx hd
      have hW := HF.out W hx
      refine ParOb.plain rfl ?_
      simp [PDeps, pdeps, Region.binds] at hd
      go_simp
      exact ParPost.same fun _ _ => rfl
    · intro vals W hx hd
      have hW := HF.out W hx
      refine ParOb.plain rfl ?_
      simp [PDeps, pdeps, Region.binds] at hd
      go_simp
      exact ParPost.same fun _ _ => rfl
    · intro vals W hx hd
      have hW := HF.out W hx
      refine ParOb.plain rfl ?_
      simp [PDeps, pdeps, Region.binds] at hd
      go_simp
      exact ParPost.same fun _ _ => rfl
    · intro vals W hx hd
      have hW := HF.out W hx
      refine ParOb.plain rfl ?_
      simp [PDeps, pdeps, Region.binds] at hd
      go_simp
      exact ParPost.same fun _ _ => rfl
    · intro vals W hx hd
      have hW := HF.out W hx
      refine ParOb.plain rfl ?_
      simp [PDeps, pdeps, Region.binds] at hd
      go_simp
      refine (at_nil 0 (by omega) W).mono ?_
      rintro e w2 ⟨rfl, hb2⟩
      exact ⟨_, rfl, hb2, fun _ _ => rfl⟩
    · intro vals W hx hd
      have hW := HF.out W hx
      refine ParOb.plain rfl ?_
      simp [PDeps, pdeps, Region.binds] at hd
      go_simp
      exact ParPost.same fun _ _ => rfl
    · intro vals W hx hd
      have hW := HF.out W hx
      refine ParOb.plain rfl ?_
      simp [PDeps, pdeps, Region.binds] at hd
      go_simp
      refine (value_int k W HK.out.1 HK.out.2).mono ?_
      rintro e w2 ⟨rfl, hb2⟩
      exact ⟨_, rfl, hb2, fun _ _ => rfl⟩
    · intro vals W hx hd
      have hW := HF.out W hx
      refine ParOb.plain rfl ?_
      simp [PDeps, pdeps, Region.binds] at hd
      have hsz := keyS_size k
      go_simp
      exact ParPost.same fun _ _ => rfl
    · intro vals W hx hd
      have hW := HF.out W hx
      refine ParOb.plain rfl ?_
      simp [PDeps, pdeps, Region.binds] at hd
      go_simp
      exact ParPost.same fun _ _ => rfl
  intro vals W hx hf
  simp only [ParFacts, List.take_succ_cons, List.take_zero, and_true] at hf
  simp only [List.drop_succ_cons, List.drop_zero, List.take_succ_cons, List.take_zero, ParEnd, Act.put, List.setIfInBounds_toArray, List.set_cons_succ, List.set_cons_zero, hf]
  clear hf
  have hW := HF.out W hx
  have hB : Below w.heap.size w W := ((((Below.refl _ _).alloc (Nat.le_refl _) _).alloc (by simp) _).alloc (by simp; omega) _).trans (Below.mono hx (by simp; omega))
  have HB := Lib.hid hB
  clear hB hx c0
  go_wp2
  rw [rounds_succ]
  go_wp2
  refine bodyPost_ret (v := .agg #[.string (keyS k), .string ⟨#[]⟩, .string ⟨#[]⟩, .string ⟨#[]⟩, .string ⟨#[]⟩]) (by simp [results, Tryd.results35, go_sem, hW]) rfl ⟨rfl, ?_⟩
  exact (((((HB.out.setCell (by simp) _).setCell (Nat.le_refl _) _).setCell (Nat.le_refl _) _).setCell (Nat.le_refl _) _).setCell (Nat.le_refl _) _).setCell (Nat.le_refl _) _
end Go.Proofs.YtjjmifidjeaefaaDoor
