/-
  What the law of LIMIT and OFFSET calls: the two cuts are one, and the layer is awake.
-/
import Derived.Test.YtjjmifidjeaefaaDoorCutA
import Derived.Test.YtjjmifidjeaefaaDoorGroups
namespace Go.Proofs.YtjjmifidjeaefaaDoor
open Go.RowKit

def cutF (n o : Int) : Int := if o < 0 then 0 else if n < o then n else o
def cutT (n l o : Int) : Int := if l < 0 then n else if n - cutF n o < l then n else cutF n o + l
set_option maxHeartbeats 1000000 in
theorem cut_any (n l o : Int) (w : World) (hn : 0 ≤ n) (hn2 : n ≤ 65535) (hl : -9223372036854775808 ≤ l ∧ l ≤ 9223372036854775807) (ho : -9223372036854775808 ≤ o ∧ o ≤ 9223372036854775807) :
    Calls Tryd.prog 10 #[.int .i64 n, .int .i64 l, .int .i64 o] w fun e w' => e = .returned (.tuple #[.int .i64 (cutF n o), .int .i64 (cutT n l o)]) ∧ w = w' := by
  go_enter Tryd.func10, Tryd.ntmps10
  go_wp2
  all_goals (go_ret2; refine ⟨?_, rfl⟩)
  all_goals (simp only [Ending.returned.injEq, Value.tuple.injEq, Array.mk.injEq, List.cons.injEq, and_true, Array.getD_eq_getD_getElem?, List.getElem?_toArray]; simp [cutF, cutT]; (repeat' split at *) <;> omega)

set_option maxHeartbeats 1000000 in
theorem refcut_any (n l o : Int) (w : World) (hn : 0 ≤ n) (hn2 : n ≤ 65535) (hl : -9223372036854775808 ≤ l ∧ l ≤ 9223372036854775807) (ho : -9223372036854775808 ≤ o ∧ o ≤ 9223372036854775807) :
    Calls Tryd.prog 11 #[.int .i64 n, .int .i64 l, .int .i64 o] w fun e w' => e = .returned (.tuple #[.int .i64 (cutF n o), .int .i64 (cutT n l o)]) ∧ w = w' := by
  go_enter Tryd.func11, Tryd.ntmps11
  go_wp2
  all_goals (go_ret2; refine ⟨?_, rfl⟩)
  all_goals (simp only [Ending.returned.injEq, Value.tuple.injEq, Array.mk.injEq, List.cons.injEq, and_true, Array.getD_eq_getD_getElem?, List.getElem?_toArray]; simp [cutF, cutT]; (repeat' split at *) <;> omega)

theorem turn1 : turnU 1 = 9223372036854775809 := by decide
theorem turn2 : turnU 2 = 9223372036854775810 := by decide
/-- The keys of three rows: 1, 2, 1. -/
def aK (i : Nat) : K5 := ((keyS (if i = 1 then 2 else 1)).data.toList, [], [], [], [])
theorem aK_groups : (gst aK 3).2 = [[0, 2], [1]] := by decide
theorem aK_kv (i : Nat) : kv (aK i) = .agg #[.string (keyS (if i = 1 then 2 else 1)), .string ⟨#[]⟩, .string ⟨#[]⟩, .string ⟨#[]⟩, .string ⟨#[]⟩] := rfl
theorem aK_ok (i : Nat) : (aK i).ok := by
  have h := keyS_size (if i = 1 then 2 else 1)
  refine ⟨?_, ?_, ?_, ?_, ?_⟩ <;> simp only [aK, List.length_nil, maxLen]
  · have e : (keyS (if i = 1 then 2 else 1)).data.toList.length = 9 := h
    omega
  all_goals omega

set_option maxRecDepth 100000 in
set_option maxHeartbeats 1000000 in
theorem awake23 (w : World) :
    Calls Tryd.prog 12 #[] w fun e w' => e = .returned (.bool true) ∧ Below w.heap.size w w' := by
  go_enter Tryd.func12, Tryd.ntmps12
  go_wp2_with fail
  refine (cut_any 5 2 4 w (by decide) (by decide) (by decide) (by decide)).mono ?_
  rintro e w0 ⟨rfl, rfl⟩
  simp only [show cutF 5 4 = 4 from by decide, show cutT 5 2 4 = 5 from by decide]
  go_wp2_with fail
  refine (int_any 1 _).mono ?_
  rintro e w1 ⟨rfl, hb1⟩
  go_wp2_with fail
  refine (int_any 2 _).mono ?_
  rintro e w2 ⟨rfl, hb2⟩
  have k1 : Blk w2 w1.heap.size #[.int .i64 2, .int .i64 1, .string ⟨#[]⟩] 49 := (Blk.new _ _ _ rfl).keep hb2
  have HK1 := Lib.hid k1
  have HB2 := Lib.hid hb2
  have HB1 := Lib.hid hb1
  clear k1 hb2 hb1
  go_wp2_with fail
  refine (int_any 1 _).mono ?_
  rintro e w3 ⟨rfl, hb3⟩
  have k1 : Blk w3 w1.heap.size #[.int .i64 2, .int .i64 1, .string ⟨#[]⟩] 49 := (HK1.out.alloc _).keep hb3
  have k2 : Blk w3 w2.heap.size #[.int .i64 2, .int .i64 2, .string ⟨#[]⟩] 49 := (Blk.new _ _ _ rfl).keep hb3
  have L1 := Lib.hid k1
  have L2 := Lib.hid k2
  have HB3 := Lib.hid hb3
  clear k1 k2 hb3
  go_wp2_with fail
  have hW1 := (L1.out.alloc (.cells #[.int .i64 2, .int .i64 1, .string ⟨#[]⟩] 49)).alloc (.cells #[.slice (some ⟨w1.heap.size, 0, none⟩) 1 1, .slice (some ⟨w2.heap.size, 0, none⟩) 1 1, .slice (some ⟨w3.heap.size, 0, none⟩) 1 1] 51)
  have hW2 := (L2.out.alloc (.cells #[.int .i64 2, .int .i64 1, .string ⟨#[]⟩] 49)).alloc (.cells #[.slice (some ⟨w1.heap.size, 0, none⟩) 1 1, .slice (some ⟨w2.heap.size, 0, none⟩) 1 1, .slice (some ⟨w3.heap.size, 0, none⟩) 1 1] 51)
  have hW3 := (Blk.new w3 #[.int .i64 2, .int .i64 1, .string ⟨#[]⟩] 49 rfl).alloc (.cells #[.slice (some ⟨w1.heap.size, 0, none⟩) 1 1, .slice (some ⟨w2.heap.size, 0, none⟩) 1 1, .slice (some ⟨w3.heap.size, 0, none⟩) 1 1] 51)
  have hW4 := Blk.new (w3.alloc (.cells #[.int .i64 2, .int .i64 1, .string ⟨#[]⟩] 49)) #[.slice (some ⟨w1.heap.size, 0, none⟩) 1 1, .slice (some ⟨w2.heap.size, 0, none⟩) 1 1, .slice (some ⟨w3.heap.size, 0, none⟩) 1 1] 51 (n := w3.heap.size + 1) (by simp)
  have hBW : Below w.heap.size w ((w3.alloc (.cells #[.int .i64 2, .int .i64 1, .string ⟨#[]⟩] 49)).alloc (.cells #[.slice (some ⟨w1.heap.size, 0, none⟩) 1 1, .slice (some ⟨w2.heap.size, 0, none⟩) 1 1, .slice (some ⟨w3.heap.size, 0, none⟩) 1 1] 51)) := by
    have h1 := HB1.out.size
    have h2 := HB2.out.size
    have h3 := HB3.out.size
    simp at h2 h3
    exact ((((((HB1.out.alloc h1 _).trans (HB2.out.mono (by simp; omega))).alloc (by omega) _).trans (HB3.out.mono (by simp; omega))).alloc (by omega) _).alloc (by simp; omega) _)
  generalize (w3.alloc (.cells #[.int .i64 2, .int .i64 1, .string ⟨#[]⟩] 49)).alloc (.cells #[.slice (some ⟨w1.heap.size, 0, none⟩) 1 1, .slice (some ⟨w2.heap.size, 0, none⟩) 1 1, .slice (some ⟨w3.heap.size, 0, none⟩) 1 1] 51) = W at *
  refine (groups_any (w3.heap.size + 1) 0 3 3 (fun i => .slice (some ⟨[w1.heap.size, w2.heap.size, w3.heap.size].getD i 0, 0, none⟩) 1 1) (.slice none 0 0) aK W (by decide) ?_ (fun i _ => aK_ok i) ?_).mono ?_
  · intro i hi
    rw [hW4.cell]
    have : i = 0 ∨ i = 1 ∨ i = 2 := by omega
    rcases this with rfl | rfl | rfl <;> rfl
  · intro i hi w' hb
    rw [aK_kv]
    have : i = 0 ∨ i = 1 ∨ i = 2 := by omega
    rcases this with rfl | rfl | rfl
    · exact key_int _ 1 w' (by rw [turn1]; decide) (hW1.keep hb)
    · exact key_int _ 2 w' (by rw [turn2]; decide) (hW2.keep hb)
    · exact key_int _ 1 w' (by rw [turn1]; decide) (hW3.keep hb)
  · rintro e w' ⟨v, rfl, hr, hb⟩
    rw [aK_groups] at hr
    obtain ⟨vs, r1, r2, r3⟩ := hr
    rcases r1 with ⟨_, h0⟩ | ⟨g, c, rfl, hc, hcell⟩
    · subst h0; simp [gcells] at r2
    · obtain ⟨u0, u1, rfl⟩ : ∃ u0 u1, vs = [u0, u1] := by
        match vs, r2 with
        | [a, b], _ => exact ⟨a, b, rfl⟩
      have q0 := hcell 0 u0 rfl
      rcases r3 0 u0 _ rfl rfl with ⟨_, h0⟩ | ⟨g2, c2, rfl, hc2, hcell2⟩
      · simp at h0
      have q1 := hcell2 1 _ rfl
      have HB := Lib.hid (hBW.trans (hb.mono hBW.size))
      simp only [List.length_cons, List.length_nil, List.length_map] at *
      clear r2 r3 hcell hcell2 hW1 hW2 hW3 hW4 hBW hb
      go_wp2
      go_ret
      exact ⟨rfl, HB.out⟩
end Go.Proofs.YtjjmifidjeaefaaDoor
