/-
  The parser's ops: those of a level; which comes next.
-/
import Derived.Test.YtlhkmdchjklaeaaGreatDoorPsrC
namespace Go.Proofs.YtlhkmdchjklaeaaGreatDoor
open Go.RowKit Go.Lib
set_option maxRecDepth 100000

/-- The ops of a level. -/
def binsL : Nat → List (Int × List UInt8 × Int)
  | 1 => [(2, [79, 82], 19), (2, [88, 79, 82], 22)]
  | 2 => [(2, [65, 78, 68], 18)]
  | 4 => [(5, [61], 1), (5, [60, 62], 2), (5, [60], 3), (5, [60, 61], 4), (5, [62], 5), (5, [62, 61], 6)]
  | 5 => [(5, [124], 15), (5, [94], 16)]
  | 6 => [(5, [38], 14)]
  | 7 => [(5, [60, 60], 12), (5, [62, 62], 13)]
  | 8 => [(5, [43], 7), (5, [45], 8), (5, [124, 124], 17)]
  | 9 => [(5, [42], 9), (5, [47], 10), (5, [37], 11)]
  | _ => []
def cellsB (b : Int × List UInt8 × Int) : List Value := [.int .i64 b.1, .string ⟨b.2.1.toArray⟩, .int .i64 b.2.2]
theorem flatB_get : ∀ (L : List (Int × List UInt8 × Int)) (i : Nat) (b : Int × List UInt8 × Int), L[i]? = some b → ∀ j, j < 3 → (L.flatMap cellsB)[i * 3 + j]? = (cellsB b)[j]?
  | y :: L, 0, b, h, j, hj => by
    obtain rfl : y = b := by simpa using h
    rw [Nat.zero_mul, Nat.zero_add]
    simp only [List.flatMap_cons]
    rw [List.getElem?_append_left (by simp [cellsB]; omega)]
  | y :: L, i + 1, b, h, j, hj => by
    have ih := flatB_get L i b (by simpa using h) j hj
    simp only [List.flatMap_cons]
    rw [List.getElem?_append_right (by simp [cellsB]; omega), ← ih]
    congr 1
    simp [cellsB]; omega
/-- Ops in a row. -/
def BinAt (w : World) (v : Value) (L : List (Int × List UInt8 × Int)) : Prop := ∃ a cap, v = .slice a L.length cap ∧ L.length ≤ cap ∧ ∀ (i : Nat) (b : Int × List UInt8 × Int), L[i]? = some b → ∃ g, a = some ⟨g, 0, none⟩ ∧ g < w.heap.size ∧
  w.cell? ⟨g, i * 3, none⟩ = some (.int .i64 b.1) ∧ w.cell? ⟨g, i * 3 + 1, none⟩ = some (.string ⟨b.2.1.toArray⟩) ∧ w.cell? ⟨g, i * 3 + 2, none⟩ = some (.int .i64 b.2.2)
theorem binAt_of {w : World} {g n : Nat} {t : TypeId} (L : List (Int × List UInt8 × Int)) (hn : n = L.length) (h : Blk w g (L.flatMap cellsB).toArray t) : BinAt w (.slice (some ⟨g, 0, none⟩) n n) L :=
  ⟨_, n, by rw [hn], by omega, fun i b hb => by
    have hc : ∀ j, j < 3 → w.cell? ⟨g, i * 3 + j, none⟩ = (cellsB b)[j]? := fun j hj => by
      rw [h.cell, List.getElem?_toArray, flatB_get L i b hb j hj]
    exact ⟨g, rfl, h.lt, hc 0 (by omega), hc 1 (by omega), hc 2 (by omega)⟩⟩
theorem binAt_nil (w : World) : BinAt w (.slice none 0 0) [] := ⟨_, _, rfl, Nat.le_refl _, fun i b hb => by cases hb⟩
set_option maxHeartbeats 8000000 in
theorem binaries_any (k : Nat) (hk : k ≤ 12) (w : World) :
    Calls Tryz.prog 72 #[.int .i64 k] w fun e w' => (∃ v, e = .returned v ∧ BinAt w' v (binsL k)) ∧ Ext w w' := by
  rcases (by omega : k = 0 ∨ k = 1 ∨ k = 2 ∨ k = 3 ∨ k = 4 ∨ k = 5 ∨ k = 6 ∨ k = 7 ∨ k = 8 ∨ k = 9 ∨ k = 10 ∨ k = 11 ∨ k = 12) with rfl | rfl | rfl | rfl | rfl | rfl | rfl | rfl | rfl | rfl | rfl | rfl | rfl
  all_goals
    simp only [binsL]
    go_enter Tryz.func72, Tryz.ntmps72
    go_wp2
    go_returns
    first
      | exact ⟨⟨_, rfl, binAt_nil _⟩, Ext.refl _⟩
      | (refine ⟨⟨_, rfl, ?_⟩, (Ext.refl _).alloc _⟩
         refine binAt_of (t := 140) _ rfl ?_
         exact Blk.new w _ 140 rfl)
/-- The op that comes next, and the state behind it. -/
def findF (T : List Lx.Tok) (s : PSt) : List (Int × List UInt8 × Int) → Int × PSt
  | [] => (0, s)
  | b :: L => if isB T s b.1 b.2.1 then (b.2.2, { s with i := s.i + 1 }) else findF T s L
theorem findF_drop (T : List Lx.Tok) (s : PSt) : ∀ (L : List (Int × List UInt8 × Int)) (j : Nat) (b : Int × List UInt8 × Int), L[j]? = some b → isB T s b.1 b.2.1 = false → findF T s (L.drop j) = findF T s (L.drop (j + 1))
  | y :: L, 0, b, h, hb => by
    obtain rfl : y = b := by simpa using h
    simp only [List.drop_zero, List.drop_succ_cons, findF, hb]
    rfl
  | y :: L, j + 1, b, h, hb => by
    simp only [List.drop_succ_cons]
    exact findF_drop T s L j b (by simpa using h) hb
set_option maxHeartbeats 8000000 in
theorem find_any (k : Nat) (hk : k ≤ 12) (p g cap long : Nat) (T : List Lx.Tok) (s : PSt) (w : World) (h : PsAt w p g cap long T s) :
    Calls Tryz.prog 124 #[.pointer (some ⟨p, 0, none⟩), .int .i64 k] w fun e w' => e = .returned (.int .i64 (findF T s (binsL k)).1) ∧ PsAt w' p g cap long T (findF T s (binsL k)).2 ∧ LeP p w w' := by
  have HP := Lib.hid h
  have KB := Lib.hid (fun W => binaries_any k hk W)
  have KI := Lib.hid (fun kind text W (hW : PsAt W p g cap long T s) => is_any p g cap long T s kind text W hW)
  have hlen : (binsL k).length ≤ 6 := by
    rcases (by omega : k = 0 ∨ k = 1 ∨ k = 2 ∨ k = 3 ∨ k = 4 ∨ k = 5 ∨ k = 6 ∨ k = 7 ∨ k = 8 ∨ k = 9 ∨ k = 10 ∨ k = 11 ∨ k = 12) with rfl | rfl | rfl | rfl | rfl | rfl | rfl | rfl | rfl | rfl | rfl | rfl | rfl <;> decide
  generalize binsL k = L at KB hlen ⊢
  obtain ⟨R, hR⟩ : ∃ R, R = findF T s L := ⟨_, rfl⟩
  rw [← hR]
  have HRf := Lib.hid hR
  clear h hk hR
  go_enter Tryz.func124, Tryz.ntmps124
  go_wp2_with fail
  refine Calls.mono (KB.out _) ?_
  rintro e W0 ⟨⟨v, rfl, a, bcap, rfl, hbc, hc⟩, hx0⟩
  have HC := Lib.hid hc
  have HX0 := Lib.hid hx0
  clear hc hx0 KB
  go_simp
  repeat (first | go_values | go_skip | go_guarded | go_step | go_upon)
  go_loopw [4, 6, 10] (fun _ _ i wr => ∃ j : Nat, j ≤ L.length ∧ i = .int .i64 j ∧ Ext W0 wr ∧ findF T s (L.drop j) = R) (fun _ _ i _ => L.length - (intOf i).toNat)
  case atStart => exact ⟨0, Nat.zero_le _, rfl, Ext.refl _, HRf.out.symm⟩
  case round =>
    obtain ⟨j, hj, rfl, hx, hf⟩ := hrel
    have HX := Lib.hid (Ext.trans HX0.out hx)
    have HX2 := Lib.hid hx
    have HFd := Lib.hid hf
    clear hx hf
    by_cases hlt : j < L.length
    · have hltI : (j : Int) < (L.length : Int) := by omega
      obtain ⟨b, hbe⟩ : ∃ b, L[j]? = some b := ⟨_, List.getElem?_eq_getElem hlt⟩
      obtain ⟨gb, rfl, hgb, c0, c1, c2⟩ := HC.out j b hbe
      have HBE := Lib.hid hbe
      have d0 := (HX2.out.cell (p := ⟨gb, j * 3, none⟩) hgb).trans c0
      have d1 := (HX2.out.cell (p := ⟨gb, j * 3 + 1, none⟩) hgb).trans c1
      have d2 := (HX2.out.cell (p := ⟨gb, j * 3 + 2, none⟩) hgb).trans c2
      have hbl : gb < wr.heap.size := Nat.lt_of_lt_of_le hgb HX2.out.size
      obtain ⟨bk, bt, bo⟩ := b
      simp only at d0 d1 d2
      clear c0 c1 c2 hgb hbe
      have hx1 : Ext wr (wr.alloc (.cells #[.int .i64 bk, .string ⟨bt.toArray⟩, .int .i64 bo] 140)) := (Ext.refl wr).alloc _
      go_simp
      repeat (first | go_values | go_skip | go_guarded | go_step | go_upon)
      refine Calls.mono (KI.out _ _ _ (HP.out.ext (Ext.trans HX.out hx1))) ?_
      rintro e W2 ⟨rfl, hb2⟩
      have HD := Lib.hid ((Blk.new wr #[.int .i64 bk, .string ⟨bt.toArray⟩, .int .i64 bo] 140 rfl).keep hb2)
      have HX3 := Lib.hid (Ext.trans hx1 hb2)
      clear hx1 hb2 d0 d1 d2 hbl
      rw [bsl_mk]
      cases hB : isB T s bk bt
      · go_wp2_with fail
        go_roundw
        case measure => simp [intOf]; omega
        case rel =>
        refine ⟨u4, .pointer (some ⟨wr.heap.size, 0, none⟩), .int .i64 ((j + 1 : Nat) : Int), ⟨j + 1, by omega, rfl, Ext.trans HX2.out HX3.out, ?_⟩, by simp⟩
        rw [← HFd.out]
        exact (findF_drop T s L j _ HBE.out hB).symm
      · have hP := HP.out.ext (Ext.trans HX.out HX3.out)
        have hl := isB_lt hB
        have hle := hP.few
        have HB := Lib.hid hP.blk
        obtain rfl : R = (bo, { s with i := s.i + 1 }) := by
          rw [← HFd.out, List.drop_eq_getElem_cons hlt]
          have e := Option.some.inj ((List.getElem?_eq_getElem hlt).symm.trans HBE.out)
          rw [e]
          simp only [findF, hB, if_true]
        have HPP := Lib.hid hP
        have HLL := Lib.hid (LeP.ofExt (p := p) (Ext.trans HX.out HX3.out))
        clear hP HBE HFd hB HRf
        obtain ⟨i, deep, at_, er⟩ := s
        simp only [psC] at HB hl
        obtain ⟨cb, fb⟩ := HB.out.facts
        have hbl := HB.out.lt
        have hne : wr.heap.size ≠ p := by have := HP.out.blk.lt; have := HX.out.size; omega
        obtain ⟨cd, fd⟩ := HD.out.facts
        have hdl := HD.out.lt
        have hsum := IntWalk.i64_in ((i : Int) + 1) (by omega)
        go_simp
        repeat (first | go_values | go_skip | go_guarded | go_step | go_upon)
        go_returns
        refine ⟨rfl, HPP.out.set (LeP.set 1 _) ?_ hl, HLL.out.trans (LeP.set 1 _)⟩
        exact HB.out.set 1 _
    · obtain rfl : j = L.length := by omega
      have hltI : ¬ (L.length : Int) < (L.length : Int) := by omega
      obtain rfl : R = (0, s) := by rw [← HFd.out, List.drop_length]; rfl
      go_wp2_with fail
      go_returns
      exact ⟨rfl, HP.out.ext HX.out, LeP.ofExt HX.out⟩
end Go.Proofs.YtlhkmdchjklaeaaGreatDoor
