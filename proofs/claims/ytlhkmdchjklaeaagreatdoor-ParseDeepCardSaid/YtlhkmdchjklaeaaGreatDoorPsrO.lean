/-
  The parser: its beginning and its end.
-/
import Derived.Test.YtlhkmdchjklaeaaGreatDoorPsrN
namespace Go.Proofs.YtlhkmdchjklaeaaGreatDoor
open Go.RowKit Go.Lib
set_option maxRecDepth 100000

theorem tokAt_own {w : World} {B : Nat} {v : Value} {L : List Lx.Tok} (h : w.ownsRow B 133 4 v L.length (tokCs L)) (h0 : L ≠ []) : ∃ g cap, v = .slice (some ⟨g, 0, none⟩) L.length cap ∧ L.length ≤ cap ∧ B ≤ g ∧ TokAt w g L := by
  obtain ⟨_, ho⟩ := h
  rcases ho with ⟨_, h1⟩ | ⟨g, cap, cur, rfl, hge, hb, hn, _, hs, ht⟩
  · exact absurd (List.eq_nil_of_length_eq_zero h1) h0
  · refine ⟨g, cap, rfl, by omega, hge, lt_of_block hb, fun j hj => ?_⟩
    rw [cell_of_row w g _ cur _ (0, 0) hb, ← ht, List.getElem?_take, if_pos (by omega), Array.getElem?_toList]
def BeginPost (T : List Lx.Tok) (long : Nat) (w : World) (e : Ending) (w' : World) : Prop := ∃ p g cap, e = .returned (.pointer (some ⟨p, 0, none⟩)) ∧ w.heap.size ≤ p ∧ w.heap.size ≤ g ∧ PsAt w' p g cap long T ⟨0, 0, 0, 0⟩ ∧ Below w.heap.size w w'
set_option maxHeartbeats 4000000 in
theorem begin_any (s : ByteArray) (T : List Lx.Tok) (hl : Lx.lex (bsl s) = .ok T) (h0 : T ≠ []) (hT : T.length ≤ 4000) (w : World) (hG : GlobL w) (hs : s.size ≤ 4000) :
    Calls Tryz.prog 16 #[.string s] w (BeginPost T s.size w) := by
  have KT := Lib.hid (tokens_any s w hG hs)
  rw [hl] at KT
  clear hG hl
  go_enter Tryz.func16, Tryz.ntmps16
  go_simp
  repeat (first | go_values | go_skip | go_guarded | go_step | go_upon)
  refine Calls.mono KT.out ?_
  rintro e W1 ⟨⟨v, rfl, hown⟩, hb1⟩
  obtain ⟨g, cap, rfl, hcap, hge, hat⟩ := tokAt_own hown h0
  have HT := Lib.hid hat
  have HX := Lib.hid hb1
  clear hown hat hb1 KT
  go_simp
  repeat (first | go_values | go_skip | go_guarded | go_step | go_upon)
  go_returns
  have hx1 : Ext W1 (W1.alloc (.cells #[.slice (some ⟨g, 0, none⟩) T.length cap, .int .i64 0, .int .i64 s.size, .int .i64 0, .int .i64 0, .int .i64 0] 80)) := (Ext.refl W1).alloc _
  refine ⟨W1.heap.size, g, cap, rfl, HX.out.size, hge, ⟨by
    unfold psC
    rw [psA_pos (List.length_pos_iff.2 h0)]
    exact Blk.new W1 _ 80 rfl, HT.out.ext (hx1.block g HT.out.1) hx1.size, by have := HT.out.1; omega, Nat.zero_le _, hcap, hT⟩, Ext.trans HX.out hx1⟩
/-- What is wrong, if anything is. -/
def endP (T : List Lx.Tok) (long : Nat) (s : PSt) : PSt := if s.e = 0 ∧ s.i < T.length then wrongP T long 10 s else s
def endA (s : PSt) : Int := if s.e = 0 then 0 else s.at_
set_option maxHeartbeats 8000000 in
theorem end_any (p g cap long : Nat) (T : List Lx.Tok) (s : PSt) (w : World) (h : PsAt w p g cap long T s) :
    Calls Tryz.prog 18 #[.pointer (some ⟨p, 0, none⟩)] w fun e w' => e = .returned (.tuple #[.int .i64 (endA (endP T long s)), .int .i64 (endP T long s).e]) ∧ LeP p w w' := by
  have mixed : Tryz.prog.follows .mixedOrders = true := by kernel_rfl
  have KW := Lib.hid (fun W (hW : PsAt W p g cap long T s) => wrong_any p g cap long T s 10 W hW)
  have HP := Lib.hid h
  have hle := h.le
  have hcap := h.cap
  have hfew := h.few
  obtain ⟨E, hE⟩ : ∃ E, E = endP T long s := ⟨_, rfl⟩
  rw [← hE]
  unfold endP at hE
  obtain ⟨cb, fb⟩ := h.blk.facts
  unfold psC at cb
  have hbl := h.blk.lt
  clear h
  cases he : s.e == 0
  · have he2 : ¬ s.e = 0 := by intro e; rw [e] at he; cases he
    rw [if_neg (fun h => he2 h.1)] at hE
    have hA : endA E = s.at_ := by rw [hE]; unfold endA; rw [if_neg he2]
    have hEe : E.e = s.e := by rw [hE]
    rw [hA, hEe]
    clear hE
    go_enter Tryz.func18, Tryz.ntmps18
    go_simp
    repeat (first | go_values | go_skip | go_guarded | go_step | go_upon)
    go_quiet (fail)
    go_simp
    repeat (first | go_values | go_skip | go_guarded | go_step | go_upon)
    go_quiet (fail)
    go_wp2
    go_returns
    exact ⟨rfl, LeP.ofExt (Ext.trans (bel_drewN _ _) (bel_drewN _ _))⟩
  · have he2 : s.e = 0 := by simpa using he
    by_cases hlt : s.i < T.length
    · rw [if_pos ⟨he2, hlt⟩] at hE
      have hltI : (s.i : Int) < (T.length : Int) := by omega
      have hltB : decide ((s.i : Int) < (T.length : Int)) = true := by rw [decide_eq_true_iff]; exact hltI
      have hw : wrongP T long 10 s = E := hE.symm
      rw [hw] at KW
      have hEe : (E.e == 0) = false := by
        rw [hE]
        unfold wrongP
        rw [if_pos he2]
        rfl
      have hA : endA E = E.at_ := by unfold endA; rw [if_neg (by intro e; rw [e] at hEe; cases hEe)]
      rw [hA]
      clear hE hw hA
      obtain ⟨i2, d2, a2, e2⟩ := E
      simp only at hEe ⊢
      go_enter Tryz.func18, Tryz.ntmps18
      go_simp
      repeat (first | go_values | go_skip | go_guarded | go_step | go_upon)
      go_quiet (fail)
      go_simp
      repeat (first | go_values | go_skip | go_guarded | go_step | go_upon)
      refine Calls.mono (KW.out _ (HP.out.ext (bel_drewN _ _))) ?_
      rintro e W2 ⟨rfl, hp2, hl2⟩
      have hl3 : LeP p w W2 := (LeP.ofExt (bel_drewN _ _)).trans hl2
      have HB2 := Lib.hid hp2.blk
      have HL2 := Lib.hid hl3
      clear hp2 hl2 hl3 cb fb hbl KW HP
      simp only [psC] at HB2
      obtain ⟨cb, fb⟩ := HB2.out.facts
      have hbl := HB2.out.lt
      go_simp
      repeat (first | go_values | go_skip | go_guarded | go_step | go_upon)
      go_quiet (fail)
      go_wp2
      go_returns
      exact ⟨rfl, HL2.out.trans (LeP.ofExt (bel_drewN _ _))⟩
    · rw [if_neg (fun h => hlt h.2)] at hE
      have hnl : decide ((s.i : Int) < (T.length : Int)) = false := by rw [decide_eq_false_iff_not]; omega
      have hnl2 : decide (s.i < T.length) = false := by rw [decide_eq_false_iff_not]; omega
      have hA : endA E = 0 := by rw [hE]; unfold endA; rw [if_pos he2]
      have hEe : E.e = 0 := by rw [hE]; exact he2
      rw [hA, hEe]
      clear hE
      go_enter Tryz.func18, Tryz.ntmps18
      go_simp
      repeat (first | go_values | go_skip | go_guarded | go_step | go_upon)
      go_quiet (fail)
      go_simp
      repeat (first | go_values | go_skip | go_guarded | go_step | go_upon)
      go_returns
      exact ⟨rfl, LeP.ofExt (bel_drewN _ _)⟩
end Go.Proofs.YtlhkmdchjklaeaaGreatDoor
