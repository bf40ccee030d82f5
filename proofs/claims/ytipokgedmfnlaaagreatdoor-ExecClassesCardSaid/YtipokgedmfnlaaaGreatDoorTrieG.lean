/-
  A sign's number is found in a trie (trie.Get); whether a number is a sign (utext.Sign).
-/
import Derived.Test.YtipokgedmfnlaaaGreatDoorSigns
namespace Go.Proofs.YtipokgedmfnlaaaGreatDoor
open Go.RowKit Go.Lib
set_option maxRecDepth 100000

set_option maxHeartbeats 4000000 in
theorem isSign_any (c : Nat) (h : isSign c = true) (w : World) : Calls Tryz.prog 263 #[.int .i64 c] w fun e w' => e = .returned (.bool true) ∧ w = w' := by
  have hc : c < 55296 ∨ 57344 ≤ c ∧ c < 1114112 ∨ 1114240 ≤ c ∧ c ≤ 1114367 := by
    simp [isSign] at h
    omega
  have d0 : decide ((0 : Int) ≤ (c : Int)) = true := decide_eq_true (by omega)
  rcases hc with hc | hc | hc
  · have d1 : decide ((c : Int) < 55296) = true := decide_eq_true (by omega)
    go_enter Tryz.func263, Tryz.ntmps263
    go_wp2_with fail
    go_ret
    exact ⟨rfl, rfl⟩
  · have d1 : decide ((c : Int) < 55296) = false := decide_eq_false (by omega)
    have d2 : decide ((57344 : Int) ≤ (c : Int)) = true := decide_eq_true (by omega)
    have d3 : decide ((c : Int) < 1114112) = true := decide_eq_true (by omega)
    go_enter Tryz.func263, Tryz.ntmps263
    go_wp2_with fail
    go_ret
    exact ⟨rfl, rfl⟩
  · have d1 : decide ((c : Int) < 55296) = false := decide_eq_false (by omega)
    have d2 : decide ((57344 : Int) ≤ (c : Int)) = true := decide_eq_true (by omega)
    have d3 : decide ((c : Int) < 1114112) = false := decide_eq_false (by omega)
    have d4 : decide ((1114240 : Int) ≤ (c : Int)) = true := decide_eq_true (by omega)
    have d5 : decide ((c : Int) ≤ 1114367) = true := decide_eq_true (by omega)
    go_enter Tryz.func263, Tryz.ntmps263
    go_wp2_with fail
    go_ret
    exact ⟨rfl, rfl⟩
set_option maxHeartbeats 4000000 in
/-- A sign's number. -/
theorem trieGet_any (T : Nat) (f : Nat → Int) (c : Nat) (w : World) (hT : TrieAt w T f) (hc : c ≤ 1114367) (hf : 0 ≤ f c ∧ f c ≤ 1000) :
    Calls Tryz.prog 259 #[.pointer (some ⟨T, 0, none⟩), .int .i64 c] w fun e w' => e = .returned (.int .i64 (f c)) ∧ w = w' := by
  obtain ⟨M, g, cp, is, h1, h2, h3, h4, h5, h6, h7⟩ := hT
  have hq : (c : Int).tdiv 64 = ((c / 64 : Nat) : Int) := by rw [Int.tdiv_eq_ediv_of_nonneg (by omega)]; rfl
  have hr : (c : Int).tmod 64 = ((c % 64 : Nat) : Int) := by rw [Int.tmod_eq_emod_of_nonneg (by omega)]; rfl
  have d0 : decide ((c : Int) < 0) = false := decide_eq_false (by omega)
  have d1 : decide ((1114367 : Int) < (c : Int)) = false := decide_eq_false (by omega)
  have hfc : f c = (blk f (c / 64)).getD (c % 64) 0 := by
    unfold blk
    rw [List.getD_eq_getElem?_getD, List.getElem?_map, List.getElem?_range (Nat.mod_lt _ (by decide))]
    show f c = f _
    congr 1
    omega
  have hj64 : c % 64 < 64 := Nat.mod_lt _ (by decide)
  have hi : c / 64 ≤ 17412 := by omega
  obtain ⟨C, hC⟩ : ∃ C : Int, C = (c : Int) := ⟨_, rfl⟩
  rw [← hC] at hq hr d0 d1 ⊢
  generalize c / 64 = i at hq hfc hi
  generalize c % 64 = j at hr hfc hj64
  have HM := Lib.hid h2
  have htl := h1.lt
  obtain ⟨ct, ft⟩ := h1.facts
  by_cases hm : i ∈ is
  · have hkl := List.idxOf_lt_length_of_mem (blks_mem f is i hm)
    have hget : (blks f is).getD ((blks f is).idxOf (blk f i)) [] = blk f i := by
      rw [List.getD_eq_getElem?_getD, List.getElem?_eq_getElem hkl]
      simp
    have hcell := h4 _ j hkl hj64
    rw [hget, ← hfc] at hcell
    have HL := Lib.hid (show ((Value.int .i64 (i : Int)), Value.int .i64 (((blks f is).idxOf (blk f i) : Nat) : Int)) ∈ atL f is (blks f is) from List.mem_map.2 ⟨i, hm, rfl⟩)
    generalize (blks f is).idxOf (blk f i) = k at hkl hcell HL
    generalize atL f is (blks f is) = L at HL HM
    generalize (blks f is).length = n at hkl ct h7
    have hkI : (k : Int) < n := by omega
    have hjI : (j : Int) < 64 := by omega
    generalize f c = F at hf hcell ⊢
    clear hfc h4 h5 h6 hget h1 h2 hC hm
    go_enter Tryz.func259, Tryz.ntmps259
    go_wp2_with (at_lookup; refine wpList_look rfl _ _ _ _ rfl M (.tuple #[.int .i64 (k : Int), .bool true]) rfl (HM.out.run_hit keyedInt Tryz.underlying230 HL.out true) ?_)
    go_ret
    exact ⟨rfl, rfl⟩
  · have h0 : f c = 0 := by
      rw [hfc, h5 i hm]
      rw [List.getD_eq_getElem?_getD, List.getElem?_replicate, if_pos hj64]
      rfl
    rw [h0]
    have HN := Lib.hid (show ∀ p ∈ atL f is (blks f is), p.1 ≠ Value.int .i64 (i : Int) from fun p hp e => by
      obtain ⟨d, hd, rfl⟩ := List.mem_map.1 hp
      simp only [Value.int.injEq, true_and] at e
      have : d = i := by omega
      exact hm (this ▸ hd))
    have HK := Lib.hid (keyInt i (by omega))
    generalize atL f is (blks f is) = L at HN HM
    clear hfc h4 h5 h6 h1 h2 hC hm h0
    go_enter Tryz.func259, Tryz.ntmps259
    go_wp2_with (at_lookup; refine wpList_look rfl _ _ _ _ rfl M (.tuple #[.int .i64 0, .bool false]) rfl (HM.out.run_miss keyedInt Tryz.underlying230 zeroInt HK.out HN.out true) ?_)
    go_ret
    exact ⟨rfl, rfl⟩
end Go.Proofs.YtipokgedmfnlaaaGreatDoor
