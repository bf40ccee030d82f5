/-
  The law of remarks: the walk, and what the lexer makes of its two texts.
-/
import Derived.Test.YtjjmifidjeaefaaDoorLexE
namespace Go.Proofs.YtjjmifidjeaefaaDoor
open Go.RowKit Go.Shelf
set_option maxRecDepth 100000

theorem bsl_append (a b : ByteArray) : bsl (a ++ b) = bsl a ++ bsl b := by simp [bsl]
theorem skip_line : ∀ (l r : List UInt8), (∀ c ∈ l, c ≠ 10) → Lx.skip true (l ++ 10 :: r) = l.length + 1 + Lx.skip false r
  | [], r, _ => by simp [Lx.skip]; omega
  | c :: l, r, h => by
    have hc : c ≠ 10 := h c (by simp)
    have ih := skip_line l r (fun x hx => h x (List.mem_cons_of_mem _ hx))
    simp only [List.cons_append, Lx.skip, if_neg hc, ih, List.length_cons]
    omega
theorem skip_rest : ∀ (l : List UInt8), (∀ c ∈ l, c ≠ 10) → Lx.skip true l = l.length
  | [], _ => rfl
  | c :: l, h => by
    have hc : c ≠ 10 := h c (by simp)
    have ih := skip_rest l (fun x hx => h x (List.mem_cons_of_mem _ hx))
    simp only [Lx.skip, if_neg hc, ih, List.length_cons]
theorem first_a (r : List UInt8) : Lx.lex (97 :: 32 :: r) = Lx.lexAt [⟨1, [97], 0, 0⟩] 1 (32 :: r) := by
  rw [Lx.lex_eq, Lx.lexAt_tok (c := 97) (r := 32 :: r) (x := (1, [97], 0, 1)) (by rfl) (by rfl)]
  rfl
theorem remarks_two (l : List UInt8) (h : ∀ c ∈ l, c ≠ 10) : Lx.lex ([97, 32, 45, 45] ++ l ++ [10, 98]) = .ok [⟨1, [97], 0, 0⟩, ⟨1, [98], 0, l.length + 5⟩] := by
  rw [show [97, 32, 45, 45] ++ l ++ [10, 98] = 97 :: 32 :: 45 :: 45 :: (l ++ 10 :: [98]) by simp, first_a]
  have hs : Lx.skip false (32 :: 45 :: 45 :: (l ++ 10 :: [98])) = l.length + 4 := by
    have e : Lx.skip false (32 :: 45 :: 45 :: (l ++ 10 :: [98])) = Lx.skip true (45 :: 45 :: (l ++ 10 :: [98])) + 1 := by
      simp [Lx.skip, Lx.isBlank]
    have e2 : Lx.skip true (45 :: 45 :: (l ++ 10 :: [98])) = Lx.skip true (l ++ 10 :: [98]) + 2 := by simp [Lx.skip]
    rw [e, e2, skip_line l [98] h]
    have : Lx.skip false [98] = 0 := rfl
    omega
  have hd : (32 :: 45 :: 45 :: (l ++ 10 :: [98])).drop (l.length + 4) = [98] := by
    rw [show l.length + 4 = 3 + (l.length + 1) by omega, ← List.drop_drop]
    rw [show (32 :: 45 :: 45 :: (l ++ 10 :: [98]) : List UInt8).drop 3 = l ++ 10 :: [98] from rfl]
    rw [← List.drop_drop, List.drop_left]
    rfl
  rw [Lx.lexAt_tok (c := 98) (r := []) (x := (1, [98], 0, 1)) (by rw [hs, hd]) (by rfl), hs]
  rw [Lx.lexAt_end (by rfl)]
  simp
  omega
theorem remarks_one (l : List UInt8) (h : ∀ c ∈ l, c ≠ 10) : Lx.lex ([97, 32, 45, 45] ++ l) = .ok [⟨1, [97], 0, 0⟩] := by
  rw [show [97, 32, 45, 45] ++ l = 97 :: 32 :: 45 :: 45 :: l by simp, first_a]
  have hs : Lx.skip false (32 :: 45 :: 45 :: l) = l.length + 3 := by
    have e : Lx.skip false (32 :: 45 :: 45 :: l) = Lx.skip true (45 :: 45 :: l) + 1 := by
      simp [Lx.skip, Lx.isBlank]
    have e2 : Lx.skip true (45 :: 45 :: l) = Lx.skip true l + 2 := by simp [Lx.skip]
    rw [e, e2, skip_rest l h]
  rw [Lx.lexAt_end (by rw [hs]; apply List.drop_eq_nil_of_le; simp)]

set_option maxHeartbeats 4000000 in
theorem law_remarks (s : ByteArray) (w : World) (hG : Glob w) (hs : s.size ≤ maxLen) :
    Calls Tryd.prog 4 #[.string s] w fun e w' => e = .returned (.bool true) ∧ Below w.heap.size w w' := by
  unfold maxLen at hs
  go_enter Tryd.func4, Tryd.ntmps4
  go_wp2_with fail
  go_loop [3] (fun i => ∃ k : Nat, k ≤ s.size ∧ (∀ c ∈ (bsl s).take k, c ≠ 10) ∧ i = .int .i64 k) (fun i => s.size - (intOf i).toNat)
  case atStart => exact ⟨0, Nat.zero_le _, by simp, rfl⟩
  case round =>
    obtain ⟨k, hk, hall, rfl⟩ := hrel
    have HA := Lib.hid hall
    clear hall
    by_cases hlt : k < s.size
    · by_cases h10 : s[k]'hlt = 10
      · have e10 : ((s[k]'hlt).toNat : Int) = 10 := by rw [h10]; rfl
        clear h10
        go_wp2_with fail
        refine (awake_any w hG).mono ?_
        rintro e w2 ⟨rfl, hb2⟩
        have HB2 := Lib.hid hb2
        clear hb2
        go_wp2
        go_ret
        exact ⟨rfl, HB2.out⟩
      · have HQ := Lib.hid h10
        have e10 : ((s[k]'hlt).toNat : Int) ≠ 10 := by
          intro h
          apply h10
          rw [← UInt8.toNat_inj]
          simpa using (by omega : (s[k]'hlt).toNat = 10)
        clear h10
        go_wp2
        go_round
        case rel =>
          refine ⟨k + 1, hlt, ?_, by go_num⟩
          intro c hc
          rw [List.take_add_one, bsl_get s k hlt] at hc
          rcases List.mem_append.1 hc with hc | hc
          · exact HA.out c hc
          · simp at hc; subst hc; exact HQ.out
        case measure => simp [intOf]; omega
    · have hall : ∀ c ∈ bsl s, c ≠ 10 := by
        intro c hc
        have := HA.out
        rw [List.take_of_length_le (by rw [bsl_length]; omega)] at this
        exact this c hc
      have HALL := Lib.hid hall
      clear hall
      by_cases hbig : 500 < s.size
      · go_wp2_with fail
        refine (awake_any w hG).mono ?_
        rintro e w2 ⟨rfl, hb2⟩
        have HB2 := Lib.hid hb2
        clear hb2
        go_wp2
        go_ret
        exact ⟨rfl, HB2.out⟩
      · have h2 := remarks_two (bsl s) HALL.out
        have h1 := remarks_one (bsl s) HALL.out
        rw [bsl_length] at h2
        have H2 := Lib.hid h2
        have H1 := Lib.hid h1
        clear h1 h2
        go_wp2_with fail
        refine (tokens_any _ w hG (by rw [ByteArray.size_append, ByteArray.size_append]; show 4 + s.size + 2 ≤ 4000; omega)).mono ?_
        rintro e w2 ⟨hE, hb2⟩
        rw [bsl_append, bsl_append] at hE
        rw [show bsl (ByteArray.mk #[97, 32, 45, 45]) = [97, 32, 45, 45] from rfl, show bsl (ByteArray.mk #[10, 98]) = [10, 98] from rfl, H2.out] at hE
        obtain ⟨v, rfl, ho⟩ := hE
        obtain ⟨g, cap, rfl, hcap, hmax, hcells⟩ := (Toks.of ho).cons
        have c5 : w2.cell? ⟨g, 5, none⟩ = some (.string ⟨#[98]⟩) := by rw [hcells 5 (by simp)]; rfl
        have c7 : w2.cell? ⟨g, 7, none⟩ = some (.int .i64 ((s.size + 5 : Nat) : Int)) := by rw [hcells 7 (by simp)]; rfl
        have hg : g < w2.heap.size := by
          rcases Toks.of ho with ⟨h, _⟩ | ⟨g', cap', h, _, _, h4, _⟩
          · cases h
          · cases h; exact h4
        clear ho hcells
        have HB2 := Lib.hid hb2
        clear hb2
        simp only [List.length_cons, List.length_nil]
        go_wp2_with fail
        refine (tokens_any _ w2 (hG.keep HB2.out) (by rw [ByteArray.size_append]; show 4 + s.size ≤ 4000; omega)).mono ?_
        rintro e w3 ⟨hE, hb3⟩
        rw [bsl_append] at hE
        rw [show bsl (ByteArray.mk #[97, 32, 45, 45]) = [97, 32, 45, 45] from rfl, H1.out] at hE
        obtain ⟨v, rfl, ho⟩ := hE
        obtain ⟨g2, cap2, rfl, hcap2, hmax2, hcells⟩ := (Toks.of ho).cons
        rw [← hb3.cell (p := ⟨g, 5, none⟩) hg] at c5
        rw [← hb3.cell (p := ⟨g, 7, none⟩) hg] at c7
        clear ho hcells
        have HB3 := Lib.hid (HB2.out.trans (hb3.mono HB2.out.size))
        clear hb3
        simp only [List.length_nil]
        go_wp2_with fail
        refine (awake_any w3 (hG.keep HB3.out)).mono ?_
        rintro e w4 ⟨rfl, hb4⟩
        have HB4 := Lib.hid (HB3.out.trans (hb4.mono HB3.out.size))
        clear hb4
        go_wp2
        go_ret
        exact ⟨rfl, HB4.out⟩
end Go.Proofs.YtjjmifidjeaefaaDoor
