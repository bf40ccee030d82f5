/-
  The law of texts between quotes: the walk, and what the lexer makes of the text.
-/
import Derived.Test.YtjjmifidjeaefaaDoorLexRemarksLaw
namespace Go.Proofs.YtjjmifidjeaefaaDoor
open Go.RowKit Go.Shelf
set_option maxRecDepth 100000

/-- Each quote said twice. -/
def twice (l : List UInt8) : List UInt8 := l.flatMap fun c => if c = 39 then [39, 39] else [c]
theorem twice_snoc (l : List UInt8) (c : UInt8) : twice (l ++ [c]) = twice l ++ (if c = 39 then [39, 39] else [c]) := by simp [twice]
theorem twice_length : ∀ l : List UInt8, (twice l).length ≤ 2 * l.length
  | [] => Nat.le_refl _
  | c :: l => by
    have := twice_length l
    rw [twice, List.flatMap_cons, List.length_append, List.length_cons, ← twice]
    split <;> simp <;> omega
theorem quote_twice (d : UInt8) (r : List UInt8) (hd : d ≠ 39) : ∀ l : List UInt8, Lx.quote (twice l ++ 39 :: d :: r) = some (l, (twice l).length + 1)
  | [] => by simp [twice, Lx.quote, hd]
  | c :: l => by
    have ih := quote_twice d r hd l
    by_cases hc : c = 39
    · subst hc
      have e : twice (39 :: l) = 39 :: 39 :: twice l := by simp [twice]
      rw [e]
      simp only [List.cons_append, Lx.quote, if_true, ih]
      simp
    · have e : twice (c :: l) = c :: twice l := by simp [twice, hc]
      rw [e, List.cons_append]
      cases hy : twice l ++ 39 :: d :: r with
      | nil => simp at hy
      | cons x y =>
        rw [hy] at ih
        simp only [Lx.quote, if_neg hc, ih]
        simp
theorem lex_text (l : List UInt8) : Lx.lex ([97, 32] ++ (39 :: (twice l ++ [39])) ++ [98]) = .ok [⟨1, [97], 0, 0⟩, ⟨4, l, 0, 2⟩, ⟨1, [98], 0, (twice l).length + 4⟩] := by
  rw [show [97, 32] ++ (39 :: (twice l ++ [39])) ++ [98] = 97 :: 32 :: 39 :: (twice l ++ 39 :: [98]) by simp, first_a]
  have hs : Lx.skip false (32 :: 39 :: (twice l ++ 39 :: [98])) = 1 := by simp [Lx.skip, Lx.isBlank]
  have ht : Lx.tok1 (39 :: (twice l ++ 39 :: [98])) = some (4, l, 0, (twice l).length + 2) := by
    rw [tok1_eq]
    simp only [show Lx.isLetter 39 = false from rfl, show Lx.isDigit 39 = false from rfl, textE, List.drop_succ_cons, List.drop_zero, quote_twice 98 [] (by decide) l]
    simp
  rw [Lx.lexAt_tok (c := 39) (r := twice l ++ 39 :: [98]) (by rw [hs]; rfl) ht, hs]
  have hd : (39 :: (twice l ++ 39 :: [98])).drop ((twice l).length + 2) = [98] := by
    rw [show (twice l).length + 2 = 1 + ((twice l).length + 1) by omega, ← List.drop_drop]
    rw [show (39 :: (twice l ++ 39 :: [98]) : List UInt8).drop 1 = twice l ++ 39 :: [98] from rfl, ← List.drop_drop, List.drop_left]
    rfl
  simp only [hd]
  rw [Lx.lexAt_tok (c := 98) (r := []) (x := (1, [98], 0, 1)) (by rfl) (by rfl), Lx.lexAt_end (by rfl)]
  simp [Lx.skip, Lx.isBlank]
  omega
theorem back_bsl (s : ByteArray) : (⟨(bsl s).toArray⟩ : ByteArray) = s := by
  apply ByteArray.ext
  simp [bsl]
theorem bsl_one (s : ByteArray) (k : Nat) (h : k < s.size) : bsl (s.extract k (k + 1)) = [s[k]'h] := by
  have e : bsl (s.extract k (k + 1)) = ((bsl s).drop k).take 1 := by
    simp [bsl, List.take_drop]
  rw [e, bsl_drop_cons s k h]
  rfl

set_option maxHeartbeats 4000000 in
theorem law_texts (s : ByteArray) (w : World) (hG : Glob w) (hs : s.size ≤ maxLen) :
    Calls Tryd.prog 8 #[.string s] w fun e w' => e = .returned (.bool true) ∧ Below w.heap.size w w' := by
  unfold maxLen at hs
  by_cases hbig : 1000 < s.size
  · go_enter Tryd.func8, Tryd.ntmps8
    go_wp2_with fail
    refine (awake_any w hG).mono ?_
    rintro e w2 ⟨rfl, hb2⟩
    have HB2 := Lib.hid hb2
    clear hb2
    go_wp2
    go_ret
    exact ⟨rfl, HB2.out⟩
  · have hlt2 : ∀ x : ByteArray, ∀ k, bsl x = 39 :: twice ((bsl s).take k) → x.size ≤ 2001 := by
      intro x k hx
      have h1 := congrArg List.length hx
      rw [bsl_length, List.length_cons] at h1
      have h2 := twice_length ((bsl s).take k)
      rw [List.length_take, bsl_length] at h2
      omega
    have HL := Lib.hid hlt2
    clear hlt2
    go_enter Tryd.func8, Tryd.ntmps8
    go_wp2_with fail
    go_loop [3, 4] (fun q i => ∃ (x : ByteArray) (k : Nat), q = .string x ∧ i = .int .i64 k ∧ k ≤ s.size ∧ bsl x = 39 :: twice ((bsl s).take k)) (fun _ i => s.size - (intOf i).toNat)
    case atStart => exact ⟨⟨#[39]⟩, 0, rfl, rfl, Nat.zero_le _, rfl⟩
    case round =>
      obtain ⟨x, k, rfl, rfl, hk, hx⟩ := hrel
      have hxs := HL.out x k hx
      have HX := Lib.hid hx
      clear hx
      by_cases hlt : k < s.size
      · have H1 := Lib.hid (bsl_one s k hlt)
        have HT := Lib.hid (show (bsl s).take (k + 1) = (bsl s).take k ++ [s[k]'hlt] by rw [List.take_add_one, bsl_get s k hlt]; rfl)
        by_cases h39 : s[k]'hlt = 39
        · have HQ := Lib.hid h39
          have e39 : ((s[k]'hlt).toNat : Int) = 39 := by rw [h39]; rfl
          clear h39
          go_wp2
          go_round
          case rel =>
            refine ⟨_, k + 1, rfl, by go_num, hlt, ?_⟩
            rw [bsl_append, bsl_append, HX.out, H1.out, HT.out, twice_snoc, if_pos HQ.out, HQ.out, show bsl (ByteArray.mk #[39]) = [39] from rfl]
            simp
          case measure => simp [intOf]; omega
        · have HQ := Lib.hid h39
          have e39 : ((s[k]'hlt).toNat : Int) ≠ 39 := by
            intro h
            apply h39
            rw [← UInt8.toNat_inj]
            simpa using (by omega : (s[k]'hlt).toNat = 39)
          clear h39
          go_wp2
          go_round
          case rel =>
            refine ⟨_, k + 1, rfl, by go_num, hlt, ?_⟩
            rw [bsl_append, HX.out, H1.out, HT.out, twice_snoc, if_neg HQ.out]
            simp
          case measure => simp [intOf]; omega
      · have hx := HX.out
        rw [List.take_of_length_le (by rw [bsl_length]; omega)] at hx
        have HX2 := Lib.hid hx
        have hq := Lib.hid (show Lx.lex ([97, 32] ++ (39 :: twice (bsl s) ++ [39]) ++ [98]) = .ok [⟨1, [97], 0, 0⟩, ⟨4, bsl s, 0, 2⟩, ⟨1, [98], 0, (twice (bsl s)).length + 4⟩] from lex_text (bsl s))
        have hsz : ((x.size : Nat) : Int) = (twice (bsl s)).length + 1 := by
          rw [← bsl_length, hx]; simp
        clear hx
        go_wp2_with fail
        refine (tokens_any _ w hG (by rw [ByteArray.size_append, ByteArray.size_append, ByteArray.size_append]; show 2 + (x.size + 1) + 1 ≤ 4000; omega)).mono ?_
        rintro e w2 ⟨hE, hb2⟩
        rw [bsl_append, bsl_append, bsl_append, HX2.out, show bsl (ByteArray.mk #[97, 32]) = [97, 32] from rfl, show bsl (ByteArray.mk #[98]) = [98] from rfl, show bsl (ByteArray.mk #[39]) = [39] from rfl, hq.out] at hE
        obtain ⟨v, rfl, ho⟩ := hE
        obtain ⟨g, cap, rfl, hcap, hmax, hcells⟩ := (Toks.of ho).cons
        have c4 : w2.cell? ⟨g, 4, none⟩ = some (.int .i64 4) := by rw [hcells 4 (by simp)]; rfl
        have c5 : w2.cell? ⟨g, 5, none⟩ = some (.string s) := by rw [hcells 5 (by simp)]; exact congrArg (fun x => some (Value.string x)) (back_bsl s)
        have c7 : w2.cell? ⟨g, 7, none⟩ = some (.int .i64 2) := by rw [hcells 7 (by simp)]; rfl
        have c9 : w2.cell? ⟨g, 9, none⟩ = some (.string ⟨#[98]⟩) := by rw [hcells 9 (by simp)]; rfl
        have c11 : w2.cell? ⟨g, 11, none⟩ = some (.int .i64 ((2 : Int) + (x.size + 1))) := by rw [hcells 11 (by simp), hsz]; exact congrArg (fun x => some (Value.int .i64 x)) (by simp only; omega)
        clear ho hcells
        have HB2 := Lib.hid hb2
        clear hb2
        simp only [List.length_cons, List.length_nil]
        go_wp2_with fail
        refine (awake_any w2 (hG.keep HB2.out)).mono ?_
        rintro e w4 ⟨rfl, hb4⟩
        have HB4 := Lib.hid (HB2.out.trans (hb4.mono HB2.out.size))
        clear hb4
        go_wp2
        go_ret
        exact ⟨rfl, HB4.out⟩
end Go.Proofs.YtjjmifidjeaefaaDoor
