/-
  The lexer: signs, texts, one word, all words.
-/
import Derived.Test.YtlhkmdchjklaeaaGreatDoorLexB
import Derived.Test.YtlhkmdchjklaeaaGreatDoorOwn
namespace Go.Proofs.YtlhkmdchjklaeaaGreatDoor
open Go.RowKit Go.Shelf
set_option maxRecDepth 100000

/-! ### Signs -/
theorem op_hit {l x : List UInt8} (h : Lib.hasPrefix l x = true) (hx : Lx.ops2.contains x = true) (h2 : x.length = 2) : opE l = some (5, x, 0, 2) := by
  have : l.take 2 = x := by
    rw [Lib.hasPrefix, List.isPrefixOf_iff_prefix] at h
    obtain ⟨t, rfl⟩ := h
    rw [← h2, List.take_left]
  unfold opE
  rw [this, if_pos hx]
theorem op_miss {l : List UInt8} (h : ∀ x ∈ Lx.ops2, Lib.hasPrefix l x = false) : Lx.ops2.contains (l.take 2) = false := by
  rw [Bool.eq_false_iff]
  intro hc
  have := h (l.take 2) (by simpa using hc)
  rw [Lib.hasPrefix, ← Bool.not_eq_true, List.isPrefixOf_iff_prefix] at this
  exact this (List.take_prefix 2 l)
theorem ops1_eq (c : UInt8) : Lx.ops1.contains c = decide ((0 : Int) ≤ Lib.indexByte [40, 41, 44, 46, 59, 42, 61, 60, 62, 43, 45, 47, 37, 38, 124, 94] c) := by
  revert c
  apply u8_all
  decide +kernel
set_option maxHeartbeats 4000000 in
theorem op_any (s : ByteArray) (w : World) (hs : s.size ≤ maxLen) (h0 : 0 < s.size) :
    Calls Tryz.prog 123 #[.string s] w fun e w' => e = tokE (opE (bsl s)) ∧ Below w.heap.size w w' := by
  unfold maxLen at hs
  go_enter Tryz.func123, Tryz.ntmps123
  go_wp2_with fail
  refine wp_loop_rounds 7 ?_
  rw [rounds_succ]
  go_wp2_with fail
  refine (Tryz.strings_HasPrefix _ _ _).mono ?_
  rintro e w' ⟨rfl, rfl⟩
  cases h0 : Lib.hasPrefix s.data.toList [60, 62]
  case true =>
    have H0 := Lib.hid (op_hit h0 (by decide) rfl)
    clear h0
    go_wp2_with fail
    refine bodyPost_ret (v := .tuple #[tokV 5 [60, 62] 0 0, .int .i64 2]) (by simp [results, Tryz.results123, go_sem]; rfl) rfl ⟨?_, by go_grown⟩
    rw [bsl, H0.out]
    rfl
  have H0 := Lib.hid h0
  clear h0
  go_wp2_with fail
  rw [rounds_succ]
  go_wp2_with fail
  refine (Tryz.strings_HasPrefix _ _ _).mono ?_
  rintro e w' ⟨rfl, rfl⟩
  cases h1 : Lib.hasPrefix s.data.toList [60, 61]
  case true =>
    have H1 := Lib.hid (op_hit h1 (by decide) rfl)
    clear h1
    go_wp2_with fail
    refine bodyPost_ret (v := .tuple #[tokV 5 [60, 61] 0 0, .int .i64 2]) (by simp [results, Tryz.results123, go_sem]; rfl) rfl ⟨?_, by go_grown⟩
    rw [bsl, H1.out]
    rfl
  have H1 := Lib.hid h1
  clear h1
  go_wp2_with fail
  rw [rounds_succ]
  go_wp2_with fail
  refine (Tryz.strings_HasPrefix _ _ _).mono ?_
  rintro e w' ⟨rfl, rfl⟩
  cases h2 : Lib.hasPrefix s.data.toList [62, 61]
  case true =>
    have H2 := Lib.hid (op_hit h2 (by decide) rfl)
    clear h2
    go_wp2_with fail
    refine bodyPost_ret (v := .tuple #[tokV 5 [62, 61] 0 0, .int .i64 2]) (by simp [results, Tryz.results123, go_sem]; rfl) rfl ⟨?_, by go_grown⟩
    rw [bsl, H2.out]
    rfl
  have H2 := Lib.hid h2
  clear h2
  go_wp2_with fail
  rw [rounds_succ]
  go_wp2_with fail
  refine (Tryz.strings_HasPrefix _ _ _).mono ?_
  rintro e w' ⟨rfl, rfl⟩
  cases h3 : Lib.hasPrefix s.data.toList [60, 60]
  case true =>
    have H3 := Lib.hid (op_hit h3 (by decide) rfl)
    clear h3
    go_wp2_with fail
    refine bodyPost_ret (v := .tuple #[tokV 5 [60, 60] 0 0, .int .i64 2]) (by simp [results, Tryz.results123, go_sem]; rfl) rfl ⟨?_, by go_grown⟩
    rw [bsl, H3.out]
    rfl
  have H3 := Lib.hid h3
  clear h3
  go_wp2_with fail
  rw [rounds_succ]
  go_wp2_with fail
  refine (Tryz.strings_HasPrefix _ _ _).mono ?_
  rintro e w' ⟨rfl, rfl⟩
  cases h4 : Lib.hasPrefix s.data.toList [62, 62]
  case true =>
    have H4 := Lib.hid (op_hit h4 (by decide) rfl)
    clear h4
    go_wp2_with fail
    refine bodyPost_ret (v := .tuple #[tokV 5 [62, 62] 0 0, .int .i64 2]) (by simp [results, Tryz.results123, go_sem]; rfl) rfl ⟨?_, by go_grown⟩
    rw [bsl, H4.out]
    rfl
  have H4 := Lib.hid h4
  clear h4
  go_wp2_with fail
  rw [rounds_succ]
  go_wp2_with fail
  refine (Tryz.strings_HasPrefix _ _ _).mono ?_
  rintro e w' ⟨rfl, rfl⟩
  cases h5 : Lib.hasPrefix s.data.toList [124, 124]
  case true =>
    have H5 := Lib.hid (op_hit h5 (by decide) rfl)
    clear h5
    go_wp2_with fail
    refine bodyPost_ret (v := .tuple #[tokV 5 [124, 124] 0 0, .int .i64 2]) (by simp [results, Tryz.results123, go_sem]; rfl) rfl ⟨?_, by go_grown⟩
    rw [bsl, H5.out]
    rfl
  have H5 := Lib.hid h5
  clear h5
  go_wp2_with fail
  rw [rounds_succ]
  have hm : Lx.ops2.contains ((bsl s).take 2) = false := by
    apply op_miss
    intro x hx
    simp [Lx.ops2] at hx
    rcases hx with rfl | rfl | rfl | rfl | rfl | rfl
    · exact H0.out
    · exact H1.out
    · exact H2.out
    · exact H3.out
    · exact H4.out
    · exact H5.out
  have HM := Lib.hid hm
  clear hm H0 H1 H2 H3 H4 H5
  go_wp2_with fail
  refine (Tryz.strings_IndexByte _ _ _).mono ?_
  rintro e w' ⟨rfl, rfl⟩
  rw [u8_back]
  have HC := Lib.hid (ops1_eq (s[0]'h0))
  have HD := Lib.hid (bsl_drop_cons s 0 h0)
  by_cases hi : (0 : Int) ≤ Lib.indexByte [40, 41, 44, 46, 59, 42, 61, 60, 62, 43, 45, 47, 37, 38, 124, 94] (s[0]'h0)
  · go_wp2_with fail
    have hx : s.extract 0 1 = ⟨[s[0]'h0].toArray⟩ := by
      rw [Lib.extract_upto]
      have hd := HD.out
      rw [List.drop_zero, bsl] at hd
      rw [hd]
      rfl
    refine bodyPost_ret (v := .tuple #[tokV 5 [s[0]'h0] 0 0, .int .i64 1]) (by simp [results, Tryz.results123, go_sem, hx]; rfl) rfl ⟨?_, by go_grown⟩
    have hd := HD.out
    rw [List.drop_zero] at hd
    unfold opE
    rw [HM.out, hd]
    simp only [HC.out, decide_eq_true hi]
    rfl
  · go_wp2_with fail
    refine bodyPost_ret (v := .tuple #[tokV 0 [] 0 0, .int .i64 0]) (by simp [results, Tryz.results123, go_sem]; rfl) rfl ⟨?_, by go_grown⟩
    have hd := HD.out
    rw [List.drop_zero] at hd
    unfold opE
    rw [HM.out, hd]
    simp only [HC.out, decide_eq_false (show ¬ (0 : Int) ≤ Lib.indexByte [40, 41, 44, 46, 59, 42, 61, 60, 62, 43, 45, 47, 37, 38, 124, 94] (s[0]'h0) by omega)]
    rfl

/-! ### Texts between quotes -/
def textE (l : List UInt8) : Option (Nat × List UInt8 × Int × Nat) := (Lx.quote (l.drop 1)).map fun x => (4, x.1, 0, x.2 + 1)
/-- What was read so far, and what is left. -/
structure TextAt (l : List UInt8) (acc : List UInt8) (n : Nat) : Prop where
  pos : 1 ≤ n
  len : acc.length ≤ n
  is : Lx.quote (l.drop 1) = (Lx.quote (l.drop n)).map fun x => (acc ++ x.1, x.2 + (n - 1))
theorem TextAt.start (l : List UInt8) : TextAt l [] 1 := ⟨Nat.le_refl _, by simp, by simp⟩
theorem TextAt.plain {l acc : List UInt8} {n : Nat} (h : TextAt l acc n) {c : UInt8} (hc : l[n]? = some c) (h39 : c ≠ 39) : TextAt l (acc ++ [c]) (n + 1) := by
  have hp := h.pos
  obtain ⟨hn, he⟩ := List.getElem?_eq_some_iff.1 hc
  have e : l.drop n = c :: l.drop (n + 1) := by rw [List.drop_eq_getElem_cons hn, he]
  refine ⟨by omega, by simpa using h.len, ?_⟩
  rw [h.is, e]
  cases hr : l.drop (n + 1) with
  | nil => simp [Lx.quote, h39]
  | cons d r =>
    simp only [Lx.quote, if_neg h39]
    cases Lx.quote (d :: r) with
    | none => rfl
    | some x =>
      simp
      omega
theorem TextAt.twice {l acc : List UInt8} {n : Nat} (h : TextAt l acc n) (hc : l[n]? = some 39) (hd : l[n + 1]? = some 39) : TextAt l (acc ++ [39]) (n + 2) := by
  have hp := h.pos
  have hl := h.len
  obtain ⟨hn, he⟩ := List.getElem?_eq_some_iff.1 hc
  obtain ⟨hn2, he2⟩ := List.getElem?_eq_some_iff.1 hd
  have e : l.drop n = 39 :: 39 :: l.drop (n + 2) := by rw [List.drop_eq_getElem_cons hn, he, List.drop_eq_getElem_cons hn2, he2]
  refine ⟨by omega, by simp; omega, ?_⟩
  rw [h.is, e]
  simp only [Lx.quote, if_true]
  cases Lx.quote (l.drop (n + 2)) with
  | none => rfl
  | some x =>
    simp
    omega
theorem TextAt.stop {l acc : List UInt8} {n : Nat} (h : TextAt l acc n) (hc : l[n]? = some 39) (hd : l[n + 1]? ≠ some 39) : textE l = some (4, acc, 0, n + 1) := by
  have hp := h.pos
  obtain ⟨hn, he⟩ := List.getElem?_eq_some_iff.1 hc
  have e : l.drop n = 39 :: l.drop (n + 1) := by rw [List.drop_eq_getElem_cons hn, he]
  rw [textE, h.is, e]
  rw [← List.head?_drop] at hd
  cases hr : l.drop (n + 1) with
  | nil => simp [Lx.quote]; omega
  | cons d r =>
    rw [hr] at hd
    simp at hd
    simp [Lx.quote, hd]; omega
theorem TextAt.none {l acc : List UInt8} {n : Nat} (h : TextAt l acc n) (hn : l.length ≤ n) : textE l = .none := by
  rw [textE, h.is, List.drop_eq_nil_of_le hn]
  rfl
set_option maxHeartbeats 2000000 in
theorem text_any (s : ByteArray) (w : World) (hs : s.size ≤ 140737488355327) :
    Calls Tryz.prog 122 #[.string s] w fun e w' => e = tokE (textE (bsl s)) ∧ Below w.heap.size w w' := by
  go_enter Tryz.func122, Tryz.ntmps122
  go_wp2_with fail
  go_loopw [5] (fun i W => ∃ (n : Nat) (acc : List UInt8), i = .int .i64 n ∧ n ≤ s.size + 1 ∧ TextAt (bsl s) acc n ∧ Lib.IsBuilder 92 5 (w.heap.size + 1) (w.heap.size + 1) (Lib.byteCells acc) W ∧ Blk W w.heap.size #[.int .i64 0, .string ⟨#[]⟩, .int .i64 0, .int .i64 0] 133 ∧ Below w.heap.size w W)
    (fun i _ => s.size + 1 - (intOf i).toNat)
  case atStart =>
    refine ⟨1, [], rfl, by omega, TextAt.start _, ?_, ?_, by go_grown⟩
    · have := Lib.fresh_isBuilder 92 5 (w.alloc (.cells #[.int .i64 0, .string ⟨#[]⟩, .int .i64 0, .int .i64 0] 133))
      simpa [Lib.byteCells] using this
    · exact (Blk.new w _ 133 rfl).alloc _
  case round =>
    obtain ⟨n, acc, rfl, hn, hT, hB, hblk, hbel⟩ := hrel
    have HT := Lib.hid hT
    have HB := Lib.hid hB
    have HBLK := Lib.hid hblk
    have HBEL := Lib.hid hbel
    clear hT hB hblk hbel
    by_cases hlt : n < s.size
    · have HG := Lib.hid (bsl_get s n hlt)
      by_cases h39 : s[n]'hlt = 39
      · have HQ := Lib.hid h39
        have e39 : ((s[n]'hlt).toNat : Int) = 39 := by rw [h39]; rfl
        clear h39
        go_wp2_with fail
        refine (Tryz.strings_HasPrefix _ _ wr).mono ?_
        rintro e w' ⟨rfl, rfl⟩
        rw [show (s.extract (n + 1) s.size).data.toList = (bsl s).drop (n + 1) from bsl_from s (n + 1)]
        cases hp : Lib.hasPrefix ((bsl s).drop (n + 1)) [39]
        · have HP := Lib.hid hp
          clear hp
          go_wp2_with fail
          have hsz := HBEL.out.size
          have hsz2 : w.heap.size + 1 ≤ w'.heap.size := by
            rcases HB.out with h | h
            · exact Nat.le_of_lt h.lt
            · exact Nat.le_of_lt h.lt
          refine (Tryz.Builder_String_any _ _ acc w' HB.out hsz2).mono ?_
          rintro e w2 ⟨rfl, hb2⟩
          have hblk2 := HBLK.out.below hb2 (Nat.lt_succ_self _)
          have HB2 := Lib.hid (HBEL.out.trans (hb2.mono (Nat.le_succ _)))
          clear hb2 hsz hsz2
          obtain ⟨hc, hf⟩ := hblk2.facts
          go_wp2_with fail
          refine bodyPost_ret (v := .tuple #[tokV 4 acc 0 0, .int .i64 ((n + 1 : Nat) : Int)]) (by simp [results, Tryz.results122, go_sem, (blk4 hblk2 _ _ _ _).cell]; rfl) rfl ⟨?_, below4 HB2.out (Nat.le_refl _) _ _ _ _⟩
          rw [HT.out.stop (by rw [HG.out, HQ.out]) ?_]
          · rfl
          · intro h
            have hp := HP.out
            rw [← List.head?_drop] at h
            cases hr : (bsl s).drop (n + 1) with
            | nil => rw [hr] at h; cases h
            | cons d r =>
              rw [hr] at h hp
              simp at h
              simp [Lib.hasPrefix, List.isPrefixOf, h] at hp
        · have hd : (bsl s)[n + 1]? = some 39 := by
            rw [← List.head?_drop]
            cases hr : (bsl s).drop (n + 1) with
            | nil => rw [hr] at hp; simp [Lib.hasPrefix, List.isPrefixOf] at hp
            | cons d r =>
              rw [hr] at hp
              simp [Lib.hasPrefix, List.isPrefixOf] at hp
              simp [hp]
          have hn1 : n + 1 < s.size := by
            rw [← bsl_length]
            exact (List.getElem?_eq_some_iff.1 hd).1
          have hx : s[n + 1]'hn1 = 39 := by
            have := bsl_get s (n + 1) hn1
            rw [hd] at this
            exact (Option.some.inj this).symm
          have e392 : ((s[n + 1]'hn1).toNat : Int) = 39 := by rw [hx]; rfl
          have HD := Lib.hid hd
          clear hp hd hx
          have hsz2 : w.heap.size + 1 ≤ w'.heap.size := by
            rcases HB.out with h | h
            · exact Nat.le_of_lt h.lt
            · exact Nat.le_of_lt h.lt
          have HS := Lib.hid hsz2
          clear hsz2
          have hle := HT.out.len
          go_wp2_with fail
          refine (builder_WriteByte _ _ _ _ w' HB.out (by rw [Lib.byteCells_length]; omega) HS.out).mono ?_
          rintro e w2 ⟨rfl, hb2, hbel2⟩
          have HB2 := Lib.hid hb2
          have HL2 := Lib.hid hbel2
          clear hb2 hbel2
          go_wp2
          go_roundw
          case rel =>
            refine ⟨n + 2, acc ++ [39], by go_num, by omega, HT.out.twice (by rw [HG.out, HQ.out]) HD.out, Or.inr ?_, HBLK.out.below HL2.out (Nat.lt_succ_self _), HBEL.out.trans (HL2.out.mono (Nat.le_succ _))⟩
            have := HB2.out
            simpa [Lib.byteCells, e392] using this
          case measure => simp [intOf]; omega
      · have HQ := Lib.hid h39
        have e39 : ((s[n]'hlt).toNat : Int) ≠ 39 := by
          intro h
          apply h39
          rw [← UInt8.toNat_inj]
          simpa using (by omega : (s[n]'hlt).toNat = 39)
        clear h39
        have hsz2 : w.heap.size + 1 ≤ wr.heap.size := by
          rcases HB.out with h | h
          · exact Nat.le_of_lt h.lt
          · exact Nat.le_of_lt h.lt
        have HS := Lib.hid hsz2
        clear hsz2
        have hle := HT.out.len
        go_wp2_with fail
        refine (builder_WriteByte _ _ _ _ wr HB.out (by rw [Lib.byteCells_length]; omega) HS.out).mono ?_
        rintro e w2 ⟨rfl, hb2, hbel2⟩
        have HB2 := Lib.hid hb2
        have HL2 := Lib.hid hbel2
        clear hb2 hbel2
        go_wp2
        go_roundw
        case rel =>
          refine ⟨n + 1, acc ++ [s[n]'hlt], by go_num, by omega, HT.out.plain HG.out HQ.out, Or.inr ?_, HBLK.out.below HL2.out (Nat.lt_succ_self _), HBEL.out.trans (HL2.out.mono (Nat.le_succ _))⟩
          have := HB2.out
          simpa [Lib.byteCells] using this
        case measure => simp [intOf]; omega
    · obtain ⟨hc, hf⟩ := HBLK.out.facts
      go_wp2_with fail
      refine bodyPost_ret (v := .tuple #[tokV 0 [] 0 0, .int .i64 0]) (by simp [results, Tryz.results122, go_sem, (blk4 HBLK.out _ _ _ _).cell]; rfl) rfl ⟨?_, below4 HBEL.out (Nat.le_refl _) _ _ _ _⟩
      rw [HT.out.none (by rw [bsl_length]; omega)]
      rfl

/-! ### One word -/
theorem tok1_eq (c : UInt8) (r : List UInt8) : Lx.tok1 (c :: r) =
    (if Lx.isLetter c then nameE (c :: r) else if Lx.isDigit c then numberE (c :: r) else if c = 39 then textE (c :: r) else opE (c :: r)) := by
  have hx : ∀ c : UInt8, Lx.isLetter c = true → Lx.isDigit c = false := by
    apply u8_all
    decide +kernel
  rw [Lx.tok1]
  cases hl : Lx.isLetter c
  · simp [numberE, textE, opE]
  · rw [hx c hl]
    simp [nameE]
theorem tokE_form (o : Option (Nat × List UInt8 × Int × Nat)) : ∃ (k : Int) (t : ByteArray) (n : Int) (m : Int), tokE o = .returned (.tuple #[.agg #[.int .i64 k, .string t, .int .i64 n, .int .i64 0], .int .i64 m]) := by
  cases o with
  | none => exact ⟨_, _, _, _, rfl⟩
  | some x => exact ⟨_, _, _, _, rfl⟩
set_option maxHeartbeats 2000000 in
theorem token_any (s : ByteArray) (w : World) (hs : s.size ≤ 140737488355327) (hG : GlobL w) (h0 : 0 < s.size) :
    Calls Tryz.prog 64 #[.string s] w fun e w' => e = tokE (Lx.tok1 (bsl s)) ∧ Below w.heap.size w w' := by
  have hd := bsl_drop_cons s 0 h0
  rw [List.drop_zero] at hd
  have HD := Lib.hid hd
  clear hd
  have HG2 := Lib.hid (show ∀ o, GlobL (w.alloc o) from fun o => hG.keep (by go_grown))
  have HT := Lib.hid (tok1_eq (s[0]'h0) ((bsl s).drop 1))
  go_enter Tryz.func64, Tryz.ntmps64
  go_wp2_with fail
  refine (lexLetter_any _ _).mono ?_
  rintro e w' ⟨rfl, rfl⟩
  cases hL : Lx.isLetter (s[0]'h0)
  · have HL := Lib.hid hL
    clear hL
    go_wp2_with fail
    refine (digit_any _ _).mono ?_
    rintro e w' ⟨rfl, rfl⟩
    cases hD : Lx.isDigit (s[0]'h0)
    · have HDG := Lib.hid hD
      clear hD
      by_cases h39 : s[0]'h0 = 39
      · have HQ := Lib.hid h39
        have e39 : ((s[0]'h0).toNat : Int) = 39 := by rw [h39]; rfl
        clear h39
        go_wp2_with fail
        refine (text_any s _ (by omega)).mono ?_
        rintro e w2 ⟨rfl, hb2⟩
        have hblk : Blk w2 w.heap.size #[.int .i64 0, .string ⟨#[]⟩, .int .i64 0, .int .i64 0] 133 := (Blk.new w _ 133 rfl).keep hb2
        have hb1 : Below w.heap.size w w2 := by
          refine Below.trans ?_ (hb2.mono (by simp))
          go_grown
        have HB1 := Lib.hid hb1
        clear hb1 hb2
        obtain ⟨hc, hf⟩ := hblk.facts
        obtain ⟨k, t, n, m, ho⟩ := tokE_form (textE (bsl s))
        rw [ho]
        have HO := Lib.hid ho
        clear ho
        go_wp2_with fail
        refine bodyPost_ret (v := .tuple #[.agg #[.int .i64 k, .string t, .int .i64 n, .int .i64 0], .int .i64 m]) (by simp [results, Tryz.results64, go_sem, (blk4 hblk _ _ _ _).cell]) rfl ⟨?_, below4 HB1.out (Nat.le_refl _) _ _ _ _⟩
        rw [← HO.out]
        have hd := HD.out
        have ht := HT.out
        rw [hd, ht]
        rw [if_neg (by rw [HL.out]; simp), if_neg (by rw [HDG.out]; simp), if_pos HQ.out]

      · have HQ := Lib.hid h39
        have e39 : ((s[0]'h0).toNat : Int) ≠ 39 := by
          intro h
          apply h39
          rw [← UInt8.toNat_inj]
          simpa using (by omega : (s[0]'h0).toNat = 39)
        clear h39
        go_wp2_with fail
        refine (op_any s _ (by unfold maxLen; omega) h0).mono ?_
        rintro e w2 ⟨rfl, hb2⟩
        have hblk : Blk w2 w.heap.size #[.int .i64 0, .string ⟨#[]⟩, .int .i64 0, .int .i64 0] 133 := (Blk.new w _ 133 rfl).keep hb2
        have hb1 : Below w.heap.size w w2 := by
          refine Below.trans ?_ (hb2.mono (by simp))
          go_grown
        have HB1 := Lib.hid hb1
        clear hb1 hb2
        obtain ⟨hc, hf⟩ := hblk.facts
        obtain ⟨k, t, n, m, ho⟩ := tokE_form (opE (bsl s))
        rw [ho]
        have HO := Lib.hid ho
        clear ho
        go_wp2_with fail
        refine bodyPost_ret (v := .tuple #[.agg #[.int .i64 k, .string t, .int .i64 n, .int .i64 0], .int .i64 m]) (by simp [results, Tryz.results64, go_sem, (blk4 hblk _ _ _ _).cell]) rfl ⟨?_, below4 HB1.out (Nat.le_refl _) _ _ _ _⟩
        rw [← HO.out]
        have hd := HD.out
        have ht := HT.out
        rw [hd, ht]
        simp [HL.out, HDG.out, HQ.out]

    · have HDG := Lib.hid hD
      clear hD
      go_wp2_with fail
      refine (number_any s _ (by omega) (HG2.out _) ⟨_, _, HD.out, HDG.out⟩).mono ?_
      rintro e w2 ⟨rfl, hb2⟩
      have hblk : Blk w2 w.heap.size #[.int .i64 0, .string ⟨#[]⟩, .int .i64 0, .int .i64 0] 133 := (Blk.new w _ 133 rfl).keep hb2
      have hb1 : Below w.heap.size w w2 := by
        refine Below.trans ?_ (hb2.mono (by simp))
        go_grown
      have HB1 := Lib.hid hb1
      clear hb1 hb2
      obtain ⟨hc, hf⟩ := hblk.facts
      obtain ⟨k, t, n, m, ho⟩ := tokE_form (numberE (bsl s))
      rw [ho]
      have HO := Lib.hid ho
      clear ho
      go_wp2_with fail
      refine bodyPost_ret (v := .tuple #[.agg #[.int .i64 k, .string t, .int .i64 n, .int .i64 0], .int .i64 m]) (by simp [results, Tryz.results64, go_sem, (blk4 hblk _ _ _ _).cell]) rfl ⟨?_, below4 HB1.out (Nat.le_refl _) _ _ _ _⟩
      rw [← HO.out]
      have hd := HD.out
      have ht := HT.out
      rw [hd, ht]
      simp [HL.out, HDG.out]

  · have HL := Lib.hid hL
    clear hL
    go_wp2_with fail
    refine (name_any s _ (by omega) (HG2.out _)).mono ?_
    rintro e w2 ⟨rfl, hb2⟩
    have hblk : Blk w2 w.heap.size #[.int .i64 0, .string ⟨#[]⟩, .int .i64 0, .int .i64 0] 133 := (Blk.new w _ 133 rfl).keep hb2
    have hb1 : Below w.heap.size w w2 := by
      refine Below.trans ?_ (hb2.mono (by simp))
      go_grown
    have HB1 := Lib.hid hb1
    clear hb1 hb2
    obtain ⟨hc, hf⟩ := hblk.facts
    obtain ⟨k, t, n, m, ho⟩ := tokE_form (nameE (bsl s))
    rw [ho]
    have HO := Lib.hid ho
    clear ho
    go_wp2_with fail
    refine bodyPost_ret (v := .tuple #[.agg #[.int .i64 k, .string t, .int .i64 n, .int .i64 0], .int .i64 m]) (by simp [results, Tryz.results64, go_sem, (blk4 hblk _ _ _ _).cell]) rfl ⟨?_, below4 HB1.out (Nat.le_refl _) _ _ _ _⟩
    rw [← HO.out]
    have hd := HD.out
    have ht := HT.out
    rw [hd, ht]
    simp [HL.out]

end Go.Proofs.YtlhkmdchjklaeaaGreatDoor
