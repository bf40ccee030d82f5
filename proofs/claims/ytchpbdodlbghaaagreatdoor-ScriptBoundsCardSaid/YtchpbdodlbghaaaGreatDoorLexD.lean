import Derived.Test.YtchpbdodlbghaaaGreatDoorLexB
import Derived.Test.YtchpbdodlbghaaaGreatDoorOwn
namespace Go.Proofs.YtchpbdodlbghaaaGreatDoor
open Go.RowKit Go.Shelf
set_option maxRecDepth 100000

theorem op_hit {l x : List UInt8} (h : Lib.hasPrefix l x = true) (hx : Lx.ops2.contains x = true) (h2 : x.length = 2) : opE l = some (5, x, 0, 2) := by
  have : l.take 2 = x := by
    rw [Lib.hasPrefix, List.isPrefixOf_iff_prefix] at h
    obtain ⟨t, rfl⟩ := h
    rw [← h2, List.take_left]
  unfold opE
  rw [this, if_pos hx]
theorem op_miss {l : List UInt8} (h : ∀ x ∈ Lx.ops2, Lib.hasPrefix l x = false) : Lx.ops2.contains (l.take 2) = false := by
  rw [Bool.eq_false_iff]
  intro hc
  have := h (l.take 2) (by simpa using hc)
  rw [Lib.hasPrefix, ← Bool.not_eq_true, List.isPrefixOf_iff_prefix] at this
  exact this (List.take_prefix 2 l)
theorem ops1_eq (c : UInt8) : Lx.ops1.contains c = decide ((0 : Int) ≤ Lib.indexByte [40, 41, 44, 46, 59, 42, 61, 60, 62, 43, 45, 47, 37, 38, 124, 94] c) := by
  revert c
  apply u8_all
  decide +kernel
set_option maxHeartbeats 4000000 in
theorem op_any (s : ByteArray) (w : World) (hs : s.size ≤ maxLen) (h0 : 0 < s.size) :
    Calls Tryz.prog 195 #[.string s] w fun e w' => e = tokE (opE (bsl s)) ∧ Below w.heap.size w w' := by
  unfold maxLen at hs
  go_enter Tryz.func195, Tryz.ntmps195
  go_wp2_with fail
  refine wp_loop_rounds 7 ?_
  rw [rounds_succ]
  go_wp2_with fail
  refine (Tryz.strings_HasPrefix _ _ _).mono ?_
  rintro e w' ⟨rfl, rfl⟩
  cases h0 : Lib.hasPrefix s.data.toList [60, 62]
  case true =>
    have H0 := Lib.hid (op_hit h0 (by decide) rfl)
    clear h0
    go_wp2_with fail
    refine bodyPost_ret (v := .tuple #[tokV 5 [60, 62] 0 0, .int .i64 2]) (by simp [results, Tryz.results195, go_sem]; rfl) rfl ⟨?_, by go_grown⟩
    rw [bsl, H0.out]
    rfl
  have H0 := Lib.hid h0
  clear h0
  go_wp2_with fail
  rw [rounds_succ]
  go_wp2_with fail
  refine (Tryz.strings_HasPrefix _ _ _).mono ?_
  rintro e w' ⟨rfl, rfl⟩
  cases h1 : Lib.hasPrefix s.data.toList [60, 61]
  case true =>
    have H1 := Lib.hid (op_hit h1 (by decide) rfl)
    clear h1
    go_wp2_with fail
    refine bodyPost_ret (v := .tuple #[tokV 5 [60, 61] 0 0, .int .i64 2]) (by simp [results, Tryz.results195, go_sem]; rfl) rfl ⟨?_, by go_grown⟩
    rw [bsl, H1.out]
    rfl
  have H1 := Lib.hid h1
  clear h1
  go_wp2_with fail
  rw [rounds_succ]
  go_wp2_with fail
  refine (Tryz.strings_HasPrefix _ _ _).mono ?_
  rintro e w' ⟨rfl, rfl⟩
  cases h2 : Lib.hasPrefix s.data.toList [62, 61]
  case true =>
    have H2 := Lib.hid (op_hit h2 (by decide) rfl)
    clear h2
    go_wp2_with fail
    refine bodyPost_ret (v := .tuple #[tokV 5 [62, 61] 0 0, .int .i64 2]) (by simp [results, Tryz.results195, go_sem]; rfl) rfl ⟨?_, by go_grown⟩
    rw [bsl, H2.out]
    rfl
  have H2 := Lib.hid h2
  clear h2
  go_wp2_with fail
  rw [rounds_succ]
  go_wp2_with fail
  refine (Tryz.strings_HasPrefix _ _ _).mono ?_
  rintro e w' ⟨rfl, rfl⟩
  cases h3 : Lib.hasPrefix s.data.toList [60, 60]
  case true =>
    have H3 := Lib.hid (op_hit h3 (by decide) rfl)
    clear h3
    go_wp2_with fail
    refine bodyPost_ret (v := .tuple #[tokV 5 [60, 60] 0 0, .int .i64 2]) (by simp [results, Tryz.results195, go_sem]; rfl) rfl ⟨?_, by go_grown⟩
    rw [bsl, H3.out]
    rfl
  have H3 := Lib.hid h3
  clear h3
  go_wp2_with fail
  rw [rounds_succ]
  go_wp2_with fail
  refine (Tryz.strings_HasPrefix _ _ _).mono ?_
  rintro e w' ⟨rfl, rfl⟩
  cases h4 : Lib.hasPrefix s.data.toList [62, 62]
  case true =>
    have H4 := Lib.hid (op_hit h4 (by decide) rfl)
    clear h4
    go_wp2_with fail
    refine bodyPost_ret (v := .tuple #[tokV 5 [62, 62] 0 0, .int .i64 2]) (by simp [results, Tryz.results195, go_sem]; rfl) rfl ⟨?_, by go_grown⟩
    rw [bsl, H4.out]
    rfl
  have H4 := Lib.hid h4
  clear h4
  go_wp2_with fail
  rw [rounds_succ]
  go_wp2_with fail
  refine (Tryz.strings_HasPrefix _ _ _).mono ?_
  rintro e w' ⟨rfl, rfl⟩
  cases h5 : Lib.hasPrefix s.data.toList [124, 124]
  case true =>
    have H5 := Lib.hid (op_hit h5 (by decide) rfl)
    clear h5
    go_wp2_with fail
    refine bodyPost_ret (v := .tuple #[tokV 5 [124, 124] 0 0, .int .i64 2]) (by simp [results, Tryz.results195, go_sem]; rfl) rfl ⟨?_, by go_grown⟩
    rw [bsl, H5.out]
    rfl
  have H5 := Lib.hid h5
  clear h5
  go_wp2_with fail
  rw [rounds_succ]
  have hm : Lx.ops2.contains ((bsl s).take 2) = false := by
    apply op_miss
    intro x hx
    simp [Lx.ops2] at hx
    rcases hx with rfl | rfl | rfl | rfl | rfl | rfl
    · exact H0.out
    · exact H1.out
    · exact H2.out
    · exact H3.out
    · exact H4.out
    · exact H5.out
  have HM := Lib.hid hm
  clear hm H0 H1 H2 H3 H4 H5
  go_wp2_with fail
  refine (Tryz.strings_IndexByte _ _ _).mono ?_
  rintro e w' ⟨rfl, rfl⟩
  rw [u8_back]
  have HC := Lib.hid (ops1_eq (s[0]'h0))
  have HD := Lib.hid (bsl_drop_cons s 0 h0)
  by_cases hi : (0 : Int) ≤ Lib.indexByte [40, 41, 44, 46, 59, 42, 61, 60, 62, 43, 45, 47, 37, 38, 124, 94] (s[0]'h0)
  · go_wp2_with fail
    have hx : s.extract 0 1 = ⟨[s[0]'h0].toArray⟩ := by
      rw [Lib.extract_upto]
      have hd := HD.out
      rw [List.drop_zero, bsl] at hd
      rw [hd]
      rfl
    refine bodyPost_ret (v := .tuple #[tokV 5 [s[0]'h0] 0 0, .int .i64 1]) (by simp [results, Tryz.results195, go_sem, hx]; rfl) rfl ⟨?_, by go_grown⟩
    have hd := HD.out
    rw [List.drop_zero] at hd
    unfold opE
    rw [HM.out, hd]
    simp only [HC.out, decide_eq_true hi]
    rfl
  · go_wp2_with fail
    refine bodyPost_ret (v := .tuple #[tokV 0 [] 0 0, .int .i64 0]) (by simp [results, Tryz.results195, go_sem]; rfl) rfl ⟨?_, by go_grown⟩
    have hd := HD.out
    rw [List.drop_zero] at hd
    unfold opE
    rw [HM.out, hd]
    simp only [HC.out, decide_eq_false (show ¬ (0 : Int) ≤ Lib.indexByte [40, 41, 44, 46, 59, 42, 61, 60, 62, 43, 45, 47, 37, 38, 124, 94] (s[0]'h0) by omega)]
    rfl

def textE (l : List UInt8) : Option (Nat × List UInt8 × Int × Nat) := (Lx.quote (l.drop 1)).map fun x => (4, x.1, 0, x.2 + 1)
structure TextAt (l : List UInt8) (acc : List UInt8) (n : Nat) : Prop where
  pos : 1 ≤ n
  len : acc.length ≤ n
  is : Lx.quote (l.drop 1) = (Lx.quote (l.drop n)).map fun x => (acc ++ x.1, x.2 + (n - 1))
theorem TextAt.start (l : List UInt8) : TextAt l [] 1 := ⟨Nat.le_refl _, by simp, by simp⟩
theorem TextAt.plain {l acc : List UInt8} {n : Nat} (h : TextAt l acc n) {c : UInt8} (hc : l[n]? = some c) (h39 : c ≠ 39) : TextAt l (acc ++ [c]) (n + 1) := by
  have hp := h.pos
  obtain ⟨hn, he⟩ := List.getElem?_eq_some_iff.1 hc
  have e : l.drop n = c :: l.drop (n + 1) := by rw [List.drop_eq_getElem_cons hn, he]
  refine ⟨by omega, by simpa using h.len, ?_⟩
  rw [h.is, e]
  cases hr : l.drop (n + 1) with
  | nil => simp [Lx.quote, h39]
  | cons d r =>
    simp only [Lx.quote, if_neg h39]
    cases Lx.quote (d :: r) with
    | none => rfl
    | some x =>
      simp
      omega
theorem TextAt.twice {l acc : List UInt8} {n : Nat} (h : TextAt l acc n) (hc : l[n]? = some 39) (hd : l[n + 1]? = some 39) : TextAt l (acc ++ [39]) (n + 2) := by
  have hp := h.pos
  have hl := h.len
  obtain ⟨hn, he⟩ := List.getElem?_eq_some_iff.1 hc
  obtain ⟨hn2, he2⟩ := List.getElem?_eq_some_iff.1 hd
  have e : l.drop n = 39 :: 39 :: l.drop (n + 2) := by rw [List.drop_eq_getElem_cons hn, he, List.drop_eq_getElem_cons hn2, he2]
  refine ⟨by omega, by simp; omega, ?_⟩
  rw [h.is, e]
  simp only [Lx.quote, if_true]
  cases Lx.quote (l.drop (n + 2)) with
  | none => rfl
  | some x =>
    simp
    omega
theorem TextAt.stop {l acc : List UInt8} {n : Nat} (h : TextAt l acc n) (hc : l[n]? = some 39) (hd : l[n + 1]? ≠ some 39) : textE l = some (4, acc, 0, n + 1) := by
  have hp := h.pos
  obtain ⟨hn, he⟩ := List.getElem?_eq_some_iff.1 hc
  have e : l.drop n = 39 :: l.drop (n + 1) := by rw [List.drop_eq_getElem_cons hn, he]
  rw [textE, h.is, e]
  rw [← List.head?_drop] at hd
  cases hr : l.drop (n + 1) with
  | nil => simp [Lx.quote]; omega
  | cons d r =>
    rw [hr] at hd
    simp at hd
    simp [Lx.quote, hd]; omega
theorem TextAt.none {l acc : List UInt8} {n : Nat} (h : TextAt l acc n) (hn : l.length ≤ n) : textE l = .none := by
  rw [textE, h.is, List.drop_eq_nil_of_le hn]
  rfl
set_option maxHeartbeats 2000000 in
theorem text_any (s : ByteArray) (w : World) (hs : s.size ≤ 140737488355327) :
    Calls Tryz.prog 194 #[.string s] w fun e w' => e = tokE (textE (bsl s)) ∧ Below w.heap.size w w' := by
  go_enter Tryz.func194, Tryz.ntmps194
  go_wp2_with fail
  go_loopw [5] (fun i W => ∃ (n : Nat) (acc : List UInt8), i = .int .i64 n ∧ n ≤ s.size + 1 ∧ TextAt (bsl s) acc n ∧ Lib.IsBuilder 36 5 (w.heap.size + 1) (w.heap.size + 1) (Lib.byteCells acc) W ∧ Blk W w.heap.size #[.int .i64 0, .string ⟨#[]⟩, .int .i64 0, .int .i64 0] 259 ∧ Below w.heap.size w W)
    (fun i _ => s.size + 1 - (intOf i).toNat)
  case atStart =>
    refine ⟨1, [], rfl, by omega, TextAt.start _, ?_, ?_, by go_grown⟩
    · have := Lib.fresh_isBuilder 36 5 (w.alloc (.cells #[.int .i64 0, .string ⟨#[]⟩, .int .i64 0, .int .i64 0] 259))
      simpa [Lib.byteCells] using this
    · exact (Blk.new w _ 259 rfl).alloc _
  case round =>
    obtain ⟨n, acc, rfl, hn, hT, hB, hblk, hbel⟩ := hrel
    have HT := Lib.hid hT
    have HB := Lib.hid hB
    have HBLK := Lib.hid hblk
    have HBEL := Lib.hid hbel
    clear hT hB hblk hbel
    by_cases hlt : n < s.size
    · have HG := Lib.hid (bsl_get s n hlt)
      by_cases h39 : s[n]'hlt = 39
      · have HQ := Lib.hid h39
        have e39 : ((s[n]'hlt).toNat : Int) = 39 := by rw [h39]; rfl
        clear h39
        go_wp2_with fail
        refine (Tryz.strings_HasPrefix _ _ wr).mono ?_
        rintro e w' ⟨rfl, rfl⟩
        rw [show (s.extract (n + 1) s.size).data.toList = (bsl s).drop (n + 1) from bsl_from s (n + 1)]
        cases hp : Lib.hasPrefix ((bsl s).drop (n + 1)) [39]
        · have HP := Lib.hid hp
          clear hp
          go_wp2_with fail
          have hsz := HBEL.out.size
          have hsz2 : w.heap.size + 1 ≤ w'.heap.size := by
            rcases HB.out with h | h
            · exact Nat.le_of_lt h.lt
            · exact Nat.le_of_lt h.lt
          refine (Tryz.Builder_String_any _ _ acc w' HB.out hsz2).mono ?_
          rintro e w2 ⟨rfl, hb2⟩
          have hblk2 := HBLK.out.below hb2 (Nat.lt_succ_self _)
          have HB2 := Lib.hid (HBEL.out.trans (hb2.mono (Nat.le_succ _)))
          clear hb2 hsz hsz2
          obtain ⟨hc, hf⟩ := hblk2.facts
          go_wp2_with fail
          refine bodyPost_ret (v := .tuple #[tokV 4 acc 0 0, .int .i64 ((n + 1 : Nat) : Int)]) (by simp [results, Tryz.results194, go_sem, (blk4 hblk2 _ _ _ _).cell]; rfl) rfl ⟨?_, below4 HB2.out (Nat.le_refl _) _ _ _ _⟩
          rw [HT.out.stop (by rw [HG.out, HQ.out]) ?_]
          · rfl
          · intro h
            have hp := HP.out
            rw [← List.head?_drop] at h
            cases hr : (bsl s).drop (n + 1) with
            | nil => rw [hr] at h; cases h
            | cons d r =>
              rw [hr] at h hp
              simp at h
              simp [Lib.hasPrefix, List.isPrefixOf, h] at hp
        · have hd : (bsl s)[n + 1]? = some 39 := by
            rw [← List.head?_drop]
            cases hr : (bsl s).drop (n + 1) with
            | nil => rw [hr] at hp; simp [Lib.hasPrefix, List.isPrefixOf] at hp
            | cons d r =>
              rw [hr] at hp
              simp [Lib.hasPrefix, List.isPrefixOf] at hp
              simp [hp]
          have hn1 : n + 1 < s.size := by
            rw [← bsl_length]
            exact (List.getElem?_eq_some_iff.1 hd).1
          have hx : s[n + 1]'hn1 = 39 := by
            have := bsl_get s (n + 1) hn1
            rw [hd] at this
            exact (Option.some.inj this).symm
          have e392 : ((s[n + 1]'hn1).toNat : Int) = 39 := by rw [hx]; rfl
          have HD := Lib.hid hd
          clear hp hd hx
          have hsz2 : w.heap.size + 1 ≤ w'.heap.size := by
            rcases HB.out with h | h
            · exact Nat.le_of_lt h.lt
            · exact Nat.le_of_lt h.lt
          have HS := Lib.hid hsz2
          clear hsz2
          have hle := HT.out.len
          go_wp2_with fail
          refine (builder_WriteByte _ _ _ _ w' HB.out (by rw [Lib.byteCells_length]; omega) HS.out).mono ?_
          rintro e w2 ⟨rfl, hb2, hbel2⟩
          have HB2 := Lib.hid hb2
          have HL2 := Lib.hid hbel2
          clear hb2 hbel2
          go_wp2
          go_roundw
          case rel =>
            refine ⟨n + 2, acc ++ [39], by go_num, by omega, HT.out.twice (by rw [HG.out, HQ.out]) HD.out, Or.inr ?_, HBLK.out.below HL2.out (Nat.lt_succ_self _), HBEL.out.trans (HL2.out.mono (Nat.le_succ _))⟩
            have := HB2.out
            simpa [Lib.byteCells, e392] using this
          case measure => simp [intOf]; omega
      · have HQ := Lib.hid h39
        have e39 : ((s[n]'hlt).toNat : Int) ≠ 39 := by
          intro h
          apply h39
          rw [← UInt8.toNat_inj]
          simpa using (by omega : (s[n]'hlt).toNat = 39)
        clear h39
        have hsz2 : w.heap.size + 1 ≤ wr.heap.size := by
          rcases HB.out with h | h
          · exact Nat.le_of_lt h.lt
          · exact Nat.le_of_lt h.lt
        have HS := Lib.hid hsz2
        clear hsz2
        have hle := HT.out.len
        go_wp2_with fail
        refine (builder_WriteByte _ _ _ _ wr HB.out (by rw [Lib.byteCells_length]; omega) HS.out).mono ?_
        rintro e w2 ⟨rfl, hb2, hbel2⟩
        have HB2 := Lib.hid hb2
        have HL2 := Lib.hid hbel2
        clear hb2 hbel2
        go_wp2
        go_roundw
        case rel =>
          refine ⟨n + 1, acc ++ [s[n]'hlt], by go_num, by omega, HT.out.plain HG.out HQ.out, Or.inr ?_, HBLK.out.below HL2.out (Nat.lt_succ_self _), HBEL.out.trans (HL2.out.mono (Nat.le_succ _))⟩
          have := HB2.out
          simpa [Lib.byteCells] using this
        case measure => simp [intOf]; omega
    · obtain ⟨hc, hf⟩ := HBLK.out.facts
      go_wp2_with fail
      refine bodyPost_ret (v := .tuple #[tokV 0 [] 0 0, .int .i64 0]) (by simp [results, Tryz.results194, go_sem, (blk4 HBLK.out _ _ _ _).cell]; rfl) rfl ⟨?_, below4 HBEL.out (Nat.le_refl _) _ _ _ _⟩
      rw [HT.out.none (by rw [bsl_length]; omega)]
      rfl

theorem tok1_eq (c : UInt8) (r : List UInt8) : Lx.tok1 (c :: r) =
    (if Lx.isLetter c then nameE (c :: r) else if Lx.isDigit c then numberE (c :: r) else if c = 39 then textE (c :: r) else opE (c :: r)) := by
  have hx : ∀ c : UInt8, Lx.isLetter c = true → Lx.isDigit c = false := by
    apply u8_all
    decide +kernel
  rw [Lx.tok1]
  cases hl : Lx.isLetter c
  · simp [numberE, textE, opE]
  · rw [hx c hl]
    simp [nameE]
theorem tokE_form (o : Option (Nat × List UInt8 × Int × Nat)) : ∃ (k : Int) (t : ByteArray) (n : Int) (m : Int), tokE o = .returned (.tuple #[.agg #[.int .i64 k, .string t, .int .i64 n, .int .i64 0], .int .i64 m]) := by
  cases o with
  | none => exact ⟨_, _, _, _, rfl⟩
  | some x => exact ⟨_, _, _, _, rfl⟩
set_option maxHeartbeats 2000000 in
theorem token_any (s : ByteArray) (w : World) (hs : s.size ≤ 140737488355327) (hG : GlobL w) (h0 : 0 < s.size) :
    Calls Tryz.prog 121 #[.string s] w fun e w' => e = tokE (Lx.tok1 (bsl s)) ∧ Below w.heap.size w w' := by
  have hd := bsl_drop_cons s 0 h0
  rw [List.drop_zero] at hd
  have HD := Lib.hid hd
  clear hd
  have HG2 := Lib.hid (show ∀ o, GlobL (w.alloc o) from fun o => hG.keep (by go_grown))
  have HT := Lib.hid (tok1_eq (s[0]'h0) ((bsl s).drop 1))
  go_enter Tryz.func121, Tryz.ntmps121
  go_wp2_with fail
  refine (lexLetter_any _ _).mono ?_
  rintro e w' ⟨rfl, rfl⟩
  cases hL : Lx.isLetter (s[0]'h0)
  · have HL := Lib.hid hL
    clear hL
    go_wp2_with fail
    refine (digit_any _ _).mono ?_
    rintro e w' ⟨rfl, rfl⟩
    cases hD : Lx.isDigit (s[0]'h0)
    · have HDG := Lib.hid hD
      clear hD
      by_cases h39 : s[0]'h0 = 39
      · have HQ := Lib.hid h39
        have e39 : ((s[0]'h0).toNat : Int) = 39 := by rw [h39]; rfl
        clear h39
        go_wp2_with fail
        refine (text_any s _ (by omega)).mono ?_
        rintro e w2 ⟨rfl, hb2⟩
        have hblk : Blk w2 w.heap.size #[.int .i64 0, .string ⟨#[]⟩, .int .i64 0, .int .i64 0] 259 := (Blk.new w _ 259 rfl).keep hb2
        have hb1 : Below w.heap.size w w2 := by
          refine Below.trans ?_ (hb2.mono (by simp))
          go_grown
        have HB1 := Lib.hid hb1
        clear hb1 hb2
        obtain ⟨hc, hf⟩ := hblk.facts
        obtain ⟨k, t, n, m, ho⟩ := tokE_form (textE (bsl s))
        rw [ho]
        have HO := Lib.hid ho
        clear ho
        go_wp2_with fail
        refine bodyPost_ret (v := .tuple #[.agg #[.int .i64 k, .string t, .int .i64 n, .int .i64 0], .int .i64 m]) (by simp [results, Tryz.results121, go_sem, (blk4 hblk _ _ _ _).cell]) rfl ⟨?_, below4 HB1.out (Nat.le_refl _) _ _ _ _⟩
        rw [← HO.out]
        have hd := HD.out
        have ht := HT.out
        rw [hd, ht]
        rw [if_neg (by rw [HL.out]; simp), if_neg (by rw [HDG.out]; simp), if_pos HQ.out]

      · have HQ := Lib.hid h39
        have e39 : ((s[0]'h0).toNat : Int) ≠ 39 := by
          intro h
          apply h39
          rw [← UInt8.toNat_inj]
          simpa using (by omega : (s[0]'h0).toNat = 39)
        clear h39
        go_wp2_with fail
        refine (op_any s _ (by unfold maxLen; omega) h0).mono ?_
        rintro e w2 ⟨rfl, hb2⟩
        have hblk : Blk w2 w.heap.size #[.int .i64 0, .string ⟨#[]⟩, .int .i64 0, .int .i64 0] 259 := (Blk.new w _ 259 rfl).keep hb2
        have hb1 : Below w.heap.size w w2 := by
          refine Below.trans ?_ (hb2.mono (by simp))
          go_grown
        have HB1 := Lib.hid hb1
        clear hb1 hb2
        obtain ⟨hc, hf⟩ := hblk.facts
        obtain ⟨k, t, n, m, ho⟩ := tokE_form (opE (bsl s))
        rw [ho]
        have HO := Lib.hid ho
        clear ho
        go_wp2_with fail
        refine bodyPost_ret (v := .tuple #[.agg #[.int .i64 k, .string t, .int .i64 n, .int .i64 0], .int .i64 m]) (by simp [results, Tryz.results121, go_sem, (blk4 hblk _ _ _ _).cell]) rfl ⟨?_, below4 HB1.out (Nat.le_refl _) _ _ _ _⟩
        rw [← HO.out]
        have hd := HD.out
        have ht := HT.out
        rw [hd, ht]
        simp [HL.out, HDG.out, HQ.out]

    · have HDG := Lib.hid hD
      clear hD
      go_wp2_with fail
      refine (number_any s _ (by omega) (HG2.out _) ⟨_, _, HD.out, HDG.out⟩).mono ?_
      rintro e w2 ⟨rfl, hb2⟩
      have hblk : Blk w2 w.heap.size #[.int .i64 0, .string ⟨#[]⟩, .int .i64 0, .int .i64 0] 259 := (Blk.new w _ 259 rfl).keep hb2
      have hb1 : Below w.heap.size w w2 := by
        refine Below.trans ?_ (hb2.mono (by simp))
        go_grown
      have HB1 := Lib.hid hb1
      clear hb1 hb2
      obtain ⟨hc, hf⟩ := hblk.facts
      obtain ⟨k, t, n, m, ho⟩ := tokE_form (numberE (bsl s))
      rw [ho]
      have HO := Lib.hid ho
      clear ho
      go_wp2_with fail
      refine bodyPost_ret (v := .tuple #[.agg #[.int .i64 k, .string t, .int .i64 n, .int .i64 0], .int .i64 m]) (by simp [results, Tryz.results121, go_sem, (blk4 hblk _ _ _ _).cell]) rfl ⟨?_, below4 HB1.out (Nat.le_refl _) _ _ _ _⟩
      rw [← HO.out]
      have hd := HD.out
      have ht := HT.out
      rw [hd, ht]
      simp [HL.out, HDG.out]

  · have HL := Lib.hid hL
    clear hL
    go_wp2_with fail
    refine (name_any s _ (by omega) (HG2.out _)).mono ?_
    rintro e w2 ⟨rfl, hb2⟩
    have hblk : Blk w2 w.heap.size #[.int .i64 0, .string ⟨#[]⟩, .int .i64 0, .int .i64 0] 259 := (Blk.new w _ 259 rfl).keep hb2
    have hb1 : Below w.heap.size w w2 := by
      refine Below.trans ?_ (hb2.mono (by simp))
      go_grown
    have HB1 := Lib.hid hb1
    clear hb1 hb2
    obtain ⟨hc, hf⟩ := hblk.facts
    obtain ⟨k, t, n, m, ho⟩ := tokE_form (nameE (bsl s))
    rw [ho]
    have HO := Lib.hid ho
    clear ho
    go_wp2_with fail
    refine bodyPost_ret (v := .tuple #[.agg #[.int .i64 k, .string t, .int .i64 n, .int .i64 0], .int .i64 m]) (by simp [results, Tryz.results121, go_sem, (blk4 hblk _ _ _ _).cell]) rfl ⟨?_, below4 HB1.out (Nat.le_refl _) _ _ _ _⟩
    rw [← HO.out]
    have hd := HD.out
    have ht := HT.out
    rw [hd, ht]
    simp [HL.out]

end Go.Proofs.YtchpbdodlbghaaaGreatDoor
namespace Go.Proofs.YtchpbdodlbghaaaGreatDoor
open Go.RowKit Go.Shelf
set_option maxRecDepth 100000

theorem skip_done : ∀ (b : Bool) (l : List UInt8), Lx.skip false (l.drop (Lx.skip b l)) = 0
  | true, [] => by simp [Lx.skip]
  | false, [] => by simp [Lx.skip]
  | true, c :: r => by
    by_cases h : c = 10
    · simp only [Lx.skip, if_pos h, List.drop_succ_cons]; exact skip_done false r
    · simp only [Lx.skip, if_neg h, List.drop_succ_cons]; exact skip_done true r
  | false, c :: r => by
    by_cases h : Lx.isBlank c = true
    · simp only [Lx.skip, if_pos h, List.drop_succ_cons]; exact skip_done false r
    · by_cases h2 : c = 45 ∧ r.head? = some 45
      · simp only [Lx.skip, if_neg h, if_pos h2, List.drop_succ_cons]; exact skip_done true r
      · simp only [Lx.skip, if_neg h, if_neg h2, List.drop_zero]

def tokC (t : Lx.Tok) : List Value := [.int .i64 t.kind, .string ⟨t.text.toArray⟩, .int .i64 t.n, .int .i64 t.pos]
def tokCs (l : List Lx.Tok) : List Value := l.flatMap tokC
theorem tokCs_length : ∀ l, (tokCs l).length = l.length * 4
  | [] => rfl
  | t :: l => by
    have := tokCs_length l
    rw [tokCs, List.flatMap_cons, List.length_append, ← tokCs, this, List.length_cons, tokC]
    simp
    omega
def TokensE (B : Nat) (r : Except Nat (List Lx.Tok)) (e : Ending) (w : World) : Prop :=
  match r with
  | .error p => e = .returned (.tuple #[.slice none 0 0, .int .i64 p, .int .i64 10])
  | .ok L => ∃ v, e = .returned (.tuple #[v, .int .i64 0, .int .i64 0]) ∧ w.ownsRow B 259 4 v L.length (tokCs L)
structure TokensAt (l : List UInt8) (acc : List Lx.Tok) (pos : Nat) : Prop where
  len : acc.length ≤ pos
  le : pos ≤ l.length
  skip : Lx.skip false (l.drop pos) = 0
  is : Lx.lex l = Lx.lexAt acc pos (l.drop pos)
theorem TokensAt.start (l : List UInt8) : TokensAt l [] (Lx.skip false l) := by
  refine ⟨Nat.zero_le _, Lx.skip_le _ _, skip_done false l, ?_⟩
  rw [Lx.lex_eq, Lx.lexAt_skip (m := Lx.skip false l) (by rw [skip_done]; rfl), Nat.zero_add]
theorem TokensAt.done {l : List UInt8} {acc : List Lx.Tok} {pos : Nat} (h : TokensAt l acc pos) (hp : l.length ≤ pos) : Lx.lex l = .ok acc := by
  rw [h.is, List.drop_eq_nil_of_le hp]
  exact Lx.lexAt_end rfl
theorem TokensAt.err {l : List UInt8} {acc : List Lx.Tok} {pos : Nat} (h : TokensAt l acc pos) (hp : pos < l.length) (ht : Lx.tok1 (l.drop pos) = none) : Lx.lex l = .error pos := by
  rw [h.is]
  have e := List.drop_eq_getElem_cons hp
  rw [Lx.lexAt_err (c := l[pos]) (r := l.drop (pos + 1)) (by rw [h.skip, List.drop_zero, e]) (by rw [← e]; exact ht), h.skip, Nat.add_zero]
theorem TokensAt.next {l : List UInt8} {acc : List Lx.Tok} {pos : Nat} (h : TokensAt l acc pos) (hp : pos < l.length) {x} (ht : Lx.tok1 (l.drop pos) = some x) :
    TokensAt l (acc ++ [⟨x.1, x.2.1, x.2.2.1, pos⟩]) (pos + x.2.2.2 + Lx.skip false (l.drop (pos + x.2.2.2))) := by
  have e := List.drop_eq_getElem_cons hp
  have hx := Lx.tok1_pos ht
  rw [List.length_drop] at hx
  have hs := Lx.skip_le false (l.drop (pos + x.2.2.2))
  rw [List.length_drop] at hs
  refine ⟨?_, by omega, ?_, ?_⟩
  · have := h.len
    simp; omega
  · rw [← List.drop_drop]; exact skip_done _ _
  · rw [h.is, Lx.lexAt_tok (c := l[pos]) (r := l.drop (pos + 1)) (by rw [h.skip, List.drop_zero, e]) (by rw [← e]; exact ht), h.skip, Nat.add_zero, ← e, List.drop_drop,
      Lx.lexAt_skip (m := Lx.skip false (l.drop (pos + x.2.2.2))) (by rw [skip_done]; rfl), List.drop_drop]
theorem infoTok : (Tryz.prog.info? 259).map (fun i => (i.zero, i.size, i.bytes)) = some (some (.agg #[.int .i64 0, .string ⟨#[]⟩, .int .i64 0, .int .i64 0]), 4, 40) := by kernel_rfl

theorem tokens_long (s : ByteArray) (w : World) (hbig : 4000 < s.size) (hs63 : s.size ≤ maxLen) :
    Calls Tryz.prog 70 #[.string s] w fun e w' => e = .returned (.tuple #[.slice none 0 0, .int .i64 0, .int .i64 2]) ∧ w = w' := by
  unfold maxLen at hs63
  go_enter Tryz.func70, Tryz.ntmps70
  go_wp2_with fail
  exact bodyPost_ret (v := .tuple #[.slice none 0 0, .int .i64 0, .int .i64 2]) (by simp [results, Tryz.results70, go_sem]) rfl ⟨rfl, rfl⟩
set_option maxHeartbeats 4000000 in
theorem tokens_any (s : ByteArray) (w : World) (hG : GlobL w) (hs : s.size ≤ 4000) :
    Calls Tryz.prog 70 #[.string s] w fun e w' => TokensE w.heap.size (Lx.lex (bsl s)) e w' ∧ Below w.heap.size w w' := by
  have hlen := bsl_length s
  have hsk := Lx.skip_le false (bsl s)
  rw [hlen] at hsk
  have HL := Lib.hid hlen
  clear hlen
  go_enter Tryz.func70, Tryz.ntmps70
  go_wp2_with fail
  refine (skip_any s w (by unfold maxLen; omega)).mono ?_
  rintro e w' ⟨rfl, rfl⟩
  have HS0 := Lib.hid (TokensAt.start (bsl s))
  generalize Lx.skip false (bsl s) = k0 at hsk HS0 ⊢
  go_wp2_with fail
  go_loopw [2, 3] (fun v i W => ∃ (pos : Nat) (acc : List Lx.Tok), i = .int .i64 pos ∧ TokensAt (bsl s) acc pos ∧ W.ownsRow w.heap.size 259 4 v acc.length (tokCs acc) ∧ Below w.heap.size w W)
    (fun _ i _ => s.size - (intOf i).toNat)
  case atStart => exact ⟨k0, [], rfl, HS0.out, World.ownsRow_nil _ _ _ _, Below.refl _ _⟩
  case round =>
    obtain ⟨pos, acc, rfl, hT, hown, hbel⟩ := hrel
    have hle := hT.le
    have hal := hT.len
    rw [HL.out] at hle
    have HT := Lib.hid hT
    have HO := Lib.hid hown
    have HB := Lib.hid hbel
    clear hT hown hbel
    by_cases hlt : pos < s.size
    · have hp0 : 0 < (s.extract pos s.size).size := by simp; omega
      have hp1 : (s.extract pos s.size).size ≤ 140737488355327 := by simp; omega
      have H0 := Lib.hid hp0
      have H1 := Lib.hid hp1
      clear hp0 hp1
      have HE := Lib.hid (bsl_from s pos)
      go_wp2_with fail
      refine (token_any _ wr H1.out (hG.keep HB.out) H0.out).mono ?_
      rintro e w2 ⟨rfl, hb2⟩
      rw [HE.out]
      have hown2 := ownsRow_ext HO.out hb2
      have HO2 := Lib.hid hown2
      have HB2 := Lib.hid (HB.out.trans (hb2.mono HB.out.size))
      clear hown2 hb2
      cases ht : Lx.tok1 ((bsl s).drop pos) with
      | none =>
        have HN := Lib.hid ht
        clear ht
        simp only [tokE, tokV]
        go_wp2_with fail
        refine bodyPost_ret (v := .tuple #[.slice none 0 0, .int .i64 pos, .int .i64 10]) (by simp [results, Tryz.results70, go_sem]) rfl ⟨?_, HB2.out.alloc HB2.out.size _⟩
        unfold TokensE
        rw [HT.out.err (by rw [HL.out]; exact hlt) HN.out]
      | some x =>
        have HX := Lib.hid ht
        have hx := Lx.tok1_pos ht
        rw [List.length_drop, HL.out] at hx
        clear ht
        obtain ⟨k, t, n, m⟩ := x
        simp only at hx
        simp only [tokE, tokV]
        go_wp2_with (at_builtin; go_must (refine wpList_push rfl _ _ 164 rfl w.heap.size 259 (.agg #[.int .i64 0, .string ⟨#[]⟩, .int .i64 0, .int .i64 0]) 4 40 Tryz.underlying164 infoTok rfl (by decide) _ _ _ rfl ((HO2.out.alloc _).alloc _) _ 259 #[.int .i64 k, .string ⟨t.toArray⟩, .int .i64 n, .int .i64 pos] rfl (Blk.new _ _ _ (by simp)) rfl ?_ ?_ ?_ ?_ ?_))
        case refine_1 => simp [Value.oneCell']
        case refine_2 => unfold maxLen; omega
        case refine_3 => omega
        case refine_4 =>
          have := HB2.out.size
          simp
          omega
        case refine_5 =>
          intro v' w3 hown3 hgr _
          have hb3 : Below w.heap.size w w3 := ((HB2.out.alloc HB2.out.size _).alloc (Nat.le_trans HB2.out.size (by simp)) _).grown hgr (Nat.le_trans HB2.out.size (by simp; omega)) (fun g hg => (HO2.out.lt g hg).1)
          have HO3 := Lib.hid hown3
          have HB3 := Lib.hid hb3
          clear hown3 hb3 hgr
          have HE2 := Lib.hid (bsl_from s (pos + m))
          have hs2 := Lx.skip_le false ((bsl s).drop (pos + m))
          rw [List.length_drop, HL.out] at hs2
          have hp3 : (s.extract (pos + m) s.size).size ≤ maxLen := by unfold maxLen; simp; omega
          have H3 := Lib.hid hp3
          clear hp3
          go_wp2_with fail
          refine (skip_any _ w3 H3.out).mono ?_
          rintro e w4 ⟨rfl, rfl⟩
          rw [HE2.out]
          have HN := Lib.hid (HT.out.next (by rw [HL.out]; exact hlt) HX.out)
          simp only at HN
          generalize Lx.skip false ((bsl s).drop (pos + m)) = k3 at hs2 HN ⊢
          go_wp2_with fail
          go_roundw
          case rel =>
            refine ⟨pos + m + k3, acc ++ [⟨k, t, n, pos⟩], by go_num, HN.out, ?_, HB3.out⟩
            have := HO3.out
            simpa [tokCs, tokC] using this
          case measure => simp [intOf]; omega
    · go_wp2_with fail
      refine bodyPost_ret (v := .tuple #[u2, .int .i64 0, .int .i64 0]) (by simp [results, Tryz.results70, go_sem]) rfl ⟨?_, HB.out⟩
      unfold TokensE
      rw [HT.out.done (by rw [HL.out]; omega)]
      exact ⟨_, rfl, HO.out⟩
end Go.Proofs.YtchpbdodlbghaaaGreatDoor
