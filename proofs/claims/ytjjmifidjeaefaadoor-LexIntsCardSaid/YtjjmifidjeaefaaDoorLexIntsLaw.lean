/-
  The law of digits: the walk, and what the lexer makes of digits.
-/
import Derived.Test.YtjjmifidjeaefaaDoorLexRemarksLaw
import Derived.Test.YtjjmifidjeaefaaDoorRef1
namespace Go.Proofs.YtjjmifidjeaefaaDoor
open Go.RowKit Go.Shelf
set_option maxRecDepth 100000

theorem and_mask7 (n : Int) : bits BinOp.and IntKind.i64 n 7 = n % 8 := by
  have e : (BitVec.ofInt 64 n &&& BitVec.ofInt 64 7).toNat = (n % 8).toNat := by
    rw [BitVec.toNat_and]
    have h : (BitVec.ofInt 64 7).toNat = 2 ^ 3 - 1 := by decide
    rw [h, Nat.and_two_pow_sub_one_eq_mod, BitVec.toNat_ofInt]
    omega
  show IntKind.i64.wrap ((BitVec.ofInt 64 n &&& BitVec.ofInt 64 7).toNat : Int) = _
  rw [e, IntKind.wrap_i64]
  omega
theorem span_full (p : UInt8 → Bool) : ∀ l : List UInt8, (∀ c ∈ l, p c = true) → Lx.span p l = l.length
  | [], _ => rfl
  | c :: l, h => by
    rw [Lx.span, if_pos (h c (by simp)), span_full p l (fun x hx => h x (List.mem_cons_of_mem _ hx)), List.length_cons]
theorem digit_plain (c : UInt8) : Lx.isDigit c = true → Lx.isBlank c = false ∧ c ≠ 45 ∧ Lx.isLetter c = false := by
  revert c
  apply u8_all
  decide +kernel
theorem lex_digits (l : List UInt8) (hd : ∀ c ∈ l, Lx.isDigit c = true) (hne : l ≠ []) : Lx.lex l = if Lx.num l ≤ 9223372036854775807 then .ok [⟨3, [], (Lx.num l : Int), 0⟩] else .error 0 := by
  match l, hne, hd with
  | c :: r, _, hd =>
    obtain ⟨h1, h2, h3⟩ := digit_plain c (hd c (by simp))
    have hs : Lx.skip false (c :: r) = 0 := Lx.skip_stop h1 (fun h => h2 h.1)
    have hsp := span_full Lx.isDigit (c :: r) hd
    have ht : Lx.tok1 (c :: r) = if Lx.num (c :: r) ≤ 9223372036854775807 then some (3, [], (Lx.num (c :: r) : Int), (c :: r).length) else none := by
      rw [tok1_eq, h3, hd c (by simp)]
      simp only [if_true, numberE, hsp, List.take_length, List.drop_length]
      simp
    rw [Lx.lex_eq]
    by_cases h : Lx.num (c :: r) ≤ 9223372036854775807
    · rw [if_pos h] at ht ⊢
      rw [Lx.lexAt_tok (c := c) (r := r) (by rw [hs]; rfl) ht]
      rw [Lx.lexAt_end (by simp [Lx.skip]), hs]
      rfl
    · rw [if_neg h] at ht ⊢
      rw [Lx.lexAt_err (c := c) (r := r) (by rw [hs]; rfl) ht, hs]

theorem nums_digit (D : Nat) (h : D < 10) : strOfNums [48 + (D : Int)] = ⟨#[48 + UInt8.ofNat D]⟩ := by
  have : ∀ k : Fin 10, (strOfNums [48 + (k.val : Int)]).data = #[48 + UInt8.ofNat k.val] := by decide +kernel
  exact ByteArray.ext (this ⟨D, h⟩)
set_option maxHeartbeats 4000000 in
theorem law_ints0 (n : Nat) (noughts more : Int) (w : World) (hG : Glob w) (hn : n ≤ 9223372036854775807) (hm : 0 ≤ more ∧ more ≤ 255) :
    Calls Tryd.prog 9 #[.int .i64 n, .int .i64 noughts, .int .u8 more] w fun e w' => e = .returned (.bool true) ∧ Below w.heap.size w w' := by
  obtain ⟨m, hmm⟩ : ∃ m, bits BinOp.and IntKind.i64 noughts 7 = m := ⟨_, rfl⟩
  have hm7 : 0 ≤ m ∧ m ≤ 7 := by rw [← hmm, and_mask7]; omega
  go_enter Tryd.func9, Tryd.ntmps9
  go_wp2_with fail
  refine (reftext_any n w hn).mono ?_
  rintro e w' ⟨⟨t, rfl, td, tn, t0, ts⟩, rfl⟩
  have HD := Lib.hid td
  have HN := Lib.hid tn
  clear td tn
  go_wp2_with fail
  go_loop [7, 8] (fun s i => ∃ (x : ByteArray) (k : Nat), s = .string x ∧ i = .int .i64 k ∧ (k : Int) ≤ m ∧ (∀ c ∈ bsl x, Lx.isDigit c = true) ∧ Lx.num (bsl x) = n ∧ x.size = t.size + k) (fun _ i => 8 - (intOf i).toNat)
  case atStart => exact ⟨t, 0, rfl, rfl, by omega, HD.out, HN.out, rfl⟩
  case round =>
    obtain ⟨x, k, rfl, rfl, hk, hd, hnum, hsz⟩ := hrel
    have HDX := Lib.hid hd
    have HNX := Lib.hid hnum
    clear hd hnum
    by_cases hlt : (k : Int) < m
    · go_wp2_with fail
      case roundEnd =>
        have e : bsl (ByteArray.mk #[48] ++ x) = 48 :: bsl x := by rw [bsl_append]; rfl
        refine ⟨⟨_, k + 1, rfl, by go_num, by omega, ?_, ?_, ?_⟩, by simp [intOf]; omega⟩
        · intro c hc
          rw [e] at hc
          rcases List.mem_cons.1 hc with rfl | hc
          · rfl
          · exact HDX.out c hc
        · rw [e, num_cons, HNX.out]
          simp
        · rw [← bsl_length, e, List.length_cons, bsl_length]; omega
    · have hne : bsl x ≠ [] := by
        intro h
        have := congrArg List.length h
        rw [bsl_length, List.length_nil] at this
        omega
      have hlx := lex_digits (bsl x) HDX.out hne
      rw [HNX.out, if_pos hn] at hlx
      have HLX := Lib.hid hlx
      clear hlx hne
      go_wp2_with fail
      refine (tokens_any x w hG (by omega)).mono ?_
      rintro e w2 ⟨hE, hb2⟩
      rw [HLX.out] at hE
      obtain ⟨v, rfl, ho⟩ := hE
      obtain ⟨g, cap, rfl, hcap, hmax, hcells⟩ := (Toks.of ho).cons
      have hg : g < w2.heap.size := by
        rcases Toks.of ho with ⟨h, _⟩ | ⟨g', cap', h, _, _, h4, _⟩
        · cases h
        · cases h; exact h4
      have c0 : ∀ W, Below w2.heap.size w2 W → W.cell? ⟨g, 0, none⟩ = some (.int .i64 3) := fun W hW => by rw [hW.cell (p := ⟨g, 0, none⟩) hg, hcells 0 (by simp)]; rfl
      have c2 : ∀ W, Below w2.heap.size w2 W → W.cell? ⟨g, 2, none⟩ = some (.int .i64 n) := fun W hW => by rw [hW.cell (p := ⟨g, 2, none⟩) hg, hcells 2 (by simp)]; rfl
      have HC0 := Lib.hid c0
      have HC2 := Lib.hid c2
      have HG2 := Lib.hid (hG.keep hb2)
      have HB2 := Lib.hid hb2
      clear c0 c2 hb2 ho hcells hG
      obtain ⟨D, hD⟩ : ∃ D : Nat, more.tmod 10 = (D : Int) := ⟨(more % 10).toNat, by rw [Int.tmod_eq_emod_of_nonneg (by omega)]; omega⟩
      have hD10 : D < 10 := by
        have := Int.tmod_eq_emod_of_nonneg (b := 10) hm.1
        omega
      simp only [List.length_nil]
      go_wp2_with fail
      rw [run_convert_bytes_arg _ 42 5 Tryd.underlying42 Tryd.underlying5 w2.heap.size 0 1 1 [48 + (D : Int)] rfl ?hc 9 Tryd.underlying9]
      case hc =>
        intro i hi
        obtain rfl : i = 0 := by omega
        simp [go_sem]
      rw [nums_digit D hD10]
      have hbe : bsl (x ++ ByteArray.mk #[48 + UInt8.ofNat D]) = bsl x ++ [48 + UInt8.ofNat D] := by rw [bsl_append]; rfl
      have hbd : ∀ c ∈ bsl (x ++ ByteArray.mk #[48 + UInt8.ofNat D]), Lx.isDigit c = true := by
        intro c hc
        rw [hbe] at hc
        rcases List.mem_append.1 hc with hc | hc
        · exact HDX.out c hc
        · simp only [List.mem_singleton] at hc; subst hc; exact digit_is D hD10
      have hbn : Lx.num (bsl (x ++ ByteArray.mk #[48 + UInt8.ofNat D])) = n * 10 + D := by
        rw [hbe, num_append, HNX.out, num_cons, digit_val D hD10]
        simp [Lx.num]
      have hbs : (x ++ ByteArray.mk #[48 + UInt8.ofNat D]).size = x.size + 1 := by rw [← bsl_length, hbe, List.length_append, bsl_length]; rfl
      have hlb := lex_digits _ hbd (by rw [hbe]; simp)
      rw [hbn] at hlb
      have HLB := Lib.hid hlb
      clear hlb hbd hbn hbe
      have HG2' := Lib.hid (show Glob (w2.alloc (Obj.cells #[Value.int IntKind.u8 (48 + (D : Int))] 5)) from HG2.out.keep (by go_grown))
      go_wp2_with fail
      generalize x ++ ByteArray.mk #[48 + UInt8.ofNat D] = big at hbs HLB ⊢
      refine (tokens_any big _ HG2'.out (by omega)).mono ?_
      rintro e w3 ⟨hE, hb3⟩
      have hb23 : Below w2.heap.size w2 w3 := by
        refine Below.trans ?_ (hb3.mono (by simp))
        go_grown
      have c0 := HC0.out w3 hb23
      have c2 := HC2.out w3 hb23
      have HG3 := Lib.hid (HG2.out.keep hb23)
      have HB3 := Lib.hid (HB2.out.trans (hb23.mono HB2.out.size))
      clear hb23 hb3
      rw [HLB.out] at hE
      by_cases hfit : n * 10 + D ≤ 9223372036854775807
      · rw [if_pos hfit] at hE
        obtain ⟨v, rfl, ho⟩ := hE
        obtain ⟨g2, cap2, rfl, hcap2, hmax2, hcells⟩ := (Toks.of ho).cons
        have d2 : w3.cell? ⟨g2, 2, none⟩ = some (.int .i64 ((n : Int) * 10 + D)) := by rw [hcells 2 (by simp)]; exact congrArg (fun x => some (Value.int .i64 x)) (by simp only; omega)
        clear ho hcells
        simp only [List.length_nil]
        go_wp2_with fail
        refine (refmul_any n _ (by omega)).mono ?_
        rintro e w' ⟨rfl, rfl⟩
        rw [if_pos (by omega)]
        go_wp2_with fail
        refine (refadd_any _ _ _ (by omega) (by omega)).mono ?_
        rintro e w' ⟨rfl, rfl⟩
        rw [if_pos (by omega)]
        go_wp2_with fail
        refine (awake_any _ HG3.out).mono ?_
        rintro e w4 ⟨rfl, hb4⟩
        have HB4 := Lib.hid (HB3.out.trans (hb4.mono HB3.out.size))
        clear hb4
        go_wp2
        go_ret
        exact ⟨rfl, HB4.out⟩
      · rw [if_neg hfit] at hE
        simp only [TokensE] at hE
        subst hE
        by_cases h10 : (n : Int) * 10 ≤ 9223372036854775807
        · skip
          go_wp2_with fail
          refine (refmul_any n _ (by omega)).mono ?_
          rintro e w' ⟨rfl, rfl⟩
          rw [if_pos h10]
          go_wp2_with fail
          refine (refadd_any _ _ _ (by omega) (by omega)).mono ?_
          rintro e w' ⟨rfl, rfl⟩
          rw [if_neg (by omega)]
          go_wp2_with fail
          refine (awake_any _ HG3.out).mono ?_
          rintro e w4 ⟨rfl, hb4⟩
          have HB4 := Lib.hid (HB3.out.trans (hb4.mono HB3.out.size))
          clear hb4
          go_wp2
          go_ret
          exact ⟨rfl, HB4.out⟩
        · skip
          go_wp2_with fail
          refine (refmul_any n _ (by omega)).mono ?_
          rintro e w' ⟨rfl, rfl⟩
          rw [if_neg (by omega)]
          go_wp2_with fail
          refine (refadd_any _ _ _ (by omega) (by omega)).mono ?_
          rintro e w' ⟨rfl, rfl⟩
          rw [if_pos (by omega)]
          go_wp2_with fail
          refine (awake_any _ HG3.out).mono ?_
          rintro e w4 ⟨rfl, hb4⟩
          have HB4 := Lib.hid (HB3.out.trans (hb4.mono HB3.out.size))
          clear hb4
          go_wp2
          go_ret
          exact ⟨rfl, HB4.out⟩
set_option maxHeartbeats 4000000 in
theorem law_intsN (n0 : Int) (n : Nat) (hneg : n0 < 0) (hval : -(n0 + 1) = n) (noughts more : Int) (w : World) (hG : Glob w) (hn : n ≤ 9223372036854775807) (hm : 0 ≤ more ∧ more ≤ 255) :
    Calls Tryd.prog 9 #[.int .i64 n0, .int .i64 noughts, .int .u8 more] w fun e w' => e = .returned (.bool true) ∧ Below w.heap.size w w' := by
  obtain ⟨m, hmm⟩ : ∃ m, bits BinOp.and IntKind.i64 noughts 7 = m := ⟨_, rfl⟩
  have hm7 : 0 ≤ m ∧ m ≤ 7 := by rw [← hmm, and_mask7]; omega
  go_enter Tryd.func9, Tryd.ntmps9
  go_wp2_with fail

  refine (reftext_any n w hn).mono ?_
  rintro e w' ⟨⟨t, rfl, td, tn, t0, ts⟩, rfl⟩
  have HD := Lib.hid td
  have HN := Lib.hid tn
  clear td tn
  go_wp2_with fail
  go_loop [7, 8] (fun s i => ∃ (x : ByteArray) (k : Nat), s = .string x ∧ i = .int .i64 k ∧ (k : Int) ≤ m ∧ (∀ c ∈ bsl x, Lx.isDigit c = true) ∧ Lx.num (bsl x) = n ∧ x.size = t.size + k) (fun _ i => 8 - (intOf i).toNat)
  case atStart => exact ⟨t, 0, rfl, rfl, by omega, HD.out, HN.out, rfl⟩
  case round =>
    obtain ⟨x, k, rfl, rfl, hk, hd, hnum, hsz⟩ := hrel
    have HDX := Lib.hid hd
    have HNX := Lib.hid hnum
    clear hd hnum
    by_cases hlt : (k : Int) < m
    · go_wp2_with fail
      case roundEnd =>
        have e : bsl (ByteArray.mk #[48] ++ x) = 48 :: bsl x := by rw [bsl_append]; rfl
        refine ⟨⟨_, k + 1, rfl, by go_num, by omega, ?_, ?_, ?_⟩, by simp [intOf]; omega⟩
        · intro c hc
          rw [e] at hc
          rcases List.mem_cons.1 hc with rfl | hc
          · rfl
          · exact HDX.out c hc
        · rw [e, num_cons, HNX.out]
          simp
        · rw [← bsl_length, e, List.length_cons, bsl_length]; omega
    · have hne : bsl x ≠ [] := by
        intro h
        have := congrArg List.length h
        rw [bsl_length, List.length_nil] at this
        omega
      have hlx := lex_digits (bsl x) HDX.out hne
      rw [HNX.out, if_pos hn] at hlx
      have HLX := Lib.hid hlx
      clear hlx hne
      go_wp2_with fail
      refine (tokens_any x w hG (by omega)).mono ?_
      rintro e w2 ⟨hE, hb2⟩
      rw [HLX.out] at hE
      obtain ⟨v, rfl, ho⟩ := hE
      obtain ⟨g, cap, rfl, hcap, hmax, hcells⟩ := (Toks.of ho).cons
      have hg : g < w2.heap.size := by
        rcases Toks.of ho with ⟨h, _⟩ | ⟨g', cap', h, _, _, h4, _⟩
        · cases h
        · cases h; exact h4
      have c0 : ∀ W, Below w2.heap.size w2 W → W.cell? ⟨g, 0, none⟩ = some (.int .i64 3) := fun W hW => by rw [hW.cell (p := ⟨g, 0, none⟩) hg, hcells 0 (by simp)]; rfl
      have c2 : ∀ W, Below w2.heap.size w2 W → W.cell? ⟨g, 2, none⟩ = some (.int .i64 n) := fun W hW => by rw [hW.cell (p := ⟨g, 2, none⟩) hg, hcells 2 (by simp)]; rfl
      have HC0 := Lib.hid c0
      have HC2 := Lib.hid c2
      have HG2 := Lib.hid (hG.keep hb2)
      have HB2 := Lib.hid hb2
      clear c0 c2 hb2 ho hcells hG
      obtain ⟨D, hD⟩ : ∃ D : Nat, more.tmod 10 = (D : Int) := ⟨(more % 10).toNat, by rw [Int.tmod_eq_emod_of_nonneg (by omega)]; omega⟩
      have hD10 : D < 10 := by
        have := Int.tmod_eq_emod_of_nonneg (b := 10) hm.1
        omega
      simp only [List.length_nil]
      go_wp2_with fail
      rw [run_convert_bytes_arg _ 42 5 Tryd.underlying42 Tryd.underlying5 w2.heap.size 0 1 1 [48 + (D : Int)] rfl ?hc 9 Tryd.underlying9]
      case hc =>
        intro i hi
        obtain rfl : i = 0 := by omega
        simp [go_sem]
      rw [nums_digit D hD10]
      have hbe : bsl (x ++ ByteArray.mk #[48 + UInt8.ofNat D]) = bsl x ++ [48 + UInt8.ofNat D] := by rw [bsl_append]; rfl
      have hbd : ∀ c ∈ bsl (x ++ ByteArray.mk #[48 + UInt8.ofNat D]), Lx.isDigit c = true := by
        intro c hc
        rw [hbe] at hc
        rcases List.mem_append.1 hc with hc | hc
        · exact HDX.out c hc
        · simp only [List.mem_singleton] at hc; subst hc; exact digit_is D hD10
      have hbn : Lx.num (bsl (x ++ ByteArray.mk #[48 + UInt8.ofNat D])) = n * 10 + D := by
        rw [hbe, num_append, HNX.out, num_cons, digit_val D hD10]
        simp [Lx.num]
      have hbs : (x ++ ByteArray.mk #[48 + UInt8.ofNat D]).size = x.size + 1 := by rw [← bsl_length, hbe, List.length_append, bsl_length]; rfl
      have hlb := lex_digits _ hbd (by rw [hbe]; simp)
      rw [hbn] at hlb
      have HLB := Lib.hid hlb
      clear hlb hbd hbn hbe
      have HG2' := Lib.hid (show Glob (w2.alloc (Obj.cells #[Value.int IntKind.u8 (48 + (D : Int))] 5)) from HG2.out.keep (by go_grown))
      go_wp2_with fail
      generalize x ++ ByteArray.mk #[48 + UInt8.ofNat D] = big at hbs HLB ⊢
      refine (tokens_any big _ HG2'.out (by omega)).mono ?_
      rintro e w3 ⟨hE, hb3⟩
      have hb23 : Below w2.heap.size w2 w3 := by
        refine Below.trans ?_ (hb3.mono (by simp))
        go_grown
      have c0 := HC0.out w3 hb23
      have c2 := HC2.out w3 hb23
      have HG3 := Lib.hid (HG2.out.keep hb23)
      have HB3 := Lib.hid (HB2.out.trans (hb23.mono HB2.out.size))
      clear hb23 hb3
      rw [HLB.out] at hE
      by_cases hfit : n * 10 + D ≤ 9223372036854775807
      · rw [if_pos hfit] at hE
        obtain ⟨v, rfl, ho⟩ := hE
        obtain ⟨g2, cap2, rfl, hcap2, hmax2, hcells⟩ := (Toks.of ho).cons
        have d2 : w3.cell? ⟨g2, 2, none⟩ = some (.int .i64 ((n : Int) * 10 + D)) := by rw [hcells 2 (by simp)]; exact congrArg (fun x => some (Value.int .i64 x)) (by simp only; omega)
        clear ho hcells
        simp only [List.length_nil]
        go_wp2_with fail
        refine (refmul_any n _ (by omega)).mono ?_
        rintro e w' ⟨rfl, rfl⟩
        rw [if_pos (by omega)]
        go_wp2_with fail
        refine (refadd_any _ _ _ (by omega) (by omega)).mono ?_
        rintro e w' ⟨rfl, rfl⟩
        rw [if_pos (by omega)]
        go_wp2_with fail
        refine (awake_any _ HG3.out).mono ?_
        rintro e w4 ⟨rfl, hb4⟩
        have HB4 := Lib.hid (HB3.out.trans (hb4.mono HB3.out.size))
        clear hb4
        go_wp2
        go_ret
        exact ⟨rfl, HB4.out⟩
      · rw [if_neg hfit] at hE
        simp only [TokensE] at hE
        subst hE
        by_cases h10 : (n : Int) * 10 ≤ 9223372036854775807
        · skip
          go_wp2_with fail
          refine (refmul_any n _ (by omega)).mono ?_
          rintro e w' ⟨rfl, rfl⟩
          rw [if_pos h10]
          go_wp2_with fail
          refine (refadd_any _ _ _ (by omega) (by omega)).mono ?_
          rintro e w' ⟨rfl, rfl⟩
          rw [if_neg (by omega)]
          go_wp2_with fail
          refine (awake_any _ HG3.out).mono ?_
          rintro e w4 ⟨rfl, hb4⟩
          have HB4 := Lib.hid (HB3.out.trans (hb4.mono HB3.out.size))
          clear hb4
          go_wp2
          go_ret
          exact ⟨rfl, HB4.out⟩
        · skip
          go_wp2_with fail
          refine (refmul_any n _ (by omega)).mono ?_
          rintro e w' ⟨rfl, rfl⟩
          rw [if_neg (by omega)]
          go_wp2_with fail
          refine (refadd_any _ _ _ (by omega) (by omega)).mono ?_
          rintro e w' ⟨rfl, rfl⟩
          rw [if_pos (by omega)]
          go_wp2_with fail
          refine (awake_any _ HG3.out).mono ?_
          rintro e w4 ⟨rfl, hb4⟩
          have HB4 := Lib.hid (HB3.out.trans (hb4.mono HB3.out.size))
          clear hb4
          go_wp2
          go_ret
          exact ⟨rfl, HB4.out⟩
theorem law_ints (n noughts more : Int) (w : World) (hG : Glob w) (hn : -9223372036854775808 ≤ n ∧ n ≤ 9223372036854775807) (hm : 0 ≤ more ∧ more ≤ 255) :
    Calls Tryd.prog 9 #[.int .i64 n, .int .i64 noughts, .int .u8 more] w fun e w' => e = .returned (.bool true) ∧ Below w.heap.size w w' := by
  by_cases h : n < 0
  · exact law_intsN n (-(n + 1)).toNat h (by omega) noughts more w hG (by omega) hm
  · obtain ⟨k, rfl⟩ : ∃ k : Nat, n = k := ⟨n.toNat, by omega⟩
    exact law_ints0 k noughts more w hG (by omega) hm
end Go.Proofs.YtjjmifidjeaefaaDoor
