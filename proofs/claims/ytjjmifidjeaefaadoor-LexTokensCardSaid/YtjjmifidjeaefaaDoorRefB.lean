/-
  The document's own lexer: words, signs, texts, numbers.
-/
import Derived.Test.YtjjmifidjeaefaaDoorRefA
namespace Go.Proofs.YtjjmifidjeaefaaDoor
open Go.RowKit Go.Shelf
set_option maxRecDepth 100000

/-! ### Words -/
def wordCells : Array Value := (Lx.words.map fun l => Value.string ⟨l.toArray⟩).toArray
theorem refwords_any (w : World) :
    Calls Tryd.prog 47 #[] w fun e w' => e = .returned (.slice (some ⟨w.heap.size, 0, none⟩) 48 48) ∧ Blk w' w.heap.size wordCells 9 ∧ Below w.heap.size w w' := by
  go_enter Tryd.func47, Tryd.ntmps47
  go_wp2_with fail
  go_ret
  refine ⟨rfl, ?_, by go_grown⟩
  exact Blk.new w wordCells 9 rfl
theorem words_len : Lx.words.length = 48 := by decide
theorem wordCells_at {k : Nat} {l : List UInt8} (h : Lx.words[k]? = some l) : wordCells[k]? = some (.string ⟨l.toArray⟩) := by
  simp [wordCells, h]
set_option maxHeartbeats 1000000 in
theorem refisword_any (s : ByteArray) (w : World) :
    Calls Tryd.prog 29 #[.string s] w fun e w' => e = .returned (.bool (Lx.isWord (bsl s))) ∧ Below w.heap.size w w' := by
  go_enter Tryd.func29, Tryd.ntmps29
  go_wp2_with fail
  refine (refwords_any w).mono ?_
  rintro e w1 ⟨rfl, hblk, hbel⟩
  have HB := Lib.hid hbel
  have HK := Lib.hid hblk
  clear hbel hblk
  go_wp2_with fail
  go_loop [4] (fun i => ∃ k : Nat, i = .int .i64 k ∧ k ≤ 48 ∧ ∀ j, j < k → Lx.words[j]? ≠ some (bsl s)) (fun i => 48 - (intOf i).toNat)
  case atStart => exact ⟨0, rfl, Nat.zero_le _, fun j h => absurd h (Nat.not_lt_zero _)⟩
  case round =>
    obtain ⟨k, rfl, hk, hno⟩ := hrel
    have HN := Lib.hid hno
    clear hno
    by_cases hlt : k < 48
    · obtain ⟨l, hl⟩ : ∃ l, Lx.words[k]? = some l := ⟨_, List.getElem?_eq_getElem (by rw [words_len]; exact hlt)⟩
      have hc := (HK.out.cell k).trans (wordCells_at hl)
      have hcmp := bytes_ne (a := l) (s := s)
      have HL := Lib.hid hl
      clear hl
      by_cases he : l = bsl s
      · rw [decide_eq_true he] at hcmp
        have HE := Lib.hid he
        clear he
        go_wp2_with fail
        go_ret
        refine ⟨ret_bool ?_, HB.out⟩
        rw [Lx.isWord, ← HE.out]
        exact (List.contains_iff_mem.2 (List.mem_of_getElem? HL.out)).symm
      · rw [decide_eq_false he] at hcmp
        have HE := Lib.hid he
        clear he
        go_wp2_with fail
        go_round
        case rel =>
          refine ⟨k + 1, by go_num, by omega, fun j hj => ?_⟩
          rcases Nat.lt_or_ge j k with h | h
          · exact HN.out j h
          · obtain rfl : j = k := by omega
            rw [HL.out]
            exact fun h => HE.out (Option.some.inj h)
        case measure => simp [intOf]; omega
    · go_wp2_with fail
      go_ret
      refine ⟨ret_bool ?_, HB.out⟩
      symm
      rw [Lx.isWord, Bool.eq_false_iff]
      intro h
      obtain ⟨j, hj⟩ := List.mem_iff_getElem?.1 (List.contains_iff_mem.1 h)
      have hj2 : j < 48 := by rw [← words_len]; exact (List.getElem?_eq_some_iff.1 hj).1
      exact HN.out j (by omega) hj

/-! ### Signs -/
def refOp (l : List UInt8) : List UInt8 :=
  if Lx.ops2.contains (l.take 2) then l.take 2 else if Lx.ops1.contains (l.headD 0) then l.take 1 else []
theorem ext2 {s : ByteArray} {x : List UInt8} (h : (bsl s).take 2 = x) : s.extract 0 2 = ⟨x.toArray⟩ := by
  rw [Lib.extract_upto, ← h]; rfl
theorem ext2_ne {s : ByteArray} {x : List UInt8} (h : (bsl s).take 2 ≠ x) : ((s.extract 0 2).toList == x) = false := by
  rw [ext2 rfl, ByteArray.toList_eq, beq_eq_false_iff_ne]
  exact h
theorem ext1 {s : ByteArray} (h0 : 0 < s.size) : s.extract 0 1 = ⟨[s[0]'h0].toArray⟩ := by
  have hd := bsl_drop_cons s 0 h0
  rw [List.drop_zero, bsl] at hd
  rw [Lib.extract_upto, hd]
  rfl
theorem refOp_miss {s : ByteArray} (h0 : 0 < s.size) (h : Lx.ops2.contains ((bsl s).take 2) = false) : refOp (bsl s) = if Lx.ops1.contains (s[0]'h0) then [s[0]'h0] else [] := by
  have hd := bsl_drop_cons s 0 h0
  rw [List.drop_zero] at hd
  rw [refOp, h, hd]
  rfl
set_option maxHeartbeats 4000000 in
theorem refop_any (s : ByteArray) (w : World) (hs : s.size ≤ maxLen) (h0 : 0 < s.size) :
    Calls Tryd.prog 32 #[.string s] w fun e w' => e = .returned (.string ⟨(refOp (bsl s)).toArray⟩) ∧ w = w' := by
  unfold maxLen at hs
  cases hm : Lx.ops2.contains ((bsl s).take 2)
  · have HM := Lib.hid (refOp_miss h0 hm)
    have hne : ∀ x ∈ Lx.ops2, (bsl s).take 2 ≠ x := by
      intro x hx e
      rw [e, ← Bool.not_eq_true] at hm
      exact hm (List.contains_iff_mem.2 hx)
    clear hm
    have f0 := ext2_ne (hne [60, 62] (by decide))
    have f1 := ext2_ne (hne [60, 61] (by decide))
    have f2 := ext2_ne (hne [62, 61] (by decide))
    have f3 := ext2_ne (hne [60, 60] (by decide))
    have f4 := ext2_ne (hne [62, 62] (by decide))
    have f5 := ext2_ne (hne [124, 124] (by decide))
    clear hne
    have hx := ext1 h0
    cases h1 : Lx.ops1.contains (s[0]'h0)
    · have hne : ∀ x ∈ Lx.ops1, ((((s[0]'h0).toNat : Nat) : Int) == ((x.toNat : Nat) : Int)) = false := by
        intro x hx
        rw [beq_eq_false_iff_ne]
        intro e
        have : s[0]'h0 = x := by rw [← UInt8.toNat_inj]; omega
        rw [this, ← Bool.not_eq_true] at h1
        exact h1 (List.contains_iff_mem.2 hx)
      have H1 := Lib.hid h1
      clear h1 hx
      have g0 : ((((s[0]'h0).toNat : Nat) : Int) == 40) = false := hne 40 (by decide)
      have g1 : ((((s[0]'h0).toNat : Nat) : Int) == 41) = false := hne 41 (by decide)
      have g2 : ((((s[0]'h0).toNat : Nat) : Int) == 44) = false := hne 44 (by decide)
      have g3 : ((((s[0]'h0).toNat : Nat) : Int) == 46) = false := hne 46 (by decide)
      have g4 : ((((s[0]'h0).toNat : Nat) : Int) == 59) = false := hne 59 (by decide)
      have g5 : ((((s[0]'h0).toNat : Nat) : Int) == 42) = false := hne 42 (by decide)
      have g6 : ((((s[0]'h0).toNat : Nat) : Int) == 61) = false := hne 61 (by decide)
      have g7 : ((((s[0]'h0).toNat : Nat) : Int) == 60) = false := hne 60 (by decide)
      have g8 : ((((s[0]'h0).toNat : Nat) : Int) == 62) = false := hne 62 (by decide)
      have g9 : ((((s[0]'h0).toNat : Nat) : Int) == 43) = false := hne 43 (by decide)
      have g10 : ((((s[0]'h0).toNat : Nat) : Int) == 45) = false := hne 45 (by decide)
      have g11 : ((((s[0]'h0).toNat : Nat) : Int) == 47) = false := hne 47 (by decide)
      have g12 : ((((s[0]'h0).toNat : Nat) : Int) == 37) = false := hne 37 (by decide)
      have g13 : ((((s[0]'h0).toNat : Nat) : Int) == 38) = false := hne 38 (by decide)
      have g14 : ((((s[0]'h0).toNat : Nat) : Int) == 124) = false := hne 124 (by decide)
      have g15 : ((((s[0]'h0).toNat : Nat) : Int) == 94) = false := hne 94 (by decide)
      clear hne
      by_cases h2 : 2 ≤ s.size
      all_goals
        go_enter Tryd.func32, Tryd.ntmps32
        go_wp2_with fail
        go_ret
        exact ⟨by rw [HM.out, H1.out]; rfl, rfl⟩
    · have h1' := h1
      simp [Lx.ops1] at h1'
      have H1 := Lib.hid h1
      clear h1
      by_cases h2 : 2 ≤ s.size
      all_goals
        rcases h1' with h | h | h | h | h | h | h | h | h | h | h | h | h | h | h | h
        all_goals
          have HH := Lib.hid h
          rw [h] at hx
          go_enter Tryd.func32, Tryd.ntmps32
          go_wp2_with fail
          go_ret
          exact ⟨by rw [HM.out, H1.out, HH.out]; rfl, rfl⟩
  · have e : refOp (bsl s) = (bsl s).take 2 := by rw [refOp, hm]; rfl
    have hm' := List.contains_iff_mem.1 hm
    have h2 : 2 ≤ s.size := by
      rw [← bsl_length]
      rcases Nat.lt_or_ge (bsl s).length 2 with h | h
      · exfalso
        have hl : ((bsl s).take 2).length < 2 := by rw [List.length_take]; omega
        simp [Lx.ops2] at hm'
        rcases hm' with h | h | h | h | h | h <;> (rw [h] at hl; simp at hl)
      · exact h
    rw [e]
    clear e hm
    simp [Lx.ops2] at hm'
    rcases hm' with h | h | h | h | h | h
    all_goals
      have hx := ext2 h
      rw [h]
      clear h
      go_enter Tryd.func32, Tryd.ntmps32
      go_wp2_with fail
      go_ret
      exact ⟨rfl, rfl⟩
end Go.Proofs.YtjjmifidjeaefaaDoor
