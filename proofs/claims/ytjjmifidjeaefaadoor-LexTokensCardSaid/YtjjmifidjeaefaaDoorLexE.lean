/-
  The lexer: what callers read of the words; a text that is one word; the law's 'awake'.
-/
import Derived.Test.YtjjmifidjeaefaaDoorLexD
namespace Go.Proofs.YtjjmifidjeaefaaDoor
open Go.RowKit Go.Shelf
set_option maxRecDepth 100000

/-- A slice of words, as it is read. -/
def Toks (w : World) (v : Value) (L : List Lx.Tok) : Prop :=
  (v = .slice none 0 0 ∧ L = []) ∨ ∃ g cap, v = .slice (some ⟨g, 0, none⟩) L.length cap ∧ L.length ≤ cap ∧ cap ≤ maxLen ∧ g < w.heap.size ∧ ∀ j, j < L.length * 4 → w.cell? ⟨g, j, none⟩ = (tokCs L)[j]?
theorem Toks.of {w : World} {B : Nat} {v : Value} {L : List Lx.Tok} (h : w.ownsRow B 31 4 v L.length (tokCs L)) : Toks w v L := by
  rcases h.2 with ⟨rfl, h0⟩ | ⟨g, cap, cur, rfl, hB, hh, hn, hm, _⟩
  · exact Or.inl ⟨rfl, List.eq_nil_of_length_eq_zero h0⟩
  · exact Or.inr ⟨g, cap, rfl, hn, hm, (Array.getElem?_eq_some_iff.1 hh).1, fun j hj => h.cellAt j hj⟩
theorem Toks.keep {w w' : World} {v : Value} {L : List Lx.Tok} (h : Toks w v L) (hb : Below w.heap.size w w') : Toks w' v L := by
  rcases h with h | ⟨g, cap, h1, h2, h3, h4, h5⟩
  · exact Or.inl h
  · exact Or.inr ⟨g, cap, h1, h2, h3, Nat.lt_of_lt_of_le h4 hb.size, fun j hj => by rw [hb.cell (p := ⟨g, j, none⟩) h4]; exact h5 j hj⟩
/-- .. of some words: the cells one by one. -/
theorem Toks.cons {w : World} {v : Value} {t : Lx.Tok} {L : List Lx.Tok} (h : Toks w v (t :: L)) : ∃ g cap, v = .slice (some ⟨g, 0, none⟩) (L.length + 1) cap ∧ L.length + 1 ≤ cap ∧ cap ≤ maxLen ∧ ∀ j, j < (L.length + 1) * 4 → w.cell? ⟨g, j, none⟩ = (tokCs (t :: L))[j]? := by
  rcases h with ⟨_, h⟩ | ⟨g, cap, h1, h2, h3, _, h5⟩
  · cases h
  · exact ⟨g, cap, h1, h2, h3, h5⟩
def zeroTok : Value := .agg #[.int .i64 0, .string ⟨#[]⟩, .int .i64 0, .int .i64 0]
def onlyV (r : Except Nat (List Lx.Tok)) (l : List UInt8) : Value :=
  match r with
  | .ok [t] => if t.text = l then .agg #[.int .i64 t.kind, .string ⟨t.text.toArray⟩, .int .i64 t.n, .int .i64 t.pos] else zeroTok
  | _ => zeroTok
theorem bytes_ne {a : List UInt8} {s : ByteArray} : (a == s.toList) = decide (a = bsl s) := by
  rw [ByteArray.toList_eq, Bool.eq_iff_iff, beq_iff_eq, decide_eq_true_iff]
  exact Iff.rfl
set_option maxHeartbeats 2000000 in
theorem only_any (s : ByteArray) (w : World) (hG : Glob w) (hs : s.size ≤ 4000) :
    Calls Tryd.prog 33 #[.string s] w fun e w' => e = .returned (onlyV (Lx.lex (bsl s)) (bsl s)) ∧ Below w.heap.size w w' := by
  go_enter Tryd.func33, Tryd.ntmps33
  go_wp2_with fail
  refine (tokens_any s _ (hG.keep (by go_grown)) hs).mono ?_
  rintro e w2 ⟨hE, hb2⟩
  have hb1 : Below w.heap.size w w2 := by
    refine Below.trans ?_ (hb2.mono (by simp))
    go_grown
  have HB := Lib.hid hb1
  have hblk : Blk w2 w.heap.size #[.int .i64 0, .string ⟨#[]⟩, .int .i64 0, .int .i64 0] 31 := (Blk.new w _ 31 rfl).keep hb2
  clear hb1 hb2
  obtain ⟨hc, hf⟩ := hblk.facts
  unfold TokensE at hE
  generalize hr : Lx.lex (bsl s) = r at hE ⊢
  have HR := Lib.hid hr
  clear hr
  match r, hE with
  | .error p, hE =>
    subst hE
    go_wp2_with fail
    exact bodyPost_ret (v := zeroTok) (by simp [results, Tryd.results33, go_sem, (blk4 hblk _ _ _ _).cell, zeroTok]) rfl ⟨by rw [HR.out]; rfl, below4 HB.out (Nat.le_refl _) _ _ _ _⟩
  | .ok [], hE =>
    obtain ⟨v, rfl, ho⟩ := hE
    rcases Toks.of ho with ⟨rfl, _⟩ | ⟨g, cap, rfl, _⟩
    · clear ho
      go_wp2_with fail
      exact bodyPost_ret (v := zeroTok) (by simp [results, Tryd.results33, go_sem, (blk4 hblk _ _ _ _).cell, zeroTok]) rfl ⟨by rw [HR.out]; rfl, below4 HB.out (Nat.le_refl _) _ _ _ _⟩
    · clear ho
      simp only [List.length_nil]
      go_wp2_with fail
      exact bodyPost_ret (v := zeroTok) (by simp [results, Tryd.results33, go_sem, (blk4 hblk _ _ _ _).cell, zeroTok]) rfl ⟨by rw [HR.out]; rfl, below4 HB.out (Nat.le_refl _) _ _ _ _⟩
  | .ok [t], hE =>
    obtain ⟨v, rfl, ho⟩ := hE
    obtain ⟨g, cap, rfl, hcap, hmax, hcells⟩ := (Toks.of ho).cons
    clear ho
    obtain ⟨kind, txt, num, pos⟩ := t
    have c0 : w2.cell? ⟨g, 0, none⟩ = some (.int .i64 kind) := by rw [hcells 0 (by decide)]; rfl
    have c1 : w2.cell? ⟨g, 1, none⟩ = some (.string ⟨txt.toArray⟩) := by rw [hcells 1 (by decide)]; rfl
    have c2 : w2.cell? ⟨g, 2, none⟩ = some (.int .i64 num) := by rw [hcells 2 (by decide)]; rfl
    have c3 : w2.cell? ⟨g, 3, none⟩ = some (.int .i64 pos) := by rw [hcells 3 (by decide)]; rfl
    clear hcells
    simp only [List.length_nil]
    have hcmp := bytes_ne (a := txt) (s := s)
    by_cases hts : txt = bsl s
    · have HT := Lib.hid hts
      rw [decide_eq_true hts] at hcmp
      clear hts
      go_wp2_with fail
      exact bodyPost_ret (v := .agg #[.int .i64 kind, .string ⟨txt.toArray⟩, .int .i64 num, .int .i64 pos]) (by simp [results, Tryd.results33, go_sem, (blk4 hblk _ _ _ _).cell]) rfl ⟨by rw [HR.out, onlyV]; simp only [HT.out, if_true], below4 HB.out (Nat.le_refl _) _ _ _ _⟩
    · have HT := Lib.hid hts
      rw [decide_eq_false hts] at hcmp
      clear hts
      go_wp2_with fail
      exact bodyPost_ret (v := zeroTok) (by simp [results, Tryd.results33, go_sem, (blk4 hblk _ _ _ _).cell, zeroTok]) rfl ⟨by rw [HR.out, onlyV]; simp only [HT.out, if_false], below4 HB.out (Nat.le_refl _) _ _ _ _⟩
  | .ok (t :: u :: L), hE =>
    obtain ⟨v, rfl, ho⟩ := hE
    obtain ⟨g, cap, rfl, hcap, hmax, hcells⟩ := (Toks.of ho).cons
    clear ho hcells
    simp only [List.length_cons]
    go_wp2_with fail
    exact bodyPost_ret (v := zeroTok) (by simp [results, Tryd.results33, go_sem, (blk4 hblk _ _ _ _).cell, zeroTok]) rfl ⟨by rw [HR.out]; rfl, below4 HB.out (Nat.le_refl _) _ _ _ _⟩

def kindOf (r : Except Nat (List Lx.Tok)) (l : List UInt8) : Nat :=
  match r with
  | .ok [t] => if t.text = l then t.kind else 0
  | _ => 0
theorem onlyV_kind (r : Except Nat (List Lx.Tok)) (l : List UInt8) : ∃ (t : ByteArray) (n p : Int), onlyV r l = .agg #[.int .i64 (kindOf r l), .string t, .int .i64 n, .int .i64 p] := by
  match r with
  | .error p => exact ⟨_, _, _, rfl⟩
  | .ok [] => exact ⟨_, _, _, rfl⟩
  | .ok [t] =>
    by_cases h : t.text = l
    · exact ⟨_, _, _, by rw [onlyV, kindOf, if_pos h, if_pos h]⟩
    · exact ⟨_, _, _, by rw [onlyV, kindOf, if_neg h, if_neg h]; rfl⟩
  | .ok (t :: u :: L) => exact ⟨_, _, _, rfl⟩
theorem kind_field (k : Nat) (t : ByteArray) (n p : Int) : ∀ w : World, (Instr.field 31 (.agg #[.int .i64 k, .string t, .int .i64 n, .int .i64 p]) 0).run Tryd.prog w = .ok (.int .i64 k) w := fun _ => by kernel_rfl
theorem name1_any (s : ByteArray) (w : World) (hG : Glob w) (hs : s.size ≤ 4000) :
    Calls Tryd.prog 16 #[.string s] w fun e w' => e = .returned (.bool (kindOf (Lx.lex (bsl s)) (bsl s) == 1)) ∧ Below w.heap.size w w' := by
  go_enter Tryd.func16, Tryd.ntmps16
  go_wp2_with fail
  refine (only_any s w hG hs).mono ?_
  rintro e w2 ⟨rfl, hb2⟩
  obtain ⟨t, n, p, ho⟩ := onlyV_kind (Lx.lex (bsl s)) (bsl s)
  rw [ho]
  have HB := Lib.hid hb2
  clear hb2 ho
  generalize hk : kindOf (Lx.lex (bsl s)) (bsl s) = k
  have HK := Lib.hid hk
  clear hk
  have hfd := kind_field k t n p
  go_wp2
  go_ret
  exact ⟨ret_bool (by rw [HK.out, Bool.eq_iff_iff]; simp only [beq_iff_eq]; omega), HB.out⟩
theorem word1_any (s : ByteArray) (w : World) (hG : Glob w) (hs : s.size ≤ 4000) :
    Calls Tryd.prog 17 #[.string s] w fun e w' => e = .returned (.bool (kindOf (Lx.lex (bsl s)) (bsl s) == 2)) ∧ Below w.heap.size w w' := by
  go_enter Tryd.func17, Tryd.ntmps17
  go_wp2_with fail
  refine (only_any s w hG hs).mono ?_
  rintro e w2 ⟨rfl, hb2⟩
  obtain ⟨t, n, p, ho⟩ := onlyV_kind (Lx.lex (bsl s)) (bsl s)
  rw [ho]
  have HB := Lib.hid hb2
  clear hb2 ho
  generalize hk : kindOf (Lx.lex (bsl s)) (bsl s) = k
  have HK := Lib.hid hk
  clear hk
  have hfd := kind_field k t n p
  go_wp2
  go_ret
  exact ⟨ret_bool (by rw [HK.out, Bool.eq_iff_iff]; simp only [beq_iff_eq]; omega), HB.out⟩
theorem awakeLex : Lx.lex [97, 60, 61, 49] = .ok [⟨1, [97], 0, 0⟩, ⟨5, [60, 61], 0, 1⟩, ⟨3, [], 1, 3⟩] := by rfl
theorem selectLex : kindOf (Lx.lex [83, 69, 76, 69, 67, 84]) [83, 69, 76, 69, 67, 84] = 2 := by decide +kernel
theorem a1Lex : kindOf (Lx.lex [97, 49]) [97, 49] = 1 := by decide +kernel
set_option maxHeartbeats 2000000 in
theorem awake_any (w : World) (hG : Glob w) :
    Calls Tryd.prog 13 #[] w fun e w' => e = .returned (.bool true) ∧ Below w.heap.size w w' := by
  go_enter Tryd.func13, Tryd.ntmps13
  go_wp2_with fail
  refine (tokens_any _ w hG (by decide)).mono ?_
  rintro e w2 ⟨hE, hb2⟩
  have HB := Lib.hid hb2
  clear hb2
  rw [show bsl (ByteArray.mk #[97, 60, 61, 49]) = [97, 60, 61, 49] from rfl, awakeLex] at hE
  obtain ⟨v, rfl, ho⟩ := hE
  obtain ⟨g, cap, rfl, hcap, hmax, hcells⟩ := (Toks.of ho).cons
  clear ho
  have c4 : w2.cell? ⟨g, 4, none⟩ = some (.int .i64 5) := by rw [hcells 4 (by decide)]; rfl
  have c5 : w2.cell? ⟨g, 5, none⟩ = some (.string ⟨#[60, 61]⟩) := by rw [hcells 5 (by decide)]; rfl
  have c10 : w2.cell? ⟨g, 10, none⟩ = some (.int .i64 1) := by rw [hcells 10 (by decide)]; rfl
  clear hcells
  simp only [List.length_cons, List.length_nil]
  go_wp2_with fail
  refine (word1_any _ w2 (hG.keep HB.out) (by decide)).mono ?_
  rintro e w3 ⟨rfl, hb3⟩
  have HB3 := Lib.hid (HB.out.trans (hb3.mono HB.out.size))
  clear hb3
  rw [show bsl (ByteArray.mk #[83, 69, 76, 69, 67, 84]) = [83, 69, 76, 69, 67, 84] from rfl, selectLex]
  go_wp2_with fail
  refine (name1_any _ w3 (hG.keep HB3.out) (by decide)).mono ?_
  rintro e w4 ⟨rfl, hb4⟩
  have HB4 := Lib.hid (HB3.out.trans (hb4.mono HB3.out.size))
  clear hb4
  rw [show bsl (ByteArray.mk #[97, 49]) = [97, 49] from rfl, a1Lex]
  go_wp2
  go_ret
  exact ⟨rfl, HB4.out⟩
end Go.Proofs.YtjjmifidjeaefaaDoor
