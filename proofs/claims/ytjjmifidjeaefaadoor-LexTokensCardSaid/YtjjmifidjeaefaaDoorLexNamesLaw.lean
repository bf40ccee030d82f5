/-
  The law of names and words, walked.
-/
import Derived.Test.YtjjmifidjeaefaaDoorRefD
namespace Go.Proofs.YtjjmifidjeaefaaDoor
open Go.RowKit Go.Shelf
set_option maxRecDepth 100000

theorem Toks.ofRef {w : World} {B : Nat} {v : Value} {L : List Lx.Tok} (h : w.ownsRow B 40 4 v L.length (tokCs L)) : Toks w v L := by
  rcases h.2 with ⟨rfl, h0⟩ | ⟨g, cap, cur, rfl, hB, hh, hn, hm, _⟩
  · exact Or.inl ⟨rfl, List.eq_nil_of_length_eq_zero h0⟩
  · exact Or.inr ⟨g, cap, rfl, hn, hm, (Array.getElem?_eq_some_iff.1 hh).1, fun j hj => h.cellAt j hj⟩
theorem Below.alloc_cell {w : World} {a : Addr} {v : Value} {o : Obj} (h : w.cell? a = some v) : (w.alloc o).cell? a = some v := by
  rw [((Below.refl w.heap.size w).alloc (Nat.le_refl _) o).cell (World.block_lt_of_cell? w a h)]; exact h
theorem int_beq (k n : Nat) : (((k : Nat) : Int) == ((n : Nat) : Int)) = (k == n) := by
  rw [Bool.eq_iff_iff]
  simp
  omega
set_option maxHeartbeats 4000000 in
theorem law_names (s : ByteArray) (w : World) (hG : Glob w) (hs63 : s.size ≤ maxLen) :
    Calls Tryd.prog 7 #[.string s] w fun e w' => e = .returned (.bool true) ∧ Below w.heap.size w w' := by
  unfold maxLen at hs63
  by_cases hs : 100 < s.size
  · go_enter Tryd.func7, Tryd.ntmps7
    go_wp2_with fail
    refine (awake_any w hG).mono ?_
    rintro e w2 ⟨rfl, hb2⟩
    have HB := Lib.hid hb2
    clear hb2
    go_wp2_with fail
    go_ret
    exact ⟨rfl, HB.out⟩
  · go_enter Tryd.func7, Tryd.ntmps7
    go_wp2_with fail
    refine (reftokens_any s w (by omega)).mono ?_
    rintro e w2 ⟨hE, hb2⟩
    have HB := Lib.hid hb2
    clear hb2
    unfold RefE at hE
    generalize hr : Lx.lex (bsl s) = r at hE
    have HR := Lib.hid hr
    clear hr
    match r, hE with
    | .error p, hE =>
      subst hE
      clear hE
      go_wp2_with fail
      have HB1 := Lib.hid (HB.out.alloc HB.out.size (.cells #[.slice none 0 0, .int .i64 p, .int .i64 10] 38))
      have HBL1 := Lib.hid (Blk.new w2 #[.slice none 0 0, .int .i64 p, .int .i64 10] 38 rfl)
      refine (name1_any s _ (hG.keep HB1.out) (by omega)).mono ?_
      rintro e w3 ⟨rfl, hb3⟩
      have HB3 := Lib.hid (HB1.out.trans (hb3.mono HB1.out.size))
      have hbl := HBL1.out.keep hb3
      obtain ⟨hc, hf⟩ := hbl.facts
      have HBL := Lib.hid hbl
      clear hb3 hbl
      rw [HR.out, show kindOf (.error p) (bsl s) = 0 from rfl]
      go_wp2_with fail
      refine (word1_any s _ (hG.keep HB3.out) (by omega)).mono ?_
      rintro e w4 ⟨rfl, hb4⟩
      have HB4 := Lib.hid (HB3.out.trans (hb4.mono HB3.out.size))
      have hbl := HBL.out.keep hb4
      clear hc hf
      obtain ⟨hc, hf⟩ := hbl.facts
      clear hb4 hbl
      rw [HR.out, show kindOf (.error p) (bsl s) = 0 from rfl]
      go_wp2_with fail
      refine (awake_any _ (hG.keep HB4.out)).mono ?_
      rintro e w5 ⟨rfl, hb5⟩
      have HB5 := Lib.hid (HB4.out.trans (hb5.mono HB4.out.size))
      clear hb5
      go_wp2_with fail
      go_ret
      exact ⟨rfl, HB5.out⟩
    | .ok [], hE =>
      obtain ⟨v, rfl, ho⟩ := hE
      rcases Toks.ofRef ho with ⟨rfl, _⟩ | ⟨g, cap, rfl, _⟩
      · clear ho hE
        go_wp2_with fail
        have HB1 := Lib.hid (HB.out.alloc HB.out.size (.cells #[.slice none 0 0, .int .i64 0, .int .i64 0] 38))
        have HBL1 := Lib.hid (Blk.new w2 #[.slice none 0 0, .int .i64 0, .int .i64 0] 38 rfl)
        refine (name1_any s _ (hG.keep HB1.out) (by omega)).mono ?_
        rintro e w3 ⟨rfl, hb3⟩
        have HB3 := Lib.hid (HB1.out.trans (hb3.mono HB1.out.size))
        have hbl := HBL1.out.keep hb3
        obtain ⟨hc, hf⟩ := hbl.facts
        have HBL := Lib.hid hbl
        clear hb3 hbl
        rw [HR.out, show kindOf (.ok []) (bsl s) = 0 from rfl]
        go_wp2_with fail
        refine (word1_any s _ (hG.keep HB3.out) (by omega)).mono ?_
        rintro e w4 ⟨rfl, hb4⟩
        have HB4 := Lib.hid (HB3.out.trans (hb4.mono HB3.out.size))
        have hbl := HBL.out.keep hb4
        clear hc hf
        obtain ⟨hc, hf⟩ := hbl.facts
        clear hb4 hbl
        rw [HR.out, show kindOf (.ok []) (bsl s) = 0 from rfl]
        go_wp2_with fail
        refine (awake_any _ (hG.keep HB4.out)).mono ?_
        rintro e w5 ⟨rfl, hb5⟩
        have HB5 := Lib.hid (HB4.out.trans (hb5.mono HB4.out.size))
        clear hb5
        go_wp2_with fail
        go_ret
        exact ⟨rfl, HB5.out⟩
      · clear ho hE
        simp only [List.length_nil]
        go_wp2_with fail
        have HB1 := Lib.hid (HB.out.alloc HB.out.size (.cells #[.slice (some ⟨g, 0, none⟩) 0 cap, .int .i64 0, .int .i64 0] 38))
        have HBL1 := Lib.hid (Blk.new w2 #[.slice (some ⟨g, 0, none⟩) 0 cap, .int .i64 0, .int .i64 0] 38 rfl)
        refine (name1_any s _ (hG.keep HB1.out) (by omega)).mono ?_
        rintro e w3 ⟨rfl, hb3⟩
        have HB3 := Lib.hid (HB1.out.trans (hb3.mono HB1.out.size))
        have hbl := HBL1.out.keep hb3
        obtain ⟨hc, hf⟩ := hbl.facts
        have HBL := Lib.hid hbl
        clear hb3 hbl
        rw [HR.out, show kindOf (.ok []) (bsl s) = 0 from rfl]
        go_wp2_with fail
        refine (word1_any s _ (hG.keep HB3.out) (by omega)).mono ?_
        rintro e w4 ⟨rfl, hb4⟩
        have HB4 := Lib.hid (HB3.out.trans (hb4.mono HB3.out.size))
        have hbl := HBL.out.keep hb4
        clear hc hf
        obtain ⟨hc, hf⟩ := hbl.facts
        clear hb4 hbl
        rw [HR.out, show kindOf (.ok []) (bsl s) = 0 from rfl]
        go_wp2_with fail
        refine (awake_any _ (hG.keep HB4.out)).mono ?_
        rintro e w5 ⟨rfl, hb5⟩
        have HB5 := Lib.hid (HB4.out.trans (hb5.mono HB4.out.size))
        clear hb5
        go_wp2_with fail
        go_ret
        exact ⟨rfl, HB5.out⟩
    | .ok [t], hE =>
      obtain ⟨v, rfl, ho⟩ := hE
      rcases Toks.ofRef ho with ⟨_, h⟩ | ⟨g, cap, rfl, hcap, hmax, hg, hcells⟩
      · cases h
      clear ho hE
      obtain ⟨kind, txt, num, pos⟩ := t
      have c0 : w2.cell? ⟨g, 0, none⟩ = some (.int .i64 kind) := by rw [hcells 0 (Nat.zero_lt_succ _)]; rfl
      have c1 : w2.cell? ⟨g, 1, none⟩ = some (.string ⟨txt.toArray⟩) := by rw [hcells 1 (Nat.succ_lt_succ (Nat.zero_lt_succ _))]; rfl
      clear hcells
      simp only [List.length_nil, List.length_cons] at hcap ⊢
      have hcmp := bytes_ne (a := txt) (s := s)
      by_cases hts : txt = bsl s
      · have HT := Lib.hid hts
        have HKI := Lib.hid (show kindOf (.ok [⟨kind, txt, num, pos⟩]) (bsl s) = kind by simp only [kindOf, if_pos hts])
        rw [decide_eq_true hts] at hcmp
        clear hts
        go_wp2_with fail
        by_cases h1 : kind = 1
        · subst h1
          have HB1 := Lib.hid (HB.out.alloc HB.out.size (.cells #[.slice (some ⟨g, 0, none⟩) 1 cap, .int .i64 0, .int .i64 0] 38))
          have HBL1 := Lib.hid (Blk.new w2 #[.slice (some ⟨g, 0, none⟩) 1 cap, .int .i64 0, .int .i64 0] 38 rfl)
          have HG1 := Lib.hid (show g < (w2.alloc (.cells #[.slice (some ⟨g, 0, none⟩) 1 cap, .int .i64 0, .int .i64 0] 38)).heap.size by simp; omega)
          have HC0 := Lib.hid c0
          clear c0 c1
          refine (name1_any s _ (hG.keep HB1.out) (by omega)).mono ?_
          rintro e w3 ⟨rfl, hb3⟩
          have HB3 := Lib.hid (HB1.out.trans (hb3.mono HB1.out.size))
          have hbl := HBL1.out.keep hb3
          obtain ⟨hc, hf⟩ := hbl.facts
          have HBL := Lib.hid hbl
          have c0 : w3.cell? ⟨g, 0, none⟩ = some (.int .i64 1) := (hb3.cell (p := ⟨g, 0, none⟩) HG1.out).trans (Below.alloc_cell HC0.out)
          have HG3 := Lib.hid (Nat.lt_of_lt_of_le HG1.out hb3.size)
          have HC3 := Lib.hid c0
          clear hb3 hbl
          rw [HR.out, HKI.out]
          go_wp2_with fail
          refine (word1_any s _ (hG.keep HB3.out) (by omega)).mono ?_
          rintro e w4 ⟨rfl, hb4⟩
          have HB4 := Lib.hid (HB3.out.trans (hb4.mono HB3.out.size))
          have hbl := HBL.out.keep hb4
          clear hc hf
          obtain ⟨hc, hf⟩ := hbl.facts
          clear c0
          have c0 : w4.cell? ⟨g, 0, none⟩ = some (.int .i64 1) := (hb4.cell (p := ⟨g, 0, none⟩) HG3.out).trans HC3.out
          clear hb4 hbl
          rw [HR.out, HKI.out]
          go_wp2_with fail
          refine (awake_any _ (hG.keep HB4.out)).mono ?_
          rintro e w5 ⟨rfl, hb5⟩
          have HB5 := Lib.hid (HB4.out.trans (hb5.mono HB4.out.size))
          clear hb5
          go_wp2_with fail
          go_ret
          exact ⟨rfl, HB5.out⟩
        have e1 : (((kind : Nat) : Int) == 1) = false := by rw [beq_eq_false_iff_ne]; omega
        have E1 := Lib.hid (show (kind == 1) = false by rw [beq_eq_false_iff_ne]; exact h1)
        by_cases h2 : kind = 2
        · subst h2
          clear h1
          have HB1 := Lib.hid (HB.out.alloc HB.out.size (.cells #[.slice (some ⟨g, 0, none⟩) 1 cap, .int .i64 0, .int .i64 0] 38))
          have HBL1 := Lib.hid (Blk.new w2 #[.slice (some ⟨g, 0, none⟩) 1 cap, .int .i64 0, .int .i64 0] 38 rfl)
          have HG1 := Lib.hid (show g < (w2.alloc (.cells #[.slice (some ⟨g, 0, none⟩) 1 cap, .int .i64 0, .int .i64 0] 38)).heap.size by simp; omega)
          have HC0 := Lib.hid c0
          clear c0 c1
          refine (name1_any s _ (hG.keep HB1.out) (by omega)).mono ?_
          rintro e w3 ⟨rfl, hb3⟩
          have HB3 := Lib.hid (HB1.out.trans (hb3.mono HB1.out.size))
          have hbl := HBL1.out.keep hb3
          obtain ⟨hc, hf⟩ := hbl.facts
          have HBL := Lib.hid hbl
          have c0 : w3.cell? ⟨g, 0, none⟩ = some (.int .i64 2) := (hb3.cell (p := ⟨g, 0, none⟩) HG1.out).trans (Below.alloc_cell HC0.out)
          have HG3 := Lib.hid (Nat.lt_of_lt_of_le HG1.out hb3.size)
          have HC3 := Lib.hid c0
          clear hb3 hbl
          rw [HR.out, HKI.out]
          go_wp2_with fail
          refine (word1_any s _ (hG.keep HB3.out) (by omega)).mono ?_
          rintro e w4 ⟨rfl, hb4⟩
          have HB4 := Lib.hid (HB3.out.trans (hb4.mono HB3.out.size))
          have hbl := HBL.out.keep hb4
          clear hc hf
          obtain ⟨hc, hf⟩ := hbl.facts
          clear c0
          have c0 : w4.cell? ⟨g, 0, none⟩ = some (.int .i64 2) := (hb4.cell (p := ⟨g, 0, none⟩) HG3.out).trans HC3.out
          clear hb4 hbl
          rw [HR.out, HKI.out]
          go_wp2_with fail
          refine (awake_any _ (hG.keep HB4.out)).mono ?_
          rintro e w5 ⟨rfl, hb5⟩
          have HB5 := Lib.hid (HB4.out.trans (hb5.mono HB4.out.size))
          clear hb5
          go_wp2_with fail
          go_ret
          exact ⟨rfl, HB5.out⟩
        have e2 : (((kind : Nat) : Int) == 2) = false := by rw [beq_eq_false_iff_ne]; omega
        have E2 := Lib.hid (show (kind == 2) = false by rw [beq_eq_false_iff_ne]; exact h2)
        clear h1 h2
        have HB1 := Lib.hid (HB.out.alloc HB.out.size (.cells #[.slice (some ⟨g, 0, none⟩) 1 cap, .int .i64 0, .int .i64 0] 38))
        have HBL1 := Lib.hid (Blk.new w2 #[.slice (some ⟨g, 0, none⟩) 1 cap, .int .i64 0, .int .i64 0] 38 rfl)
        have HG1 := Lib.hid (show g < (w2.alloc (.cells #[.slice (some ⟨g, 0, none⟩) 1 cap, .int .i64 0, .int .i64 0] 38)).heap.size by simp; omega)
        have HC0 := Lib.hid c0
        clear c0 c1
        refine (name1_any s _ (hG.keep HB1.out) (by omega)).mono ?_
        rintro e w3 ⟨rfl, hb3⟩
        have HB3 := Lib.hid (HB1.out.trans (hb3.mono HB1.out.size))
        have hbl := HBL1.out.keep hb3
        obtain ⟨hc, hf⟩ := hbl.facts
        have HBL := Lib.hid hbl
        have c0 : w3.cell? ⟨g, 0, none⟩ = some (.int .i64 kind) := (hb3.cell (p := ⟨g, 0, none⟩) HG1.out).trans (Below.alloc_cell HC0.out)
        have HG3 := Lib.hid (Nat.lt_of_lt_of_le HG1.out hb3.size)
        have HC3 := Lib.hid c0
        clear hb3 hbl
        rw [HR.out, HKI.out, E1.out]
        go_wp2_with fail
        refine (word1_any s _ (hG.keep HB3.out) (by omega)).mono ?_
        rintro e w4 ⟨rfl, hb4⟩
        have HB4 := Lib.hid (HB3.out.trans (hb4.mono HB3.out.size))
        have hbl := HBL.out.keep hb4
        clear hc hf
        obtain ⟨hc, hf⟩ := hbl.facts
        clear c0
        have c0 : w4.cell? ⟨g, 0, none⟩ = some (.int .i64 kind) := (hb4.cell (p := ⟨g, 0, none⟩) HG3.out).trans HC3.out
        clear hb4 hbl
        rw [HR.out, HKI.out, E2.out]
        go_wp2_with fail
        refine (awake_any _ (hG.keep HB4.out)).mono ?_
        rintro e w5 ⟨rfl, hb5⟩
        have HB5 := Lib.hid (HB4.out.trans (hb5.mono HB4.out.size))
        clear hb5
        go_wp2_with fail
        go_ret
        exact ⟨rfl, HB5.out⟩
      · have HT := Lib.hid hts
        have HKI := Lib.hid (show kindOf (.ok [⟨kind, txt, num, pos⟩]) (bsl s) = 0 by simp only [kindOf, if_neg hts])
        rw [decide_eq_false hts] at hcmp
        clear hts
        go_wp2_with fail
        clear c0 c1
        have HB1 := Lib.hid (HB.out.alloc HB.out.size (.cells #[.slice (some ⟨g, 0, none⟩) 1 cap, .int .i64 0, .int .i64 0] 38))
        have HBL1 := Lib.hid (Blk.new w2 #[.slice (some ⟨g, 0, none⟩) 1 cap, .int .i64 0, .int .i64 0] 38 rfl)
        refine (name1_any s _ (hG.keep HB1.out) (by omega)).mono ?_
        rintro e w3 ⟨rfl, hb3⟩
        have HB3 := Lib.hid (HB1.out.trans (hb3.mono HB1.out.size))
        have hbl := HBL1.out.keep hb3
        obtain ⟨hc, hf⟩ := hbl.facts
        have HBL := Lib.hid hbl
        clear hb3 hbl
        rw [HR.out, HKI.out]
        go_wp2_with fail
        refine (word1_any s _ (hG.keep HB3.out) (by omega)).mono ?_
        rintro e w4 ⟨rfl, hb4⟩
        have HB4 := Lib.hid (HB3.out.trans (hb4.mono HB3.out.size))
        have hbl := HBL.out.keep hb4
        clear hc hf
        obtain ⟨hc, hf⟩ := hbl.facts
        clear hb4 hbl
        rw [HR.out, HKI.out]
        go_wp2_with fail
        refine (awake_any _ (hG.keep HB4.out)).mono ?_
        rintro e w5 ⟨rfl, hb5⟩
        have HB5 := Lib.hid (HB4.out.trans (hb5.mono HB4.out.size))
        clear hb5
        go_wp2_with fail
        go_ret
        exact ⟨rfl, HB5.out⟩
    | .ok (t :: u :: L), hE =>
      obtain ⟨v, rfl, ho⟩ := hE
      rcases Toks.ofRef ho with ⟨_, h⟩ | ⟨g, cap, rfl, hcap, hmax, hg, hcells⟩
      · cases h
      clear ho hcells hE
      simp only [List.length_cons]
      have hl : ((((L.length + 1 + 1 : Nat) : Int)) == 1) = false := by rw [beq_eq_false_iff_ne]; omega
      go_wp2_with fail
      have HB1 := Lib.hid (HB.out.alloc HB.out.size (.cells #[.slice (some ⟨g, 0, none⟩) (L.length + 1 + 1) cap, .int .i64 0, .int .i64 0] 38))
      have HBL1 := Lib.hid (Blk.new w2 #[.slice (some ⟨g, 0, none⟩) (L.length + 1 + 1) cap, .int .i64 0, .int .i64 0] 38 rfl)
      refine (name1_any s _ (hG.keep HB1.out) (by omega)).mono ?_
      rintro e w3 ⟨rfl, hb3⟩
      have HB3 := Lib.hid (HB1.out.trans (hb3.mono HB1.out.size))
      have hbl := HBL1.out.keep hb3
      obtain ⟨hc, hf⟩ := hbl.facts
      have HBL := Lib.hid hbl
      clear hb3 hbl
      rw [HR.out, show kindOf (.ok (t :: u :: L)) (bsl s) = 0 from rfl]
      go_wp2_with fail
      refine (word1_any s _ (hG.keep HB3.out) (by omega)).mono ?_
      rintro e w4 ⟨rfl, hb4⟩
      have HB4 := Lib.hid (HB3.out.trans (hb4.mono HB3.out.size))
      have hbl := HBL.out.keep hb4
      clear hc hf
      obtain ⟨hc, hf⟩ := hbl.facts
      clear hb4 hbl
      rw [HR.out, show kindOf (.ok (t :: u :: L)) (bsl s) = 0 from rfl]
      go_wp2_with fail
      refine (awake_any _ (hG.keep HB4.out)).mono ?_
      rintro e w5 ⟨rfl, hb5⟩
      have HB5 := Lib.hid (HB4.out.trans (hb5.mono HB4.out.size))
      clear hb5
      go_wp2_with fail
      go_ret
      exact ⟨rfl, HB5.out⟩
end Go.Proofs.YtjjmifidjeaefaaDoor
