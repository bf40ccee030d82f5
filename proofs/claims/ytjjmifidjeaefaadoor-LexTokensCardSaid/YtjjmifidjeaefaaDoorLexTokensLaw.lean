/-
  The law of words, walked.
-/
import Derived.Test.YtjjmifidjeaefaaDoorLexNamesLaw
namespace Go.Proofs.YtjjmifidjeaefaaDoor
open Go.RowKit Go.Shelf
set_option maxRecDepth 100000

theorem tokCs_at' : ∀ (T : List Lx.Tok) (m j : Nat) (t : Lx.Tok), T[m]? = some t → j < 4 → (tokCs T)[m * 4 + j]? = (tokC t)[j]?
  | [], m, j, t, h, _ => by simp at h
  | u :: T, 0, j, t, h, hj => by
    simp at h
    subst h
    rw [tokCs, List.flatMap_cons, List.getElem?_append_left (by simp [tokC]; omega), Nat.zero_mul, Nat.zero_add]
  | u :: T, m + 1, j, t, h, hj => by
    rw [tokCs, List.flatMap_cons, List.getElem?_append_right (by simp [tokC]; omega)]
    have := tokCs_at' T m j t (by simpa using h) hj
    rw [← this, tokCs]
    congr 1
    simp [tokC]; omega
theorem Toks.slice' {w : World} {v : Value} {T : List Lx.Tok} (h : Toks w v T) : ∃ ao cap, v = .slice ao T.length cap ∧ T.length ≤ cap ∧ cap ≤ maxLen ∧
    ∀ (m : Nat) (t : Lx.Tok), T[m]? = some t → ∃ g, ao = some ⟨g, 0, none⟩ ∧ g < w.heap.size ∧ ∀ j, j < 4 → w.cell? ⟨g, m * 4 + j, none⟩ = (tokC t)[j]? := by
  rcases h with ⟨rfl, rfl⟩ | ⟨g, cap, rfl, h2, h3, h4, h5⟩
  · exact ⟨none, 0, rfl, Nat.le_refl _, Nat.zero_le _, fun m t h => by simp at h⟩
  · refine ⟨_, _, rfl, h2, h3, fun m t ht => ⟨g, rfl, h4, fun j hj => ?_⟩⟩
    have hm : m < T.length := (List.getElem?_eq_some_iff.1 ht).1
    rw [h5 _ (by omega), tokCs_at' T m j t ht hj]
theorem lex_len (l : List UInt8) : ∀ L, Lx.lex l = .ok L → L.length ≤ l.length := by
  have go : ∀ (f : Nat) (acc : List Lx.Tok) (pos : Nat) (r : List UInt8) (L : List Lx.Tok), Lx.lexGo f acc pos r = .ok L → L.length ≤ acc.length + r.length := by
    intro f
    induction f with
    | zero => intro acc pos r L h; simp only [Lx.lexGo] at h; cases h; omega
    | succ f ih =>
      intro acc pos r L h
      simp only [Lx.lexGo] at h
      split at h
      · cases h; omega
      · rename_i c r' hd
        split at h
        · cases h
        · rename_i x hx
          have h1 := ih _ _ _ _ h
          have h2 := Lx.tok1_pos hx
          have h3 := congrArg List.length hd
          rw [List.length_drop] at h3
          rw [List.length_append, List.length_singleton, List.length_drop] at h1
          omega
  intro L h
  have := go _ _ _ _ _ h
  simpa using this
set_option maxHeartbeats 8000000 in
theorem law_tokens (s : ByteArray) (w : World) (hG : Glob w) (hs63 : s.size ≤ maxLen) :
    Calls Tryd.prog 6 #[.string s] w fun e w' => e = .returned (.bool true) ∧ Below w.heap.size w w' := by
  by_cases hbig : 4000 < s.size
  · go_enter Tryd.func6, Tryd.ntmps6
    go_wp2_with fail
    refine (tokens_long s w hbig hs63).mono ?_
    rintro e w2 ⟨rfl, rfl⟩
    go_wp2_with fail
    refine (reftokens_long s w hbig hs63).mono ?_
    rintro e w2 ⟨rfl, hb2⟩
    have HB2 := Lib.hid (hb2.alloc hb2.size (.cells #[.slice none 0 0, .int .i64 0, .int .i64 2] 38))
    clear hb2
    go_wp2_with fail
    go_loop [7] (fun i => i = .int .i64 0) (fun i => 0)
    case atStart => rfl
    case round =>
      obtain rfl := hrel
      go_wp2_with fail
      refine (awake_any _ (hG.keep HB2.out)).mono ?_
      rintro e w6 ⟨rfl, hb6⟩
      have HB6 := Lib.hid (Below.trans HB2.out (hb6.mono HB2.out.size))
      clear hb6
      go_wp2_with fail
      go_ret
      exact ⟨rfl, HB6.out⟩
  · have hs : s.size ≤ 4000 := by omega
    have HLEN := Lib.hid (lex_len (bsl s))
    go_enter Tryd.func6, Tryd.ntmps6
    go_wp2_with fail
    refine (tokens_any s w hG hs).mono ?_
    rintro e w2 ⟨hE, hb2⟩
    have HB2 := Lib.hid hb2
    clear hb2
    unfold TokensE at hE
    generalize hr : Lx.lex (bsl s) = r at hE HLEN
    have HR := Lib.hid hr
    clear hr
    cases r with
    | error p =>
      simp only at hE
      subst hE
      go_wp2_with fail
      refine (reftokens_any s w2 hs).mono ?_
      rintro e w3 ⟨hE, hb3⟩
      rw [HR.out] at hE
      unfold RefE at hE
      simp only at hE
      subst hE
      have hb := HB2.out.trans (hb3.mono HB2.out.size)
      have HB3 := Lib.hid (hb.alloc hb.size (.cells #[.slice none 0 0, .int .i64 p, .int .i64 10] 38))
      clear hb3 hb
      go_wp2_with fail
      go_loop [7] (fun i => i = .int .i64 0) (fun i => 0)
      case atStart => rfl
      case round =>
        obtain rfl := hrel
        go_wp2_with fail
        refine (awake_any _ (hG.keep HB3.out)).mono ?_
        rintro e w6 ⟨rfl, hb6⟩
        have HB6 := Lib.hid (Below.trans HB3.out (hb6.mono HB3.out.size))
        clear hb6
        go_wp2_with fail
        go_ret
        exact ⟨rfl, HB6.out⟩
    | ok L =>
      have hlen := HLEN.out L rfl
      rw [bsl_length] at hlen
      clear HLEN
      obtain ⟨v, rfl, ho⟩ := hE
      obtain ⟨ao1, cap1, rfl, hc1, hm1, hT1⟩ := (Toks.of ho).slice'
      have HT1 := Lib.hid hT1
      clear hT1 ho
      go_wp2_with fail
      refine (reftokens_any s w2 hs).mono ?_
      rintro e w3 ⟨hE, hb3⟩
      rw [HR.out] at hE
      unfold RefE at hE
      simp only at hE
      obtain ⟨v, rfl, ho⟩ := hE
      obtain ⟨ao2, cap2, rfl, hc2, hm2, hT2⟩ := (Toks.ofRef ho).slice'
      have HT2 := Lib.hid hT2
      have hb := HB2.out.trans (hb3.mono HB2.out.size)
      have HB3 := Lib.hid (hb.alloc hb.size (.cells #[.slice ao2 L.length cap2, .int .i64 0, .int .i64 0] 38))
      have HBB := Lib.hid (hb3.alloc hb3.size (.cells #[.slice ao2 L.length cap2, .int .i64 0, .int .i64 0] 38))
      have HK := Lib.hid (Blk.new w3 #[.slice ao2 L.length cap2, .int .i64 0, .int .i64 0] 38 rfl)
      have HBC := Lib.hid ((Below.refl w3.heap.size w3).alloc (Nat.le_refl _) (.cells #[.slice ao2 L.length cap2, .int .i64 0, .int .i64 0] 38))
      clear hb3 hb hT2 ho
      go_wp2_with fail
      generalize hR : w3.heap.size = R at HK
      generalize hWA : w3.alloc (.cells #[.slice ao2 L.length cap2, .int .i64 0, .int .i64 0] 38) = WA at HB3 HBB HK HBC ⊢
      go_loopw [7] (fun i W => ∃ m : Nat, i = .int .i64 m ∧ m ≤ L.length ∧ Ext WA W) (fun i _ => L.length - (intOf i).toNat)
      case atStart => exact ⟨0, rfl, Nat.zero_le _, Ext.refl _⟩
      case round =>
        obtain ⟨m, rfl, hm, hX⟩ := hrel
        have HX := Lib.hid hX
        clear hX
        by_cases hmL : m < L.length
        · obtain ⟨g1, rfl, hg1, hgc1⟩ := HT1.out m _ (List.getElem?_eq_getElem hmL)
          obtain ⟨g2, rfl, hg2, hgc2⟩ := HT2.out m _ (List.getElem?_eq_getElem hmL)
          generalize L[m]'hmL = tk at hgc1 hgc2
          obtain ⟨kind, txt, num, tpos⟩ := tk
          have HF := Lib.hid (show ∀ W, Ext wr W → W.cell? ⟨g1, m * 4, none⟩ = some (.int .i64 kind) ∧ W.cell? ⟨g1, m * 4 + 1, none⟩ = some (.string ⟨txt.toArray⟩) ∧ W.cell? ⟨g1, m * 4 + 2, none⟩ = some (.int .i64 num) ∧ W.cell? ⟨g1, m * 4 + 3, none⟩ = some (.int .i64 tpos) ∧
              W.cell? ⟨g2, m * 4, none⟩ = some (.int .i64 kind) ∧ W.cell? ⟨g2, m * 4 + 1, none⟩ = some (.string ⟨txt.toArray⟩) ∧ W.cell? ⟨g2, m * 4 + 2, none⟩ = some (.int .i64 num) ∧ W.cell? ⟨g2, m * 4 + 3, none⟩ = some (.int .i64 tpos) ∧
              W.cell? ⟨R, 0, none⟩ = some (.slice (some ⟨g2, 0, none⟩) L.length cap2) from
            fun W hW0 => by
              have hW := HX.out.trans hW0
              have a1 : ∀ j, j < 4 → W.cell? ⟨g1, m * 4 + j, none⟩ = (tokC ⟨kind, txt, num, tpos⟩)[j]? := fun j hj => by
                rw [hW.cell (p := ⟨g1, m * 4 + j, none⟩) (Nat.lt_of_lt_of_le hg1 HBB.out.size), HBB.out.cell (p := ⟨g1, m * 4 + j, none⟩) hg1]; exact hgc1 j hj
              have a2 : ∀ j, j < 4 → W.cell? ⟨g2, m * 4 + j, none⟩ = (tokC ⟨kind, txt, num, tpos⟩)[j]? := fun j hj => by
                rw [hW.cell (p := ⟨g2, m * 4 + j, none⟩) (Nat.lt_of_lt_of_le hg2 HBC.out.size), HBC.out.cell (p := ⟨g2, m * 4 + j, none⟩) hg2]; exact hgc2 j hj
              exact ⟨a1 0 (by decide), a1 1 (by decide), a1 2 (by decide), a1 3 (by decide), a2 0 (by decide), a2 1 (by decide), a2 2 (by decide), a2 3 (by decide), (HK.out.keep hW).cell 0⟩)
          clear hgc1 hgc2
          go_wp2_with fail
          refine wp_par 54 (fun
              | 0 => fun v _ => v = .slice (some ⟨g1, 0, none⟩) L.length cap1
              | 1 => fun v _ => v = .int .i64 m
              | 2 => fun v _ => v = .pointer (some ⟨g1, m * 4, none⟩)
              | 3 => fun v _ => v = .pointer (some ⟨g1, m * 4, none⟩)
              | 4 => fun v _ => v = .int .i64 kind
              | 5 => fun v _ => v = .pointer (some ⟨R, 0, none⟩)
              | 6 => fun v _ => v = .slice (some ⟨g2, 0, none⟩) L.length cap2
              | 7 => fun v _ => v = .int .i64 m
              | 8 => fun v _ => v = .pointer (some ⟨g2, m * 4, none⟩)
              | 9 => fun v _ => v = .pointer (some ⟨g2, m * 4, none⟩)
              | 10 => fun v _ => v = .int .i64 kind
              | 11 => fun v _ => v = .bool false
              | 12 => fun v _ => v = .bool false
              | 13 => fun v _ => v = .slice (some ⟨g1, 0, none⟩) L.length cap1
              | 14 => fun v _ => v = .int .i64 m
              | 15 => fun v _ => v = .pointer (some ⟨g1, m * 4, none⟩)
              | 16 => fun v _ => v = .pointer (some ⟨g1, m * 4 + 1, none⟩)
              | 17 => fun v _ => v = .string ⟨txt.toArray⟩
              | 18 => fun v _ => v = .pointer (some ⟨R, 0, none⟩)
              | 19 => fun v _ => v = .slice (some ⟨g2, 0, none⟩) L.length cap2
              | 20 => fun v _ => v = .int .i64 m
              | 21 => fun v _ => v = .pointer (some ⟨g2, m * 4, none⟩)
              | 22 => fun v _ => v = .pointer (some ⟨g2, m * 4 + 1, none⟩)
              | 23 => fun v _ => v = .string ⟨txt.toArray⟩
              | 24 => fun v _ => v = .bool false
              | 25 => fun v _ => v = .bool false
              | 26 => fun v _ => v = .bool false
              | 27 => fun v _ => v = .slice (some ⟨g1, 0, none⟩) L.length cap1
              | 28 => fun v _ => v = .int .i64 m
              | 29 => fun v _ => v = .pointer (some ⟨g1, m * 4, none⟩)
              | 30 => fun v _ => v = .pointer (some ⟨g1, m * 4 + 2, none⟩)
              | 31 => fun v _ => v = .int .i64 num
              | 32 => fun v _ => v = .pointer (some ⟨R, 0, none⟩)
              | 33 => fun v _ => v = .slice (some ⟨g2, 0, none⟩) L.length cap2
              | 34 => fun v _ => v = .int .i64 m
              | 35 => fun v _ => v = .pointer (some ⟨g2, m * 4, none⟩)
              | 36 => fun v _ => v = .pointer (some ⟨g2, m * 4 + 2, none⟩)
              | 37 => fun v _ => v = .int .i64 num
              | 38 => fun v _ => v = .bool false
              | 39 => fun v _ => v = .bool false
              | 40 => fun v _ => v = .bool false
              | 41 => fun v _ => v = .slice (some ⟨g1, 0, none⟩) L.length cap1
              | 42 => fun v _ => v = .int .i64 m
              | 43 => fun v _ => v = .pointer (some ⟨g1, m * 4, none⟩)
              | 44 => fun v _ => v = .pointer (some ⟨g1, m * 4 + 3, none⟩)
              | 45 => fun v _ => v = .int .i64 tpos
              | 46 => fun v _ => v = .pointer (some ⟨R, 0, none⟩)
              | 47 => fun v _ => v = .slice (some ⟨g2, 0, none⟩) L.length cap2
              | 48 => fun v _ => v = .int .i64 m
              | 49 => fun v _ => v = .pointer (some ⟨g2, m * 4, none⟩)
              | 50 => fun v _ => v = .pointer (some ⟨g2, m * 4 + 3, none⟩)
              | 51 => fun v _ => v = .int .i64 tpos
              | 52 => fun v _ => v = .bool false
              | 53 => fun v _ => v = .bool false
              | _ => fun _ _ => True) (by kernel_rfl) (by kernel_rfl) (by kernel_rfl) ?_ ?_
          · simp (maxSteps := 20000000) only [List.take_succ_cons, List.take_zero, ParAll, Act.put, List.setIfInBounds_toArray, List.set_cons_succ, List.set_cons_zero]
            refine ⟨?_, ?_, ?_, ?_, ?_, ?_, ?_, ?_, ?_, ?_, ?_, ?_, ?_, ?_, ?_, ?_, ?_, ?_, ?_, ?_, ?_, ?_, ?_, ?_, ?_, ?_, ?_, ?_, ?_, ?_, ?_, ?_, ?_, ?_, ?_, ?_, ?_, ?_, ?_, ?_, ?_, ?_, ?_, ?_, ?_, ?_, ?_, ?_, ?_, ?_, ?_, ?_, ?_, ?_, trivial⟩
            · intro vals W hx hd
              have hW := HF.out W hx
              simp [PDeps, pdeps, Region.binds] at hd
              first
                | refine ParOb.plain rfl ?_
                | refine ParOb.wanted (by simp [Region.wanted, yielded, hd]) ?_
              go_simp
              exact ParPost.same fun _ _ => rfl
            · intro vals W hx hd
              have hW := HF.out W hx
              simp [PDeps, pdeps, Region.binds] at hd
              first
                | refine ParOb.plain rfl ?_
                | refine ParOb.wanted (by simp [Region.wanted, yielded, hd]) ?_
              go_simp
              exact ParPost.same fun _ _ => rfl
            · intro vals W hx hd
              have hW := HF.out W hx
              simp [PDeps, pdeps, Region.binds] at hd
              first
                | refine ParOb.plain rfl ?_
                | refine ParOb.wanted (by simp [Region.wanted, yielded, hd]) ?_
              go_simp
              exact ParPost.same fun _ _ => rfl
            · intro vals W hx hd
              have hW := HF.out W hx
              simp [PDeps, pdeps, Region.binds] at hd
              first
                | refine ParOb.plain rfl ?_
                | refine ParOb.wanted (by simp [Region.wanted, yielded, hd]) ?_
              go_simp
              exact ParPost.same fun _ _ => rfl
            · intro vals W hx hd
              have hW := HF.out W hx
              simp [PDeps, pdeps, Region.binds] at hd
              first
                | refine ParOb.plain rfl ?_
                | refine ParOb.wanted (by simp [Region.wanted, yielded, hd]) ?_
              go_simp
              exact ParPost.same fun _ _ => rfl
            · intro vals W hx hd
              have hW := HF.out W hx
              simp [PDeps, pdeps, Region.binds] at hd
              first
                | refine ParOb.plain rfl ?_
                | refine ParOb.wanted (by simp [Region.wanted, yielded, hd]) ?_
              go_simp
              exact ParPost.same fun _ _ => rfl
            · intro vals W hx hd
              have hW := HF.out W hx
              simp [PDeps, pdeps, Region.binds] at hd
              first
                | refine ParOb.plain rfl ?_
                | refine ParOb.wanted (by simp [Region.wanted, yielded, hd]) ?_
              go_simp
              exact ParPost.same fun _ _ => rfl
            · intro vals W hx hd
              have hW := HF.out W hx
              simp [PDeps, pdeps, Region.binds] at hd
              first
                | refine ParOb.plain rfl ?_
                | refine ParOb.wanted (by simp [Region.wanted, yielded, hd]) ?_
              go_simp
              exact ParPost.same fun _ _ => rfl
            · intro vals W hx hd
              have hW := HF.out W hx
              simp [PDeps, pdeps, Region.binds] at hd
              first
                | refine ParOb.plain rfl ?_
                | refine ParOb.wanted (by simp [Region.wanted, yielded, hd]) ?_
              go_simp
              exact ParPost.same fun _ _ => rfl
            · intro vals W hx hd
              have hW := HF.out W hx
              simp [PDeps, pdeps, Region.binds] at hd
              first
                | refine ParOb.plain rfl ?_
                | refine ParOb.wanted (by simp [Region.wanted, yielded, hd]) ?_
              go_simp
              exact ParPost.same fun _ _ => rfl
            · intro vals W hx hd
              have hW := HF.out W hx
              simp [PDeps, pdeps, Region.binds] at hd
              first
                | refine ParOb.plain rfl ?_
                | refine ParOb.wanted (by simp [Region.wanted, yielded, hd]) ?_
              go_simp
              exact ParPost.same fun _ _ => rfl
            · intro vals W hx hd
              have hW := HF.out W hx
              simp [PDeps, pdeps, Region.binds] at hd
              first
                | refine ParOb.plain rfl ?_
                | refine ParOb.wanted (by simp [Region.wanted, yielded, hd]) ?_
              go_simp
              exact ParPost.same fun _ _ => rfl
            · intro vals W hx hd
              have hW := HF.out W hx
              simp [PDeps, pdeps, Region.binds] at hd
              first
                | refine ParOb.plain rfl ?_
                | refine ParOb.wanted (by simp [Region.wanted, yielded, hd]) ?_
              go_simp
              exact ParPost.same fun _ _ => rfl
            · intro vals W hx hd
              have hW := HF.out W hx
              simp [PDeps, pdeps, Region.binds] at hd
              first
                | refine ParOb.plain rfl ?_
                | refine ParOb.wanted (by simp [Region.wanted, yielded, hd]) ?_
              go_simp
              exact ParPost.same fun _ _ => rfl
            · intro vals W hx hd
              have hW := HF.out W hx
              simp [PDeps, pdeps, Region.binds] at hd
              first
                | refine ParOb.plain rfl ?_
                | refine ParOb.wanted (by simp [Region.wanted, yielded, hd]) ?_
              go_simp
              exact ParPost.same fun _ _ => rfl
            · intro vals W hx hd
              have hW := HF.out W hx
              simp [PDeps, pdeps, Region.binds] at hd
              first
                | refine ParOb.plain rfl ?_
                | refine ParOb.wanted (by simp [Region.wanted, yielded, hd]) ?_
              go_simp
              exact ParPost.same fun _ _ => rfl
            · intro vals W hx hd
              have hW := HF.out W hx
              simp [PDeps, pdeps, Region.binds] at hd
              first
                | refine ParOb.plain rfl ?_
                | refine ParOb.wanted (by simp [Region.wanted, yielded, hd]) ?_
              go_simp
              exact ParPost.same fun _ _ => rfl
            · intro vals W hx hd
              have hW := HF.out W hx
              simp [PDeps, pdeps, Region.binds] at hd
              first
                | refine ParOb.plain rfl ?_
                | refine ParOb.wanted (by simp [Region.wanted, yielded, hd]) ?_
              go_simp
              exact ParPost.same fun _ _ => rfl
            · intro vals W hx hd
              have hW := HF.out W hx
              simp [PDeps, pdeps, Region.binds] at hd
              first
                | refine ParOb.plain rfl ?_
                | refine ParOb.wanted (by simp [Region.wanted, yielded, hd]) ?_
              go_simp
              exact ParPost.same fun _ _ => rfl
            · intro vals W hx hd
              have hW := HF.out W hx
              simp [PDeps, pdeps, Region.binds] at hd
              first
                | refine ParOb.plain rfl ?_
                | refine ParOb.wanted (by simp [Region.wanted, yielded, hd]) ?_
              go_simp
              exact ParPost.same fun _ _ => rfl
            · intro vals W hx hd
              have hW := HF.out W hx
              simp [PDeps, pdeps, Region.binds] at hd
              first
                | refine ParOb.plain rfl ?_
                | refine ParOb.wanted (by simp [Region.wanted, yielded, hd]) ?_
              go_simp
              exact ParPost.same fun _ _ => rfl
            · intro vals W hx hd
              have hW := HF.out W hx
              simp [PDeps, pdeps, Region.binds] at hd
              first
                | refine ParOb.plain rfl ?_
                | refine ParOb.wanted (by simp [Region.wanted, yielded, hd]) ?_
              go_simp
              exact ParPost.same fun _ _ => rfl
            · intro vals W hx hd
              have hW := HF.out W hx
              simp [PDeps, pdeps, Region.binds] at hd
              first
                | refine ParOb.plain rfl ?_
                | refine ParOb.wanted (by simp [Region.wanted, yielded, hd]) ?_
              go_simp
              exact ParPost.same fun _ _ => rfl
            · intro vals W hx hd
              have hW := HF.out W hx
              simp [PDeps, pdeps, Region.binds] at hd
              first
                | refine ParOb.plain rfl ?_
                | refine ParOb.wanted (by simp [Region.wanted, yielded, hd]) ?_
              go_simp
              exact ParPost.same fun _ _ => rfl
            · intro vals W hx hd
              have hW := HF.out W hx
              simp [PDeps, pdeps, Region.binds] at hd
              first
                | refine ParOb.plain rfl ?_
                | refine ParOb.wanted (by simp [Region.wanted, yielded, hd]) ?_
              go_simp
              exact ParPost.same fun _ _ => rfl
            · intro vals W hx hd
              have hW := HF.out W hx
              simp [PDeps, pdeps, Region.binds] at hd
              first
                | refine ParOb.plain rfl ?_
                | refine ParOb.wanted (by simp [Region.wanted, yielded, hd]) ?_
              go_simp
              exact ParPost.same fun _ _ => rfl
            · intro vals W hx hd
              have hW := HF.out W hx
              simp [PDeps, pdeps, Region.binds] at hd
              first
                | refine ParOb.plain rfl ?_
                | refine ParOb.wanted (by simp [Region.wanted, yielded, hd]) ?_
              go_simp
              exact ParPost.same fun _ _ => rfl
            · intro vals W hx hd
              have hW := HF.out W hx
              simp [PDeps, pdeps, Region.binds] at hd
              first
                | refine ParOb.plain rfl ?_
                | refine ParOb.wanted (by simp [Region.wanted, yielded, hd]) ?_
              go_simp
              exact ParPost.same fun _ _ => rfl
            · intro vals W hx hd
              have hW := HF.out W hx
              simp [PDeps, pdeps, Region.binds] at hd
              first
                | refine ParOb.plain rfl ?_
                | refine ParOb.wanted (by simp [Region.wanted, yielded, hd]) ?_
              go_simp
              exact ParPost.same fun _ _ => rfl
            · intro vals W hx hd
              have hW := HF.out W hx
              simp [PDeps, pdeps, Region.binds] at hd
              first
                | refine ParOb.plain rfl ?_
                | refine ParOb.wanted (by simp [Region.wanted, yielded, hd]) ?_
              go_simp
              exact ParPost.same fun _ _ => rfl
            · intro vals W hx hd
              have hW := HF.out W hx
              simp [PDeps, pdeps, Region.binds] at hd
              first
                | refine ParOb.plain rfl ?_
                | refine ParOb.wanted (by simp [Region.wanted, yielded, hd]) ?_
              go_simp
              exact ParPost.same fun _ _ => rfl
            · intro vals W hx hd
              have hW := HF.out W hx
              simp [PDeps, pdeps, Region.binds] at hd
              first
                | refine ParOb.plain rfl ?_
                | refine ParOb.wanted (by simp [Region.wanted, yielded, hd]) ?_
              go_simp
              exact ParPost.same fun _ _ => rfl
            · intro vals W hx hd
              have hW := HF.out W hx
              simp [PDeps, pdeps, Region.binds] at hd
              first
                | refine ParOb.plain rfl ?_
                | refine ParOb.wanted (by simp [Region.wanted, yielded, hd]) ?_
              go_simp
              exact ParPost.same fun _ _ => rfl
            · intro vals W hx hd
              have hW := HF.out W hx
              simp [PDeps, pdeps, Region.binds] at hd
              first
                | refine ParOb.plain rfl ?_
                | refine ParOb.wanted (by simp [Region.wanted, yielded, hd]) ?_
              go_simp
              exact ParPost.same fun _ _ => rfl
            · intro vals W hx hd
              have hW := HF.out W hx
              simp [PDeps, pdeps, Region.binds] at hd
              first
                | refine ParOb.plain rfl ?_
                | refine ParOb.wanted (by simp [Region.wanted, yielded, hd]) ?_
              go_simp
              exact ParPost.same fun _ _ => rfl
            · intro vals W hx hd
              have hW := HF.out W hx
              simp [PDeps, pdeps, Region.binds] at hd
              first
                | refine ParOb.plain rfl ?_
                | refine ParOb.wanted (by simp [Region.wanted, yielded, hd]) ?_
              go_simp
              exact ParPost.same fun _ _ => rfl
            · intro vals W hx hd
              have hW := HF.out W hx
              simp [PDeps, pdeps, Region.binds] at hd
              first
                | refine ParOb.plain rfl ?_
                | refine ParOb.wanted (by simp [Region.wanted, yielded, hd]) ?_
              go_simp
              exact ParPost.same fun _ _ => rfl
            · intro vals W hx hd
              have hW := HF.out W hx
              simp [PDeps, pdeps, Region.binds] at hd
              first
                | refine ParOb.plain rfl ?_
                | refine ParOb.wanted (by simp [Region.wanted, yielded, hd]) ?_
              go_simp
              exact ParPost.same fun _ _ => rfl
            · intro vals W hx hd
              have hW := HF.out W hx
              simp [PDeps, pdeps, Region.binds] at hd
              first
                | refine ParOb.plain rfl ?_
                | refine ParOb.wanted (by simp [Region.wanted, yielded, hd]) ?_
              go_simp
              exact ParPost.same fun _ _ => rfl
            · intro vals W hx hd
              have hW := HF.out W hx
              simp [PDeps, pdeps, Region.binds] at hd
              first
                | refine ParOb.plain rfl ?_
                | refine ParOb.wanted (by simp [Region.wanted, yielded, hd]) ?_
              go_simp
              exact ParPost.same fun _ _ => rfl
            · intro vals W hx hd
              have hW := HF.out W hx
              simp [PDeps, pdeps, Region.binds] at hd
              first
                | refine ParOb.plain rfl ?_
                | refine ParOb.wanted (by simp [Region.wanted, yielded, hd]) ?_
              go_simp
              exact ParPost.same fun _ _ => rfl
            · intro vals W hx hd
              have hW := HF.out W hx
              simp [PDeps, pdeps, Region.binds] at hd
              first
                | refine ParOb.plain rfl ?_
                | refine ParOb.wanted (by simp [Region.wanted, yielded, hd]) ?_
              go_simp
              exact ParPost.same fun _ _ => rfl
            · intro vals W hx hd
              have hW := HF.out W hx
              simp [PDeps, pdeps, Region.binds] at hd
              first
                | refine ParOb.plain rfl ?_
                | refine ParOb.wanted (by simp [Region.wanted, yielded, hd]) ?_
              go_simp
              exact ParPost.same fun _ _ => rfl
            · intro vals W hx hd
              have hW := HF.out W hx
              simp [PDeps, pdeps, Region.binds] at hd
              first
                | refine ParOb.plain rfl ?_
                | refine ParOb.wanted (by simp [Region.wanted, yielded, hd]) ?_
              go_simp
              exact ParPost.same fun _ _ => rfl
            · intro vals W hx hd
              have hW := HF.out W hx
              simp [PDeps, pdeps, Region.binds] at hd
              first
                | refine ParOb.plain rfl ?_
                | refine ParOb.wanted (by simp [Region.wanted, yielded, hd]) ?_
              go_simp
              exact ParPost.same fun _ _ => rfl
            · intro vals W hx hd
              have hW := HF.out W hx
              simp [PDeps, pdeps, Region.binds] at hd
              first
                | refine ParOb.plain rfl ?_
                | refine ParOb.wanted (by simp [Region.wanted, yielded, hd]) ?_
              go_simp
              exact ParPost.same fun _ _ => rfl
            · intro vals W hx hd
              have hW := HF.out W hx
              simp [PDeps, pdeps, Region.binds] at hd
              first
                | refine ParOb.plain rfl ?_
                | refine ParOb.wanted (by simp [Region.wanted, yielded, hd]) ?_
              go_simp
              exact ParPost.same fun _ _ => rfl
            · intro vals W hx hd
              have hW := HF.out W hx
              simp [PDeps, pdeps, Region.binds] at hd
              first
                | refine ParOb.plain rfl ?_
                | refine ParOb.wanted (by simp [Region.wanted, yielded, hd]) ?_
              go_simp
              exact ParPost.same fun _ _ => rfl
            · intro vals W hx hd
              have hW := HF.out W hx
              simp [PDeps, pdeps, Region.binds] at hd
              first
                | refine ParOb.plain rfl ?_
                | refine ParOb.wanted (by simp [Region.wanted, yielded, hd]) ?_
              go_simp
              exact ParPost.same fun _ _ => rfl
            · intro vals W hx hd
              have hW := HF.out W hx
              simp [PDeps, pdeps, Region.binds] at hd
              first
                | refine ParOb.plain rfl ?_
                | refine ParOb.wanted (by simp [Region.wanted, yielded, hd]) ?_
              go_simp
              exact ParPost.same fun _ _ => rfl
            · intro vals W hx hd
              have hW := HF.out W hx
              simp [PDeps, pdeps, Region.binds] at hd
              first
                | refine ParOb.plain rfl ?_
                | refine ParOb.wanted (by simp [Region.wanted, yielded, hd]) ?_
              go_simp
              exact ParPost.same fun _ _ => rfl
            · intro vals W hx hd
              have hW := HF.out W hx
              simp [PDeps, pdeps, Region.binds] at hd
              first
                | refine ParOb.plain rfl ?_
                | refine ParOb.wanted (by simp [Region.wanted, yielded, hd]) ?_
              go_simp
              exact ParPost.same fun _ _ => rfl
            · intro vals W hx hd
              have hW := HF.out W hx
              simp [PDeps, pdeps, Region.binds] at hd
              first
                | refine ParOb.plain rfl ?_
                | refine ParOb.wanted (by simp [Region.wanted, yielded, hd]) ?_
              go_simp
              exact ParPost.same fun _ _ => rfl
            · intro vals W hx hd
              have hW := HF.out W hx
              simp [PDeps, pdeps, Region.binds] at hd
              first
                | refine ParOb.plain rfl ?_
                | refine ParOb.wanted (by simp [Region.wanted, yielded, hd]) ?_
              go_simp
              exact ParPost.same fun _ _ => rfl
          intro vals W hx hf
          simp (maxSteps := 20000000) only [ParFacts, List.take_succ_cons, List.take_zero, and_true] at hf
          simp (maxSteps := 20000000) only [List.drop_succ_cons, List.drop_zero, List.take_succ_cons, List.take_zero, ParEnd, Act.put, List.setIfInBounds_toArray, List.set_cons_succ, List.set_cons_zero, hf]
          clear hf
          go_wp2_with fail
          go_roundw
          case rel => exact ⟨m + 1, by go_num, hmL, HX.out.trans hx⟩
          case measure => simp [intOf]; omega
        · have HB4 := Lib.hid (HB3.out.trans (Below.mono HX.out HB3.out.size))
          go_wp2_with fail
          refine (awake_any wr (hG.keep HB4.out)).mono ?_
          rintro e w6 ⟨rfl, hb6⟩
          have HB6 := Lib.hid (Below.trans HB4.out (hb6.mono HB4.out.size))
          clear hb6
          go_wp2_with fail
          go_ret
          exact ⟨rfl, HB6.out⟩
end Go.Proofs.YtjjmifidjeaefaaDoor
