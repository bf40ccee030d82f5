/-
  The lexer: all words of a text.
-/
import Derived.Test.YtlhkmdchjklaeaaGreatDoorLexC
namespace Go.Proofs.YtlhkmdchjklaeaaGreatDoor
open Go.RowKit Go.Shelf
set_option maxRecDepth 100000

theorem skip_done : ∀ (b : Bool) (l : List UInt8), Lx.skip false (l.drop (Lx.skip b l)) = 0
  | true, [] => by simp [Lx.skip]
  | false, [] => by simp [Lx.skip]
  | true, c :: r => by
    by_cases h : c = 10
    · simp only [Lx.skip, if_pos h, List.drop_succ_cons]; exact skip_done false r
    · simp only [Lx.skip, if_neg h, List.drop_succ_cons]; exact skip_done true r
  | false, c :: r => by
    by_cases h : Lx.isBlank c = true
    · simp only [Lx.skip, if_pos h, List.drop_succ_cons]; exact skip_done false r
    · by_cases h2 : c = 45 ∧ r.head? = some 45
      · simp only [Lx.skip, if_neg h, if_pos h2, List.drop_succ_cons]; exact skip_done true r
      · simp only [Lx.skip, if_neg h, if_neg h2, List.drop_zero]

/-- A word's cells. -/
def tokC (t : Lx.Tok) : List Value := [.int .i64 t.kind, .string ⟨t.text.toArray⟩, .int .i64 t.n, .int .i64 t.pos]
def tokCs (l : List Lx.Tok) : List Value := l.flatMap tokC
theorem tokCs_length : ∀ l, (tokCs l).length = l.length * 4
  | [] => rfl
  | t :: l => by
    have := tokCs_length l
    rw [tokCs, List.flatMap_cons, List.length_append, ← tokCs, this, List.length_cons, tokC]
    simp
    omega
/-- What Tokens answers with. -/
def TokensE (B : Nat) (r : Except Nat (List Lx.Tok)) (e : Ending) (w : World) : Prop :=
  match r with
  | .error p => e = .returned (.tuple #[.slice none 0 0, .int .i64 p, .int .i64 10])
  | .ok L => ∃ v, e = .returned (.tuple #[v, .int .i64 0, .int .i64 0]) ∧ w.ownsRow B 133 4 v L.length (tokCs L)
/-- .. up to a place. -/
structure TokensAt (l : List UInt8) (acc : List Lx.Tok) (pos : Nat) : Prop where
  len : acc.length ≤ pos
  le : pos ≤ l.length
  skip : Lx.skip false (l.drop pos) = 0
  is : Lx.lex l = Lx.lexAt acc pos (l.drop pos)
theorem TokensAt.start (l : List UInt8) : TokensAt l [] (Lx.skip false l) := by
  refine ⟨Nat.zero_le _, Lx.skip_le _ _, skip_done false l, ?_⟩
  rw [Lx.lex_eq, Lx.lexAt_skip (m := Lx.skip false l) (by rw [skip_done]; rfl), Nat.zero_add]
theorem TokensAt.done {l : List UInt8} {acc : List Lx.Tok} {pos : Nat} (h : TokensAt l acc pos) (hp : l.length ≤ pos) : Lx.lex l = .ok acc := by
  rw [h.is, List.drop_eq_nil_of_le hp]
  exact Lx.lexAt_end rfl
theorem TokensAt.err {l : List UInt8} {acc : List Lx.Tok} {pos : Nat} (h : TokensAt l acc pos) (hp : pos < l.length) (ht : Lx.tok1 (l.drop pos) = none) : Lx.lex l = .error pos := by
  rw [h.is]
  have e := List.drop_eq_getElem_cons hp
  rw [Lx.lexAt_err (c := l[pos]) (r := l.drop (pos + 1)) (by rw [h.skip, List.drop_zero, e]) (by rw [← e]; exact ht), h.skip, Nat.add_zero]
theorem TokensAt.next {l : List UInt8} {acc : List Lx.Tok} {pos : Nat} (h : TokensAt l acc pos) (hp : pos < l.length) {x} (ht : Lx.tok1 (l.drop pos) = some x) :
    TokensAt l (acc ++ [⟨x.1, x.2.1, x.2.2.1, pos⟩]) (pos + x.2.2.2 + Lx.skip false (l.drop (pos + x.2.2.2))) := by
  have e := List.drop_eq_getElem_cons hp
  have hx := Lx.tok1_pos ht
  rw [List.length_drop] at hx
  have hs := Lx.skip_le false (l.drop (pos + x.2.2.2))
  rw [List.length_drop] at hs
  refine ⟨?_, by omega, ?_, ?_⟩
  · have := h.len
    simp; omega
  · rw [← List.drop_drop]; exact skip_done _ _
  · rw [h.is, Lx.lexAt_tok (c := l[pos]) (r := l.drop (pos + 1)) (by rw [h.skip, List.drop_zero, e]) (by rw [← e]; exact ht), h.skip, Nat.add_zero, ← e, List.drop_drop,
      Lx.lexAt_skip (m := Lx.skip false (l.drop (pos + x.2.2.2))) (by rw [skip_done]; rfl), List.drop_drop]
theorem infoTok : (Tryz.prog.info? 133).map (fun i => (i.zero, i.size, i.bytes)) = some (some (.agg #[.int .i64 0, .string ⟨#[]⟩, .int .i64 0, .int .i64 0]), 4, 40) := by kernel_rfl

theorem tokens_long (s : ByteArray) (w : World) (hbig : 4000 < s.size) (hs63 : s.size ≤ maxLen) :
    Calls Tryz.prog 33 #[.string s] w fun e w' => e = .returned (.tuple #[.slice none 0 0, .int .i64 0, .int .i64 2]) ∧ w = w' := by
  unfold maxLen at hs63
  go_enter Tryz.func33, Tryz.ntmps33
  go_wp2_with fail
  exact bodyPost_ret (v := .tuple #[.slice none 0 0, .int .i64 0, .int .i64 2]) (by simp [results, Tryz.results33, go_sem]) rfl ⟨rfl, rfl⟩
set_option maxHeartbeats 4000000 in
theorem tokens_any (s : ByteArray) (w : World) (hG : GlobL w) (hs : s.size ≤ 4000) :
    Calls Tryz.prog 33 #[.string s] w fun e w' => TokensE w.heap.size (Lx.lex (bsl s)) e w' ∧ Below w.heap.size w w' := by
  have hlen := bsl_length s
  have hsk := Lx.skip_le false (bsl s)
  rw [hlen] at hsk
  have HL := Lib.hid hlen
  clear hlen
  go_enter Tryz.func33, Tryz.ntmps33
  go_wp2_with fail
  refine (skip_any s w (by unfold maxLen; omega)).mono ?_
  rintro e w' ⟨rfl, rfl⟩
  have HS0 := Lib.hid (TokensAt.start (bsl s))
  generalize Lx.skip false (bsl s) = k0 at hsk HS0 ⊢
  go_wp2_with fail
  go_loopw [2, 3] (fun v i W => ∃ (pos : Nat) (acc : List Lx.Tok), i = .int .i64 pos ∧ TokensAt (bsl s) acc pos ∧ W.ownsRow w.heap.size 133 4 v acc.length (tokCs acc) ∧ Below w.heap.size w W)
    (fun _ i _ => s.size - (intOf i).toNat)
  case atStart => exact ⟨k0, [], rfl, HS0.out, World.ownsRow_nil _ _ _ _, Below.refl _ _⟩
  case round =>
    obtain ⟨pos, acc, rfl, hT, hown, hbel⟩ := hrel
    have hle := hT.le
    have hal := hT.len
    rw [HL.out] at hle
    have HT := Lib.hid hT
    have HO := Lib.hid hown
    have HB := Lib.hid hbel
    clear hT hown hbel
    by_cases hlt : pos < s.size
    · have hp0 : 0 < (s.extract pos s.size).size := by simp; omega
      have hp1 : (s.extract pos s.size).size ≤ 140737488355327 := by simp; omega
      have H0 := Lib.hid hp0
      have H1 := Lib.hid hp1
      clear hp0 hp1
      have HE := Lib.hid (bsl_from s pos)
      go_wp2_with fail
      refine (token_any _ wr H1.out (hG.keep HB.out) H0.out).mono ?_
      rintro e w2 ⟨rfl, hb2⟩
      rw [HE.out]
      have hown2 := ownsRow_ext HO.out hb2
      have HO2 := Lib.hid hown2
      have HB2 := Lib.hid (HB.out.trans (hb2.mono HB.out.size))
      clear hown2 hb2
      cases ht : Lx.tok1 ((bsl s).drop pos) with
      | none =>
        have HN := Lib.hid ht
        clear ht
        simp only [tokE, tokV]
        go_wp2_with fail
        refine bodyPost_ret (v := .tuple #[.slice none 0 0, .int .i64 pos, .int .i64 10]) (by simp [results, Tryz.results33, go_sem]) rfl ⟨?_, HB2.out.alloc HB2.out.size _⟩
        unfold TokensE
        rw [HT.out.err (by rw [HL.out]; exact hlt) HN.out]
      | some x =>
        have HX := Lib.hid ht
        have hx := Lx.tok1_pos ht
        rw [List.length_drop, HL.out] at hx
        clear ht
        obtain ⟨k, t, n, m⟩ := x
        simp only at hx
        simp only [tokE, tokV]
        go_wp2_with (at_builtin; go_must (refine wpList_push rfl _ _ 76 rfl w.heap.size 133 (.agg #[.int .i64 0, .string ⟨#[]⟩, .int .i64 0, .int .i64 0]) 4 40 Tryz.underlying76 infoTok rfl (by decide) _ _ _ rfl ((HO2.out.alloc _).alloc _) _ 133 #[.int .i64 k, .string ⟨t.toArray⟩, .int .i64 n, .int .i64 pos] rfl (Blk.new _ _ _ (by simp)) rfl ?_ ?_ ?_ ?_ ?_))
        case refine_1 => simp [Value.oneCell']
        case refine_2 => unfold maxLen; omega
        case refine_3 => omega
        case refine_4 =>
          have := HB2.out.size
          simp
          omega
        case refine_5 =>
          intro v' w3 hown3 hgr _
          have hb3 : Below w.heap.size w w3 := ((HB2.out.alloc HB2.out.size _).alloc (Nat.le_trans HB2.out.size (by simp)) _).grown hgr (Nat.le_trans HB2.out.size (by simp; omega)) (fun g hg => (HO2.out.lt g hg).1)
          have HO3 := Lib.hid hown3
          have HB3 := Lib.hid hb3
          clear hown3 hb3 hgr
          have HE2 := Lib.hid (bsl_from s (pos + m))
          have hs2 := Lx.skip_le false ((bsl s).drop (pos + m))
          rw [List.length_drop, HL.out] at hs2
          have hp3 : (s.extract (pos + m) s.size).size ≤ maxLen := by unfold maxLen; simp; omega
          have H3 := Lib.hid hp3
          clear hp3
          go_wp2_with fail
          refine (skip_any _ w3 H3.out).mono ?_
          rintro e w4 ⟨rfl, rfl⟩
          rw [HE2.out]
          have HN := Lib.hid (HT.out.next (by rw [HL.out]; exact hlt) HX.out)
          simp only at HN
          generalize Lx.skip false ((bsl s).drop (pos + m)) = k3 at hs2 HN ⊢
          go_wp2_with fail
          go_roundw
          case rel =>
            refine ⟨pos + m + k3, acc ++ [⟨k, t, n, pos⟩], by go_num, HN.out, ?_, HB3.out⟩
            have := HO3.out
            simpa [tokCs, tokC] using this
          case measure => simp [intOf]; omega
    · go_wp2_with fail
      refine bodyPost_ret (v := .tuple #[u2, .int .i64 0, .int .i64 0]) (by simp [results, Tryz.results33, go_sem]) rfl ⟨?_, HB.out⟩
      unfold TokensE
      rw [HT.out.done (by rw [HL.out]; omega)]
      exact ⟨_, rfl, HO.out⟩
end Go.Proofs.YtlhkmdchjklaeaaGreatDoor
