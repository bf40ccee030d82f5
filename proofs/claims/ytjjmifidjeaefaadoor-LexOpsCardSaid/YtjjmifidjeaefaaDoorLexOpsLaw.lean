/-
  The law of ops: what the lexer makes of a row of ops; the walk.
-/
import Derived.Test.YtjjmifidjeaefaaDoorLexRemarksLaw
import Derived.Test.YtjjmifidjeaefaaDoorPar
import Derived.Test.YtjjmifidjeaefaaDoorOwn
namespace Go.Proofs.YtjjmifidjeaefaaDoor
open Go.RowKit Go.Shelf
set_option maxRecDepth 100000

def opL : List (List UInt8) := [[40], [41], [44], [46], [59], [42], [61], [43], [47], [37], [38], [94], [60, 62], [60, 61], [62, 61], [60, 60], [62, 62], [124, 124], [60], [62], [124], [45]]
/-- A row of ops as words, from a place on; 'g': the blanks between. -/
def opToks (g : Nat) : Nat → List (List UInt8) → List Lx.Tok
  | _, [] => []
  | pos, x :: r => ⟨5, x, 0, pos⟩ :: opToks g (pos + x.length + g) r
theorem opToks_length (g : Nat) : ∀ (pos : Nat) (l : List (List UInt8)), (opToks g pos l).length = l.length
  | _, [] => rfl
  | pos, x :: r => by simp [opToks, opToks_length g _ r]
theorem opToks_at (g : Nat) : ∀ (l : List (List UInt8)) (pos i : Nat) (x : List UInt8), l[i]? = some x → ∃ p, (opToks g pos l)[i]? = some ⟨5, x, 0, p⟩
  | [], _, _, _, h => by simp at h
  | y :: r, pos, 0, x, h => by simp at h; subst h; exact ⟨_, rfl⟩
  | y :: r, pos, i + 1, x, h => by
    simp at h
    obtain ⟨p, hp⟩ := opToks_at g r (pos + y.length + g) i x h
    exact ⟨p, by simpa [opToks] using hp⟩
/-- One op, with what may follow. -/
theorem op_first (x : List UInt8) (hx : x ∈ opL.take 18) (r : List UInt8) : Lx.tok1 (x ++ r) = some (5, x, 0, x.length) ∧ Lx.skip false (x ++ r) = 0 ∧ x ≠ [] := by
  simp [opL] at hx
  rcases hx with rfl | rfl | rfl | rfl | rfl | rfl | rfl | rfl | rfl | rfl | rfl | rfl | rfl | rfl | rfl | rfl | rfl | rfl <;>
    (refine ⟨?_, ?_, by simp⟩ <;> cases r <;> simp [Lx.tok1, Lx.skip, Lx.isBlank, Lx.isDigit, Lx.isLetter, Lx.ops2, Lx.ops1])
theorem op_blank (x : List UInt8) (hx : x ∈ opL) (r : List UInt8) (hr : r = [] ∨ ∃ t, r = 32 :: t) : Lx.tok1 (x ++ r) = some (5, x, 0, x.length) ∧ Lx.skip false (x ++ r) = 0 ∧ x ≠ [] := by
  simp [opL] at hx
  rcases hr with rfl | ⟨t, rfl⟩ <;>
  rcases hx with rfl | rfl | rfl | rfl | rfl | rfl | rfl | rfl | rfl | rfl | rfl | rfl | rfl | rfl | rfl | rfl | rfl | rfl | rfl | rfl | rfl | rfl <;>
    (refine ⟨?_, ?_, by simp⟩ <;> simp [Lx.tok1, Lx.skip, Lx.isBlank, Lx.isDigit, Lx.isLetter, Lx.ops2, Lx.ops1])
theorem lex_tight : ∀ (l : List (List UInt8)) (acc : List Lx.Tok) (pos : Nat), (∀ x ∈ l, x ∈ opL.take 18) → Lx.lexAt acc pos l.flatten = .ok (acc ++ opToks 0 pos l)
  | [], acc, pos, _ => by rw [Lx.lexAt_end rfl]; simp [opToks]
  | x :: r, acc, pos, h => by
    obtain ⟨h1, h2, h3⟩ := op_first x (h x (by simp)) r.flatten
    have ih := lex_tight r (acc ++ [⟨5, x, 0, pos⟩]) (pos + x.length) (fun y hy => h y (List.mem_cons_of_mem _ hy))
    rw [List.flatten_cons]
    cases hc : x ++ r.flatten with
    | nil => simp at hc; exact absurd hc.1 h3
    | cons c t =>
      rw [hc] at h1 h2
      rw [Lx.lexAt_tok (c := c) (r := t) (by rw [h2]; rfl) h1, h2, ← hc, List.drop_left]
      simp only [Nat.add_zero]
      rw [ih, opToks]
      simp
/-- Ops with a blank ahead of each but the first. -/
def blanks : List (List UInt8) → List UInt8
  | [] => []
  | [x] => x
  | x :: y :: r => x ++ 32 :: blanks (y :: r)
theorem blanks_snoc : ∀ (l : List (List UInt8)) (x : List UInt8), blanks (l ++ [x]) = blanks l ++ (if l = [] then [] else [32]) ++ x
  | [], x => by simp [blanks]
  | [y], x => by simp [blanks]
  | y :: z :: r, x => by
    have := blanks_snoc (z :: r) x
    simp only [List.cons_append, blanks] at this ⊢
    rw [this]
    simp
theorem lex_blank : ∀ (l : List (List UInt8)) (acc : List Lx.Tok) (pos : Nat), (∀ x ∈ l, x ∈ opL) → Lx.lexAt acc pos (blanks l) = .ok (acc ++ opToks 1 pos l)
  | [], acc, pos, _ => by rw [blanks, Lx.lexAt_end rfl]; simp [opToks]
  | [x], acc, pos, h => by
    obtain ⟨h1, h2, h3⟩ := op_blank x (h x (by simp)) [] (Or.inl rfl)
    rw [blanks]
    rw [List.append_nil] at h1 h2
    cases hc : x with
    | nil => exact absurd hc h3
    | cons c t =>
      rw [hc] at h1 h2
      rw [Lx.lexAt_tok (c := c) (r := t) (by rw [h2]; rfl) h1, h2, List.drop_length, Lx.lexAt_end rfl]
      simp [opToks]
  | x :: y :: r, acc, pos, h => by
    obtain ⟨h1, h2, h3⟩ := op_blank x (h x (by simp)) (32 :: blanks (y :: r)) (Or.inr ⟨_, rfl⟩)
    have ih := lex_blank (y :: r) (acc ++ [⟨5, x, 0, pos⟩]) (pos + x.length + 1) (fun z hz => h z (List.mem_cons_of_mem _ hz))
    rw [blanks]
    cases hc : x ++ 32 :: blanks (y :: r) with
    | nil => simp at hc
    | cons c t =>
      rw [hc] at h1 h2
      rw [Lx.lexAt_tok (c := c) (r := t) (by rw [h2]; rfl) h1, h2, ← hc, List.drop_left]
      simp only [Nat.add_zero]
      rw [Lx.lexAt_skip (m := 1) (by rw [Lx.skip_blank (by rfl)]; rfl), List.drop_succ_cons, List.drop_zero, ih]
      rw [show opToks 1 pos (x :: y :: r) = ⟨5, x, 0, pos⟩ :: opToks 1 (pos + x.length + 1) (y :: r) from rfl]
      simp

theorem and_mask16b (n : Int) : bits BinOp.and IntKind.i64 n 65535 = n % 65536 := by
  have e : (BitVec.ofInt 64 n &&& BitVec.ofInt 64 65535).toNat = (n % 65536).toNat := by
    rw [BitVec.toNat_and]
    have h : (BitVec.ofInt 64 65535).toNat = 2 ^ 16 - 1 := by decide
    rw [h, Nat.and_two_pow_sub_one_eq_mod, BitVec.toNat_ofInt]
    omega
  show IntKind.i64.wrap ((BitVec.ofInt 64 n &&& BitVec.ofInt 64 65535).toNat : Int) = _
  rw [e, IntKind.wrap_i64]
  omega
def strV (l : List UInt8) : Value := .string ⟨l.toArray⟩
def opArr : Array Value := (opL.map strV).toArray
theorem opArr_eq : opArr = #[.string ⟨#[40]⟩, .string ⟨#[41]⟩, .string ⟨#[44]⟩, .string ⟨#[46]⟩, .string ⟨#[59]⟩, .string ⟨#[42]⟩, .string ⟨#[61]⟩, .string ⟨#[43]⟩, .string ⟨#[47]⟩, .string ⟨#[37]⟩, .string ⟨#[38]⟩, .string ⟨#[94]⟩, .string ⟨#[60, 62]⟩, .string ⟨#[60, 61]⟩, .string ⟨#[62, 61]⟩, .string ⟨#[60, 60]⟩, .string ⟨#[62, 62]⟩, .string ⟨#[124, 124]⟩, .string ⟨#[60]⟩, .string ⟨#[62]⟩, .string ⟨#[124]⟩, .string ⟨#[45]⟩] := rfl
theorem opArr_at (Q : Nat) (h : Q < 22) : opArr[Q]? = some (strV (opL.getD Q [])) := by
  have h' : Q < opL.length := h
  rw [opArr, List.getElem?_toArray, List.getElem?_map, List.getElem?_eq_getElem h']
  simp [List.getD, List.getElem?_eq_getElem h']
theorem opL_at (Q : Nat) (h : Q < 22) : opL.getD Q [] ∈ opL := by
  have : ∀ k : Fin 22, opL.getD k.val [] ∈ opL := by decide
  exact this ⟨Q, h⟩
theorem opL_len (Q : Nat) (h : Q < 22) : (opL.getD Q []).length ≤ 2 := by
  have : ∀ k : Fin 22, (opL.getD k.val []).length ≤ 2 := by decide
  exact this ⟨Q, h⟩
theorem infoStr : (Tryd.prog.info? 9).map (fun i => (i.zero, i.size, i.bytes)) = some (some (.string ⟨#[]⟩), 1, 16) := by kernel_rfl

theorem tokCs_at : ∀ (T : List Lx.Tok) (m j : Nat) (t : Lx.Tok), T[m]? = some t → j < 4 → (tokCs T)[m * 4 + j]? = (tokC t)[j]?
  | [], _, _, _, h, _ => by simp at h
  | u :: T, 0, j, t, h, hj => by
    simp at h; subst h
    rw [tokCs, List.flatMap_cons, List.getElem?_append_left (by simp [tokC]; omega)]
    simp
  | u :: T, m + 1, j, t, h, hj => by
    simp at h
    have ih := tokCs_at T m j t h hj
    rw [tokCs, List.flatMap_cons, List.getElem?_append_right (by simp [tokC]; omega), ← ih, tokCs]
    congr 1
    simp [tokC]; omega
theorem Toks.slice {w : World} {v : Value} {T : List Lx.Tok} (h : Toks w v T) : ∃ ao cap, v = .slice ao T.length cap ∧ T.length ≤ cap ∧ cap ≤ maxLen ∧
    ∀ (m : Nat) (t : Lx.Tok), T[m]? = some t → ∃ g, ao = some ⟨g, 0, none⟩ ∧ g < w.heap.size ∧ ∀ j, j < 4 → w.cell? ⟨g, m * 4 + j, none⟩ = (tokC t)[j]? := by
  rcases h with ⟨rfl, rfl⟩ | ⟨g, cap, rfl, h2, h3, h4, h5⟩
  · exact ⟨none, 0, rfl, Nat.le_refl _, Nat.zero_le _, fun m t h => by simp at h⟩
  · refine ⟨_, _, rfl, h2, h3, fun m t ht => ⟨g, rfl, h4, fun j hj => ?_⟩⟩
    have hm : m < T.length := (List.getElem?_eq_some_iff.1 ht).1
    rw [h5 _ (by omega), tokCs_at T m j t ht hj]
theorem rowS_slice {w : World} {B : Nat} {v : Value} {L : List (List UInt8)} (h : w.ownsRow B 9 1 v L.length (L.map strV)) : ∃ ao cap, v = .slice ao L.length cap ∧ L.length ≤ cap ∧
    ∀ (m : Nat) (y : List UInt8), L[m]? = some y → ∃ g, ao = some ⟨g, 0, none⟩ ∧ g < w.heap.size ∧ w.cell? ⟨g, m, none⟩ = some (strV y) := by
  rcases h.2 with ⟨rfl, h0⟩ | ⟨g, cap, cur, rfl, hB, hh, hn, hm, _⟩
  · have : L = [] := List.eq_nil_of_length_eq_zero h0
    subst this
    exact ⟨none, 0, rfl, Nat.le_refl _, fun m t h => by simp at h⟩
  · refine ⟨_, _, rfl, hn, fun m y hy => ⟨g, rfl, (Array.getElem?_eq_some_iff.1 hh).1, ?_⟩⟩
    have hm : m < L.length := (List.getElem?_eq_some_iff.1 hy).1
    rw [h.cellAt m (by omega), List.getElem?_map, hy]
    rfl

set_option maxHeartbeats 4000000 in
theorem law_opsF (ao : Option Addr) (len cap : Nat) (zs : List Int) (w : World) (hG : Glob w)
    (hcell : ∀ i, i < len → ∃ a, ao = some a ∧ w.cell? (a.add i) = some (.int .i64 (zs.getD i 0)) ∧ (a.add i).block < w.heap.size) :
    Calls Tryd.prog 5 #[.slice ao len cap, .bool false] w fun e w' => e = .returned (.bool true) ∧ Below w.heap.size w w' := by
  have HC := Lib.hid hcell
  clear hcell
  go_enter Tryd.func5, Tryd.ntmps5
  go_wp2_with fail
  go_loopw [6, 7, 8] (fun s v i W => ∃ (x : ByteArray) (L : List (List UInt8)), s = .string x ∧ i = .int .i64 L.length ∧ L.length ≤ len ∧ L.length ≤ 20 ∧ bsl x = blanks L ∧ (∀ y ∈ L, y ∈ opL) ∧ x.size ≤ 3 * L.length ∧
      W.ownsRow (w.heap.size + 1) 9 1 v L.length (L.map strV) ∧ Below (w.heap.size + 1) (w.alloc (.cells opArr 9)) W)
    (fun _ _ i _ => 20 - (intOf i).toNat)
  case atStart => exact ⟨⟨#[]⟩, [], rfl, rfl, Nat.zero_le _, Nat.zero_le _, rfl, by simp, Nat.le_refl _, World.ownsRow_nil _ _ _ _, Below.refl _ _⟩
  case round =>
    obtain ⟨x, L, rfl, rfl, hL1, hL2, hx, hmem, hsz, hown, hbel⟩ := hrel
    have HM := Lib.hid hmem
    have HX := Lib.hid hx
    have HO := Lib.hid hown
    have HB := Lib.hid hbel
    have hblk : Blk wr w.heap.size opArr 9 := (Blk.new w opArr 9 rfl).below hbel (Nat.lt_succ_self _)
    have hbw : Below w.heap.size w wr := ((Below.refl _ w).alloc (Nat.le_refl _) _).trans (hbel.mono (Nat.le_succ _))
    have HBW := Lib.hid hbw
    have HBK := Lib.hid hblk
    clear hmem hx hown hbel hbw hblk
    by_cases hgo : L.length < len ∧ L.length < 20
    · obtain ⟨hg1, hg2⟩ := hgo
      obtain ⟨a, rfl, hz, hab⟩ := HC.out L.length hg1
      generalize hzz : zs.getD L.length 0 = z at hz
      clear hzz
      have hz2 : wr.cell? (a.add L.length) = some (.int .i64 z) := by
        rw [HBW.out.cell (p := a.add L.length) hab]
        exact hz
      clear hz
      obtain ⟨Q, hQ, hQ22⟩ : ∃ Q : Nat, (bits BinOp.and IntKind.i64 z 65535).tmod 22 = (Q : Int) ∧ Q < 22 := by
        rw [and_mask16b, Int.tmod_eq_emod_of_nonneg (by omega)]
        exact ⟨(z % 65536 % 22).toNat, by omega, by omega⟩
      have hop : wr.cell? ⟨w.heap.size, Q, none⟩ = some (strV (opL.getD Q [])) := by
        rw [HBK.out.cell, opArr_at Q hQ22]
      have HIN := Lib.hid (opL_at Q hQ22)
      have HLN := opL_len Q hQ22
      generalize opL.getD Q [] = y at hop HIN HLN
      simp only [strV] at hop
      by_cases hL0 : 0 < L.length
      · skip
        go_wp2_with (at_builtin; go_must (refine wpList_push rfl _ _ 34 rfl (w.heap.size + 1) 9 (.string ⟨#[]⟩) 1 16 Tryd.underlying34 infoStr rfl (by decide) _ _ _ rfl (HO.out.alloc _) _ 9 #[.string ⟨y.toArray⟩] rfl (Blk.new _ _ _ rfl) rfl ?_ ?_ ?_ ?_ ?_))
        case refine_1 => simp [Value.oneCell']
        case refine_2 => unfold maxLen; omega
        case refine_3 => omega
        case refine_4 =>
          have := HB.out.size
          simp at this ⊢
          omega
        case refine_5 =>
          intro v' w3 hown3 hgr _
          have hs1 : w.heap.size + 1 ≤ wr.heap.size := by
            have := HB.out.size
            simpa using this
          have hb3 : Below (w.heap.size + 1) (w.alloc (.cells opArr 9)) w3 := (HB.out.alloc hs1 _).grown hgr (Nat.le_trans hs1 (by simp)) (fun g hg => (HO.out.lt g hg).1)
          have HO3 := Lib.hid hown3
          have HB3 := Lib.hid hb3
          clear hown3 hb3 hgr
          go_wp2_with fail
          go_roundw
          case rel =>
            refine ⟨_, L ++ [y], rfl, by simp, by simp; omega, by simp; omega, ?_, ?_, ?_, ?_, HB3.out⟩
            · rw [bsl_append, bsl_append, HX.out, show bsl (ByteArray.mk #[32]) = [32] from rfl, bsl_mk, blanks_snoc, if_neg (fun h => by rw [h] at hL0; exact absurd hL0 (by simp))]
            · intro u hu
              rcases List.mem_append.1 hu with hu | hu
              · exact HM.out u hu
              · simp only [List.mem_singleton] at hu; subst hu; exact HIN.out
            · rw [ByteArray.size_append, ByteArray.size_append, List.length_append, show (ByteArray.mk y.toArray).size = y.length from by rw [← bsl_length, bsl_mk]]
              show x.size + 1 + y.length ≤ _; simp; omega
            · have := HO3.out
              simpa [strV] using this
          case measure => simp [intOf]; omega
      · skip
        go_wp2_with (at_builtin; go_must (refine wpList_push rfl _ _ 34 rfl (w.heap.size + 1) 9 (.string ⟨#[]⟩) 1 16 Tryd.underlying34 infoStr rfl (by decide) _ _ _ rfl (HO.out.alloc _) _ 9 #[.string ⟨y.toArray⟩] rfl (Blk.new _ _ _ rfl) rfl ?_ ?_ ?_ ?_ ?_))
        case refine_1 => simp [Value.oneCell']
        case refine_2 => unfold maxLen; omega
        case refine_3 => omega
        case refine_4 =>
          have := HB.out.size
          simp at this ⊢
          omega
        case refine_5 =>
          intro v' w3 hown3 hgr _
          have hs1 : w.heap.size + 1 ≤ wr.heap.size := by
            have := HB.out.size
            simpa using this
          have hb3 : Below (w.heap.size + 1) (w.alloc (.cells opArr 9)) w3 := (HB.out.alloc hs1 _).grown hgr (Nat.le_trans hs1 (by simp)) (fun g hg => (HO.out.lt g hg).1)
          have HO3 := Lib.hid hown3
          have HB3 := Lib.hid hb3
          clear hown3 hb3 hgr
          go_wp2_with fail
          go_roundw
          case rel =>
            refine ⟨_, L ++ [y], rfl, by simp, by simp; omega, by simp; omega, ?_, ?_, ?_, ?_, HB3.out⟩
            · rw [bsl_append, HX.out, bsl_mk, blanks_snoc, if_pos (List.eq_nil_of_length_eq_zero (by omega))]; simp
            · intro u hu
              rcases List.mem_append.1 hu with hu | hu
              · exact HM.out u hu
              · simp only [List.mem_singleton] at hu; subst hu; exact HIN.out
            · rw [ByteArray.size_append, List.length_append, show (ByteArray.mk y.toArray).size = y.length from by rw [← bsl_length, bsl_mk]]
              simp; omega
            · have := HO3.out
              simpa [strV] using this
          case measure => simp [intOf]; omega
    · have hlx : Lx.lex (bsl x) = .ok (opToks 1 0 L) := by
        rw [HX.out, Lx.lex_eq, lex_blank L [] 0 HM.out]; rfl
      have HLX := Lib.hid hlx
      clear hlx
      by_cases hg1 : L.length < len
      · have hg2 : L.length = 20 := by omega
        go_wp2_with fail
        refine (tokens_any x wr (hG.keep HBW.out) (by omega)).mono ?_
        rintro e w3 ⟨hE, hb3⟩
        rw [HLX.out] at hE
        obtain ⟨v, rfl, ho⟩ := hE
        obtain ⟨ao2, cap2, rfl, hc2, hm2, hT⟩ := (Toks.of ho).slice
        obtain ⟨ao3, cap3, rfl, hc3, hS⟩ := rowS_slice HO.out
        rw [opToks_length] at hc2 ho ⊢
        have HT := Lib.hid hT
        have HS := Lib.hid hS
        have HB3 := Lib.hid (HBW.out.trans (hb3.mono HBW.out.size))
        have HBB := Lib.hid hb3
        clear hT hS hb3 ho
        go_wp2_with fail
        go_loopw [13] (fun i W => ∃ m : Nat, i = .int .i64 m ∧ m ≤ L.length ∧ Ext w3 W) (fun i _ => L.length - (intOf i).toNat)
        case atStart => exact ⟨0, rfl, Nat.zero_le _, Ext.refl _⟩
        case round =>
          obtain ⟨m, rfl, hm, hX⟩ := hrel
          have HX3 := Lib.hid hX
          clear hX
          by_cases hmL : m < L.length
          · obtain ⟨p, hp⟩ := opToks_at 1 L 0 m (L[m]'hmL) (List.getElem?_eq_getElem hmL)
            obtain ⟨g, rfl, hg, hgc⟩ := HT.out m _ hp
            obtain ⟨g2, rfl, hg2, hgc2⟩ := HS.out m _ (List.getElem?_eq_getElem hmL)
            generalize L[m]'hmL = y at hgc hgc2
            have k0 : w3.cell? ⟨g, m * 4, none⟩ = some (.int .i64 5) := hgc 0 (by decide)
            have k1 : w3.cell? ⟨g, m * 4 + 1, none⟩ = some (.string ⟨y.toArray⟩) := hgc 1 (by decide)
            have k2 : w3.cell? ⟨g2, m, none⟩ = some (.string ⟨y.toArray⟩) := by rw [HBB.out.cell (p := ⟨g2, m, none⟩) hg2]; exact hgc2
            have HF := Lib.hid (show ∀ W, Ext wr W → W.cell? ⟨g, m * 4, none⟩ = some (.int .i64 5) ∧ W.cell? ⟨g, m * 4 + 1, none⟩ = some (.string ⟨y.toArray⟩) ∧ W.cell? ⟨g2, m, none⟩ = some (.string ⟨y.toArray⟩) from
              fun W hW0 => by
                have hW := HX3.out.trans hW0
                exact ⟨by rw [hW.cell (p := ⟨g, m * 4, none⟩) hg]; exact k0, by rw [hW.cell (p := ⟨g, m * 4 + 1, none⟩) hg]; exact k1, by rw [hW.cell (p := ⟨g2, m, none⟩) (Nat.lt_of_lt_of_le hg2 HBB.out.size)]; exact k2⟩)
            clear k0 k1 k2 hgc hgc2
            go_wp2_with fail
            refine wp_par 18 (fun
                | 0 => fun v _ => v = .slice (some ⟨g, 0, none⟩) L.length cap2
                | 1 => fun v _ => v = .int .i64 m
                | 2 => fun v _ => v = .pointer (some ⟨g, m * 4, none⟩)
                | 3 => fun v _ => v = .pointer (some ⟨g, m * 4, none⟩)
                | 4 => fun v _ => v = .int .i64 5
                | 5 => fun v _ => v = .bool false
                | 6 => fun v _ => v = .bool false
                | 7 => fun v _ => v = .slice (some ⟨g, 0, none⟩) L.length cap2
                | 8 => fun v _ => v = .int .i64 m
                | 9 => fun v _ => v = .pointer (some ⟨g, m * 4, none⟩)
                | 10 => fun v _ => v = .pointer (some ⟨g, m * 4 + 1, none⟩)
                | 11 => fun v _ => v = .string ⟨y.toArray⟩
                | 12 => fun v _ => v = .slice (some ⟨g2, 0, none⟩) L.length cap3
                | 13 => fun v _ => v = .int .i64 m
                | 14 => fun v _ => v = .pointer (some ⟨g2, m, none⟩)
                | 15 => fun v _ => v = .string ⟨y.toArray⟩
                | 16 => fun v _ => v = .bool false
                | 17 => fun v _ => v = .bool false
                | _ => fun _ _ => True) (by kernel_rfl) (by kernel_rfl) (by kernel_rfl) ?_ ?_
            · simp only [List.take_succ_cons, List.take_zero, ParAll, Act.put, List.setIfInBounds_toArray, List.set_cons_succ, List.set_cons_zero]
              refine ⟨?_, ?_, ?_, ?_, ?_, ?_, ?_, ?_, ?_, ?_, ?_, ?_, ?_, ?_, ?_, ?_, ?_, ?_, trivial⟩
              · intro vals W hx hd
                have hW := HF.out W hx
                simp [PDeps, pdeps, Region.binds] at hd
                first
                  | refine ParOb.plain rfl ?_
                  | refine ParOb.wanted (by simp [Region.wanted, yielded, hd]) ?_
                go_simp
                exact ParPost.same fun _ _ => rfl
              · intro vals W hx hd
                have hW := HF.out W hx
                simp [PDeps, pdeps, Region.binds] at hd
                first
                  | refine ParOb.plain rfl ?_
                  | refine ParOb.wanted (by simp [Region.wanted, yielded, hd]) ?_
                go_simp
                exact ParPost.same fun _ _ => rfl
              · intro vals W hx hd
                have hW := HF.out W hx
                simp [PDeps, pdeps, Region.binds] at hd
                first
                  | refine ParOb.plain rfl ?_
                  | refine ParOb.wanted (by simp [Region.wanted, yielded, hd]) ?_
                go_simp
                exact ParPost.same fun _ _ => rfl
              · intro vals W hx hd
                have hW := HF.out W hx
                simp [PDeps, pdeps, Region.binds] at hd
                first
                  | refine ParOb.plain rfl ?_
                  | refine ParOb.wanted (by simp [Region.wanted, yielded, hd]) ?_
                go_simp
                exact ParPost.same fun _ _ => rfl
              · intro vals W hx hd
                have hW := HF.out W hx
                simp [PDeps, pdeps, Region.binds] at hd
                first
                  | refine ParOb.plain rfl ?_
                  | refine ParOb.wanted (by simp [Region.wanted, yielded, hd]) ?_
                go_simp
                exact ParPost.same fun _ _ => rfl
              · intro vals W hx hd
                have hW := HF.out W hx
                simp [PDeps, pdeps, Region.binds] at hd
                first
                  | refine ParOb.plain rfl ?_
                  | refine ParOb.wanted (by simp [Region.wanted, yielded, hd]) ?_
                go_simp
                exact ParPost.same fun _ _ => rfl
              · intro vals W hx hd
                have hW := HF.out W hx
                simp [PDeps, pdeps, Region.binds] at hd
                first
                  | refine ParOb.plain rfl ?_
                  | refine ParOb.wanted (by simp [Region.wanted, yielded, hd]) ?_
                go_simp
                exact ParPost.same fun _ _ => rfl
              · intro vals W hx hd
                have hW := HF.out W hx
                simp [PDeps, pdeps, Region.binds] at hd
                first
                  | refine ParOb.plain rfl ?_
                  | refine ParOb.wanted (by simp [Region.wanted, yielded, hd]) ?_
                go_simp
                exact ParPost.same fun _ _ => rfl
              · intro vals W hx hd
                have hW := HF.out W hx
                simp [PDeps, pdeps, Region.binds] at hd
                first
                  | refine ParOb.plain rfl ?_
                  | refine ParOb.wanted (by simp [Region.wanted, yielded, hd]) ?_
                go_simp
                exact ParPost.same fun _ _ => rfl
              · intro vals W hx hd
                have hW := HF.out W hx
                simp [PDeps, pdeps, Region.binds] at hd
                first
                  | refine ParOb.plain rfl ?_
                  | refine ParOb.wanted (by simp [Region.wanted, yielded, hd]) ?_
                go_simp
                exact ParPost.same fun _ _ => rfl
              · intro vals W hx hd
                have hW := HF.out W hx
                simp [PDeps, pdeps, Region.binds] at hd
                first
                  | refine ParOb.plain rfl ?_
                  | refine ParOb.wanted (by simp [Region.wanted, yielded, hd]) ?_
                go_simp
                exact ParPost.same fun _ _ => rfl
              · intro vals W hx hd
                have hW := HF.out W hx
                simp [PDeps, pdeps, Region.binds] at hd
                first
                  | refine ParOb.plain rfl ?_
                  | refine ParOb.wanted (by simp [Region.wanted, yielded, hd]) ?_
                go_simp
                exact ParPost.same fun _ _ => rfl
              · intro vals W hx hd
                have hW := HF.out W hx
                simp [PDeps, pdeps, Region.binds] at hd
                first
                  | refine ParOb.plain rfl ?_
                  | refine ParOb.wanted (by simp [Region.wanted, yielded, hd]) ?_
                go_simp
                exact ParPost.same fun _ _ => rfl
              · intro vals W hx hd
                have hW := HF.out W hx
                simp [PDeps, pdeps, Region.binds] at hd
                first
                  | refine ParOb.plain rfl ?_
                  | refine ParOb.wanted (by simp [Region.wanted, yielded, hd]) ?_
                go_simp
                exact ParPost.same fun _ _ => rfl
              · intro vals W hx hd
                have hW := HF.out W hx
                simp [PDeps, pdeps, Region.binds] at hd
                first
                  | refine ParOb.plain rfl ?_
                  | refine ParOb.wanted (by simp [Region.wanted, yielded, hd]) ?_
                go_simp
                exact ParPost.same fun _ _ => rfl
              · intro vals W hx hd
                have hW := HF.out W hx
                simp [PDeps, pdeps, Region.binds] at hd
                first
                  | refine ParOb.plain rfl ?_
                  | refine ParOb.wanted (by simp [Region.wanted, yielded, hd]) ?_
                go_simp
                exact ParPost.same fun _ _ => rfl
              · intro vals W hx hd
                have hW := HF.out W hx
                simp [PDeps, pdeps, Region.binds] at hd
                first
                  | refine ParOb.plain rfl ?_
                  | refine ParOb.wanted (by simp [Region.wanted, yielded, hd]) ?_
                go_simp
                exact ParPost.same fun _ _ => rfl
              · intro vals W hx hd
                have hW := HF.out W hx
                simp [PDeps, pdeps, Region.binds] at hd
                first
                  | refine ParOb.plain rfl ?_
                  | refine ParOb.wanted (by simp [Region.wanted, yielded, hd]) ?_
                go_simp
                exact ParPost.same fun _ _ => rfl
            intro vals W hx hf
            simp only [ParFacts, List.take_succ_cons, List.take_zero, and_true] at hf
            simp only [List.drop_succ_cons, List.drop_zero, List.take_succ_cons, List.take_zero, ParEnd, Act.put, List.setIfInBounds_toArray, List.set_cons_succ, List.set_cons_zero, hf]
            clear hf
            go_wp2_with fail
            go_roundw
            case rel => exact ⟨m + 1, by go_num, hmL, HX3.out.trans hx⟩
            case measure => simp [intOf]; omega
          · have HB3' := Lib.hid (HB3.out.trans (Below.mono HX3.out HB3.out.size))
            go_wp2_with fail
            refine (awake_any wr (hG.keep HB3'.out)).mono ?_
            rintro e w4 ⟨rfl, hb4⟩
            have HB4 := Lib.hid (HB3'.out.trans (hb4.mono HB3'.out.size))
            clear hb4
            go_wp2
            go_ret
            exact ⟨rfl, HB4.out⟩
      · skip
        go_wp2_with fail
        refine (tokens_any x wr (hG.keep HBW.out) (by omega)).mono ?_
        rintro e w3 ⟨hE, hb3⟩
        rw [HLX.out] at hE
        obtain ⟨v, rfl, ho⟩ := hE
        obtain ⟨ao2, cap2, rfl, hc2, hm2, hT⟩ := (Toks.of ho).slice
        obtain ⟨ao3, cap3, rfl, hc3, hS⟩ := rowS_slice HO.out
        rw [opToks_length] at hc2 ho ⊢
        have HT := Lib.hid hT
        have HS := Lib.hid hS
        have HB3 := Lib.hid (HBW.out.trans (hb3.mono HBW.out.size))
        have HBB := Lib.hid hb3
        clear hT hS hb3 ho
        go_wp2_with fail
        go_loopw [13] (fun i W => ∃ m : Nat, i = .int .i64 m ∧ m ≤ L.length ∧ Ext w3 W) (fun i _ => L.length - (intOf i).toNat)
        case atStart => exact ⟨0, rfl, Nat.zero_le _, Ext.refl _⟩
        case round =>
          obtain ⟨m, rfl, hm, hX⟩ := hrel
          have HX3 := Lib.hid hX
          clear hX
          by_cases hmL : m < L.length
          · obtain ⟨p, hp⟩ := opToks_at 1 L 0 m (L[m]'hmL) (List.getElem?_eq_getElem hmL)
            obtain ⟨g, rfl, hg, hgc⟩ := HT.out m _ hp
            obtain ⟨g2, rfl, hg2, hgc2⟩ := HS.out m _ (List.getElem?_eq_getElem hmL)
            generalize L[m]'hmL = y at hgc hgc2
            have k0 : w3.cell? ⟨g, m * 4, none⟩ = some (.int .i64 5) := hgc 0 (by decide)
            have k1 : w3.cell? ⟨g, m * 4 + 1, none⟩ = some (.string ⟨y.toArray⟩) := hgc 1 (by decide)
            have k2 : w3.cell? ⟨g2, m, none⟩ = some (.string ⟨y.toArray⟩) := by rw [HBB.out.cell (p := ⟨g2, m, none⟩) hg2]; exact hgc2
            have HF := Lib.hid (show ∀ W, Ext wr W → W.cell? ⟨g, m * 4, none⟩ = some (.int .i64 5) ∧ W.cell? ⟨g, m * 4 + 1, none⟩ = some (.string ⟨y.toArray⟩) ∧ W.cell? ⟨g2, m, none⟩ = some (.string ⟨y.toArray⟩) from
              fun W hW0 => by
                have hW := HX3.out.trans hW0
                exact ⟨by rw [hW.cell (p := ⟨g, m * 4, none⟩) hg]; exact k0, by rw [hW.cell (p := ⟨g, m * 4 + 1, none⟩) hg]; exact k1, by rw [hW.cell (p := ⟨g2, m, none⟩) (Nat.lt_of_lt_of_le hg2 HBB.out.size)]; exact k2⟩)
            clear k0 k1 k2 hgc hgc2
            go_wp2_with fail
            refine wp_par 18 (fun
                | 0 => fun v _ => v = .slice (some ⟨g, 0, none⟩) L.length cap2
                | 1 => fun v _ => v = .int .i64 m
                | 2 => fun v _ => v = .pointer (some ⟨g, m * 4, none⟩)
                | 3 => fun v _ => v = .pointer (some ⟨g, m * 4, none⟩)
                | 4 => fun v _ => v = .int .i64 5
                | 5 => fun v _ => v = .bool false
                | 6 => fun v _ => v = .bool false
                | 7 => fun v _ => v = .slice (some ⟨g, 0, none⟩) L.length cap2
                | 8 => fun v _ => v = .int .i64 m
                | 9 => fun v _ => v = .pointer (some ⟨g, m * 4, none⟩)
                | 10 => fun v _ => v = .pointer (some ⟨g, m * 4 + 1, none⟩)
                | 11 => fun v _ => v = .string ⟨y.toArray⟩
                | 12 => fun v _ => v = .slice (some ⟨g2, 0, none⟩) L.length cap3
                | 13 => fun v _ => v = .int .i64 m
                | 14 => fun v _ => v = .pointer (some ⟨g2, m, none⟩)
                | 15 => fun v _ => v = .string ⟨y.toArray⟩
                | 16 => fun v _ => v = .bool false
                | 17 => fun v _ => v = .bool false
                | _ => fun _ _ => True) (by kernel_rfl) (by kernel_rfl) (by kernel_rfl) ?_ ?_
            · simp only [List.take_succ_cons, List.take_zero, ParAll, Act.put, List.setIfInBounds_toArray, List.set_cons_succ, List.set_cons_zero]
              refine ⟨?_, ?_, ?_, ?_, ?_, ?_, ?_, ?_, ?_, ?_, ?_, ?_, ?_, ?_, ?_, ?_, ?_, ?_, trivial⟩
              · intro vals W hx hd
                have hW := HF.out W hx
                simp [PDeps, pdeps, Region.binds] at hd
                first
                  | refine ParOb.plain rfl ?_
                  | refine ParOb.wanted (by simp [Region.wanted, yielded, hd]) ?_
                go_simp
                exact ParPost.same fun _ _ => rfl
              · intro vals W hx hd
                have hW := HF.out W hx
                simp [PDeps, pdeps, Region.binds] at hd
                first
                  | refine ParOb.plain rfl ?_
                  | refine ParOb.wanted (by simp [Region.wanted, yielded, hd]) ?_
                go_simp
                exact ParPost.same fun _ _ => rfl
              · intro vals W hx hd
                have hW := HF.out W hx
                simp [PDeps, pdeps, Region.binds] at hd
                first
                  | refine ParOb.plain rfl ?_
                  | refine ParOb.wanted (by simp [Region.wanted, yielded, hd]) ?_
                go_simp
                exact ParPost.same fun _ _ => rfl
              · intro vals W hx hd
                have hW := HF.out W hx
                simp [PDeps, pdeps, Region.binds] at hd
                first
                  | refine ParOb.plain rfl ?_
                  | refine ParOb.wanted (by simp [Region.wanted, yielded, hd]) ?_
                go_simp
                exact ParPost.same fun _ _ => rfl
              · intro vals W hx hd
                have hW := HF.out W hx
                simp [PDeps, pdeps, Region.binds] at hd
                first
                  | refine ParOb.plain rfl ?_
                  | refine ParOb.wanted (by simp [Region.wanted, yielded, hd]) ?_
                go_simp
                exact ParPost.same fun _ _ => rfl
              · intro vals W hx hd
                have hW := HF.out W hx
                simp [PDeps, pdeps, Region.binds] at hd
                first
                  | refine ParOb.plain rfl ?_
                  | refine ParOb.wanted (by simp [Region.wanted, yielded, hd]) ?_
                go_simp
                exact ParPost.same fun _ _ => rfl
              · intro vals W hx hd
                have hW := HF.out W hx
                simp [PDeps, pdeps, Region.binds] at hd
                first
                  | refine ParOb.plain rfl ?_
                  | refine ParOb.wanted (by simp [Region.wanted, yielded, hd]) ?_
                go_simp
                exact ParPost.same fun _ _ => rfl
              · intro vals W hx hd
                have hW := HF.out W hx
                simp [PDeps, pdeps, Region.binds] at hd
                first
                  | refine ParOb.plain rfl ?_
                  | refine ParOb.wanted (by simp [Region.wanted, yielded, hd]) ?_
                go_simp
                exact ParPost.same fun _ _ => rfl
              · intro vals W hx hd
                have hW := HF.out W hx
                simp [PDeps, pdeps, Region.binds] at hd
                first
                  | refine ParOb.plain rfl ?_
                  | refine ParOb.wanted (by simp [Region.wanted, yielded, hd]) ?_
                go_simp
                exact ParPost.same fun _ _ => rfl
              · intro vals W hx hd
                have hW := HF.out W hx
                simp [PDeps, pdeps, Region.binds] at hd
                first
                  | refine ParOb.plain rfl ?_
                  | refine ParOb.wanted (by simp [Region.wanted, yielded, hd]) ?_
                go_simp
                exact ParPost.same fun _ _ => rfl
              · intro vals W hx hd
                have hW := HF.out W hx
                simp [PDeps, pdeps, Region.binds] at hd
                first
                  | refine ParOb.plain rfl ?_
                  | refine ParOb.wanted (by simp [Region.wanted, yielded, hd]) ?_
                go_simp
                exact ParPost.same fun _ _ => rfl
              · intro vals W hx hd
                have hW := HF.out W hx
                simp [PDeps, pdeps, Region.binds] at hd
                first
                  | refine ParOb.plain rfl ?_
                  | refine ParOb.wanted (by simp [Region.wanted, yielded, hd]) ?_
                go_simp
                exact ParPost.same fun _ _ => rfl
              · intro vals W hx hd
                have hW := HF.out W hx
                simp [PDeps, pdeps, Region.binds] at hd
                first
                  | refine ParOb.plain rfl ?_
                  | refine ParOb.wanted (by simp [Region.wanted, yielded, hd]) ?_
                go_simp
                exact ParPost.same fun _ _ => rfl
              · intro vals W hx hd
                have hW := HF.out W hx
                simp [PDeps, pdeps, Region.binds] at hd
                first
                  | refine ParOb.plain rfl ?_
                  | refine ParOb.wanted (by simp [Region.wanted, yielded, hd]) ?_
                go_simp
                exact ParPost.same fun _ _ => rfl
              · intro vals W hx hd
                have hW := HF.out W hx
                simp [PDeps, pdeps, Region.binds] at hd
                first
                  | refine ParOb.plain rfl ?_
                  | refine ParOb.wanted (by simp [Region.wanted, yielded, hd]) ?_
                go_simp
                exact ParPost.same fun _ _ => rfl
              · intro vals W hx hd
                have hW := HF.out W hx
                simp [PDeps, pdeps, Region.binds] at hd
                first
                  | refine ParOb.plain rfl ?_
                  | refine ParOb.wanted (by simp [Region.wanted, yielded, hd]) ?_
                go_simp
                exact ParPost.same fun _ _ => rfl
              · intro vals W hx hd
                have hW := HF.out W hx
                simp [PDeps, pdeps, Region.binds] at hd
                first
                  | refine ParOb.plain rfl ?_
                  | refine ParOb.wanted (by simp [Region.wanted, yielded, hd]) ?_
                go_simp
                exact ParPost.same fun _ _ => rfl
              · intro vals W hx hd
                have hW := HF.out W hx
                simp [PDeps, pdeps, Region.binds] at hd
                first
                  | refine ParOb.plain rfl ?_
                  | refine ParOb.wanted (by simp [Region.wanted, yielded, hd]) ?_
                go_simp
                exact ParPost.same fun _ _ => rfl
            intro vals W hx hf
            simp only [ParFacts, List.take_succ_cons, List.take_zero, and_true] at hf
            simp only [List.drop_succ_cons, List.drop_zero, List.take_succ_cons, List.take_zero, ParEnd, Act.put, List.setIfInBounds_toArray, List.set_cons_succ, List.set_cons_zero, hf]
            clear hf
            go_wp2_with fail
            go_roundw
            case rel => exact ⟨m + 1, by go_num, hmL, HX3.out.trans hx⟩
            case measure => simp [intOf]; omega
          · have HB3' := Lib.hid (HB3.out.trans (Below.mono HX3.out HB3.out.size))
            go_wp2_with fail
            refine (awake_any wr (hG.keep HB3'.out)).mono ?_
            rintro e w4 ⟨rfl, hb4⟩
            have HB4 := Lib.hid (HB3'.out.trans (hb4.mono HB3'.out.size))
            clear hb4
            go_wp2
            go_ret
            exact ⟨rfl, HB4.out⟩
end Go.Proofs.YtjjmifidjeaefaaDoor
