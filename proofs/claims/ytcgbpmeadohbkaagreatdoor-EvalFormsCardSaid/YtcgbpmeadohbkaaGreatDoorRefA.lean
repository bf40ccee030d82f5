import Derived.Shelf.Strings.Builder1
import Derived.Lib.PathFns
import Derived.Lib.SmallJoins
import Derived.Deep.QuietTactic
import Derived.BigQuiet
import Derived.Lib.ConvBytes
import Derived.Lib.LazyBuf
import Derived.Test.YtcgbpmeadohbkaaGreatDoorOwn
import Derived.Test.YtcgbpmeadohbkaaGreatDoorPar
import Derived.Test.YtcgbpmeadohbkaaGreatDoorParF
import Derived.Test.YtcgbpmeadohbkaaGreatDoorShelf
namespace Go.Proofs.YtcgbpmeadohbkaaGreatDoor
open Go.RowKit Go.Shelf
set_option maxRecDepth 100000
theorem bsl_from (s : ByteArray) (k : Nat) : bsl (s.extract k s.size) = (bsl s).drop k := Lib.extract_to_end s k
theorem bsl_mk (l : List UInt8) : bsl ⟨l.toArray⟩ = l := by simp [bsl]
theorem bsl_drop_cons (s : ByteArray) (k : Nat) (h : k < s.size) : (bsl s).drop k = s[k]'h :: (bsl s).drop (k + 1) := by
 have h' : k < (bsl s).length := by rw [bsl_length]; exact h
 rw [List.drop_eq_getElem_cons h']
 congr 1
structure GlobL (w : World) : Prop where
 maxLen : ∃ m, w.cell? ⟨0, 0, none⟩ = some (.int .i64 m)
 range : ∃ tp p, w.var? Tryz.prog "strconv.ErrRange" = some #[.iface tp p]
 size : 0 < w.heap.size
theorem globalRange : Tryz.prog.globalNamed "strconv.ErrRange" = some 4 := by kernel_rfl
theorem GlobL.keep {w w' : World} (h : GlobL w) (hb : Below w.heap.size w w') : GlobL w' := by
 obtain ⟨m, hm⟩ := h.maxLen
 obtain ⟨tp, p, hr⟩ := h.range
 exact ⟨⟨m, by rw [hb.cell (p := ⟨0, 0, none⟩) h.size]; exact hm⟩, ⟨tp, p, Joins.var_stays globalRange hr hb (Nat.le_refl _)⟩, Nat.lt_of_lt_of_le h.size hb.size⟩
def nameE (l : List UInt8) : Option (Nat × List UInt8 × Int × Nat) :=
 if Lx.span Lx.isNameB l ≤ 16 then
  (
   if Lx.isWord ((l.take (Lx.span Lx.isNameB l)).map Lib.upperB) then some (2, (l.take (Lx.span Lx.isNameB l)).map Lib.upperB, 0, Lx.span Lx.isNameB l)
   else some (1, (l.take (Lx.span Lx.isNameB l)).map Lib.lowerB, 0, Lx.span Lx.isNameB l))
 else none
def numberE (l : List UInt8) : Option (Nat × List UInt8 × Int × Nat) :=
 if Lx.num (l.take (Lx.span Lx.isDigit l)) ≤ 9223372036854775807 ∧ (l.drop (Lx.span Lx.isDigit l)).head?.all (fun d => !Lx.isLetter d) then
  some (3, [], (Lx.num (l.take (Lx.span Lx.isDigit l)) : Int), Lx.span Lx.isDigit l) else none
def opE (l : List UInt8) : Option (Nat × List UInt8 × Int × Nat) :=
 if Lx.ops2.contains (l.take 2) then some (5, l.take 2, 0, 2)
 else match l with
  | [] => none
  | c :: _ => if Lx.ops1.contains c then some (5, [c], 0, 1) else none
end Go.Proofs.YtcgbpmeadohbkaaGreatDoor
namespace Go.Proofs.YtcgbpmeadohbkaaGreatDoor
open Go.RowKit Go.Shelf
set_option maxRecDepth 100000
def textE (l : List UInt8) : Option (Nat × List UInt8 × Int × Nat) := (Lx.quote (l.drop 1)).map fun x => (4, x.1, 0, x.2 + 1)
structure TextAt (l : List UInt8) (acc : List UInt8) (n : Nat) : Prop where
 pos : 1 ≤ n
 len : acc.length ≤ n
 is : Lx.quote (l.drop 1) = (Lx.quote (l.drop n)).map fun x => (acc ++ x.1, x.2 + (n - 1))
theorem TextAt.start (l : List UInt8) : TextAt l [] 1 := ⟨Nat.le_refl _, by simp, by simp⟩
theorem TextAt.plain {l acc : List UInt8} {n : Nat} (h : TextAt l acc n) {c : UInt8} (hc : l[n]? = some c) (h39 : c ≠ 39) : TextAt l (acc ++ [c]) (n + 1) := by
 have hp := h.pos
 obtain ⟨hn, he⟩ := List.getElem?_eq_some_iff.1 hc
 have e : l.drop n = c :: l.drop (n + 1) := by rw [List.drop_eq_getElem_cons hn, he]
 refine ⟨by omega, by simpa using h.len, ?_⟩
 rw [h.is, e]
 cases hr : l.drop (n + 1) with
 | nil => simp [Lx.quote, h39]
 | cons d r =>
  simp only [Lx.quote, if_neg h39]
  cases Lx.quote (d :: r) with
  | none => rfl
  | some x =>
   simp
   omega
theorem TextAt.twice {l acc : List UInt8} {n : Nat} (h : TextAt l acc n) (hc : l[n]? = some 39) (hd : l[n + 1]? = some 39) : TextAt l (acc ++ [39]) (n + 2) := by
 have hp := h.pos
 have hl := h.len
 obtain ⟨hn, he⟩ := List.getElem?_eq_some_iff.1 hc
 obtain ⟨hn2, he2⟩ := List.getElem?_eq_some_iff.1 hd
 have e : l.drop n = 39 :: 39 :: l.drop (n + 2) := by rw [List.drop_eq_getElem_cons hn, he, List.drop_eq_getElem_cons hn2, he2]
 refine ⟨by omega, by simp; omega, ?_⟩
 rw [h.is, e]
 simp only [Lx.quote, if_true]
 cases Lx.quote (l.drop (n + 2)) with
 | none => rfl
 | some x =>
  simp
  omega
theorem TextAt.stop {l acc : List UInt8} {n : Nat} (h : TextAt l acc n) (hc : l[n]? = some 39) (hd : l[n + 1]? ≠ some 39) : textE l = some (4, acc, 0, n + 1) := by
 have hp := h.pos
 obtain ⟨hn, he⟩ := List.getElem?_eq_some_iff.1 hc
 have e : l.drop n = 39 :: l.drop (n + 1) := by rw [List.drop_eq_getElem_cons hn, he]
 rw [textE, h.is, e]
 rw [← List.head?_drop] at hd
 cases hr : l.drop (n + 1) with
 | nil => simp [Lx.quote]; omega
 | cons d r =>
  rw [hr] at hd
  simp at hd
  simp [Lx.quote, hd]; omega
theorem TextAt.none {l acc : List UInt8} {n : Nat} (h : TextAt l acc n) (hn : l.length ≤ n) : textE l = .none := by
 rw [textE, h.is, List.drop_eq_nil_of_le hn]
 rfl
theorem tok1_eq (c : UInt8) (r : List UInt8) : Lx.tok1 (c :: r) =
 (if Lx.isLetter c then nameE (c :: r) else if Lx.isDigit c then numberE (c :: r) else if c = 39 then textE (c :: r) else opE (c :: r)) := by
 have hx : ∀ c : UInt8, Lx.isLetter c = true → Lx.isDigit c = false := by
  apply u8_all
  decide +kernel
 rw [Lx.tok1]
 cases hl : Lx.isLetter c
 ·simp [numberE, textE, opE]
 ·rw [hx c hl]
  simp [nameE]
end Go.Proofs.YtcgbpmeadohbkaaGreatDoor
namespace Go.Proofs.YtcgbpmeadohbkaaGreatDoor
open Go.RowKit Go.Shelf
set_option maxRecDepth 100000
theorem skip_done : ∀ (b : Bool) (l : List UInt8), Lx.skip false (l.drop (Lx.skip b l)) = 0
 | true, [] => by simp [Lx.skip]
 | false, [] => by simp [Lx.skip]
 | true, c :: r => by
  by_cases h : c = 10
  ·simp only [Lx.skip, if_pos h, List.drop_succ_cons]; exact skip_done false r
  ·simp only [Lx.skip, if_neg h, List.drop_succ_cons]; exact skip_done true r
 | false, c :: r => by
  by_cases h : Lx.isBlank c = true
  ·simp only [Lx.skip, if_pos h, List.drop_succ_cons]; exact skip_done false r
  ·by_cases h2 : c = 45 ∧ r.head? = some 45
   ·simp only [Lx.skip, if_neg h, if_pos h2, List.drop_succ_cons]; exact skip_done true r
   ·simp only [Lx.skip, if_neg h, if_neg h2, List.drop_zero]
def tokC (t : Lx.Tok) : List Value := [.int .i64 t.kind, .string ⟨t.text.toArray⟩, .int .i64 t.n, .int .i64 t.pos]
def tokCs (l : List Lx.Tok) : List Value := l.flatMap tokC
structure TokensAt (l : List UInt8) (acc : List Lx.Tok) (pos : Nat) : Prop where
 len : acc.length ≤ pos
 le : pos ≤ l.length
 skip : Lx.skip false (l.drop pos) = 0
 is : Lx.lex l = Lx.lexAt acc pos (l.drop pos)
theorem TokensAt.start (l : List UInt8) : TokensAt l [] (Lx.skip false l) := by
 refine ⟨Nat.zero_le _, Lx.skip_le _ _, skip_done false l, ?_⟩
 rw [Lx.lex_eq, Lx.lexAt_skip (m := Lx.skip false l) (by rw [skip_done]; rfl), Nat.zero_add]
theorem TokensAt.done {l : List UInt8} {acc : List Lx.Tok} {pos : Nat} (h : TokensAt l acc pos) (hp : l.length ≤ pos) : Lx.lex l = .ok acc := by
 rw [h.is, List.drop_eq_nil_of_le hp]
 exact Lx.lexAt_end rfl
theorem TokensAt.err {l : List UInt8} {acc : List Lx.Tok} {pos : Nat} (h : TokensAt l acc pos) (hp : pos < l.length) (ht : Lx.tok1 (l.drop pos) = none) : Lx.lex l = .error pos := by
 rw [h.is]
 have e := List.drop_eq_getElem_cons hp
 rw [Lx.lexAt_err (c := l[pos]) (r := l.drop (pos + 1)) (by rw [h.skip, List.drop_zero, e]) (by rw [← e]; exact ht), h.skip, Nat.add_zero]
theorem TokensAt.next {l : List UInt8} {acc : List Lx.Tok} {pos : Nat} (h : TokensAt l acc pos) (hp : pos < l.length) {x} (ht : Lx.tok1 (l.drop pos) = some x) :
 TokensAt l (acc ++ [⟨x.1, x.2.1, x.2.2.1, pos⟩]) (pos + x.2.2.2 + Lx.skip false (l.drop (pos + x.2.2.2))) := by
 have e := List.drop_eq_getElem_cons hp
 have hx := Lx.tok1_pos ht
 rw [List.length_drop] at hx
 have hs := Lx.skip_le false (l.drop (pos + x.2.2.2))
 rw [List.length_drop] at hs
 refine ⟨?_, by omega, ?_, ?_⟩
 ·have := h.len
  simp; omega
 ·rw [← List.drop_drop]; exact skip_done _ _
 ·rw [h.is, Lx.lexAt_tok (c := l[pos]) (r := l.drop (pos + 1)) (by rw [h.skip, List.drop_zero, e]) (by rw [← e]; exact ht), h.skip, Nat.add_zero, ← e, List.drop_drop,
   Lx.lexAt_skip (m := Lx.skip false (l.drop (pos + x.2.2.2))) (by rw [skip_done]; rfl), List.drop_drop]
end Go.Proofs.YtcgbpmeadohbkaaGreatDoor
namespace Go.Proofs.YtcgbpmeadohbkaaGreatDoor
open Go.RowKit Go.Shelf
set_option maxRecDepth 100000
def Toks (w : World) (v : Value) (L : List Lx.Tok) : Prop :=
 (v = .slice none 0 0 ∧ L = []) ∨ ∃ g cap, v = .slice (some ⟨g, 0, none⟩) L.length cap ∧ L.length ≤ cap ∧ cap ≤ maxLen ∧ g < w.heap.size ∧ ∀ j, j < L.length * 4 → w.cell? ⟨g, j, none⟩ = (tokCs L)[j]?
theorem Toks.of {w : World} {B : Nat} {v : Value} {L : List Lx.Tok} (h : w.ownsRow B 146 4 v L.length (tokCs L)) : Toks w v L := by
 rcases h.2 with ⟨rfl, h0⟩ | ⟨g, cap, cur, rfl, hB, hh, hn, hm, _⟩
 ·exact Or.inl ⟨rfl, List.eq_nil_of_length_eq_zero h0⟩
 ·exact Or.inr ⟨g, cap, rfl, hn, hm, (Array.getElem?_eq_some_iff.1 hh).1, fun j hj => h.cellAt j hj⟩
theorem Toks.keep {w w' : World} {v : Value} {L : List Lx.Tok} (h : Toks w v L) (hb : Below w.heap.size w w') : Toks w' v L := by
 rcases h with h | ⟨g, cap, h1, h2, h3, h4, h5⟩
 ·exact Or.inl h
 ·exact Or.inr ⟨g, cap, h1, h2, h3, Nat.lt_of_lt_of_le h4 hb.size, fun j hj => by rw [hb.cell (p := ⟨g, j, none⟩) h4]; exact h5 j hj⟩
theorem Toks.cons {w : World} {v : Value} {t : Lx.Tok} {L : List Lx.Tok} (h : Toks w v (t :: L)) : ∃ g cap, v = .slice (some ⟨g, 0, none⟩) (L.length + 1) cap ∧ L.length + 1 ≤ cap ∧ cap ≤ maxLen ∧ ∀ j, j < (L.length + 1) * 4 → w.cell? ⟨g, j, none⟩ = (tokCs (t :: L))[j]? := by
 rcases h with ⟨_, h⟩ | ⟨g, cap, h1, h2, h3, _, h5⟩
 ·cases h
 ·exact ⟨g, cap, h1, h2, h3, h5⟩
theorem bytes_ne {a : List UInt8} {s : ByteArray} : (a == s.toList) = decide (a = bsl s) := by
 rw [ByteArray.toList_eq, Bool.eq_iff_iff, beq_iff_eq, decide_eq_true_iff]
 exact Iff.rfl
end Go.Proofs.YtcgbpmeadohbkaaGreatDoor
namespace Go.Proofs.YtcgbpmeadohbkaaGreatDoor
open Go.RowKit Go.Lib
set_option maxRecDepth 100000
structure PSt where
 i : Nat
 deep : Nat
 at_ : Int
 e : Int
def TokAt (w : World) (g : Nat) (T : List Lx.Tok) : Prop := g < w.heap.size ∧ ∀ j, j < T.length * 4 → w.cell? ⟨g, j, none⟩ = (tokCs T)[j]?
theorem TokAt.ext {w w' : World} {g : Nat} {T : List Lx.Tok} (h : TokAt w g T) (hx : w'.heap[g]? = w.heap[g]?) (hs : w.heap.size ≤ w'.heap.size) : TokAt w' g T :=
 ⟨Nat.lt_of_lt_of_le h.1 hs, fun j hj => by rw [show w'.cell? ⟨g, j, none⟩ = w.cell? ⟨g, j, none⟩ by simp [World.cell?, hx]]; exact h.2 j hj⟩
theorem tokCs_get : ∀ (T : List Lx.Tok) (i : Nat) (t : Lx.Tok), T[i]? = some t → ∀ j, j < 4 → (tokCs T)[i * 4 + j]? = (tokC t)[j]?
 | y :: T, 0, t, h, j, hj => by
  obtain rfl : y = t := by simpa using h
  rw [Nat.zero_mul, Nat.zero_add]
  simp only [tokCs, List.flatMap_cons]
  rw [List.getElem?_append_left (by simp [tokC]; omega)]
 | y :: T, i + 1, t, h, j, hj => by
  have ih := tokCs_get T i t (by simpa using h) j hj
  simp only [tokCs, List.flatMap_cons] at ih ⊢
  rw [List.getElem?_append_right (by simp [tokC]; omega), ← ih]
  congr 1
  simp [tokC]; omega
theorem TokAt.get {w : World} {g : Nat} {T : List Lx.Tok} (h : TokAt w g T) {i : Nat} {t : Lx.Tok} (hi : T[i]? = some t) :
 w.cell? ⟨g, i * 4, none⟩ = some (.int .i64 t.kind) ∧ w.cell? ⟨g, i * 4 + 1, none⟩ = some (.string ⟨t.text.toArray⟩) ∧ w.cell? ⟨g, i * 4 + 2, none⟩ = some (.int .i64 t.n) ∧ w.cell? ⟨g, i * 4 + 3, none⟩ = some (.int .i64 t.pos) := by
 have hl := (List.getElem?_eq_some_iff.1 hi).1
 have hc : ∀ j, j < 4 → w.cell? ⟨g, i * 4 + j, none⟩ = (tokC t)[j]? := fun j hj => by
  rw [h.2 _ (by omega), tokCs_get T i t hi j hj]
 exact ⟨hc 0 (by omega), hc 1 (by omega), hc 2 (by omega), hc 3 (by omega)⟩
def psA (g n : Nat) : Option Addr := if n = 0 then none else some ⟨g, 0, none⟩
theorem psA_pos {g n : Nat} (h : 0 < n) : psA g n = some ⟨g, 0, none⟩ := if_neg (by omega)
def psC (g cap n long : Nat) (s : PSt) : Array Value := #[.slice (psA g n) n cap, .int .i64 s.i, .int .i64 long, .int .i64 s.deep, .int .i64 s.at_, .int .i64 s.e]
structure PsAt (w : World) (p g cap long : Nat) (T : List Lx.Tok) (s : PSt) : Prop where
 blk : Blk w p (psC g cap T.length long s) 111
 tok : TokAt w g T
 ne : g ≠ p
 le : s.i ≤ T.length
 cap : T.length ≤ cap
 few : T.length ≤ 4000
theorem PsAt.ext {w w' : World} {p g cap long : Nat} {T : List Lx.Tok} {s : PSt} (h : PsAt w p g cap long T s) (hx : Ext w w') : PsAt w' p g cap long T s :=
 ⟨h.blk.keep hx, h.tok.ext (hx.block g h.tok.1) hx.size, h.ne, h.le, h.cap, h.few⟩
theorem bel_drewN (w : World) (n : Nat) : Below w.heap.size w (w.drewN n) := ⟨rfl, rfl, rfl, Nat.le_refl _, fun _ _ => rfl⟩
theorem eq_texts (l : List UInt8) (s : ByteArray) : (l == s.toList) = (l == bsl s) := by
 rw [ByteArray.toList_eq]
 rfl
end Go.Proofs.YtcgbpmeadohbkaaGreatDoor
namespace Go.Proofs.YtcgbpmeadohbkaaGreatDoor
open Go.RowKit Go.Lib
set_option maxRecDepth 100000
structure LeP (p : Nat) (w w' : World) : Prop where
 os : w'.os = w.os
 tape : w'.tape = w.tape
 out : w'.output = w.output
 size : w.heap.size ≤ w'.heap.size
 old : ∀ i, i < w.heap.size → i ≠ p → w'.heap[i]? = w.heap[i]?
theorem leX : IsLe Ext := ⟨Ext.refl, Ext.trans, fun h => ⟨h.os, h.tape, h.output, h.size, h.block⟩⟩
theorem LeP.refl (p : Nat) (w : World) : LeP p w w := ⟨rfl, rfl, rfl, Nat.le_refl _, fun _ _ _ => rfl⟩
theorem LeP.trans {p : Nat} {a b c : World} (h : LeP p a b) (k : LeP p b c) : LeP p a c :=
 ⟨k.os.trans h.os, k.tape.trans h.tape, k.out.trans h.out, Nat.le_trans h.size k.size, fun i h1 h2 => (k.old i (Nat.lt_of_lt_of_le h1 h.size) h2).trans (h.old i h1 h2)⟩
theorem LeP.ofExt {p : Nat} {w w' : World} (h : Ext w w') : LeP p w w' := ⟨h.os, h.tape, h.output, h.size, fun i hi _ => h.block i hi⟩
theorem LeP.set {p : Nat} {w : World} (o : Nat) (v : Value) : LeP p w (w.setCell ⟨p, o, none⟩ v) := ⟨rfl, rfl, rfl, by simp, fun i _ hn => heap_setCell_other w ⟨p, o, none⟩ i v hn⟩
theorem LeP.blk {p : Nat} {w w' : World} (h : LeP p w w') {i : Nat} {cs : Array Value} {t : TypeId} (hb : Blk w i cs t) (hn : i ≠ p) : Blk w' i cs t := (h.old i hb.lt hn).trans hb
theorem LeP.below {p : Nat} {w0 w w' : World} (h0 : Below w0.heap.size w0 w) (h : LeP p w w') (hp : w0.heap.size ≤ p) : Below w0.heap.size w0 w' :=
 ⟨h.os.trans h0.os, h.tape.trans h0.tape, h.out.trans h0.output, Nat.le_trans h0.size h.size, fun i hi => (h.old i (Nat.lt_of_lt_of_le hi h0.size) (by omega)).trans (h0.block i hi)⟩
theorem PsAt.set {w w' : World} {p g cap long : Nat} {T : List Lx.Tok} {s s' : PSt} (h : PsAt w p g cap long T s) (hx : LeP p w w') (hb : Blk w' p (psC g cap T.length long s') 111) (hi : s'.i ≤ T.length) : PsAt w' p g cap long T s' :=
 ⟨hb, h.tok.ext (hx.old g h.tok.1 h.ne) hx.size, h.ne, hi, h.cap, h.few⟩
def advP (b : Bool) (s : PSt) : PSt := if b then { s with i := s.i + 1 } else s
def wrongP (T : List Lx.Tok) (long : Nat) (er : Int) (s : PSt) : PSt := if s.e = 0 then { s with e := er, at_ := match T[s.i]? with | some t => (t.pos : Int) | none => (long : Int) } else s
end Go.Proofs.YtcgbpmeadohbkaaGreatDoor
namespace Go.Proofs.YtcgbpmeadohbkaaGreatDoor
open Go.RowKit Go.Shelf
set_option maxRecDepth 100000
set_option maxHeartbeats 1000000 in
theorem refletter_any (c : UInt8) (w : World) :
 Calls Tryz.prog 137 #[.int .u8 c.toNat] w fun e w' => e = .returned (.bool (Lx.isNameB c)) ∧ w = w' := by
 have hL := isLetter_eq c
 have hB : Lx.isNameB c = (Lx.isLetter c || Lx.isDigit c) := rfl
 rw [hB, hL]
 clear hB hL
 have hc := c.toNat_lt
 go_enter Tryz.func137, Tryz.ntmps137
 go_wp2_with (go_at_call 135; refine (refdigit_any c w).mono ?_; rintro e w' ⟨rfl, rfl⟩)
 all_goals (go_ret; refine ⟨ret_bool ?_, rfl⟩)
 all_goals first
  | rfl
  | (generalize Lx.isDigit c = d; rw [Bool.eq_iff_iff]; cases d <;> simp <;> omega)
structure BRow (W : World) (b : Nat) (l : List UInt8) : Prop where
 cell : ∀ (j : Nat) (c : UInt8), l[j]? = some c → W.cell? ⟨b, j, none⟩ = some (.int .u8 c.toNat)
 free : ∀ j, j < l.length → W.frozen? ⟨b, j, none⟩ = false
theorem BRow.start (w : World) (s : ByteArray) : BRow (Lib.bytesWorld w 5 s) w.heap.size (bsl s) := by
 refine ⟨fun j c hc => ?_, fun j hj => ?_⟩
 ·have hj : j < s.size := by rw [← bsl_length]; exact (List.getElem?_eq_some_iff.1 hc).1
  rw [Lib.bytesWorld_cell w _ s j hj]
  have e : s.data.toList.getD j 0 = c := by
   rw [List.getD, show s.data.toList[j]? = some c from hc]; rfl
  rw [e]
 ·rw [bsl_length] at hj
  have hb := Lib.bytesWorld_at_new w 5 s
  have hsz : s.size ≤ (Lib.bytesCells w 5 s).size := by
   rcases Nat.lt_or_ge ((Lib.bytesCells w 5 s).size) s.size with h | h
   ·exfalso
    have h1 := Lib.bytesWorld_cell w 5 s ((Lib.bytesCells w 5 s).size) h
    simp [World.cell?, hb] at h1
   ·exact h
  simp [World.frozen?, hb]
  omega
theorem BRow.set {W : World} {b k : Nat} {a r : List UInt8} {c : UInt8} {d : List UInt8} (h : BRow W b (a ++ d)) (hk : a.length = k) (hd : d = c :: r) (u : UInt8) : BRow (W.setCell ⟨b, k, none⟩ (.int .u8 u.toNat)) b (a ++ u :: r) := by
 subst hd
 refine ⟨fun j x hx => ?_, fun j hj => ?_⟩
 ·rcases Nat.lt_trichotomy j k with hlt | rfl | hgt
  ·rw [World.cell?_setCell_other _ _ _ _ (by intro h; simp only [Addr.mk.injEq] at h; omega)]
   apply h.cell
   rw [List.getElem?_append_left (by omega)] at hx ⊢
   exact hx
  ·rw [List.getElem?_append_right (by omega), hk, Nat.sub_self, List.getElem?_cons_zero] at hx
   cases hx
   exact World.cell?_setCell_same _ _ _ (h.cell j c (by rw [List.getElem?_append_right (by omega), hk, Nat.sub_self]; rfl))
  ·rw [World.cell?_setCell_other _ _ _ _ (by intro h; simp only [Addr.mk.injEq] at h; omega)]
   apply h.cell
   rw [List.getElem?_append_right (by omega)] at hx ⊢
   rw [show j - a.length = (j - a.length - 1) + 1 by omega, List.getElem?_cons_succ] at hx ⊢
   exact hx
 ·rw [World.frozen?_setCell]
  exact h.free j (by simpa using hj)
theorem BRow.nums {W : World} {b : Nat} {l : List UInt8} (h : BRow W b l) : ∀ i, i < l.length → W.cell? ⟨b, 0 + i, none⟩ = some (.int .u8 ((l.map fun c => (c.toNat : Int)).getD i 0)) := by
 intro i hi
 rw [Nat.zero_add, h.cell i _ (List.getElem?_eq_getElem hi)]
 simp [List.getD, List.getElem?_eq_getElem hi]
theorem upperB_eq (c : UInt8) : Lib.upperB c = if 97 ≤ c.toNat ∧ c.toNat ≤ 122 then c - 32 else c := by
 simp [Lib.upperB, Lib.isLowerB, UInt8.le_iff_toNat_le]
theorem lowerB_eq (c : UInt8) : Lib.lowerB c = if 65 ≤ c.toNat ∧ c.toNat ≤ 90 then c + 32 else c := by
 simp [Lib.lowerB, Lib.isUpperB, UInt8.le_iff_toNat_le]
theorem u8_sub32 {c : UInt8} (h : 97 ≤ c.toNat) : (((c - 32).toNat : Nat) : Int) = (c.toNat : Int) - 32 := by
 rw [UInt8.toNat_sub_of_le _ _ (by rw [UInt8.le_iff_toNat_le]; show 32 ≤ _; omega)]
 show ((c.toNat - 32 : Nat) : Int) = _
 omega
theorem u8_add32 {c : UInt8} (h : c.toNat ≤ 90) : (((c + 32).toNat : Nat) : Int) = (c.toNat : Int) + 32 := by
 rw [UInt8.toNat_add]
 show (((c.toNat + 32) % 256 : Nat) : Int) = _
 omega
set_option maxHeartbeats 1000000 in
theorem refupper_any (s : ByteArray) (w : World) (hs : s.size ≤ 140737488355327) :
 Calls Tryz.prog 138 #[.string s] w fun e w' => e = .returned (.string ⟨((bsl s).map Lib.upperB).toArray⟩) ∧ Below w.heap.size w w' := by
 go_enter Tryz.func138, Tryz.ntmps138
 go_wp2_with fail
 rw [Lib.run_convert_string_bytes w 9 83 5 s Tryz.underlying9 Tryz.underlying83 Tryz.underlying5]
 have hrow := BRow.start w s
 have hbel := Lib.bytesWorld_below w 5 s
 generalize hW1 : Lib.bytesWorld w 5 s = W1 at hrow hbel ⊢
 clear hW1
 generalize hcap : grownCap w s.size 0 5 = cap
 clear hcap
 have HB1 := Lib.hid hbel
 have HR1 := Lib.hid hrow
 clear hbel hrow
 go_wp2_with fail
 go_loopw [4] (fun i W => ∃ k : Nat, i = .int .i64 k ∧ k ≤ s.size ∧ BRow W w.heap.size (((bsl s).take k).map Lib.upperB ++ (bsl s).drop k) ∧ Below w.heap.size w W) (fun i _ => s.size - (intOf i).toNat)
 case atStart => exact ⟨0, rfl, Nat.zero_le _, by simpa using HR1.out, HB1.out⟩
 case round =>
  obtain ⟨k, rfl, hk, hR, hB⟩ := hrel
  have HR := Lib.hid hR
  have HB := Lib.hid hB
  clear hR hB
  by_cases hlt : k < s.size
  ·have hd := bsl_drop_cons s k hlt
   have ht : (bsl s).take (k + 1) = (bsl s).take k ++ [s[k]'hlt] := by rw [List.take_add_one, bsl_get s k hlt]; rfl
   have hl : (((bsl s).take k).map Lib.upperB).length = k := by rw [List.length_map, List.length_take, bsl_length]; omega
   have hc := HR.out.cell k (s[k]'hlt) (by rw [hd, List.getElem?_append_right (by omega), hl]; simp)
   have hf := HR.out.free k (by rw [List.length_append, hl, List.length_drop, bsl_length]; omega)
   have HU := Lib.hid (upperB_eq (s[k]'hlt))
   have HN := Lib.hid (BRow.set HR.out hl hd)
   have HT := Lib.hid ht
   have hc8 := (s[k]'hlt).toNat_lt
   have HD := Lib.hid hd
   generalize s[k]'hlt = c at hc HU HN HT HD hc8
   clear hd hl ht
   by_cases hin : 97 ≤ c.toNat ∧ c.toNat ≤ 122
   ·obtain ⟨h1, h2⟩ := hin
    go_wp2_with fail
    go_roundw
    case rel =>
     have hu : Lib.upperB c = c - 32 := by rw [HU.out, if_pos ⟨h1, h2⟩]
     refine ⟨k + 1, by go_num, hlt, ?_, HB.out.setCell (p := ⟨w.heap.size, k, none⟩) (Nat.le_refl _) _⟩
     have := HN.out (Lib.upperB c)
     rw [HT.out, List.map_append, List.append_assoc]
     have e : (((Lib.upperB c).toNat : Nat) : Int) = (c.toNat : Int) - 32 := by rw [hu, u8_sub32 h1]
     rw [e] at this
     exact this
    case measure => simp [intOf]; omega
   ·go_wp2_with fail
    all_goals
     go_roundw
     case rel =>
      have hu : Lib.upperB c = c := by rw [HU.out, if_neg hin]
      refine ⟨k + 1, by go_num, hlt, ?_, HB.out⟩
      rw [HT.out, List.map_append, List.append_assoc, List.map_cons, List.map_nil, hu, List.singleton_append, ← HD.out]
      exact HR.out
     case measure => simp [intOf]; omega
  ·have hfin : BRow wr w.heap.size ((bsl s).map Lib.upperB) := by
    have := HR.out
    rwa [List.take_of_length_le (by rw [bsl_length]; omega), List.drop_eq_nil_of_le (by rw [bsl_length]; omega), List.append_nil] at this
   go_wp2_with fail
   rw [run_convert_bytes_arg _ 83 5 Tryz.underlying83 Tryz.underlying5 w.heap.size 0 s.size cap (((bsl s).map Lib.upperB).map fun c => (c.toNat : Int)) (by simp [bsl_length]) (fun i hi => hfin.nums i (by rw [List.length_map, bsl_length]; exact hi)) 9 Tryz.underlying9]
   rw [Lib.Lz.strOfNums_map]
   go_wp2_with fail
   go_ret
   exact ⟨rfl, HB.out⟩
set_option maxHeartbeats 1000000 in
theorem reflower_any (s : ByteArray) (w : World) (hs : s.size ≤ 140737488355327) :
 Calls Tryz.prog 140 #[.string s] w fun e w' => e = .returned (.string ⟨((bsl s).map Lib.lowerB).toArray⟩) ∧ Below w.heap.size w w' := by
 go_enter Tryz.func140, Tryz.ntmps140
 go_wp2_with fail
 rw [Lib.run_convert_string_bytes w 9 83 5 s Tryz.underlying9 Tryz.underlying83 Tryz.underlying5]
 have hrow := BRow.start w s
 have hbel := Lib.bytesWorld_below w 5 s
 generalize hW1 : Lib.bytesWorld w 5 s = W1 at hrow hbel ⊢
 clear hW1
 generalize hcap : grownCap w s.size 0 5 = cap
 clear hcap
 have HB1 := Lib.hid hbel
 have HR1 := Lib.hid hrow
 clear hbel hrow
 go_wp2_with fail
 go_loopw [4] (fun i W => ∃ k : Nat, i = .int .i64 k ∧ k ≤ s.size ∧ BRow W w.heap.size (((bsl s).take k).map Lib.lowerB ++ (bsl s).drop k) ∧ Below w.heap.size w W) (fun i _ => s.size - (intOf i).toNat)
 case atStart => exact ⟨0, rfl, Nat.zero_le _, by simpa using HR1.out, HB1.out⟩
 case round =>
  obtain ⟨k, rfl, hk, hR, hB⟩ := hrel
  have HR := Lib.hid hR
  have HB := Lib.hid hB
  clear hR hB
  by_cases hlt : k < s.size
  ·have hd := bsl_drop_cons s k hlt
   have ht : (bsl s).take (k + 1) = (bsl s).take k ++ [s[k]'hlt] := by rw [List.take_add_one, bsl_get s k hlt]; rfl
   have hl : (((bsl s).take k).map Lib.lowerB).length = k := by rw [List.length_map, List.length_take, bsl_length]; omega
   have hc := HR.out.cell k (s[k]'hlt) (by rw [hd, List.getElem?_append_right (by omega), hl]; simp)
   have hf := HR.out.free k (by rw [List.length_append, hl, List.length_drop, bsl_length]; omega)
   have HU := Lib.hid (lowerB_eq (s[k]'hlt))
   have HN := Lib.hid (BRow.set HR.out hl hd)
   have HT := Lib.hid ht
   have hc8 := (s[k]'hlt).toNat_lt
   have HD := Lib.hid hd
   generalize s[k]'hlt = c at hc HU HN HT HD hc8
   clear hd hl ht
   by_cases hin : 65 ≤ c.toNat ∧ c.toNat ≤ 90
   ·obtain ⟨h1, h2⟩ := hin
    go_wp2_with fail
    go_roundw
    case rel =>
     have hu : Lib.lowerB c = c + 32 := by rw [HU.out, if_pos ⟨h1, h2⟩]
     refine ⟨k + 1, by go_num, hlt, ?_, HB.out.setCell (p := ⟨w.heap.size, k, none⟩) (Nat.le_refl _) _⟩
     have := HN.out (Lib.lowerB c)
     rw [HT.out, List.map_append, List.append_assoc]
     have e : (((Lib.lowerB c).toNat : Nat) : Int) = (c.toNat : Int) + 32 := by rw [hu, u8_add32 h2]
     rw [e] at this
     exact this
    case measure => simp [intOf]; omega
   ·go_wp2_with fail
    all_goals
     go_roundw
     case rel =>
      have hu : Lib.lowerB c = c := by rw [HU.out, if_neg hin]
      refine ⟨k + 1, by go_num, hlt, ?_, HB.out⟩
      rw [HT.out, List.map_append, List.append_assoc, List.map_cons, List.map_nil, hu, List.singleton_append, ← HD.out]
      exact HR.out
     case measure => simp [intOf]; omega
  ·have hfin : BRow wr w.heap.size ((bsl s).map Lib.lowerB) := by
    have := HR.out
    rwa [List.take_of_length_le (by rw [bsl_length]; omega), List.drop_eq_nil_of_le (by rw [bsl_length]; omega), List.append_nil] at this
   go_wp2_with fail
   rw [run_convert_bytes_arg _ 83 5 Tryz.underlying83 Tryz.underlying5 w.heap.size 0 s.size cap (((bsl s).map Lib.lowerB).map fun c => (c.toNat : Int)) (by simp [bsl_length]) (fun i hi => hfin.nums i (by rw [List.length_map, bsl_length]; exact hi)) 9 Tryz.underlying9]
   rw [Lib.Lz.strOfNums_map]
   go_wp2_with fail
   go_ret
   exact ⟨rfl, HB.out⟩
end Go.Proofs.YtcgbpmeadohbkaaGreatDoor
