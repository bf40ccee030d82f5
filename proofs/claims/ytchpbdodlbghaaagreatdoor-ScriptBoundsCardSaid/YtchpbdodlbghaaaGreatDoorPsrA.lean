import Derived.Deep.QuietTactic
import Derived.BigQuiet
import Derived.Test.YtchpbdodlbghaaaGreatDoorLexD
import Derived.Test.YtchpbdodlbghaaaGreatDoorPar
namespace Go.Proofs.YtchpbdodlbghaaaGreatDoor
open Go.RowKit Go.Lib
set_option maxRecDepth 100000

structure PSt where
  i : Nat
  deep : Nat
  at_ : Int
  e : Int
def TokAt (w : World) (g : Nat) (T : List Lx.Tok) : Prop := g < w.heap.size ∧ ∀ j, j < T.length * 4 → w.cell? ⟨g, j, none⟩ = (tokCs T)[j]?
theorem TokAt.ext {w w' : World} {g : Nat} {T : List Lx.Tok} (h : TokAt w g T) (hx : w'.heap[g]? = w.heap[g]?) (hs : w.heap.size ≤ w'.heap.size) : TokAt w' g T :=
  ⟨Nat.lt_of_lt_of_le h.1 hs, fun j hj => by rw [show w'.cell? ⟨g, j, none⟩ = w.cell? ⟨g, j, none⟩ by simp [World.cell?, hx]]; exact h.2 j hj⟩
theorem tokCs_get : ∀ (T : List Lx.Tok) (i : Nat) (t : Lx.Tok), T[i]? = some t → ∀ j, j < 4 → (tokCs T)[i * 4 + j]? = (tokC t)[j]?
  | y :: T, 0, t, h, j, hj => by
    obtain rfl : y = t := by simpa using h
    rw [Nat.zero_mul, Nat.zero_add]
    simp only [tokCs, List.flatMap_cons]
    rw [List.getElem?_append_left (by simp [tokC]; omega)]
  | y :: T, i + 1, t, h, j, hj => by
    have ih := tokCs_get T i t (by simpa using h) j hj
    simp only [tokCs, List.flatMap_cons] at ih ⊢
    rw [List.getElem?_append_right (by simp [tokC]; omega), ← ih]
    congr 1
    simp [tokC]; omega
theorem TokAt.get {w : World} {g : Nat} {T : List Lx.Tok} (h : TokAt w g T) {i : Nat} {t : Lx.Tok} (hi : T[i]? = some t) :
    w.cell? ⟨g, i * 4, none⟩ = some (.int .i64 t.kind) ∧ w.cell? ⟨g, i * 4 + 1, none⟩ = some (.string ⟨t.text.toArray⟩) ∧ w.cell? ⟨g, i * 4 + 2, none⟩ = some (.int .i64 t.n) ∧ w.cell? ⟨g, i * 4 + 3, none⟩ = some (.int .i64 t.pos) := by
  have hl := (List.getElem?_eq_some_iff.1 hi).1
  have hc : ∀ j, j < 4 → w.cell? ⟨g, i * 4 + j, none⟩ = (tokC t)[j]? := fun j hj => by
    rw [h.2 _ (by omega), tokCs_get T i t hi j hj]
  exact ⟨hc 0 (by omega), hc 1 (by omega), hc 2 (by omega), hc 3 (by omega)⟩
def psA (g n : Nat) : Option Addr := if n = 0 then none else some ⟨g, 0, none⟩
theorem psA_pos {g n : Nat} (h : 0 < n) : psA g n = some ⟨g, 0, none⟩ := if_neg (by omega)
def psC (g cap n long : Nat) (s : PSt) : Array Value := #[.slice (psA g n) n cap, .int .i64 s.i, .int .i64 long, .int .i64 s.deep, .int .i64 s.at_, .int .i64 s.e]
structure PsAt (w : World) (p g cap long : Nat) (T : List Lx.Tok) (s : PSt) : Prop where
  blk : Blk w p (psC g cap T.length long s) 168
  tok : TokAt w g T
  ne : g ≠ p
  le : s.i ≤ T.length
  cap : T.length ≤ cap
  few : T.length ≤ 4000
theorem PsAt.ext {w w' : World} {p g cap long : Nat} {T : List Lx.Tok} {s : PSt} (h : PsAt w p g cap long T s) (hx : Ext w w') : PsAt w' p g cap long T s :=
  ⟨h.blk.keep hx, h.tok.ext (hx.block g h.tok.1) hx.size, h.ne, h.le, h.cap, h.few⟩
def isB (T : List Lx.Tok) (s : PSt) (kind : Int) (x : List UInt8) : Bool := (s.e == 0) && (match T[s.i]? with | some t => ((t.kind : Int) == kind) && (t.text == x) | none => false)
theorem bel_drewN (w : World) (n : Nat) : Below w.heap.size w (w.drewN n) := ⟨rfl, rfl, rfl, Nat.le_refl _, fun _ _ => rfl⟩
theorem eq_texts (l : List UInt8) (s : ByteArray) : (l == s.toList) = (l == bsl s) := by
  rw [ByteArray.toList_eq]
  rfl
set_option maxHeartbeats 8000000 in
theorem is_any (p g cap long : Nat) (T : List Lx.Tok) (s : PSt) (kind : Int) (text : ByteArray) (w : World) (h : PsAt w p g cap long T s) :
    Calls Tryz.prog 79 #[.pointer (some ⟨p, 0, none⟩), .int .i64 kind, .string text] w fun e w' => e = .returned (.bool (isB T s kind (bsl text))) ∧ Below w.heap.size w w' := by
  have mixed : Tryz.prog.follows .mixedOrders = true := by kernel_rfl
  obtain ⟨i, deep, at_, e⟩ := s
  obtain ⟨hb, ht, hne, hle, hcap, hfew⟩ := h
  unfold psC at hb
  simp only at hb hle
  obtain ⟨n, hn⟩ : ∃ n, n = T.length := ⟨_, rfl⟩
  rw [← hn] at hb hle hcap hfew
  obtain ⟨ga, hga⟩ : ∃ ga, ga = psA g n := ⟨_, rfl⟩
  rw [← hga] at hb
  obtain ⟨cb, fb⟩ := hb.facts
  have hbl := hb.lt
  unfold isB
  simp only
  cases he : e == 0
  · rw [Bool.false_and]
    clear hle hcap hfew hn ht hb
    go_enter Tryz.func79, Tryz.ntmps79
    go_simp
    repeat (first | go_values | go_skip | go_guarded | go_step | go_upon)
    go_quiet (fail)
    go_wp2
    go_returns
    exact ⟨rfl, bel_drewN _ _⟩
  · rw [Bool.true_and]
    cases hti : T[i]? with
    | none =>
      have hge : n ≤ i := by rw [hn]; exact List.getElem?_eq_none_iff.1 hti
      have hnl : decide ((i : Int) < (n : Int)) = false := by rw [decide_eq_false_iff_not]; omega
      have hnl2 : decide (i < n) = false := by rw [decide_eq_false_iff_not]; omega
      simp only
      clear hle hcap hfew hn ht hti hge hb
      go_enter Tryz.func79, Tryz.ntmps79
      go_simp
      repeat (first | go_values | go_skip | go_guarded | go_step | go_upon)
      go_quiet (fail)
      go_wp2
      go_returns
      exact ⟨rfl, bel_drewN _ _⟩
    | some tok =>
      have hlt : i < n := by rw [hn]; exact (List.getElem?_eq_some_iff.1 hti).1
      have hltI : (i : Int) < (n : Int) := by omega
      rw [psA_pos (by omega)] at hga
      subst hga
      have hltB : decide ((i : Int) < (n : Int)) = true := by rw [decide_eq_true_iff]; exact hltI
      obtain ⟨q0, q1, _, _⟩ := ht.get hti
      have hgl := ht.1
      obtain ⟨tk', tt, tn, tp⟩ := tok
      simp only at q0 q1 ⊢
      obtain ⟨tk, htk⟩ : ∃ z : Int, z = (tk' : Int) := ⟨_, rfl⟩
      rw [← htk] at q0 ⊢
      have HQ := eq_texts tt text
      clear hle hn ht hti htk hb
      cases hk : tk == kind
      · rw [Bool.false_and]
        clear HQ
        go_enter Tryz.func79, Tryz.ntmps79
        go_simp
        repeat (first | go_values | go_skip | go_guarded | go_step | go_upon)
        go_quiet (fail)
        go_wp2
        go_returns
        exact ⟨rfl, bel_drewN _ _⟩
      · rw [Bool.true_and]
        go_enter Tryz.func79, Tryz.ntmps79
        go_simp
        repeat (first | go_values | go_skip | go_guarded | go_step | go_upon)
        go_quiet (fail)
        go_wp2
        go_returns
        exact ⟨rfl, bel_drewN _ _⟩
end Go.Proofs.YtchpbdodlbghaaaGreatDoor
