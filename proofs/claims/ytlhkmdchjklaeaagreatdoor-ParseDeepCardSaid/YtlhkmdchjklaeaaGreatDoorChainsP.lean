/-
  A row of names with ops between, in plain Lean: what is lexed, read, and shown again.
-/
import Derived.Test.YtlhkmdchjklaeaaGreatDoorShowE
namespace Go.Proofs.YtlhkmdchjklaeaaGreatDoor
open Go.RowKit Go.Lib
set_option maxRecDepth 1000000

def opsC : List (List UInt8) := [[79, 82], [65, 78, 68], [124], [38], [60, 60], [43], [42]]
def chOp (x y i : Nat) : Nat := if i % 2 = 1 then y else x
def chS (x y : Nat) : Nat → List UInt8
  | 0 => [97]
  | i + 1 => chS x y i ++ [32] ++ (opsC[chOp x y i]?).getD [] ++ [32, 97]
/-- How far down to the left a tree of ops goes; what stands there. -/
def leftC : Nat → Tr → Nat × Tr
  | 0, t => (0, t)
  | f + 1, .mk k o s t n l => if k = 6 ∧ l.length = 2 then ((leftC f ((l[0]?).getD zTr)).1 + 1, (leftC f ((l[0]?).getD zTr)).2) else (0, .mk k o s t n l)
def kindT : Tr → Int
  | .mk k _ _ _ _ _ => k
def shOk (S : List UInt8) (t : Tr) : Bool := trD 30 t && trW 30 t && decide (cntL 31 [t] ≤ 4000) && match nodeW (bareW 30) t 1 with
  | none => false
  | some out => !out.isEmpty && decide (out.length ≤ 100000) && (Lib.join out [32] == S)
/-- A text that is read, without an error, as a tree of which p is true, and shown again as it is. -/
def chkG (S : List UInt8) (p : Tr → Bool) : Bool := match Lx.lex S with
  | .error _ => false
  | .ok T => !T.isEmpty && decide (T.length ≤ 4000) && decide (S.length ≤ 4000) && match exprF T S.length 60 with
    | none => false
    | some r => r.2.1 == 0 && r.2.2 == 0 && shOk S r.1 && p r.1
structure ExOk (S : List UInt8) (T : List Lx.Tok) (t : Tr) (out : Ws) : Prop where
  lex : Lx.lex S = .ok T
  ne : T ≠ []
  few : T.length ≤ 4000
  short : S.length ≤ 4000
  expr : exprF T S.length 60 = some (t, 0, 0)
  deep : trD 30 t = true
  wide : trW 30 t = true
  cnt : cntL 31 [t] ≤ 4000
  words : nodeW (bareW 30) t 1 = some out
  one : out ≠ []
  fews : out.length ≤ 100000
  join : Lib.join out [32] = S
theorem chkG_facts {S : List UInt8} {p : Tr → Bool} (h : chkG S p = true) : ∃ T t out, ExOk S T t out ∧ p t = true := by
  unfold chkG at h
  split at h
  · cases h
  · rename_i T hT
    simp only [Bool.and_eq_true, Bool.not_eq_true', decide_eq_true_eq, List.isEmpty_eq_false_iff] at h
    obtain ⟨⟨⟨h1, h2⟩, h3⟩, h⟩ := h
    split at h
    · cases h
    · rename_i r hr
      obtain ⟨t, a, e⟩ := r
      simp only [Bool.and_eq_true, beq_iff_eq] at h
      obtain ⟨⟨⟨rfl, rfl⟩, h5⟩, h6⟩ := h
      unfold shOk at h5
      simp only [Bool.and_eq_true, decide_eq_true_eq] at h5
      obtain ⟨⟨⟨k1, k2⟩, k3⟩, k4⟩ := h5
      split at k4
      · cases k4
      · rename_i out ho
        simp only [Bool.and_eq_true, Bool.not_eq_true', decide_eq_true_eq, List.isEmpty_eq_false_iff, beq_iff_eq] at k4
        exact ⟨T, t, out, ⟨hT, h1, h2, h3, hr, k1, k2, k3, ho, k4.1.1, k4.1.2, k4.2⟩, h6⟩
theorem ExOk.exprC {S : List UInt8} {T : List Lx.Tok} {t : Tr} {out : Ws} (h : ExOk S T t out) (w : World) (hG : GlobL w) : Calls Tryz.prog 6 #[.string ⟨S.toArray⟩] w (ExprPost t 0 0 w) := by
  have hbs : bsl ⟨S.toArray⟩ = S := bsl_mk _
  have hsz : (⟨S.toArray⟩ : ByteArray).size = S.length := by simp [ByteArray.size]
  exact expr_any ⟨S.toArray⟩ T 60 t 0 0 (by rw [hsz]; exact h.expr) (by rw [hbs]; exact h.lex) h.ne h.few w hG (by rw [hsz]; exact h.short)
theorem ExOk.showC {S : List UInt8} {T : List Lx.Tok} {t : Tr} {out : Ws} (h : ExOk S T t out) (x : PN) (A : Nat → Prop) (w : World) (hT : TrAt A w x t) (hA : ∀ g, A g → g < w.heap.size) (hG : GlobL w) :
    Calls Tryz.prog 7 #[x.v] w fun e w' => e = .returned (.tuple #[.string ⟨S.toArray⟩, .int .i64 0]) ∧ Below w.heap.size w w' := by
  have hj := h.join
  have := show_any t x 30 60 out T A w h.deep h.wide (by omega) h.cnt h.words h.one h.fews (by rw [hj]; exact h.short) (by rw [hj]; exact h.lex) h.ne h.few (by rw [hj]; exact h.expr) hT hA hG
  rw [hj] at this
  exact this
end Go.Proofs.YtlhkmdchjklaeaaGreatDoor
