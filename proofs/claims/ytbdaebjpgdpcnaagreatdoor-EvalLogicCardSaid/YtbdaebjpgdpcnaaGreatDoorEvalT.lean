/-
  The law's own nodes: rows of nodes, pairs; what AND, OR and NOT make.
-/
import Derived.Test.YtbdaebjpgdpcnaaGreatDoorEvalR
import Derived.Test.YtbdaebjpgdpcnaaGreatDoorEvalK
import Derived.Test.YtbdaebjpgdpcnaaGreatDoorParF
namespace Go.Proofs.YtbdaebjpgdpcnaaGreatDoor
open Go.RowKit Go.Lib
set_option maxRecDepth 100000

theorem trB_and (a b : Bool) : andT (trB a) (trB b) = trB (a && b) := by cases a <;> cases b <;> rfl
theorem trB_not (a : Bool) : notT (trB a) = trB (!a) := by cases a <;> rfl
theorem e_btw (X Y Z : Option Int) : shT 18 (tst 6 X Y) (tst 4 X Z) = btw 0 X Y Z := rfl
theorem not3 (t : Nat) (h : t < 3) : notT (notT t) = t := by
  rcases (by omega : t = 0 ∨ t = 1 ∨ t = 2) with rfl | rfl | rfl <;> rfl
theorem or_nought (t : Nat) (h : t < 3) : orT 0 t = t := by
  rcases (by omega : t = 0 ∨ t = 1 ∨ t = 2) with rfl | rfl | rfl <;> rfl
theorem e_in0 (X Y Z : Option Int) : shT 19 (tst 1 X Y) (tst 1 X Z) = inT 0 X Y Z := by
  unfold shT inT inR
  rw [if_neg (by decide), if_neg (by decide), or_nought _ (tst_lt 1 X Y)]
theorem ne_not (a b : Option Int) : tst 2 a b = notT (tst 1 a b) := by
  cases a with
  | none => rfl
  | some n => cases b with
    | none => rfl
    | some m =>
      simp only [tst, trB_not]
      congr 1
theorem e_in1 (X Y Z : Option Int) : shT 18 (tst 2 X Y) (tst 2 X Z) = inT 1 X Y Z := by
  unfold shT inT inR
  rw [if_pos rfl, if_pos rfl, or_nought _ (tst_lt 1 X Y), ne_not, ne_not]
  unfold orT
  rw [not3 _ (andT_lt _ _)]
theorem e_not (X Y : Option Int) : notT (tst 3 X Y) = tst 6 X Y := by
  cases X with
  | none => rfl
  | some n => cases Y with
    | none => rfl
    | some m =>
      simp only [tst, trB_not]
      congr 1
      unfold cmpB
      simp
      by_cases h : cmpI n m < 0 <;> simp [h] <;> omega
theorem leE : IsLe Ext := ⟨Ext.refl, Ext.trans, fun h => ⟨h.os, h.tape, h.output, h.size, h.block⟩⟩
/-- A node's own block, still empty. -/
def newNd (B : Nat) (v : Value) (w : World) : Prop := ∃ g, v = .pointer (some ⟨g, 0, none⟩) ∧ B ≤ g ∧ Blk w g #[.int .i64 0, .int .i64 0, .string ⟨#[]⟩, .string ⟨#[]⟩, .int .i64 0, .slice none 0 0] 38
theorem makesNd : ∀ w, ∃ w', (Instr.alloc 38 true (.tuple #[])).run Tryz.prog w = .ok (.pointer (some ⟨w.heap.size, 0, none⟩)) w' := fun w => ⟨_, by go_simp; rfl⟩
def cells6 (x : N6) : List Value := [.int .i64 x.k, .int .i64 x.o, .string x.s, .string x.t, .int .i64 x.n, .slice x.la x.ln x.lc]
theorem flat6_get : ∀ (L : List N6) (i : Nat) (x : N6), L[i]? = some x → ∀ j, j < 6 → (L.flatMap cells6)[i * 6 + j]? = (cells6 x)[j]?
  | y :: L, 0, x, h, j, hj => by
    obtain rfl : y = x := by simpa using h
    rw [Nat.zero_mul, Nat.zero_add]
    simp only [List.flatMap_cons]
    rw [List.getElem?_append_left (by simp [cells6]; omega)]
  | y :: L, i + 1, x, h, j, hj => by
    have ih := flat6_get L i x (by simpa using h) j hj
    simp only [List.flatMap_cons]
    rw [List.getElem?_append_right (by simp [cells6]; omega), ← ih]
    congr 1
    simp [cells6]; omega
theorem ndAt_of {w : World} {g : Nat} {t : TypeId} (L : List N6) (h : Blk w g (L.flatMap cells6).toArray t) : NdAt w g L :=
  ⟨h.lt, fun i x hx => by
    have hc : ∀ j, j < 6 → w.cell? ⟨g, i * 6 + j, none⟩ = (cells6 x)[j]? := fun j hj => by
      rw [h.cell, List.getElem?_toArray, flat6_get L i x hx j hj]
    exact ⟨hc 0 (by omega), hc 1 (by omega), hc 2 (by omega), hc 3 (by omega), hc 4 (by omega), hc 5 (by omega)⟩⟩
def envL (q : Nat) : Value := evV none 0 0 none 0 0 (some ⟨q, 0, none⟩) 9
/-- A node that is this truth. -/
def evIs (q T : Nat) (v : Value) (w : World) : Prop := ∃ x : N6, v = x.v ∧ Ev w (envL q) x (tr3 T) 0
def sl3 (X Y Z : Option Int) (v : Value) (w : World) : Prop := ∃ g, v = .slice (some ⟨g, 0, none⟩) 3 3 ∧ NdAt w g [numN X, numN Y, numN Z]
def sl1 (q T : Nat) (v : Value) (w : World) : Prop := ∃ g, v = .slice (some ⟨g, 0, none⟩) 1 1 ∧ ∃ x, NdAt w g [x] ∧ Ev w (envL q) x (tr3 T) 0
def pr2 (x y : N6) : Value := .agg #[.int .i64 x.k, .int .i64 x.o, .string x.s, .string x.t, .int .i64 x.n, .slice x.la x.ln x.lc, .int .i64 y.k, .int .i64 y.o, .string y.s, .string y.t, .int .i64 y.n, .slice y.la y.ln y.lc]
/-- Two nodes that are this truth. -/
def pairIs (q T : Nat) (v : Value) (w : World) : Prop := ∃ x y : N6, v = pr2 x y ∧ Ev w (envL q) x (tr3 T) 0 ∧ Ev w (envL q) y (tr3 T) 0
def truthL (X Y Z : Option Int) (i : Nat) : Nat := if i = 0 then btw 0 X Y Z else if i = 1 then inT 0 X Y Z else if i = 2 then inT 1 X Y Z else tst 6 X Y
/-- The law's pairs, in a row. -/
def pairsAt (q : Nat) (X Y Z : Option Int) (v : Value) (w : World) : Prop := ∃ g, v = .slice (some ⟨g, 0, none⟩) 4 4 ∧ ∃ L : List N6, L.length = 8 ∧ NdAt w g L ∧ ∀ i x, L[i]? = some x → Ev w (envL q) x (tr3 (truthL X Y Z (i / 2))) 0
theorem pairsAt.ext {q : Nat} {X Y Z : Option Int} {v : Value} {w w' : World} (h : pairsAt q X Y Z v w) (hx : Ext w w') : pairsAt q X Y Z v w' := by
  obtain ⟨g, hv, L, hl, hN, hE⟩ := h
  exact ⟨g, hv, L, hl, hN.ext hx, fun i x hi => (hE i x hi).ext hx⟩
theorem pairsAt_of {q : Nat} {X Y Z : Option Int} {v : Value} {w : World} {g : Nat} {a1 a2 b1 b2 c1 c2 d1 d2 : N6} (hv : v = .slice (some ⟨g, 0, none⟩) 4 4) (hN : NdAt w g [a1, a2, b1, b2, c1, c2, d1, d2])
    (hA1 : Ev w (envL q) a1 (tr3 (btw 0 X Y Z)) 0) (hA2 : Ev w (envL q) a2 (tr3 (btw 0 X Y Z)) 0) (hB1 : Ev w (envL q) b1 (tr3 (inT 0 X Y Z)) 0) (hB2 : Ev w (envL q) b2 (tr3 (inT 0 X Y Z)) 0)
    (hC1 : Ev w (envL q) c1 (tr3 (inT 1 X Y Z)) 0) (hC2 : Ev w (envL q) c2 (tr3 (inT 1 X Y Z)) 0) (hD1 : Ev w (envL q) d1 (tr3 (tst 6 X Y)) 0) (hD2 : Ev w (envL q) d2 (tr3 (tst 6 X Y)) 0) : pairsAt q X Y Z v w :=
  ⟨g, hv, _, rfl, hN, fun i x hi => by
    have hlt := (List.getElem?_eq_some_iff.1 hi).1
    rcases (by simp at hlt; omega : i = 0 ∨ i = 1 ∨ i = 2 ∨ i = 3 ∨ i = 4 ∨ i = 5 ∨ i = 6 ∨ i = 7) with rfl | rfl | rfl | rfl | rfl | rfl | rfl | rfl <;> obtain rfl := Option.some.inj hi
    · exact hA1
    · exact hA2
    · exact hB1
    · exact hB2
    · exact hC1
    · exact hC2
    · exact hD1
    · exact hD2⟩
theorem blk6O {w : World} {g i : Nat} {cs : Array Value} {t : TypeId} (h : Blk w i cs t) (hn : i ≠ g) (a b c d e f : Value) : Blk ((((((w.setCell ⟨g, 0, none⟩ a).setCell ⟨g, 1, none⟩ b).setCell ⟨g, 2, none⟩ c).setCell ⟨g, 3, none⟩ d).setCell ⟨g, 4, none⟩ e).setCell ⟨g, 5, none⟩ f) i cs t :=
  (((((h.other (a := ⟨g, 0, none⟩) hn a).other (a := ⟨g, 1, none⟩) hn b).other (a := ⟨g, 2, none⟩) hn c).other (a := ⟨g, 3, none⟩) hn d).other (a := ⟨g, 4, none⟩) hn e).other (a := ⟨g, 5, none⟩) hn f
end Go.Proofs.YtbdaebjpgdpcnaaGreatDoor
