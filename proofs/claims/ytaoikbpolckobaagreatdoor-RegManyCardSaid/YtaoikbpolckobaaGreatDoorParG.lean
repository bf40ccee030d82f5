/-
  A region that draws its order, under any notion of 'later': what is to be shown of its operations, where their facts may speak of the values of those directly ahead.
-/
import Derived.Test.YtaoikbpolckobaaGreatDoorPar
namespace Go.Proofs.YtaoikbpolckobaaGreatDoor
open Go.RowKit

/-- A notion of 'later'. -/
structure IsLe (Le : World → World → Prop) : Prop where
  refl : ∀ w, Le w w
  trans : ∀ {a b c}, Le a b → Le b c → Le a c
  drew : ∀ {a b}, Le a b → Le a b.drew
/-- What is known of an operation: of the values of those directly ahead, its own, the world. -/
abbrev LSpec := List Value → PSpec
def ldeps (l : List Oper) (i : Nat) : List Nat := match l[i]? with | some o => pdeps o | none => []
def dv (l : List Oper) (vals : Nat → Value) (i : Nat) : List Value := (ldeps l i).map vals
def ParPostG (Le : World → World → Prop) (R : PSpec) (w : World) (v : Value) (w' : World) : Prop := Le w w' ∧ ∀ w2, Le w' w2 → R v w2
def ParObG (Le : World → World → Prop) (P : Program) (l0 : List Oper) (R : PSpec) (o : Oper) (a : Act) (w : World) : Prop :=
  if Region.wanted o (yielded l0.toArray a.tmps) then yields P o a.eval w (ParPostG Le R w) else ∀ w2, Le w w2 → R undef w2
theorem ParObG.plain {Le : World → World → Prop} {P : Program} {l0 : List Oper} {R : PSpec} {o : Oper} {a : Act} {w : World} (hg : o.guard = none) (h : yields P o a.eval w (ParPostG Le R w)) : ParObG Le P l0 R o a w := by
  unfold ParObG
  rw [if_pos (by simp [Region.wanted, hg])]
  exact h
theorem ParObG.wanted {Le : World → World → Prop} {P : Program} {l0 : List Oper} {R : PSpec} {o : Oper} {a : Act} {w : World} (hg : Region.wanted o (yielded l0.toArray a.tmps) = true) (h : yields P o a.eval w (ParPostG Le R w)) : ParObG Le P l0 R o a w := by
  unfold ParObG
  rw [if_pos hg]
  exact h
theorem ParObG.passed {Le : World → World → Prop} {P : Program} {l0 : List Oper} {R : PSpec} {o : Oper} {a : Act} {w : World} (hg : Region.wanted o (yielded l0.toArray a.tmps) = false) (h : ∀ w2, Le w w2 → R undef w2) : ParObG Le P l0 R o a w := by
  unfold ParObG
  rw [hg, if_neg (by decide)]
  exact h
theorem ParPostG.same {Le : World → World → Prop} (HL : IsLe Le) {R : PSpec} {w : World} {v : Value} (h : ∀ w2, Le w w2 → R v w2) : ParPostG Le R w v w := ⟨HL.refl w, h⟩
def ParObsG (Le : World → World → Prop) (P : Program) (w0 : World) (l : List Oper) (Rs : Nat → LSpec) (a : Act) (i : Nat) (o : Oper) : Prop :=
  ∀ (vals : Nat → Value) (w : World), Le w0 w → (∀ j ∈ pdeps o, Rs j (dv l vals j) (vals j) w) → ParObG Le P l (Rs i (dv l vals i)) o (pframe l (fun _ => true) vals i a) w
def PDepsG (l0 : List Oper) (Rs : Nat → LSpec) (vals : Nat → Value) (w : World) : List Nat → Prop
  | [] => True
  | j :: r => Rs j (dv l0 vals j) (vals j) w ∧ PDepsG l0 Rs vals w r
theorem PDepsG.of {l0 : List Oper} {Rs : Nat → LSpec} {vals : Nat → Value} {w : World} : ∀ {l : List Nat}, (∀ j ∈ l, Rs j (dv l0 vals j) (vals j) w) → PDepsG l0 Rs vals w l
  | [], _ => trivial
  | _ :: _, h => ⟨h _ (List.mem_cons_self ..), PDepsG.of fun j hj => h j (List.mem_cons_of_mem _ hj)⟩
def ParAllG (Le : World → World → Prop) (P : Program) (w0 : World) (l0 : List Oper) (Rs : Nat → LSpec) : Nat → List Oper → ((Nat → Value) → Act) → Prop
  | _, [], _ => True
  | i, o :: r, F => (∀ (vals : Nat → Value) (w : World), Le w0 w → PDepsG l0 Rs vals w (pdeps o) → ParObG Le P l0 (Rs i (dv l0 vals i)) o (F vals) w) ∧
      ParAllG Le P w0 l0 Rs (i + 1) r (fun vals => (F vals).put o.dst (vals i))
def ParFactsG (l0 : List Oper) (Rs : Nat → LSpec) (vals : Nat → Value) (w : World) : Nat → List Oper → Prop
  | _, [] => True
  | i, _ :: r => Rs i (dv l0 vals i) (vals i) w ∧ ParFactsG l0 Rs vals w (i + 1) r
section
variable {P : Program} {Le : World → World → Prop}
theorem parAll_atG {w0 : World} {l0 : List Oper} {Rs : Nat → LSpec} : ∀ (r : List Oper) (k : Nat) (F : (Nat → Value) → Act), ParAllG Le P w0 l0 Rs k r F → ∀ (j : Nat) (o : Oper), r[j]? = some o →
    ∀ (vals : Nat → Value) (w : World), Le w0 w → PDepsG l0 Rs vals w (pdeps o) → ParObG Le P l0 (Rs (k + j) (dv l0 vals (k + j))) o (ParEnd vals k (r.take j) (F vals)) w
  | [], _, _, _, j, o, h => by simp at h
  | x :: r, k, F, h, 0, o, ho => by
    simp at ho
    subst ho
    exact fun vals w hx hd => h.1 vals w hx hd
  | x :: r, k, F, h, j + 1, o, ho => by
    intro vals w hx hd
    have := parAll_atG r (k + 1) _ h.2 j o (by simpa using ho) vals w hx hd
    rw [show k + 1 + j = k + (j + 1) from by omega] at this
    exact this
theorem parFacts_ofG {l0 : List Oper} {Rs : Nat → LSpec} {vals : Nat → Value} {w : World} : ∀ (r : List Oper) (k : Nat), (∀ i, i < r.length → Rs (k + i) (dv l0 vals (k + i)) (vals (k + i)) w) → ParFactsG l0 Rs vals w k r
  | [], _, _ => trivial
  | _ :: r, k, h => ⟨h 0 (by simp), parFacts_ofG r (k + 1) fun i hi => by
      have := h (i + 1) (by simpa using hi)
      rw [show k + (i + 1) = k + 1 + i from by omega] at this
      exact this⟩
end
end Go.Proofs.YtaoikbpolckobaaGreatDoor
