/-
  The registry of the first three, told in general; its names in order.
-/
import Derived.Test.YtaoikbpolckobaaGreatDoorRegC
namespace Go.Proofs.YtaoikbpolckobaaGreatDoor
open Go.RowKit Go.Lib
set_option maxRecDepth 100000

/-! ### The first three -/
def bB : ByteArray := ⟨#[98, 105, 110, 97, 114, 121]⟩
def bF : ByteArray := ⟨#[110, 111, 99, 97, 115, 101]⟩
def bR : ByteArray := ⟨#[114, 111, 111, 116]⟩
def unK : Value → ByteArray
  | .agg cs => (match cs[0]? with | some (Value.string s) => s | _ => ⟨#[]⟩)
  | _ => ⟨#[]⟩
theorem kN_perm {xs ys : List ByteArray} (h : (xs.map kN).Perm (ys.map kN)) : xs.Perm ys := by
  have h1 := h.map unK
  have e : ∀ l : List ByteArray, (l.map kN).map unK = l := by
    intro l
    rw [List.map_map]
    exact (List.map_congr_left (g := id) fun i _ => by simp [kN, unK]).trans (List.map_id l)
  rw [e, e] at h1
  exact h1
theorem RegAt.regs {w : World} {q : Nat} (h : RegAt w q) : ∃ M l, RegsAt w q M l ∧ (l.map (·.1)).Perm ([bB, bF, bR].map kN) ∧ (kN bB, cB) ∈ l ∧ (kN bF, cF) ∈ l ∧ ∃ p, (kN bR, cR p) ∈ l := by
  obtain ⟨M, l, h1, h2, h3, h4, ⟨p, h5, h6⟩, h7⟩ := h
  refine ⟨M, l, ⟨h1, h2⟩, ?_, h3, h4, p, h5⟩
  refine (List.perm_ext_iff_of_nodup h2.nodup ?_).2 fun x => ?_
  · simp [kN, bB, bF, bR]
  · constructor
    · intro hx
      obtain ⟨y, hy, rfl⟩ := List.mem_map.1 hx
      rcases h7 y hy with h | h | h <;> rw [h]
      · exact List.mem_map.2 ⟨bB, by simp, rfl⟩
      · exact List.mem_map.2 ⟨bF, by simp, rfl⟩
      · exact List.mem_map.2 ⟨bR, by simp, rfl⟩
    · intro hx
      obtain ⟨y, hy, rfl⟩ := List.mem_map.1 hx
      simp only [List.mem_cons, List.not_mem_nil, or_false] at hy
      rcases hy with rfl | rfl | rfl
      · exact List.mem_map.2 ⟨_, h3, rfl⟩
      · exact List.mem_map.2 ⟨_, h4, rfl⟩
      · exact List.mem_map.2 ⟨_, h5, rfl⟩
theorem sort3 {ds : List ByteArray} (h : ds.Perm [bB, bF, bR]) : sortN ds = [bB.data.toList, bF.data.toList, bR.data.toList] := by
  have tr : ∀ a b c : List UInt8, (decide (a ≤ b)) = true → (decide (b ≤ c)) = true → (decide (a ≤ c)) = true := fun a b c h1 h2 => by
    simp only [decide_eq_true_eq] at h1 h2 ⊢
    exact List.le_trans h1 h2
  have tot : ∀ a b : List UInt8, ((decide (a ≤ b)) || (decide (b ≤ a))) = true := fun a b => by
    rcases List.le_total a b with h | h <;> simp [h]
  refine List.Perm.eq_of_pairwise (le := fun a b => decide (a ≤ b) = true) (fun a b _ _ h1 h2 => ?_) (List.pairwise_mergeSort tr tot _) (by decide) ((List.mergeSort_perm _ _).trans (h.map fun s : ByteArray => s.data.toList))
  simp only [decide_eq_true_eq] at h1 h2
  exact List.le_antisymm h1 h2
end Go.Proofs.YtaoikbpolckobaaGreatDoor
