/-
  Numbers for signs, in plain Lean: blocks of 64, unlike ones alone.
-/
import Derived.WalkKit
namespace Go.Proofs.YtaoikbpolckobaaGreatDoor
set_option maxRecDepth 100000

/-- The number of a sign: that of the pair that bears it. -/
def fOf (ps : List (Nat × Int)) (c : Nat) : Int := ((ps.find? (fun p => p.1 == c)).map (·.2)).getD 0
/-- A block of 64 of them. -/
def blk (f : Nat → Int) (i : Nat) : List Int := (List.range 64).map fun j => f (64 * i + j)
def addIdx (l : List Nat) (i : Nat) : List Nat := if i ∈ l then l else l ++ [i]
def idxs (ps : List (Nat × Int)) : List Nat := ps.foldl (fun l p => addIdx l (p.1 / 64)) []
theorem idxs_snoc (ps : List (Nat × Int)) (p : Nat × Int) : idxs (ps ++ [p]) = addIdx (idxs ps) (p.1 / 64) := by simp [idxs]
theorem blk_length (f : Nat → Int) (i : Nat) : (blk f i).length = 64 := by simp [blk]
theorem fOf_snoc (ps : List (Nat × Int)) (c : Nat) (v : Int) (h : ∀ p ∈ ps, p.1 ≠ c) (d : Nat) : fOf (ps ++ [(c, v)]) d = if d = c then v else fOf ps d := by
  unfold fOf
  rw [List.find?_append]
  by_cases hd : d = c
  · subst hd
    rw [List.find?_eq_none.2 (fun p hp => by simpa using h p hp)]
    simp
  · rw [if_neg hd]
    have : List.find? (fun p : Nat × Int => p.1 == d) [(c, v)] = none := by simp; exact fun e => hd e.symm
    rw [this]; simp
theorem fOf_none (ps : List (Nat × Int)) (c : Nat) (h : ∀ p ∈ ps, p.1 ≠ c) : fOf ps c = 0 := by
  unfold fOf
  rw [List.find?_eq_none.2 (fun p hp => by simpa using h p hp)]
  rfl
theorem mem_addIdx {l : List Nat} {i j : Nat} : j ∈ addIdx l i ↔ j ∈ l ∨ j = i := by
  unfold addIdx
  split
  · constructor
    · exact .inl
    · rintro (h | rfl)
      · exact h
      · assumption
  · simp
theorem mem_idxs (ps : List (Nat × Int)) (i : Nat) : i ∈ idxs ps ↔ ∃ p ∈ ps, p.1 / 64 = i := by
  have : ∀ (ps : List (Nat × Int)) (l : List Nat), i ∈ ps.foldl (fun l p => addIdx l (p.1 / 64)) l ↔ i ∈ l ∨ ∃ p ∈ ps, p.1 / 64 = i := by
    intro ps
    induction ps with
    | nil => intro l; simp
    | cons p ps ih =>
      intro l
      rw [List.foldl_cons, ih, mem_addIdx]
      simp only [List.mem_cons, exists_eq_or_imp]
      constructor
      · rintro ((h | h) | h)
        · exact .inl h
        · exact .inr (.inl h.symm)
        · exact .inr (.inr h)
      · rintro (h | h | h)
        · exact .inl (.inl h)
        · exact .inl (.inr h.symm)
        · exact .inr h
  have h := this ps []
  unfold idxs
  rw [h]
  simp
theorem addIdx_nodup {l : List Nat} (h : l.Nodup) (i : Nat) : (addIdx l i).Nodup := by
  unfold addIdx
  split
  · exact h
  · rename_i hi
    rw [List.nodup_append]
    refine ⟨h, by simp, ?_⟩
    intro a ha b hb
    simp at hb
    subst hb
    exact fun e => hi (e ▸ ha)
theorem idxs_nodup (ps : List (Nat × Int)) : (idxs ps).Nodup := by
  have : ∀ (ps : List (Nat × Int)) (l : List Nat), l.Nodup → (ps.foldl (fun l p => addIdx l (p.1 / 64)) l).Nodup := by
    intro ps
    induction ps with
    | nil => intro l h; exact h
    | cons p ps ih => intro l h; exact ih _ (addIdx_nodup h _)
  exact this ps [] List.nodup_nil
theorem idxs_length (ps : List (Nat × Int)) : (idxs ps).length ≤ ps.length := by
  have : ∀ (ps : List (Nat × Int)) (l : List Nat), (ps.foldl (fun l p => addIdx l (p.1 / 64)) l).length ≤ l.length + ps.length := by
    intro ps
    induction ps with
    | nil => intro l; simp
    | cons p ps ih =>
      intro l
      rw [List.foldl_cons]
      have := ih (addIdx l (p.1 / 64))
      have h2 : (addIdx l (p.1 / 64)).length ≤ l.length + 1 := by unfold addIdx; split <;> simp
      simp only [List.length_cons]
      omega
  have h := this ps []
  unfold idxs
  simpa using h
/-- A pair's number goes into its own block alone. -/
theorem blk_set (ps : List (Nat × Int)) (c : Nat) (v : Int) (h : ∀ p ∈ ps, p.1 ≠ c) : blk (fOf (ps ++ [(c, v)])) (c / 64) = (blk (fOf ps) (c / 64)).set (c % 64) v := by
  apply List.ext_getElem?
  intro j
  rw [List.getElem?_set]
  by_cases hj : j < 64
  · simp only [blk, List.getElem?_map, List.getElem?_range hj, Option.map_some, List.length_map, List.length_range]
    rw [fOf_snoc ps c v h]
    by_cases he : c % 64 = j
    · rw [if_pos he, if_pos (by omega), if_pos (by omega)]
    · rw [if_neg he, if_neg (by omega)]
  · have h1 : (blk (fOf (ps ++ [(c, v)])) (c / 64))[j]? = none := List.getElem?_eq_none (by rw [blk_length]; omega)
    rw [h1, if_neg (by omega), List.getElem?_eq_none (by rw [blk_length]; omega)]
theorem blk_other (ps : List (Nat × Int)) (c : Nat) (v : Int) (h : ∀ p ∈ ps, p.1 ≠ c) {i : Nat} (hi : i ≠ c / 64) : blk (fOf (ps ++ [(c, v)])) i = blk (fOf ps) i := by
  unfold blk
  apply List.map_congr_left
  intro j hj
  have := List.mem_range.1 hj
  rw [fOf_snoc ps c v h, if_neg (by omega)]
theorem blk_zero (ps : List (Nat × Int)) {i : Nat} (hi : i ∉ idxs ps) : blk (fOf ps) i = List.replicate 64 0 := by
  apply List.ext_getElem?
  intro j
  by_cases hj : j < 64
  · simp only [blk, List.getElem?_map, List.getElem?_range hj, Option.map_some, List.getElem?_replicate, if_pos hj]
    rw [fOf_none]
    intro p hp e
    exact hi ((mem_idxs ps i).2 ⟨p, hp, by omega⟩)
  · rw [List.getElem?_eq_none (by rw [blk_length]; omega), List.getElem?_eq_none (by simp; omega)]
/-- Unlike blocks, as they come. -/
def addBlk (B : List (List Int)) (b : List Int) : List (List Int) := if b ∈ B then B else B ++ [b]
def blks (f : Nat → Int) (is : List Nat) : List (List Int) := is.foldl (fun B i => addBlk B (blk f i)) [List.replicate 64 0]
theorem blks_snoc (f : Nat → Int) (is : List Nat) (i : Nat) : blks f (is ++ [i]) = addBlk (blks f is) (blk f i) := by simp [blks]
theorem addBlk_mem (B : List (List Int)) (b : List Int) : b ∈ addBlk B b := by
  unfold addBlk
  split
  · assumption
  · simp
theorem addBlk_nodup {B : List (List Int)} (h : B.Nodup) (b : List Int) : (addBlk B b).Nodup := by
  unfold addBlk
  split
  · exact h
  · rename_i hi
    rw [List.nodup_append]
    refine ⟨h, by simp, ?_⟩
    intro x hx y hy
    simp at hy
    subst hy
    exact fun e => hi (e ▸ hx)
theorem blks_nodup (f : Nat → Int) (is : List Nat) : (blks f is).Nodup := by
  have : ∀ (is : List Nat) (B : List (List Int)), B.Nodup → (is.foldl (fun B i => addBlk B (blk f i)) B).Nodup := by
    intro is
    induction is with
    | nil => intro B h; exact h
    | cons i is ih => intro B h; exact ih _ (addBlk_nodup h _)
  exact this is _ (by simp)
theorem addBlk_idx (B : List (List Int)) (b x : List Int) (h : x ∈ B) : (addBlk B b).idxOf x = B.idxOf x := by
  unfold addBlk
  split
  · rfl
  · rw [List.idxOf_append, if_pos h]
theorem blks_len64 (f : Nat → Int) (is : List Nat) : ∀ b ∈ blks f is, b.length = 64 := by
  have : ∀ (is : List Nat) (B : List (List Int)), (∀ b ∈ B, b.length = 64) → ∀ b ∈ is.foldl (fun B i => addBlk B (blk f i)) B, b.length = 64 := by
    intro is
    induction is with
    | nil => intro B h; exact h
    | cons i is ih =>
      intro B h
      refine ih (addBlk B (blk f i)) fun b hb => ?_
      unfold addBlk at hb
      split at hb
      · exact h b hb
      · rcases List.mem_append.1 hb with h1 | h1
        · exact h b h1
        · simp at h1; rw [h1]; exact blk_length f i
  exact this is _ (by simp)
theorem blks_length (f : Nat → Int) (is : List Nat) : (blks f is).length ≤ is.length + 1 := by
  have : ∀ (is : List Nat) (B : List (List Int)), (is.foldl (fun B i => addBlk B (blk f i)) B).length ≤ B.length + is.length := by
    intro is
    induction is with
    | nil => intro B; simp
    | cons i is ih =>
      intro B
      rw [List.foldl_cons]
      have := ih (addBlk B (blk f i))
      have h2 : (addBlk B (blk f i)).length ≤ B.length + 1 := by unfold addBlk; split <;> simp
      simp only [List.length_cons]
      omega
  have h := this is [List.replicate 64 0]
  rw [List.length_cons, List.length_nil] at h
  unfold blks
  omega
end Go.Proofs.YtaoikbpolckobaaGreatDoor
