/-
  Numbers for signs are built: the blocks of each pair.
-/
import Derived.Test.YtaoikbpolckobaaGreatDoorTrieB
import Derived.Laws.Rows
import Derived.Laws.Tables
namespace Go.Proofs.YtaoikbpolckobaaGreatDoor
open Go.RowKit
set_option maxRecDepth 100000

section
variable {P : Program} {w : World} {ops : Array Oper} {rest : List Oper} {o : Oper} {a : Act} {Q : Exit → Act → World → Prop}
theorem wpList_look (hg : o.guard = none) (m x : Operand) (t : TypeId) (ok : Bool) (hop : o.op = Op.lookup t m x ok) (b : Nat) (v : Value) (hm : a.eval m = .map (some b))
    (hrun : (Instr.lookup t (.map (some b)) (a.eval x) ok).run P w = .ok v w) (hK : wpList P ops Q rest (a.put o.dst v) w) : wpList P ops Q (o :: rest) a w := by
  refine wpList_plain hg fun K' hK' => ?_
  unfold Oper.wp
  simp [execOp, hop, hm, hrun, Result.andThen]
  exact hK' _ _ hK
theorem wpList_upd (hg : o.guard = none) (m x y : Operand) (t : TypeId) (hop : o.op = Op.mapUpdate t m x y) (b : Nat) (R : World → Prop) (hm : a.eval m = .map (some b))
    (hrun : ∃ w', (Instr.mapUpdate t (.map (some b)) (a.eval x) (a.eval y)).run P w = .ok () w' ∧ R w') (hK : ∀ w', R w' → wpList P ops Q rest (a.put o.dst undef) w') : wpList P ops Q (o :: rest) a w := by
  obtain ⟨w', hrun, hR⟩ := hrun
  refine wpList_plain hg fun K' hK' => ?_
  unfold Oper.wp
  simp [execOp, hop, hm, hrun, Result.andThen]
  exact hK' _ _ (hK w' hR)
/-- A whole block is written anew. -/
theorem wpList_store_blk (hg : o.guard = none) (ty : TypeId) (x y : Operand) (ho : o.op = .store ty x y) (g : Nat) (cells : Array Value) (hx : a.eval x = .pointer (some ⟨g, 0, none⟩)) (hy : a.eval y = .agg cells)
    (t : TypeId) (old : Array Value) (hb : Blk w g old t) (hi : (P.info? ty).map (·.size) = some cells.size) (hold : old.size = cells.size) (h1 : cells.all (·.oneCell') = true)
    (hK : ∀ w', Blk w' g cells t → w.grownBy w' (some g) → w'.heap.size = w.heap.size → wpList P ops Q rest (a.put o.dst undef) w') : wpList P ops Q (o :: rest) a w := by
  refine wpList_store_row hg ty x y ho g cells hx hy t old hb hi hold h1 (hK _ ?_ ?_ ?_)
  · unfold Blk at hb ⊢
    show (w.heap.modify g _)[g]? = _
    rw [Array.getElem?_modify, if_pos rfl, hb]
    rfl
  · refine ⟨rfl, rfl, rfl, by simp [World.setRow], fun i hi hne => ?_⟩
    have : g ≠ i := fun e => hne (by rw [e])
    show (w.heap.modify g _)[i]? = _
    rw [Array.getElem?_modify, if_neg this]
  · simp [World.setRow]
end
/-! ### Blocks of 64 numbers, as values -/
def blkA (b : List Int) : Array Value := (b.map (Value.int .i32)).toArray
theorem blkA_size (b : List Int) : (blkA b).size = b.length := by simp [blkA]
theorem blkA_one (b : List Int) : (blkA b).all (·.oneCell') = true := by simp [blkA, Value.oneCell']
theorem blkA_inj {b c : List Int} (h : blkA b = blkA c) : b = c := by
  have h1 := congrArg Array.toList h
  simp only [blkA] at h1
  exact List.map_inj_right (fun x y e => by simpa using e) |>.1 h1
theorem blkA_set (b : List Int) (j : Nat) (v : Int) : (blkA b).setIfInBounds j (.int .i32 v) = blkA (b.set j v) := by
  apply Array.ext'
  simp [blkA, List.map_set]
/-- The map of blocks. -/
def ownL (qs : List (Nat × Int)) : List (Value × Value) := (idxs qs).map fun i : Nat => (.int .i64 (i : Int), .agg (blkA (blk (fOf qs) i)))
theorem keyInt (i : Nat) (h : i ≤ 2000000) : KeyOk Tryz.prog 3 (.int .i64 i) :=
  ⟨_, Maps.keyOf_int_mk Tryz.underlying3 (by
    simp [Lit.wf, IntKind.min, IntKind.max, IntKind.bits, IntKind.signed]
    omega)⟩
theorem keyedInt : Maps.Keyed Tryz.prog 3 := Maps.int_keyed Tryz.underlying3
theorem zeroBlk : ∀ w, (zeroValue 320).run Tryz.prog w = .ok (.agg (blkA (List.replicate 64 0))) w := fun _ => by kernel_rfl
theorem zeroBool : ∀ w, (zeroValue 4).run Tryz.prog w = .ok (.bool false) w := fun _ => by kernel_rfl
theorem own_get {w : World} {O : Nat} {qs : List (Nat × Int)} (h : GMap Tryz.prog 3 w O (ownL qs)) (i : Nat) (hi : i ≤ 2000000) :
    (Instr.lookup 318 (.map (some O)) (.int .i64 i) false).run Tryz.prog w = .ok (.agg (blkA (blk (fOf qs) i))) w := by
  by_cases hm : i ∈ idxs qs
  · exact h.run_hit keyedInt Tryz.underlying318 (List.mem_map.2 ⟨i, hm, rfl⟩) false
  · have := h.run_miss keyedInt Tryz.underlying318 zeroBlk (keyInt i hi) (fun p hp e => by
      obtain ⟨j, hj, rfl⟩ := List.mem_map.1 hp
      simp only [Value.int.injEq, true_and] at e
      have : j = i := by omega
      exact hm (this ▸ hj)) false
    rw [this, blk_zero qs hm]
    rfl
theorem own_put {w : World} {O : Nat} {qs : List (Nat × Int)} (h : GMap Tryz.prog 3 w O (ownL qs)) (c : Nat) (v : Int) (hc : c ≤ 1114367) (hn : ∀ p ∈ qs, p.1 ≠ c) :
    ∃ w', (Instr.mapUpdate 318 (.map (some O)) (.int .i64 ((c / 64 : Nat) : Int)) (.agg (blkA ((blk (fOf qs) (c / 64)).set (c % 64) v)))).run Tryz.prog w = .ok () w' ∧
      (GMap Tryz.prog 3 w' O (ownL (qs ++ [(c, v)])) ∧ w.grownBy w' (some O) ∧ w'.heap.size = w.heap.size) := by
  have hb := blk_set qs c v hn
  by_cases hm : c / 64 ∈ idxs qs
  · obtain ⟨l1, l2, hl⟩ := List.append_of_mem hm
    have hnd := idxs_nodup qs
    rw [hl, List.nodup_append, List.nodup_cons] at hnd
    obtain ⟨n1, ⟨n2, n3⟩, n4⟩ := hnd
    have e1 : ownL qs = (l1.map fun i : Nat => (.int .i64 (i : Int), .agg (blkA (blk (fOf qs) i)))) ++ (.int .i64 ((c / 64 : Nat) : Int), .agg (blkA (blk (fOf qs) (c / 64)))) :: (l2.map fun i : Nat => (.int .i64 (i : Int), .agg (blkA (blk (fOf qs) i)))) := by
      unfold ownL
      rw [hl]
      simp
    rw [e1] at h
    obtain ⟨w', h1, h2, h3, h4⟩ := h.run_set keyedInt Tryz.underlying318 (.agg (blkA ((blk (fOf qs) (c / 64)).set (c % 64) v)))
    refine ⟨w', h1, ?_, h3, h4⟩
    have e2 : ownL (qs ++ [(c, v)]) = (l1.map fun i : Nat => (.int .i64 (i : Int), .agg (blkA (blk (fOf qs) i)))) ++ (.int .i64 ((c / 64 : Nat) : Int), .agg (blkA ((blk (fOf qs) (c / 64)).set (c % 64) v))) :: (l2.map fun i : Nat => (.int .i64 (i : Int), .agg (blkA (blk (fOf qs) i)))) := by
      unfold ownL
      rw [idxs_snoc, addIdx, if_pos hm, hl, List.map_append, List.map_cons, hb]
      congr 1
      · apply List.map_congr_left
        intro i hi
        rw [blk_other qs c v hn]
        exact fun e => n4 i hi (c / 64) (List.mem_cons_self ..) e
      · congr 1
        apply List.map_congr_left
        intro i hi
        rw [blk_other qs c v hn]
        exact fun e => n2 (e ▸ hi)
    rw [e2]
    exact h2
  · obtain ⟨w', h1, h2, h3, h4⟩ := h.run_put keyedInt Tryz.underlying318 (keyInt (c / 64) (by omega)) (fun p hp e => by
      obtain ⟨j, hj, rfl⟩ := List.mem_map.1 hp
      simp only [Value.int.injEq, true_and] at e
      have : j = c / 64 := by omega
      exact hm (this ▸ hj)) (.agg (blkA ((blk (fOf qs) (c / 64)).set (c % 64) v)))
    refine ⟨w', h1, ?_, h3, h4⟩
    have e2 : ownL (qs ++ [(c, v)]) = ownL qs ++ [(.int .i64 ((c / 64 : Nat) : Int), .agg (blkA ((blk (fOf qs) (c / 64)).set (c % 64) v)))] := by
      unfold ownL
      rw [idxs_snoc, addIdx, if_neg hm, List.map_append, List.map_cons, List.map_nil, hb]
      congr 1
      apply List.map_congr_left
      intro i hi
      rw [blk_other qs c v hn]
      exact fun e => hm (e ▸ hi)
    rw [e2]
    exact h2
/-- The map of what was seen. -/
def seenL (qs : List (Nat × Int)) : List (Value × Value) := qs.map fun p => (.int .i64 (p.1 : Int), .bool true)
theorem seen_get {w : World} {S : Nat} {qs : List (Nat × Int)} (h : GMap Tryz.prog 3 w S (seenL qs)) (c : Nat) (hc : c ≤ 1114367) (hn : ∀ p ∈ qs, p.1 ≠ c) :
    (Instr.lookup 317 (.map (some S)) (.int .i64 c) false).run Tryz.prog w = .ok (.bool false) w :=
  h.run_miss keyedInt Tryz.underlying317 zeroBool (keyInt c (by omega)) (fun p hp e => by
    obtain ⟨q, hq, rfl⟩ := List.mem_map.1 hp
    simp only [Value.int.injEq, true_and] at e
    exact hn q hq (by omega)) false
theorem seen_put {w : World} {S : Nat} {qs : List (Nat × Int)} (h : GMap Tryz.prog 3 w S (seenL qs)) (c : Nat) (v : Int) (hc : c ≤ 1114367) (hn : ∀ p ∈ qs, p.1 ≠ c) :
    ∃ w', (Instr.mapUpdate 317 (.map (some S)) (.int .i64 c) (.bool true)).run Tryz.prog w = .ok () w' ∧ (GMap Tryz.prog 3 w' S (seenL (qs ++ [(c, v)])) ∧ w.grownBy w' (some S) ∧ w'.heap.size = w.heap.size) := by
  obtain ⟨w', h1, h2, h3, h4⟩ := h.run_put keyedInt Tryz.underlying317 (keyInt c (by omega)) (fun p hp e => by
    obtain ⟨q, hq, rfl⟩ := List.mem_map.1 hp
    simp only [Value.int.injEq, true_and] at e
    exact hn q hq (by omega)) (.bool true)
  exact ⟨w', h1, by simpa [seenL] using h2, h3, h4⟩
theorem PairsAt.grown {w w' : World} {v : Value} {ps : List (Nat × Int)} {b : Nat} (h : PairsAt w v ps) (hg : w.grownBy w' (some b)) (hm : ∀ c t f, w.heap[b]? ≠ some (.cells c t f)) : PairsAt w' v ps := by
  rcases h with h | ⟨g, c, h1, h2, h3, h4⟩
  · exact .inl h
  · refine .inr ⟨g, c, h1, h2, Nat.lt_of_lt_of_le h3 hg.size, fun j hj => ?_⟩
    have hne : ∀ u o, w.cell? ⟨g, o, none⟩ = some u → some g ≠ some b := by
      intro u o hu e
      obtain rfl := Option.some.inj e
      unfold World.cell? at hu
      cases hh : w.heap[g]? with
      | none => simp [hh] at hu
      | some ob => cases ob <;> first | exact hm _ _ _ hh | simp [hh] at hu
    exact ⟨hg.cell (h4 j hj).1 (hne _ _ (h4 j hj).1), hg.cell (h4 j hj).2 (hne _ _ (h4 j hj).2)⟩
theorem blk_grownM {W W' : World} {g b : Nat} {cs : Array Value} {t : TypeId} (h : Blk W g cs t) (hg : W.grownBy W' (some b)) (hm : ∀ c t f, W.heap[b]? ≠ some (.cells c t f)) : Blk W' g cs t :=
  (hg.block g h.lt (fun e => hm _ _ _ (by rw [← Option.some.inj e]; exact h))).trans h
/-- The state of the first loop: k pairs have been put. -/
structure TS1 (w0 w : World) (S O : Nat) (v : Value) (ps : List (Nat × Int)) (k : Nat) : Prop where
  seen : GMap Tryz.prog 3 w S (seenL (ps.take k))
  own : GMap Tryz.prog 3 w O (ownL (ps.take k))
  pairs : PairsAt w v ps
  below : Below w0.heap.size w0 w
  hS : w0.heap.size ≤ S
  hO : w0.heap.size ≤ O
  ne : S ≠ O
theorem TS1.ext {w0 w w' : World} {S O : Nat} {v : Value} {ps : List (Nat × Int)} {k : Nat} (h : TS1 w0 w S O v ps k) (hx : Ext w w') : TS1 w0 w' S O v ps k :=
  ⟨h.seen.keep hx, h.own.keep hx, h.pairs.ext hx, Below.trans h.below (Below.mono hx h.below.size), h.hS, h.hO, h.ne⟩
end Go.Proofs.YtaoikbpolckobaaGreatDoor
