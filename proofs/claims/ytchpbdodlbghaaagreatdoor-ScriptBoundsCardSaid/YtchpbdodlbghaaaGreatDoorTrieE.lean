import Derived.Great.BuildSlice
import Derived.Test.YtchpbdodlbghaaaGreatDoorTrieC
namespace Go.Proofs.YtchpbdodlbghaaaGreatDoor
open Go.RowKit
set_option maxRecDepth 100000

theorem GMap.run_len {P : Program} {k E t : TypeId} {w : World} {b : Nat} {l : List (Value × Value)} (h : GMap P k w b l) (ht : P.underlying t = some (.map k E)) (ty : TypeId) :
    (Builtin.len_ #[t] ty #[.map (some b)]).run P w = .ok (.int .i64 l.length) w := by
  obtain ⟨es, clock, hb, he, _⟩ := h.ex
  have : es.size = l.length := by rw [← he, List.length_map, Array.length_toList]
  simp [Builtin.len_, run_underlying ht, Sem.run, getObj, hb, this, goInt]
theorem infoBlk' : ∃ ie z, Tryz.prog.info? 233 = some ie ∧ ie.size = 64 ∧ ie.zero = some z ∧ z.cells.size = 64 := by
  refine ⟨_, _, rfl, ?_, rfl, ?_⟩ <;> kernel_rfl
theorem run_one_blk (b : List Int) (h : b.length = 64) (w : World) : (Instr.buildSlice 234 1 #[(0, .agg (blkI b))]).run Tryz.prog w = .ok (.slice (some ⟨w.heap.size, 0, none⟩) 1 1) (w.alloc (.cells (blkI b) 233)) := by
  obtain ⟨ie, z, h1, h2, h3, h4⟩ := infoBlk'
  refine run_buildSlice w _ 233 1 _ (blkI b) ie z Tryz.underlying234 h1 h3 (by rw [h2]; decide) (by rw [h2]; decide) ?_
  rw [h2]
  have := Great.fill_whole (s := 64) (by decide) [.agg (blkI b)] ((Array.range (1 * 64)).map (z.cells[· % z.cells.size]!)) (by simp [Value.cells, blkI_size, h]) (by simp)
  simpa [Value.cells] using this
theorem blkI_get (b : List Int) (j : Nat) (h : j < b.length) : (blkI b)[j]? = some (.int .i32 (b.getD j 0)) := by
  simp [blkI, List.getD_eq_getElem?_getD, List.getElem?_eq_getElem h]
def fndL (Bs : List (List Int)) : List (Value × Value) := Bs.zipIdx.map fun x => (.agg (blkI x.1), .int .i64 (x.2 : Int))
def atL (f : Nat → Int) (is : List Nat) (Bs : List (List Int)) : List (Value × Value) := is.map fun i : Nat => (.int .i64 (i : Int), .int .i64 ((Bs.idxOf (blk f i) : Nat) : Int))
theorem fndL_snoc (Bs : List (List Int)) (b : List Int) : fndL (Bs ++ [b]) = fndL Bs ++ [(.agg (blkI b), .int .i64 (Bs.length : Int))] := by
  simp [fndL, List.zipIdx_append]
theorem fndL_mem {Bs : List (List Int)} {b : List Int} (h : b ∈ Bs) : (Value.agg (blkI b), Value.int .i64 ((Bs.idxOf b : Nat) : Int)) ∈ fndL Bs := by
  have hlt := List.idxOf_lt_length_of_mem h
  refine List.mem_map.2 ⟨(b, Bs.idxOf b), ?_, rfl⟩
  rw [List.mem_zipIdx_iff_getElem?]
  simp only
  rw [List.getElem?_eq_getElem hlt, List.getElem_idxOf hlt]
theorem fndL_ne {Bs : List (List Int)} {b : List Int} (h : b ∉ Bs) : ∀ p ∈ fndL Bs, p.1 ≠ .agg (blkI b) := by
  intro p hp e
  obtain ⟨x, hx, rfl⟩ := List.mem_map.1 hp
  simp only [Value.agg.injEq] at e
  have := blkI_inj e
  subst this
  exact h (List.fst_mem_of_mem_zipIdx hx)
theorem arrBlk : WideMaps.ArrKey Tryz.prog 233 21 64 := ⟨Tryz.underlying233, by kernel_rfl, by kernel_rfl, by kernel_rfl⟩
theorem keyedBlk : Maps.Keyed Tryz.prog 233 := Maps.Keyed.of_law arrBlk.law
def in32 (b : List Int) : Prop := ∀ x ∈ b, -2147483648 ≤ x ∧ x ≤ 2147483647
theorem keyBlk (b : List Int) (h : b.length = 64) (hw : in32 b) : KeyOk Tryz.prog 233 (.agg (blkI b)) :=
  keyOk_ints arrBlk Tryz.underlying21 typesSize b h (fun x hx => by
    have := hw x hx
    simp [Lit.wf, IntKind.min, IntKind.max, IntKind.bits, IntKind.signed]
    omega)
theorem zeroInt : ∀ w, (zeroValue 3).run Tryz.prog w = .ok (.int .i64 0) w := fun _ => by kernel_rfl
theorem fnd_hit {w : World} {F : Nat} {Bs : List (List Int)} (h : GMap Tryz.prog 233 w F (fndL Bs)) {b : List Int} (hm : b ∈ Bs) :
    (Instr.lookup 237 (.map (some F)) (.agg (blkI b)) true).run Tryz.prog w = .ok (.tuple #[.int .i64 ((Bs.idxOf b : Nat) : Int), .bool true]) w :=
  h.run_hit keyedBlk Tryz.underlying237 (fndL_mem hm) true
theorem fnd_miss {w : World} {F : Nat} {Bs : List (List Int)} (h : GMap Tryz.prog 233 w F (fndL Bs)) {b : List Int} (hl : b.length = 64) (hw : in32 b) (hm : b ∉ Bs) :
    (Instr.lookup 237 (.map (some F)) (.agg (blkI b)) true).run Tryz.prog w = .ok (.tuple #[.int .i64 0, .bool false]) w :=
  h.run_miss keyedBlk Tryz.underlying237 zeroInt (keyBlk b hl hw) (fndL_ne hm) true
theorem fnd_put {w : World} {F : Nat} {Bs : List (List Int)} (h : GMap Tryz.prog 233 w F (fndL Bs)) {b : List Int} (hl : b.length = 64) (hw : in32 b) (hm : b ∉ Bs) :
    ∃ w', (Instr.mapUpdate 237 (.map (some F)) (.agg (blkI b)) (.int .i64 (Bs.length : Int))).run Tryz.prog w = .ok () w' ∧ (GMap Tryz.prog 233 w' F (fndL (Bs ++ [b])) ∧ w.grownBy w' (some F) ∧ w'.heap.size = w.heap.size) := by
  obtain ⟨w', h1, h2, h3, h4⟩ := h.run_put keyedBlk Tryz.underlying237 (keyBlk b hl hw) (fndL_ne hm) (.int .i64 (Bs.length : Int))
  exact ⟨w', h1, by rw [fndL_snoc]; exact h2, h3, h4⟩
theorem at_put {w : World} {M : Nat} {f : Nat → Int} {is : List Nat} {Bs : List (List Int)} (h : GMap Tryz.prog 3 w M (atL f is Bs)) {i n : Nat} (hi : i ≤ 2000000) (hn : i ∉ is) :
    ∃ w', (Instr.mapUpdate 147 (.map (some M)) (.int .i64 i) (.int .i64 (n : Int))).run Tryz.prog w = .ok () w' ∧ (GMap Tryz.prog 3 w' M (atL f is Bs ++ [(.int .i64 i, .int .i64 (n : Int))]) ∧ w.grownBy w' (some M) ∧ w'.heap.size = w.heap.size) :=
  h.run_put keyedInt Tryz.underlying147 (keyInt i hi) (fun p hp e => by
    obtain ⟨j, hj, rfl⟩ := List.mem_map.1 hp
    simp only [Value.int.injEq, true_and] at e
    have : j = i := by omega
    exact hn (this ▸ hj)) (.int .i64 (n : Int))
theorem blks_mem (f : Nat → Int) : ∀ (is : List Nat) (i : Nat), i ∈ is → blk f i ∈ blks f is := by
  have hsub : ∀ (is : List Nat) (B : List (List Int)) (b : List Int), b ∈ B → b ∈ is.foldl (fun B i => addBlk B (blk f i)) B := by
    intro is
    induction is with
    | nil => intro B b h; exact h
    | cons i is ih =>
      intro B b h
      refine ih (addBlk B (blk f i)) b ?_
      unfold addBlk
      split
      · exact h
      · exact List.mem_append_left _ h
  have : ∀ (is : List Nat) (B : List (List Int)) (i : Nat), i ∈ is → blk f i ∈ is.foldl (fun B i => addBlk B (blk f i)) B := by
    intro is
    induction is with
    | nil => intro B i h; cases h
    | cons j is ih =>
      intro B i h
      rcases List.mem_cons.1 h with rfl | h
      · exact hsub is _ _ (addBlk_mem B _)
      · exact ih _ i h
  exact fun is i h => this is _ i h
theorem atL_grow (f : Nat → Int) (is : List Nat) (Bs : List (List Int)) (b : List Int) (h : ∀ i ∈ is, blk f i ∈ Bs) : atL f is (addBlk Bs b) = atL f is Bs := by
  unfold atL
  apply List.map_congr_left
  intro i hi
  rw [addBlk_idx Bs b _ (h i hi)]
theorem atL_snoc (f : Nat → Int) (is : List Nat) (i : Nat) (Bs : List (List Int)) : atL f (is ++ [i]) Bs = atL f is Bs ++ [(.int .i64 (i : Int), .int .i64 ((Bs.idxOf (blk f i) : Nat) : Int))] := by simp [atL]
theorem idx_new {Bs : List (List Int)} {b : List Int} (h : b ∉ Bs) : (Bs ++ [b]).idxOf b = Bs.length := by
  rw [List.idxOf_append, if_neg h]
  simp
theorem infoTB : (Tryz.prog.info? 233).map (fun i => (i.zero, i.size, i.bytes)) = some (some (.agg (blkI (List.replicate 64 0))), 64, 256) := by kernel_rfl
theorem wpList_glen {P : Program} {w : World} {ops : Array Oper} {rest : List Oper} {o : Oper} {a : Act} {Q : Exit → Act → World → Prop} (hg : o.guard = none) (m : Operand) (t : TypeId) (hop : o.op = Op.call { callee := Callee.builtin Builtin.len, args := #[m], argTypes := #[t] })
    (k E : TypeId) (ht : P.underlying t = some (.map k E)) (b : Nat) (l : List (Value × Value)) (n : Nat) (hm : a.eval m = .map (some b)) (h : GMap P k w b l) (hn : l.length = n) (hK : wpList P ops Q rest (a.put o.dst (.int .i64 n)) w) : wpList P ops Q (o :: rest) a w := by
  subst hn
  refine wpList_plain hg fun K' hK' => ?_
  unfold Oper.wp
  simp [execOp, hop, resolve, invoke, builtin, hm, h.run_len ht o.type, Result.andThen]
  exact hK' _ _ hK
theorem own_form {w : World} {B e size n : Nat} {v : Value} {xs : List Value} (h : w.ownsRow B e size v (n + 1) xs) : ∃ g c, v = .slice (some ⟨g, 0, none⟩) (n + 1) c := by
  rcases h.2 with ⟨_, h0⟩ | ⟨g, cap, _, rfl, _⟩
  · omega
  · exact ⟨g, cap, rfl⟩
theorem own_form' {w : World} {B e size n : Nat} {v : Value} {xs : List Value} (h : w.ownsRow B e size v n xs) (hn : n ≠ 0) : ∃ g c, v = .slice (some ⟨g, 0, none⟩) n c := by
  rcases h.2 with ⟨_, h0⟩ | ⟨g, cap, _, rfl, _⟩
  · omega
  · exact ⟨g, cap, rfl⟩
theorem setCell_grown (w : World) (a : Addr) (v : Value) : w.grownBy (w.setCell a v) (some a.block) :=
  ⟨rfl, rfl, rfl, by simp, fun i _ hne => Below.heap_setCell w a v i (fun e => hne (by rw [e]))⟩
theorem GMap.ne_row {P : Program} {k e B n size : Nat} {w : World} {b : Nat} {l : List (Value × Value)} {v : Value} {xs : List Value} (h : GMap P k w b l) (hr : w.ownsRow B e size v n xs) : some b ≠ v.ownBlock := by
  intro e
  obtain ⟨cur, hc, _⟩ := ownsRow_heap hr e.symm
  exact h.nocells _ _ _ hc
theorem blk_ne_row {e B n size t g : Nat} {w : World} {cs : Array Value} {v : Value} {xs : List Value} (h : Blk w g cs t) (hr : w.ownsRow B e size v n xs) (hne : e ≠ t) : some g ≠ v.ownBlock := by
  intro e
  obtain ⟨cur, hc, _⟩ := ownsRow_heap hr e.symm
  unfold Blk at h
  rw [h] at hc
  injection hc with hc
  injection hc with _ hc
  exact hne hc.symm
def rowOf (Bs : List (List Int)) : List Value := Bs.flatMap fun b => (blkI b).toList
theorem rowOf_snoc (Bs : List (List Int)) (b : List Int) : rowOf (Bs ++ [b]) = rowOf Bs ++ (blkI b).toList := by simp [rowOf]
structure TSt (w0 w : World) (O F M T : Nat) (bv : Value) (ol fl al : List (Value × Value)) (Bs : List (List Int)) : Prop where
  own : GMap Tryz.prog 3 w O ol
  fnd : GMap Tryz.prog 233 w F fl
  at_ : GMap Tryz.prog 3 w M al
  cell : Blk w T #[bv, .map (some M)] 236
  row : w.ownsRow w0.heap.size 233 64 bv Bs.length (rowOf Bs)
  below : Below w0.heap.size w0 w
  ne : O ≠ F ∧ O ≠ M ∧ F ≠ M
  hF : w0.heap.size ≤ F
  hM : w0.heap.size ≤ M
  hT : w0.heap.size ≤ T
section
variable {w0 w w' : World} {O F M T : Nat} {bv bv' : Value} {ol fl al fl' al' : List (Value × Value)} {Bs : List (List Int)}
theorem TSt.ext (h : TSt w0 w O F M T bv ol fl al Bs) (hx : Ext w w') : TSt w0 w' O F M T bv ol fl al Bs :=
  ⟨h.own.keep hx, h.fnd.keep hx, h.at_.keep hx, h.cell.keep hx, ownsRow_ext h.row hx, Below.trans h.below (Below.mono hx h.below.size), h.ne, h.hF, h.hM, h.hT⟩
theorem TSt.putF (h : TSt w0 w O F M T bv ol fl al Bs) (hf : GMap Tryz.prog 233 w' F fl') (hg : w.grownBy w' (some F)) : TSt w0 w' O F M T bv ol fl' al Bs :=
  ⟨h.own.grown hg (fun e => h.ne.1 (Option.some.inj e)), hf, h.at_.grown hg (fun e => h.ne.2.2 (Option.some.inj e).symm), blk_grownM h.cell hg h.fnd.nocells, h.row.kept hg (.inr (fun e => h.fnd.ne_row h.row e.symm)),
    h.below.grown hg h.below.size (fun k hk => by cases hk; exact h.hF), h.ne, h.hF, h.hM, h.hT⟩
theorem TSt.putM (h : TSt w0 w O F M T bv ol fl al Bs) (hf : GMap Tryz.prog 3 w' M al') (hg : w.grownBy w' (some M)) : TSt w0 w' O F M T bv ol fl al' Bs :=
  ⟨h.own.grown hg (fun e => h.ne.2.1 (Option.some.inj e)), h.fnd.grown hg (fun e => h.ne.2.2 (Option.some.inj e)), hf, blk_grownM h.cell hg h.at_.nocells, h.row.kept hg (.inr (fun e => h.at_.ne_row h.row e.symm)),
    h.below.grown hg h.below.size (fun k hk => by cases hk; exact h.hM), h.ne, h.hF, h.hM, h.hT⟩
theorem TSt.cellOf (h : TSt w0 w O F M T bv ol fl al Bs) (hg : w.grownBy w' bv.ownBlock) : Blk w' T #[bv, .map (some M)] 236 :=
  (hg.block T h.cell.lt (blk_ne_row h.cell h.row (by decide))).trans h.cell
theorem TSt.push {b : List Int} (h : TSt w0 w O F M T bv ol fl al Bs) (hg : w.grownBy w' bv.ownBlock) (hr : w'.ownsRow w0.heap.size 233 64 bv' (Bs.length + 1) (rowOf Bs ++ (blkI b).toList)) :
    TSt w0 (w'.setCell ⟨T, 0, none⟩ bv') O F M T bv' ol fl al (Bs ++ [b]) := by
  have hc := h.cellOf hg
  have nT : ∀ {k l g}, GMap Tryz.prog k w' g l → g ≠ T := by
    intro k l g hm e
    subst e
    exact hm.nocells _ _ _ hc
  have ho := h.own.grown hg (h.own.ne_row h.row)
  have hf := h.fnd.grown hg (h.fnd.ne_row h.row)
  have ha := h.at_.grown hg (h.at_.ne_row h.row)
  refine ⟨ho.setCell (nT ho) _, hf.setCell (nT hf) _, ha.setCell (nT ha) _, hc.set 0 _, ?_, ?_, h.ne, h.hF, h.hM, h.hT⟩
  · rw [rowOf_snoc, List.length_append]
    exact hr.kept (setCell_grown w' ⟨T, 0, none⟩ bv') (.inr (fun e => blk_ne_row hc hr (by decide) e.symm))
  · exact (h.below.grown hg h.below.size (fun k hk => by
      obtain ⟨g, hb⟩ : ∃ g, bv.ownBlock = some g := ⟨k, hk⟩
      rcases h.row.2 with ⟨e, _⟩ | ⟨g', _, _, e, hB, _⟩
      · rw [e] at hk; simp [Value.ownBlock] at hk
      · rw [e] at hk; simp [Value.ownBlock] at hk; omega)).setCell (p := ⟨T, 0, none⟩) h.hT _
end
structure TL (w0 w : World) (O F M T : Nat) (bv : Value) (ol fl al : List (Value × Value)) (Bs : List (List Int)) (sv : Value) (is : List Nat) : Prop where
  st : TSt w0 w O F M T bv ol fl al Bs
  srow : w.ownsRow w0.heap.size 3 1 sv is.length (is.map fun i : Nat => Value.int .i64 (i : Int))
section
variable {w0 w w' : World} {O F M T : Nat} {bv bv' sv : Value} {ol fl al fl' al' : List (Value × Value)} {Bs : List (List Int)} {is : List Nat}
theorem TL.ext (h : TL w0 w O F M T bv ol fl al Bs sv is) (hx : Ext w w') : TL w0 w' O F M T bv ol fl al Bs sv is := ⟨h.st.ext hx, ownsRow_ext h.srow hx⟩
theorem TL.putF (h : TL w0 w O F M T bv ol fl al Bs sv is) (hf : GMap Tryz.prog 233 w' F fl') (hg : w.grownBy w' (some F)) : TL w0 w' O F M T bv ol fl' al Bs sv is :=
  ⟨h.st.putF hf hg, h.srow.kept hg (.inr (fun e => h.st.fnd.ne_row h.srow e.symm))⟩
theorem TL.putM (h : TL w0 w O F M T bv ol fl al Bs sv is) (hf : GMap Tryz.prog 3 w' M al') (hg : w.grownBy w' (some M)) : TL w0 w' O F M T bv ol fl al' Bs sv is :=
  ⟨h.st.putM hf hg, h.srow.kept hg (.inr (fun e => h.st.at_.ne_row h.srow e.symm))⟩
theorem TL.push {b : List Int} (h : TL w0 w O F M T bv ol fl al Bs sv is) (hg : w.grownBy w' bv.ownBlock) (hr : w'.ownsRow w0.heap.size 233 64 bv' (Bs.length + 1) (rowOf Bs ++ (blkI b).toList)) :
    TL w0 (w'.setCell ⟨T, 0, none⟩ bv') O F M T bv' ol fl al (Bs ++ [b]) sv is := by
  refine ⟨h.st.push hg hr, ?_⟩
  have hs : w'.ownsRow w0.heap.size 3 1 sv is.length (is.map fun i : Nat => Value.int .i64 (i : Int)) := h.srow.kept hg (by
    cases hv : sv.ownBlock with
    | none => exact .inl rfl
    | some g => exact .inr (fun e => ownsRow_apart h.srow h.st.row (by decide) hv e.symm))
  exact hs.kept (setCell_grown w' ⟨T, 0, none⟩ bv') (.inr (fun e => blk_ne_row (h.st.cellOf hg) hs (by decide) e.symm))
end
theorem idxs_le {ps : List (Nat × Int)} (h : ∀ p ∈ ps, goodPair p) : ∀ i ∈ idxs ps, i ≤ 17412 := by
  intro i hi
  obtain ⟨p, hp, rfl⟩ := (mem_idxs ps i).1 hi
  have := (h p hp).1
  omega
theorem ownsRow_low {w : World} {B B' e size n : Nat} {v : Value} {xs : List Value} (h : w.ownsRow B e size v n xs) (hb : B' ≤ B) : w.ownsRow B' e size v n xs := by
  refine ⟨h.1, ?_⟩
  rcases h.2 with h | ⟨g, cap, cur, h1, h2, h3⟩
  · exact .inl h
  · exact .inr ⟨g, cap, cur, h1, Nat.le_trans hb h2, h3⟩
theorem sorted_nat (l : List Nat) : ∃ s : List Nat, s.Perm l ∧ ((l.map fun i : Nat => (i : Int)).mergeSort fun x y => decide (x ≤ y)) = s.map fun i : Nat => (i : Int) := by
  have hp := List.mergeSort_perm (l.map fun i : Nat => (i : Int)) (fun x y => decide (x ≤ y))
  have hm : ∀ x ∈ ((l.map fun i : Nat => (i : Int)).mergeSort fun x y => decide (x ≤ y)), ((x.toNat : Nat) : Int) = x := by
    intro x hx
    obtain ⟨i, _, rfl⟩ := List.mem_map.1 (hp.mem_iff.1 hx)
    simp
  refine ⟨((l.map fun i : Nat => (i : Int)).mergeSort fun x y => decide (x ≤ y)).map Int.toNat, ?_, ?_⟩
  · have := hp.map Int.toNat
    rw [List.map_map] at this
    refine this.trans ?_
    have e : l.map (Int.toNat ∘ fun i : Nat => (i : Int)) = l := (List.map_congr_left (g := id) fun i _ => by simp).trans (List.map_id l)
    rw [e]
  · rw [List.map_map]
    exact ((List.map_congr_left (g := id) fun x hx => hm x hx).trans (List.map_id _)).symm
theorem blks_pos (f : Nat → Int) (is : List Nat) : (blks f is).length ≠ 0 := by
  have : ∀ (is : List Nat) (B : List (List Int)), B.length ≠ 0 → (is.foldl (fun B i => addBlk B (blk f i)) B).length ≠ 0 := by
    intro is
    induction is with
    | nil => intro B h; exact h
    | cons i is ih =>
      intro B h
      refine ih (addBlk B (blk f i)) ?_
      unfold addBlk
      split
      · exact h
      · simp
  exact this is _ (by simp)
theorem rowOf_get : ∀ (Bs : List (List Int)), (∀ b ∈ Bs, b.length = 64) → ∀ k j, k < Bs.length → j < 64 → (rowOf Bs)[k * 64 + j]? = some (.int .i32 ((Bs.getD k []).getD j 0))
  | [], _, k, _, hk, _ => absurd hk (Nat.not_lt_zero _)
  | b :: Bs, h, k, j, hk, hj => by
    have hb := h b (List.mem_cons_self ..)
    have e : rowOf (b :: Bs) = (blkI b).toList ++ rowOf Bs := by simp [rowOf]
    have hl : (blkI b).toList.length = 64 := by rw [Array.length_toList, blkI_size, hb]
    rw [e]
    cases k with
    | zero =>
      rw [List.getElem?_append_left (by omega)]
      have := blkI_get b j (by omega)
      simpa using this
    | succ k =>
      rw [List.getElem?_append_right (by omega), hl, show (k + 1) * 64 + j - 64 = k * 64 + j by omega, rowOf_get Bs (fun b hb => h b (List.mem_cons_of_mem _ hb)) k j (by simp at hk; omega) hj]
      simp
def TrieAt (w : World) (T : Nat) (f : Nat → Int) : Prop :=
  ∃ (M : Nat) (g c : Nat) (is : List Nat), Blk w T #[.slice (some ⟨g, 0, none⟩) (blks f is).length c, .map (some M)] 236 ∧ GMap Tryz.prog 3 w M (atL f is (blks f is)) ∧ g < w.heap.size ∧
    (∀ k j, k < (blks f is).length → j < 64 → w.cell? ⟨g, k * 64 + j, none⟩ = some (.int .i32 (((blks f is).getD k []).getD j 0))) ∧ (∀ i, i ∉ is → blk f i = List.replicate 64 0) ∧ (∀ i ∈ is, i ≤ 17412) ∧ (blks f is).length ≤ 20000
theorem TrieAt.ext {w w' : World} {T : Nat} {f : Nat → Int} (h : TrieAt w T f) (hx : Ext w w') : TrieAt w' T f := by
  obtain ⟨M, g, c, is, h1, h2, h3, h4, h5⟩ := h
  exact ⟨M, g, c, is, h1.keep hx, h2.keep hx, Nat.lt_of_lt_of_le h3 hx.size, fun k j hk hj => by rw [hx.cell (p := ⟨g, k * 64 + j, none⟩) h3]; exact h4 k j hk hj, h5⟩
def TriePost (w : World) (f : Nat → Int) (e : Ending) (w' : World) : Prop := ∃ T, e = .returned (.tuple #[.pointer (some ⟨T, 0, none⟩), .int .i64 0]) ∧ w.heap.size ≤ T ∧ TrieAt w' T f ∧ Below w.heap.size w w'
theorem TSt.trie {w0 w : World} {O F M T : Nat} {bv : Value} {ps : List (Nat × Int)} {is : List Nat} {fl : List (Value × Value)} (h : TSt w0 w O F M T bv (ownL ps) fl (atL (fOf ps) is (blks (fOf ps) is)) (blks (fOf ps) is)) (hp : is.Perm (idxs ps)) (hl : is.length ≤ 10000) (hg : ∀ p ∈ ps, goodPair p) : TrieAt w T (fOf ps) := by
  obtain ⟨g, c, rfl⟩ := own_form' h.row (blks_pos _ _)
  obtain ⟨cur, _, hlt⟩ := ownsRow_heap h.row (g := g) rfl
  refine ⟨M, g, c, is, h.cell, h.at_, hlt, fun k j hk hj => ?_, fun i hi => ?_, fun i hi => idxs_le hg i (hp.mem_iff.1 hi), ?_⟩
  · rw [h.row.cellAt (k * 64 + j) (by omega)]
    exact rowOf_get _ (blks_len64 _ _) k j hk hj
  · exact blk_zero ps (fun h => hi (hp.mem_iff.2 h))
  · have := blks_length (fOf ps) is
    omega
def oneBlk (b : List Int) (v : Value) (w : World) : Prop := ∃ g, v = .slice (some ⟨g, 0, none⟩) 1 1 ∧ Blk w g (blkI b) 233
theorem blk_in32 {ps : List (Nat × Int)} (h : ∀ p ∈ ps, goodPair p) (i : Nat) : in32 (blk (fOf ps) i) := by
  intro x hx
  simp only [blk, List.mem_map] at hx
  obtain ⟨j, _, rfl⟩ := hx
  unfold fOf
  cases hf : ps.find? (fun p => p.1 == 64 * i + j) with
  | none => simp
  | some p => exact (h p (List.mem_of_find?_eq_some hf)).2
theorem yields_oneBlk {o : Oper} {ρ : Operand → Value} {w : World} {x : Operand} {b : List Int} (ho : o.op = .buildSlice 234 1 #[(0, x)]) (hx : ρ x = .agg (blkI b)) (h : b.length = 64) : yields Tryz.prog o ρ w (ParPost (oneBlk b) w) := by
  unfold yields execOp
  simp only [ho, Sem.run_bind, List.map_toArray, List.map_cons, List.map_nil, hx, run_one_blk b h, Result.andThen_ok]
  exact ⟨(Ext.refl _).alloc _, fun w2 h2 => ⟨_, rfl, (Blk.new w _ _ rfl).keep h2⟩⟩
theorem yields_push {P : Program} {w : World} {o : Oper} {ρ : Operand → Value} {Y : Value → World → Prop} (s x : Operand) (t : TypeId) (ho : o.op = .call { callee := .builtin .append, args := #[s, x], argTypes := #[t, t] })
    (base : Nat) (e : TypeId) (z : Value) (size bytes : Nat) (ht : P.underlying t = some (.slice e)) (hinfo : (P.info? e).map (fun i => (i.zero, i.size, i.bytes)) = some (some z, size, bytes))
    (hzs : z.cells.size = size) (hsz : 0 < size) (v : Value) (n : Nat) (xs : List Value) (hs : ρ s = v) (hown : w.ownsRow base e size v n xs)
    (b : Nat) (te : TypeId) (news : Array Value) (hx : ρ x = .slice (some ⟨b, 0, none⟩) 1 1) (hb : Blk w b news te) (hl : news.size = size) (h1 : ∀ u ∈ news.toList, u.oneCell' = true)
    (h63 : n + 1 ≤ maxLen) (hbytes : (n + 1) * bytes ≤ 140737488355328) (hbase : base ≤ w.heap.size)
    (h : ∀ v' w', w'.ownsRow base e size v' (n + 1) (xs ++ news.toList) → w.grownBy w' v.ownBlock → (v'.ownBlock = v.ownBlock ∨ v'.ownBlock = some w.heap.size) → Y v' w') : yields P o ρ w Y := by
  obtain ⟨i, hi, hz0, hz1, hz2⟩ := info_parts hinfo
  obtain ⟨v', w', hr, h2, h3, _, h5⟩ := run_append_own_at (P := P) w base t o.type e i z size bytes ht hi hz0 hz1 hz2 hzs hsz v n xs hown ⟨b, 0, none⟩ 1 1 news.toList (by simpa using hl) (fun j u hj => by
    rw [Addr.add_lit, Nat.zero_add, hb.cell]
    simpa using hj) h1 h63 hbytes hbase
  unfold yields execOp
  simp only [ho, resolve, invoke, builtin, Sem.run_bind, Sem.run_pure, Result.andThen_ok, List.map_toArray, List.map_cons, List.map_nil, hs, hx, hr]
  exact h v' w' h2 h3 h5
end Go.Proofs.YtchpbdodlbghaaaGreatDoor
