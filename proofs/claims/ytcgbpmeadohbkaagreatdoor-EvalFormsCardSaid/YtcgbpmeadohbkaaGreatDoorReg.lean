import Derived.Outline
import Derived.Test.YtcgbpmeadohbkaaGreatDoorParL
import Derived.Test.YtcgbpmeadohbkaaGreatDoorRootD
namespace Go.Proofs.YtcgbpmeadohbkaaGreatDoor
open Go.RowKit
set_option maxRecDepth 100000
def kB : Value := .agg #[.string ⟨#[98, 105, 110, 97, 114, 121]⟩]
def kF : Value := .agg #[.string ⟨#[110, 111, 99, 97, 115, 101]⟩]
def kR : Value := .agg #[.string ⟨#[114, 111, 111, 116]⟩]
def cB : Value := .agg #[.int .i64 1, .int .i64 0, .bool false, .bool false, .pointer none]
def cF : Value := .agg #[.int .i64 2, .int .i64 0, .bool false, .bool false, .pointer none]
def cR (p : Nat) : Value := .agg #[.int .i64 3, .int .i64 3, .bool false, .bool false, .pointer (some ⟨p, 0, none⟩)]
def goodE (w : World) (q : Value × Value) : Prop := q = (kB, cB) ∨ q = (kF, cF) ∨ (q.1 = kR ∧ ∃ p, q.2 = cR p ∧ RootAt w p)
def RegOk (B : Nat) (w : World) (M : Nat) (ks : List Value) : Prop := B ≤ M ∧ ∃ l, GMap Tryz.prog 117 w M l ∧ (∀ k ∈ ks, k ∈ l.map (·.1)) ∧ ∀ q ∈ l, goodE w q
structure LeM (B : Nat) (w w' : World) : Prop where
 os : w'.os = w.os
 tape : w'.tape = w.tape
 out : w'.output = w.output
 size : w.heap.size ≤ w'.heap.size
 old : ∀ i, i < B → i < w.heap.size → w'.heap[i]? = w.heap[i]?
 reg : ∀ M ks, RegOk B w M ks → RegOk B w' M ks
 root : ∀ p, RootAt w p → RootAt w' p
theorem leM (B : Nat) : IsLe (LeM B) :=
 ⟨fun _ => ⟨rfl, rfl, rfl, Nat.le_refl _, fun _ _ _ => rfl, fun _ _ h => h, fun _ h => h⟩,
  fun {a b c} h k => ⟨k.os.trans h.os, k.tape.trans h.tape, k.out.trans h.out, Nat.le_trans h.size k.size, fun i h1 h2 => (k.old i h1 (Nat.lt_of_lt_of_le h2 h.size)).trans (h.old i h1 h2), fun M ks hr => k.reg M ks (h.reg M ks hr), fun p hp => k.root p (h.root p hp)⟩,
  fun {a b} h => ⟨h.os, h.tape, h.out, h.size, h.old, fun M ks hr => by
   obtain ⟨h1, l, h2, h3, h4⟩ := h.reg M ks hr
   exact ⟨h1, l, h2.drew, h3, fun q hq => by
    rcases h4 q hq with h | h | ⟨h, p, h5, h6⟩
    ·exact .inl h
    ·exact .inr (.inl h)
    ·exact .inr (.inr ⟨h, p, h5, h6.ext ((Ext.refl _).drew)⟩)⟩, fun p hp => (h.root p hp).ext ((Ext.refl _).drew)⟩⟩
theorem goodE.ext {w w' : World} {q : Value × Value} (h : goodE w q) (hx : ∀ p, RootAt w p → RootAt w' p) : goodE w' q := by
 rcases h with h | h | ⟨h, p, h5, h6⟩
 ·exact .inl h
 ·exact .inr (.inl h)
 ·exact .inr (.inr ⟨h, p, h5, hx p h6⟩)
theorem LeM.ofExt {B : Nat} {w w' : World} (h : Ext w w') : LeM B w w' :=
 ⟨h.os, h.tape, h.output, h.size, fun i _ hi => h.block i hi, fun _ _ ⟨h1, l, h2, h3, h4⟩ => ⟨h1, l, h2.keep h, h3, fun q hq => (h4 q hq).ext fun _ hp => hp.ext h⟩, fun _ hp => hp.ext h⟩
theorem GMap.uniq {P : Program} {k k' : TypeId} {w : World} {b : Nat} {l l' : List (Value × Value)} (h : GMap P k w b l) (h' : GMap P k' w b l') : l = l' := by
 obtain ⟨es, c, h1, h2, _⟩ := h.ex
 obtain ⟨es', c', h1', h2', _⟩ := h'.ex
 rw [h1] at h1'
 injection h1' with h1'
 injection h1' with h3 _
 rw [← h2, ← h2', h3]
theorem goodE_key {w : World} {q : Value × Value} (h : goodE w q) : ∃ s, q.1 = .agg #[.string s] := by
 rcases h with rfl | rfl | ⟨h, _⟩
 ·exact ⟨_, rfl⟩
 ·exact ⟨_, rfl⟩
 ·exact ⟨_, h⟩
theorem RootAt.grown {w w' : World} {B p M : Nat} {ks : List Value} (h : RootAt w p) (hR : RegOk B w M ks) (hg : w.grownBy w' (some M)) : RootAt w' p := by
 obtain ⟨_, l, hl, _, hq⟩ := hR
 obtain ⟨b, T, f, h1, h2, h3, h4⟩ := h
 have hb : b ≠ M := by
  rintro rfl
  obtain ⟨L, k1, k2, k3, k4⟩ := h2
  obtain ⟨v, k5, _⟩ := k4 0 _ _ (by omega) (List.getElem?_eq_getElem (show 0 < rootL.length by rw [rootL_length]; omega))
  have := hl.uniq k1
  subst this
  obtain ⟨s, hs⟩ := goodE_key (hq _ (List.mem_of_getElem? k5))
  simp [kS] at hs
 obtain ⟨L, k1, k2, k3, k4⟩ := h2
 refine ⟨b, T, f, blk_grownM h1 hg hl.nocells, ⟨L, k1.grown hg (fun e => hb (Option.some.inj e)), k2, k3, fun i c es hi hr => ?_⟩, ?_, h4⟩
 ·obtain ⟨v, k5, k6⟩ := k4 i c es hi hr
  exact ⟨v, k5, k6.grown hg hl.nocells⟩
 ·obtain ⟨Mt, g, c, is, t1, t2, t3, t4, t5, t6, t7⟩ := h3
  have hM : Mt ≠ M := by
   rintro rfl
   have := hl.uniq t2
   subst this
   cases is with
   | nil =>
    have h0 := t5 0 (by simp)
    have h32 := h4 32
    rw [if_pos (by decide +kernel)] at h32
    have h5 := congrArg (fun l => l[32]?) h0
    simp [blk] at h5
    omega
   | cons i is =>
    obtain ⟨s, hs⟩ := goodE_key (hq (.int .i64 (i : Int), .int .i64 (((blks f (i :: is)).idxOf (blk f i) : Nat) : Int)) (by simp [atL]))
    simp at hs
  exact ⟨Mt, g, c, is, blk_grownM t1 hg hl.nocells, t2.grown hg (fun e => hM (Option.some.inj e)), Nat.lt_of_lt_of_le t3 hg.size, fun k j hk hj => by
   have hc := t4 k j hk hj
   exact hg.cell hc (fun e => by
    obtain rfl := Option.some.inj e
    unfold World.cell? at hc
    cases hh : w.heap[g]? with
    | none => simp [hh] at hc
    | some ob => cases ob <;> first | exact hl.nocells _ _ _ hh | simp [hh] at hc), t5, t6, t7⟩
theorem keyName (s : ByteArray) (h : s.size ≤ maxLen) : KeyOk Tryz.prog 117 (.agg #[.string s]) := by
 have hkt : Tryz.prog.keyType 117 = true := by kernel_rfl
 have hc : Tryz.prog.cellsOf 117 = 1 := by kernel_rfl
 have hs : Tryz.prog.cellsOf 9 = 1 := by kernel_rfl
 obtain ⟨m, hm⟩ := typesSize
 unfold KeyOk keyOf
 simp only [Tryz.underlying117]
 rw [if_pos (by simp [hkt, Value.formed, Tryz.underlying117, hc]), hm]
 simp [Program.keyLits, Tryz.underlying117, Tryz.underlying9, Value.cells, hc, hs, h]
theorem keyedName : Maps.Keyed Tryz.prog 117 := Maps.Keyed.of_law (deep_law (m := 2) (by omega) (by kernel_rfl) (by kernel_rfl) (by kernel_rfl))
theorem reg_put {B M : Nat} {w : World} {ks : List Value} (h : RegOk B w M ks) {k v : Value} (hk : KeyOk Tryz.prog 117 k) (hg : goodE w (k, v)) :
 ∃ w', (Instr.mapUpdate 122 (.map (some M)) k v).run Tryz.prog w = .ok () w' ∧ (LeM B w w' ∧ RegOk B w' M [k]) := by
 have h0 := h
 obtain ⟨hB, l, hl, hks, hq⟩ := h
 have main : ∀ w' l', (Instr.mapUpdate 122 (.map (some M)) k v).run Tryz.prog w = .ok () w' → GMap Tryz.prog 117 w' M l' → w.grownBy w' (some M) → w'.heap.size = w.heap.size →
  (∀ x, x ∈ l.map (·.1) → x ∈ l'.map (·.1)) → k ∈ l'.map (·.1) → (∀ q ∈ l', q ∈ l ∨ q = (k, v)) →
  ∃ w', (Instr.mapUpdate 122 (.map (some M)) k v).run Tryz.prog w = .ok () w' ∧ (LeM B w w' ∧ RegOk B w' M [k]) := by
  intro w' l' hrun g1 g2 g3 g4 g5 g6
  have hroot : ∀ p, RootAt w p → RootAt w' p := fun p hp => hp.grown h0 g2
  have hall : ∀ q ∈ l', goodE w' q := fun q hq' => by
   rcases g6 q hq' with h | rfl
   ·exact (hq q h).ext hroot
   ·exact hg.ext hroot
  refine ⟨w', hrun, ⟨g2.os, g2.tape, g2.output, g2.size, fun i h1 h2 => g2.block i h2 (fun e => by have := Option.some.inj e; omega), fun M' ks' hr => ?_, hroot⟩, hB, l', g1, fun x hx => by
   simp at hx; subst hx; exact g5, hall⟩
  obtain ⟨hB', m, hm, hks', hq'⟩ := hr
  by_cases he : M' = M
  ·subst he
   have := hl.uniq hm
   subst this
   exact ⟨hB', l', g1, fun x hx => g4 x (hks' x hx), hall⟩
  ·exact ⟨hB', m, hm.grown g2 (fun e => he (Option.some.inj e)), hks', fun q hx => (hq' q hx).ext hroot⟩
 by_cases hmem : k ∈ l.map (·.1)
 ·obtain ⟨q, hq1, rfl⟩ := List.mem_map.1 hmem
  obtain ⟨l1, l2, rfl⟩ := List.append_of_mem hq1
  obtain ⟨x, v0⟩ := q
  obtain ⟨w', h1, h2, h3, h4⟩ := hl.run_set keyedName Tryz.underlying122 v
  refine main w' _ h1 h2 h3 h4 (fun y hy => by simpa using hy) (by simp) (fun q hq => ?_)
  simp only [List.mem_append, List.mem_cons] at hq ⊢
  rcases hq with h | h | h
  ·exact .inl (.inl h)
  ·exact .inr h
  ·exact .inl (.inr (.inr h))
 ·obtain ⟨w', h1, h2, h3, h4⟩ := hl.run_put keyedName Tryz.underlying122 hk (fun p hp e => hmem (List.mem_map.2 ⟨p, hp, e⟩)) v
  refine main w' _ h1 h2 h3 h4 (fun y hy => by simp at hy ⊢; exact .inl hy) (by simp) (fun q hq => by simpa using hq)
theorem yields_ins {P : Program} {w : World} {o : Oper} {ρ : Operand → Value} {Y : Value → World → Prop} (t : TypeId) (m x y : Operand) (ho : o.op = .insert t m x y) {b : Nat} {k v : Value} (hm : ρ m = .map (some b)) (hx : ρ x = k) (hy : ρ y = v) (R : World → Prop)
 (hrun : ∃ w', (Instr.mapUpdate t (.map (some b)) k v).run P w = .ok () w' ∧ R w') (h : ∀ w', R w' → Y undef w') : yields P o ρ w Y := by
 obtain ⟨w', hr, hR⟩ := hrun
 unfold yields execOp
 simp [ho, hm, hx, hy, hr, Result.andThen]
 exact h w' hR
def isMap (B : Nat) (v : Value) (w : World) : Prop := ∃ M, v = .map (some M) ∧ RegOk B w M []
def hasKey (B : Nat) (k : Value) (ds : List Value) (_v : Value) (w : World) : Prop := ∃ M, ds.head? = some (.map (some M)) ∧ RegOk B w M [k]
def isRoot (v : Value) (w : World) : Prop := ∃ p, v = .pointer (some ⟨p, 0, none⟩) ∧ RootAt w p
def isColl (v : Value) (w : World) : Prop := ∃ p, v = cR p ∧ RootAt w p
def RegAt (w : World) (q : Nat) : Prop := ∃ M l, Blk w q #[.map (some M)] 124 ∧ GMap Tryz.prog 117 w M l ∧ (kB, cB) ∈ l ∧ (kF, cF) ∈ l ∧ (∃ p, (kR, cR p) ∈ l ∧ RootAt w p) ∧ ∀ x ∈ l, x.1 = kB ∨ x.1 = kF ∨ x.1 = kR
theorem RegAt.ext {w w' : World} {q : Nat} (h : RegAt w q) (hx : Ext w w') : RegAt w' q := by
 obtain ⟨M, l, h1, h2, h3, h4, ⟨p, h5, h6⟩, h7⟩ := h
 exact ⟨M, l, h1.keep hx, h2.keep hx, h3, h4, ⟨p, h5, h6.ext hx⟩, h7⟩
def RegPost (w : World) (e : Ending) (w' : World) : Prop := ∃ q, e = .returned (.pointer (some ⟨q, 0, none⟩)) ∧ w.heap.size ≤ q ∧ RegAt w' q ∧ Below w.heap.size w w'
theorem regOf {B M : Nat} {W : World} (h1 : RegOk B W M [kB]) (h2 : RegOk B W M [kF]) (h3 : RegOk B W M [kR]) : ∀ (w' : World) (q : Nat), Blk w' q #[.map (some M)] 124 → Ext W w' → RegAt w' q := by
 intro w' q hq hx
 obtain ⟨_, l, g1, k1, e1⟩ := h1
 obtain ⟨_, l2, g2, k2, _⟩ := h2
 obtain ⟨_, l3, g3, k3, _⟩ := h3
 have := g1.uniq g2; subst this
 have := g1.uniq g3; subst this
 have nBF : kB ≠ kF := by simp [kB, kF]
 have nBR : kB ≠ kR := by simp [kB, kR]
 have nFR : kF ≠ kR := by simp [kF, kR]
 refine ⟨M, l, hq, g1.keep hx, ?_, ?_, ?_, fun x hm => ?_⟩
 ·obtain ⟨x, hx1, hx2⟩ := List.mem_map.1 (k1 kB (by simp))
  rcases e1 x hx1 with rfl | rfl | ⟨h, _⟩
  ·exact hx1
  ·exact absurd hx2.symm nBF
  ·exact absurd (hx2.symm.trans h) nBR
 ·obtain ⟨x, hx1, hx2⟩ := List.mem_map.1 (k2 kF (by simp))
  rcases e1 x hx1 with rfl | rfl | ⟨h, _⟩
  ·exact absurd hx2 nBF
  ·exact hx1
  ·exact absurd (hx2.symm.trans h) nFR
 ·obtain ⟨x, hx1, hx2⟩ := List.mem_map.1 (k3 kR (by simp))
  rcases e1 x hx1 with rfl | rfl | ⟨h, p, h5, h6⟩
  ·exact absurd hx2 nBR
  ·exact absurd hx2 nFR
  ·refine ⟨p, ?_, h6.ext hx⟩
   obtain ⟨a, b⟩ := x
   simp only at h h5
   subst h h5
   exact hx1
 ·rcases e1 x hm with rfl | rfl | ⟨h, _⟩
  ·exact .inl rfl
  ·exact .inr (.inl rfl)
  ·exact .inr (.inr h)
set_option maxHeartbeats 4000000 in
theorem regnew_any (w : World) : Calls Tryz.prog 29 #[] w (RegPost w) := by
 have hmm := @run_makeMap Tryz.prog
 have HF := Lib.hid (show ∀ W, LeM w.heap.size w W → w.heap.size ≤ W.heap.size from fun W h => h.size)
 go_enter Tryz.func29, Tryz.ntmps29
 go_wp2_with fail
 refine wp_parZG (leM w.heap.size) [0, 1, 2, 3, 4, 5, 6, 7, 8, 9, 10, 11, 12, 13, 14] 11 11 (fun
  | 0 => fun _ => isMap w.heap.size
  | 1 => fun _ v _ => v = kB
  | 2 => fun _ v _ => v = cB
  | 3 => hasKey w.heap.size kB
  | 4 => fun _ v _ => v = kF
  | 5 => fun _ v _ => v = cF
  | 6 => hasKey w.heap.size kF
  | 7 => fun _ v _ => v = kR
  | 8 => fun _ => isRoot
  | 9 => fun _ => isColl
  | 10 => hasKey w.heap.size kR
  | _ => fun _ _ _ => True) (fun
  | _ => undef) (by kernel_rfl) (by kernel_rfl) (by kernel_rfl) ?_ ?_ ?_
 ·simp (maxSteps := 20000000) only [permL, permOp, List.filterMap_cons, List.filterMap_nil, List.getElem?_cons_succ, List.getElem?_cons_zero, Option.map_some, Option.map_none, List.take_succ_cons, List.take_zero, ParAllG, Act.put, List.setIfInBounds_toArray, List.set_cons_succ, List.set_cons_zero]
  refine ⟨?_, ?_, ?_, ?_, ?_, ?_, ?_, ?_, ?_, ?_, ?_, trivial⟩
  all_goals
   intro vals W hx hd
   have hW := HF.out W hx
   simp [PDepsG, pdeps, Region.binds, List.idxOf_cons] at hd
   first
    | refine ParObG.plain rfl ?_
    | refine ParObG.wanted (by simp [Region.wanted, yielded, hd]) ?_
  ·go_simp
   exact ⟨LeM.ofExt ((Ext.refl _).alloc _), fun w2 h2 => ⟨_, rfl, h2.reg _ _ ⟨hW, [], GMap.new _ _ _ rfl, by simp, by simp⟩⟩⟩
  iterate 2
   next =>
    go_simp
    exact ParPostG.same (leM w.heap.size) fun _ _ => rfl
  ·obtain ⟨⟨M, hv, hR⟩, h1, h2⟩ := hd
   refine yields_ins (k := kB) (v := cB) _ _ _ _ rfl (by simpa [Act.eval] using hv) (by simpa [Act.eval] using h1) (by simpa [Act.eval] using h2) _ (reg_put hR (keyName _ (by decide)) (.inl rfl)) ?_
   rintro w2 ⟨g1, g2⟩
   exact ⟨g1, fun w3 h3 => ⟨M, by simp [dv, ldeps, pdeps, Region.binds, List.idxOf_cons, hv], h3.reg _ _ g2⟩⟩
  iterate 2
   next =>
    go_simp
    exact ParPostG.same (leM w.heap.size) fun _ _ => rfl
  ·obtain ⟨⟨M, hv, hR⟩, h1, h2⟩ := hd
   refine yields_ins (k := kF) (v := cF) _ _ _ _ rfl (by simpa [Act.eval] using hv) (by simpa [Act.eval] using h1) (by simpa [Act.eval] using h2) _ (reg_put hR (keyName _ (by decide)) (.inr (.inl rfl))) ?_
   rintro w2 ⟨g1, g2⟩
   exact ⟨g1, fun w3 h3 => ⟨M, by simp [dv, ldeps, pdeps, Region.binds, List.idxOf_cons, hv], h3.reg _ _ g2⟩⟩
  ·go_simp
   exact ParPostG.same (leM w.heap.size) fun _ _ => rfl
  ·go_simp
   refine (root_any W).mono ?_
   rintro e w2 ⟨p, rfl, h1, h2, h3⟩
   exact ⟨_, rfl, LeM.ofExt h3, fun w4 h4 => ⟨p, rfl, h4.root p h2⟩⟩
  ·obtain ⟨p, hv, hp⟩ := hd
   go_simp
   exact ⟨(leM _).refl _, fun w2 h2 => ⟨p, rfl, h2.root p hp⟩⟩
  ·obtain ⟨⟨M, hv, hR⟩, h1, p, h2, hp⟩ := hd
   refine yields_ins (k := kR) (v := cR p) _ _ _ _ rfl (by simpa [Act.eval] using hv) (by simpa [Act.eval] using h1) (by simpa [Act.eval] using h2) _ (reg_put hR (keyName _ (by decide)) (.inr (.inr ⟨rfl, p, rfl, hp⟩))) ?_
   rintro w2 ⟨g1, g2⟩
   exact ⟨g1, fun w3 h3 => ⟨M, by simp [dv, ldeps, pdeps, Region.binds, List.idxOf_cons, hv], h3.reg _ _ g2⟩⟩
 ·simp (maxSteps := 20000000) only [permL, permOp, List.filterMap_cons, List.filterMap_nil, List.getElem?_cons_succ, List.getElem?_cons_zero, Option.map_some, Option.map_none, List.drop_succ_cons, List.drop_zero, List.take_succ_cons, List.take_zero, Nat.reduceSub, ZAll, ParEnd, Act.put, List.setIfInBounds_toArray, List.set_cons_succ, List.set_cons_zero]
 intro vals W hx hf hz
 simp (maxSteps := 20000000) only [permL, permOp, List.filterMap_cons, List.filterMap_nil, List.getElem?_cons_succ, List.getElem?_cons_zero, Option.map_some, Option.map_none, ParFactsG, List.take_succ_cons, List.take_zero, and_true, Nat.reduceAdd] at hf
 obtain ⟨f0, f1, f2, f3, f4, f5, f6, f7, f8, f9, f10⟩ := hf
 clear hz
 simp (maxSteps := 20000000) only [permL, permOp, List.filterMap_cons, List.filterMap_nil, List.getElem?_cons_succ, List.getElem?_cons_zero, Option.map_some, Option.map_none, List.drop_succ_cons, List.drop_zero, List.take_succ_cons, List.take_zero, Nat.reduceSub, ParEnd, ZTail, Act.put, List.setIfInBounds_toArray, List.set_cons_succ, List.set_cons_zero, Nat.reduceAdd, f1, f2, f4, f5, f7]
 clear f1 f2 f4 f5 f7
 have hb : Below w.heap.size w W := ⟨hx.os, hx.tape, hx.out, hx.size, fun i hi => hx.old i hi hi⟩
 obtain ⟨M, hM, hR0⟩ := f0
 have link : ∀ {k : Value} {ds : List Value} {v : Value}, hasKey w.heap.size k ds v W → ds.head? = some (vals 0) → RegOk w.heap.size W M [k] := by
  rintro k ds v ⟨M', h1, h2⟩ h3
  rw [h3, hM] at h1
  simp only [Option.some.injEq, Value.map.injEq] at h1
  subst h1
  exact h2
 have r3 := link f3 (by simp [dv, ldeps, pdeps, Region.binds, List.idxOf_cons])
 have r6 := link f6 (by simp [dv, ldeps, pdeps, Region.binds, List.idxOf_cons])
 have r10 := link f10 (by simp [dv, ldeps, pdeps, Region.binds, List.idxOf_cons])
 clear f3 f6 f8 f9 f10 link hx
 rw [hM]
 clear hM
 have HQ := Lib.hid (regOf r3 r6 r10)
 have HB := Lib.hid hb
 clear r3 r6 r10 hb hR0
 go_simp
 go_wp2_with fail
 go_ret
 exact ⟨W.heap.size, rfl, HB.out.size, HQ.out _ _ (Blk.new W _ _ rfl) ((Ext.refl _).alloc _), HB.out.alloc HB.out.size _⟩
end Go.Proofs.YtcgbpmeadohbkaaGreatDoor
