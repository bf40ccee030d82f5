/-
  A region that draws its order, its operations told in another order than the text's: what holds of the reordered region holds of it.
-/
import Derived.Test.YtaoikbpolckobaaGreatDoorPar
namespace Go.Proofs.YtaoikbpolckobaaGreatDoor
open Go.RowKit

/-- An operation, the places that it names told by the new order. -/
def permOp (p : List Nat) (o : Oper) : Oper := { o with after := o.after.map (fun e => { e with on := p.idxOf e.on }), guard := o.guard.map (fun g => (p.idxOf g.1, g.2)) }
/-- The operations in the order p of their places. -/
def permL (p : List Nat) (l : List Oper) : List Oper := p.filterMap fun i => (l[i]?).map (permOp p)
def permOk (p : List Nat) (l : List Oper) : Bool :=
  decide (p.length = l.length) &&
  (List.range l.length).all (fun i => decide (p.idxOf i < l.length) && decide (p[p.idxOf i]? = some i)) &&
  (List.range l.length).all (fun k => match p[k]? with | some i => decide (i < l.length) && decide (p.idxOf i = k) | none => false) &&
  l.all (fun o => o.after.toList.all (fun e => decide (e.on < l.length)) && (match o.guard with | some g => decide (g.1 < l.length) | none => true))

structure PermFacts (p : List Nat) (l : List Oper) : Prop where
  len : p.length = l.length
  fwd : ∀ i, i < l.length → p.idxOf i < l.length ∧ p[p.idxOf i]? = some i
  bwd : ∀ k, k < l.length → ∃ i, p[k]? = some i ∧ i < l.length ∧ p.idxOf i = k
  on : ∀ o ∈ l, ∀ e ∈ o.after, e.on < l.length
  gd : ∀ o ∈ l, ∀ g, o.guard = some g → g.1 < l.length
theorem permOk_facts {p : List Nat} {l : List Oper} (h : permOk p l = true) : PermFacts p l := by
  unfold permOk at h
  simp only [Bool.and_eq_true, List.all_eq_true, List.mem_range, decide_eq_true_eq] at h
  obtain ⟨⟨⟨h1, h2⟩, h3⟩, h4⟩ := h
  refine ⟨h1, h2, fun k hk => ?_, fun o ho e he => (h4 o ho).1 e (Array.mem_toList_iff.2 he), fun o ho g hg => ?_⟩
  · have := h3 k hk
    cases hp : p[k]? with
    | none => rw [hp] at this; cases this
    | some i =>
      rw [hp] at this
      simp only [Bool.and_eq_true, decide_eq_true_eq] at this
      exact ⟨i, rfl, this⟩
  · have := (h4 o ho).2
    rw [hg] at this
    simpa using this

section
variable {P : Program} {Q : Exit → Act → World → Prop} {p : List Nat} {l : List Oper}
theorem permL_length (h : PermFacts p l) : (permL p l).length = l.length := by
  have : ∀ q : List Nat, (∀ i ∈ q, i < l.length) → (q.filterMap fun i => (l[i]?).map (permOp p)).length = q.length := by
    intro q
    induction q with
    | nil => intro _; rfl
    | cons i q ih =>
      intro hq
      rw [List.filterMap_cons, List.getElem?_eq_getElem (hq i (List.mem_cons_self ..))]
      simp only [Option.map_some, List.length_cons]
      rw [ih fun j hj => hq j (List.mem_cons_of_mem _ hj)]
  refine (this p fun i hi => ?_).trans h.len
  obtain ⟨k, hk⟩ := List.mem_iff_getElem?.1 hi
  have hkl : k < l.length := by have := (List.getElem?_eq_some_iff.1 hk).1; have := h.len; omega
  obtain ⟨j, hj, h1, _⟩ := h.bwd k hkl
  rw [hk] at hj
  obtain rfl := Option.some.inj hj
  exact h1
theorem permL_get (h : PermFacts p l) {k i : Nat} {o : Oper} (hk : p[k]? = some i) (ho : l[i]? = some o) : (permL p l)[k]? = some (permOp p o) := by
  have hall : ∀ i ∈ p, i < l.length := by
    intro i hi
    obtain ⟨k, hk⟩ := List.mem_iff_getElem?.1 hi
    have hkl : k < l.length := by have := (List.getElem?_eq_some_iff.1 hk).1; have := h.len; omega
    obtain ⟨j, hj, h1, _⟩ := h.bwd k hkl
    rw [hk] at hj
    obtain rfl := Option.some.inj hj
    exact h1
  have : ∀ (q : List Nat) (k : Nat), (∀ i ∈ q, i < l.length) → q[k]? = some i → (q.filterMap fun i => (l[i]?).map (permOp p))[k]? = some (permOp p o) := by
    intro q
    induction q with
    | nil => intro k _ hk; simp at hk
    | cons j q ih =>
      intro k hq hk
      rw [List.filterMap_cons, List.getElem?_eq_getElem (hq j (List.mem_cons_self ..))]
      simp only [Option.map_some]
      cases k with
      | zero =>
        simp at hk
        subst hk
        rw [List.getElem?_eq_getElem (hq j (List.mem_cons_self ..))] at ho
        simp only [List.getElem?_cons_zero]
        rw [Option.some.inj ho]
      | succ k =>
        rw [List.getElem?_cons_succ]
        exact ih k (fun j hj => hq j (List.mem_cons_of_mem _ hj)) (by simpa using hk)
  exact this p k hall hk
theorem permL_at (h : PermFacts p l) {i : Nat} {o : Oper} (ho : l[i]? = some o) : (permL p l)[p.idxOf i]? = some (permOp p o) :=
  permL_get h (h.fwd i (List.getElem?_eq_some_iff.1 ho).1).2 ho
theorem permOp_pdeps (o : Oper) {j : Nat} : j ∈ pdeps (permOp p o) ↔ ∃ i, i ∈ pdeps o ∧ j = p.idxOf i := by
  constructor
  · intro hj
    obtain ⟨e, he, hb, rfl⟩ := pdeps_mem hj
    simp only [permOp, Array.mem_map] at he
    obtain ⟨e', he', rfl⟩ := he
    exact ⟨_, mem_pdeps he' hb, rfl⟩
  · rintro ⟨i, hi, rfl⟩
    obtain ⟨e, he, hb, rfl⟩ := pdeps_mem hi
    refine mem_pdeps (o := permOp p o) (e := { e with on := p.idxOf e.on }) ?_ hb
    simp only [permOp, Array.mem_map]
    exact ⟨e, he, rfl⟩
theorem permOp_wp (o : Oper) (a : Act) (w : World) (K : Act → World → Prop) : (permOp p o).wp P a w K Q = o.wp P a w K Q := rfl
theorem permOp_asks (o : Oper) (a : Act) (w : World) : (permOp p o).asks P a w = o.asks P a w := rfl
theorem permOp_wanted (h : PermFacts p l) (o : Oper) (ho : o ∈ l) (t : Array Value) : Region.wanted (permOp p o) (yielded (permL p l).toArray t) = Region.wanted o (yielded l.toArray t) := by
  cases hg : o.guard with
  | none => simp [Region.wanted, permOp, hg]
  | some g =>
    obtain ⟨g, b⟩ := g
    have hgl := h.gd o ho _ hg
    have h1 := permL_at h (List.getElem?_eq_getElem hgl)
    have h2 : yielded (permL p l).toArray t (p.idxOf g) = yielded l.toArray t g := by
      unfold yielded
      simp only [List.getElem?_toArray, h1, List.getElem?_eq_getElem hgl, Option.bind_some]
      rfl
    simp only [Region.wanted, permOp, hg, Option.map_some, h2]
theorem permL_ready (h : PermFacts p l) {listed listed' : Array Bool} (hs : listed.size = l.length) (hs' : listed'.size = l.length) (he : ∀ i, i < l.length → listed'.getD (p.idxOf i) false = listed.getD i false) {i : Nat} (hi : i < l.length) :
    i ∈ Region.ready .any l.toArray listed ↔ p.idxOf i ∈ Region.ready .any (permL p l).toArray listed' := by
  have hl := permL_length h
  rw [par_ready hs, par_ready (by rw [hs', hl])]
  have ho := List.getElem?_eq_getElem hi
  have ho' := permL_at h ho
  constructor
  · rintro ⟨_, h1, o, h2, h3⟩
    rw [ho] at h2
    obtain rfl := Option.some.inj h2
    refine ⟨by rw [hl]; exact (h.fwd i hi).1, by rw [he i hi]; exact h1, _, ho', fun j hj => ?_⟩
    obtain ⟨m, hm, rfl⟩ := (permOp_pdeps _).1 hj
    obtain ⟨e, he1, _, rfl⟩ := pdeps_mem hm
    rw [he _ (h.on _ (List.getElem_mem hi) e he1)]
    exact h3 _ hm
  · rintro ⟨_, h1, o, h2, h3⟩
    rw [ho'] at h2
    obtain rfl := Option.some.inj h2
    refine ⟨hi, by rw [← he i hi]; exact h1, _, ho, fun j hj => ?_⟩
    obtain ⟨e, he1, _, rfl⟩ := pdeps_mem hj
    rw [← he _ (h.on _ (List.getElem_mem hi) e he1)]
    exact h3 _ ((permOp_pdeps _).2 ⟨_, hj, rfl⟩)
theorem ready_lt {listed : Array Bool} {l : List Oper} (hs : listed.size = l.length) {i : Nat} (h : i ∈ Region.ready .any l.toArray listed) : i < l.length := ((par_ready hs).1 h).1
theorem permL_nil (h : PermFacts p l) {listed listed' : Array Bool} (hs : listed.size = l.length) (hs' : listed'.size = l.length) (he : ∀ i, i < l.length → listed'.getD (p.idxOf i) false = listed.getD i false) :
    Region.ready .any l.toArray listed = [] ↔ Region.ready .any (permL p l).toArray listed' = [] := by
  have hl := permL_length h
  rw [List.eq_nil_iff_forall_not_mem, List.eq_nil_iff_forall_not_mem]
  constructor
  · intro hn k hk
    have hkl := ready_lt (by rw [hs', hl]) hk
    obtain ⟨i, _, hi, rfl⟩ := h.bwd k (by omega)
    exact hn i ((permL_ready h hs hs' he hi).2 hk)
  · intro hn i hi
    exact hn _ ((permL_ready h hs hs' he (ready_lt hs hi)).1 hi)
theorem idx_inj (h : PermFacts p l) {i j : Nat} (hi : i < l.length) (hj : j < l.length) (e : p.idxOf i = p.idxOf j) : i = j := by
  have h1 := (h.fwd i hi).2
  have h2 := (h.fwd j hj).2
  rw [e, h2] at h1
  exact (Option.some.inj h1).symm
/-- What holds of the reordered operations holds of them. -/
theorem wpAny_perm (h : PermFacts p l) : ∀ (fuel : Nat) (listed listed' : Array Bool) (a : Act) (w : World), listed.size = l.length → listed'.size = l.length → (∀ i, i < l.length → listed'.getD (p.idxOf i) false = listed.getD i false) →
    wpAny P .any (permL p l).toArray Q fuel listed' a w → wpAny P .any l.toArray Q fuel listed a w
  | 0, listed, listed', a, w, hs, hs', he, ⟨h1, h2⟩ => ⟨(permL_nil h hs hs' he).2 h1, h2⟩
  | fuel + 1, listed, listed', a, w, hs, hs', he, ⟨h1, h2⟩ => by
    refine ⟨fun hn => h1 ((permL_nil h hs hs' he).1 hn), fun i hi => ?_⟩
    have hil := ready_lt hs hi
    have h3 := h2 _ ((permL_ready h hs hs' he hil).1 hi)
    have ih := wpAny_perm h fuel (listed.setIfInBounds i true) (listed'.setIfInBounds (p.idxOf i) true)
    have hnext : ∀ a' w', wpAny P .any (permL p l).toArray Q fuel (listed'.setIfInBounds (p.idxOf i) true) a' w' → wpAny P .any l.toArray Q fuel (listed.setIfInBounds i true) a' w' := by
      intro a' w' h4
      refine ih a' w' (by simpa using hs) (by simpa using hs') (fun j hj => ?_) h4
      rw [pget_set (by rw [hs']; exact (h.fwd i hil).1), pget_set (by omega)]
      by_cases hji : j = i
      · subst hji; simp
      · rw [if_neg hji, if_neg (fun e => hji (idx_inj h hj hil e)), he j hj]
    have h5 : wpOp P (permL p l).toArray Q (p.idxOf i) (wpAny P .any l.toArray Q fuel (listed.setIfInBounds i true)) a w := wpOp_mono hnext h3
    unfold wpOp at h5 ⊢
    have e1 : (permL p l).toArray[p.idxOf i]? = some (permOp p l[i]) := by rw [List.getElem?_toArray]; exact permL_at h (List.getElem?_eq_getElem hil)
    have e2 : l.toArray[i]? = some l[i] := by simp [hil]
    rw [e1] at h5
    rw [e2]
    simp only at h5 ⊢
    rw [permOp_wanted h _ (List.getElem_mem hil), permOp_wp, permOp_asks] at h5
    exact h5
/-- ONE WALK IN AN ORDER OF ITS OWN. -/
theorem wp_parP {id : Nat} {l : List Oper} (p : List Nat) (n : Nat) {a : Act} {w : World} (Rs : Nat → PSpec) (hm : P.follows .mixedOrders = true) (hp : permOk p l = true) (hok : parOk (permL p l) n = true) (hn : decide (n ≤ (permL p l).length) = true)
    (hob : ParAll P w (permL p l) Rs 0 ((permL p l).take n) (fun _ => a))
    (hfin : ∀ vals w', Ext w w' → ParFacts Rs vals w' 0 ((permL p l).take n) → wpList P (permL p l).toArray Q ((permL p l).drop n) (ParEnd vals 0 ((permL p l).take n) a) w') :
    (Code.region id l.toArray true).wp P Q a w := by
  have h := permOk_facts hp
  have hl := permL_length h
  have hn := of_decide_eq_true hn
  refine wp_region_any hm ?_
  have hz : ∀ m k, (Array.replicate m false).getD k false = false := by
    intro m k
    simp only [Array.getD_eq_getD_getElem?, Array.getElem?_replicate]
    split <;> rfl
  have hfr : pframe (permL p l) ((Array.replicate (permL p l).length false).getD · false) (fun _ => undef) n a = a := by
    have : ∀ m, pframe (permL p l) ((Array.replicate (permL p l).length false).getD · false) (fun _ => undef) m a = a := by
      intro m
      induction m with
      | zero => rfl
      | succ m ih => simp only [pframe]; rw [hz, if_neg (by simp)]; exact ih
    exact this n
  have h1 := par_sound (P := P) (Q := Q) hok hn
    (fun i o hi ho vals w' hx hd => by
      have h := parAll_at ((permL p l).take n) 0 _ hob i o (by rw [List.getElem?_take, if_pos hi]; exact ho) vals w' hx (PDeps.of hd)
      rw [List.take_take, Nat.min_eq_left (by omega), parEnd_frame i (by omega), Nat.zero_add] at h
      exact h)
    (fun vals w' hx hf => by
      rw [← parEnd_frame n hn]
      exact hfin vals w' hx (parFacts_of _ 0 fun i hi => by
        rw [Nat.zero_add]
        exact hf i (by rw [List.length_take] at hi; omega)))
    (pcnt (Array.replicate (permL p l).length false) (permL p l).length) (Array.replicate (permL p l).length false) (fun _ => undef) w.drew (by simp) rfl (fun j _ _ => hz _ j) (fun i o _ h => by rw [hz] at h; cases h) (Ext.refl w).drew (fun i _ h => by rw [hz] at h; cases h)
  rw [hfr] at h1
  have hc : ∀ m, pcnt (Array.replicate (permL p l).length false) m = m := by
    intro m
    induction m with
    | zero => rfl
    | succ m ih => simp only [pcnt]; rw [ih, hz]; simp
  rw [hc, hl] at h1
  have h2 := wpAny_perm (P := P) (Q := Q) h l.length (Array.replicate l.length false) (Array.replicate l.length false) a w.drew (by simp) (by simp) (fun i _ => by rw [hz, hz]) h1
  simpa using h2
end
end Go.Proofs.YtaoikbpolckobaaGreatDoor
