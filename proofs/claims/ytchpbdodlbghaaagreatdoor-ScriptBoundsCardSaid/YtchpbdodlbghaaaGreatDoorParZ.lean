import Derived.Test.YtchpbdodlbghaaaGreatDoorPar
namespace Go.Proofs.YtchpbdodlbghaaaGreatDoor
open Go.RowKit

def permOp (p : List Nat) (o : Oper) : Oper := { o with after := o.after.map (fun e => { e with on := p.idxOf e.on }), guard := o.guard.map (fun g => (p.idxOf g.1, g.2)) }
def permL (p : List Nat) (l : List Oper) : List Oper := p.filterMap fun i => (l[i]?).map (permOp p)
def permOk (p : List Nat) (l : List Oper) : Bool :=
  decide (p.length = l.length) &&
  (List.range l.length).all (fun i => decide (p.idxOf i < l.length) && decide (p[p.idxOf i]? = some i)) &&
  (List.range l.length).all (fun k => match p[k]? with | some i => decide (i < l.length) && decide (p.idxOf i = k) | none => false) &&
  l.all (fun o => o.after.toList.all (fun e => decide (e.on < l.length)) && (match o.guard with | some g => decide (g.1 < l.length) | none => true))

structure PermFacts (p : List Nat) (l : List Oper) : Prop where
  len : p.length = l.length
  fwd : ∀ i, i < l.length → p.idxOf i < l.length ∧ p[p.idxOf i]? = some i
  bwd : ∀ k, k < l.length → ∃ i, p[k]? = some i ∧ i < l.length ∧ p.idxOf i = k
  on : ∀ o ∈ l, ∀ e ∈ o.after, e.on < l.length
  gd : ∀ o ∈ l, ∀ g, o.guard = some g → g.1 < l.length
theorem permOk_facts {p : List Nat} {l : List Oper} (h : permOk p l = true) : PermFacts p l := by
  unfold permOk at h
  simp only [Bool.and_eq_true, List.all_eq_true, List.mem_range, decide_eq_true_eq] at h
  obtain ⟨⟨⟨h1, h2⟩, h3⟩, h4⟩ := h
  refine ⟨h1, h2, fun k hk => ?_, fun o ho e he => (h4 o ho).1 e (Array.mem_toList_iff.2 he), fun o ho g hg => ?_⟩
  · have := h3 k hk
    cases hp : p[k]? with
    | none => rw [hp] at this; cases this
    | some i =>
      rw [hp] at this
      simp only [Bool.and_eq_true, decide_eq_true_eq] at this
      exact ⟨i, rfl, this⟩
  · have := (h4 o ho).2
    rw [hg] at this
    simpa using this

section
variable {P : Program} {Q : Exit → Act → World → Prop} {p : List Nat} {l : List Oper}
theorem permL_length (h : PermFacts p l) : (permL p l).length = l.length := by
  have : ∀ q : List Nat, (∀ i ∈ q, i < l.length) → (q.filterMap fun i => (l[i]?).map (permOp p)).length = q.length := by
    intro q
    induction q with
    | nil => intro _; rfl
    | cons i q ih =>
      intro hq
      rw [List.filterMap_cons, List.getElem?_eq_getElem (hq i (List.mem_cons_self ..))]
      simp only [Option.map_some, List.length_cons]
      rw [ih fun j hj => hq j (List.mem_cons_of_mem _ hj)]
  refine (this p fun i hi => ?_).trans h.len
  obtain ⟨k, hk⟩ := List.mem_iff_getElem?.1 hi
  have hkl : k < l.length := by have := (List.getElem?_eq_some_iff.1 hk).1; have := h.len; omega
  obtain ⟨j, hj, h1, _⟩ := h.bwd k hkl
  rw [hk] at hj
  obtain rfl := Option.some.inj hj
  exact h1
theorem permL_get (h : PermFacts p l) {k i : Nat} {o : Oper} (hk : p[k]? = some i) (ho : l[i]? = some o) : (permL p l)[k]? = some (permOp p o) := by
  have hall : ∀ i ∈ p, i < l.length := by
    intro i hi
    obtain ⟨k, hk⟩ := List.mem_iff_getElem?.1 hi
    have hkl : k < l.length := by have := (List.getElem?_eq_some_iff.1 hk).1; have := h.len; omega
    obtain ⟨j, hj, h1, _⟩ := h.bwd k hkl
    rw [hk] at hj
    obtain rfl := Option.some.inj hj
    exact h1
  have : ∀ (q : List Nat) (k : Nat), (∀ i ∈ q, i < l.length) → q[k]? = some i → (q.filterMap fun i => (l[i]?).map (permOp p))[k]? = some (permOp p o) := by
    intro q
    induction q with
    | nil => intro k _ hk; simp at hk
    | cons j q ih =>
      intro k hq hk
      rw [List.filterMap_cons, List.getElem?_eq_getElem (hq j (List.mem_cons_self ..))]
      simp only [Option.map_some]
      cases k with
      | zero =>
        simp at hk
        subst hk
        rw [List.getElem?_eq_getElem (hq j (List.mem_cons_self ..))] at ho
        simp only [List.getElem?_cons_zero]
        rw [Option.some.inj ho]
      | succ k =>
        rw [List.getElem?_cons_succ]
        exact ih k (fun j hj => hq j (List.mem_cons_of_mem _ hj)) (by simpa using hk)
  exact this p k hall hk
theorem permL_at (h : PermFacts p l) {i : Nat} {o : Oper} (ho : l[i]? = some o) : (permL p l)[p.idxOf i]? = some (permOp p o) :=
  permL_get h (h.fwd i (List.getElem?_eq_some_iff.1 ho).1).2 ho
theorem permOp_pdeps (o : Oper) {j : Nat} : j ∈ pdeps (permOp p o) ↔ ∃ i, i ∈ pdeps o ∧ j = p.idxOf i := by
  constructor
  · intro hj
    obtain ⟨e, he, hb, rfl⟩ := pdeps_mem hj
    simp only [permOp, Array.mem_map] at he
    obtain ⟨e', he', rfl⟩ := he
    exact ⟨_, mem_pdeps he' hb, rfl⟩
  · rintro ⟨i, hi, rfl⟩
    obtain ⟨e, he, hb, rfl⟩ := pdeps_mem hi
    refine mem_pdeps (o := permOp p o) (e := { e with on := p.idxOf e.on }) ?_ hb
    simp only [permOp, Array.mem_map]
    exact ⟨e, he, rfl⟩
theorem permOp_wp (o : Oper) (a : Act) (w : World) (K : Act → World → Prop) : (permOp p o).wp P a w K Q = o.wp P a w K Q := rfl
theorem permOp_asks (o : Oper) (a : Act) (w : World) : (permOp p o).asks P a w = o.asks P a w := rfl
theorem permOp_wanted (h : PermFacts p l) (o : Oper) (ho : o ∈ l) (t : Array Value) : Region.wanted (permOp p o) (yielded (permL p l).toArray t) = Region.wanted o (yielded l.toArray t) := by
  cases hg : o.guard with
  | none => simp [Region.wanted, permOp, hg]
  | some g =>
    obtain ⟨g, b⟩ := g
    have hgl := h.gd o ho _ hg
    have h1 := permL_at h (List.getElem?_eq_getElem hgl)
    have h2 : yielded (permL p l).toArray t (p.idxOf g) = yielded l.toArray t g := by
      unfold yielded
      simp only [List.getElem?_toArray, h1, List.getElem?_eq_getElem hgl, Option.bind_some]
      rfl
    simp only [Region.wanted, permOp, hg, Option.map_some, h2]
theorem permL_ready (h : PermFacts p l) {listed listed' : Array Bool} (hs : listed.size = l.length) (hs' : listed'.size = l.length) (he : ∀ i, i < l.length → listed'.getD (p.idxOf i) false = listed.getD i false) {i : Nat} (hi : i < l.length) :
    i ∈ Region.ready .any l.toArray listed ↔ p.idxOf i ∈ Region.ready .any (permL p l).toArray listed' := by
  have hl := permL_length h
  rw [par_ready hs, par_ready (by rw [hs', hl])]
  have ho := List.getElem?_eq_getElem hi
  have ho' := permL_at h ho
  constructor
  · rintro ⟨_, h1, o, h2, h3⟩
    rw [ho] at h2
    obtain rfl := Option.some.inj h2
    refine ⟨by rw [hl]; exact (h.fwd i hi).1, by rw [he i hi]; exact h1, _, ho', fun j hj => ?_⟩
    obtain ⟨m, hm, rfl⟩ := (permOp_pdeps _).1 hj
    obtain ⟨e, he1, _, rfl⟩ := pdeps_mem hm
    rw [he _ (h.on _ (List.getElem_mem hi) e he1)]
    exact h3 _ hm
  · rintro ⟨_, h1, o, h2, h3⟩
    rw [ho'] at h2
    obtain rfl := Option.some.inj h2
    refine ⟨hi, by rw [← he i hi]; exact h1, _, ho, fun j hj => ?_⟩
    obtain ⟨e, he1, _, rfl⟩ := pdeps_mem hj
    rw [← he _ (h.on _ (List.getElem_mem hi) e he1)]
    exact h3 _ ((permOp_pdeps _).2 ⟨_, hj, rfl⟩)
theorem ready_lt {listed : Array Bool} {l : List Oper} (hs : listed.size = l.length) {i : Nat} (h : i ∈ Region.ready .any l.toArray listed) : i < l.length := ((par_ready hs).1 h).1
theorem permL_nil (h : PermFacts p l) {listed listed' : Array Bool} (hs : listed.size = l.length) (hs' : listed'.size = l.length) (he : ∀ i, i < l.length → listed'.getD (p.idxOf i) false = listed.getD i false) :
    Region.ready .any l.toArray listed = [] ↔ Region.ready .any (permL p l).toArray listed' = [] := by
  have hl := permL_length h
  rw [List.eq_nil_iff_forall_not_mem, List.eq_nil_iff_forall_not_mem]
  constructor
  · intro hn k hk
    have hkl := ready_lt (by rw [hs', hl]) hk
    obtain ⟨i, _, hi, rfl⟩ := h.bwd k (by omega)
    exact hn i ((permL_ready h hs hs' he hi).2 hk)
  · intro hn i hi
    exact hn _ ((permL_ready h hs hs' he (ready_lt hs hi)).1 hi)
theorem idx_inj (h : PermFacts p l) {i j : Nat} (hi : i < l.length) (hj : j < l.length) (e : p.idxOf i = p.idxOf j) : i = j := by
  have h1 := (h.fwd i hi).2
  have h2 := (h.fwd j hj).2
  rw [e, h2] at h1
  exact (Option.some.inj h1).symm
theorem wpAny_perm (h : PermFacts p l) : ∀ (fuel : Nat) (listed listed' : Array Bool) (a : Act) (w : World), listed.size = l.length → listed'.size = l.length → (∀ i, i < l.length → listed'.getD (p.idxOf i) false = listed.getD i false) →
    wpAny P .any (permL p l).toArray Q fuel listed' a w → wpAny P .any l.toArray Q fuel listed a w
  | 0, listed, listed', a, w, hs, hs', he, ⟨h1, h2⟩ => ⟨(permL_nil h hs hs' he).2 h1, h2⟩
  | fuel + 1, listed, listed', a, w, hs, hs', he, ⟨h1, h2⟩ => by
    refine ⟨fun hn => h1 ((permL_nil h hs hs' he).1 hn), fun i hi => ?_⟩
    have hil := ready_lt hs hi
    have h3 := h2 _ ((permL_ready h hs hs' he hil).1 hi)
    have ih := wpAny_perm h fuel (listed.setIfInBounds i true) (listed'.setIfInBounds (p.idxOf i) true)
    have hnext : ∀ a' w', wpAny P .any (permL p l).toArray Q fuel (listed'.setIfInBounds (p.idxOf i) true) a' w' → wpAny P .any l.toArray Q fuel (listed.setIfInBounds i true) a' w' := by
      intro a' w' h4
      refine ih a' w' (by simpa using hs) (by simpa using hs') (fun j hj => ?_) h4
      rw [pget_set (by rw [hs']; exact (h.fwd i hil).1), pget_set (by omega)]
      by_cases hji : j = i
      · subst hji; simp
      · rw [if_neg hji, if_neg (fun e => hji (idx_inj h hj hil e)), he j hj]
    have h5 : wpOp P (permL p l).toArray Q (p.idxOf i) (wpAny P .any l.toArray Q fuel (listed.setIfInBounds i true)) a w := wpOp_mono hnext h3
    unfold wpOp at h5 ⊢
    have e1 : (permL p l).toArray[p.idxOf i]? = some (permOp p l[i]) := by rw [List.getElem?_toArray]; exact permL_at h (List.getElem?_eq_getElem hil)
    have e2 : l.toArray[i]? = some l[i] := by simp [hil]
    rw [e1] at h5
    rw [e2]
    simp only at h5 ⊢
    rw [permOp_wanted h _ (List.getElem_mem hil), permOp_wp, permOp_asks] at h5
    exact h5
theorem wp_parP {id : Nat} {l : List Oper} (p : List Nat) (n : Nat) {a : Act} {w : World} (Rs : Nat → PSpec) (hm : P.follows .mixedOrders = true) (hp : permOk p l = true) (hok : parOk (permL p l) n = true) (hn : decide (n ≤ (permL p l).length) = true)
    (hob : ParAll P w (permL p l) Rs 0 ((permL p l).take n) (fun _ => a))
    (hfin : ∀ vals w', Ext w w' → ParFacts Rs vals w' 0 ((permL p l).take n) → wpList P (permL p l).toArray Q ((permL p l).drop n) (ParEnd vals 0 ((permL p l).take n) a) w') :
    (Code.region id l.toArray true).wp P Q a w := by
  have h := permOk_facts hp
  have hl := permL_length h
  have hn := of_decide_eq_true hn
  refine wp_region_any hm ?_
  have hz : ∀ m k, (Array.replicate m false).getD k false = false := by
    intro m k
    simp only [Array.getD_eq_getD_getElem?, Array.getElem?_replicate]
    split <;> rfl
  have hfr : pframe (permL p l) ((Array.replicate (permL p l).length false).getD · false) (fun _ => undef) n a = a := by
    have : ∀ m, pframe (permL p l) ((Array.replicate (permL p l).length false).getD · false) (fun _ => undef) m a = a := by
      intro m
      induction m with
      | zero => rfl
      | succ m ih => simp only [pframe]; rw [hz, if_neg (by simp)]; exact ih
    exact this n
  have h1 := par_sound (P := P) (Q := Q) hok hn
    (fun i o hi ho vals w' hx hd => by
      have h := parAll_at ((permL p l).take n) 0 _ hob i o (by rw [List.getElem?_take, if_pos hi]; exact ho) vals w' hx (PDeps.of hd)
      rw [List.take_take, Nat.min_eq_left (by omega), parEnd_frame i (by omega), Nat.zero_add] at h
      exact h)
    (fun vals w' hx hf => by
      rw [← parEnd_frame n hn]
      exact hfin vals w' hx (parFacts_of _ 0 fun i hi => by
        rw [Nat.zero_add]
        exact hf i (by rw [List.length_take] at hi; omega)))
    (pcnt (Array.replicate (permL p l).length false) (permL p l).length) (Array.replicate (permL p l).length false) (fun _ => undef) w.drew (by simp) rfl (fun j _ _ => hz _ j) (fun i o _ h => by rw [hz] at h; cases h) (Ext.refl w).drew (fun i _ h => by rw [hz] at h; cases h)
  rw [hfr] at h1
  have hc : ∀ m, pcnt (Array.replicate (permL p l).length false) m = m := by
    intro m
    induction m with
    | zero => rfl
    | succ m ih => simp only [pcnt]; rw [ih, hz]; simp
  rw [hc, hl] at h1
  have h2 := wpAny_perm (P := P) (Q := Q) h l.length (Array.replicate l.length false) (Array.replicate l.length false) a w.drew (by simp) (by simp) (fun i _ => by rw [hz, hz]) h1
  simpa using h2
end
end Go.Proofs.YtchpbdodlbghaaaGreatDoor

namespace Go.Proofs.YtchpbdodlbghaaaGreatDoor
open Go.RowKit

def parOkZ (l : List Oper) (m n : Nat) : Bool :=
  Region.noSelect l.toArray && decide (m ≤ n) && decide (n ≤ l.length) &&
  (List.range l.length).all fun i => match l[i]? with
    | none => true
    | some o => ((pdeps o).all fun j => decide (j < i)) &&
      (decide (i < n) || (List.range i).all fun j => (decide (m ≤ j) && decide (j < n)) || (pclos l 3 o).contains j) &&
      (decide (i < m) || o.guard.isNone) &&
      (decide (i < m) || decide (n ≤ i) || (pdeps o).all fun j => decide (m ≤ j)) &&
      (List.range l.length).all fun j => match l[j]? with
        | none => true
        | some x => (decide (i = j) || x.dst.isNone || x.dst != o.dst) &&
          ((plooks l o).all fun t => (x.dst != some t) || (if j < i then (pdeps o).contains j else decide (j = i) || (pdeps x).contains i))
structure ZFacts (l : List Oper) (m n : Nat) (i : Nat) (o : Oper) : Prop where
  back : ∀ j ∈ pdeps o, j < i
  tail : n ≤ i → ∀ j, j < i → (m ≤ j ∧ j < n) ∨ j ∈ pclos l 3 o
  gd : m ≤ i → o.guard = none
  lazy : m ≤ i → i < n → ∀ j ∈ pdeps o, m ≤ j
  dst : ∀ j x, l[j]? = some x → i ≠ j → ∀ d, x.dst = some d → o.dst ≠ some d
  look : ∀ t ∈ plooks l o, ∀ j x, l[j]? = some x → x.dst = some t → (j < i → j ∈ pdeps o) ∧ (i < j → i ∈ pdeps x)
theorem parOkZ_at {l : List Oper} {m n : Nat} (h : parOkZ l m n = true) : Region.noSelect l.toArray = true ∧ m ≤ n ∧ n ≤ l.length ∧ ∀ i o, l[i]? = some o → ZFacts l m n i o := by
  simp only [parOkZ, Bool.and_eq_true, List.all_eq_true, List.mem_range, decide_eq_true_eq] at h
  obtain ⟨⟨⟨h1, h2⟩, h3⟩, h4⟩ := h
  refine ⟨h1, h2, h3, fun i o ho => ?_⟩
  have hlt : i < l.length := (List.getElem?_eq_some_iff.1 ho).1
  have h5 := h4 i hlt
  rw [ho] at h5
  simp only [Bool.and_eq_true, List.all_eq_true, List.mem_range, decide_eq_true_eq, Bool.or_eq_true] at h5
  obtain ⟨⟨⟨⟨a1, a2⟩, a3⟩, a4⟩, a5⟩ := h5
  refine ⟨a1, fun hn j hj => ?_, fun hm => ?_, fun hm hn j hj => ?_, fun j x hx hne d hd e => ?_, fun t ht j x hx hd => ?_⟩
  · rcases a2 with a2 | a2
    · omega
    · rcases a2 j hj with b | b
      · exact .inl b
      · exact .inr (by simpa using b)
  · rcases a3 with a3 | a3
    · omega
    · cases hg : o.guard with
      | none => rfl
      | some g => rw [hg] at a3; cases a3
  · rcases a4 with (a4 | a4) | a4
    · omega
    · omega
    · exact a4 j hj
  · have hjl : j < l.length := (List.getElem?_eq_some_iff.1 hx).1
    have := a5 j hjl
    rw [hx] at this
    simp only [Bool.and_eq_true, Bool.or_eq_true, decide_eq_true_eq, bne_iff_ne] at this
    rcases this.1 with (b | b) | b
    · exact hne b
    · rw [hd] at b; cases b
    · exact b (hd.trans e.symm)
  · have hjl : j < l.length := (List.getElem?_eq_some_iff.1 hx).1
    have := a5 j hjl
    rw [hx] at this
    simp only [Bool.and_eq_true, Bool.or_eq_true, decide_eq_true_eq, List.all_eq_true, bne_iff_ne] at this
    rcases this.2 t ht with c | c
    · exact absurd hd c
    · constructor
      · intro hji; rw [if_pos hji] at c; simpa using c
      · intro hij
        rw [if_neg (by omega)] at c
        simp only [Bool.or_eq_true, decide_eq_true_eq] at c
        rcases c with c | c
        · omega
        · simpa using c

section
variable {P : Program} {Q : Exit → Act → World → Prop}
def ZTail (P : Program) (fin : Act → World → Prop) : List Oper → Act → World → Prop
  | [], a, w => fin a w
  | o :: r, a, w => yields P o a.eval w fun v w' => ZTail P fin r (a.put o.dst v) w'

theorem zmin {l : List Oper} {m n : Nat} (hf : ∀ i o, l[i]? = some o → ZFacts l m n i o) {listed : Array Bool} (hs : listed.size = l.length) {k : Nat} (hk : k < l.length) (h0 : listed.getD k false = false) (hall : ∀ j, j < k → listed.getD j false = true) :
    k ∈ Region.ready .any l.toArray listed :=
  (par_ready hs).2 ⟨hk, h0, _, List.getElem?_eq_getElem hk, fun j hj => hall j ((hf k _ (List.getElem?_eq_getElem hk)).back j hj)⟩
theorem zsame {l : List Oper} {m n : Nat} (hf : ∀ i o, l[i]? = some o → ZFacts l m n i o) {D : Nat → Bool} {vals : Nat → Value} {a0 : Act} {i : Nat} {o : Oper} (ho : l[i]? = some o) (hi0 : D i = false)
    (hdeps : ∀ j ∈ pdeps o, D j = true) (hcl : ∀ j x, l[j]? = some x → D j = true → ∀ d ∈ pdeps x, D d = true) :
    ∀ t, t ∈ plooks l o → (pframe l D vals l.length a0).eval (.tmp t) = (pframe l (fun _ => true) vals i a0).eval (.tmp t) := by
  intro t ht
  have hil : i < l.length := (List.getElem?_eq_some_iff.1 ho).1
  have e1 : pframe l (fun _ => true) vals i a0 = pframe l (fun j => decide (j < i)) vals l.length a0 := by
    have : ∀ M, i ≤ M → pframe l (fun j => decide (j < i)) vals M a0 = pframe l (fun _ => true) vals i a0 := by
      intro M
      induction M with
      | zero => intro h; have : i = 0 := by omega
                subst this; rfl
      | succ M ihm =>
        intro h
        by_cases hm : i ≤ M
        · simp only [pframe]
          rw [if_neg (by simp; omega)]
          exact ihm hm
        · have : i = M + 1 := by omega
          subst this
          exact pframe_congr (fun k hk => by simp [hk]) (fun _ _ _ => rfl)
    exact (this l.length (by omega)).symm
  rw [e1]
  refine pframe_eval l.length fun j hj t' ht' hd => ?_
  injection ht' with ht'
  subst ht'
  obtain ⟨x, hx2⟩ : ∃ x, l[j]? = some x := ⟨_, List.getElem?_eq_getElem hj⟩
  rw [hx2] at hd
  obtain ⟨d1, d2⟩ := (hf i o ho).look t ht j x hx2 hd
  rcases Nat.lt_trichotomy j i with hlt | heq | hgt
  · rw [hdeps j (d1 hlt)]; simp [hlt]
  · subst heq; rw [hi0]; simp
  · cases hjd : D j
    · simp; omega
    · have := hcl j x hx2 hjd i (d2 hgt)
      rw [hi0] at this; cases this
theorem zexec {l : List Oper} (hns : Region.noSelect l.toArray = true) {i : Nat} {o : Oper} (ho : l[i]? = some o) {a b : Act} (h : ∀ t, t ∈ plooks l o → a.eval (.tmp t) = b.eval (.tmp t)) (hc : ∀ x, (∀ t, x ≠ .tmp t) → a.eval x = b.eval x) : execOp a.eval o = execOp b.eval o := by
  refine execOp_congr o (fun cs b => Region.noSelect_spec hns i o cs b (by simpa using ho)) fun x hx2 => ?_
  cases x with
  | tmp t => exact h t (List.mem_append_left _ (List.mem_filterMap.2 ⟨.tmp t, by simpa using hx2, rfl⟩))
  | _ => exact hc _ (fun t e => by cases e)
theorem zput {l : List Oper} {m n : Nat} (hf : ∀ i o, l[i]? = some o → ZFacts l m n i o) {D D' : Nat → Bool} {vals : Nat → Value} {a0 : Act} {i : Nat} {o : Oper} (ho : l[i]? = some o) (hi : D i = true) (h0 : D' i = false) (hD : ∀ k, k ≠ i → D k = D' k) (v : Value) :
    (pframe l D' vals l.length a0).put o.dst v = pframe l D (fun j => if j = i then v else vals j) l.length a0 := by
  have hil : i < l.length := (List.getElem?_eq_some_iff.1 ho).1
  have e1 : pframe l D (fun j => if j = i then v else vals j) l.length a0 = (pframe l D' (fun j => if j = i then v else vals j) l.length a0).put ((l[i]?).bind (·.dst)) ((fun j => if j = i then v else vals j) i) :=
    pframe_add hi h0 hD l.length (fun k hk hne d hd e => by
      rw [ho] at hd
      have hx := List.getElem?_eq_getElem hk
      rw [hx] at e
      exact (hf i o ho).dst k _ hx (fun e => hne e.symm) d (by simpa using e) (by simpa using hd)) hil
  have e2 : pframe l D' (fun j => if j = i then v else vals j) l.length a0 = pframe l D' vals l.length a0 :=
    pframe_congr (fun _ _ => rfl) (fun k hk hk2 => by
      have hki : k ≠ i := fun e => by subst e; rw [h0] at hk2; cases hk2
      simp only [if_neg hki])
  rw [e1, e2, ho]
  simp
def ZOb (P : Program) (l : List Oper) (zv : Nat → Value) (a0 : Act) (i : Nat) (o : Oper) : Prop :=
  ∀ (vals : Nat → Value) (w : World), (∀ d ∈ pdeps o, vals d = zv d) → yields P o (pframe l (fun _ => true) vals i a0).eval w fun v w' => v = zv i ∧ w' = w

theorem tailZ {l : List Oper} {m n : Nat} (hok : parOkZ l m n = true) {a0 : Act} {zv : Nat → Value} (hZ : ∀ i o, m ≤ i → i < n → l[i]? = some o → ZOb P l zv a0 i o) :
    ∀ (fuel k : Nat) (listed : Array Bool) (vals : Nat → Value) (w : World), listed.size = l.length → pcnt listed l.length = fuel → n ≤ k → k ≤ l.length → (∀ j, j < m → listed.getD j false = true) →
    (∀ j, n ≤ j → j < k → listed.getD j false = true) → (∀ j, k ≤ j → j < l.length → listed.getD j false = false) → (∀ j x, l[j]? = some x → listed.getD j false = true → ∀ d ∈ pdeps x, listed.getD d false = true) →
    (∀ j, m ≤ j → j < n → vals j = zv j) → ZTail P (fun a w => Q .normal a w) (l.drop k) (pframe l (fun j => decide (j < n) || listed.getD j false) vals l.length a0) w →
    wpAny P .any l.toArray Q fuel listed (pframe l (listed.getD · false) vals l.length a0) w := by
  obtain ⟨hns, hmn, hnl, hf⟩ := parOkZ_at hok
  intro fuel
  induction fuel with
  | zero =>
    intro k listed vals w hs hc hnk hkl hm hk hu hcl hv h
    have hall := pcnt_zero hc
    have hkeq : k = l.length := by
      rcases Nat.lt_or_ge k l.length with hlt | hge
      · have := hu k (Nat.le_refl _) hlt; rw [hall k hlt] at this; cases this
      · omega
    subst hkeq
    have he : pframe l (fun j => decide (j < n) || listed.getD j false) vals l.length a0 = pframe l (listed.getD · false) vals l.length a0 := pframe_congr (fun k hk => by rw [hall k hk]; simp) (fun _ _ _ => rfl)
    rw [he, List.drop_length] at h
    refine ⟨?_, h⟩
    refine List.eq_nil_iff_forall_not_mem.2 fun i hi => ?_
    obtain ⟨h1, h2, _⟩ := (par_ready hs).1 hi
    rw [hall i h1] at h2; cases h2
  | succ fuel ih =>
    intro k listed vals w hs hc hnk hkl hm hk hu hcl hv h
    obtain ⟨k0, hk0, h00, hall0⟩ := par_first (listed := listed) (N := l.length) (by omega)
    have hready := zmin hf hs hk0 h00 hall0
    refine ⟨fun hnil => (by rw [hnil] at hready; cases hready), fun i hi => ?_⟩
    obtain ⟨hil, hi0, o, ho, hdeps⟩ := (par_ready hs).1 hi
    have F := hf i o ho
    have him : m ≤ i := by
      rcases Nat.lt_or_ge i m with hlt | hge
      · rw [hm i hlt] at hi0; cases hi0
      · exact hge
    have hg := F.gd him
    have hsame := zsame hf (vals := vals) (a0 := a0) ho hi0 hdeps hcl
    have hcnt := pcnt_set (listed := listed) (by omega) hi0 l.length hil
    have hcl2 : ∀ j x, l[j]? = some x → (listed.setIfInBounds i true).getD j false = true → ∀ d ∈ pdeps x, (listed.setIfInBounds i true).getD d false = true := by
      intro j x hx hj d hd
      rw [pget_set (by omega)] at hj ⊢
      split
      · rfl
      · by_cases hji : j = i
        · subst hji
          rw [ho] at hx
          obtain rfl := Option.some.inj hx
          exact hdeps d hd
        · rw [if_neg hji] at hj
          exact hcl j x hx hj d hd
    unfold wpOp
    have hgo : l.toArray[i]? = some o := by simpa using ho
    rw [hgo]
    simp only []
    rw [if_pos (by simp [Region.wanted, hg])]
    left
    by_cases hin : i < n
    · have hz := hZ i o him hin ho vals w (fun d hd => hv d (F.lazy him hin d hd) (by have := F.back d hd; omega))
      refine wp_of_yields (Y := fun v w' => v = zv i ∧ w' = w) ?_ ?_
      · unfold yields at hz ⊢
        rw [zexec hns ho hsame (fun x hx => by cases x <;> first | rfl | exact absurd rfl (hx _))]
        exact hz
      · rintro v w' ⟨rfl, rfl⟩
        have hp := zput hf (vals := vals) (a0 := a0) (D := ((listed.setIfInBounds i true).getD · false)) (D' := (listed.getD · false)) ho (by simp only [pget_set (show i < listed.size by omega)]; simp) hi0 (fun k hk => by simp only [pget_set (show i < listed.size by omega)]; rw [if_neg hk]) (zv i)
        have he : (fun j => if j = i then zv i else vals j) = vals := by
          funext j
          split
          · rename_i hji; subst hji; exact (hv j him hin).symm
          · rfl
        rw [he] at hp
        rw [hp]
        refine ih k _ vals w' (by simpa using hs) (by omega) hnk hkl (fun j hj => ?_) (fun j h1 h2 => ?_) (fun j h1 h2 => ?_) hcl2 hv ?_
        · rw [pget_set (by omega)]; split
          · rfl
          · exact hm j hj
        · rw [pget_set (by omega)]; split
          · rfl
          · exact hk j h1 h2
        · rw [pget_set (by omega), if_neg (by omega)]; exact hu j h1 h2
        · have e : pframe l (fun j => decide (j < n) || (listed.setIfInBounds i true).getD j false) vals l.length a0 = pframe l (fun j => decide (j < n) || listed.getD j false) vals l.length a0 :=
            pframe_congr (fun j hj => by
              rw [pget_set (by omega)]
              by_cases hji : j = i
              · subst hji; simp [hin]
              · rw [if_neg hji]) (fun _ _ _ => rfl)
          rw [e]; exact h
    · have hik : i = k := by
        rcases Nat.lt_trichotomy i k with hlt | heq | hgt
        · rw [hk i (by omega) hlt] at hi0; cases hi0
        · exact heq
        · have hkk := hu k (Nat.le_refl _) (by omega)
          rcases F.tail (by omega) k hgt with h1 | h1
          · omega
          · have := pclos_all (l := l) (G := fun j => listed.getD j false = true) hcl 3 o hdeps k h1
            rw [hkk] at this; cases this
      subst hik
      have hdrop : l.drop i = o :: l.drop (i + 1) := by
        rw [List.drop_eq_getElem_cons hil]
        rw [List.getElem?_eq_getElem hil] at ho
        rw [Option.some.inj ho]
      rw [hdrop] at h
      have hfull := zsame hf (D := fun j => decide (j < n) || listed.getD j false) (vals := vals) (a0 := a0) ho (by simp [hi0]; omega) (fun j hj => by simp [hdeps j hj]) (fun j x hx hj d hd => by
        simp only [Bool.or_eq_true, decide_eq_true_eq] at hj ⊢
        rcases hj with hj | hj
        · have := (hf j x hx).back d hd; exact .inl (by omega)
        · exact .inr (hcl j x hx hj d hd))
      have hy : yields P o (pframe l (listed.getD · false) vals l.length a0).eval w fun v w' => ZTail P (fun a w => Q .normal a w) (l.drop (i + 1)) ((pframe l (fun j => decide (j < n) || listed.getD j false) vals l.length a0).put o.dst v) w' := by
        have h' : yields P o (pframe l (fun j => decide (j < n) || listed.getD j false) vals l.length a0).eval w fun v w' => ZTail P (fun a w => Q .normal a w) (l.drop (i + 1)) ((pframe l (fun j => decide (j < n) || listed.getD j false) vals l.length a0).put o.dst v) w' := h
        unfold yields at h' ⊢
        rw [zexec hns ho (fun t ht => (hsame t ht).trans (hfull t ht).symm) (fun x hx => by cases x <;> first | rfl | exact absurd rfl (hx _))]
        exact h'
      refine wp_of_yields hy fun v w' hT => ?_
      have hp := zput hf (vals := vals) (a0 := a0) (D := ((listed.setIfInBounds i true).getD · false)) (D' := (listed.getD · false)) ho (by simp only [pget_set (show i < listed.size by omega)]; simp) hi0 (fun k hk => by simp only [pget_set (show i < listed.size by omega)]; rw [if_neg hk]) v
      have hp2 := zput hf (vals := vals) (a0 := a0) (D := fun j => decide (j < n) || (listed.setIfInBounds i true).getD j false) (D' := fun j => decide (j < n) || listed.getD j false) ho (by rw [pget_set (by omega)]; simp) (by simp [hi0]; omega) (fun k hk => by rw [pget_set (by omega), if_neg hk]) v
      rw [hp]
      rw [hp2] at hT
      refine ih (i + 1) _ _ w' (by simpa using hs) (by omega) (by omega) (by omega) (fun j hj => ?_) (fun j h1 h2 => ?_) (fun j h1 h2 => ?_) hcl2 (fun j h1 h2 => ?_) hT
      · rw [pget_set (by omega)]; split
        · rfl
        · exact hm j hj
      · rw [pget_set (by omega)]; split
        · rfl
        · exact hk j h1 (by omega)
      · rw [pget_set (by omega), if_neg (by omega)]; exact hu j (by omega) h2
      · rw [if_neg (by omega)]; exact hv j h1 h2

theorem par_soundZ {l : List Oper} {m n : Nat} (hok : parOkZ l m n = true) {Rs : Nat → PSpec} {zv : Nat → Value} {a0 : Act} {w0 : World}
    (hob : ∀ i o, i < m → l[i]? = some o → ParObs P w0 l Rs a0 i o) (hZ : ∀ i o, m ≤ i → i < n → l[i]? = some o → ZOb P l zv a0 i o)
    (hfin : ∀ vals w', Ext w0 w' → (∀ i, i < m → (Rs i) (vals i) w') → (∀ j, m ≤ j → j < n → vals j = zv j) → ZTail P (fun a w => Q .normal a w) (l.drop n) (pframe l (fun _ => true) vals n a0) w') :
    ∀ (fuel : Nat) (listed : Array Bool) (vals : Nat → Value) (w : World), listed.size = l.length → pcnt listed l.length = fuel → (∀ j, n ≤ j → j < l.length → listed.getD j false = false) →
    (∀ j x, l[j]? = some x → listed.getD j false = true → ∀ d ∈ pdeps x, listed.getD d false = true) →
    Ext w0 w → (∀ i, i < m → listed.getD i false = true → ∀ w2, Ext w w2 → (Rs i) (vals i) w2) → (∀ j, m ≤ j → j < n → listed.getD j false = true → vals j = zv j) →
    wpAny P .any l.toArray Q fuel listed (pframe l (listed.getD · false) vals l.length a0) w := by
  obtain ⟨hns, hmn, hnl, hf⟩ := parOkZ_at hok
  -- once all of the first are done
  have toTail : ∀ (fuel : Nat) (listed : Array Bool) (vals : Nat → Value) (w : World), listed.size = l.length → pcnt listed l.length = fuel → (∀ j, n ≤ j → j < l.length → listed.getD j false = false) →
      (∀ j x, l[j]? = some x → listed.getD j false = true → ∀ d ∈ pdeps x, listed.getD d false = true) →
      Ext w0 w → (∀ i, i < m → listed.getD i false = true → ∀ w2, Ext w w2 → (Rs i) (vals i) w2) → (∀ j, m ≤ j → j < n → listed.getD j false = true → vals j = zv j) → (∀ j, j < m → listed.getD j false = true) →
      wpAny P .any l.toArray Q fuel listed (pframe l (listed.getD · false) vals l.length a0) w := by
    intro fuel listed vals w hs hc hu hcl hx hR hV hpar
    have e1 : pframe l (listed.getD · false) vals l.length a0 = pframe l (listed.getD · false) (fun j => if m ≤ j ∧ j < n then zv j else vals j) l.length a0 :=
      pframe_congr (fun _ _ => rfl) (fun j hj hl => by
        split
        · rename_i h; exact hV j h.1 h.2 hl
        · rfl)
    rw [e1]
    refine tailZ hok hZ fuel n listed _ w hs hc (Nat.le_refl _) hnl hpar (fun j h1 h2 => by omega) hu hcl (fun j h1 h2 => by rw [if_pos ⟨h1, h2⟩]) ?_
    have e2 : pframe l (fun j => decide (j < n) || listed.getD j false) (fun j => if m ≤ j ∧ j < n then zv j else vals j) l.length a0 = pframe l (fun _ => true) (fun j => if m ≤ j ∧ j < n then zv j else vals j) n a0 := by
      have : ∀ M, n ≤ M → M ≤ l.length → pframe l (fun j => decide (j < n) || listed.getD j false) (fun j => if m ≤ j ∧ j < n then zv j else vals j) M a0 = pframe l (fun _ => true) (fun j => if m ≤ j ∧ j < n then zv j else vals j) n a0 := by
        intro M
        induction M with
        | zero => intro h _; have : n = 0 := by omega
                  subst this; rfl
        | succ M ihm =>
          intro h hM
          by_cases hm : n ≤ M
          · simp only [pframe]
            rw [if_neg (by rw [hu M hm (by omega)]; simp; omega)]
            exact ihm hm (by omega)
          · have : n = M + 1 := by omega
            subst this
            exact pframe_congr (fun k hk => by simp [hk]) (fun _ _ _ => rfl)
      exact this l.length hnl (Nat.le_refl _)
    rw [e2]
    exact hfin _ w hx (fun i hi => by rw [if_neg (by omega)]; exact hR i hi (hpar i hi) w (Ext.refl w)) (fun j h1 h2 => by rw [if_pos ⟨h1, h2⟩])
  intro fuel
  induction fuel with
  | zero =>
    intro listed vals w hs hc hu hcl hx hR hV
    exact toTail 0 listed vals w hs hc hu hcl hx hR hV (fun j hj => pcnt_zero hc j (by omega))
  | succ fuel ih =>
    intro listed vals w hs hc hu hcl hx hR hV
    by_cases hpar : ∀ j, j < m → listed.getD j false = true
    · exact toTail _ listed vals w hs hc hu hcl hx hR hV hpar
    · obtain ⟨k, hk, h0, hall⟩ := par_first (listed := listed) (N := l.length) (by omega)
      have hready := zmin hf hs hk h0 hall
      refine ⟨fun hnil => (by rw [hnil] at hready; cases hready), fun i hi => ?_⟩
      obtain ⟨hil, hi0, o, ho, hdeps⟩ := (par_ready hs).1 hi
      have F := hf i o ho
      have hin : i < n := by
        rcases Nat.lt_or_ge i n with hlt | hge
        · exact hlt
        · refine absurd (fun j hj => ?_) hpar
          rcases F.tail hge j (by omega) with h1 | h1
          · omega
          · exact pclos_all (l := l) (G := fun j => listed.getD j false = true) hcl 3 o hdeps j h1
      have hsame := zsame hf (vals := vals) (a0 := a0) ho hi0 hdeps hcl
      have hcnt := pcnt_set (listed := listed) (by omega) hi0 l.length hil
      have hexec := zexec hns ho hsame (fun x hx => by cases x <;> first | rfl | exact absurd rfl (hx _))
      have hcl2 : ∀ j x, l[j]? = some x → (listed.setIfInBounds i true).getD j false = true → ∀ d ∈ pdeps x, (listed.setIfInBounds i true).getD d false = true := by
        intro j x hx hj d hd
        rw [pget_set (by omega)] at hj ⊢
        split
        · rfl
        · by_cases hji : j = i
          · subst hji
            rw [ho] at hx
            obtain rfl := Option.some.inj hx
            exact hdeps d hd
          · rw [if_neg hji] at hj
            exact hcl j x hx hj d hd
      -- what follows behind the operation
      have hnext : ∀ v w', Ext w w' → (i < m → ∀ w2, Ext w' w2 → (Rs i) v w2) → (m ≤ i → v = zv i) →
          wpAny P .any l.toArray Q fuel (listed.setIfInBounds i true) ((pframe l (listed.getD · false) vals l.length a0).put o.dst v) w' := by
        intro v w' hx2 hRv hZv
        have hp := zput hf (vals := vals) (a0 := a0) (D := ((listed.setIfInBounds i true).getD · false)) (D' := (listed.getD · false)) ho (by simp only [pget_set (show i < listed.size by omega)]; simp) hi0 (fun k hk => by simp only [pget_set (show i < listed.size by omega)]; rw [if_neg hk]) v
        rw [hp]
        refine ih _ _ w' (by simpa using hs) (by omega) (fun j hj hjl => ?_) hcl2 (hx.trans hx2) (fun j hj hjd => ?_) (fun j h1 h2 hjd => ?_)
        · rw [pget_set (by omega), if_neg (by omega)]; exact hu j hj hjl
        · by_cases hji : j = i
          · subst hji; simp only [if_true]; exact hRv hj
          · simp only [if_neg hji]
            rw [pget_set (by omega), if_neg hji] at hjd
            exact fun w2 hw2 => hR j hj hjd w2 (hx2.trans hw2)
        · by_cases hji : j = i
          · subst hji; simp only [if_true]; exact hZv h1
          · simp only [if_neg hji]
            rw [pget_set (by omega), if_neg hji] at hjd
            exact hV j h1 h2 hjd
      unfold wpOp
      have hgo : l.toArray[i]? = some o := by simpa using ho
      rw [hgo]
      simp only []
      by_cases him : i < m
      · have hob1 := hob i o him ho vals w hx (fun j hj => hR j (by have := F.back j hj; omega) (hdeps j hj) w (Ext.refl w))
        unfold ParOb at hob1
        have hwant : Region.wanted o (yielded l.toArray (pframe l (listed.getD · false) vals l.length a0).tmps) = Region.wanted o (yielded l.toArray (pframe l (fun _ => true) vals i a0).tmps) := by
          cases hg : o.guard with
          | none => simp [Region.wanted, hg]
          | some g =>
            obtain ⟨g, want⟩ := g
            have : yielded l.toArray (pframe l (listed.getD · false) vals l.length a0).tmps g = yielded l.toArray (pframe l (fun _ => true) vals i a0).tmps g := by
              unfold yielded
              cases hgd : (l[g]?).bind (·.dst) with
              | none => simp [hgd]
              | some t =>
                have hs2 := hsame t (List.mem_append_right _ (by rw [hg]; simp [hgd]))
                simp only [List.getElem?_toArray, hgd, Option.bind_some]
                rw [pget_inj ((pframe_size l.length).trans (pframe_size i).symm) hs2]
            simp only [Region.wanted, hg, this]
        rw [hwant]
        split
        · rename_i hwt
          rw [if_pos hwt] at hob1
          left
          refine wp_of_yields (Y := ParPost (Rs i) w) ?_ (fun v w' ⟨y1, y2⟩ => hnext v w' y1 (fun _ => y2) (fun h => by omega))
          unfold yields at hob1 ⊢
          rw [hexec]
          exact hob1
        · rename_i hwt
          rw [if_neg hwt] at hob1
          exact hnext undef w (Ext.refl w) (fun _ => hob1) (fun h => by omega)
      · have hg := F.gd (by omega)
        rw [if_pos (by simp [Region.wanted, hg])]
        left
        have hz := hZ i o (by omega) hin ho vals w (fun d hd => hV d (F.lazy (by omega) hin d hd) (by have := F.back d hd; omega) (hdeps d hd))
        refine wp_of_yields (Y := fun v w' => v = zv i ∧ w' = w) ?_ ?_
        · unfold yields at hz ⊢
          rw [hexec]
          exact hz
        · rintro v w' ⟨rfl, rfl⟩
          exact hnext _ _ (Ext.refl _) (fun h => by omega) (fun _ => rfl)

def ZDeps (zv : Nat → Value) (vals : Nat → Value) : List Nat → Prop
  | [] => True
  | j :: r => vals j = zv j ∧ ZDeps zv vals r
theorem ZDeps.of {zv vals : Nat → Value} : ∀ {l : List Nat}, (∀ j ∈ l, vals j = zv j) → ZDeps zv vals l
  | [], _ => trivial
  | _ :: _, h => ⟨h _ (List.mem_cons_self ..), ZDeps.of fun j hj => h j (List.mem_cons_of_mem _ hj)⟩
def ZAll (P : Program) (zv : Nat → Value) : Nat → List Oper → ((Nat → Value) → Act) → Prop
  | _, [], _ => True
  | i, o :: r, F => (∀ (vals : Nat → Value) (w : World), ZDeps zv vals (pdeps o) → yields P o (F vals).eval w fun v w' => v = zv i ∧ w' = w) ∧ ZAll P zv (i + 1) r (fun vals => (F vals).put o.dst (vals i))
theorem zAll_at {zv : Nat → Value} : ∀ (r : List Oper) (k : Nat) (F : (Nat → Value) → Act), ZAll P zv k r F → ∀ (j : Nat) (o : Oper), r[j]? = some o →
    ∀ (vals : Nat → Value) (w : World), ZDeps zv vals (pdeps o) → yields P o (ParEnd vals k (r.take j) (F vals)).eval w fun v w' => v = zv (k + j) ∧ w' = w
  | [], _, _, _, j, o, h => by simp at h
  | x :: r, k, F, h, 0, o, ho => by
    simp at ho
    subst ho
    exact fun vals w hd => h.1 vals w hd
  | x :: r, k, F, h, j + 1, o, ho => by
    intro vals w hd
    have := zAll_at r (k + 1) _ h.2 j o (by simpa using ho) vals w hd
    rw [show k + 1 + j = k + (j + 1) from by omega] at this
    exact this
def ZEqs (zv : Nat → Value) (vals : Nat → Value) : Nat → List Oper → Prop
  | _, [] => True
  | i, _ :: r => vals i = zv i ∧ ZEqs zv vals (i + 1) r
theorem zEqs_of {zv vals : Nat → Value} : ∀ (r : List Oper) (k : Nat), (∀ i, i < r.length → vals (k + i) = zv (k + i)) → ZEqs zv vals k r
  | [], _, _ => trivial
  | _ :: r, k, h => ⟨h 0 (by simp), zEqs_of r (k + 1) fun i hi => by
      have := h (i + 1) (by simpa using hi)
      rw [show k + (i + 1) = k + 1 + i from by omega] at this
      exact this⟩
theorem parEnd_split (vals : Nat → Value) : ∀ (r s : List Oper) (k : Nat) (b : Act), ParEnd vals k (r ++ s) b = ParEnd vals (k + r.length) s (ParEnd vals k r b)
  | [], _, _, _ => rfl
  | x :: r, s, k, b => by
    show ParEnd vals (k + 1) (r ++ s) _ = _
    rw [parEnd_split vals r s, List.length_cons, show k + 1 + r.length = k + (r.length + 1) from by omega]
    rfl
theorem wp_parZ {id : Nat} {l : List Oper} (p : List Nat) (m n : Nat) {a : Act} {w : World} (Rs : Nat → PSpec) (zv : Nat → Value) (hm : P.follows .mixedOrders = true) (hp : permOk p l = true) (hok : parOkZ (permL p l) m n = true)
    (hob : ParAll P w (permL p l) Rs 0 ((permL p l).take m) (fun _ => a))
    (hZ : ZAll P zv m (((permL p l).drop m).take (n - m)) (fun vals => ParEnd vals 0 ((permL p l).take m) a))
    (hfin : ∀ vals w', Ext w w' → ParFacts Rs vals w' 0 ((permL p l).take m) → ZEqs zv vals m (((permL p l).drop m).take (n - m)) →
      ZTail P (fun a w => wpList P l.toArray Q [] a w) ((permL p l).drop n) (ParEnd vals m (((permL p l).drop m).take (n - m)) (ParEnd vals 0 ((permL p l).take m) a)) w') :
    (Code.region id l.toArray true).wp P Q a w := by
  have h := permOk_facts hp
  have hl := permL_length h
  obtain ⟨hns, hmn, hnl, hf⟩ := parOkZ_at hok
  refine wp_region_any hm ?_
  have hz : ∀ m k, (Array.replicate m false).getD k false = false := by
    intro m k
    simp only [Array.getD_eq_getD_getElem?, Array.getElem?_replicate]
    split <;> rfl
  have hfr : pframe (permL p l) ((Array.replicate (permL p l).length false).getD · false) (fun _ => undef) (permL p l).length a = a := by
    have : ∀ M, pframe (permL p l) ((Array.replicate (permL p l).length false).getD · false) (fun _ => undef) M a = a := by
      intro M
      induction M with
      | zero => rfl
      | succ M ih => simp only [pframe]; rw [hz, if_neg (by simp)]; exact ih
    exact this _
  have hlen : ((permL p l).take m).length = m := by rw [List.length_take]; omega
  have hjoin : ∀ j, m ≤ j → j ≤ n → (permL p l).take j = (permL p l).take m ++ (((permL p l).drop m).take (n - m)).take (j - m) := by
    intro j h1 h2
    rw [List.take_take, Nat.min_eq_left (by omega)]
    have : j = m + (j - m) := by omega
    rw [this, List.take_add]
    congr 2
    omega
  have h1 := par_soundZ (P := P) (Q := Q) (zv := zv) hok
    (fun i o hi ho vals w' hx hd => by
      have h := parAll_at ((permL p l).take m) 0 _ hob i o (by rw [List.getElem?_take, if_pos hi]; exact ho) vals w' hx (PDeps.of hd)
      rw [List.take_take, Nat.min_eq_left (by omega), parEnd_frame i (by omega), Nat.zero_add] at h
      exact h)
    (fun i o hi hin ho vals w' hd => by
      have h := zAll_at _ m _ hZ (i - m) o (by rw [List.getElem?_take, if_pos (by omega), List.getElem?_drop, show m + (i - m) = i by omega]; exact ho) vals w' (ZDeps.of hd)
      have e := parEnd_split vals ((permL p l).take m) ((((permL p l).drop m).take (n - m)).take (i - m)) 0 a
      rw [hlen, Nat.zero_add, ← hjoin i hi (by omega), parEnd_frame i (by omega)] at e
      rw [← e, show m + (i - m) = i by omega] at h
      exact h)
    (fun vals w' hx hf1 hf2 => by
      have e := parEnd_split vals ((permL p l).take m) (((permL p l).drop m).take (n - m)) 0 a
      have hj := hjoin n hmn (Nat.le_refl _)
      rw [show (((permL p l).drop m).take (n - m)).take (n - m) = ((permL p l).drop m).take (n - m) by rw [List.take_take, Nat.min_self]] at hj
      rw [hlen, Nat.zero_add, ← hj, parEnd_frame n (by omega)] at e
      rw [e]
      exact hfin vals w' hx (parFacts_of _ 0 fun i hi => by
        rw [Nat.zero_add]
        exact hf1 i (by rw [List.length_take] at hi; omega)) (zEqs_of _ m fun i hi => hf2 (m + i) (by omega) (by rw [List.length_take, List.length_drop] at hi; omega)))
    (pcnt (Array.replicate (permL p l).length false) (permL p l).length) (Array.replicate (permL p l).length false) (fun _ => undef) w.drew (by simp) rfl (fun j _ _ => hz _ j) (fun i o _ h => by rw [hz] at h; cases h) (Ext.refl w).drew (fun i _ h => by rw [hz] at h; cases h) (fun j _ _ h => by rw [hz] at h; cases h)
  rw [hfr] at h1
  have hc : ∀ M, pcnt (Array.replicate (permL p l).length false) M = M := by
    intro M
    induction M with
    | zero => rfl
    | succ M ih => simp only [pcnt]; rw [ih, hz]; simp
  rw [hc, hl] at h1
  have h2 := wpAny_perm (P := P) (Q := Q) h l.length (Array.replicate l.length false) (Array.replicate l.length false) a w.drew (by simp) (by simp) (fun i _ => by rw [hz, hz]) h1
  simpa using h2
end
end Go.Proofs.YtchpbdodlbghaaaGreatDoor
