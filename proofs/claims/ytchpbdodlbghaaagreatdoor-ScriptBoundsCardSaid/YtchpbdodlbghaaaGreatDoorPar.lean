import Derived.Orders
import Derived.Test.YtchpbdodlbghaaaGreatDoorBase
namespace Go.Proofs.YtchpbdodlbghaaaGreatDoor
open Go.RowKit

def Ext (w w' : World) : Prop := Below w.heap.size w w'
theorem Ext.refl (w : World) : Ext w w := Below.refl _ _
theorem Ext.trans {a b c : World} (h : Ext a b) (k : Ext b c) : Ext a c := Below.trans h (Below.mono k h.size)
theorem Ext.below {a b : World} (h : Ext a b) : Below a.heap.size a b := h
theorem Ext.drew {a b : World} (h : Ext a b) : Ext a b.drew := Below.drew h
theorem Ext.alloc {a b : World} (h : Ext a b) (o : Obj) : Ext a (b.alloc o) := Below.alloc h h.size o

abbrev PSpec := Value → World → Prop

def yieldsUpon (P : Program) (Y : Value → World → Prop) : Result Next → Prop
  | .ok (.value v) w' => Y v w'
  | .ok .skip w' => Y undef w'
  | .ok (.enter f args) w' => Calls P f args w' fun e w'' => ∃ v, e = .returned v ∧ Y v w''
  | .ok (.row row args) w' => Rows P row args w' fun v w'' => Y v w''
  | _ => False
@[go_sem] theorem yieldsUpon_value (P : Program) (Y : Value → World → Prop) (v : Value) (w : World) : yieldsUpon P Y (.ok (.value v) w) = Y v w := rfl
@[go_sem] theorem yieldsUpon_skip (P : Program) (Y : Value → World → Prop) (w : World) : yieldsUpon P Y (.ok .skip w) = Y undef w := rfl
@[go_sem] theorem yieldsUpon_enter (P : Program) (Y : Value → World → Prop) (f : FuncId) (args : Array Value) (w : World) : yieldsUpon P Y (.ok (.enter f args) w) = Calls P f args w fun e w'' => ∃ v, e = .returned v ∧ Y v w'' := rfl
@[go_sem] theorem yieldsUpon_row (P : Program) (Y : Value → World → Prop) (row : String) (args : Array Value) (w : World) : yieldsUpon P Y (.ok (.row row args) w) = Rows P row args w fun v w'' => Y v w'' := rfl
@[go_sem] def yields (P : Program) (o : Oper) (ρ : Operand → Value) (w : World) (Y : Value → World → Prop) : Prop := yieldsUpon P Y ((execOp ρ o).run P w)

theorem yields_mono {P : Program} {o : Oper} {ρ : Operand → Value} {w : World} {Y Y' : Value → World → Prop} (h : yields P o ρ w Y) (hy : ∀ v w', Y v w' → Y' v w') : yields P o ρ w Y' := by
  unfold yields yieldsUpon at *
  split at h
  · exact hy _ _ h
  · exact hy _ _ h
  · exact h.mono fun e w'' ⟨v, he, k⟩ => ⟨v, he, hy _ _ k⟩
  · exact h.mono fun v w'' k => hy _ _ k
  · exact h.elim

theorem wp_of_yields {P : Program} {o : Oper} {a : Act} {w : World} {Y : Value → World → Prop} {K : Act → World → Prop} {Q : Exit → Act → World → Prop}
    (h : yields P o a.eval w Y) (hk : ∀ v w', Y v w' → K (a.put o.dst v) w') : o.wp P a w K Q := by
  unfold yields yieldsUpon at h
  unfold Oper.wp
  generalize (execOp a.eval o).run P w = r at *
  cases r with
  | ok n w' =>
    cases n <;> simp only [Oper.upon] at *
    case value v => exact hk _ _ h
    case skip => exact hk _ _ h
    case enter f args => exact h.mono fun e w'' ⟨v, he, k⟩ => by subst he; exact hk _ _ k
    case row row args => exact h.mono fun v w'' k => hk _ _ k
  | halt x w' => simp only [] at h

def pdeps (o : Oper) : List Nat := (o.after.toList.filter (fun e => Region.binds .any e)).map (·.on)
def pclos (l : List Oper) : Nat → Oper → List Nat
  | 0, o => pdeps o
  | f + 1, o => pdeps o ++ (pdeps o).flatMap fun j => match l[j]? with
    | none => []
    | some x => pclos l f x
theorem pclos_all {l : List Oper} {G : Nat → Prop} (hG : ∀ i x, l[i]? = some x → G i → ∀ j ∈ pdeps x, G j) : ∀ (f : Nat) (o : Oper), (∀ j ∈ pdeps o, G j) → ∀ j ∈ pclos l f o, G j
  | 0, _, h => h
  | f + 1, o, h => by
    intro j hj
    simp only [pclos, List.mem_append, List.mem_flatMap] at hj
    rcases hj with hj | ⟨i, hi, hj⟩
    · exact h j hj
    · cases hx : l[i]? with
      | none => rw [hx] at hj; cases hj
      | some x =>
        rw [hx] at hj
        exact pclos_all hG f x (hG i x hx (h i hi)) j hj
def plooks (l : List Oper) (o : Oper) : List Tmp :=
  (o.op.operands.toList.filterMap fun | .tmp t => some t | _ => none) ++
  (match o.guard with
   | some (g, _) => ((l[g]?).bind (·.dst)).toList
   | none => [])
def parOk (l : List Oper) (n : Nat) : Bool :=
  Region.noSelect l.toArray &&
  (List.range l.length).all fun i => match l[i]? with
    | none => true
    | some o => ((pdeps o).all fun j => decide (j < i)) && (decide (n ≤ i) || o.dst.isSome) &&
      (decide (i < n) || (List.range i).all fun j => (pclos l 3 o).contains j) &&
      (List.range n).all fun j => match l[j]? with
        | none => true
        | some x => (decide (i = j) || decide (n ≤ i) || x.dst != o.dst) &&
          (decide (n ≤ i) || (plooks l o).all fun t => (x.dst != some t) || (if j < i then (pdeps o).contains j else decide (j = i) || (pdeps x).contains i))

section
variable {P : Program} {Q : Exit → Act → World → Prop}

def pframe (l : List Oper) (D : Nat → Bool) (vals : Nat → Value) : Nat → Act → Act
  | 0, a => a
  | k + 1, a => if D k then (pframe l D vals k a).put ((l[k]?).bind (·.dst)) (vals k) else pframe l D vals k a

theorem pframe_congr {l : List Oper} {D D' : Nat → Bool} {vals vals' : Nat → Value} {a : Act} : ∀ {n : Nat}, (∀ k, k < n → D k = D' k) → (∀ k, k < n → D k = true → vals k = vals' k) → pframe l D vals n a = pframe l D' vals' n a
  | 0, _, _ => rfl
  | n + 1, h, hv => by
    simp only [pframe]
    rw [pframe_congr (n := n) (fun k hk => h k (by omega)) (fun k hk => hv k (by omega)), ← h n (by omega)]
    split
    · rename_i hd; rw [hv n (by omega) hd]
    · rfl

theorem pframe_size {l : List Oper} {D : Nat → Bool} {vals : Nat → Value} {a : Act} : ∀ n, (pframe l D vals n a).tmps.size = a.tmps.size
  | 0 => rfl
  | n + 1 => by
    simp only [pframe]
    split
    · cases h : (l[n]?).bind (·.dst) <;> simp [Act.put, pframe_size n]
    · exact pframe_size n

theorem pframe_add {l : List Oper} {D D' : Nat → Bool} {vals : Nat → Value} {a : Act} {i : Nat} (hi : D i = true) (h0 : D' i = false) (hD : ∀ k, k ≠ i → D k = D' k) :
    ∀ n, (∀ k, k < n → k ≠ i → ∀ d, (l[i]?).bind (·.dst) = some d → (l[k]?).bind (·.dst) ≠ some d) → i < n → pframe l D vals n a = (pframe l D' vals n a).put ((l[i]?).bind (·.dst)) (vals i)
  | 0, _, h => absurd h (Nat.not_lt_zero _)
  | n + 1, hap, hlt => by
    simp only [pframe]
    by_cases hn : n = i
    · subst hn
      rw [if_pos hi, if_neg (by simp [h0])]
      rw [pframe_congr (fun k hk => hD k (by omega)) (fun k _ _ => rfl)]
    · rw [pframe_add hi h0 hD n (fun k hk => hap k (by omega)) (by omega), hD n hn]
      split
      · rw [Act.put_comm _ _ _ (fun d hd => hap n (by omega) hn d hd)]
      · rfl

theorem pframe_eval {l : List Oper} {D D' : Nat → Bool} {vals : Nat → Value} {a : Act} {x : Operand} :
    ∀ n, (∀ k, k < n → ∀ t, x = .tmp t → (l[k]?).bind (·.dst) = some t → D k = D' k) → (pframe l D vals n a).eval x = (pframe l D' vals n a).eval x
  | 0, _ => rfl
  | n + 1, h => by
    have ih := pframe_eval (l := l) (D := D) (D' := D') (vals := vals) (a := a) (x := x) n (fun k hk => h k (by omega))
    simp only [pframe]
    by_cases hx : ∃ t, x = .tmp t ∧ (l[n]?).bind (·.dst) = some t
    · obtain ⟨t, rfl, hd⟩ := hx
      rw [← h n (by omega) t rfl hd]
      split
      · rw [hd]
        simp only [Act.eval, Act.put] at ih ⊢
        simp only [Array.getD_eq_getD_getElem?, Array.getElem?_setIfInBounds, pframe_size, if_true]
      · exact ih
    · have hp : ∀ (b : Act) v, (b.put ((l[n]?).bind (·.dst)) v).eval x = b.eval x := fun b v => Act.eval_put fun d hd hxd => hx ⟨d, hxd, hd⟩
      split <;> split <;> simp only [hp, ih]

def ParPost (R : PSpec) (w : World) (v : Value) (w' : World) : Prop := Ext w w' ∧ ∀ w2, Ext w' w2 → R v w2

def ParOb (P : Program) (l0 : List Oper) (R : PSpec) (o : Oper) (a : Act) (w : World) : Prop :=
  if Region.wanted o (yielded l0.toArray a.tmps) then yields P o a.eval w (ParPost R w) else ∀ w2, Ext w w2 → R undef w2

theorem ParOb.plain {P : Program} {l0 : List Oper} {R : PSpec} {o : Oper} {a : Act} {w : World} (hg : o.guard = none) (h : yields P o a.eval w (ParPost R w)) : ParOb P l0 R o a w := by
  unfold ParOb
  rw [if_pos (by simp [Region.wanted, hg])]
  exact h
theorem ParOb.wanted {P : Program} {l0 : List Oper} {R : PSpec} {o : Oper} {a : Act} {w : World} (hg : Region.wanted o (yielded l0.toArray a.tmps) = true) (h : yields P o a.eval w (ParPost R w)) : ParOb P l0 R o a w := by
  unfold ParOb
  rw [if_pos hg]
  exact h
theorem ParOb.passed {P : Program} {l0 : List Oper} {R : PSpec} {o : Oper} {a : Act} {w : World} (hg : Region.wanted o (yielded l0.toArray a.tmps) = false) (h : ∀ w2, Ext w w2 → R undef w2) : ParOb P l0 R o a w := by
  unfold ParOb
  rw [hg, if_neg (by decide)]
  exact h
theorem ParPost.same {R : PSpec} {w : World} {v : Value} (h : ∀ w2, Ext w w2 → R v w2) : ParPost R w v w := ⟨Ext.refl w, h⟩

def ParObs (P : Program) (w0 : World) (l : List Oper) (Rs : Nat → PSpec) (a : Act) (i : Nat) (o : Oper) : Prop :=
  ∀ (vals : Nat → Value) (w : World), Ext w0 w → (∀ j ∈ pdeps o, (Rs j) (vals j) w) → ParOb P l (Rs i) o (pframe l (fun _ => true) vals i a) w

def pcnt (listed : Array Bool) : Nat → Nat
  | 0 => 0
  | k + 1 => pcnt listed k + if listed.getD k false then 0 else 1
theorem pcnt_zero {listed : Array Bool} : ∀ {N : Nat}, pcnt listed N = 0 → ∀ k, k < N → listed.getD k false = true
  | 0, _, k, hk => absurd hk (Nat.not_lt_zero _)
  | N + 1, h, k, hk => by
    simp only [pcnt] at h
    by_cases hN : listed.getD N false = true
    · by_cases hkN : k = N
      · rw [hkN]; exact hN
      · exact pcnt_zero (N := N) (by omega) k (by omega)
    · rw [if_neg hN] at h; omega
theorem pget_set {listed : Array Bool} {i : Nat} (hi : i < listed.size) (k : Nat) : (listed.setIfInBounds i true).getD k false = if k = i then true else listed.getD k false := by
  simp only [Array.getD_eq_getD_getElem?, Array.getElem?_setIfInBounds]
  by_cases h : i = k
  · subst h; simp [hi]
  · rw [if_neg h, if_neg (fun e => h e.symm)]
theorem pcnt_past {listed : Array Bool} {i : Nat} (hi : i < listed.size) : ∀ N, N ≤ i → pcnt (listed.setIfInBounds i true) N = pcnt listed N
  | 0, _ => rfl
  | N + 1, h => by
    simp only [pcnt]
    have e := pget_set hi N
    rw [if_neg (show ¬ N = i by omega)] at e
    rw [pcnt_past hi N (by omega), e]
theorem pcnt_set {listed : Array Bool} {i : Nat} (hi : i < listed.size) (h0 : listed.getD i false = false) : ∀ N, i < N → pcnt (listed.setIfInBounds i true) N + 1 = pcnt listed N
  | 0, h => absurd h (Nat.not_lt_zero _)
  | N + 1, h => by
    simp only [pcnt]
    by_cases hN : N = i
    · subst hN
      rw [pcnt_past hi N (Nat.le_refl _), pget_set hi, if_pos rfl, h0]
      simp
    · have := pcnt_set hi h0 N (by omega)
      rw [pget_set hi, if_neg hN]
      omega

theorem parOk_at {l : List Oper} {n : Nat} (h : parOk l n = true) {i : Nat} {o : Oper} (ho : l[i]? = some o) :
    (∀ j ∈ pdeps o, j < i) ∧ (i < n → ∃ d, o.dst = some d) ∧ (n ≤ i → ∀ j, j < i → j ∈ pclos l 3 o) ∧
    (i < n → ∀ j x, j < n → l[j]? = some x → i ≠ j → x.dst ≠ o.dst) ∧
    (i < n → ∀ t ∈ plooks l o, ∀ j x, j < n → l[j]? = some x → x.dst = some t → (j < i → j ∈ pdeps o) ∧ (i < j → i ∈ pdeps x)) := by
  simp only [parOk, Bool.and_eq_true, List.all_eq_true, List.mem_range] at h
  have hlt : i < l.length := (List.getElem?_eq_some_iff.1 ho).1
  have h1 := h.2 i hlt
  rw [ho] at h1
  simp only [Bool.and_eq_true, List.all_eq_true, List.mem_range, decide_eq_true_eq, Bool.or_eq_true] at h1
  obtain ⟨⟨⟨a1, a2⟩, a3⟩, a4⟩ := h1
  refine ⟨a1, fun hn => ?_, fun hn j hj => ?_, fun hn j x hj hx hne => ?_, fun hn t ht j x hj hx hd => ?_⟩
  · rcases a2 with a2 | a2
    · omega
    · exact Option.isSome_iff_exists.1 a2
  · rcases a3 with a3 | a3
    · omega
    · simpa using a3 j hj
  · have := a4 j hj
    rw [hx] at this
    simp only [Bool.and_eq_true, Bool.or_eq_true, decide_eq_true_eq, bne_iff_ne] at this
    rcases this.1 with (b | b) | b
    · exact absurd b hne
    · omega
    · exact b
  · have := a4 j hj
    rw [hx] at this
    simp only [Bool.and_eq_true, Bool.or_eq_true, decide_eq_true_eq, List.all_eq_true, bne_iff_ne] at this
    rcases this.2 with b | b
    · omega
    · have c := b t ht
      rcases c with c | c
      · exact absurd hd c
      · constructor
        · intro hji; rw [if_pos hji] at c; simpa using c
        · intro hij
          rw [if_neg (by omega)] at c
          simp only [Bool.or_eq_true, decide_eq_true_eq] at c
          rcases c with c | c
          · omega
          · simpa using c

theorem pget_inj {xs ys : Array Value} (hs : xs.size = ys.size) {t : Nat} (h : xs.getD t undef = ys.getD t undef) : xs[t]? = ys[t]? := by
  simp only [Array.getD_eq_getD_getElem?] at h
  by_cases ht : t < xs.size
  · rw [Array.getElem?_eq_getElem ht, Array.getElem?_eq_getElem (show t < ys.size by omega)] at h ⊢
    simpa using h
  · rw [Array.getElem?_eq_none (by omega), Array.getElem?_eq_none (by omega)]
theorem mem_pdeps {o : Oper} {e : Edge} (he : e ∈ o.after) (hb : Region.binds .any e = true) : e.on ∈ pdeps o :=
  List.mem_map.2 ⟨e, List.mem_filter.2 ⟨Array.mem_toList_iff.2 he, hb⟩, rfl⟩
theorem pdeps_mem {o : Oper} {j : Nat} (h : j ∈ pdeps o) : ∃ e, e ∈ o.after ∧ Region.binds .any e = true ∧ e.on = j := by
  obtain ⟨e, he, rfl⟩ := List.mem_map.1 h
  obtain ⟨h1, h2⟩ := List.mem_filter.1 he
  exact ⟨e, Array.mem_toList_iff.1 h1, h2, rfl⟩

theorem par_ready {l : List Oper} {listed : Array Bool} (hs : listed.size = l.length) {i : Nat} : i ∈ Region.ready .any l.toArray listed ↔
    i < l.length ∧ listed.getD i false = false ∧ ∃ o, l[i]? = some o ∧ ∀ j ∈ pdeps o, listed.getD j false = true := by
  rw [mem_ready]
  constructor
  · rintro ⟨h0, o, ho, h⟩
    have hlt : i < l.length := by simpa using (Array.getElem?_eq_some_iff.1 ho).1
    refine ⟨hlt, ?_, o, by simpa using ho, fun j hj => ?_⟩
    · simp only [Array.getD_eq_getD_getElem?, Array.getElem?_eq_getElem (show i < listed.size by omega)] at h0 ⊢
      simpa using h0
    · obtain ⟨e, he, hb, rfl⟩ := pdeps_mem hj
      exact h e he hb
  · rintro ⟨hlt, h0, o, ho, h⟩
    refine ⟨?_, o, by simpa using ho, fun e he hb => h _ (mem_pdeps he hb)⟩
    simp only [Array.getD_eq_getD_getElem?, Array.getElem?_eq_getElem (show i < listed.size by omega)] at h0 ⊢
    simpa using h0

theorem par_min {l : List Oper} {n : Nat} (hok : parOk l n = true) {listed : Array Bool} (hs : listed.size = l.length) {k : Nat} (hk : k < l.length) (h0 : listed.getD k false = false) (hall : ∀ j, j < k → listed.getD j false = true) :
    k ∈ Region.ready .any l.toArray listed :=
  (par_ready hs).2 ⟨hk, h0, _, List.getElem?_eq_getElem hk, fun j hj => hall j ((parOk_at hok (List.getElem?_eq_getElem hk)).1 j hj)⟩

theorem par_first {listed : Array Bool} : ∀ {N : Nat}, 0 < pcnt listed N → ∃ k, k < N ∧ listed.getD k false = false ∧ ∀ j, j < k → listed.getD j false = true
  | 0, h => absurd h (Nat.lt_irrefl _)
  | N + 1, h => by
    by_cases hp : 0 < pcnt listed N
    · obtain ⟨k, hk, h1, h2⟩ := par_first hp
      exact ⟨k, by omega, h1, h2⟩
    · have hz : pcnt listed N = 0 := by omega
      refine ⟨N, by omega, ?_, fun j hj => pcnt_zero hz j hj⟩
      simp only [pcnt] at h
      cases hN : listed.getD N false
      · rfl
      · rw [hN] at h; simp at h; omega

theorem tail_sound {l : List Oper} {n : Nat} (hok : parOk l n = true) : ∀ (fuel k : Nat) (listed : Array Bool) (a : Act) (w : World), listed.size = l.length → pcnt listed l.length = fuel → n ≤ k → k ≤ l.length →
    (∀ j, j < k → listed.getD j false = true) → (∀ j, k ≤ j → j < l.length → listed.getD j false = false) → wpList P l.toArray Q (l.drop k) a w → wpAny P .any l.toArray Q fuel listed a w
  | 0, k, listed, a, w, hs, hc, hnk, hkl, hd, hu, h => by
    have hall := pcnt_zero hc
    have hkeq : k = l.length := by
      rcases Nat.lt_or_ge k l.length with hlt | hge
      · have := hu k (Nat.le_refl _) hlt; rw [hall k hlt] at this; cases this
      · omega
    subst hkeq
    refine ⟨?_, by simpa [wpList] using h⟩
    refine List.eq_nil_iff_forall_not_mem.2 fun i hi => ?_
    obtain ⟨h1, h2, _⟩ := (par_ready hs).1 hi
    rw [hall i h1] at h2; cases h2
  | fuel + 1, k, listed, a, w, hs, hc, hnk, hkl, hd, hu, h => by
    have hklt : k < l.length := by
      rcases Nat.lt_or_ge k l.length with hlt | hge
      · exact hlt
      · obtain ⟨j, hj, h0, _⟩ := par_first (listed := listed) (N := l.length) (by omega)
        rw [hd j (by omega)] at h0; cases h0
    have h0 := hu k (Nat.le_refl _) hklt
    have hready := par_min hok hs hklt h0 hd
    refine ⟨fun hnil => (by rw [hnil] at hready; cases hready), fun i hi => ?_⟩
    have hik : i = k := by
      obtain ⟨h1, h2, o, ho, h3⟩ := (par_ready hs).1 hi
      rcases Nat.lt_trichotomy i k with hlt | heq | hgt
      · rw [hd i hlt] at h2; cases h2
      · exact heq
      · have hlt2 : ∀ j ∈ pdeps o, j < k := by
          intro j hj
          have hji := (parOk_at hok ho).1 j hj
          rcases Nat.lt_or_ge j k with h4 | h4
          · exact h4
          · have := h3 j hj
            rw [hu j h4 (by omega)] at this; cases this
        have hck : k < k := pclos_all (l := l) (G := fun j => j < k) (fun m x hx hmk j hj => by have := (parOk_at hok hx).1 j hj; omega) 3 o hlt2 k ((parOk_at hok ho).2.2.1 (by omega) k hgt)
        exact absurd hck (Nat.lt_irrefl _)
    subst hik
    have hdrop : l.drop i = l[i] :: l.drop (i + 1) := List.drop_eq_getElem_cons hklt
    rw [hdrop] at h
    have hop : wpOp P l.toArray Q i (wpList P l.toArray Q (l.drop (i + 1))) a w := by
      unfold wpOp
      have hg : l.toArray[i]? = some l[i] := by simp [hklt]
      rw [hg]
      exact h
    refine wpOp_mono (fun a' w' h' => ?_) hop
    refine tail_sound hok fuel (i + 1) _ a' w' (by simpa using hs) ?_ (by omega) (by omega) (fun j hj => ?_) (fun j hj hjl => ?_) h'
    · have := pcnt_set (listed := listed) (by omega) h0 l.length hklt; omega
    · rw [pget_set (by omega)]; split
      · rfl
      · exact hd j (by omega)
    · rw [pget_set (by omega), if_neg (by omega)]; exact hu j (by omega) hjl

theorem par_sound {l : List Oper} {n : Nat} (hok : parOk l n = true) (hn : n ≤ l.length) {Rs : Nat → PSpec} {a0 : Act} {w0 : World}
    (hob : ∀ i o, i < n → l[i]? = some o → ParObs P w0 l Rs a0 i o)
    (hfin : ∀ vals w', Ext w0 w' → (∀ i, i < n → (Rs i) (vals i) w') → wpList P l.toArray Q (l.drop n) (pframe l (fun _ => true) vals n a0) w') :
    ∀ (fuel : Nat) (listed : Array Bool) (vals : Nat → Value) (w : World), listed.size = l.length → pcnt listed l.length = fuel → (∀ j, n ≤ j → j < l.length → listed.getD j false = false) →
    (∀ i o, l[i]? = some o → listed.getD i false = true → ∀ j ∈ pdeps o, listed.getD j false = true) →
    Ext w0 w → (∀ i, i < n → listed.getD i false = true → ∀ w2, Ext w w2 → (Rs i) (vals i) w2) → wpAny P .any l.toArray Q fuel listed (pframe l (listed.getD · false) vals n a0) w := by
  intro fuel
  induction fuel with
  | zero =>
    intro listed vals w hs hc hu hcl hx hR
    have hall := pcnt_zero hc
    have hnl : n = l.length := by
      rcases Nat.lt_or_ge n l.length with hlt | hge
      · have := hu n (Nat.le_refl _) hlt; rw [hall n hlt] at this; cases this
      · omega
    have he : pframe l (listed.getD · false) vals n a0 = pframe l (fun _ => true) vals n a0 := pframe_congr (fun k hk => hall k (by omega)) (fun _ _ _ => rfl)
    rw [he]
    exact tail_sound hok 0 n listed _ w hs hc (Nat.le_refl _) hn (fun j hj => hall j (by omega)) hu (hfin vals w hx fun i hi => hR i hi (hall i (by omega)) w (Ext.refl w))
  | succ fuel ih =>
    intro listed vals w hs hc hu hcl hx hR
    by_cases hpar : ∀ j, j < n → listed.getD j false = true
    · have he : pframe l (listed.getD · false) vals n a0 = pframe l (fun _ => true) vals n a0 := pframe_congr (fun k hk => hpar k hk) (fun _ _ _ => rfl)
      rw [he]
      exact tail_sound hok _ n listed _ w hs hc (Nat.le_refl _) hn hpar hu (hfin vals w hx fun i hi => hR i hi (hpar i hi) w (Ext.refl w))
    · obtain ⟨k, hk, h0, hall⟩ := par_first (listed := listed) (N := l.length) (by omega)
      have hready := par_min hok hs hk h0 hall
      refine ⟨fun hnil => (by rw [hnil] at hready; cases hready), fun i hi => ?_⟩
      obtain ⟨hil, hi0, o, ho, hdeps⟩ := (par_ready hs).1 hi
      obtain ⟨c1, c2, c3, c4, c5⟩ := parOk_at hok ho
      have hin : i < n := by
        rcases Nat.lt_or_ge i n with hlt | hge
        · exact hlt
        · exact absurd (fun j hj => pclos_all (l := l) (G := fun j => listed.getD j false = true) hcl 3 o hdeps j (c3 hge j (by omega))) hpar
      have hob1 := hob i o hin ho vals w hx (fun j hj => hR j (by have := c1 j hj; omega) (hdeps j hj) w (Ext.refl w))
      unfold ParOb at hob1
      -- the frame of the text's order, and this one, are one to the operation
      have hsame : ∀ t, t ∈ plooks l o → (pframe l (listed.getD · false) vals n a0).eval (.tmp t) = (pframe l (fun _ => true) vals i a0).eval (.tmp t) := by
        intro t ht
        have e1 : pframe l (fun _ => true) vals i a0 = pframe l (fun j => decide (j < i)) vals n a0 := by
          have : ∀ m, i ≤ m → pframe l (fun j => decide (j < i)) vals m a0 = pframe l (fun _ => true) vals i a0 := by
            intro m
            induction m with
            | zero => intro h; have : i = 0 := by omega
                      subst this; rfl
            | succ m ihm =>
              intro h
              by_cases hm : i ≤ m
              · simp only [pframe]
                rw [if_neg (by simp; omega)]
                exact ihm hm
              · have : i = m + 1 := by omega
                subst this
                exact pframe_congr (fun k hk => by simp [hk]) (fun _ _ _ => rfl)
          exact (this n (by omega)).symm
        rw [e1]
        refine pframe_eval n fun j hj t' ht' hd => ?_
        injection ht' with ht'
        subst ht'
        have hjl : j < l.length := by omega
        obtain ⟨x, hx2⟩ : ∃ x, l[j]? = some x := ⟨_, List.getElem?_eq_getElem hjl⟩
        rw [hx2] at hd
        obtain ⟨d1, d2⟩ := c5 hin t ht j x hj hx2 hd
        rcases Nat.lt_trichotomy j i with hlt | heq | hgt
        · rw [hdeps j (d1 hlt)]; simp [hlt]
        · subst heq; rw [hi0]; simp
        · cases hjd : listed.getD j false
          · simp; omega
          · have := hcl j x hx2 hjd i (d2 hgt)
            rw [hi0] at this; cases this
      have hexec : execOp (pframe l (listed.getD · false) vals n a0).eval o = execOp (pframe l (fun _ => true) vals i a0).eval o := by
        refine execOp_congr o (fun cs b => Region.noSelect_spec (by simp only [parOk, Bool.and_eq_true] at hok; exact hok.1) i o cs b (by simpa using ho)) fun x hx2 => ?_
        cases x with
        | tmp t => exact hsame t (List.mem_append_left _ (List.mem_filterMap.2 ⟨.tmp t, by simpa using hx2, rfl⟩))
        | _ => rfl
      have hwant : Region.wanted o (yielded l.toArray (pframe l (listed.getD · false) vals n a0).tmps) = Region.wanted o (yielded l.toArray (pframe l (fun _ => true) vals i a0).tmps) := by
        cases hg : o.guard with
        | none => simp [Region.wanted, hg]
        | some g =>
          obtain ⟨g, want⟩ := g
          have : yielded l.toArray (pframe l (listed.getD · false) vals n a0).tmps g = yielded l.toArray (pframe l (fun _ => true) vals i a0).tmps g := by
            unfold yielded
            cases hgd : (l[g]?).bind (·.dst) with
            | none => simp [hgd]
            | some t =>
              have hs2 := hsame t (List.mem_append_right _ (by rw [hg]; simp [hgd]))
              simp only [List.getElem?_toArray, hgd, Option.bind_some]
              rw [pget_inj ((pframe_size n).trans (pframe_size i).symm) hs2]
          simp only [Region.wanted, hg, this]
      -- what follows behind the operation
      have hnext : ∀ v w', Ext w w' → (∀ w2, Ext w' w2 → (Rs i) v w2) →
          wpAny P .any l.toArray Q fuel (listed.setIfInBounds i true) ((pframe l (listed.getD · false) vals n a0).put o.dst v) w' := by
        intro v w' hx2 hRv
        have e1 : pframe l ((listed.setIfInBounds i true).getD · false) (fun j => if j = i then v else vals j) n a0 =
            (pframe l (listed.getD · false) (fun j => if j = i then v else vals j) n a0).put ((l[i]?).bind (·.dst)) ((fun j => if j = i then v else vals j) i) :=
          pframe_add (by rw [pget_set (by omega)]; simp) hi0 (fun k hk => by rw [pget_set (by omega), if_neg hk]) n
            (fun k hk hne d hd => by
              rw [ho] at hd
              have hkl : k < l.length := by omega
              have := c4 hin k _ hk (List.getElem?_eq_getElem hkl) (fun e => hne e.symm)
              rw [List.getElem?_eq_getElem hkl]
              simp only [Option.bind_some] at hd ⊢
              rw [hd] at this; exact this) hin
        have e2 : pframe l (listed.getD · false) (fun j => if j = i then v else vals j) n a0 = pframe l (listed.getD · false) vals n a0 :=
          pframe_congr (fun _ _ => rfl) (fun k hk hD => by
            have hki : k ≠ i := fun e => by subst e; rw [hi0] at hD; cases hD
            simp only [if_neg hki])
        have hfr : (pframe l (listed.getD · false) vals n a0).put o.dst v = pframe l ((listed.setIfInBounds i true).getD · false) (fun j => if j = i then v else vals j) n a0 := by
          rw [e1, e2, ho]
          simp
        rw [hfr]
        refine ih _ _ w' (by simpa using hs) ?_ (fun j hj hjl => ?_) (fun j x hx3 hj3 => ?_) (hx.trans hx2) (fun j hj hjd => ?_)
        · have := pcnt_set (listed := listed) (by omega) hi0 l.length hil; omega
        · rw [pget_set (by omega), if_neg (by omega)]; exact hu j hj hjl
        · intro m hm
          rw [pget_set (by omega)] at hj3 ⊢
          split
          · rfl
          · by_cases hji : j = i
            · subst hji
              rw [ho] at hx3
              obtain rfl := Option.some.inj hx3
              exact hdeps m hm
            · rw [if_neg hji] at hj3
              exact hcl j x hx3 hj3 m hm
        · by_cases hji : j = i
          · subst hji; simp only [if_true]; exact hRv
          · simp only [if_neg hji]
            rw [pget_set (by omega), if_neg hji] at hjd
            exact fun w2 hw2 => hR j hj hjd w2 (hx2.trans hw2)
      unfold wpOp
      have hg : l.toArray[i]? = some o := by simpa using ho
      rw [hg]
      simp only []
      rw [hwant]
      split
      · rename_i hwt
        rw [if_pos hwt] at hob1
        left
        refine wp_of_yields (Y := ParPost (Rs i) w) ?_ (fun v w' ⟨y1, y2⟩ => hnext v w' y1 y2)
        unfold yields at hob1 ⊢
        rw [hexec]
        exact hob1
      · rename_i hwt
        rw [if_neg hwt] at hob1
        exact hnext undef w (Ext.refl w) hob1

theorem wp_region_par {id : Nat} {l : List Oper} (n : Nat) {a : Act} {w : World} (Rs : Nat → PSpec) (hm : P.follows .mixedOrders = true) (hok : parOk l n = true) (hn : n ≤ l.length)
    (hob : ∀ i o, i < n → l[i]? = some o → ParObs P w l Rs a i o)
    (hfin : ∀ vals w', Ext w w' → (∀ i, i < n → (Rs i) (vals i) w') → wpList P l.toArray Q (l.drop n) (pframe l (fun _ => true) vals n a) w') :
    (Code.region id l.toArray true).wp P Q a w := by
  refine wp_region_any hm ?_
  have hz : ∀ k, (Array.replicate l.length false).getD k false = false := by
    intro k
    simp only [Array.getD_eq_getD_getElem?, Array.getElem?_replicate]
    split <;> rfl
  have hfr : pframe l ((Array.replicate l.length false).getD · false) (fun _ => undef) n a = a := by
    have : ∀ m, pframe l ((Array.replicate l.length false).getD · false) (fun _ => undef) m a = a := by
      intro m
      induction m with
      | zero => rfl
      | succ m ih => simp only [pframe]; rw [hz, if_neg (by simp)]; exact ih
    exact this n
  have h := par_sound (Q := Q) hok hn hob hfin (pcnt (Array.replicate l.length false) l.length) (Array.replicate l.length false) (fun _ => undef) w.drew (by simp) rfl (fun j _ _ => hz j) (fun i o _ h => by rw [hz] at h; cases h) (Ext.refl w).drew (fun i _ h => by rw [hz] at h; cases h)
  rw [hfr] at h
  have hc : ∀ m, pcnt (Array.replicate l.length false) m = m := by
    intro m
    induction m with
    | zero => rfl
    | succ m ih => simp only [pcnt]; rw [ih, hz]; simp
  rw [hc] at h
  simpa using h

def PDeps (Rs : Nat → PSpec) (vals : Nat → Value) (w : World) : List Nat → Prop
  | [] => True
  | j :: r => Rs j (vals j) w ∧ PDeps Rs vals w r
theorem PDeps.of {Rs : Nat → PSpec} {vals : Nat → Value} {w : World} : ∀ {l : List Nat}, (∀ j ∈ l, Rs j (vals j) w) → PDeps Rs vals w l
  | [], _ => trivial
  | _ :: _, h => ⟨h _ (List.mem_cons_self ..), PDeps.of fun j hj => h j (List.mem_cons_of_mem _ hj)⟩

def ParAll (P : Program) (w0 : World) (l0 : List Oper) (Rs : Nat → PSpec) : Nat → List Oper → ((Nat → Value) → Act) → Prop
  | _, [], _ => True
  | i, o :: r, F => (∀ (vals : Nat → Value) (w : World), Ext w0 w → PDeps Rs vals w (pdeps o) → ParOb P l0 (Rs i) o (F vals) w) ∧
      ParAll P w0 l0 Rs (i + 1) r (fun vals => (F vals).put o.dst (vals i))

def ParEnd (vals : Nat → Value) : Nat → List Oper → Act → Act
  | _, [], a => a
  | i, o :: r, a => ParEnd vals (i + 1) r (a.put o.dst (vals i))
def ParFacts (Rs : Nat → PSpec) (vals : Nat → Value) (w : World) : Nat → List Oper → Prop
  | _, [] => True
  | i, _ :: r => Rs i (vals i) w ∧ ParFacts Rs vals w (i + 1) r

theorem parAll_at {w0 : World} {l0 : List Oper} {Rs : Nat → PSpec} : ∀ (r : List Oper) (k : Nat) (F : (Nat → Value) → Act), ParAll P w0 l0 Rs k r F → ∀ (j : Nat) (o : Oper), r[j]? = some o →
    ∀ (vals : Nat → Value) (w : World), Ext w0 w → PDeps Rs vals w (pdeps o) → ParOb P l0 (Rs (k + j)) o (ParEnd vals k (r.take j) (F vals)) w
  | [], _, _, _, j, o, h => by simp at h
  | x :: r, k, F, h, 0, o, ho => by
    simp at ho
    subst ho
    exact fun vals w hx hd => h.1 vals w hx hd
  | x :: r, k, F, h, j + 1, o, ho => by
    intro vals w hx hd
    have := parAll_at r (k + 1) _ h.2 j o (by simpa using ho) vals w hx hd
    rw [show k + 1 + j = k + (j + 1) from by omega] at this
    exact this

theorem parEnd_frame {l : List Oper} {vals : Nat → Value} {a : Act} : ∀ (i : Nat), i ≤ l.length → ParEnd vals 0 (l.take i) a = pframe l (fun _ => true) vals i a := by
  have step : ∀ (r : List Oper) (k : Nat) (b : Act) (o : Oper), ParEnd vals k (r ++ [o]) b = (ParEnd vals k r b).put o.dst (vals (k + r.length)) := by
    intro r
    induction r with
    | nil => intro k b o; rfl
    | cons x r ih =>
      intro k b o
      show ParEnd vals (k + 1) (r ++ [o]) _ = _
      rw [ih, List.length_cons, show k + 1 + r.length = k + (r.length + 1) from by omega]
      rfl
  intro i
  induction i with
  | zero => intro _; simp [ParEnd, pframe]
  | succ i ih =>
    intro h
    have hi : i < l.length := by omega
    rw [List.take_succ_eq_append_getElem hi, step, ih (by omega)]
    simp only [pframe, if_true, List.getElem?_eq_getElem hi, Option.bind_some, List.length_take, Nat.zero_add]
    rw [Nat.min_eq_left (by omega)]

theorem parFacts_of {Rs : Nat → PSpec} {vals : Nat → Value} {w : World} : ∀ (r : List Oper) (k : Nat), (∀ i, i < r.length → Rs (k + i) (vals (k + i)) w) → ParFacts Rs vals w k r
  | [], _, _ => trivial
  | _ :: r, k, h => ⟨h 0 (by simp), parFacts_of r (k + 1) fun i hi => by
      have := h (i + 1) (by simpa using hi)
      rw [show k + (i + 1) = k + 1 + i from by omega] at this
      exact this⟩

theorem wp_par {id : Nat} {l : List Oper} (n : Nat) {a : Act} {w : World} (Rs : Nat → PSpec) (hm : P.follows .mixedOrders = true) (hok : parOk l n = true) (hn : decide (n ≤ l.length) = true)
    (hob : ParAll P w l Rs 0 (l.take n) (fun _ => a))
    (hfin : ∀ vals w', Ext w w' → ParFacts Rs vals w' 0 (l.take n) → wpList P l.toArray Q (l.drop n) (ParEnd vals 0 (l.take n) a) w') :
    (Code.region id l.toArray true).wp P Q a w := by
  have hn := of_decide_eq_true hn
  refine wp_region_par n Rs hm hok hn (fun i o hi ho vals w' hx hd => ?_) (fun vals w' hx hf => ?_)
  · have h := parAll_at (l.take n) 0 _ hob i o (by rw [List.getElem?_take, if_pos hi]; exact ho) vals w' hx (PDeps.of hd)
    rw [List.take_take, Nat.min_eq_left (by omega), parEnd_frame i (by omega), Nat.zero_add] at h
    exact h
  · rw [← parEnd_frame n hn]
    exact hfin vals w' hx (parFacts_of _ 0 fun i hi => by
      rw [Nat.zero_add]
      exact hf i (by rw [List.length_take] at hi; omega))
end
end Go.Proofs.YtchpbdodlbghaaaGreatDoor
