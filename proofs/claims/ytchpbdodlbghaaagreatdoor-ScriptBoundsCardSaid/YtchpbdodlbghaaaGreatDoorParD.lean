import Derived.Test.YtchpbdodlbghaaaGreatDoorParF
import Derived.Test.YtchpbdodlbghaaaGreatDoorParH
namespace Go.Proofs.YtchpbdodlbghaaaGreatDoor
open Go.RowKit

def LtC (b : Bool) (Le1 Le2 : World → World → Prop) (w w' : World) : Prop := if b then Le1 w w' else Le2 w w'
def ParPostC (b : Bool) (Le1 Le2 : World → World → Prop) (R : PSpec) (w : World) (v : Value) (w' : World) : Prop := if b = true then Le2 w w' ∧ ∀ w2, Le1 w' w2 → R v w2 else Le1 w w' ∧ ∀ w2, Le2 w' w2 → R v w2
def ParObC (b : Bool) (Le1 Le2 : World → World → Prop) (P : Program) (l0 : List Oper) (R : PSpec) (o : Oper) (a : Act) (w : World) : Prop :=
  if Region.wanted o (yielded l0.toArray a.tmps) then yields P o a.eval w (ParPostC b Le1 Le2 R w) else ∀ w2, Le2 w w2 → R undef w2
theorem ParObC.plain {Le1 Le2 : World → World → Prop} {P : Program} {l0 : List Oper} {R : PSpec} {o : Oper} {a : Act} {w : World} (hg : o.guard = none) (h : yields P o a.eval w fun v w' => Le1 w w' ∧ ∀ w2, Le2 w' w2 → R v w2) : ParObC false Le1 Le2 P l0 R o a w := by
  unfold ParObC
  rw [if_pos (by simp [Region.wanted, hg])]
  exact h
theorem ParObC.call {Le1 Le2 : World → World → Prop} {P : Program} {l0 : List Oper} {R : PSpec} {o : Oper} {a : Act} {w : World} (hg : o.guard = none) (h : yields P o a.eval w fun v w' => Le2 w w' ∧ ∀ w2, Le1 w' w2 → R v w2) : ParObC true Le1 Le2 P l0 R o a w := by
  unfold ParObC
  rw [if_pos (by simp [Region.wanted, hg])]
  exact h
def ParObsC (c : Nat) (Le1 Le2 : World → World → Prop) (P : Program) (w0 : World) (l : List Oper) (Rs : Nat → LSpec) (a : Act) (i : Nat) (o : Oper) : Prop :=
  ∀ (vals : Nat → Value) (w : World), (if i = c then Le1 w0 w else Le2 w0 w) → (∀ j ∈ pdeps o, Rs j (dv l vals j) (vals j) w) → ParObC (decide (i = c)) Le1 Le2 P l (Rs i (dv l vals i)) o (pframe l (fun _ => true) vals i a) w
def ParAllC (c : Nat) (Le1 Le2 : World → World → Prop) (P : Program) (w0 : World) (l0 : List Oper) (Rs : Nat → LSpec) : Nat → List Oper → ((Nat → Value) → Act) → Prop
  | _, [], _ => True
  | i, o :: r, F => (∀ (vals : Nat → Value) (w : World), (if i = c then Le1 w0 w else Le2 w0 w) → PDepsG l0 Rs vals w (pdeps o) → ParObC (decide (i = c)) Le1 Le2 P l0 (Rs i (dv l0 vals i)) o (F vals) w) ∧
      ParAllC c Le1 Le2 P w0 l0 Rs (i + 1) r (fun vals => (F vals).put o.dst (vals i))
section
variable {P : Program} {Q : Exit → Act → World → Prop} {Le1 Le2 : World → World → Prop}
theorem LtC.refl (H1 : IsLe Le1) (H2 : IsLe Le2) (b : Bool) (w : World) : LtC b Le1 Le2 w w := by
  cases b
  · exact H2.refl w
  · exact H1.refl w
theorem LtC.le2 (h12 : ∀ {a b}, Le1 a b → Le2 a b) {b : Bool} {w w' : World} (h : LtC b Le1 Le2 w w') : Le2 w w' := by
  cases b
  · exact h
  · exact h12 h
theorem LtC.trans1 (H1 : IsLe Le1) (H2 : IsLe Le2) (h12 : ∀ {a b}, Le1 a b → Le2 a b) {b : Bool} {u w w' : World} (h : Le1 u w) (k : LtC b Le1 Le2 w w') : LtC b Le1 Le2 u w' := by
  cases b
  · exact H2.trans (h12 h) k
  · exact H1.trans h k
theorem parAll_atC {c : Nat} {w0 : World} {l0 : List Oper} {Rs : Nat → LSpec} : ∀ (r : List Oper) (k : Nat) (F : (Nat → Value) → Act), ParAllC c Le1 Le2 P w0 l0 Rs k r F → ∀ (j : Nat) (o : Oper), r[j]? = some o →
    ∀ (vals : Nat → Value) (w : World), (if k + j = c then Le1 w0 w else Le2 w0 w) → PDepsG l0 Rs vals w (pdeps o) → ParObC (decide (k + j = c)) Le1 Le2 P l0 (Rs (k + j) (dv l0 vals (k + j))) o (ParEnd vals k (r.take j) (F vals)) w
  | [], _, _, _, j, o, h => by simp at h
  | x :: r, k, F, h, 0, o, ho => by
    simp at ho
    subst ho
    exact fun vals w hx hd => h.1 vals w hx hd
  | x :: r, k, F, h, j + 1, o, ho => by
    intro vals w hx hd
    have := parAll_atC r (k + 1) _ h.2 j o (by simpa using ho) vals w (by rw [show k + 1 + j = k + (j + 1) from by omega]; exact hx) hd
    rw [show k + 1 + j = k + (j + 1) from by omega] at this
    exact this
theorem par_soundZC (c : Nat) (H1 : IsLe Le1) (H2 : IsLe Le2) (h12 : ∀ {a b}, Le1 a b → Le2 a b) {l : List Oper} {m n : Nat} (hok : parOkZ l m n = true) {Rs : Nat → LSpec} {zv : Nat → Value} {a0 : Act} {w0 : World}
    (hcm : c < m) (hob : ∀ i o, i < m → l[i]? = some o → ParObsC c Le1 Le2 P w0 l Rs a0 i o) (hZ : ∀ i o, m ≤ i → i < n → l[i]? = some o → ZOb P l zv a0 i o)
    (hfin : ∀ vals w', Le2 w0 w' → (∀ i, i < m → (Rs i) (dv l vals i) (vals i) w') → (∀ j, m ≤ j → j < n → vals j = zv j) → ZTail P (fun a w => Q .normal a w) (l.drop n) (pframe l (fun _ => true) vals n a0) w') :
    ∀ (fuel : Nat) (listed : Array Bool) (vals : Nat → Value) (w : World), listed.size = l.length → pcnt listed l.length = fuel → (∀ j, n ≤ j → j < l.length → listed.getD j false = false) →
    (∀ j x, l[j]? = some x → listed.getD j false = true → ∀ d ∈ pdeps x, listed.getD d false = true) →
    (listed.getD c false = false → Le1 w0 w) → Le2 w0 w → (∀ i, i < m → listed.getD i false = true → ∀ w2, LtC (listed.getD c false) Le1 Le2 w w2 → (Rs i) (dv l vals i) (vals i) w2) → (∀ j, m ≤ j → j < n → listed.getD j false = true → vals j = zv j) →
    wpAny P .any l.toArray Q fuel listed (pframe l (listed.getD · false) vals l.length a0) w := by
  obtain ⟨hns, hmn, hnl, hf⟩ := parOkZ_at hok
  -- once all of the first are done
  have toTail : ∀ (fuel : Nat) (listed : Array Bool) (vals : Nat → Value) (w : World), listed.size = l.length → pcnt listed l.length = fuel → (∀ j, n ≤ j → j < l.length → listed.getD j false = false) →
      (∀ j x, l[j]? = some x → listed.getD j false = true → ∀ d ∈ pdeps x, listed.getD d false = true) →
      (listed.getD c false = false → Le1 w0 w) → Le2 w0 w → (∀ i, i < m → listed.getD i false = true → ∀ w2, LtC (listed.getD c false) Le1 Le2 w w2 → (Rs i) (dv l vals i) (vals i) w2) → (∀ j, m ≤ j → j < n → listed.getD j false = true → vals j = zv j) → (∀ j, j < m → listed.getD j false = true) →
      wpAny P .any l.toArray Q fuel listed (pframe l (listed.getD · false) vals l.length a0) w := by
    intro fuel listed vals w hs hc hu hcl hx1 hx hR hV hpar
    have e1 : pframe l (listed.getD · false) vals l.length a0 = pframe l (listed.getD · false) (fun j => if m ≤ j ∧ j < n then zv j else vals j) l.length a0 :=
      pframe_congr (fun _ _ => rfl) (fun j hj hl => by
        split
        · rename_i h; exact hV j h.1 h.2 hl
        · rfl)
    rw [e1]
    refine tailZ hok hZ fuel n listed _ w hs hc (Nat.le_refl _) hnl hpar (fun j h1 h2 => by omega) hu hcl (fun j h1 h2 => by rw [if_pos ⟨h1, h2⟩]) ?_
    have e2 : pframe l (fun j => decide (j < n) || listed.getD j false) (fun j => if m ≤ j ∧ j < n then zv j else vals j) l.length a0 = pframe l (fun _ => true) (fun j => if m ≤ j ∧ j < n then zv j else vals j) n a0 := by
      have : ∀ M, n ≤ M → M ≤ l.length → pframe l (fun j => decide (j < n) || listed.getD j false) (fun j => if m ≤ j ∧ j < n then zv j else vals j) M a0 = pframe l (fun _ => true) (fun j => if m ≤ j ∧ j < n then zv j else vals j) n a0 := by
        intro M
        induction M with
        | zero => intro h _; have : n = 0 := by omega
                  subst this; rfl
        | succ M ihm =>
          intro h hM
          by_cases hm : n ≤ M
          · simp only [pframe]
            rw [if_neg (by rw [hu M hm (by omega)]; simp; omega)]
            exact ihm hm (by omega)
          · have : n = M + 1 := by omega
            subst this
            exact pframe_congr (fun k hk => by simp [hk]) (fun _ _ _ => rfl)
      exact this l.length hnl (Nat.le_refl _)
    rw [e2]
    exact hfin _ w hx (fun i hi => by
      have hil : i < l.length := by omega
      rw [if_neg (by omega), dv_congr (vals' := vals) (fun d hd => by
        have := (hf i _ (List.getElem?_eq_getElem hil)).back d (by simpa [ldeps, List.getElem?_eq_getElem hil] using hd)
        rw [if_neg (by omega)])]
      exact hR i hi (hpar i hi) w (LtC.refl H1 H2 _ w)) (fun j h1 h2 => by rw [if_pos ⟨h1, h2⟩])
  intro fuel
  induction fuel with
  | zero =>
    intro listed vals w hs hc hu hcl hx1 hx hR hV
    exact toTail 0 listed vals w hs hc hu hcl hx1 hx hR hV (fun j hj => pcnt_zero hc j (by omega))
  | succ fuel ih =>
    intro listed vals w hs hc hu hcl hx1 hx hR hV
    by_cases hpar : ∀ j, j < m → listed.getD j false = true
    · exact toTail _ listed vals w hs hc hu hcl hx1 hx hR hV hpar
    · obtain ⟨k, hk, h0, hall⟩ := par_first (listed := listed) (N := l.length) (by omega)
      have hready := zmin hf hs hk h0 hall
      refine ⟨fun hnil => (by rw [hnil] at hready; cases hready), fun i hi => ?_⟩
      obtain ⟨hil, hi0, o, ho, hdeps⟩ := (par_ready hs).1 hi
      have F := hf i o ho
      have hin : i < n := by
        rcases Nat.lt_or_ge i n with hlt | hge
        · exact hlt
        · refine absurd (fun j hj => ?_) hpar
          rcases F.tail hge j (by omega) with h1 | h1
          · omega
          · exact pclos_all (l := l) (G := fun j => listed.getD j false = true) hcl 3 o hdeps j h1
      have hsame := zsame hf (vals := vals) (a0 := a0) ho hi0 hdeps hcl
      have hcnt := pcnt_set (listed := listed) (by omega) hi0 l.length hil
      have hexec := zexec hns ho hsame (fun x hx => by cases x <;> first | rfl | exact absurd rfl (hx _))
      have hcl2 : ∀ j x, l[j]? = some x → (listed.setIfInBounds i true).getD j false = true → ∀ d ∈ pdeps x, (listed.setIfInBounds i true).getD d false = true := by
        intro j x hx hj d hd
        rw [pget_set (by omega)] at hj ⊢
        split
        · rfl
        · by_cases hji : j = i
          · subst hji
            rw [ho] at hx
            obtain rfl := Option.some.inj hx
            exact hdeps d hd
          · rw [if_neg hji] at hj
            exact hcl j x hx hj d hd
      -- what follows behind the operation
      have hnext : ∀ v w', (i = c → Le2 w w') → (i ≠ c → Le1 w w') → (i < m → ∀ w2, (if i = c then Le1 w' w2 else Le2 w' w2) → (Rs i) (dv l vals i) v w2) → (m ≤ i → v = zv i) →
          wpAny P .any l.toArray Q fuel (listed.setIfInBounds i true) ((pframe l (listed.getD · false) vals l.length a0).put o.dst v) w' := by
        intro v w' hc2 hc1 hRv hZv
        have hx2 : Le2 w w' := by
          by_cases e : i = c
          · exact hc2 e
          · exact h12 (hc1 e)
        have hp := zput hf (vals := vals) (a0 := a0) (D := ((listed.setIfInBounds i true).getD · false)) (D' := (listed.getD · false)) ho (by simp only [pget_set (show i < listed.size by omega)]; simp) hi0 (fun k hk => by simp only [pget_set (show i < listed.size by omega)]; rw [if_neg hk]) v
        rw [hp]
        refine ih _ _ w' (by simpa using hs) (by omega) (fun j hj hjl => ?_) hcl2 (fun h => ?_) (H2.trans hx hx2) (fun j hj hjd => ?_) (fun j h1 h2 hjd => ?_)
        · rw [pget_set (by omega), if_neg (by omega)]; exact hu j hj hjl
        · rw [pget_set (by omega)] at h
          by_cases e : c = i
          · rw [if_pos e] at h; cases h
          · rw [if_neg e] at h
            exact H1.trans (hx1 h) (hc1 (Ne.symm e))
        · have hjl : j < l.length := by omega
          have hback := (hf j _ (List.getElem?_eq_getElem hjl)).back
          have hld : ldeps l j = pdeps l[j] := by simp [ldeps, List.getElem?_eq_getElem hjl]
          by_cases hji : j = i
          · subst hji
            simp only [if_true]
            rw [dv_congr (vals' := vals) (fun d hd => by
              rw [hld] at hd
              have := hback d hd
              rw [if_neg (by omega)])]
            intro w2 hw2
            refine hRv hj w2 ?_
            by_cases e : j = c
            · rw [if_pos e]
              rw [pget_set (by omega), if_pos e.symm] at hw2
              exact hw2
            · rw [if_neg e]
              exact LtC.le2 (Le1 := Le1) (Le2 := Le2) h12 hw2
          · simp only [if_neg hji]
            rw [pget_set (by omega), if_neg hji] at hjd
            rw [dv_congr (vals' := vals) (fun d hd => by
              rw [hld] at hd
              have := hcl j _ (List.getElem?_eq_getElem hjl) hjd d hd
              rw [if_neg (fun e => by subst e; rw [hi0] at this; cases this)])]
            intro w2 hw2
            refine hR j hj hjd w2 ?_
            rw [pget_set (by omega)] at hw2
            by_cases e : c = i
            · rw [if_pos e] at hw2
              rw [show listed.getD c false = false by rw [e]; exact hi0]
              exact H2.trans hx2 (h12 hw2)
            · rw [if_neg e] at hw2
              exact LtC.trans1 (Le1 := Le1) (Le2 := Le2) H1 H2 h12 (hc1 (Ne.symm e)) hw2
        · by_cases hji : j = i
          · subst hji; simp only [if_true]; exact hZv h1
          · simp only [if_neg hji]
            rw [pget_set (by omega), if_neg hji] at hjd
            exact hV j h1 h2 hjd
      unfold wpOp
      have hgo : l.toArray[i]? = some o := by simpa using ho
      rw [hgo]
      simp only []
      by_cases him : i < m
      · have hob1 := hob i o him ho vals w (by
          by_cases e : i = c
          · rw [if_pos e]; exact hx1 (by rw [← e]; exact hi0)
          · rw [if_neg e]; exact hx) (fun j hj => hR j (by have := F.back j hj; omega) (hdeps j hj) w (LtC.refl H1 H2 _ w))
        unfold ParObC at hob1
        have hwant : Region.wanted o (yielded l.toArray (pframe l (listed.getD · false) vals l.length a0).tmps) = Region.wanted o (yielded l.toArray (pframe l (fun _ => true) vals i a0).tmps) := by
          cases hg : o.guard with
          | none => simp [Region.wanted, hg]
          | some g =>
            obtain ⟨g, want⟩ := g
            have : yielded l.toArray (pframe l (listed.getD · false) vals l.length a0).tmps g = yielded l.toArray (pframe l (fun _ => true) vals i a0).tmps g := by
              unfold yielded
              cases hgd : (l[g]?).bind (·.dst) with
              | none => simp [hgd]
              | some t =>
                have hs2 := hsame t (List.mem_append_right _ (by rw [hg]; simp [hgd]))
                simp only [List.getElem?_toArray, hgd, Option.bind_some]
                rw [pget_inj ((pframe_size l.length).trans (pframe_size i).symm) hs2]
            simp only [Region.wanted, hg, this]
        rw [hwant]
        split
        · rename_i hwt
          rw [if_pos hwt] at hob1
          left
          refine wp_of_yields (Y := ParPostC (decide (i = c)) Le1 Le2 (Rs i (dv l vals i)) w) ?_ (fun v w' hy => by
            unfold ParPostC at hy
            by_cases e : i = c
            · rw [if_pos (by simpa using e)] at hy
              exact hnext v w' (fun _ => hy.1) (fun k => absurd e k) (fun _ w2 h2 => hy.2 w2 (by rw [if_pos e] at h2; exact h2)) (fun h => by omega)
            · rw [if_neg (by simpa using e)] at hy
              exact hnext v w' (fun k => absurd k e) (fun _ => hy.1) (fun _ w2 h2 => hy.2 w2 (by rw [if_neg e] at h2; exact h2)) (fun h => by omega))
          unfold yields at hob1 ⊢
          rw [hexec]
          exact hob1
        · rename_i hwt
          rw [if_neg hwt] at hob1
          exact hnext undef w (fun _ => H2.refl w) (fun _ => H1.refl w) (fun _ w2 h2 => hob1 w2 (by split at h2; exact h12 h2; exact h2)) (fun h => by omega)
      · have hg := F.gd (by omega)
        rw [if_pos (by simp [Region.wanted, hg])]
        left
        have hz := hZ i o (by omega) hin ho vals w (fun d hd => hV d (F.lazy (by omega) hin d hd) (by have := F.back d hd; omega) (hdeps d hd))
        refine wp_of_yields (Y := fun v w' => v = zv i ∧ w' = w) ?_ ?_
        · unfold yields at hz ⊢
          rw [hexec]
          exact hz
        · rintro v w' ⟨rfl, rfl⟩
          exact hnext _ _ (fun _ => H2.refl _) (fun _ => H1.refl _) (fun h => by omega) (fun _ => rfl)

theorem wp_parZC (c : Nat) (H1 : IsLe Le1) (H2 : IsLe Le2) (h12 : ∀ {a b}, Le1 a b → Le2 a b) {id : Nat} {l : List Oper} (p : List Nat) (m n : Nat) {a : Act} {w : World} (Rs : Nat → LSpec) (zv : Nat → Value) (hm : P.follows .mixedOrders = true) (hp : permOk p l = true) (hok : parOkZ (permL p l) m n = true)
    (hcm : c < m) (hob : ParAllC c Le1 Le2 P w (permL p l) Rs 0 ((permL p l).take m) (fun _ => a))
    (hZ : ZAll P zv m (((permL p l).drop m).take (n - m)) (fun vals => ParEnd vals 0 ((permL p l).take m) a))
    (hfin : ∀ vals w', Le2 w w' → ParFactsG (permL p l) Rs vals w' 0 ((permL p l).take m) → ZEqs zv vals m (((permL p l).drop m).take (n - m)) →
      Y.Shut (ZTail P (fun a w => wpList P l.toArray Q [] a w) ((permL p l).drop n) (ParEnd vals m (((permL p l).drop m).take (n - m)) (ParEnd vals 0 ((permL p l).take m) a)) w')) :
    (Code.region id l.toArray true).wp P Q a w := by
  have h := permOk_facts hp
  have hl := permL_length h
  obtain ⟨hns, hmn, hnl, hf⟩ := parOkZ_at hok
  refine wp_region_any hm ?_
  have hz : ∀ m k, (Array.replicate m false).getD k false = false := by
    intro m k
    simp only [Array.getD_eq_getD_getElem?, Array.getElem?_replicate]
    split <;> rfl
  have hfr : pframe (permL p l) ((Array.replicate (permL p l).length false).getD · false) (fun _ => undef) (permL p l).length a = a := by
    have : ∀ M, pframe (permL p l) ((Array.replicate (permL p l).length false).getD · false) (fun _ => undef) M a = a := by
      intro M
      induction M with
      | zero => rfl
      | succ M ih => simp only [pframe]; rw [hz, if_neg (by simp)]; exact ih
    exact this _
  have hlen : ((permL p l).take m).length = m := by rw [List.length_take]; omega
  have hjoin : ∀ j, m ≤ j → j ≤ n → (permL p l).take j = (permL p l).take m ++ (((permL p l).drop m).take (n - m)).take (j - m) := by
    intro j h1 h2
    rw [List.take_take, Nat.min_eq_left (by omega)]
    have : j = m + (j - m) := by omega
    rw [this, List.take_add]
    congr 2
    omega
  have h1 := par_soundZC c H1 H2 h12 (P := P) (Q := Q) (zv := zv) hok hcm
    (fun i o hi ho vals w' hx hd => by
      have h := parAll_atC ((permL p l).take m) 0 _ hob i o (by rw [List.getElem?_take, if_pos hi]; exact ho) vals w' (by rw [Nat.zero_add]; exact hx) (PDepsG.of hd)
      rw [List.take_take, Nat.min_eq_left (by omega), parEnd_frame i (by omega)] at h
      simp only [Nat.zero_add] at h
      exact h)
    (fun i o hi hin ho vals w' hd => by
      have h := zAll_at _ m _ hZ (i - m) o (by rw [List.getElem?_take, if_pos (by omega), List.getElem?_drop, show m + (i - m) = i by omega]; exact ho) vals w' (ZDeps.of hd)
      have e := parEnd_split vals ((permL p l).take m) ((((permL p l).drop m).take (n - m)).take (i - m)) 0 a
      rw [hlen, Nat.zero_add, ← hjoin i hi (by omega), parEnd_frame i (by omega)] at e
      rw [← e, show m + (i - m) = i by omega] at h
      exact h)
    (fun vals w' hx hf1 hf2 => by
      have e := parEnd_split vals ((permL p l).take m) (((permL p l).drop m).take (n - m)) 0 a
      have hj := hjoin n hmn (Nat.le_refl _)
      rw [show (((permL p l).drop m).take (n - m)).take (n - m) = ((permL p l).drop m).take (n - m) by rw [List.take_take, Nat.min_self]] at hj
      rw [hlen, Nat.zero_add, ← hj, parEnd_frame n (by omega)] at e
      rw [e]
      exact (hfin vals w' hx (parFacts_ofG _ 0 fun i hi => by
        rw [Nat.zero_add]
        exact hf1 i (by rw [List.length_take] at hi; omega)) (zEqs_of _ m fun i hi => hf2 (m + i) (by omega) (by rw [List.length_take, List.length_drop] at hi; omega))).out)
    (pcnt (Array.replicate (permL p l).length false) (permL p l).length) (Array.replicate (permL p l).length false) (fun _ => undef) w.drew (by simp) rfl (fun j _ _ => hz _ j) (fun i o _ h => by rw [hz] at h; cases h) (fun _ => H1.drew (H1.refl w)) (H2.drew (H2.refl w)) (fun i _ h => by rw [hz] at h; cases h) (fun j _ _ h => by rw [hz] at h; cases h)
  rw [hfr] at h1
  have hc : ∀ M, pcnt (Array.replicate (permL p l).length false) M = M := by
    intro M
    induction M with
    | zero => rfl
    | succ M ih => simp only [pcnt]; rw [ih, hz]; simp
  rw [hc, hl] at h1
  have h2 := wpAny_perm (P := P) (Q := Q) h l.length (Array.replicate l.length false) (Array.replicate l.length false) a w.drew (by simp) (by simp) (fun i _ => by rw [hz, hz]) h1
  simpa using h2
end
end Go.Proofs.YtchpbdodlbghaaaGreatDoor
namespace Go.Proofs.YtchpbdodlbghaaaGreatDoor
open Go.RowKit

def Fresh (w : World) (v : Value) (w' : World) : Prop := ∃ g, v = .pointer (some ⟨g, 0, none⟩) ∧ w.heap.size ≤ g ∧ g < w'.heap.size
def ParPostD (b d : Bool) (Le1 Le2 : World → World → Prop) (Rc : Nat → Nat → PSpec) (R : PSpec) (w : World) (v : Value) (w' : World) : Prop :=
  if b = true then Le2 w w' ∧ ∀ w2, Le1 w' w2 → Rc w.heap.size w'.heap.size v w2 else (Le1 w w' ∧ ∀ w2, Le2 w' w2 → R v w2) ∧ (d = true → Fresh w v w')
def ParObD (b d : Bool) (Le1 Le2 : World → World → Prop) (Rc : Nat → Nat → PSpec) (P : Program) (l0 : List Oper) (R : PSpec) (o : Oper) (a : Act) (w : World) : Prop :=
  if Region.wanted o (yielded l0.toArray a.tmps) then yields P o a.eval w (ParPostD b d Le1 Le2 Rc R w) else (b = false ∧ d = false) ∧ ∀ w2, Le2 w w2 → R undef w2
theorem ParObD.plain {Le1 Le2 : World → World → Prop} {Rc : Nat → Nat → PSpec} {P : Program} {l0 : List Oper} {R : PSpec} {o : Oper} {a : Act} {w : World} (hg : o.guard = none) (h : yields P o a.eval w fun v w' => Le1 w w' ∧ ∀ w2, Le2 w' w2 → R v w2) : ParObD false false Le1 Le2 Rc P l0 R o a w := by
  unfold ParObD
  rw [if_pos (by simp [Region.wanted, hg])]
  exact yields_mono h fun v w' k => ⟨k, fun e => by cases e⟩
theorem ParObD.made {Le1 Le2 : World → World → Prop} {Rc : Nat → Nat → PSpec} {P : Program} {l0 : List Oper} {R : PSpec} {o : Oper} {a : Act} {w : World} (hg : o.guard = none) (h : yields P o a.eval w fun v w' => (Le1 w w' ∧ ∀ w2, Le2 w' w2 → R v w2) ∧ Fresh w v w') : ParObD false true Le1 Le2 Rc P l0 R o a w := by
  unfold ParObD
  rw [if_pos (by simp [Region.wanted, hg])]
  exact yields_mono h fun v w' k => ⟨k.1, fun _ => k.2⟩
theorem ParObD.call {Le1 Le2 : World → World → Prop} {Rc : Nat → Nat → PSpec} {P : Program} {l0 : List Oper} {R : PSpec} {o : Oper} {a : Act} {w : World} (hg : o.guard = none) (h : yields P o a.eval w fun v w' => Le2 w w' ∧ ∀ w2, Le1 w' w2 → Rc w.heap.size w'.heap.size v w2) : ParObD true false Le1 Le2 Rc P l0 R o a w := by
  unfold ParObD
  rw [if_pos (by simp [Region.wanted, hg])]
  exact h
def ParObsD (c q : Nat) (Le1 Le2 : World → World → Prop) (Rc : Nat → Nat → PSpec) (P : Program) (w0 : World) (l : List Oper) (Rs : Nat → LSpec) (a : Act) (i : Nat) (o : Oper) : Prop :=
  ∀ (vals : Nat → Value) (w : World), (if i = c then Le1 w0 w else Le2 w0 w) → (∀ j ∈ pdeps o, Rs j (dv l vals j) (vals j) w) → ParObD (decide (i = c)) (decide (i = q)) Le1 Le2 Rc P l (Rs i (dv l vals i)) o (pframe l (fun _ => true) vals i a) w
def ParAllD (c q : Nat) (Le1 Le2 : World → World → Prop) (Rc : Nat → Nat → PSpec) (P : Program) (w0 : World) (l0 : List Oper) (Rs : Nat → LSpec) : Nat → List Oper → ((Nat → Value) → Act) → Prop
  | _, [], _ => True
  | i, o :: r, F => (∀ (vals : Nat → Value) (w : World), (if i = c then Le1 w0 w else Le2 w0 w) → PDepsG l0 Rs vals w (pdeps o) → ParObD (decide (i = c)) (decide (i = q)) Le1 Le2 Rc P l0 (Rs i (dv l0 vals i)) o (F vals) w) ∧
      ParAllD c q Le1 Le2 Rc P w0 l0 Rs (i + 1) r (fun vals => (F vals).put o.dst (vals i))
section
variable {P : Program} {Q : Exit → Act → World → Prop} {Le1 Le2 : World → World → Prop} {Rc : Nat → Nat → PSpec}
theorem parAll_atD {c q : Nat} {w0 : World} {l0 : List Oper} {Rs : Nat → LSpec} : ∀ (r : List Oper) (k : Nat) (F : (Nat → Value) → Act), ParAllD c q Le1 Le2 Rc P w0 l0 Rs k r F → ∀ (j : Nat) (o : Oper), r[j]? = some o →
    ∀ (vals : Nat → Value) (w : World), (if k + j = c then Le1 w0 w else Le2 w0 w) → PDepsG l0 Rs vals w (pdeps o) → ParObD (decide (k + j = c)) (decide (k + j = q)) Le1 Le2 Rc P l0 (Rs (k + j) (dv l0 vals (k + j))) o (ParEnd vals k (r.take j) (F vals)) w
  | [], _, _, _, j, o, h => by simp at h
  | x :: r, k, F, h, 0, o, ho => by
    simp at ho
    subst ho
    exact fun vals w hx hd => h.1 vals w hx hd
  | x :: r, k, F, h, j + 1, o, ho => by
    intro vals w hx hd
    have := parAll_atD r (k + 1) _ h.2 j o (by simpa using ho) vals w (by rw [show k + 1 + j = k + (j + 1) from by omega]; exact hx) hd
    rw [show k + 1 + j = k + (j + 1) from by omega] at this
    exact this
def ApartD (c q : Nat) (Rc : Nat → Nat → PSpec) (vals : Nat → Value) (w : World) : Prop := ∃ lo hi g, Rc lo hi (vals c) w ∧ hi ≤ w.heap.size ∧ vals q = .pointer (some ⟨g, 0, none⟩) ∧ g < w.heap.size ∧ (g < lo ∨ hi ≤ g)
def GhostD (c q : Nat) (Le1 : World → World → Prop) (Rc : Nat → Nat → PSpec) (listed : Array Bool) (vals : Nat → Value) (w : World) : Prop :=
  (listed.getD c false = false → listed.getD q false = true → ∃ g, vals q = .pointer (some ⟨g, 0, none⟩) ∧ g < w.heap.size) ∧
  (listed.getD c false = true → ∃ lo hi, hi ≤ w.heap.size ∧ (∀ w2, Le1 w w2 → Rc lo hi (vals c) w2) ∧ (listed.getD q false = true → ∃ g, vals q = .pointer (some ⟨g, 0, none⟩) ∧ g < w.heap.size ∧ (g < lo ∨ hi ≤ g)))
theorem par_soundZD (c q : Nat) (hcq : q ≠ c) (hsz : ∀ {a b}, Le2 a b → a.heap.size ≤ b.heap.size) (H1 : IsLe Le1) (H2 : IsLe Le2) (h12 : ∀ {a b}, Le1 a b → Le2 a b) {l : List Oper} {m n : Nat} (hok : parOkZ l m n = true) {Rs : Nat → LSpec} {zv : Nat → Value} {a0 : Act} {w0 : World}
    (hcm : c < m) (hqm : q < m) (hRc : ∀ ds v w lo hi, hi ≤ w.heap.size → Rc lo hi v w → Rs c ds v w) (hob : ∀ i o, i < m → l[i]? = some o → ParObsD c q Le1 Le2 Rc P w0 l Rs a0 i o) (hZ : ∀ i o, m ≤ i → i < n → l[i]? = some o → ZOb P l zv a0 i o)
    (hfin : ∀ vals w', Le2 w0 w' → ApartD c q Rc vals w' → (∀ i, i < m → (Rs i) (dv l vals i) (vals i) w') → (∀ j, m ≤ j → j < n → vals j = zv j) → ZTail P (fun a w => Q .normal a w) (l.drop n) (pframe l (fun _ => true) vals n a0) w') :
    ∀ (fuel : Nat) (listed : Array Bool) (vals : Nat → Value) (w : World), listed.size = l.length → pcnt listed l.length = fuel → (∀ j, n ≤ j → j < l.length → listed.getD j false = false) →
    (∀ j x, l[j]? = some x → listed.getD j false = true → ∀ d ∈ pdeps x, listed.getD d false = true) →
    (listed.getD c false = false → Le1 w0 w) → Le2 w0 w → (∀ i, i < m → listed.getD i false = true → ∀ w2, LtC (listed.getD c false) Le1 Le2 w w2 → (Rs i) (dv l vals i) (vals i) w2) → (∀ j, m ≤ j → j < n → listed.getD j false = true → vals j = zv j) → GhostD c q Le1 Rc listed vals w →
    wpAny P .any l.toArray Q fuel listed (pframe l (listed.getD · false) vals l.length a0) w := by
  obtain ⟨hns, hmn, hnl, hf⟩ := parOkZ_at hok
  -- once all of the first are done
  have toTail : ∀ (fuel : Nat) (listed : Array Bool) (vals : Nat → Value) (w : World), listed.size = l.length → pcnt listed l.length = fuel → (∀ j, n ≤ j → j < l.length → listed.getD j false = false) →
      (∀ j x, l[j]? = some x → listed.getD j false = true → ∀ d ∈ pdeps x, listed.getD d false = true) →
      (listed.getD c false = false → Le1 w0 w) → Le2 w0 w → (∀ i, i < m → listed.getD i false = true → ∀ w2, LtC (listed.getD c false) Le1 Le2 w w2 → (Rs i) (dv l vals i) (vals i) w2) → (∀ j, m ≤ j → j < n → listed.getD j false = true → vals j = zv j) → GhostD c q Le1 Rc listed vals w → (∀ j, j < m → listed.getD j false = true) →
      wpAny P .any l.toArray Q fuel listed (pframe l (listed.getD · false) vals l.length a0) w := by
    intro fuel listed vals w hs hc hu hcl hx1 hx hR hV hD hpar
    have e1 : pframe l (listed.getD · false) vals l.length a0 = pframe l (listed.getD · false) (fun j => if m ≤ j ∧ j < n then zv j else vals j) l.length a0 :=
      pframe_congr (fun _ _ => rfl) (fun j hj hl => by
        split
        · rename_i h; exact hV j h.1 h.2 hl
        · rfl)
    rw [e1]
    refine tailZ hok hZ fuel n listed _ w hs hc (Nat.le_refl _) hnl hpar (fun j h1 h2 => by omega) hu hcl (fun j h1 h2 => by rw [if_pos ⟨h1, h2⟩]) ?_
    have e2 : pframe l (fun j => decide (j < n) || listed.getD j false) (fun j => if m ≤ j ∧ j < n then zv j else vals j) l.length a0 = pframe l (fun _ => true) (fun j => if m ≤ j ∧ j < n then zv j else vals j) n a0 := by
      have : ∀ M, n ≤ M → M ≤ l.length → pframe l (fun j => decide (j < n) || listed.getD j false) (fun j => if m ≤ j ∧ j < n then zv j else vals j) M a0 = pframe l (fun _ => true) (fun j => if m ≤ j ∧ j < n then zv j else vals j) n a0 := by
        intro M
        induction M with
        | zero => intro h _; have : n = 0 := by omega
                  subst this; rfl
        | succ M ihm =>
          intro h hM
          by_cases hm : n ≤ M
          · simp only [pframe]
            rw [if_neg (by rw [hu M hm (by omega)]; simp; omega)]
            exact ihm hm (by omega)
          · have : n = M + 1 := by omega
            subst this
            exact pframe_congr (fun k hk => by simp [hk]) (fun _ _ _ => rfl)
      exact this l.length hnl (Nat.le_refl _)
    rw [e2]
    exact hfin (fun j => if m ≤ j ∧ j < n then zv j else vals j) w hx (by
      obtain ⟨lo, hi, h1, h2, h3⟩ := hD.2 (hpar c hcm)
      obtain ⟨g, h4, h5, h6⟩ := h3 (hpar q hqm)
      refine ⟨lo, hi, g, ?_, h1, ?_, h5, h6⟩
      · dsimp only; rw [if_neg (by omega)]; exact h2 w (H1.refl w)
      · dsimp only; rw [if_neg (by omega)]; exact h4) (fun i hi => by
      have hil : i < l.length := by omega
      rw [if_neg (by omega), dv_congr (vals' := vals) (fun d hd => by
        have := (hf i _ (List.getElem?_eq_getElem hil)).back d (by simpa [ldeps, List.getElem?_eq_getElem hil] using hd)
        rw [if_neg (by omega)])]
      exact hR i hi (hpar i hi) w (LtC.refl H1 H2 _ w)) (fun j h1 h2 => by rw [if_pos ⟨h1, h2⟩])
  intro fuel
  induction fuel with
  | zero =>
    intro listed vals w hs hc hu hcl hx1 hx hR hV hD
    exact toTail 0 listed vals w hs hc hu hcl hx1 hx hR hV hD (fun j hj => pcnt_zero hc j (by omega))
  | succ fuel ih =>
    intro listed vals w hs hc hu hcl hx1 hx hR hV hD
    by_cases hpar : ∀ j, j < m → listed.getD j false = true
    · exact toTail _ listed vals w hs hc hu hcl hx1 hx hR hV hD hpar
    · obtain ⟨k, hk, h0, hall⟩ := par_first (listed := listed) (N := l.length) (by omega)
      have hready := zmin hf hs hk h0 hall
      refine ⟨fun hnil => (by rw [hnil] at hready; cases hready), fun i hi => ?_⟩
      obtain ⟨hil, hi0, o, ho, hdeps⟩ := (par_ready hs).1 hi
      have F := hf i o ho
      have hin : i < n := by
        rcases Nat.lt_or_ge i n with hlt | hge
        · exact hlt
        · refine absurd (fun j hj => ?_) hpar
          rcases F.tail hge j (by omega) with h1 | h1
          · omega
          · exact pclos_all (l := l) (G := fun j => listed.getD j false = true) hcl 3 o hdeps j h1
      have hsame := zsame hf (vals := vals) (a0 := a0) ho hi0 hdeps hcl
      have hcnt := pcnt_set (listed := listed) (by omega) hi0 l.length hil
      have hexec := zexec hns ho hsame (fun x hx => by cases x <;> first | rfl | exact absurd rfl (hx _))
      have hcl2 : ∀ j x, l[j]? = some x → (listed.setIfInBounds i true).getD j false = true → ∀ d ∈ pdeps x, (listed.setIfInBounds i true).getD d false = true := by
        intro j x hx hj d hd
        rw [pget_set (by omega)] at hj ⊢
        split
        · rfl
        · by_cases hji : j = i
          · subst hji
            rw [ho] at hx
            obtain rfl := Option.some.inj hx
            exact hdeps d hd
          · rw [if_neg hji] at hj
            exact hcl j x hx hj d hd
      -- what follows behind the operation
      have hnext : ∀ v w', (i = c → Le2 w w') → (i ≠ c → Le1 w w') → (i < m → ∀ w2, (if i = c then Le1 w' w2 else Le2 w' w2) → (Rs i) (dv l vals i) v w2) → (m ≤ i → v = zv i) → (i = c → ∀ w2, Le1 w' w2 → Rc w.heap.size w'.heap.size v w2) → (i = q → Fresh w v w') →
          wpAny P .any l.toArray Q fuel (listed.setIfInBounds i true) ((pframe l (listed.getD · false) vals l.length a0).put o.dst v) w' := by
        intro v w' hc2 hc1 hRv hZv hRcv hFr
        have hx2 : Le2 w w' := by
          by_cases e : i = c
          · exact hc2 e
          · exact h12 (hc1 e)
        have hp := zput hf (vals := vals) (a0 := a0) (D := ((listed.setIfInBounds i true).getD · false)) (D' := (listed.getD · false)) ho (by simp only [pget_set (show i < listed.size by omega)]; simp) hi0 (fun k hk => by simp only [pget_set (show i < listed.size by omega)]; rw [if_neg hk]) v
        rw [hp]
        refine ih _ _ w' (by simpa using hs) (by omega) (fun j hj hjl => ?_) hcl2 (fun h => ?_) (H2.trans hx hx2) (fun j hj hjd => ?_) (fun j h1 h2 hjd => ?_) ?_
        · rw [pget_set (by omega), if_neg (by omega)]; exact hu j hj hjl
        · rw [pget_set (by omega)] at h
          by_cases e : c = i
          · rw [if_pos e] at h; cases h
          · rw [if_neg e] at h
            exact H1.trans (hx1 h) (hc1 (Ne.symm e))
        · have hjl : j < l.length := by omega
          have hback := (hf j _ (List.getElem?_eq_getElem hjl)).back
          have hld : ldeps l j = pdeps l[j] := by simp [ldeps, List.getElem?_eq_getElem hjl]
          by_cases hji : j = i
          · subst hji
            simp only [if_true]
            rw [dv_congr (vals' := vals) (fun d hd => by
              rw [hld] at hd
              have := hback d hd
              rw [if_neg (by omega)])]
            intro w2 hw2
            refine hRv hj w2 ?_
            by_cases e : j = c
            · rw [if_pos e]
              rw [pget_set (by omega), if_pos e.symm] at hw2
              exact hw2
            · rw [if_neg e]
              exact LtC.le2 (Le1 := Le1) (Le2 := Le2) h12 hw2
          · simp only [if_neg hji]
            rw [pget_set (by omega), if_neg hji] at hjd
            rw [dv_congr (vals' := vals) (fun d hd => by
              rw [hld] at hd
              have := hcl j _ (List.getElem?_eq_getElem hjl) hjd d hd
              rw [if_neg (fun e => by subst e; rw [hi0] at this; cases this)])]
            intro w2 hw2
            refine hR j hj hjd w2 ?_
            rw [pget_set (by omega)] at hw2
            by_cases e : c = i
            · rw [if_pos e] at hw2
              rw [show listed.getD c false = false by rw [e]; exact hi0]
              exact H2.trans hx2 (h12 hw2)
            · rw [if_neg e] at hw2
              exact LtC.trans1 (Le1 := Le1) (Le2 := Le2) H1 H2 h12 (hc1 (Ne.symm e)) hw2
        · by_cases hji : j = i
          · subst hji; simp only [if_true]; exact hZv h1
          · simp only [if_neg hji]
            rw [pget_set (by omega), if_neg hji] at hjd
            exact hV j h1 h2 hjd
        · have hmon := hsz hx2
          unfold GhostD
          rw [pget_set (show i < listed.size by omega), pget_set (show i < listed.size by omega)]
          refine ⟨fun h1 h2 => ?_, fun h1 => ?_⟩
          · by_cases e : c = i
            · rw [if_pos e] at h1; cases h1
            · rw [if_neg e] at h1
              by_cases e2 : q = i
              · obtain ⟨g, k1, k2, k3⟩ := hFr e2.symm
                exact ⟨g, by dsimp only; rw [if_pos e2]; exact k1, k3⟩
              · rw [if_neg e2] at h2
                obtain ⟨g, k1, k2⟩ := hD.1 h1 h2
                exact ⟨g, by dsimp only; rw [if_neg e2]; exact k1, by omega⟩
          · by_cases e : c = i
            · refine ⟨w.heap.size, w'.heap.size, Nat.le_refl _, fun w2 h2 => by dsimp only; rw [if_pos e]; exact hRcv e.symm w2 h2, fun h2 => ?_⟩
              have e2 : q ≠ i := fun e2 => hcq (e2.trans e.symm)
              rw [if_neg e2] at h2
              obtain ⟨g, k1, k2⟩ := hD.1 (by rw [e]; exact hi0) h2
              exact ⟨g, by dsimp only; rw [if_neg e2]; exact k1, by omega, .inl k2⟩
            · rw [if_neg e] at h1
              obtain ⟨lo, hi, k1, k2, k3⟩ := hD.2 h1
              refine ⟨lo, hi, by omega, fun w2 h2 => by dsimp only; rw [if_neg e]; exact k2 w2 (H1.trans (hc1 (Ne.symm e)) h2), fun h2 => ?_⟩
              by_cases e2 : q = i
              · obtain ⟨g, j1, j2, j3⟩ := hFr e2.symm
                exact ⟨g, by dsimp only; rw [if_pos e2]; exact j1, j3, .inr (by omega)⟩
              · rw [if_neg e2] at h2
                obtain ⟨g, j1, j2, j3⟩ := k3 h2
                exact ⟨g, by dsimp only; rw [if_neg e2]; exact j1, by omega, j3⟩
      unfold wpOp
      have hgo : l.toArray[i]? = some o := by simpa using ho
      rw [hgo]
      simp only []
      by_cases him : i < m
      · have hob1 := hob i o him ho vals w (by
          by_cases e : i = c
          · rw [if_pos e]; exact hx1 (by rw [← e]; exact hi0)
          · rw [if_neg e]; exact hx) (fun j hj => hR j (by have := F.back j hj; omega) (hdeps j hj) w (LtC.refl H1 H2 _ w))
        unfold ParObD at hob1
        have hwant : Region.wanted o (yielded l.toArray (pframe l (listed.getD · false) vals l.length a0).tmps) = Region.wanted o (yielded l.toArray (pframe l (fun _ => true) vals i a0).tmps) := by
          cases hg : o.guard with
          | none => simp [Region.wanted, hg]
          | some g =>
            obtain ⟨g, want⟩ := g
            have : yielded l.toArray (pframe l (listed.getD · false) vals l.length a0).tmps g = yielded l.toArray (pframe l (fun _ => true) vals i a0).tmps g := by
              unfold yielded
              cases hgd : (l[g]?).bind (·.dst) with
              | none => simp [hgd]
              | some t =>
                have hs2 := hsame t (List.mem_append_right _ (by rw [hg]; simp [hgd]))
                simp only [List.getElem?_toArray, hgd, Option.bind_some]
                rw [pget_inj ((pframe_size l.length).trans (pframe_size i).symm) hs2]
            simp only [Region.wanted, hg, this]
        rw [hwant]
        split
        · rename_i hwt
          rw [if_pos hwt] at hob1
          left
          refine wp_of_yields (Y := ParPostD (decide (i = c)) (decide (i = q)) Le1 Le2 Rc (Rs i (dv l vals i)) w) ?_ (fun v w' hy => by
            unfold ParPostD at hy
            by_cases e : i = c
            · rw [if_pos (by simpa using e)] at hy
              exact hnext v w' (fun _ => hy.1) (fun k => absurd e k) (fun _ w2 h2 => by
                rw [if_pos e] at h2
                subst e
                exact hRc _ _ _ _ _ (hsz (h12 h2)) (hy.2 w2 h2)) (fun h => by omega) (fun _ w2 h2 => hy.2 w2 h2) (fun e2 => absurd (e2.symm.trans e) hcq)
            · rw [if_neg (by simpa using e)] at hy
              exact hnext v w' (fun k => absurd k e) (fun _ => hy.1.1) (fun _ w2 h2 => hy.1.2 w2 (by rw [if_neg e] at h2; exact h2)) (fun h => by omega) (fun k => absurd k e) (fun e2 => hy.2 (by simpa using e2)))
          unfold yields at hob1 ⊢
          rw [hexec]
          exact hob1
        · rename_i hwt
          rw [if_neg hwt] at hob1
          exact hnext undef w (fun _ => H2.refl w) (fun _ => H1.refl w) (fun _ w2 h2 => hob1.2 w2 (by split at h2; exact h12 h2; exact h2)) (fun h => by omega) (fun e => by have := hob1.1.1; simp [e] at this) (fun e => by have := hob1.1.2; simp [e] at this)
      · have hg := F.gd (by omega)
        rw [if_pos (by simp [Region.wanted, hg])]
        left
        have hz := hZ i o (by omega) hin ho vals w (fun d hd => hV d (F.lazy (by omega) hin d hd) (by have := F.back d hd; omega) (hdeps d hd))
        refine wp_of_yields (Y := fun v w' => v = zv i ∧ w' = w) ?_ ?_
        · unfold yields at hz ⊢
          rw [hexec]
          exact hz
        · rintro v w' ⟨rfl, rfl⟩
          exact hnext _ _ (fun _ => H2.refl _) (fun _ => H1.refl _) (fun h => by omega) (fun _ => rfl) (fun e => by omega) (fun e => by omega)

theorem wp_parZD (c q : Nat) (Rc : Nat → Nat → PSpec) (hcq : q ≠ c) (hsz : ∀ {a b}, Le2 a b → a.heap.size ≤ b.heap.size) (H1 : IsLe Le1) (H2 : IsLe Le2) (h12 : ∀ {a b}, Le1 a b → Le2 a b) {id : Nat} {l : List Oper} (p : List Nat) (m n : Nat) {a : Act} {w : World} (Rs : Nat → LSpec) (zv : Nat → Value) (hm : P.follows .mixedOrders = true) (hp : permOk p l = true) (hok : parOkZ (permL p l) m n = true)
    (hcm : c < m) (hqm : q < m) (hRc : ∀ ds v w lo hi, hi ≤ w.heap.size → Rc lo hi v w → Rs c ds v w) (hob : ParAllD c q Le1 Le2 Rc P w (permL p l) Rs 0 ((permL p l).take m) (fun _ => a))
    (hZ : ZAll P zv m (((permL p l).drop m).take (n - m)) (fun vals => ParEnd vals 0 ((permL p l).take m) a))
    (hfin : ∀ vals w', Le2 w w' → ApartD c q Rc vals w' → ParFactsG (permL p l) Rs vals w' 0 ((permL p l).take m) → ZEqs zv vals m (((permL p l).drop m).take (n - m)) →
      Y.Shut (ZTail P (fun a w => wpList P l.toArray Q [] a w) ((permL p l).drop n) (ParEnd vals m (((permL p l).drop m).take (n - m)) (ParEnd vals 0 ((permL p l).take m) a)) w')) :
    (Code.region id l.toArray true).wp P Q a w := by
  have h := permOk_facts hp
  have hl := permL_length h
  obtain ⟨hns, hmn, hnl, hf⟩ := parOkZ_at hok
  refine wp_region_any hm ?_
  have hz : ∀ m k, (Array.replicate m false).getD k false = false := by
    intro m k
    simp only [Array.getD_eq_getD_getElem?, Array.getElem?_replicate]
    split <;> rfl
  have hfr : pframe (permL p l) ((Array.replicate (permL p l).length false).getD · false) (fun _ => undef) (permL p l).length a = a := by
    have : ∀ M, pframe (permL p l) ((Array.replicate (permL p l).length false).getD · false) (fun _ => undef) M a = a := by
      intro M
      induction M with
      | zero => rfl
      | succ M ih => simp only [pframe]; rw [hz, if_neg (by simp)]; exact ih
    exact this _
  have hlen : ((permL p l).take m).length = m := by rw [List.length_take]; omega
  have hjoin : ∀ j, m ≤ j → j ≤ n → (permL p l).take j = (permL p l).take m ++ (((permL p l).drop m).take (n - m)).take (j - m) := by
    intro j h1 h2
    rw [List.take_take, Nat.min_eq_left (by omega)]
    have : j = m + (j - m) := by omega
    rw [this, List.take_add]
    congr 2
    omega
  have h1 := par_soundZD c q hcq hsz H1 H2 h12 (P := P) (Q := Q) (zv := zv) (Rc := Rc) hok hcm hqm hRc
    (fun i o hi ho vals w' hx hd => by
      have h := parAll_atD ((permL p l).take m) 0 _ hob i o (by rw [List.getElem?_take, if_pos hi]; exact ho) vals w' (by rw [Nat.zero_add]; exact hx) (PDepsG.of hd)
      rw [List.take_take, Nat.min_eq_left (by omega), parEnd_frame i (by omega)] at h
      simp only [Nat.zero_add] at h
      exact h)
    (fun i o hi hin ho vals w' hd => by
      have h := zAll_at _ m _ hZ (i - m) o (by rw [List.getElem?_take, if_pos (by omega), List.getElem?_drop, show m + (i - m) = i by omega]; exact ho) vals w' (ZDeps.of hd)
      have e := parEnd_split vals ((permL p l).take m) ((((permL p l).drop m).take (n - m)).take (i - m)) 0 a
      rw [hlen, Nat.zero_add, ← hjoin i hi (by omega), parEnd_frame i (by omega)] at e
      rw [← e, show m + (i - m) = i by omega] at h
      exact h)
    (fun vals w' hx hap hf1 hf2 => by
      have e := parEnd_split vals ((permL p l).take m) (((permL p l).drop m).take (n - m)) 0 a
      have hj := hjoin n hmn (Nat.le_refl _)
      rw [show (((permL p l).drop m).take (n - m)).take (n - m) = ((permL p l).drop m).take (n - m) by rw [List.take_take, Nat.min_self]] at hj
      rw [hlen, Nat.zero_add, ← hj, parEnd_frame n (by omega)] at e
      rw [e]
      exact (hfin vals w' hx hap (parFacts_ofG _ 0 fun i hi => by
        rw [Nat.zero_add]
        exact hf1 i (by rw [List.length_take] at hi; omega)) (zEqs_of _ m fun i hi => hf2 (m + i) (by omega) (by rw [List.length_take, List.length_drop] at hi; omega))).out)
    (pcnt (Array.replicate (permL p l).length false) (permL p l).length) (Array.replicate (permL p l).length false) (fun _ => undef) w.drew (by simp) rfl (fun j _ _ => hz _ j) (fun i o _ h => by rw [hz] at h; cases h) (fun _ => H1.drew (H1.refl w)) (H2.drew (H2.refl w)) (fun i _ h => by rw [hz] at h; cases h) (fun j _ _ h => by rw [hz] at h; cases h) ⟨fun _ h => (by rw [hz] at h; cases h), fun h => (by rw [hz] at h; cases h)⟩
  rw [hfr] at h1
  have hc : ∀ M, pcnt (Array.replicate (permL p l).length false) M = M := by
    intro M
    induction M with
    | zero => rfl
    | succ M ih => simp only [pcnt]; rw [ih, hz]; simp
  rw [hc, hl] at h1
  have h2 := wpAny_perm (P := P) (Q := Q) h l.length (Array.replicate l.length false) (Array.replicate l.length false) a w.drew (by simp) (by simp) (fun i _ => by rw [hz, hz]) h1
  simpa using h2
end
end Go.Proofs.YtchpbdodlbghaaaGreatDoor
