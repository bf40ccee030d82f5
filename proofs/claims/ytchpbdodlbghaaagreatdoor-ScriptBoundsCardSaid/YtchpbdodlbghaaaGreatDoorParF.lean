import Derived.Test.YtchpbdodlbghaaaGreatDoorPar
import Derived.Test.YtchpbdodlbghaaaGreatDoorParH
import Derived.Test.YtchpbdodlbghaaaGreatDoorParZ
namespace Go.Proofs.YtchpbdodlbghaaaGreatDoor
open Go.RowKit

structure IsLe (Le : World → World → Prop) : Prop where
  refl : ∀ w, Le w w
  trans : ∀ {a b c}, Le a b → Le b c → Le a c
  drew : ∀ {a b}, Le a b → Le a b.drew
abbrev LSpec := List Value → PSpec
def ldeps (l : List Oper) (i : Nat) : List Nat := match l[i]? with | some o => pdeps o | none => []
def dv (l : List Oper) (vals : Nat → Value) (i : Nat) : List Value := (ldeps l i).map vals
def ParPostG (Le : World → World → Prop) (R : PSpec) (w : World) (v : Value) (w' : World) : Prop := Le w w' ∧ ∀ w2, Le w' w2 → R v w2
def ParObG (Le : World → World → Prop) (P : Program) (l0 : List Oper) (R : PSpec) (o : Oper) (a : Act) (w : World) : Prop :=
  if Region.wanted o (yielded l0.toArray a.tmps) then yields P o a.eval w (ParPostG Le R w) else ∀ w2, Le w w2 → R undef w2
theorem ParObG.plain {Le : World → World → Prop} {P : Program} {l0 : List Oper} {R : PSpec} {o : Oper} {a : Act} {w : World} (hg : o.guard = none) (h : yields P o a.eval w (ParPostG Le R w)) : ParObG Le P l0 R o a w := by
  unfold ParObG
  rw [if_pos (by simp [Region.wanted, hg])]
  exact h
theorem ParObG.wanted {Le : World → World → Prop} {P : Program} {l0 : List Oper} {R : PSpec} {o : Oper} {a : Act} {w : World} (hg : Region.wanted o (yielded l0.toArray a.tmps) = true) (h : yields P o a.eval w (ParPostG Le R w)) : ParObG Le P l0 R o a w := by
  unfold ParObG
  rw [if_pos hg]
  exact h
theorem ParObG.passed {Le : World → World → Prop} {P : Program} {l0 : List Oper} {R : PSpec} {o : Oper} {a : Act} {w : World} (hg : Region.wanted o (yielded l0.toArray a.tmps) = false) (h : ∀ w2, Le w w2 → R undef w2) : ParObG Le P l0 R o a w := by
  unfold ParObG
  rw [hg, if_neg (by decide)]
  exact h
theorem ParPostG.same {Le : World → World → Prop} (HL : IsLe Le) {R : PSpec} {w : World} {v : Value} (h : ∀ w2, Le w w2 → R v w2) : ParPostG Le R w v w := ⟨HL.refl w, h⟩
def ParObsG (Le : World → World → Prop) (P : Program) (w0 : World) (l : List Oper) (Rs : Nat → LSpec) (a : Act) (i : Nat) (o : Oper) : Prop :=
  ∀ (vals : Nat → Value) (w : World), Le w0 w → (∀ j ∈ pdeps o, Rs j (dv l vals j) (vals j) w) → ParObG Le P l (Rs i (dv l vals i)) o (pframe l (fun _ => true) vals i a) w
def PDepsG (l0 : List Oper) (Rs : Nat → LSpec) (vals : Nat → Value) (w : World) : List Nat → Prop
  | [] => True
  | j :: r => Rs j (dv l0 vals j) (vals j) w ∧ PDepsG l0 Rs vals w r
theorem PDepsG.of {l0 : List Oper} {Rs : Nat → LSpec} {vals : Nat → Value} {w : World} : ∀ {l : List Nat}, (∀ j ∈ l, Rs j (dv l0 vals j) (vals j) w) → PDepsG l0 Rs vals w l
  | [], _ => trivial
  | _ :: _, h => ⟨h _ (List.mem_cons_self ..), PDepsG.of fun j hj => h j (List.mem_cons_of_mem _ hj)⟩
def ParAllG (Le : World → World → Prop) (P : Program) (w0 : World) (l0 : List Oper) (Rs : Nat → LSpec) : Nat → List Oper → ((Nat → Value) → Act) → Prop
  | _, [], _ => True
  | i, o :: r, F => (∀ (vals : Nat → Value) (w : World), Le w0 w → PDepsG l0 Rs vals w (pdeps o) → ParObG Le P l0 (Rs i (dv l0 vals i)) o (F vals) w) ∧
      ParAllG Le P w0 l0 Rs (i + 1) r (fun vals => (F vals).put o.dst (vals i))
def ParFactsG (l0 : List Oper) (Rs : Nat → LSpec) (vals : Nat → Value) (w : World) : Nat → List Oper → Prop
  | _, [] => True
  | i, _ :: r => Rs i (dv l0 vals i) (vals i) w ∧ ParFactsG l0 Rs vals w (i + 1) r
section
variable {P : Program} {Le : World → World → Prop}
theorem parAll_atG {w0 : World} {l0 : List Oper} {Rs : Nat → LSpec} : ∀ (r : List Oper) (k : Nat) (F : (Nat → Value) → Act), ParAllG Le P w0 l0 Rs k r F → ∀ (j : Nat) (o : Oper), r[j]? = some o →
    ∀ (vals : Nat → Value) (w : World), Le w0 w → PDepsG l0 Rs vals w (pdeps o) → ParObG Le P l0 (Rs (k + j) (dv l0 vals (k + j))) o (ParEnd vals k (r.take j) (F vals)) w
  | [], _, _, _, j, o, h => by simp at h
  | x :: r, k, F, h, 0, o, ho => by
    simp at ho
    subst ho
    exact fun vals w hx hd => h.1 vals w hx hd
  | x :: r, k, F, h, j + 1, o, ho => by
    intro vals w hx hd
    have := parAll_atG r (k + 1) _ h.2 j o (by simpa using ho) vals w hx hd
    rw [show k + 1 + j = k + (j + 1) from by omega] at this
    exact this
theorem parFacts_ofG {l0 : List Oper} {Rs : Nat → LSpec} {vals : Nat → Value} {w : World} : ∀ (r : List Oper) (k : Nat), (∀ i, i < r.length → Rs (k + i) (dv l0 vals (k + i)) (vals (k + i)) w) → ParFactsG l0 Rs vals w k r
  | [], _, _ => trivial
  | _ :: r, k, h => ⟨h 0 (by simp), parFacts_ofG r (k + 1) fun i hi => by
      have := h (i + 1) (by simpa using hi)
      rw [show k + (i + 1) = k + 1 + i from by omega] at this
      exact this⟩
end
end Go.Proofs.YtchpbdodlbghaaaGreatDoor

namespace Go.Proofs.YtchpbdodlbghaaaGreatDoor
open Go.RowKit

section
variable {P : Program} {Q : Exit → Act → World → Prop} {Le : World → World → Prop}
theorem dv_congr {l : List Oper} {vals vals' : Nat → Value} {i : Nat} (h : ∀ d ∈ ldeps l i, vals d = vals' d) : dv l vals i = dv l vals' i := List.map_congr_left h
theorem par_soundZG (HL : IsLe Le) {l : List Oper} {m n : Nat} (hok : parOkZ l m n = true) {Rs : Nat → LSpec} {zv : Nat → Value} {a0 : Act} {w0 : World}
    (hob : ∀ i o, i < m → l[i]? = some o → ParObsG Le P w0 l Rs a0 i o) (hZ : ∀ i o, m ≤ i → i < n → l[i]? = some o → ZOb P l zv a0 i o)
    (hfin : ∀ vals w', Le w0 w' → (∀ i, i < m → (Rs i) (dv l vals i) (vals i) w') → (∀ j, m ≤ j → j < n → vals j = zv j) → ZTail P (fun a w => Q .normal a w) (l.drop n) (pframe l (fun _ => true) vals n a0) w') :
    ∀ (fuel : Nat) (listed : Array Bool) (vals : Nat → Value) (w : World), listed.size = l.length → pcnt listed l.length = fuel → (∀ j, n ≤ j → j < l.length → listed.getD j false = false) →
    (∀ j x, l[j]? = some x → listed.getD j false = true → ∀ d ∈ pdeps x, listed.getD d false = true) →
    Le w0 w → (∀ i, i < m → listed.getD i false = true → ∀ w2, Le w w2 → (Rs i) (dv l vals i) (vals i) w2) → (∀ j, m ≤ j → j < n → listed.getD j false = true → vals j = zv j) →
    wpAny P .any l.toArray Q fuel listed (pframe l (listed.getD · false) vals l.length a0) w := by
  obtain ⟨hns, hmn, hnl, hf⟩ := parOkZ_at hok
  -- once all of the first are done
  have toTail : ∀ (fuel : Nat) (listed : Array Bool) (vals : Nat → Value) (w : World), listed.size = l.length → pcnt listed l.length = fuel → (∀ j, n ≤ j → j < l.length → listed.getD j false = false) →
      (∀ j x, l[j]? = some x → listed.getD j false = true → ∀ d ∈ pdeps x, listed.getD d false = true) →
      Le w0 w → (∀ i, i < m → listed.getD i false = true → ∀ w2, Le w w2 → (Rs i) (dv l vals i) (vals i) w2) → (∀ j, m ≤ j → j < n → listed.getD j false = true → vals j = zv j) → (∀ j, j < m → listed.getD j false = true) →
      wpAny P .any l.toArray Q fuel listed (pframe l (listed.getD · false) vals l.length a0) w := by
    intro fuel listed vals w hs hc hu hcl hx hR hV hpar
    have e1 : pframe l (listed.getD · false) vals l.length a0 = pframe l (listed.getD · false) (fun j => if m ≤ j ∧ j < n then zv j else vals j) l.length a0 :=
      pframe_congr (fun _ _ => rfl) (fun j hj hl => by
        split
        · rename_i h; exact hV j h.1 h.2 hl
        · rfl)
    rw [e1]
    refine tailZ hok hZ fuel n listed _ w hs hc (Nat.le_refl _) hnl hpar (fun j h1 h2 => by omega) hu hcl (fun j h1 h2 => by rw [if_pos ⟨h1, h2⟩]) ?_
    have e2 : pframe l (fun j => decide (j < n) || listed.getD j false) (fun j => if m ≤ j ∧ j < n then zv j else vals j) l.length a0 = pframe l (fun _ => true) (fun j => if m ≤ j ∧ j < n then zv j else vals j) n a0 := by
      have : ∀ M, n ≤ M → M ≤ l.length → pframe l (fun j => decide (j < n) || listed.getD j false) (fun j => if m ≤ j ∧ j < n then zv j else vals j) M a0 = pframe l (fun _ => true) (fun j => if m ≤ j ∧ j < n then zv j else vals j) n a0 := by
        intro M
        induction M with
        | zero => intro h _; have : n = 0 := by omega
                  subst this; rfl
        | succ M ihm =>
          intro h hM
          by_cases hm : n ≤ M
          · simp only [pframe]
            rw [if_neg (by rw [hu M hm (by omega)]; simp; omega)]
            exact ihm hm (by omega)
          · have : n = M + 1 := by omega
            subst this
            exact pframe_congr (fun k hk => by simp [hk]) (fun _ _ _ => rfl)
      exact this l.length hnl (Nat.le_refl _)
    rw [e2]
    exact hfin _ w hx (fun i hi => by
      have hil : i < l.length := by omega
      rw [if_neg (by omega), dv_congr (vals' := vals) (fun d hd => by
        have := (hf i _ (List.getElem?_eq_getElem hil)).back d (by simpa [ldeps, List.getElem?_eq_getElem hil] using hd)
        rw [if_neg (by omega)])]
      exact hR i hi (hpar i hi) w (HL.refl w)) (fun j h1 h2 => by rw [if_pos ⟨h1, h2⟩])
  intro fuel
  induction fuel with
  | zero =>
    intro listed vals w hs hc hu hcl hx hR hV
    exact toTail 0 listed vals w hs hc hu hcl hx hR hV (fun j hj => pcnt_zero hc j (by omega))
  | succ fuel ih =>
    intro listed vals w hs hc hu hcl hx hR hV
    by_cases hpar : ∀ j, j < m → listed.getD j false = true
    · exact toTail _ listed vals w hs hc hu hcl hx hR hV hpar
    · obtain ⟨k, hk, h0, hall⟩ := par_first (listed := listed) (N := l.length) (by omega)
      have hready := zmin hf hs hk h0 hall
      refine ⟨fun hnil => (by rw [hnil] at hready; cases hready), fun i hi => ?_⟩
      obtain ⟨hil, hi0, o, ho, hdeps⟩ := (par_ready hs).1 hi
      have F := hf i o ho
      have hin : i < n := by
        rcases Nat.lt_or_ge i n with hlt | hge
        · exact hlt
        · refine absurd (fun j hj => ?_) hpar
          rcases F.tail hge j (by omega) with h1 | h1
          · omega
          · exact pclos_all (l := l) (G := fun j => listed.getD j false = true) hcl 3 o hdeps j h1
      have hsame := zsame hf (vals := vals) (a0 := a0) ho hi0 hdeps hcl
      have hcnt := pcnt_set (listed := listed) (by omega) hi0 l.length hil
      have hexec := zexec hns ho hsame (fun x hx => by cases x <;> first | rfl | exact absurd rfl (hx _))
      have hcl2 : ∀ j x, l[j]? = some x → (listed.setIfInBounds i true).getD j false = true → ∀ d ∈ pdeps x, (listed.setIfInBounds i true).getD d false = true := by
        intro j x hx hj d hd
        rw [pget_set (by omega)] at hj ⊢
        split
        · rfl
        · by_cases hji : j = i
          · subst hji
            rw [ho] at hx
            obtain rfl := Option.some.inj hx
            exact hdeps d hd
          · rw [if_neg hji] at hj
            exact hcl j x hx hj d hd
      -- what follows behind the operation
      have hnext : ∀ v w', Le w w' → (i < m → ∀ w2, Le w' w2 → (Rs i) (dv l vals i) v w2) → (m ≤ i → v = zv i) →
          wpAny P .any l.toArray Q fuel (listed.setIfInBounds i true) ((pframe l (listed.getD · false) vals l.length a0).put o.dst v) w' := by
        intro v w' hx2 hRv hZv
        have hp := zput hf (vals := vals) (a0 := a0) (D := ((listed.setIfInBounds i true).getD · false)) (D' := (listed.getD · false)) ho (by simp only [pget_set (show i < listed.size by omega)]; simp) hi0 (fun k hk => by simp only [pget_set (show i < listed.size by omega)]; rw [if_neg hk]) v
        rw [hp]
        refine ih _ _ w' (by simpa using hs) (by omega) (fun j hj hjl => ?_) hcl2 (HL.trans hx hx2) (fun j hj hjd => ?_) (fun j h1 h2 hjd => ?_)
        · rw [pget_set (by omega), if_neg (by omega)]; exact hu j hj hjl
        · have hjl : j < l.length := by omega
          have hback := (hf j _ (List.getElem?_eq_getElem hjl)).back
          have hld : ldeps l j = pdeps l[j] := by simp [ldeps, List.getElem?_eq_getElem hjl]
          by_cases hji : j = i
          · subst hji
            simp only [if_true]
            rw [dv_congr (vals' := vals) (fun d hd => by
              rw [hld] at hd
              have := hback d hd
              rw [if_neg (by omega)])]
            exact hRv hj
          · simp only [if_neg hji]
            rw [pget_set (by omega), if_neg hji] at hjd
            rw [dv_congr (vals' := vals) (fun d hd => by
              rw [hld] at hd
              have := hcl j _ (List.getElem?_eq_getElem hjl) hjd d hd
              rw [if_neg (fun e => by subst e; rw [hi0] at this; cases this)])]
            exact fun w2 hw2 => hR j hj hjd w2 (HL.trans hx2 hw2)
        · by_cases hji : j = i
          · subst hji; simp only [if_true]; exact hZv h1
          · simp only [if_neg hji]
            rw [pget_set (by omega), if_neg hji] at hjd
            exact hV j h1 h2 hjd
      unfold wpOp
      have hgo : l.toArray[i]? = some o := by simpa using ho
      rw [hgo]
      simp only []
      by_cases him : i < m
      · have hob1 := hob i o him ho vals w hx (fun j hj => hR j (by have := F.back j hj; omega) (hdeps j hj) w (HL.refl w))
        unfold ParObG at hob1
        have hwant : Region.wanted o (yielded l.toArray (pframe l (listed.getD · false) vals l.length a0).tmps) = Region.wanted o (yielded l.toArray (pframe l (fun _ => true) vals i a0).tmps) := by
          cases hg : o.guard with
          | none => simp [Region.wanted, hg]
          | some g =>
            obtain ⟨g, want⟩ := g
            have : yielded l.toArray (pframe l (listed.getD · false) vals l.length a0).tmps g = yielded l.toArray (pframe l (fun _ => true) vals i a0).tmps g := by
              unfold yielded
              cases hgd : (l[g]?).bind (·.dst) with
              | none => simp [hgd]
              | some t =>
                have hs2 := hsame t (List.mem_append_right _ (by rw [hg]; simp [hgd]))
                simp only [List.getElem?_toArray, hgd, Option.bind_some]
                rw [pget_inj ((pframe_size l.length).trans (pframe_size i).symm) hs2]
            simp only [Region.wanted, hg, this]
        rw [hwant]
        split
        · rename_i hwt
          rw [if_pos hwt] at hob1
          left
          refine wp_of_yields (Y := ParPostG Le (Rs i (dv l vals i)) w) ?_ (fun v w' ⟨y1, y2⟩ => hnext v w' y1 (fun _ => y2) (fun h => by omega))
          unfold yields at hob1 ⊢
          rw [hexec]
          exact hob1
        · rename_i hwt
          rw [if_neg hwt] at hob1
          exact hnext undef w (HL.refl w) (fun _ => hob1) (fun h => by omega)
      · have hg := F.gd (by omega)
        rw [if_pos (by simp [Region.wanted, hg])]
        left
        have hz := hZ i o (by omega) hin ho vals w (fun d hd => hV d (F.lazy (by omega) hin d hd) (by have := F.back d hd; omega) (hdeps d hd))
        refine wp_of_yields (Y := fun v w' => v = zv i ∧ w' = w) ?_ ?_
        · unfold yields at hz ⊢
          rw [hexec]
          exact hz
        · rintro v w' ⟨rfl, rfl⟩
          exact hnext _ _ (HL.refl _) (fun h => by omega) (fun _ => rfl)

theorem wp_parZG (HL : IsLe Le) {id : Nat} {l : List Oper} (p : List Nat) (m n : Nat) {a : Act} {w : World} (Rs : Nat → LSpec) (zv : Nat → Value) (hm : P.follows .mixedOrders = true) (hp : permOk p l = true) (hok : parOkZ (permL p l) m n = true)
    (hob : ParAllG Le P w (permL p l) Rs 0 ((permL p l).take m) (fun _ => a))
    (hZ : ZAll P zv m (((permL p l).drop m).take (n - m)) (fun vals => ParEnd vals 0 ((permL p l).take m) a))
    (hfin : ∀ vals w', Le w w' → ParFactsG (permL p l) Rs vals w' 0 ((permL p l).take m) → ZEqs zv vals m (((permL p l).drop m).take (n - m)) →
      ZTail P (fun a w => wpList P l.toArray Q [] a w) ((permL p l).drop n) (ParEnd vals m (((permL p l).drop m).take (n - m)) (ParEnd vals 0 ((permL p l).take m) a)) w') :
    (Code.region id l.toArray true).wp P Q a w := by
  have h := permOk_facts hp
  have hl := permL_length h
  obtain ⟨hns, hmn, hnl, hf⟩ := parOkZ_at hok
  refine wp_region_any hm ?_
  have hz : ∀ m k, (Array.replicate m false).getD k false = false := by
    intro m k
    simp only [Array.getD_eq_getD_getElem?, Array.getElem?_replicate]
    split <;> rfl
  have hfr : pframe (permL p l) ((Array.replicate (permL p l).length false).getD · false) (fun _ => undef) (permL p l).length a = a := by
    have : ∀ M, pframe (permL p l) ((Array.replicate (permL p l).length false).getD · false) (fun _ => undef) M a = a := by
      intro M
      induction M with
      | zero => rfl
      | succ M ih => simp only [pframe]; rw [hz, if_neg (by simp)]; exact ih
    exact this _
  have hlen : ((permL p l).take m).length = m := by rw [List.length_take]; omega
  have hjoin : ∀ j, m ≤ j → j ≤ n → (permL p l).take j = (permL p l).take m ++ (((permL p l).drop m).take (n - m)).take (j - m) := by
    intro j h1 h2
    rw [List.take_take, Nat.min_eq_left (by omega)]
    have : j = m + (j - m) := by omega
    rw [this, List.take_add]
    congr 2
    omega
  have h1 := par_soundZG HL (P := P) (Q := Q) (zv := zv) hok
    (fun i o hi ho vals w' hx hd => by
      have h := parAll_atG ((permL p l).take m) 0 _ hob i o (by rw [List.getElem?_take, if_pos hi]; exact ho) vals w' hx (PDepsG.of hd)
      rw [List.take_take, Nat.min_eq_left (by omega), parEnd_frame i (by omega), Nat.zero_add] at h
      exact h)
    (fun i o hi hin ho vals w' hd => by
      have h := zAll_at _ m _ hZ (i - m) o (by rw [List.getElem?_take, if_pos (by omega), List.getElem?_drop, show m + (i - m) = i by omega]; exact ho) vals w' (ZDeps.of hd)
      have e := parEnd_split vals ((permL p l).take m) ((((permL p l).drop m).take (n - m)).take (i - m)) 0 a
      rw [hlen, Nat.zero_add, ← hjoin i hi (by omega), parEnd_frame i (by omega)] at e
      rw [← e, show m + (i - m) = i by omega] at h
      exact h)
    (fun vals w' hx hf1 hf2 => by
      have e := parEnd_split vals ((permL p l).take m) (((permL p l).drop m).take (n - m)) 0 a
      have hj := hjoin n hmn (Nat.le_refl _)
      rw [show (((permL p l).drop m).take (n - m)).take (n - m) = ((permL p l).drop m).take (n - m) by rw [List.take_take, Nat.min_self]] at hj
      rw [hlen, Nat.zero_add, ← hj, parEnd_frame n (by omega)] at e
      rw [e]
      exact hfin vals w' hx (parFacts_ofG _ 0 fun i hi => by
        rw [Nat.zero_add]
        exact hf1 i (by rw [List.length_take] at hi; omega)) (zEqs_of _ m fun i hi => hf2 (m + i) (by omega) (by rw [List.length_take, List.length_drop] at hi; omega)))
    (pcnt (Array.replicate (permL p l).length false) (permL p l).length) (Array.replicate (permL p l).length false) (fun _ => undef) w.drew (by simp) rfl (fun j _ _ => hz _ j) (fun i o _ h => by rw [hz] at h; cases h) (HL.drew (HL.refl w)) (fun i _ h => by rw [hz] at h; cases h) (fun j _ _ h => by rw [hz] at h; cases h)
  rw [hfr] at h1
  have hc : ∀ M, pcnt (Array.replicate (permL p l).length false) M = M := by
    intro M
    induction M with
    | zero => rfl
    | succ M ih => simp only [pcnt]; rw [ih, hz]; simp
  rw [hc, hl] at h1
  have h2 := wpAny_perm (P := P) (Q := Q) h l.length (Array.replicate l.length false) (Array.replicate l.length false) a w.drew (by simp) (by simp) (fun i _ => by rw [hz, hz]) h1
  simpa using h2
end
end Go.Proofs.YtchpbdodlbghaaaGreatDoor
namespace Go.Proofs.YtchpbdodlbghaaaGreatDoor
open Go.RowKit

section
variable {P : Program} {Q : Exit → Act → World → Prop} {Le : World → World → Prop}
def Makes (P : Program) (o : Oper) : Prop := o.guard = none ∧ ∀ ρ w, ∃ w', (execOp ρ o).run P w = .ok (.value (.pointer (some ⟨w.heap.size, 0, none⟩))) w'
def Lies (R : LSpec) : Prop := ∀ ds v w, R ds v w → ∃ g, v = .pointer (some ⟨g, 0, none⟩) ∧ g < w.heap.size
theorem par_soundZF (fr : List Nat) (HL : IsLe Le) {l : List Oper} {m n : Nat} (hok : parOkZ l m n = true) {Rs : Nat → LSpec} {zv : Nat → Value} {a0 : Act} {w0 : World}
    (hob : ∀ i o, i < m → l[i]? = some o → ParObsG Le P w0 l Rs a0 i o) (hZ : ∀ i o, m ≤ i → i < n → l[i]? = some o → ZOb P l zv a0 i o)
    (hfa : ∀ i ∈ fr, i < m ∧ ∀ o, l[i]? = some o → Makes P o) (hfp : ∀ i ∈ fr, Lies (Rs i))
    (hfin : ∀ vals w', Le w0 w' → (∀ i, i < m → (Rs i) (dv l vals i) (vals i) w') → (∀ j, m ≤ j → j < n → vals j = zv j) → (∀ i ∈ fr, ∀ j ∈ fr, i ≠ j → vals i ≠ vals j) → ZTail P (fun a w => Q .normal a w) (l.drop n) (pframe l (fun _ => true) vals n a0) w') :
    ∀ (fuel : Nat) (listed : Array Bool) (vals : Nat → Value) (w : World), listed.size = l.length → pcnt listed l.length = fuel → (∀ j, n ≤ j → j < l.length → listed.getD j false = false) →
    (∀ j x, l[j]? = some x → listed.getD j false = true → ∀ d ∈ pdeps x, listed.getD d false = true) →
    Le w0 w → (∀ i, i < m → listed.getD i false = true → ∀ w2, Le w w2 → (Rs i) (dv l vals i) (vals i) w2) → (∀ j, m ≤ j → j < n → listed.getD j false = true → vals j = zv j) →
    (∀ i ∈ fr, ∀ j ∈ fr, i ≠ j → listed.getD i false = true → listed.getD j false = true → vals i ≠ vals j) → 
    wpAny P .any l.toArray Q fuel listed (pframe l (listed.getD · false) vals l.length a0) w := by
  obtain ⟨hns, hmn, hnl, hf⟩ := parOkZ_at hok
  -- once all of the first are done
  have toTail : ∀ (fuel : Nat) (listed : Array Bool) (vals : Nat → Value) (w : World), listed.size = l.length → pcnt listed l.length = fuel → (∀ j, n ≤ j → j < l.length → listed.getD j false = false) →
      (∀ j x, l[j]? = some x → listed.getD j false = true → ∀ d ∈ pdeps x, listed.getD d false = true) →
      Le w0 w → (∀ i, i < m → listed.getD i false = true → ∀ w2, Le w w2 → (Rs i) (dv l vals i) (vals i) w2) → (∀ j, m ≤ j → j < n → listed.getD j false = true → vals j = zv j) → (∀ i ∈ fr, ∀ j ∈ fr, i ≠ j → listed.getD i false = true → listed.getD j false = true → vals i ≠ vals j) → (∀ j, j < m → listed.getD j false = true) →
      wpAny P .any l.toArray Q fuel listed (pframe l (listed.getD · false) vals l.length a0) w := by
    intro fuel listed vals w hs hc hu hcl hx hR hV hFr hpar
    have e1 : pframe l (listed.getD · false) vals l.length a0 = pframe l (listed.getD · false) (fun j => if m ≤ j ∧ j < n then zv j else vals j) l.length a0 :=
      pframe_congr (fun _ _ => rfl) (fun j hj hl => by
        split
        · rename_i h; exact hV j h.1 h.2 hl
        · rfl)
    rw [e1]
    refine tailZ hok hZ fuel n listed _ w hs hc (Nat.le_refl _) hnl hpar (fun j h1 h2 => by omega) hu hcl (fun j h1 h2 => by rw [if_pos ⟨h1, h2⟩]) ?_
    have e2 : pframe l (fun j => decide (j < n) || listed.getD j false) (fun j => if m ≤ j ∧ j < n then zv j else vals j) l.length a0 = pframe l (fun _ => true) (fun j => if m ≤ j ∧ j < n then zv j else vals j) n a0 := by
      have : ∀ M, n ≤ M → M ≤ l.length → pframe l (fun j => decide (j < n) || listed.getD j false) (fun j => if m ≤ j ∧ j < n then zv j else vals j) M a0 = pframe l (fun _ => true) (fun j => if m ≤ j ∧ j < n then zv j else vals j) n a0 := by
        intro M
        induction M with
        | zero => intro h _; have : n = 0 := by omega
                  subst this; rfl
        | succ M ihm =>
          intro h hM
          by_cases hm : n ≤ M
          · simp only [pframe]
            rw [if_neg (by rw [hu M hm (by omega)]; simp; omega)]
            exact ihm hm (by omega)
          · have : n = M + 1 := by omega
            subst this
            exact pframe_congr (fun k hk => by simp [hk]) (fun _ _ _ => rfl)
      exact this l.length hnl (Nat.le_refl _)
    rw [e2]
    exact hfin _ w hx (fun i hi => by
      have hil : i < l.length := by omega
      rw [if_neg (by omega), dv_congr (vals' := vals) (fun d hd => by
        have := (hf i _ (List.getElem?_eq_getElem hil)).back d (by simpa [ldeps, List.getElem?_eq_getElem hil] using hd)
        rw [if_neg (by omega)])]
      exact hR i hi (hpar i hi) w (HL.refl w)) (fun j h1 h2 => by rw [if_pos ⟨h1, h2⟩]) (fun i hi j hj hne => by
      have h1 := (hfa i hi).1
      have h2 := (hfa j hj).1
      rw [if_neg (by omega), if_neg (by omega)]
      exact hFr i hi j hj hne (hpar i h1) (hpar j h2))
  intro fuel
  induction fuel with
  | zero =>
    intro listed vals w hs hc hu hcl hx hR hV hFr
    exact toTail 0 listed vals w hs hc hu hcl hx hR hV hFr (fun j hj => pcnt_zero hc j (by omega))
  | succ fuel ih =>
    intro listed vals w hs hc hu hcl hx hR hV hFr
    by_cases hpar : ∀ j, j < m → listed.getD j false = true
    · exact toTail _ listed vals w hs hc hu hcl hx hR hV hFr hpar
    · obtain ⟨k, hk, h0, hall⟩ := par_first (listed := listed) (N := l.length) (by omega)
      have hready := zmin hf hs hk h0 hall
      refine ⟨fun hnil => (by rw [hnil] at hready; cases hready), fun i hi => ?_⟩
      obtain ⟨hil, hi0, o, ho, hdeps⟩ := (par_ready hs).1 hi
      have F := hf i o ho
      have hin : i < n := by
        rcases Nat.lt_or_ge i n with hlt | hge
        · exact hlt
        · refine absurd (fun j hj => ?_) hpar
          rcases F.tail hge j (by omega) with h1 | h1
          · omega
          · exact pclos_all (l := l) (G := fun j => listed.getD j false = true) hcl 3 o hdeps j h1
      have hsame := zsame hf (vals := vals) (a0 := a0) ho hi0 hdeps hcl
      have hcnt := pcnt_set (listed := listed) (by omega) hi0 l.length hil
      have hexec := zexec hns ho hsame (fun x hx => by cases x <;> first | rfl | exact absurd rfl (hx _))
      have hcl2 : ∀ j x, l[j]? = some x → (listed.setIfInBounds i true).getD j false = true → ∀ d ∈ pdeps x, (listed.setIfInBounds i true).getD d false = true := by
        intro j x hx hj d hd
        rw [pget_set (by omega)] at hj ⊢
        split
        · rfl
        · by_cases hji : j = i
          · subst hji
            rw [ho] at hx
            obtain rfl := Option.some.inj hx
            exact hdeps d hd
          · rw [if_neg hji] at hj
            exact hcl j x hx hj d hd
      -- what follows behind the operation
      have hnext : ∀ v w', Le w w' → (i < m → ∀ w2, Le w' w2 → (Rs i) (dv l vals i) v w2) → (m ≤ i → v = zv i) → (i ∈ fr → v = .pointer (some ⟨w.heap.size, 0, none⟩)) →
          wpAny P .any l.toArray Q fuel (listed.setIfInBounds i true) ((pframe l (listed.getD · false) vals l.length a0).put o.dst v) w' := by
        intro v w' hx2 hRv hZv hNv
        have hp := zput hf (vals := vals) (a0 := a0) (D := ((listed.setIfInBounds i true).getD · false)) (D' := (listed.getD · false)) ho (by simp only [pget_set (show i < listed.size by omega)]; simp) hi0 (fun k hk => by simp only [pget_set (show i < listed.size by omega)]; rw [if_neg hk]) v
        rw [hp]
        refine ih _ _ w' (by simpa using hs) (by omega) (fun j hj hjl => ?_) hcl2 (HL.trans hx hx2) (fun j hj hjd => ?_) (fun j h1 h2 hjd => ?_) (fun a ha b hb hne had hbd => ?_)
        · rw [pget_set (by omega), if_neg (by omega)]; exact hu j hj hjl
        · have hjl : j < l.length := by omega
          have hback := (hf j _ (List.getElem?_eq_getElem hjl)).back
          have hld : ldeps l j = pdeps l[j] := by simp [ldeps, List.getElem?_eq_getElem hjl]
          by_cases hji : j = i
          · subst hji
            simp only [if_true]
            rw [dv_congr (vals' := vals) (fun d hd => by
              rw [hld] at hd
              have := hback d hd
              rw [if_neg (by omega)])]
            exact hRv hj
          · simp only [if_neg hji]
            rw [pget_set (by omega), if_neg hji] at hjd
            rw [dv_congr (vals' := vals) (fun d hd => by
              rw [hld] at hd
              have := hcl j _ (List.getElem?_eq_getElem hjl) hjd d hd
              rw [if_neg (fun e => by subst e; rw [hi0] at this; cases this)])]
            exact fun w2 hw2 => hR j hj hjd w2 (HL.trans hx2 hw2)
        · by_cases hji : j = i
          · subst hji; simp only [if_true]; exact hZv h1
          · simp only [if_neg hji]
            rw [pget_set (by omega), if_neg hji] at hjd
            exact hV j h1 h2 hjd
        · have hold : ∀ c, c ∈ fr → c ≠ i → (listed.setIfInBounds i true).getD c false = true → i ∈ fr → vals c ≠ v := by
            intro c hc hci hcd hif e
            rw [pget_set (by omega), if_neg hci] at hcd
            obtain ⟨g, hg, hgl⟩ := hfp c hc _ _ _ (hR c (hfa c hc).1 hcd w (HL.refl w))
            rw [hg, hNv hif] at e
            injection e with e
            injection e with e
            injection e with e
            omega
          by_cases hai : a = i
          · subst hai
            simp only [if_true]
            rw [if_neg (Ne.symm hne)]
            exact Ne.symm (hold b hb (Ne.symm hne) hbd ha)
          · by_cases hbi : b = i
            · subst hbi
              rw [if_neg hai]
              simp only [if_true]
              exact hold a ha hai had hb
            · rw [if_neg hai, if_neg hbi]
              rw [pget_set (by omega), if_neg hai] at had
              rw [pget_set (by omega), if_neg hbi] at hbd
              exact hFr a ha b hb hne had hbd
      unfold wpOp
      have hgo : l.toArray[i]? = some o := by simpa using ho
      rw [hgo]
      simp only []
      by_cases him : i < m
      · have hob1 := hob i o him ho vals w hx (fun j hj => hR j (by have := F.back j hj; omega) (hdeps j hj) w (HL.refl w))
        unfold ParObG at hob1
        have hwant : Region.wanted o (yielded l.toArray (pframe l (listed.getD · false) vals l.length a0).tmps) = Region.wanted o (yielded l.toArray (pframe l (fun _ => true) vals i a0).tmps) := by
          cases hg : o.guard with
          | none => simp [Region.wanted, hg]
          | some g =>
            obtain ⟨g, want⟩ := g
            have : yielded l.toArray (pframe l (listed.getD · false) vals l.length a0).tmps g = yielded l.toArray (pframe l (fun _ => true) vals i a0).tmps g := by
              unfold yielded
              cases hgd : (l[g]?).bind (·.dst) with
              | none => simp [hgd]
              | some t =>
                have hs2 := hsame t (List.mem_append_right _ (by rw [hg]; simp [hgd]))
                simp only [List.getElem?_toArray, hgd, Option.bind_some]
                rw [pget_inj ((pframe_size l.length).trans (pframe_size i).symm) hs2]
            simp only [Region.wanted, hg, this]
        rw [hwant]
        split
        · rename_i hwt
          rw [if_pos hwt] at hob1
          left
          refine wp_of_yields (Y := fun v w' => ParPostG Le (Rs i (dv l vals i)) w v w' ∧ (i ∈ fr → v = .pointer (some ⟨w.heap.size, 0, none⟩))) ?_ (fun v w' ⟨⟨y1, y2⟩, y3⟩ => hnext v w' y1 (fun _ => y2) (fun h => by omega) y3)
          by_cases hif : i ∈ fr
          · obtain ⟨w1, e1⟩ := ((hfa i hif).2 o ho).2 (pframe l (listed.getD · false) vals l.length a0).eval w
            unfold yields at hob1 ⊢
            rw [← hexec, e1] at hob1
            rw [e1]
            exact ⟨hob1, fun _ => rfl⟩
          · unfold yields at hob1
            rw [← hexec] at hob1
            exact yields_mono hob1 fun v w' hv => ⟨hv, fun h => absurd h hif⟩
        · rename_i hwt
          rw [if_neg hwt] at hob1
          exact hnext undef w (HL.refl w) (fun _ => hob1) (fun h => by omega) (fun hif => absurd (by simp [Region.wanted, ((hfa i hif).2 o ho).1]) hwt)
      · have hg := F.gd (by omega)
        rw [if_pos (by simp [Region.wanted, hg])]
        left
        have hz := hZ i o (by omega) hin ho vals w (fun d hd => hV d (F.lazy (by omega) hin d hd) (by have := F.back d hd; omega) (hdeps d hd))
        refine wp_of_yields (Y := fun v w' => v = zv i ∧ w' = w) ?_ ?_
        · unfold yields at hz ⊢
          rw [hexec]
          exact hz
        · rintro v w' ⟨rfl, rfl⟩
          exact hnext _ _ (HL.refl _) (fun h => by omega) (fun _ => rfl) (fun hif => absurd (hfa i hif).1 him)

theorem wp_parZF (fr : List Nat) (HL : IsLe Le) {id : Nat} {l : List Oper} (p : List Nat) (m n : Nat) {a : Act} {w : World} (Rs : Nat → LSpec) (zv : Nat → Value) (hm : P.follows .mixedOrders = true) (hp : permOk p l = true) (hok : parOkZ (permL p l) m n = true)
    (hob : ParAllG Le P w (permL p l) Rs 0 ((permL p l).take m) (fun _ => a))
    (hZ : ZAll P zv m (((permL p l).drop m).take (n - m)) (fun vals => ParEnd vals 0 ((permL p l).take m) a))
    (hfa : ∀ i ∈ fr, i < m ∧ ∀ o, (permL p l)[i]? = some o → Makes P o) (hfp : ∀ i ∈ fr, Lies (Rs i))
    (hfin : ∀ vals w', Le w w' → ParFactsG (permL p l) Rs vals w' 0 ((permL p l).take m) → ZEqs zv vals m (((permL p l).drop m).take (n - m)) → (∀ i ∈ fr, ∀ j ∈ fr, i ≠ j → vals i ≠ vals j) →
      Y.Shut (ZTail P (fun a w => wpList P l.toArray Q [] a w) ((permL p l).drop n) (ParEnd vals m (((permL p l).drop m).take (n - m)) (ParEnd vals 0 ((permL p l).take m) a)) w')) :
    (Code.region id l.toArray true).wp P Q a w := by
  have h := permOk_facts hp
  have hl := permL_length h
  obtain ⟨hns, hmn, hnl, hf⟩ := parOkZ_at hok
  refine wp_region_any hm ?_
  have hz : ∀ m k, (Array.replicate m false).getD k false = false := by
    intro m k
    simp only [Array.getD_eq_getD_getElem?, Array.getElem?_replicate]
    split <;> rfl
  have hframe : pframe (permL p l) ((Array.replicate (permL p l).length false).getD · false) (fun _ => undef) (permL p l).length a = a := by
    have : ∀ M, pframe (permL p l) ((Array.replicate (permL p l).length false).getD · false) (fun _ => undef) M a = a := by
      intro M
      induction M with
      | zero => rfl
      | succ M ih => simp only [pframe]; rw [hz, if_neg (by simp)]; exact ih
    exact this _
  have hlen : ((permL p l).take m).length = m := by rw [List.length_take]; omega
  have hjoin : ∀ j, m ≤ j → j ≤ n → (permL p l).take j = (permL p l).take m ++ (((permL p l).drop m).take (n - m)).take (j - m) := by
    intro j h1 h2
    rw [List.take_take, Nat.min_eq_left (by omega)]
    have : j = m + (j - m) := by omega
    rw [this, List.take_add]
    congr 2
    omega
  have h1 := par_soundZF fr HL (P := P) (Q := Q) (zv := zv) hok
    (fun i o hi ho vals w' hx hd => by
      have h := parAll_atG ((permL p l).take m) 0 _ hob i o (by rw [List.getElem?_take, if_pos hi]; exact ho) vals w' hx (PDepsG.of hd)
      rw [List.take_take, Nat.min_eq_left (by omega), parEnd_frame i (by omega), Nat.zero_add] at h
      exact h)
    (fun i o hi hin ho vals w' hd => by
      have h := zAll_at _ m _ hZ (i - m) o (by rw [List.getElem?_take, if_pos (by omega), List.getElem?_drop, show m + (i - m) = i by omega]; exact ho) vals w' (ZDeps.of hd)
      have e := parEnd_split vals ((permL p l).take m) ((((permL p l).drop m).take (n - m)).take (i - m)) 0 a
      rw [hlen, Nat.zero_add, ← hjoin i hi (by omega), parEnd_frame i (by omega)] at e
      rw [← e, show m + (i - m) = i by omega] at h
      exact h)
    hfa hfp
    (fun vals w' hx hf1 hf2 hf3 => by
      have e := parEnd_split vals ((permL p l).take m) (((permL p l).drop m).take (n - m)) 0 a
      have hj := hjoin n hmn (Nat.le_refl _)
      rw [show (((permL p l).drop m).take (n - m)).take (n - m) = ((permL p l).drop m).take (n - m) by rw [List.take_take, Nat.min_self]] at hj
      rw [hlen, Nat.zero_add, ← hj, parEnd_frame n (by omega)] at e
      rw [e]
      exact (hfin vals w' hx (parFacts_ofG _ 0 fun i hi => by
        rw [Nat.zero_add]
        exact hf1 i (by rw [List.length_take] at hi; omega)) (zEqs_of _ m fun i hi => hf2 (m + i) (by omega) (by rw [List.length_take, List.length_drop] at hi; omega)) hf3).out)
    (pcnt (Array.replicate (permL p l).length false) (permL p l).length) (Array.replicate (permL p l).length false) (fun _ => undef) w.drew (by simp) rfl (fun j _ _ => hz _ j) (fun i o _ h => by rw [hz] at h; cases h) (HL.drew (HL.refl w)) (fun i _ h => by rw [hz] at h; cases h) (fun j _ _ h => by rw [hz] at h; cases h) (fun i _ j _ _ h => by rw [hz] at h; cases h)
  rw [hframe] at h1
  have hc : ∀ M, pcnt (Array.replicate (permL p l).length false) M = M := by
    intro M
    induction M with
    | zero => rfl
    | succ M ih => simp only [pcnt]; rw [ih, hz]; simp
  rw [hc, hl] at h1
  have h2 := wpAny_perm (P := P) (Q := Q) h l.length (Array.replicate l.length false) (Array.replicate l.length false) a w.drew (by simp) (by simp) (fun i _ => by rw [hz, hz]) h1
  simpa using h2
end
def allocsOf (o : Oper) : Option TypeId := match o.guard, o.op with | none, .alloc t => some t | _, _ => none
theorem makes_of {P : Program} {l : List Oper} {i : Nat} {o : Oper} {t : TypeId} (h : (l[i]?).bind allocsOf = some t) (ho : l[i]? = some o) (hr : ∀ w, ∃ w', (Instr.alloc t true (.tuple #[])).run P w = .ok (.pointer (some ⟨w.heap.size, 0, none⟩)) w') : Makes P o := by
  rw [ho] at h
  simp only [Option.bind_some] at h
  unfold allocsOf at h
  split at h
  · rename_i hg hop
    obtain rfl := Option.some.inj h
    refine ⟨hg, fun ρ w => ?_⟩
    obtain ⟨w', hw⟩ := hr w
    refine ⟨w', ?_⟩
    unfold execOp
    simp only [hop, Sem.run_bind, hw, Result.andThen_ok, Sem.run_pure]
  · cases h
end Go.Proofs.YtchpbdodlbghaaaGreatDoor
