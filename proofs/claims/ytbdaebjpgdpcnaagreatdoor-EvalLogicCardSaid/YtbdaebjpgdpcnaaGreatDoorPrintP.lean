/-
  The plain law of printed values: quotes said twice and once, numerals read back; two readers of one printer answer alike.
-/
import Derived.Test.YtbdaebjpgdpcnaaGreatDoorRef1
import Derived.Lib.Replace
import Derived.Lib.CountLaws
import Derived.Lib.ParseIntB
import Derived.Lib.ItoaNum
import Derived.Lib.ItoaMem
import Derived.Lib.ItoaLen
namespace Go.Proofs.YtbdaebjpgdpcnaaGreatDoor
set_option maxRecDepth 100000

/-! ### Quotes -/
def escQ (l : List UInt8) : List UInt8 := l.flatMap fun b => if b = 39 then [39, 39] else [b]
theorem escQ_nil : escQ [] = [] := rfl
theorem escQ_q (l : List UInt8) : escQ (39 :: l) = 39 :: 39 :: escQ l := by simp [escQ]
theorem escQ_c (b : UInt8) (l : List UInt8) (h : b ≠ 39) : escQ (b :: l) = b :: escQ l := by simp [escQ, h]
theorem escQ_append (a b : List UInt8) : escQ (a ++ b) = escQ a ++ escQ b := by simp [escQ]
theorem escQ_len (l : List UInt8) : (escQ l).length ≤ 2 * l.length := by
  induction l with
  | nil => simp [escQ]
  | cons x l ih =>
    by_cases h : x = 39
    · subst h; rw [escQ_q]; simp; omega
    · rw [escQ_c x l h]; simp; omega
theorem replaceK_q : ∀ l : List UInt8, Lib.replaceK [39] [39, 39] (Lib.count l [39]) l = escQ l
  | [] => by
    rw [Lib.count_one]
    rfl
  | b :: l => by
    have ih := replaceK_q l
    by_cases hb : b = 39
    · subst hb
      have hix : Lib.index (39 :: l) [39] = ((0 : Nat) : Int) := by rw [Lib.index]; simp [List.isPrefixOf]
      rw [Lib.count_cons_eq, Nat.add_comm, Lib.replaceK_hit _ _ _ _ 0 hix]
      simp only [List.take_zero, List.nil_append, List.length_singleton, Nat.zero_add, List.drop_succ_cons, List.drop_zero]
      rw [ih, escQ_q]
      rfl
    · rw [Lib.count_cons_ne b 39 l hb, escQ_c b l hb, ← ih]
      cases hk : Lib.count l [39] with
      | zero => rfl
      | succ k =>
        obtain ⟨i, hi⟩ := Lib.index_of_count (s := l) (old := [39]) (by omega)
        have hp : ([39] : List UInt8).isPrefixOf (b :: l) = false := by simp [List.isPrefixOf, Ne.symm hb]
        have hix : Lib.index (b :: l) [39] = ((i + 1 : Nat) : Int) := by
          rw [Lib.index, hp]
          first | (simp [hi]; done) | (simp [hi]; omega)
        rw [Lib.replaceK_hit _ _ _ _ _ hix, Lib.replaceK_hit _ _ _ _ _ hi]
        simp
theorem replaceAll_q (l : List UInt8) : Lib.replaceAll l [39] [39, 39] = escQ l := by
  rw [← replaceK_q l]
  unfold Lib.replaceAll Lib.replace Lib.replaceNum
  rw [if_neg (by decide), if_pos (by simp)]
theorem replaceK_u : ∀ l : List UInt8, Lib.replaceK [39, 39] [39] (Lib.count (escQ l) [39, 39]) (escQ l) = l
  | [] => by
    have : Lib.index [] [39, 39] = -1 := by rw [Lib.index]; rfl
    rw [escQ_nil, Lib.count_miss this]
    rfl
  | b :: l => by
    have ih := replaceK_u l
    by_cases hb : b = 39
    · subst hb
      have hix : Lib.index (39 :: 39 :: escQ l) [39, 39] = ((0 : Nat) : Int) := by rw [Lib.index]; simp [List.isPrefixOf]
      rw [escQ_q, Lib.count_hit (by simp) hix, Nat.add_comm, Lib.replaceK_hit _ _ _ _ 0 hix]
      simp only [List.take_zero, List.nil_append, List.length_cons, List.length_nil, Nat.zero_add, List.drop_succ_cons, List.drop_zero]
      rw [ih]
      rfl
    · rw [escQ_c b l hb]
      generalize escQ l = t at ih ⊢
      have hp : ([39, 39] : List UInt8).isPrefixOf (b :: t) = false := by simp [List.isPrefixOf, Ne.symm hb]
      have hidx : ∀ i : Nat, Lib.index t [39, 39] = (i : Int) → Lib.index (b :: t) [39, 39] = ((i + 1 : Nat) : Int) := fun i hi => by
        rw [Lib.index, hp]
        first | (simp [hi]; done) | (simp [hi]; omega)
      have hcnt : Lib.count (b :: t) [39, 39] = Lib.count t [39, 39] := by
        rcases Lib.index_spec t [39, 39] with ⟨h1, _⟩ | ⟨i, h1, _, _, _⟩
        · have h2 : Lib.index (b :: t) [39, 39] = -1 := by rw [Lib.index, hp, h1]; rfl
          rw [Lib.count_miss h1, Lib.count_miss h2]
        · rw [Lib.count_hit (by simp) h1, Lib.count_hit (by simp) (hidx i h1)]
          simp [Nat.add_right_comm i 1]
      rw [hcnt]
      cases hk : Lib.count t [39, 39] with
      | zero =>
        rw [hk] at ih
        rw [Lib.replaceK] at ih ⊢
        rw [ih]
      | succ k =>
        obtain ⟨i, hi⟩ := Lib.index_of_count (s := t) (old := [39, 39]) (by omega)
        rw [hk, Lib.replaceK_hit _ _ _ _ _ hi] at ih
        rw [Lib.replaceK_hit _ _ _ _ _ (hidx i hi)]
        have h1 : i + 1 + ([39, 39] : List UInt8).length = (i + ([39, 39] : List UInt8).length) + 1 := by omega
        rw [h1, List.take_succ_cons, List.drop_succ_cons, List.cons_append, List.cons_append, ih]
theorem replaceAll_u (l : List UInt8) : Lib.replaceAll (escQ l) [39, 39] [39] = l := by
  have h := replaceK_u l
  unfold Lib.replaceAll Lib.replace Lib.replaceNum
  rw [if_neg (by decide), if_pos (by simp)]
  exact h
/-- The document's way back: behind a quote, up to the last byte. -/
def uq : List UInt8 → List UInt8
  | [] => []
  | [_] => []
  | x :: y :: r => if x = 39 then y :: uq r else x :: uq (y :: r)
theorem uq_esc : ∀ l : List UInt8, uq (escQ l ++ [39]) = l
  | [] => rfl
  | b :: l => by
    have ih := uq_esc l
    by_cases hb : b = 39
    · subst hb
      rw [escQ_q, List.cons_append, List.cons_append, uq, if_pos rfl, ih]
    · rw [escQ_c b l hb, List.cons_append]
      cases ht : escQ l ++ [39] with
      | nil => simp at ht
      | cons y r =>
        rw [ht] at ih
        rw [uq, if_neg hb, ih]

/-! ### Numerals -/
theorem digO : ∀ k : Fin 10, Lx.isDigit (UInt8.ofNat (48 + k.val)) = true ∧ (UInt8.ofNat (48 + k.val)).toNat = 48 + k.val := by decide +kernel
theorem dec_num (u : Nat) : (∀ c ∈ Lib.decDigits u, Lx.isDigit c = true) ∧ Lx.num (Lib.decDigits u) = u ∧ Lib.decDigits u ≠ [] := by
  induction u using Nat.strongRecOn with
  | _ u ih =>
    rw [Lib.decDigits]
    split
    · rename_i h
      obtain ⟨d1, d2⟩ := digO ⟨u, h⟩
      refine ⟨fun c hc => ?_, ?_, by simp⟩
      · rw [List.mem_singleton.1 hc]
        exact d1
      · simp only [Lx.num, List.foldl_cons, List.foldl_nil]
        simp only at d2
        omega
    · rename_i h
      obtain ⟨i1, i2, i3⟩ := ih (u / 10) (by omega)
      obtain ⟨d1, d2⟩ := digO ⟨u % 10, by omega⟩
      refine ⟨fun c hc => ?_, ?_, by simp⟩
      · rcases List.mem_append.1 hc with hc | hc
        · exact i1 c hc
        · rw [List.mem_singleton.1 hc]
          exact d1
      · rw [num_append, i2]
        simp only [Lx.num, List.foldl_cons, List.foldl_nil, List.length_singleton, Nat.pow_one]
        simp only at d2
        omega
theorem isDigit_iff (c : UInt8) : Lx.isDigit c = true ↔ 48 ≤ c.toNat ∧ c.toNat ≤ 57 := by
  simp [Lx.isDigit, UInt8.le_iff_toNat_le]
theorem fold_grow : ∀ (l : List UInt8) (a : Nat), a ≤ l.foldl (fun a c => a * 10 + (c.toNat - 48)) a
  | [], a => Nat.le_refl _
  | c :: r, a => Nat.le_trans (by omega) (fold_grow r (a * 10 + (c.toNat - 48)))
theorem dig_u (l : List UInt8) : ∀ (acc : Nat), (∀ c ∈ l, Lx.isDigit c = true) → acc ≤ 18446744073709551615 →
    Lib.parseUintM 18446744073709551615 acc l = (if l.foldl (fun a c => a * 10 + (c.toNat - 48)) acc ≤ 18446744073709551615 then .ok (l.foldl (fun a c => a * 10 + (c.toNat - 48)) acc) else .range) := by
  induction l with
  | nil => intro acc _ h; simp [Lib.parseUintM, h]
  | cons c r ih =>
    intro acc hd hacc
    have hc := (isDigit_iff c).1 (hd c (by simp))
    rw [Lib.parseUintM, if_pos hc, List.foldl_cons]
    have hg := fold_grow r (acc * 10 + (c.toNat - 48))
    split
    · rw [if_neg (by omega)]
    · split
      · rw [if_neg (by omega)]
      · exact ih _ (fun x hx => hd x (List.mem_cons_of_mem _ hx)) (by omega)
theorem dig_uint (l : List UInt8) (hne : l ≠ []) (hd : ∀ c ∈ l, Lx.isDigit c = true) : Lib.parseUintB 64 l = (if Lx.num l ≤ 18446744073709551615 then .ok (Lx.num l) else .range) := by
  rw [Lib.parseUintB, if_neg hne]
  exact dig_u l 0 hd (by omega)
theorem dig_int (l : List UInt8) (hne : l ≠ []) (hd : ∀ c ∈ l, Lx.isDigit c = true) :
    Lib.parseIntB 64 l = (if Lx.num l ≤ 9223372036854775807 then .ok (Lx.num l : Int) else .range) := by
  match l, hne, hd with
  | c :: r, hne, hd =>
    have hc := (isDigit_iff c).1 (hd c (by simp))
    have hu := dig_uint (c :: r) hne hd
    have h45 : ¬ c.toNat = 45 := by omega
    have h43 : ¬ (c.toNat = 43 ∨ c.toNat = 45) := by omega
    simp only [Lib.parseIntB, if_neg h43]
    generalize Lx.num (c :: r) = n at hu ⊢
    by_cases h : n ≤ 18446744073709551615
    · rw [if_pos h] at hu
      rw [hu]
      by_cases h2 : n ≤ 9223372036854775807
      · rw [if_pos h2]
        simp only [h45, not_false_iff, true_and, false_and, if_false]
        rw [if_neg (by omega)]
      · rw [if_neg h2]
        simp only [h45, not_false_iff, true_and]
        rw [if_pos (by omega)]
    · rw [if_neg h] at hu
      rw [hu, if_neg (by omega)]
theorem dig_neg (l : List UInt8) (hne : l ≠ []) (hd : ∀ c ∈ l, Lx.isDigit c = true) :
    Lib.parseIntB 64 (45 :: l) = (if Lx.num l ≤ 9223372036854775808 then .ok (-(Lx.num l : Int)) else .range) := by
  have hu := dig_uint l hne hd
  have h45 : (45 : UInt8).toNat = 45 := rfl
  simp only [Lib.parseIntB, h45, or_true, if_true]
  generalize Lx.num l = n at hu ⊢
  by_cases h : n ≤ 18446744073709551615
  · rw [if_pos h] at hu
    rw [hu]
    by_cases h2 : n ≤ 9223372036854775808
    · rw [if_pos h2]
      simp only [not_true, false_and, if_false, true_and]
      rw [if_neg (by omega)]
    · rw [if_neg h2]
      simp only [not_true, false_and, if_false, true_and]
      rw [if_pos (by omega)]
  · rw [if_neg h] at hu
    rw [hu, if_neg (by omega)]
def InR (n : Int) : Prop := -9223372036854775808 ≤ n ∧ n ≤ 9223372036854775807
instance (n : Int) : Decidable (InR n) := inferInstanceAs (Decidable (_ ∧ _))
/-- A numeral's first byte, and what it is. -/
theorem itoa_form (n : Int) : (∃ d, Lib.itoa n = 45 :: d ∧ n < 0 ∧ d ≠ [] ∧ (∀ c ∈ d, Lx.isDigit c = true) ∧ (Lx.num d : Int) = -n) ∨ (Lib.itoa n ≠ [] ∧ 0 ≤ n ∧ (∀ c ∈ Lib.itoa n, Lx.isDigit c = true) ∧ (Lx.num (Lib.itoa n) : Int) = n) := by
  unfold Lib.itoa
  by_cases h : n < 0
  · rw [if_pos h]
    obtain ⟨d1, d2, d3⟩ := dec_num n.natAbs
    exact .inl ⟨_, rfl, h, d3, d1, by rw [d2]; omega⟩
  · rw [if_neg h]
    obtain ⟨d1, d2, d3⟩ := dec_num n.toNat
    exact .inr ⟨d3, by omega, d1, by rw [d2]; omega⟩
/-- Is it a sign or none, then digits? -/
def body (l : List UInt8) : List UInt8 := if l.head? = some 45 then l.tail else l
def digs (l : List UInt8) : Bool := !(body l).isEmpty && (body l).all Lx.isDigit
/-- The program's number of a text, and its error. -/
def intP (l : List UInt8) : Int × Int := if digs l then (match Lib.parseIntB 64 l with | .ok v => (v, 0) | _ => (0, 17)) else (0, 3)
theorem digs_cases (l : List UInt8) (h : digs l = true) : (l ≠ [] ∧ (∀ c ∈ l, Lx.isDigit c = true) ∧ body l = l) ∨ ∃ d, l = 45 :: d ∧ d ≠ [] ∧ (∀ c ∈ d, Lx.isDigit c = true) := by
  unfold digs body at h
  cases l with
  | nil => simp at h
  | cons c r =>
    by_cases hc : c = 45
    · subst hc
      simp at h
      exact .inr ⟨r, rfl, h.1, h.2⟩
    · have hb : body (c :: r) = c :: r := by simp [body, hc]
      simp [hc] at h
      refine .inl ⟨by simp, fun x hx => ?_, hb⟩
      rcases List.mem_cons.1 hx with rfl | hx
      · exact h.1
      · exact h.2 x hx
theorem intP_range (l : List UInt8) : InR (intP l).1 ∧ ((intP l).2 = 0 ∨ (intP l).2 = 3 ∨ (intP l).2 = 17) := by
  unfold intP
  split
  · rename_i h
    rcases digs_cases l h with ⟨h1, h2, _⟩ | ⟨d, rfl, h1, h2⟩
    · rw [dig_int l h1 h2]
      split
      · rename_i v hv
        split at hv
        · obtain rfl := Lib.NumEnd.ok.inj hv
          exact ⟨⟨by simp only; omega, by simp only; omega⟩, .inl rfl⟩
        · cases hv
      · exact ⟨by unfold InR; decide, .inr (.inr rfl)⟩
    · rw [dig_neg d h1 h2]
      split
      · rename_i v hv
        split at hv
        · obtain rfl := Lib.NumEnd.ok.inj hv
          exact ⟨⟨by simp only; omega, by simp only; omega⟩, .inl rfl⟩
        · cases hv
      · exact ⟨by unfold InR; decide, .inr (.inr rfl)⟩
  · exact ⟨by unfold InR; decide, .inr (.inl rfl)⟩
theorem digs_itoa (n : Int) : digs (Lib.itoa n) = true := by
  rcases itoa_form n with ⟨d, h1, _, h2, h3, _⟩ | ⟨h1, _, h2, _⟩
  · rw [h1]
    simp [digs, body, h2]
    exact h3
  · cases hl : Lib.itoa n with
    | nil => exact absurd hl h1
    | cons c r =>
      rw [hl] at h2
      have hc : c ≠ 45 := fun e => by
        subst e
        have := h2 45 (by simp)
        exact absurd this (by decide)
      simp [digs, body, hc]
      exact ⟨h2 c (by simp), fun x hx => h2 x (by simp [hx])⟩
theorem intP_itoa (n : Int) (h : InR n) : intP (Lib.itoa n) = (n, 0) := by
  unfold intP
  rw [if_pos (digs_itoa n)]
  obtain ⟨q1, q2⟩ := h
  rcases itoa_form n with ⟨d, h1, h0, h2, h3, h4⟩ | ⟨h1, h0, h2, h4⟩
  · rw [h1, dig_neg d h2 h3, if_pos (by omega), h4]
    simp
  · rw [dig_int _ h1 h2, if_pos (by omega), h4]
theorem intP_quote (r : List UInt8) : (intP (39 :: r)).2 = 3 := by
  have : digs (39 :: r) = false := by
    simp [digs, body]
    intro h
    exact absurd h (by decide)
  unfold intP
  rw [this]
  rfl
/-- The document's number of digits. -/
def pz (neg : Bool) : Int → List UInt8 → Option Int
  | x, [] => some x
  | x, c :: r => if InR (x * 10) then (if InR (x * 10 + if neg then -((c.toNat : Int) - 48) else (c.toNat : Int) - 48) then pz neg (x * 10 + if neg then -((c.toNat : Int) - 48) else (c.toNat : Int) - 48) r else none) else none
theorem pz_range (neg : Bool) : ∀ (l : List UInt8) (x v : Int), InR x → pz neg x l = some v → InR v
  | [], x, v, h, e => by
    obtain rfl : x = v := by simpa [pz] using e
    exact h
  | c :: r, x, v, h, e => by
    by_cases h1 : InR (x * 10)
    · rw [pz, if_pos h1] at e
      generalize (x * 10 + if neg = true then -((c.toNat : Int) - 48) else (c.toNat : Int) - 48) = z at e
      by_cases h2 : InR z
      · rw [if_pos h2] at e
        exact pz_range neg r z v h2 e
      · rw [if_neg h2] at e; cases e
    · rw [pz, if_neg h1] at e; cases e
theorem pz_pos : ∀ (l : List UInt8) (a : Nat), (∀ c ∈ l, Lx.isDigit c = true) → l.foldl (fun a c => a * 10 + (c.toNat - 48)) a ≤ 9223372036854775807 →
    pz false (a : Int) l = some ((l.foldl (fun a c => a * 10 + (c.toNat - 48)) a : Nat) : Int)
  | [], a, _, _ => rfl
  | c :: r, a, hd, h => by
    have hc := (isDigit_iff c).1 (hd c (by simp))
    have hg := fold_grow r (a * 10 + (c.toNat - 48))
    rw [List.foldl_cons] at h ⊢
    have e : (a : Int) * 10 + ((c.toNat : Int) - 48) = ((a * 10 + (c.toNat - 48) : Nat) : Int) := by omega
    have i1 : InR ((a : Int) * 10) := ⟨by omega, by omega⟩
    have i2 : InR ((a : Int) * 10 + ((c.toNat : Int) - 48)) := ⟨by omega, by omega⟩
    have ih := pz_pos r (a * 10 + (c.toNat - 48)) (fun x hx => hd x (List.mem_cons_of_mem _ hx)) h
    rw [pz, if_pos i1]
    simp only [Bool.false_eq_true, if_false]
    rw [if_pos i2, e, ih]
theorem pz_negs : ∀ (l : List UInt8) (a : Nat), (∀ c ∈ l, Lx.isDigit c = true) → l.foldl (fun a c => a * 10 + (c.toNat - 48)) a ≤ 9223372036854775808 →
    pz true (-(a : Int)) l = some (-((l.foldl (fun a c => a * 10 + (c.toNat - 48)) a : Nat) : Int))
  | [], a, _, _ => rfl
  | c :: r, a, hd, h => by
    have hc := (isDigit_iff c).1 (hd c (by simp))
    have hg := fold_grow r (a * 10 + (c.toNat - 48))
    rw [List.foldl_cons] at h ⊢
    have e : -(a : Int) * 10 + -((c.toNat : Int) - 48) = -((a * 10 + (c.toNat - 48) : Nat) : Int) := by omega
    have i1 : InR (-(a : Int) * 10) := ⟨by omega, by omega⟩
    have i2 : InR (-(a : Int) * 10 + -((c.toNat : Int) - 48)) := ⟨by omega, by omega⟩
    have ih := pz_negs r (a * 10 + (c.toNat - 48)) (fun x hx => hd x (List.mem_cons_of_mem _ hx)) h
    rw [pz, if_pos i1]
    simp only [if_true]
    rw [if_pos i2, e, ih]
/-- The document's number of a text, and its error. -/
def refP (l : List UInt8) : Int × Int := if digs l then (match pz (l.head? == some 45) 0 (body l) with | some v => (v, 0) | none => (0, 17)) else (0, 3)
theorem refP_range (l : List UInt8) : InR (refP l).1 := by
  unfold refP
  split
  · split
    · rename_i v hv
      exact pz_range _ _ _ _ (by unfold InR; decide) hv
    · unfold InR; decide
  · unfold InR; decide
theorem refP_itoa (n : Int) (h : InR n) : refP (Lib.itoa n) = (n, 0) := by
  unfold refP
  rw [if_pos (digs_itoa n)]
  obtain ⟨q1, q2⟩ := h
  rcases itoa_form n with ⟨d, h1, h0, h2, h3, h4⟩ | ⟨h1, h0, h2, h4⟩
  · have hp := pz_negs d 0 h3 (by change Lx.num d ≤ _; omega)
    rw [h1]
    simp only [List.head?_cons, beq_self_eq_true, body, List.tail_cons, if_true]
    have e : (-((0 : Nat) : Int)) = 0 := rfl
    rw [e] at hp
    rw [hp]
    show (-(Lx.num d : Int), (0 : Int)) = (n, 0)
    rw [h4]; simp
  · have hp := pz_pos (Lib.itoa n) 0 h2 (by change Lx.num (Lib.itoa n) ≤ _; omega)
    cases hl : Lib.itoa n with
    | nil => exact absurd hl h1
    | cons c r =>
      have hc : c ≠ 45 := fun e => by
        subst e
        rw [hl] at h2
        have := h2 45 (by simp)
        exact absurd this (by decide)
      have hb : body (c :: r) = c :: r := by simp [body, hc]
      have hh : ((c :: r).head? == some 45) = false := by simp [hc]
      rw [hl] at hp h4
      rw [hh, hb]
      have e : (((0 : Nat) : Int)) = 0 := rfl
      rw [e] at hp
      rw [hp]
      show ((Lx.num (c :: r) : Int), (0 : Int)) = (n, 0)
      rw [h4]

/-! ### Values -/
/-- A sound value. -/
def Cl (v : Int × Int × List UInt8) : Prop := (v.1 = 0 ∧ v.2.1 = 0 ∧ v.2.2 = []) ∨ (v.1 = 1 ∧ (v.2.1 = 0 ∨ v.2.1 = 1) ∧ v.2.2 = []) ∨ (v.1 = 2 ∧ InR v.2.1 ∧ v.2.2 = []) ∨ (v.1 = 3 ∧ v.2.1 = 0)
def nullL : List UInt8 := [78, 85, 76, 76]
def trueL : List UInt8 := [84, 82, 85, 69]
def falseL : List UInt8 := [70, 65, 76, 83, 69]
def prB (v : Int × Int × List UInt8) : List UInt8 := if v.1 = 0 then nullL else if v.1 = 1 then (if v.2.1 = 1 then trueL else falseL) else if v.1 = 2 then Lib.itoa v.2.1 else 39 :: (escQ v.2.2 ++ [39])
def candP (l : List UInt8) : Int × Int × List UInt8 := if l = nullL then (0, 0, []) else if l = trueL then (1, 1, []) else if l = falseL then (1, 0, []) else if (intP l).2 = 0 then (2, (intP l).1, []) else if 2 ≤ l.length then (3, 0, Lib.replaceAll (l.tail.dropLast) [39, 39] [39]) else (0, 0, [])
def candR (l : List UInt8) : Int × Int × List UInt8 := if l = nullL then (0, 0, []) else if l = trueL then (1, 1, []) else if l = falseL then (1, 0, []) else if 2 ≤ l.length ∧ l.head? = some 39 then (3, 0, uq l.tail) else if (refP l).2 = 0 then (2, (refP l).1, []) else (0, 0, [])
theorem candP_cl (l : List UInt8) : Cl (candP l) := by
  unfold candP
  split
  · exact .inl ⟨rfl, rfl, rfl⟩
  · split
    · exact .inr (.inl ⟨rfl, .inr rfl, rfl⟩)
    · split
      · exact .inr (.inl ⟨rfl, .inl rfl, rfl⟩)
      · split
        · exact .inr (.inr (.inl ⟨rfl, (intP_range l).1, rfl⟩))
        · split
          · exact .inr (.inr (.inr ⟨rfl, rfl⟩))
          · exact .inl ⟨rfl, rfl, rfl⟩
theorem candR_cl (l : List UInt8) : Cl (candR l) := by
  unfold candR
  split
  · exact .inl ⟨rfl, rfl, rfl⟩
  · split
    · exact .inr (.inl ⟨rfl, .inr rfl, rfl⟩)
    · split
      · exact .inr (.inl ⟨rfl, .inl rfl, rfl⟩)
      · split
        · exact .inr (.inr (.inr ⟨rfl, rfl⟩))
        · split
          · exact .inr (.inr (.inl ⟨rfl, refP_range l, rfl⟩))
          · exact .inl ⟨rfl, rfl, rfl⟩
theorem itoa_word (n : Int) (w : List UInt8) (hw : w = nullL ∨ w = trueL ∨ w = falseL) : Lib.itoa n ≠ w := fun e => by
  have hd : ∀ c r, Lib.itoa n = c :: r → c = 45 ∨ Lx.isDigit c = true := fun c r h => by
    rcases itoa_form n with ⟨d, h1, _⟩ | ⟨_, _, h2, _⟩
    · rw [h1] at h
      exact .inl (List.cons.inj h).1.symm
    · exact .inr (h2 c (by rw [h]; simp))
  rcases hw with rfl | rfl | rfl
  · rcases hd _ _ e with h | h <;> exact absurd h (by decide)
  · rcases hd _ _ e with h | h <;> exact absurd h (by decide)
  · rcases hd _ _ e with h | h <;> exact absurd h (by decide)
theorem itoa_head (n : Int) : (Lib.itoa n).head? ≠ some 39 := fun e => by
  rcases itoa_form n with ⟨d, h1, _⟩ | ⟨_, _, h2, _⟩
  · rw [h1] at e
    exact absurd e (by simp)
  · cases hl : Lib.itoa n with
    | nil => rw [hl] at e; cases e
    | cons c r =>
      rw [hl] at e h2
      obtain rfl : c = 39 := by simpa using e
      exact absurd (h2 39 (by simp)) (by decide)
theorem quote_word (r : List UInt8) (w : List UInt8) (hw : w = nullL ∨ w = trueL ∨ w = falseL) : 39 :: r ≠ w := fun e => by
  rcases hw with rfl | rfl | rfl <;> exact absurd (List.cons.inj e).1 (by decide)
theorem candP_pr (v : Int × Int × List UInt8) (h : Cl v) : candP (prB v) = v := by
  obtain ⟨k, n, s⟩ := v
  rcases h with ⟨h1, h2, h3⟩ | ⟨h1, h2, h3⟩ | ⟨h1, h2, h3⟩ | ⟨h1, h2⟩
  · simp only at h1 h2 h3; subst h1 h2 h3
    rfl
  · simp only at h1 h2 h3; subst h1 h3
    rcases h2 with rfl | rfl <;> rfl
  · simp only at h1 h2 h3; subst h1 h3
    have e : prB (2, n, []) = Lib.itoa n := rfl
    rw [e]
    unfold candP
    rw [if_neg (itoa_word n _ (.inl rfl)), if_neg (itoa_word n _ (.inr (.inl rfl))), if_neg (itoa_word n _ (.inr (.inr rfl))), intP_itoa n h2, if_pos rfl]
  · simp only at h1 h2; subst h1 h2
    have e : prB (3, 0, s) = 39 :: (escQ s ++ [39]) := rfl
    rw [e]
    unfold candP
    rw [if_neg (quote_word _ _ (.inl rfl)), if_neg (quote_word _ _ (.inr (.inl rfl))), if_neg (quote_word _ _ (.inr (.inr rfl))), intP_quote, if_neg (by decide), if_pos (by simp), List.tail_cons, List.dropLast_concat, replaceAll_u]
theorem candR_pr (v : Int × Int × List UInt8) (h : Cl v) : candR (prB v) = v := by
  obtain ⟨k, n, s⟩ := v
  rcases h with ⟨h1, h2, h3⟩ | ⟨h1, h2, h3⟩ | ⟨h1, h2, h3⟩ | ⟨h1, h2⟩
  · simp only at h1 h2 h3; subst h1 h2 h3
    rfl
  · simp only at h1 h2 h3; subst h1 h3
    rcases h2 with rfl | rfl <;> rfl
  · simp only at h1 h2 h3; subst h1 h3
    have e : prB (2, n, []) = Lib.itoa n := rfl
    rw [e]
    unfold candR
    rw [if_neg (itoa_word n _ (.inl rfl)), if_neg (itoa_word n _ (.inr (.inl rfl))), if_neg (itoa_word n _ (.inr (.inr rfl))), if_neg (fun h => itoa_head n h.2), refP_itoa n h2, if_pos rfl]
  · simp only at h1 h2; subst h1 h2
    have e : prB (3, 0, s) = 39 :: (escQ s ++ [39]) := rfl
    rw [e]
    unfold candR
    rw [if_neg (quote_word _ _ (.inl rfl)), if_neg (quote_word _ _ (.inr (.inl rfl))), if_neg (quote_word _ _ (.inr (.inr rfl))), if_pos ⟨by simp, rfl⟩, List.tail_cons, uq_esc]
/-- What a reader answers: its candidate, if that prints so. -/
def readC (c : Int × Int × List UInt8) (l : List UInt8) : (Int × Int × List UInt8) × Bool := if prB c = l then (c, true) else ((0, 0, []), false)
theorem read_same (l : List UInt8) : readC (candP l) l = readC (candR l) l := by
  unfold readC
  by_cases h : prB (candP l) = l
  · have e : candR l = candP l := by
      have := candR_pr (candP l) (candP_cl l)
      rwa [h] at this
    rw [e]
  · rw [if_neg h]
    by_cases h2 : prB (candR l) = l
    · have e : candP l = candR l := by
        have := candP_pr (candR l) (candR_cl l)
        rwa [h2] at this
      rw [← e] at h2
      exact absurd h2 h
    · rw [if_neg h2]
theorem read_print (v : Int × Int × List UInt8) (h : Cl v) : readC (candP (prB v)) (prB v) = (v, true) := by
  unfold readC
  rw [candP_pr v h, if_pos rfl]
end Go.Proofs.YtbdaebjpgdpcnaaGreatDoor
