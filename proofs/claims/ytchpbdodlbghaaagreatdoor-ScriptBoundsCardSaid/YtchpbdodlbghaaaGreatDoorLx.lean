import Derived.Lib.Case
import Derived.Lib.ParseIntB
import Derived.Lib.IndexMore
namespace Go.Proofs.YtchpbdodlbghaaaGreatDoor.Lx

def isDigit (c : UInt8) : Bool := 48 ≤ c && c ≤ 57
def isLetter (c : UInt8) : Bool := (97 ≤ c && c ≤ 122) || (65 ≤ c && c ≤ 90) || c == 95
def isNameB (c : UInt8) : Bool := isLetter c || isDigit c
def isBlank (c : UInt8) : Bool := c == 32 || c == 9 || c == 10 || c == 13
def span (p : UInt8 → Bool) : List UInt8 → Nat
  | [] => 0
  | c :: r => if p c then span p r + 1 else 0
def skip : Bool → List UInt8 → Nat
  | _, [] => 0
  | true, c :: r => if c = 10 then skip false r + 1 else skip true r + 1
  | false, c :: r => if isBlank c then skip false r + 1 else if c = 45 ∧ r.head? = some 45 then skip true r + 1 else 0
def quote : List UInt8 → Option (List UInt8 × Nat)
  | [] => none
  | [c] => if c = 39 then some ([], 1) else none
  | c :: d :: r => if c = 39 then (if d = 39 then (quote r).map fun x => (39 :: x.1, x.2 + 2) else some ([], 1)) else (quote (d :: r)).map fun x => (c :: x.1, x.2 + 1)
def words : List (List UInt8) := [[65, 76, 76], [65, 78, 68], [65, 83], [65, 83, 67], [66, 65, 67, 75], [66, 69, 84, 87, 69, 69, 78], [66, 79, 79, 76], [66, 89], [67, 65, 83, 84], [67, 79, 76, 76, 65, 84, 69], [67, 79, 76, 76, 65, 84, 73, 79, 78], [67, 82, 69, 65, 84, 69], [68, 69, 76, 69, 84, 69], [68, 69, 83, 67], [68, 73, 83, 84, 73, 78, 67, 84], [68, 82, 79, 80], [69, 83, 67, 65, 80, 69], [70, 65, 76, 83, 69], [70, 82, 79, 77], [71, 82, 79, 85, 80], [72, 65, 86, 73, 78, 71], [73, 78], [73, 78, 68, 69, 88], [73, 78, 83, 69, 82, 84], [73, 78, 84], [73, 78, 84, 79], [73, 83], [74, 79, 73, 78], [76, 69, 86, 69, 76], [76, 73, 75, 69], [76, 73, 77, 73, 84], [78, 79, 84], [78, 85, 76, 76], [79, 70, 70, 83, 69, 84], [79, 78], [79, 82], [79, 82, 68, 69, 82], [83, 69, 76, 69, 67, 84], [83, 69, 84], [83, 72, 73, 70, 84], [84, 65, 66, 76, 69], [84, 69, 88, 84], [84, 82, 85, 69], [85, 78, 73, 81, 85, 69], [85, 80, 68, 65, 84, 69], [86, 65, 76, 85, 69, 83], [87, 72, 69, 82, 69], [88, 79, 82]]
def isWord (l : List UInt8) : Bool := words.contains l
def num (l : List UInt8) : Nat := l.foldl (fun a c => a * 10 + (c.toNat - 48)) 0
def ops1 : List UInt8 := [40, 41, 44, 46, 59, 42, 61, 60, 62, 43, 45, 47, 37, 38, 124, 94]
def ops2 : List (List UInt8) := [[60, 62], [60, 61], [62, 61], [60, 60], [62, 62], [124, 124]]

structure Tok where
  kind : Nat
  text : List UInt8
  n : Int
  pos : Nat

def tok1 : List UInt8 → Option (Nat × List UInt8 × Int × Nat)
  | [] => none
  | c :: r =>
    if isDigit c then
      (if num ((c :: r).take (span isDigit (c :: r))) ≤ 9223372036854775807 ∧ ((c :: r).drop (span isDigit (c :: r))).head?.all (fun d => !isLetter d) then
        some (3, [], (num ((c :: r).take (span isDigit (c :: r))) : Int), span isDigit (c :: r)) else none)
    else if isLetter c then
      (if span isNameB (c :: r) ≤ 16 then
        (if isWord (((c :: r).take (span isNameB (c :: r))).map Lib.upperB) then some (2, ((c :: r).take (span isNameB (c :: r))).map Lib.upperB, 0, span isNameB (c :: r))
         else some (1, ((c :: r).take (span isNameB (c :: r))).map Lib.lowerB, 0, span isNameB (c :: r)))
       else none)
    else if c = 39 then (quote r).map fun x => (4, x.1, 0, x.2 + 1)
    else if ops2.contains ((c :: r).take 2) then some (5, (c :: r).take 2, 0, 2)
    else if ops1.contains c then some (5, [c], 0, 1)
    else none

def lexGo : Nat → List Tok → Nat → List UInt8 → Except Nat (List Tok)
  | 0, acc, _, _ => .ok acc
  | f + 1, acc, pos, l =>
    match l.drop (skip false l) with
    | [] => .ok acc
    | c :: r => match tok1 (c :: r) with
      | none => .error (pos + skip false l)
      | some x => lexGo f (acc ++ [⟨x.1, x.2.1, x.2.2.1, pos + skip false l⟩]) (pos + skip false l + x.2.2.2) ((c :: r).drop x.2.2.2)
def lex (l : List UInt8) : Except Nat (List Tok) := lexGo (l.length + 1) [] 0 l

theorem span_le (p : UInt8 → Bool) : ∀ l : List UInt8, span p l ≤ l.length
  | [] => Nat.le_refl _
  | c :: r => by
    have := span_le p r
    simp only [span, List.length_cons]
    split <;> omega
theorem span_pos {p : UInt8 → Bool} {c : UInt8} {r : List UInt8} (h : p c = true) : 0 < span p (c :: r) := by
  simp [span, h]
theorem span_all (p : UInt8 → Bool) : ∀ l : List UInt8, ∀ x ∈ l.take (span p l), p x = true
  | [], x, h => by simp [span] at h
  | c :: r, x, h => by
    simp only [span] at h
    by_cases hc : p c = true
    · rw [if_pos hc, List.take_succ_cons] at h
      rcases List.mem_cons.1 h with rfl | h
      · exact hc
      · exact span_all p r x h
    · rw [if_neg hc] at h; simp at h
theorem span_step {p : UInt8 → Bool} : ∀ {l : List UInt8} {k : Nat}, k ≤ span p l → (k < span p l ↔ ∃ c, l[k]? = some c ∧ p c = true)
  | [], k, _ => by simp [span]
  | c :: r, 0, _ => by
    simp only [span, List.getElem?_cons_zero, Option.some.injEq, exists_eq_left']
    split
    · rename_i h; simp [h]
    · rename_i h; simp [h]
  | c :: r, k + 1, h => by
    simp only [span] at h ⊢
    by_cases hc : p c = true
    · rw [if_pos hc] at h ⊢
      have := span_step (p := p) (l := r) (k := k) (by omega)
      simp only [List.getElem?_cons_succ]
      rw [← this]; omega
    · rw [if_neg hc] at h; omega
theorem span_ge {p : UInt8 → Bool} : ∀ {l : List UInt8} {k : Nat}, k ≤ l.length → (∀ j, j < k → ∃ c, l[j]? = some c ∧ p c = true) → k ≤ span p l
  | _, 0, _, _ => Nat.zero_le _
  | [], k + 1, h, _ => by simp at h
  | c :: r, k + 1, h, hall => by
    obtain ⟨c', hc, hp⟩ := hall 0 (by omega)
    simp at hc; subst hc
    simp only [span, if_pos hp]
    have := span_ge (p := p) (l := r) (k := k) (by simpa using h) (fun j hj => by simpa using hall (j + 1) (by omega))
    omega

theorem skip_le : ∀ (b : Bool) (l : List UInt8), skip b l ≤ l.length
  | _, [] => by cases ‹Bool› <;> simp [skip]
  | true, c :: r => by
    have h1 := skip_le false r
    have h2 := skip_le true r
    simp only [skip, List.length_cons]
    split <;> omega
  | false, c :: r => by
    have h1 := skip_le false r
    have h2 := skip_le true r
    simp only [skip, List.length_cons]
    split
    · omega
    · split <;> omega
theorem skip_true : ∀ l : List UInt8, skip true l = span (fun c => c != 10) l + skip false (l.drop (span (fun c => c != 10) l))
  | [] => by simp [skip, span]
  | c :: r => by
    have ih := skip_true r
    by_cases h : c = 10
    · subst h; simp [skip, span, isBlank]
    · have h2 : (c != 10) = true := by simp [h]
      simp only [skip, if_neg h, span, h2, if_true, List.drop_succ_cons]
      omega
theorem skip_blank {c : UInt8} {r : List UInt8} (h : isBlank c = true) : skip false (c :: r) = 1 + skip false r := by
  simp only [skip, if_pos h]; omega
theorem skip_remark {r : List UInt8} : skip false (45 :: 45 :: r) = span (fun c => c != 10) (45 :: 45 :: r) + skip false ((45 :: 45 :: r).drop (span (fun c => c != 10) (45 :: 45 :: r))) := by
  have e : skip false (45 :: 45 :: r) = skip true (45 :: 45 :: r) := by simp [skip, isBlank]
  rw [e, skip_true]
theorem skip_stop {c : UInt8} {r : List UInt8} (h : isBlank c = false) (h2 : ¬ (c = 45 ∧ r.head? = some 45)) : skip false (c :: r) = 0 := by
  simp only [skip, h, if_neg h2]
  simp

theorem quote_pos : ∀ {l : List UInt8} {x}, quote l = some x → 0 < x.2 ∧ x.2 ≤ l.length ∧ x.1.length < x.2
  | [], x, h => by simp [quote] at h
  | [c], x, h => by
    simp only [quote] at h
    split at h
    · cases h; simp
    · cases h
  | c :: d :: r, x, h => by
    simp only [quote] at h
    split at h
    · split at h
      · obtain ⟨y, hy, rfl⟩ := Option.map_eq_some_iff.1 h
        have := quote_pos hy
        simp; omega
      · cases h; simp
    · obtain ⟨y, hy, rfl⟩ := Option.map_eq_some_iff.1 h
      have := quote_pos hy
      simp at this ⊢; omega

theorem tok1_pos {l : List UInt8} {x} (h : tok1 l = some x) : 0 < x.2.2.2 ∧ x.2.2.2 ≤ l.length := by
  match l, h with
  | [], h => simp [tok1] at h
  | c :: r, h =>
    simp only [tok1] at h
    split at h
    · rename_i hc
      split at h
      · cases h; exact ⟨span_pos hc, span_le _ _⟩
      · cases h
    · split at h
      · rename_i hc
        have hp : 0 < span isNameB (c :: r) := span_pos (by simp [isNameB, hc])
        split at h
        · split at h <;> (cases h; exact ⟨hp, span_le _ _⟩)
        · cases h
      · split at h
        · obtain ⟨y, hy, rfl⟩ := Option.map_eq_some_iff.1 h
          have := quote_pos hy
          simp; omega
        · split at h
          · rename_i hm
            cases h
            refine ⟨by simp, ?_⟩
            match r, hm with
            | [], hm => simp [ops2] at hm
            | d :: r, _ => simp
          · split at h
            · cases h; simp
            · cases h

theorem lexGo_fuel : ∀ (f g : Nat) (acc : List Tok) (pos : Nat) (l : List UInt8), l.length < f → l.length < g → lexGo f acc pos l = lexGo g acc pos l
  | 0, _, _, _, _, h, _ => absurd h (Nat.not_lt_zero _)
  | _, 0, _, _, _, _, h => absurd h (Nat.not_lt_zero _)
  | f + 1, g + 1, acc, pos, l, hf, hg => by
    simp only [lexGo]
    split
    · rfl
    · rename_i c r hl
      split
      · rfl
      · rename_i x hx
        have h1 := tok1_pos hx
        have h2 : (c :: r).length ≤ l.length := by rw [← hl, List.length_drop]; omega
        exact lexGo_fuel f g _ _ _ (by rw [List.length_drop]; omega) (by rw [List.length_drop]; omega)
def lexAt (acc : List Tok) (pos : Nat) (l : List UInt8) : Except Nat (List Tok) := lexGo (l.length + 1) acc pos l
theorem lexAt_skip {acc : List Tok} {pos m : Nat} {l : List UInt8} (h : skip false l = m + skip false (l.drop m)) : lexAt acc pos l = lexAt acc (pos + m) (l.drop m) := by
  unfold lexAt
  rw [lexGo_fuel ((l.drop m).length + 1) (l.length + 1) acc (pos + m) (l.drop m) (by omega) (by rw [List.length_drop]; omega)]
  simp only [lexGo]
  rw [h, ← List.drop_drop, Nat.add_assoc]
theorem lexAt_end {acc : List Tok} {pos : Nat} {l : List UInt8} (h : l.drop (skip false l) = []) : lexAt acc pos l = .ok acc := by
  unfold lexAt; simp only [lexGo]; rw [h]
theorem lexAt_err {acc : List Tok} {pos : Nat} {l : List UInt8} {c : UInt8} {r : List UInt8} (h : l.drop (skip false l) = c :: r) (ht : tok1 (c :: r) = none) : lexAt acc pos l = .error (pos + skip false l) := by
  unfold lexAt; simp only [lexGo]; rw [h]; simp only [ht]
theorem lexAt_tok {acc : List Tok} {pos : Nat} {l : List UInt8} {c : UInt8} {r : List UInt8} (h : l.drop (skip false l) = c :: r) {x} (ht : tok1 (c :: r) = some x) :
    lexAt acc pos l = lexAt (acc ++ [⟨x.1, x.2.1, x.2.2.1, pos + skip false l⟩]) (pos + skip false l + x.2.2.2) ((c :: r).drop x.2.2.2) := by
  have h1 := tok1_pos ht
  have h2 : (c :: r).length ≤ l.length := by rw [← h, List.length_drop]; omega
  have e : lexAt acc pos l = lexGo l.length (acc ++ [⟨x.1, x.2.1, x.2.2.1, pos + skip false l⟩]) (pos + skip false l + x.2.2.2) ((c :: r).drop x.2.2.2) := by
    unfold lexAt; simp only [lexGo]; rw [h]; simp only [ht]
  rw [e]
  unfold lexAt
  exact lexGo_fuel _ _ _ _ _ (by rw [List.length_drop]; omega) (by omega)
theorem lex_eq (l : List UInt8) : lex l = lexAt [] 0 l := rfl
end Go.Proofs.YtchpbdodlbghaaaGreatDoor.Lx
