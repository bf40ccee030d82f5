import Derived.Lib.DecodeN
import Derived.WalkKit
namespace Go.Proofs.YtchpbdodlbghaaaGreatDoor
set_option maxRecDepth 100000

def nb (l : List UInt8) (i : Nat) : Nat := (l.getD i 0).toNat
theorem nb_lt (l : List UInt8) (i : Nat) : nb l i < 256 := (l.getD i 0).toNat_lt
def sgnN (n b0 b1 b2 b3 : Nat) : Nat × Nat :=
  if (Lib.decodeN n b0 b1 b2 b3).1 = 65533 ∧ (Lib.decodeN n b0 b1 b2 b3).2 = 1 then (1114112 + b0, 1) else Lib.decodeN n b0 b1 b2 b3
def sgn (l : List UInt8) : Nat × Nat := sgnN l.length (nb l 0) (nb l 1) (nb l 2) (nb l 3)
def isSign (c : Nat) : Bool := decide (c < 55296) || decide (57344 ≤ c) && decide (c < 1114112) || decide (1114240 ≤ c) && decide (c ≤ 1114367)
set_option maxHeartbeats 4000000 in
theorem sgnN_ok (n b0 b1 b2 b3 : Nat) (hn : 1 ≤ n) (h0 : b0 < 256) (_h1 : b1 < 256) (_h2 : b2 < 256) (_h3 : b3 < 256) :
    1 ≤ (sgnN n b0 b1 b2 b3).2 ∧ (sgnN n b0 b1 b2 b3).2 ≤ n ∧ isSign (sgnN n b0 b1 b2 b3).1 = true ∧ (sgnN n b0 b1 b2 b3).1 ≤ 1114367 := by
  unfold sgnN Lib.decodeN isSign
  repeat' split
  all_goals simp at *
  all_goals omega
theorem sgn_ok (l : List UInt8) (h : l ≠ []) : 1 ≤ (sgn l).2 ∧ (sgn l).2 ≤ l.length ∧ isSign (sgn l).1 = true ∧ (sgn l).1 ≤ 1114367 :=
  sgnN_ok _ _ _ _ _ (List.length_pos_iff.2 h) (nb_lt _ _) (nb_lt _ _) (nb_lt _ _) (nb_lt _ _)
def signs (l : List UInt8) : List Nat :=
  if _h : l = [] then [] else (sgn l).1 :: signs (l.drop (sgn l).2)
termination_by l.length
decreasing_by
  have := sgn_ok l _h
  rw [List.length_drop]; omega
theorem signs_nil : signs [] = [] := by rw [signs]; simp
theorem signs_cons (l : List UInt8) (h : l ≠ []) : signs l = (sgn l).1 :: signs (l.drop (sgn l).2) := by rw [signs, dif_neg h]
theorem signs_all (l : List UInt8) : ∀ c ∈ signs l, isSign c = true ∧ c ≤ 1114367 := by
  intro c hc
  generalize hn : l.length = n
  induction n using Nat.strongRecOn generalizing l with
  | ind n ih =>
    by_cases h : l = []
    · subst h; rw [signs_nil] at hc; cases hc
    · have hk := sgn_ok l h
      rw [signs_cons l h, List.mem_cons] at hc
      rcases hc with rfl | hc
      · exact hk.2.2
      · exact ih (l.drop (sgn l).2).length (by rw [List.length_drop]; omega) _ hc rfl
theorem signs_length (l : List UInt8) : (signs l).length ≤ l.length := by
  generalize hn : l.length = n
  induction n using Nat.strongRecOn generalizing l with
  | ind n ih =>
    by_cases h : l = []
    · subst h; rw [signs_nil]; simp
    · have hk := sgn_ok l h
      rw [signs_cons l h, List.length_cons]
      have := ih (l.drop (sgn l).2).length (by rw [List.length_drop]; omega) _ rfl
      rw [List.length_drop] at this
      omega
def foldC (c : Nat) : Nat :=
  if 65 ≤ c ∧ c ≤ 90 ∨ 192 ≤ c ∧ c ≤ 222 ∧ c ≠ 215 ∨ 913 ≤ c ∧ c ≤ 937 ∧ c ≠ 930 ∨ 1040 ≤ c ∧ c ≤ 1071 then c + 32 else if 1024 ≤ c ∧ c ≤ 1039 then c + 80 else c
theorem foldC_le (c : Nat) (h : c ≤ 1114367) : foldC c ≤ 1114367 := by
  unfold foldC
  repeat' split
  all_goals omega
def u8 (n : Nat) : UInt8 := UInt8.ofNat n
def oneC (c : Nat) : List UInt8 :=
  if 1114112 ≤ c then [u8 (c - 1114112)] else if c < 128 then [u8 c] else if c < 2048 then [u8 (192 + c / 64), u8 (128 + c % 64)]
  else if c < 65536 then [u8 (224 + c / 4096), u8 (128 + c / 64 % 64), u8 (128 + c % 64)]
  else [u8 (240 + c / 262144), u8 (128 + c / 4096 % 64), u8 (128 + c / 64 % 64), u8 (128 + c % 64)]
theorem oneC_length (c : Nat) : 1 ≤ (oneC c).length ∧ (oneC c).length ≤ 4 := by
  unfold oneC
  repeat' split
  all_goals simp
def putL (l : List Nat) : List UInt8 := l.flatMap oneC
theorem putL_snoc (l : List Nat) (c : Nat) : putL (l ++ [c]) = putL l ++ oneC c := by simp [putL]
theorem putL_length (l : List Nat) : (putL l).length ≤ 4 * l.length := by
  induction l with
  | nil => simp [putL]
  | cons c l ih =>
    have := oneC_length c
    simp [putL] at *
    omega
def foldT (l : List UInt8) : List UInt8 := putL ((signs l).map foldC)

structure El where
  p : Nat
  s : Nat
  t : Nat
  v : Bool
deriving DecidableEq
def El.ok (e : El) : Prop := e.p < 65536 ∧ e.s < 256 ∧ e.t < 128
instance (e : El) : Decidable e.ok := by unfold El.ok; infer_instance
def El.word (e : El) : Nat := e.p * 65536 + e.s * 256 + e.t * 2 + (if e.v then 1 else 0)
theorem El.word_lt (e : El) (h : e.ok) : e.word < 4294967296 := by
  obtain ⟨h1, h2, h3⟩ := h
  unfold El.word
  split <;> omega
def El.wt (e : El) (level : Nat) : Nat := if level = 1 then e.p else if level = 2 then e.s else if level = 3 then e.t else 0
def low (c : Nat) (t : Nat) : El := ⟨256 + 8 * c, 32, t, false⟩
def mk (s : Nat) : El := ⟨0, s, 2, false⟩
def marked (base c : Nat) (ms : List Nat) : List (Nat × List El) :=
  ms.zipIdx.flatMap fun (m, i) => [(base + i, [low c 8, mk m]), (base + i + 32, [low c 2, mk m])]
def rootL : List (Nat × List El) :=
  ([32, 95, 45, 44, 46, 39].zipIdx.map fun (c, i) => (c, [⟨16 + 4 * i, 32, 2, true⟩])) ++
  ((List.range 10).map fun i => (48 + i, [⟨128 + 4 * i, 32, 2, false⟩])) ++
  ((List.range 26).flatMap fun i => [(97 + i, [low i 2]), (65 + i, [low i 8])]) ++
  [(0x300, [mk 0x25]), (0x301, [mk 0x24]), (0x302, [mk 0x27]), (0x303, [mk 0x2d]), (0x304, [mk 0x2f]), (0x308, [mk 0x2b]), (0x30a, [mk 0x29]), (0x327, [mk 0x30])] ++
  marked 0xc0 0 [0x25, 0x24, 0x27, 0x2d, 0x2b, 0x29] ++ marked 0xc7 2 [0x30] ++ marked 0xc8 4 [0x25, 0x24, 0x27, 0x2b] ++
  marked 0xcc 8 [0x25, 0x24, 0x27, 0x2b] ++ marked 0xd1 13 [0x2d] ++ marked 0xd2 14 [0x25, 0x24, 0x27, 0x2d, 0x2b] ++
  marked 0xd9 20 [0x25, 0x24, 0x27, 0x2b] ++ marked 0xdd 24 [0x24] ++
  [(0xdf, [low 18 4, low 18 4]), (0xc6, [low 0 10, low 4 10]), (0xe6, [low 0 4, low 4 4]), (0xad, [])]
theorem rootL_length : rootL.length = 132 := by decide +kernel
theorem rootL_nodup : (rootL.map (·.1)).Nodup := by decide +kernel
theorem rootL_ok : ∀ x ∈ rootL, x.1 ≤ 1000 ∧ x.2.length ≤ 2 ∧ ∀ e ∈ x.2, e.ok := by decide +kernel
def implE (c : Nat) : List El := [⟨64256 + c / 32768, 32, 2, false⟩, ⟨32768 + c % 32768, 32, 2, false⟩]
def rootAt (c : Nat) : Option (List El) := (rootL.find? (fun x => x.1 == c)).map (·.2)
theorem rootAt_mem {c : Nat} {l : List El} : rootAt c = some l ↔ (c, l) ∈ rootL := by
  unfold rootAt
  rw [Option.map_eq_some_iff]
  constructor
  · rintro ⟨x, h, rfl⟩
    have h1 := List.find?_some h
    have h2 := List.mem_of_find?_eq_some h
    simp at h1
    subst h1
    exact h2
  · intro h
    cases hf : rootL.find? (fun x => x.1 == c) with
    | none =>
      rw [List.find?_eq_none] at hf
      exact absurd (by simp) (hf _ h)
    | some x =>
      have h1 := List.find?_some hf
      have h2 := List.mem_of_find?_eq_some hf
      simp at h1
      refine ⟨x, rfl, ?_⟩
      have hnd := rootL_nodup
      rw [List.Nodup, List.pairwise_map] at hnd
      have hp := List.pairwise_iff_getElem.1 hnd
      obtain ⟨i, hi, rfl⟩ := List.getElem_of_mem h2
      obtain ⟨j, hj, hje⟩ := List.getElem_of_mem h
      rcases Nat.lt_trichotomy i j with hlt | heq | hgt
      · exact absurd (h1.trans (by rw [hje])) (hp i j hi hj hlt)
      · subst heq; rw [hje]
      · exact absurd ((by rw [hje] : rootL[j].1 = c).trans h1.symm) (hp j i hj hi hgt)
def elsC (c : Nat) : List El := (rootAt c).getD (implE c)
def els (l : List Nat) : List El := l.flatMap elsC
theorem els_snoc (l : List Nat) (c : Nat) : els (l ++ [c]) = els l ++ elsC c := by simp [els]
theorem elsC_len (c : Nat) : (elsC c).length ≤ 2 := by
  unfold elsC
  cases h : rootAt c with
  | none => simp [implE]
  | some l => exact (rootL_ok _ (rootAt_mem.1 h)).2.1
theorem els_len (l : List Nat) : (els l).length ≤ 2 * l.length := by
  induction l with
  | nil => simp [els]
  | cons c l ih =>
    have := elsC_len c
    simp [els] at *
    omega
theorem elsC_ok (c : Nat) (h : c ≤ 1114367) : ∀ e ∈ elsC c, e.ok := by
  unfold elsC
  cases hr : rootAt c with
  | none =>
    intro e he
    simp [implE] at he
    rcases he with rfl | rfl <;> (unfold El.ok; simp only; omega)
  | some l => exact (rootL_ok _ (rootAt_mem.1 hr)).2.2
theorem els_ok (l : List Nat) (h : ∀ c ∈ l, c ≤ 1114367) : ∀ e ∈ els l, e.ok := by
  intro e he
  simp only [els, List.mem_flatMap] at he
  obtain ⟨c, hc, he⟩ := he
  exact elsC_ok c (h c hc) e he

def cnts (level : Nat) (shift : Bool) (e : El) : Bool := decide (0 < e.wt level) && !(shift && e.v)
def wts (level : Nat) (shift back : Bool) (l : List El) : List Nat :=
  if level = 2 ∧ back = true then ((l.filter (cnts level shift)).map (·.wt level)).reverse else (l.filter (cnts level shift)).map (·.wt level)
def cmpN (a b : Nat) : Int := if a < b then -1 else if b < a then 1 else 0
def cmpL : List Nat → List Nat → Int
  | [], [] => 0
  | [], _ :: _ => -1
  | _ :: _, [] => 1
  | a :: x, b :: y => if a < b then -1 else if b < a then 1 else cmpL x y
def weighL (shift back : Bool) (x y : List El) : List Nat → Int
  | [] => 0
  | i :: r => if cmpL (wts i shift back x) (wts i shift back y) ≠ 0 then cmpL (wts i shift back x) (wts i shift back y) else weighL shift back x y r
def bytesN (l : List UInt8) : List Nat := l.map UInt8.toNat
def collC (kind : Int) (level : Nat) (shift back : Bool) (a b : List UInt8) : Int :=
  if kind = 2 then cmpL (bytesN (foldT a)) (bytesN (foldT b)) else if kind = 3 then weighL shift back (els (signs a)) (els (signs b)) (List.range' 1 level) else cmpL (bytesN a) (bytesN b)

theorem cmpL_refl : ∀ x, cmpL x x = 0
  | [] => rfl
  | a :: x => by simp [cmpL, cmpL_refl x]
theorem cmpL_swap : ∀ x y, cmpL y x = -cmpL x y
  | [], [] => rfl
  | [], _ :: _ => rfl
  | _ :: _, [] => rfl
  | a :: x, b :: y => by
    rw [cmpL, cmpL]
    rcases Nat.lt_trichotomy a b with h | h | h
    · rw [if_neg (by omega), if_pos h, if_pos h]; rfl
    · rw [if_neg (by omega), if_neg (by omega), if_neg (by omega), if_neg (by omega)]; exact cmpL_swap x y
    · rw [if_pos h, if_neg (by omega), if_pos h]
theorem cmpL_vals : ∀ x y, cmpL x y = -1 ∨ cmpL x y = 0 ∨ cmpL x y = 1
  | [], [] => .inr (.inl rfl)
  | [], _ :: _ => .inl rfl
  | _ :: _, [] => .inr (.inr rfl)
  | a :: x, b :: y => by
    rw [cmpL]
    split
    · exact .inl rfl
    · split
      · exact .inr (.inr rfl)
      · exact cmpL_vals x y
theorem cmpL_eq : ∀ x y, cmpL x y = 0 → x = y
  | [], [], _ => rfl
  | [], _ :: _, h => by simp [cmpL] at h
  | _ :: _, [], h => by simp [cmpL] at h
  | a :: x, b :: y, h => by
    rw [cmpL] at h
    split at h
    · cases h
    · split at h
      · cases h
      · rw [cmpL_eq x y h, show a = b by omega]
theorem cmpL_trans : ∀ x y z, cmpL x y = -1 → cmpL y z = -1 → cmpL x z = -1
  | [], [], _, h, _ => by simp [cmpL] at h
  | [], _ :: _, [], _, h => by simp [cmpL] at h
  | [], _ :: _, _ :: _, _, _ => rfl
  | _ :: _, [], _, h, _ => by simp [cmpL] at h
  | _ :: _, _ :: _, [], _, h => by simp [cmpL] at h
  | a :: x, b :: y, c :: z, h, k => by
    rw [cmpL] at h k ⊢
    split at h
    · split at k
      · rw [if_pos (by omega)]
      · split at k
        · cases k
        · rw [if_pos (by omega)]
    · split at h
      · cases h
      · split at k
        · rw [if_pos (by omega)]
        · split at k
          · cases k
          · rw [if_neg (by omega), if_neg (by omega)]; exact cmpL_trans x y z h k
structure Chain {α : Type} (f : α → α → Int) : Prop where
  refl : ∀ x, f x x = 0
  swap : ∀ x y, f y x = -f x y
  vals : ∀ x y, f x y = -1 ∨ f x y = 0 ∨ f x y = 1
  eql : ∀ x y z, f x y = 0 → f x z = f y z
  trans : ∀ x y z, f x y = -1 → f y z = -1 → f x z = -1
theorem chain_cmpL : Chain cmpL := ⟨cmpL_refl, cmpL_swap, cmpL_vals, fun x y z h => by rw [cmpL_eq x y h], cmpL_trans⟩
theorem Chain.map {α β : Type} {f : α → α → Int} (h : Chain f) (g : β → α) : Chain fun x y => f (g x) (g y) :=
  ⟨fun _ => h.refl _, fun _ _ => h.swap _ _, fun _ _ => h.vals _ _, fun _ _ _ k => h.eql _ _ _ k, fun _ _ _ => h.trans _ _ _⟩
theorem Chain.then {α : Type} {f g : α → α → Int} (h : Chain f) (k : Chain g) : Chain fun x y => if f x y ≠ 0 then f x y else g x y := by
  refine ⟨fun x => ?_, fun x y => ?_, fun x y => ?_, fun x y z hz => ?_, fun x y z h1 h2 => ?_⟩
  · simp [h.refl, k.refl]
  · rw [h.swap x y]
    by_cases h0 : f x y = 0
    · simp [h0, k.swap x y]
    · simp [h0]
  · by_cases h0 : f x y = 0
    · simp [h0, k.vals x y]
    · have := h.vals x y; simp [h0]; omega
  · by_cases h0 : f x y = 0
    · simp only [h0, ne_eq, not_true_eq_false, if_false] at hz
      rw [h.eql x y z h0, k.eql x y z hz]
    · simp [h0] at hz
  · by_cases h0 : f x y = 0
    · simp only [h0, ne_eq, not_true_eq_false, if_false] at h1
      rw [h.eql x y z h0]
      by_cases h3 : f y z = 0
      · simp only [h3, ne_eq, not_true_eq_false, if_false] at h2 ⊢
        exact k.trans x y z h1 h2
      · simp only [h3, ne_eq, not_false_eq_true, if_true] at h2 ⊢
        exact h2
    · simp only [h0, ne_eq, not_false_eq_true, if_true] at h1
      by_cases h3 : f y z = 0
      · have h4 : f x z = f x y := by
          have e1 := h.eql y z x h3
          have e2 := h.swap x y
          have e3 := h.swap x z
          omega
        rw [h4, h1]; rfl
      · simp only [h3, ne_eq, not_false_eq_true, if_true] at h2
        rw [h.trans x y z h1 h2]; rfl
theorem chain_weigh (shift back : Bool) : ∀ lv, Chain fun x y => weighL shift back x y lv
  | [] => ⟨fun _ => rfl, fun _ _ => rfl, fun _ _ => .inr (.inl rfl), fun _ _ _ _ => rfl, fun _ _ _ h => by simp [weighL] at h⟩
  | i :: r => by
    have := (chain_cmpL.map (wts i shift back)).then (chain_weigh shift back r)
    exact this
theorem chain_coll (kind : Int) (level : Nat) (shift back : Bool) : Chain (collC kind level shift back) := by
  by_cases h2 : kind = 2
  · have h := chain_cmpL.map fun a => bytesN (foldT a)
    have e : collC kind level shift back = fun x y => cmpL (bytesN (foldT x)) (bytesN (foldT y)) := by
      funext x y; rw [collC, if_pos h2]
    rw [e]; exact h
  · by_cases h3 : kind = 3
    · have h := (chain_weigh shift back (List.range' 1 level)).map fun a => els (signs a)
      have e : collC kind level shift back = fun x y => weighL shift back (els (signs x)) (els (signs y)) (List.range' 1 level) := by
        funext x y; rw [collC, if_neg h2, if_pos h3]
      rw [e]; exact h
    · have h := chain_cmpL.map bytesN
      have e : collC kind level shift back = fun x y => cmpL (bytesN x) (bytesN y) := by
        funext x y; rw [collC, if_neg h2, if_neg h3]
      rw [e]; exact h
end Go.Proofs.YtchpbdodlbghaaaGreatDoor
