/-
 Texts' keys, in plain Lean: two are one just if the collation holds the texts for the same. A value's key in plain Lean: two are one just if the values are the same. A range over a function whose rounds never leave it, over an iterator that also turns one box of its own. Texts' keys: the stream of a collation's bytes, and the key that it makes. A text's key (skey.Key).
-/
import Derived.Test.YtipokgedmfnlaaaGreatDoorTab
import Derived.Lib.Replace
import Derived.Test.YtipokgedmfnlaaaGreatDoorColls
import Derived.Test.YtipokgedmfnlaaaGreatDoorCuts
import Derived.Laws.Bits64
import Derived.RangeFuncNested
import Derived.RangeFuncLeaves
import Derived.Shelf.Abstract
import Derived.WalkKit
import Derived.OwnWalkIn
import Derived.TacticsInMore
import Derived.LoopNIn
import Derived.LoopIn
import Derived.Maps.AppendAt
import Derived.ArgAppend
import Derived.Test.YtipokgedmfnlaaaGreatDoorPar
import Derived.Test.YtipokgedmfnlaaaGreatDoorOwn
import Derived.Shelf.RegionOpen
namespace Go.Proofs.YtipokgedmfnlaaaGreatDoor
set_option maxRecDepth 100000

/-! ### A text that ends by itself -/
def escB (l : List UInt8) : List UInt8 := l.flatMap fun b => if b = 0 then [0, 255] else [b]
theorem escB_inj : ∀ a b, escB a = escB b → a = b
 | [], [], _ => rfl
 | [], y :: b, h => by
  simp only [escB, List.flatMap_cons, List.flatMap_nil] at h
  split at h <;> simp at h
 | x :: a, [], h => by
  simp only [escB, List.flatMap_cons, List.flatMap_nil] at h
  split at h <;> simp at h
 | x :: a, y :: b, h => by
  have ih := escB_inj a b
  simp only [escB, List.flatMap_cons] at h ih
  by_cases hx : x = 0
  ·by_cases hy : y = 0
   ·rw [if_pos hx, if_pos hy] at h
    rw [ih (by simpa using h), hx, hy]
   ·rw [if_pos hx, if_neg hy] at h
    simp at h
    exact absurd h.1.symm hy
  ·by_cases hy : y = 0
   ·rw [if_neg hx, if_pos hy] at h
    simp at h
    exact absurd h.1 hx
   ·rw [if_neg hx, if_neg hy] at h
    simp at h
    rw [h.1, ih h.2]
theorem escB_len (l : List UInt8) : (escB l).length ≤ 2 * l.length := by
 induction l with
 | nil => simp [escB]
 | cons x l ih =>
  simp only [escB, List.flatMap_cons, List.length_append, List.length_cons] at ih ⊢
  split <;> simp only [List.length_cons, List.length_nil] <;> omega
theorem replaceK_zero : ∀ l : List UInt8, Lib.replaceK [0] [0, 255] (Lib.count l [0]) l = escB l
 | [] => by
  rw [Lib.count_one]
  rfl
 | b :: l => by
  have ih := replaceK_zero l
  by_cases hb : b = 0
  ·subst hb
   have hix : Lib.index (0 :: l) [0] = ((0 : Nat) : Int) := by rw [Lib.index]; simp [List.isPrefixOf]
   rw [Lib.count_cons_eq, Nat.add_comm, Lib.replaceK_hit _ _ _ _ 0 hix]
   simp only [List.take_zero, List.nil_append, List.length_singleton, Nat.zero_add, List.drop_succ_cons, List.drop_zero]
   rw [ih]
   simp [escB]
  ·rw [Lib.count_cons_ne b 0 l hb]
   have he : escB (b :: l) = b :: escB l := by simp [escB, hb]
   rw [he, ← ih]
   cases hk : Lib.count l [0] with
   | zero => rfl
   | succ k =>
    obtain ⟨i, hi⟩ := Lib.index_of_count (s := l) (old := [0]) (by omega)
    have hp : ([0] : List UInt8).isPrefixOf (b :: l) = false := by simp [List.isPrefixOf, Ne.symm hb]
    have hix : Lib.index (b :: l) [0] = ((i + 1 : Nat) : Int) := by
     rw [Lib.index, hp]
     first | (simp [hi]; done) | (simp [hi]; omega)
    rw [Lib.replaceK_hit _ _ _ _ _ hix, Lib.replaceK_hit _ _ _ _ _ hi]
    simp
theorem replaceAll_zero (l : List UInt8) : Lib.replaceAll l [0] [0, 255] = escB l := by
 rw [← replaceK_zero l]
 unfold Lib.replaceAll Lib.replace Lib.replaceNum
 rw [if_neg (by decide), if_pos (by simp)]

/-! ### Streams of weights -/
structure Cod (c : Nat → List UInt8) (B k : Nat) : Prop where
 pos : 0 < k
 len : ∀ x, (c x).length = k
 inj : ∀ x y, x < B → y < B → c x = c y → x = y
theorem code_one {c : Nat → List UInt8} {B k : Nat} (hc : Cod c B k) : ∀ xs ys : List Nat, (∀ x ∈ xs, x < B) → (∀ x ∈ ys, x < B) → xs.flatMap c = ys.flatMap c → xs = ys
 | [], [], _, _, _ => rfl
 | [], y :: ys, _, _, h => by
  have := congrArg List.length h
  simp [hc.len] at this
  have := hc.pos
  omega
 | x :: xs, [], _, _, h => by
  have := congrArg List.length h
  simp [hc.len] at this
  have := hc.pos
  omega
 | x :: xs, y :: ys, hx, hy, h => by
  simp only [List.flatMap_cons] at h
  obtain ⟨h1, h2⟩ := List.append_inj h ((hc.len x).trans (hc.len y).symm)
  rw [hc.inj x y (hx x (by simp)) (hy y (by simp)) h1, code_one hc xs ys (fun z hz => hx z (by simp [hz])) (fun z hz => hy z (by simp [hz])) h2]
theorem code_end {c : Nat → List UInt8} {B k : Nat} (hc : Cod c B k) (h0 : 0 < B) : ∀ (xs ys : List Nat) (r q : List UInt8), (∀ x ∈ xs, 0 < x ∧ x < B) → (∀ x ∈ ys, 0 < x ∧ x < B) → (xs ++ [0]).flatMap c ++ r = (ys ++ [0]).flatMap c ++ q → xs = ys ∧ r = q
 | [], [], r, q, _, _, h => ⟨rfl, by simpa using h⟩
 | [], y :: ys, r, q, _, hy, h => by
  simp only [List.nil_append, List.flatMap_cons, List.flatMap_nil, List.append_nil, List.cons_append, List.append_assoc] at h
  obtain ⟨h1, _⟩ := List.append_inj h ((hc.len 0).trans (hc.len y).symm)
  have := hc.inj 0 y h0 (hy y (by simp)).2 h1
  have := (hy y (by simp)).1
  omega
 | x :: xs, [], r, q, hx, _, h => by
  simp only [List.nil_append, List.flatMap_cons, List.flatMap_nil, List.append_nil, List.cons_append, List.append_assoc] at h
  obtain ⟨h1, _⟩ := List.append_inj h ((hc.len x).trans (hc.len 0).symm)
  have := hc.inj x 0 (hx x (by simp)).2 h0 h1
  have := (hx x (by simp)).1
  omega
 | x :: xs, y :: ys, r, q, hx, hy, h => by
  simp only [List.flatMap_cons, List.cons_append, List.append_assoc] at h
  obtain ⟨h1, h2⟩ := List.append_inj h ((hc.len x).trans (hc.len y).symm)
  obtain ⟨h3, h4⟩ := code_end hc h0 xs ys r q (fun z hz => hx z (by simp [hz])) (fun z hz => hy z (by simp [hz])) h2
  rw [hc.inj x y (hx x (by simp)).2 (hy y (by simp)).2 h1, h3]
  exact ⟨rfl, h4⟩
def wtB (i w : Nat) : List UInt8 := if i = 1 then [u8 (w / 256), u8 w] else [u8 w]
theorem u8_inj {a b : Nat} (ha : a < 256) (hb : b < 256) (h : u8 a = u8 b) : a = b := by
 have := congrArg UInt8.toNat h
 simp [u8] at this
 omega
theorem code_wide : Cod (wtB 1) 65536 2 := ⟨by omega, fun x => rfl, fun x y hx hy h => by
 simp only [wtB, if_true, List.cons.injEq, and_true] at h
 have h1 := u8_inj (by omega) (by omega) h.1
 have h2 := congrArg UInt8.toNat h.2
 simp [u8] at h2
 omega⟩
theorem code_byte (i : Nat) (hi : i ≠ 1) : Cod (wtB i) 256 1 := ⟨by omega, fun x => by simp [wtB, hi], fun x y hx hy h => by
 simp only [wtB, if_neg hi, List.cons.injEq, and_true] at h
 exact u8_inj hx hy h⟩
/-- A level's bytes, and all levels'. -/
def levB (sh : Bool) (lv : Nat) (es : List El) (i : Nat) : List UInt8 := (wts i sh false es ++ if i < lv then [0] else []).flatMap (wtB i)
def streamB (sh : Bool) (lv : Nat) (es : List El) : List UInt8 := (List.range' 1 lv).flatMap (levB sh lv es)
theorem wts_in (i : Nat) (sh : Bool) (es : List El) (_hi : 1 ≤ i ∧ i ≤ 3) (hok : ∀ e ∈ es, e.ok) : ∀ x ∈ wts i sh false es, 0 < x ∧ x < (if i = 1 then 65536 else 256) := by
 intro x hx
 unfold wts at hx
 rw [if_neg (by simp)] at hx
 obtain ⟨e, he, rfl⟩ := List.mem_map.1 hx
 obtain ⟨hm, hc⟩ := List.mem_filter.1 he
 obtain ⟨h1, h2, h3⟩ := hok e hm
 unfold cnts at hc
 simp at hc
 refine ⟨hc.1, ?_⟩
 unfold El.wt
 repeat' split
 all_goals omega
theorem lev_last (i : Nat) (sh : Bool) (a b : List El) (hi : 1 ≤ i ∧ i ≤ 3) (ha : ∀ e ∈ a, e.ok) (hb : ∀ e ∈ b, e.ok) (h : levB sh i a i = levB sh i b i) : wts i sh false a = wts i sh false b := by
 unfold levB at h
 rw [if_neg (by omega), List.append_nil, List.append_nil] at h
 by_cases h1 : i = 1
 ·subst h1
  exact code_one code_wide _ _ (fun x hx => by simpa using (wts_in 1 sh a hi ha x hx).2) (fun x hx => by simpa using (wts_in 1 sh b hi hb x hx).2) h
 ·exact code_one (code_byte i h1) _ _ (fun x hx => by simpa [h1] using (wts_in i sh a hi ha x hx).2) (fun x hx => by simpa [h1] using (wts_in i sh b hi hb x hx).2) h
theorem lev_more (i lv : Nat) (sh : Bool) (a b : List El) (r q : List UInt8) (hl : i < lv) (hi : 1 ≤ i ∧ i ≤ 3) (ha : ∀ e ∈ a, e.ok) (hb : ∀ e ∈ b, e.ok) (h : levB sh lv a i ++ r = levB sh lv b i ++ q) : wts i sh false a = wts i sh false b ∧ r = q := by
 unfold levB at h
 rw [if_pos hl] at h
 by_cases h1 : i = 1
 ·subst h1
  exact code_end code_wide (by omega) _ _ _ _ (fun x hx => by simpa using wts_in 1 sh a hi ha x hx) (fun x hx => by simpa using wts_in 1 sh b hi hb x hx) h
 ·exact code_end (code_byte i h1) (by omega) _ _ _ _ (fun x hx => by simpa [h1] using wts_in i sh a hi ha x hx) (fun x hx => by simpa [h1] using wts_in i sh b hi hb x hx) h
theorem weigh_zero (sh : Bool) (x y : List El) : ∀ l, weighL sh false x y l = 0 ↔ ∀ i ∈ l, wts i sh false x = wts i sh false y
 | [] => by simp [weighL]
 | i :: l => by
  have ih := weigh_zero sh x y l
  rw [weighL]
  by_cases h : cmpL (wts i sh false x) (wts i sh false y) = 0
  ·rw [if_neg (by simp [h]), ih]
   have := cmpL_eq _ _ h
   simp [this]
  ·rw [if_pos h]
   constructor
   ·intro h2; exact absurd h2 h
   ·intro h2
    rw [h2 i (by simp)] at h
    exact absurd (cmpL_refl _) h
theorem flatMap_same {f g : Nat → List UInt8} : ∀ l : List Nat, (∀ i ∈ l, f i = g i) → l.flatMap f = l.flatMap g
 | [], _ => rfl
 | i :: l, h => by rw [List.flatMap_cons, List.flatMap_cons, h i (by simp), flatMap_same l fun j hj => h j (by simp [hj])]
theorem stream_iff (sh : Bool) (lv : Nat) (a b : List El) (hl : lv = 1 ∨ lv = 2 ∨ lv = 3) (ha : ∀ e ∈ a, e.ok) (hb : ∀ e ∈ b, e.ok) : streamB sh lv a = streamB sh lv b ↔ ∀ i ∈ List.range' 1 lv, wts i sh false a = wts i sh false b := by
 constructor
 ·intro h
  unfold streamB at h
  rcases hl with rfl | rfl | rfl
  ·simp only [show List.range' 1 1 = [1] from rfl, List.flatMap_cons, List.flatMap_nil, List.append_nil] at h
   have e1 := lev_last 1 sh a b (by omega) ha hb h
   intro i hi
   simp [show List.range' 1 1 = [1] from rfl] at hi
   subst hi; exact e1
  ·simp only [show List.range' 1 2 = [1, 2] from rfl, List.flatMap_cons, List.flatMap_nil, List.append_nil] at h
   obtain ⟨e1, h⟩ := lev_more 1 2 sh a b _ _ (by omega) (by omega) ha hb h
   have e2 := lev_last 2 sh a b (by omega) ha hb h
   intro i hi
   simp [show List.range' 1 2 = [1, 2] from rfl] at hi
   rcases hi with rfl | rfl
   ·exact e1
   ·exact e2
  ·simp only [show List.range' 1 3 = [1, 2, 3] from rfl, List.flatMap_cons, List.flatMap_nil, List.append_nil] at h
   obtain ⟨e1, h⟩ := lev_more 1 3 sh a b _ _ (by omega) (by omega) ha hb h
   obtain ⟨e2, h⟩ := lev_more 2 3 sh a b _ _ (by omega) (by omega) ha hb h
   have e3 := lev_last 3 sh a b (by omega) ha hb h
   intro i hi
   simp [show List.range' 1 3 = [1, 2, 3] from rfl] at hi
   rcases hi with rfl | rfl | rfl
   ·exact e1
   ·exact e2
   ·exact e3
 ·intro h
  unfold streamB
  refine flatMap_same _ fun i hi => ?_
  unfold levB
  rw [h i hi]
/-- A text's key. -/
def keyT (kind : Int) (lv : Nat) (sh : Bool) (l : List UInt8) : List UInt8 := if kind = 2 then foldT l else if kind = 3 then streamB sh lv (els (signs l)) else l
theorem bytesN_inj {a b : List UInt8} (h : bytesN a = bytesN b) : a = b := by
 unfold bytesN at h
 exact List.map_inj_right (fun x y hxy => UInt8.toNat_inj.1 hxy) |>.1 h
theorem keyT_iff (kind : Int) (lv : Nat) (sh : Bool) (hl : kind = 3 → lv = 1 ∨ lv = 2 ∨ lv = 3) (a b : List UInt8) : keyT kind lv sh a = keyT kind lv sh b ↔ collC kind lv sh false a b = 0 := by
 unfold keyT collC
 by_cases h2 : kind = 2
 ·simp only [if_pos h2]
  exact ⟨fun h => by rw [h]; exact cmpL_refl _, fun h => bytesN_inj (cmpL_eq _ _ h)⟩
 ·simp only [if_neg h2]
  by_cases h3 : kind = 3
  ·simp only [if_pos h3]
   rw [weigh_zero, stream_iff sh lv _ _ (hl h3) (els_ok _ fun c hc => (signs_all a c hc).2) (els_ok _ fun c hc => (signs_all b c hc).2)]
  ·simp only [if_neg h3]
   exact ⟨fun h => by rw [h]; exact cmpL_refl _, fun h => bytesN_inj (cmpL_eq _ _ h)⟩
theorem lev_len (sh : Bool) (lv : Nat) (es : List El) (i : Nat) : (levB sh lv es i).length ≤ 2 * es.length + 2 := by
 unfold levB
 have h1 : (wts i sh false es).length ≤ es.length := by
  unfold wts
  rw [if_neg (by simp), List.length_map]
  exact List.length_filter_le _ _
 have h2 : ∀ l : List Nat, (l.flatMap (wtB i)).length ≤ 2 * l.length := by
  intro l
  induction l with
  | nil => simp
  | cons x l ih =>
   have : (wtB i x).length ≤ 2 := by unfold wtB; split <;> simp
   simp only [List.flatMap_cons, List.length_append, List.length_cons]; omega
 have h3 := h2 (wts i sh false es ++ if i < lv then [0] else [])
 have h4 : (if i < lv then [0] else ([] : List Nat)).length ≤ 1 := by split <;> simp
 rw [List.length_append] at h3
 omega
end Go.Proofs.YtipokgedmfnlaaaGreatDoor

namespace Go.Proofs.YtipokgedmfnlaaaGreatDoor
open Go.RowKit Go.Lib
set_option maxRecDepth 100000

theorem turn_nat (n : Int) : ∃ a : Nat, a < 18446744073709551616 ∧ (a : Int) = n % 18446744073709551616 ∧ turnU n = ((a ^^^ 9223372036854775808 : Nat) : Int) := by
 refine ⟨(n % 18446744073709551616).toNat, by omega, by omega, ?_⟩
 unfold turnU
 rw [IntKind.wrap_u64]
 have e : (n % 18446744073709551616) = (((n % 18446744073709551616).toNat : Nat) : Int) := by omega
 rw [e]
 exact bits_xor_u64_nat _ 9223372036854775808 (by omega) (by omega)
theorem turn_in (n : Int) : 0 ≤ turnU n ∧ turnU n < 18446744073709551616 := by
 obtain ⟨a, h1, h2, h3⟩ := turn_nat n
 have : a ^^^ 9223372036854775808 < 2 ^ 64 := Nat.xor_lt_two_pow (by omega) (by omega)
 rw [h3]; omega
theorem turn_inj {n m : Int} (hn : -9223372036854775808 ≤ n ∧ n ≤ 9223372036854775807) (hm : -9223372036854775808 ≤ m ∧ m ≤ 9223372036854775807) (h : turnU n = turnU m) : n = m := by
 obtain ⟨a, a1, a2, a3⟩ := turn_nat n
 obtain ⟨b, b1, b2, b3⟩ := turn_nat m
 rw [a3, b3] at h
 have h1 : a ^^^ 9223372036854775808 = b ^^^ 9223372036854775808 := by exact_mod_cast h
 have h2 : a = b := by
  have := congrArg (fun z => z ^^^ 9223372036854775808) h1
  simpa [Nat.xor_assoc] using this
 omega
theorem num8_inj {u v : Int} (hu : 0 ≤ u ∧ u < 18446744073709551616) (hv : 0 ≤ v ∧ v < 18446744073709551616) (h : num8 u = num8 v) : u = v := by
 unfold num8 at h
 simp only [List.cons.injEq, and_true] at h
 omega
/-- A number's eight bytes. -/
def numB (n : Int) : List UInt8 := (num8 (turnU n)).map fun x => UInt8.ofNat x.toNat
theorem num8_byte (u : Int) : ∀ x ∈ num8 u, 0 ≤ x ∧ x < 256 := by
 intro x hx
 simp only [num8, List.mem_cons, List.not_mem_nil, or_false] at hx
 omega
theorem bytes_inj : ∀ a b : List Int, (∀ x ∈ a, 0 ≤ x ∧ x < 256) → (∀ x ∈ b, 0 ≤ x ∧ x < 256) → (a.map fun x => UInt8.ofNat x.toNat) = (b.map fun x => UInt8.ofNat x.toNat) → a = b
 | [], [], _, _, _ => rfl
 | [], y :: b, _, _, h => by simp at h
 | x :: a, [], _, _, h => by simp at h
 | x :: a, y :: b, ha, hb, h => by
  simp only [List.map_cons, List.cons.injEq] at h
  have h1 := ha x (by simp)
  have h2 := hb y (by simp)
  have h3 := congrArg UInt8.toNat h.1
  simp at h3
  rw [bytes_inj a b (fun z hz => ha z (by simp [hz])) (fun z hz => hb z (by simp [hz])) h.2, show x = y by omega]
theorem numB_inj {n m : Int} (hn : -9223372036854775808 ≤ n ∧ n ≤ 9223372036854775807) (hm : -9223372036854775808 ≤ m ∧ m ≤ 9223372036854775807) (h : numB n = numB m) : n = m :=
 turn_inj hn hm (num8_inj (turn_in n) (turn_in m) (bytes_inj _ _ (num8_byte _) (num8_byte _) h))
/-- The bytes of a text's key. -/
def C5.key (x : C5) (t : List UInt8) : List UInt8 := keyT x.K x.lv.toNat x.sh t
theorem C5.At.key_iff {x : C5} {w : World} (h : x.At w) (a b : List UInt8) : x.key a = x.key b ↔ x.f a b = 0 := by
 obtain ⟨K, lv, sh, p, q, qn, qc, f⟩ := x
 unfold C5.key
 rcases h.how with ⟨h1, h2, h3, h4, h5, h6, h7, h8⟩ | ⟨p2, l, h1, h2, h3, h4, h5, h6, h7, h8⟩
 ·simp only at h1 h2 h3 h8 ⊢
  subst h2 h3 h8
  exact keyT_iff K 0 false (by omega) a b
 ·simp only at h1 h2 h3 h4 h8 ⊢
  subst h1 h4 h8
  exact keyT_iff 3 l sh (by omega) a b
/-- A value's bytes. -/
def valB (x : C5) (y : V3) : List UInt8 :=
 if cK y.k y.n y.s = 0 then [1] else if cK y.k y.n y.s = 1 then [2, UInt8.ofNat (cN y.k y.n y.s).toNat] else if cK y.k y.n y.s = 2 then 3 :: numB (cN y.k y.n y.s) else 4 :: (escB (x.key (cS y.k y.n y.s).data.toList) ++ [0, 1])
theorem cN_bool {k n : Int} {s : ByteArray} (h : cK k n s = 1) : cN k n s = 0 ∨ cN k n s = 1 := by
 unfold cK at h
 cases hv : vOk k n s
 ·rw [hv] at h; simp at h
 ·rw [hv] at h
  simp only [if_true] at h
  subst h
  unfold cN
  rw [hv]
  simp only [if_true]
  unfold vOk at hv
  simp at hv
  exact hv.1
theorem cN_null {k n : Int} {s : ByteArray} (h : cK k n s = 0) : cN k n s = 0 := by
 unfold cK at h
 unfold cN
 cases hv : vOk k n s
 ·simp
 ·rw [hv] at h
  simp only [if_true] at h
  subst h
  simp only [if_true]
  unfold vOk at hv
  simp at hv
  exact hv.1
theorem cN_in {y : V3} (h : InV y) : -9223372036854775808 ≤ cN y.k y.n y.s ∧ cN y.k y.n y.s ≤ 9223372036854775807 := by
 unfold cN InV at *
 split <;> omega
theorem cmpI_zero {a b : Int} : cmpI a b = 0 ↔ a = b := by
 unfold cmpI
 split
 ·omega
 ·split <;> omega
theorem valB_iff {x : C5} {w : World} (h : x.At w) {y z : V3} (hy : InV y) (hz : InV z) : valB x y = valB x z ↔ leK y.k y.n y.s z.k z.n z.s x.f = 0 := by
 have i1 := cN_in hy
 have i2 := cN_in hz
 have b1 := @cN_bool y.k y.n y.s
 have b2 := @cN_bool z.k z.n z.s
 have n1 := @cN_null y.k y.n y.s
 have n2 := @cN_null z.k z.n z.s
 have hk := h.key_iff (cS y.k y.n y.s).data.toList (cS z.k z.n z.s).data.toList
 unfold leK vOrd valB alikeV
 have k1 := cK_kinds y.k y.n y.s
 have k2 := cK_kinds z.k z.n z.s
 generalize cK y.k y.n y.s = a at *
 generalize cK z.k z.n z.s = b at *
 generalize cN y.k y.n y.s = p at *
 generalize cN z.k z.n z.s = q at *
 rcases k1 with rfl | rfl | rfl | rfl <;> rcases k2 with rfl | rfl | rfl | rfl <;> simp [cmpI_zero]
 ·rw [n1 rfl, n2 rfl]
 ·rcases b1 rfl with rfl | rfl <;> rcases b2 rfl with rfl | rfl <;> simp
 ·exact ⟨fun h => numB_inj i1 i2 h, fun h => by rw [h]⟩
 ·rw [← hk]
  exact ⟨fun h => escB_inj _ _ h, fun h => by rw [h]⟩
end Go.Proofs.YtipokgedmfnlaaaGreatDoor

namespace Go.Proofs.YtipokgedmfnlaaaGreatDoor
open Go.RowKit Go.Shelf
set_option maxRecDepth 100000

section
variable {F : Fence} {n : Nat} {P : Program} {α : Type}
/-- What an iterator owes: it hands on xs, whatever invariant the rounds keep, if that abides new blocks and, while nothing has come, stores into block Bs. -/
def Hands (F : Fence) (m : Nat) (P : Program) (gf : Nat) (lb : Array Value) (encs : α → Array Value) (Kp : World → World → Prop) (Bs : Nat) (xs : List α) (w : World) : Prop :=
 ∀ (l : Nat) (J : List α → World → Prop) (W : World), Below w.heap.size w W → AbidesFrom W.heap.size J → (∀ W' v, J [] W' → J [] (W'.setCell ⟨Bs, 0, none⟩ v)) →
  (∀ pre x W1, J pre W1 → pre.length < xs.length → YieldAt F (m - 1) P l (encs x) W1 fun e W' => e = .returned (.bool true) ∧ J (pre ++ [x]) W' ∧ Kp W1 W') →
  J [] W → CallsIn F m P gf (#[.func (.yield l) #[] #[]] ++ lb) W fun e W' => (∃ v, e = .returned v) ∧ J xs W'
theorem wpIn_range_box {g : Operand} {ps : Array Tmp} {assign body : Code} {Q : Exit → Act → World → Prop} {a : Act} {w : World}
  (hro : F.round = none) (h1 : 1 ≤ n) {gf : Nat} {lb : Array Value} (hg : a.eval g = .func (.func gf) #[] lb) (hFg : F.fn gf) (eg : ∀ args w, (callFunc gf args).run P w = .ok (.enter gf args) w)
  {encs : α → Array Value} {Kp : World → World → Prop} {Bs : Nat} {xs : List α} (hseq : Hands F (n - 1) P gf lb encs Kp Bs xs w) (hKt : ∀ {A B C : World}, Kp A B → Kp B C → Kp A C) (hKb : ∀ (W : World) (l : Nat) (o o' : Obj), W.heap[l]? = some o → o.isCells = false → Kp W (W.putObj l o')) (hBs : Bs < w.heap.size) (hps : ∀ x, (encs x).size = ps.size)
  (I : List α → World → Prop) (hI : OwnFrom w.heap.size I) (hIs : ∀ W v, I [] W → I [] (W.setCell ⟨Bs, 0, none⟩ v)) (h0 : I [] w) (a₁ : α → Act)
  (hassign : ∀ (l : Nat) (x : α) (W : World) (K : Act → World → Prop), K (a₁ x) W → assign.wpIn (F.inRound l) (n - 1 - 1) P (Exit.then K (fun _ _ _ => False)) { tmps := (ps.zip (encs x)).foldl (fun t (p, v) => t.setIfInBounds p v) a.tmps, defers := [] } W)
  (hbody : ∀ (l : Nat) (pre : List α) (x : α) (W : World), I pre W → pre.length < xs.length → body.wpIn (F.inRound l) (n - 1 - 1) P (ownPostG w.heap.size Kp I (fun _ _ _ => False) (pre ++ [x]) W) (a₁ x) W)
  (hdone : ∀ (D : Nat) (W : World), w.heap.size ≤ D → I xs W → W.heap[D]? = some (.deferred (some [])) → Q .normal { a with defers := { target := .collected D, args := #[] } :: a.defers } W) :
  (Code.rangeFunc g ps assign body).wpIn F n P Q a w := by
 refine wpIn_rangeFunc fun fn hfn => ?_
 rw [hro]
 have rdef : ∃ R : LoopState → Loop, R = fun st => { state := st, pending := none, fn, tmps := a.tmps, params := ps, assign, body, defers := w.heap.size } := ⟨_, rfl⟩
 obtain ⟨R, hR⟩ := rdef
 have hst : ∀ st, (R st).state = st := fun st => by rw [hR]
 have hpe : ∀ st, (R st).pending = none := fun st => by rw [hR]
 have hre : ∀ st st', { R st with state := st' } = R st' := fun st st' => by rw [hR]
 have hre2 : ∀ st st', { R st with state := st', pending := none } = R st' := fun st st' => by rw [hR]
 generalize hW1 : (w.alloc (.deferred (some []))).alloc (.loop (R .ready)) = W1
 have sz : W1.heap.size = w.heap.size + 2 := by rw [← hW1]; simp
 have hb1 : Below w.heap.size w W1 := by rw [← hW1]; exact ((Below.refl _ w).alloc (Nat.le_refl _) _).alloc (by simp) _
 have hL : W1.heap[w.heap.size + 1]? = some (.loop (R .ready)) := by
  rw [← hW1]
  have := World.alloc_heap_new (w.alloc (.deferred (some []))) (.loop (R .ready))
  rwa [World.size_alloc] at this
 have hD : W1.heap[w.heap.size]? = some (.deferred (some [])) := by
  rw [← hW1]
  exact (Below.heap_alloc _ _ _ (by simp)).trans (World.alloc_heap_new w _)
 have hI1 : I [] W1 := by rw [← hW1]; exact hI.alloc _ (hI.alloc _ h0)
 refine ⟨w.heap.size + 1, [{ target := .collected w.heap.size, args := #[] }], W1, { target := .fn (.func gf) lb, args := #[.func (.yield (w.heap.size + 1)) #[] #[]] }, W1, gf, #[.func (.yield (w.heap.size + 1)) #[] #[]] ++ lb, W1, ?_, ?_, ?_, ?_, fun _ => h1, ?_⟩
 ·rw [← hW1, hR]; exact run_enterLoop_outer _ _ _ _ _
 ·simp only [resolve, hg]
  simp [go_sem]
 ·intro f' hf'
  simp [Target.leads] at hf'
  subst hf'; exact hFg
 ·simp [invoke, go_sem, eg]
 ·have keep : ∀ {A B : World} {row : Option Nat} {k : Nat} {o : Obj}, A.grownBy B row → (∀ r, row = some r → W1.heap.size ≤ r ∧ ∃ o : Obj, A.heap[r]? = some o ∧ o.isWalk = true) → k < W1.heap.size → A.heap[k]? = some o → B.heap[k]? = some o := fun hg' hr hk ho =>
   (hg'.block _ (Array.getElem?_eq_some_iff.1 ho).1 (fun e => by have := (hr _ e.symm).1; omega)).trans ho
  refine (hseq (w.heap.size + 1) (fun pre W => I pre W ∧ W.heap[w.heap.size + 1]? = some (.loop (R .ready)) ∧ W.heap[w.heap.size]? = some (.deferred (some []))) W1 hb1
   (fun s A B row hs hg' hr => ⟨hI s A B row hs.1 hg' (fun r e => by
     obtain ⟨h3, o, h4, h5⟩ := hr r e
     exact ⟨by omega, o, h4, Obj.not_cells_of_walk h5⟩), keep hg' hr (by omega) hs.2.1, keep hg' hr (by omega) hs.2.2⟩)
   (fun W' v hs => ⟨hIs W' v hs.1, (heap_setCell_other W' ⟨Bs, 0, none⟩ _ v (by show w.heap.size + 1 ≠ Bs; omega)).trans hs.2.1, (heap_setCell_other W' ⟨Bs, 0, none⟩ _ v (by show w.heap.size ≠ Bs; omega)).trans hs.2.2⟩)
   ?_ ⟨hI1, hL, hD⟩).mono ?_
  ·rintro pre x W ⟨hi, hl, hd⟩ hlen
   have hlt : w.heap.size + 1 < W.heap.size := (Array.getElem?_eq_some_iff.1 hl).1
   have hy := run_yield (P := P) (args := encs x) hl (by rw [hR]; exact hps x)
   rw [hR] at hy
   refine ⟨fn, _, assign, body, hy, roundIn_of_wpIn hfn (hassign _ x W _ ?_)⟩
   clear hy
   have hb := run_beginRound (P := P) hl (hst .ready)
   rw [hre] at hb
   refine ⟨_, hb, ?_⟩
   have hl2 : (W.putObj (w.heap.size + 1) (.loop (R .busy))).heap[w.heap.size + 1]? = some (.loop (R .busy)) := World.putObj_heap_same hlt
   have hd2 : (W.putObj (w.heap.size + 1) (.loop (R .busy))).heap[w.heap.size]? = some (.deferred (some [])) := (World.putObj_heap_other (by omega)).trans hd
   have hw2 : Kp W (W.putObj (w.heap.size + 1) (.loop (R .busy))) := hKb _ _ _ _ hl rfl
   refine wpIn_mono (hbody (w.heap.size + 1) pre x _ (hI.putObj _ hi (by omega) hl rfl) hlen) ?_
   rintro e a3 W3 hp
   cases e with
   | normal =>
    obtain ⟨hk3, hb3, hi3⟩ := hp
    have hl3 := hk3.same _ _ (by omega) hl2 rfl
    have hd3 := hk3.same _ _ (Nat.le_refl _) hd2 rfl
    have hr := run_endRound (P := P) none hl3
    simp only [Option.isNone_none, if_true] at hr
    rw [hre2] at hr
    exact ⟨_, _, hr, rfl, ⟨hI.putObj _ hi3 (by omega) hl3 rfl, World.putObj_heap_same (Array.getElem?_eq_some_iff.1 hl3).1, (World.putObj_heap_other (by omega)).trans hd3⟩, hKt (hKt hw2 hb3) (hKb _ _ _ _ hl3 rfl)⟩
   | ret => exact hp.2.elim
   | exit id => exact hp.2.elim
   | goto t => exact hp.2.elim
   | panic ch => exact hp.elim
   | outgrown => exact hp.elim
  ·rintro e W2 ⟨⟨v, rfl⟩, hi, hl, hd⟩
   have hend := run_endLoop (P := P) hl (by rw [hst]; simp)
   rw [hre, hpe] at hend
   exact ⟨none, _, hend, hdone w.heap.size _ (Nat.le_refl _) (hI.putObj _ hi (by omega) hl rfl) ((World.putObj_heap_other (by omega)).trans hd)⟩
end
/-- A block that begins with a byte or a slice. -/
def Soft (cs : Array Value) : Prop := (∃ x, cs[0]? = some (.int .u8 x)) ∨ ∃ a n c, cs[0]? = some (.slice a n c)
/-- What a round keeps: all other blocks of cells. -/
def KeepU (W W' : World) : Prop := ∀ (i : Nat) (cs : Array Value) (t : TypeId) (f : Nat × Nat), W.heap[i]? = some (.cells cs t f) → ¬ Soft cs → W'.heap[i]? = some (.cells cs t f)
theorem KeepU.blk {W W' : World} (h : KeepU W W') {i : Nat} {cs : Array Value} {t : TypeId} (hb : Blk W i cs t) (hs : ¬ Soft cs) : Blk W' i cs t := h i cs t (0, 0) hb hs
theorem keepU_t {A B C : World} (h : KeepU A B) (k : KeepU B C) : KeepU A C := fun i cs t f h1 h2 => k i cs t f (h i cs t f h1 h2) h2
theorem keepU_b (W : World) (l : Nat) (o o' : Obj) (h : W.heap[l]? = some o) (hc : o.isCells = false) : KeepU W (W.putObj l o') := fun i cs t f h1 _ =>
 (World.putObj_heap_other (fun e => by
  subst e
  rw [h1] at h
  cases h
  cases hc)).trans h1
theorem keepU_ext {W W' : World} (h : Ext W W') : KeepU W W' := fun i _ _ _ h1 _ => (h.block i (Array.getElem?_eq_some_iff.1 h1).1).trans h1
theorem keepU_push {Bo B n : Nat} {tu tb : TypeId} {W w1 : World} {v u : Value} {xs : List Value} {tmp : Obj} (hbox : Boxed W Bo tb v) (hrow : W.ownsRow B tu 1 v n xs) (h0 : n = 0 → v = .slice none 0 0) (hu : ∀ y, xs[0]? = some y → ∃ x, y = .int .u8 x)
  (hg : (W.alloc tmp).grownBy w1 v.ownBlock) : KeepU W (w1.setCell ⟨Bo, 0, none⟩ u) := fun i cs t f h1 h2 => by
 have hBo : i ≠ Bo := fun e => by
  subst e
  have h3 : W.heap[i]? = some (.cells #[v] tb (0, 0)) := hbox
  rw [h1] at h3
  injection h3 with h3
  injection h3 with h3 _
  obtain ⟨ao, c, hv, _⟩ := ownsRow_slice hrow
  exact h2 (.inr ⟨ao, n, c, by rw [h3, hv]; rfl⟩)
 refine (heap_setCell_other w1 ⟨Bo, 0, none⟩ i u hBo).trans ((hg.block i (by have := (Array.getElem?_eq_some_iff.1 h1).1; simp; omega) (fun e => ?_)).trans ((Below.heap_alloc W tmp i (Array.getElem?_eq_some_iff.1 h1).1).trans h1))
 rcases hrow.2 with ⟨hv, _⟩ | ⟨g, c, cur, hv, _, hb, hn, _, hcs, ht⟩
 ·rw [hv] at e; cases e
 ·rw [hv] at e
  obtain rfl : i = g := by simpa [Value.ownBlock] using e
  rw [h1] at hb
  injection hb with hb
  injection hb with hb _
  subst hb
  have hn0 : 0 < n := Nat.pos_of_ne_zero fun e0 => by rw [h0 e0] at hv; cases hv
  have hc0 : 0 < cs.size := by omega
  obtain ⟨x, hx⟩ := hu cs[0] (by rw [← ht, List.getElem?_take, if_pos (by omega)]; simp [hc0])
  exact h2 (.inl ⟨x, by rw [Array.getElem?_eq_getElem hc0, hx]⟩)
theorem KeepU.reads {W W' : World} {v : Value} {xs : List Value} (h : KeepU W W') (hr : ReadsL W v xs) (h0 : ∀ y, xs[0]? = some y → (∀ x, y ≠ .int .u8 x) ∧ ∀ a n c, y ≠ .slice a n c) : ReadsL W' v xs := by
 rcases hr with hr | ⟨g, c, hv, hc, hcell⟩
 ·exact .inl hr
 ·refine .inr ⟨g, c, hv, hc, fun k u hu => ?_⟩
  have hk : 0 < xs.length := by have := (List.getElem?_eq_some_iff.1 hu).1; omega
  obtain ⟨q1, q2⟩ := h0 xs[0] (List.getElem?_eq_getElem hk)
  have c0 := hcell 0 xs[0] (List.getElem?_eq_getElem hk)
  have hb := World.block_lt_of_cell? W _ c0
  have hk2 := hcell k u hu
  unfold World.cell? at c0 hk2 ⊢
  cases ho : W.heap[g]? with
  | none => rw [ho] at c0; simp at c0
  | some o =>
   rw [ho] at c0 hk2
   cases o with
   | cells cs t f =>
    have c0' : cs[0]? = some xs[0] := by simpa using c0
    have hk' : cs[k]? = some u := by simpa using hk2
    have hW' := h g cs t f ho (fun hs => by
     rcases hs with ⟨x, hx⟩ | ⟨a, n, c, hx⟩
     ·rw [c0'] at hx; exact q1 x (Option.some.inj hx)
     ·rw [c0'] at hx; exact q2 a n c (Option.some.inj hx))
    simp [hW', hk']
   | _ => simp at c0
/-- Append to a slice that is full. -/
theorem wpListIn_app_full {F : Fence} {nF : Nat} {P : Program} {w : World} {ops : Array Oper} {rest : List Oper} {o : Oper} {a : Act} {Q : Exit → Act → World → Prop} (hgd : o.guard = none) (s x : Operand) (t : TypeId)
  (ho : o.op = .call { callee := .builtin .append, args := #[s, x], argTypes := #[t, t] })
  (e : TypeId) (z : Value) (bytes : Nat) (ht : P.underlying t = some (.slice e)) (hinfo : (P.info? e).map (fun i => (i.zero, i.size, i.bytes)) = some (some z, 1, bytes))
  (hzs : z.cells.size = 1) (u : Value) (xs : List Value) (hs : a.eval s = clip u) (hr : ReadsL w (clip u) xs)
  (b : Nat) (te : TypeId) (y : Value) (hx : a.eval x = .slice (some ⟨b, 0, none⟩) 1 1) (hb : Blk w b #[y] te) (h1 : y.oneCell' = true)
  (h63 : xs.length + 1 ≤ maxLen) (hbytes : (xs.length + 1) * bytes ≤ 140737488355328)
  (h : ∀ v' w', w'.ownsRow w.heap.size e 1 v' (xs.length + 1) (xs ++ [y]) → w.grownBy w' none → wpListIn F nF P ops Q rest (a.put o.dst v') w') :
  wpListIn F nF P ops Q (o :: rest) a w := by
 obtain ⟨i, hi, hz0, hz1, hz2⟩ := info_parts hinfo
 have hn : ∀ j q, ([y] : List Value)[j]? = some q → w.cell? ((⟨b, 0, none⟩ : Addr).add j) = some q := fun j q hq => by
  rw [Addr.add_lit, Nat.zero_add, hb.cell]
  simpa using hq
 rcases hr with ⟨hv, rfl⟩ | ⟨g, c, hv, hc, hcell⟩
 ·rw [hv] at hs
  refine wpListIn_append_own _ hgd s x t ho w.heap.size e i z 1 bytes ht hi hz0 hz1 hz2 hzs (by decide) _ 0 [] hs (World.ownsRow_nil _ _ _ _) ⟨b, 0, none⟩ 1 1 [y] hx rfl hn (by simpa using h1) (by simpa using h63) (by simpa using hbytes) (Nat.le_refl _) ?_
  intro v' w' h2 h3 _
  exact h v' w' (by simpa using h2) h3
 ·have hcc : c = xs.length := by
   cases u with
   | slice ao n c0 =>
    simp only [clip, Value.slice.injEq] at hv
    omega
   | _ => simp [clip] at hv
  subst hcc
  rw [hv] at hs
  refine wpListIn_plain hgd fun K hK => ?_
  obtain ⟨v', w', hrun, r1, r2⟩ := run_append_arg_grows (P := P) w t o.type e i z 1 bytes ht hi hz0 hz1 hz2 hzs (by decide) ⟨g, 0, none⟩ xs.length xs.length xs (by simp) (fun j q hq => by rw [Addr.add_lit, Nat.zero_add]; exact hcell j q hq) ⟨b, 0, none⟩ 1 1 [y] rfl hn (by omega) h63 hbytes
  unfold Oper.wpIn
  refine ⟨by simp [Oper.about, ho, resolve, Target.leads, Sem.run_pure], ?_⟩
  rw [Oper.semAt_plain F _ _ (by rw [ho]; intro c hc'; cases hc')]
  simp [execOp, ho, resolve, invoke, builtin, hs, hx, hrun, Result.andThen]
  exact hK _ _ (h v' w' r1 r2)
end Go.Proofs.YtipokgedmfnlaaaGreatDoor

namespace Go.Proofs.YtipokgedmfnlaaaGreatDoor
open Go.RowKit Go.Shelf Go.Lib
attribute [local go_sem] Oper.semAt_some
set_option maxRecDepth 100000

def enc8 (x : UInt8) : Array Value := #[.int .u8 (x.toNat : Int)]
set_option maxHeartbeats 4000000 in
theorem stream1_bin (m : Nat) (lv : Int) (sh : Bool) (p : Option Addr) (s : ByteArray) (B1 B2 : Nat) (w : World) (h1 : Blk w B1 #[.int .i64 1, .int .i64 lv, .bool sh, .bool false, .pointer p] 25) (h2 : Blk w B2 #[.string s] 9) (hs : s.size ≤ 100000) :
  Hands Fence.wide m Tryz.prog 243 #[.pointer (some ⟨B1, 0, none⟩), .pointer (some ⟨B2, 0, none⟩)] enc8 KeepU B2 s.data.toList w := by
 intro l J W hW hJ hJs hY h0
 have k1 := h1.keep hW
 have k2 := h2.keep hW
 have HB1 := Lib.hid k1
 have HB2 := Lib.hid k2
 obtain ⟨c1, f1⟩ := k1.facts
 obtain ⟨c2, f2⟩ := k2.facts
 refine callsIn_of_wp Tryz.func243 rfl trivial ?_ rfl
 simp only [Tryz.ntmps243, List.size_toArray, List.length_cons, List.length_nil, Nat.reduceAdd, Nat.reduceSub, Array.replicate_succ, Array.replicate_zero, List.push_toArray, List.append_toArray, List.nil_append, List.cons_append]
 gi_wp2
 refine ⟨trivial, fun h => (by cases h), (callsIn_wide.2 (collOk_small 1 lv sh false p W (.inl rfl))).mono ?_⟩
 rintro e w1 ⟨rfl, hb1⟩
 obtain ⟨c1, f1⟩ := (HB1.out.keep hb1).facts
 have HX1 := Lib.hid (show Ext W w1 from hb1)
 clear hb1 c2 f2
 gi_wp2
 refine ⟨trivial, fun h => (by cases h), (callsIn_wide.2 (collOk_small 1 lv sh false p w1 (.inl rfl))).mono ?_⟩
 rintro e w2 ⟨rfl, hb2⟩
 have hx2 := Ext.trans HX1.out hb2
 have HB1' := Lib.hid (HB1.out.keep hx2)
 have HB2' := Lib.hid (HB2.out.keep hx2)
 obtain ⟨c1, f1⟩ := HB1'.out.facts
 obtain ⟨c2, f2⟩ := HB2'.out.facts
 have HJ2 := Lib.hid (hJ [] W w2 none h0 ⟨hx2.os, hx2.tape, hx2.output, hx2.size, fun i hi _ => hx2.block i hi⟩ (fun r h => by cases h))
 clear hb2
 have hTs : s.size ≤ 400000 := by omega
 gi_wp2
 gi_loopw [4, 29] (fun _ i wr => ∃ k : Nat, k ≤ s.size ∧ i = .int .i64 k ∧ J (s.data.toList.take k) wr ∧ Blk wr B1 #[.int .i64 1, .int .i64 lv, .bool sh, .bool false, .pointer p] 25 ∧ Blk wr B2 #[.string s] 9) (fun _ i _ => s.size - (intOf i).toNat)
 case atStart => exact ⟨0, Nat.zero_le _, rfl, HJ2.out, HB1'.out, HB2'.out⟩
 case round =>
  obtain ⟨k, hk, rfl, hj, hb1, hb2⟩ := hrel
  obtain ⟨c1, f1⟩ := hb1.facts
  obtain ⟨c2, f2⟩ := hb2.facts
  have HB1'' := Lib.hid hb1
  have HB2'' := Lib.hid hb2
  by_cases hlt : k < s.size
  ·have hltI : (k : Int) < (s.size : Int) := by omega
   have hlen : k < s.data.toList.length := by rw [Array.length_toList]; exact hlt
   have htk : s.data.toList.take (k + 1) = s.data.toList.take k ++ [s[k]] := by
    rw [List.take_succ_eq_append_getElem hlen]
    rfl
   obtain ⟨fn, tmps, assign, body, hy, hR⟩ := hY (s.data.toList.take k) s[k] wr hj (by rw [List.length_take]; omega)
   rw [← htk] at hR
   simp only [enc8] at hy
   gi_wp2
   refine ⟨fun h => (by cases h), hR.mono ?_⟩
   rintro e W3 ⟨rfl, hJ3, hk3⟩
   have HB13 := Lib.hid (hk3.blk HB1''.out (by simp [Soft]))
   have HB23 := Lib.hid (hk3.blk HB2''.out (by simp [Soft]))
   gi_wp2
   go_roundw
   case rel => exact ⟨k + 1, by omega, by go_num, hJ3, HB13.out, HB23.out⟩
   case measure => simp [intOf]; omega
  ·obtain rfl : k = s.size := by omega
   have hltI : ¬ (s.size : Int) < (s.size : Int) := by omega
   gi_wp2
   refine bodyPost_ret (results_none rfl _ _ _) rfl ?_
   refine ⟨⟨_, rfl⟩, ?_⟩
   rw [List.take_of_length_le (by rw [Array.length_toList]; exact Nat.le_refl _)] at hj
   exact hj
set_option maxHeartbeats 4000000 in
theorem stream1_fold (m : Nat) (lv : Int) (sh : Bool) (p : Option Addr) (s : ByteArray) (B1 B2 : Nat) (w : World) (h1 : Blk w B1 #[.int .i64 2, .int .i64 lv, .bool sh, .bool false, .pointer p] 25) (h2 : Blk w B2 #[.string s] 9) (hs : s.size ≤ 100000) (hT : ∀ W, Ext w W → Lib.Utf8Tabs 0 1 W) :
  Hands Fence.wide m Tryz.prog 243 #[.pointer (some ⟨B1, 0, none⟩), .pointer (some ⟨B2, 0, none⟩)] enc8 KeepU B2 (foldT s.data.toList) w := by
 obtain ⟨T, hTe⟩ : ∃ T, T = foldB s := ⟨_, rfl⟩
 rw [show foldT s.data.toList = T.data.toList by rw [hTe]; rfl]
 have hTs : T.size ≤ 400000 := by
  have h1 : T.size = (foldT s.data.toList).length := by rw [hTe, show foldT s.data.toList = (foldB s).data.toList from rfl, Array.length_toList]; rfl
  have h2 := putL_length ((signs s.data.toList).map foldC)
  have h3 := signs_length s.data.toList
  rw [List.length_map] at h2
  have h4 : s.data.toList.length = s.size := Array.length_toList
  unfold foldT at h1
  omega
 intro l J W hW hJ hJs hY h0
 have k1 := h1.keep hW
 have k2 := h2.keep hW
 have HB1 := Lib.hid k1
 have HB2 := Lib.hid k2
 obtain ⟨c1, f1⟩ := k1.facts
 obtain ⟨c2, f2⟩ := k2.facts
 refine callsIn_of_wp Tryz.func243 rfl trivial ?_ rfl
 simp only [Tryz.ntmps243, List.size_toArray, List.length_cons, List.length_nil, Nat.reduceAdd, Nat.reduceSub, Array.replicate_succ, Array.replicate_zero, List.push_toArray, List.append_toArray, List.nil_append, List.cons_append]
 gi_wp2
 refine ⟨trivial, fun h => (by cases h), (callsIn_wide.2 (collOk_small 2 lv sh false p W (.inr rfl))).mono ?_⟩
 rintro e w1 ⟨rfl, hb1⟩
 obtain ⟨c1, f1⟩ := (HB1.out.keep hb1).facts
 have HX1 := Lib.hid (show Ext W w1 from hb1)
 clear hb1 c2 f2
 gi_wp2
 refine ⟨trivial, fun h => (by cases h), (callsIn_wide.2 (collOk_small 2 lv sh false p w1 (.inr rfl))).mono ?_⟩
 rintro e w2 ⟨rfl, hb2⟩
 have hx2 := Ext.trans HX1.out hb2
 have HB1' := Lib.hid (HB1.out.keep hx2)
 have HB2' := Lib.hid (HB2.out.keep hx2)
 obtain ⟨c1, f1⟩ := HB1'.out.facts
 obtain ⟨c2, f2⟩ := HB2'.out.facts
 have HJ2 := Lib.hid (hJ [] W w2 none h0 ⟨hx2.os, hx2.tape, hx2.output, hx2.size, fun i hi _ => hx2.block i hi⟩ (fun r h => by cases h))
 clear hb2
 gi_wp2
 refine ⟨trivial, fun h => (by cases h), (callsIn_wide.2 (foldText_any s hs w2 fun W2 h2 => hT W2 (Ext.trans hW (Ext.trans hx2 h2)))).mono ?_⟩
 rintro e w3 ⟨rfl, hb3⟩
 have HJ3 := Lib.hid (hJ [] W w3 none h0 ⟨(Ext.trans hx2 hb3).os, (Ext.trans hx2 hb3).tape, (Ext.trans hx2 hb3).output, (Ext.trans hx2 hb3).size, fun i hi _ => (Ext.trans hx2 hb3).block i hi⟩ (fun r h => by cases h))
 have hb12 : B1 ≠ B2 := fun e => by
  have h3 := HB1'.out
  rw [e] at h3
  have := (h3.uniq HB2'.out).2
  exact absurd this (by decide)
 have HC1 := Lib.hid (HB1'.out.keep hb3)
 have HC2 := Lib.hid (HB2'.out.keep hb3)
 obtain ⟨c2, f2⟩ := HC2.out.facts
 clear HJ2 hb3 c1 f1
 have HB1' := Lib.hid (HC1.out.other (a := ⟨B2, 0, none⟩) hb12 (.string T))
 have HB2' := Lib.hid (show Blk (w3.setCell ⟨B2, 0, none⟩ (.string T)) B2 #[.string T] 9 from HC2.out.set 0 (.string T))
 have HJ2 := Lib.hid (hJs w3 (.string T) HJ3.out)
 rw [← hTe]
 clear hTe HJ3 HC1 HC2
 gi_wp2
 generalize w3.setCell ⟨B2, 0, none⟩ (.string T) = w4 at HB1' HB2' HJ2 ⊢
 obtain ⟨c1, f1⟩ := HB1'.out.facts
 obtain ⟨c2, f2⟩ := HB2'.out.facts
 gi_wp2
 gi_loopw [4, 29] (fun _ i wr => ∃ k : Nat, k ≤ T.size ∧ i = .int .i64 k ∧ J (T.data.toList.take k) wr ∧ Blk wr B1 #[.int .i64 2, .int .i64 lv, .bool sh, .bool false, .pointer p] 25 ∧ Blk wr B2 #[.string T] 9) (fun _ i _ => T.size - (intOf i).toNat)
 case atStart => exact ⟨0, Nat.zero_le _, rfl, HJ2.out, HB1'.out, HB2'.out⟩
 case round =>
  obtain ⟨k, hk, rfl, hj, hb1, hb2⟩ := hrel
  obtain ⟨c1, f1⟩ := hb1.facts
  obtain ⟨c2, f2⟩ := hb2.facts
  have HB1'' := Lib.hid hb1
  have HB2'' := Lib.hid hb2
  by_cases hlt : k < T.size
  ·have hltI : (k : Int) < (T.size : Int) := by omega
   have hlen : k < T.data.toList.length := by rw [Array.length_toList]; exact hlt
   have htk : T.data.toList.take (k + 1) = T.data.toList.take k ++ [T[k]] := by
    rw [List.take_succ_eq_append_getElem hlen]
    rfl
   obtain ⟨fn, tmps, assign, body, hy, hR⟩ := hY (T.data.toList.take k) T[k] wr hj (by rw [List.length_take]; omega)
   rw [← htk] at hR
   simp only [enc8] at hy
   gi_wp2
   refine ⟨fun h => (by cases h), hR.mono ?_⟩
   rintro e W3 ⟨rfl, hJ3, hk3⟩
   have HB13 := Lib.hid (hk3.blk HB1''.out (by simp [Soft]))
   have HB23 := Lib.hid (hk3.blk HB2''.out (by simp [Soft]))
   gi_wp2
   go_roundw
   case rel => exact ⟨k + 1, by omega, by go_num, hJ3, HB13.out, HB23.out⟩
   case measure => simp [intOf]; omega
  ·obtain rfl : k = T.size := by omega
   have hltI : ¬ (T.size : Int) < (T.size : Int) := by omega
   gi_wp2
   refine bodyPost_ret (results_none rfl _ _ _) rfl ?_
   refine ⟨⟨_, rfl⟩, ?_⟩
   rw [List.take_of_length_le (by rw [Array.length_toList]; exact Nat.le_refl _)] at hj
   exact hj
set_option maxHeartbeats 8000000 in
theorem collOf_full (kind lv : Int) (shift : Bool) (p : Option Addr) (v : Value) (es : List El) (level : Nat) (w : World) (hv : ReadsL w v (wordsV es)) (hn : es.length ≤ 300000) (hok : ∀ e ∈ es, e.ok) (hl : level = 1 ∨ level = 2 ∨ level = 3) :
  Calls Tryz.prog 211 #[cV kind lv shift false p, v, .int .i64 level] w fun e w' => (∃ u, e = .returned (clip u) ∧ ReadsL w' (clip u) (intsV (wtL level shift es))) ∧ Below w.heap.size w w' := by
 have HO := Lib.hid hok
 have HW := Lib.hid (fun (e : El) (he : e.ok) (W : World) => weight_el level e W hl he)
 have HL := Lib.hid hl
 have hl3 : (level : Int) ≤ 3 := by omega
 have hl0 : (1 : Int) ≤ level := by omega
 rw [show cV kind lv shift false p = .agg #[.int .i64 kind, .int .i64 lv, .bool shift, .bool false, .pointer p] from rfl]
 have hQ : Blk (w.alloc (.cells #[.int .i64 kind, .int .i64 lv, .bool shift, .bool false, .pointer p] 25)) w.heap.size #[.int .i64 kind, .int .i64 lv, .bool shift, .bool false, .pointer p] 25 := Blk.new w _ _ rfl
 have hx0 : Ext w (w.alloc (.cells #[.int .i64 kind, .int .i64 lv, .bool shift, .bool false, .pointer p] 25)) := (Ext.refl w).alloc _
 have HQ := Lib.hid hQ
 have HX0 := Lib.hid hx0
 clear hQ hx0
 rcases hv with ⟨rfl, h0⟩ | ⟨g, cap, rfl, hcap, hcell⟩
 ·have hcs : es = [] := by simpa [wordsV] using h0
  subst hcs
  clear hok hl
  go_enter Tryz.func211, Tryz.ntmps211
  go_wp2_with fail
  generalize (w.alloc (.cells #[.int .i64 kind, .int .i64 lv, .bool shift, .bool false, .pointer p] 25)) = W0 at HQ HX0 ⊢
  go_loopw [7, 13] (fun o i wr => o = .slice none 0 0 ∧ i = .int .i64 0 ∧ wr = W0) (fun _ _ _ => 0)
  case atStart => exact ⟨rfl, rfl, rfl⟩
  case round =>
   obtain ⟨rfl, rfl, rfl⟩ := hrel
   obtain ⟨cq, fq⟩ := HQ.out.facts
   have hql := HQ.out.lt
   cases hl2 : ((level : Int) == 2)
   all_goals
    go_wp2_with fail
    refine (clip_none _).mono ?_
    rintro e w2 ⟨rfl, rfl⟩
    go_wp2_with fail
    go_ret
    exact ⟨⟨.slice none 0 0, rfl, .inl ⟨rfl, rfl⟩⟩, HX0.out⟩
 ·rw [wordsV_length] at hcap ⊢
  have HV := Lib.hid (show ∀ W, Ext w W → ∀ k (h : k < es.length), W.cell? ⟨g, k, none⟩ = some (.int .u32 (es[k].word : Int)) from fun W hW k h => by
   have h1 := hcell k (.int .u32 (es[k].word : Int)) (by simp [wordsV, h])
   rw [hW.cell (p := ⟨g, k, none⟩) (World.block_lt_of_cell? w _ h1)]
   exact h1)
  clear hcell hok hl
  go_enter Tryz.func211, Tryz.ntmps211
  go_wp2_with fail
  generalize (w.alloc (.cells #[.int .i64 kind, .int .i64 lv, .bool shift, .bool false, .pointer p] 25)) = W0 at HQ HX0 ⊢
  go_loopw [7, 13] (fun o i wr => ∃ k : Nat, k ≤ es.length ∧ i = .int .i64 k ∧ wr.ownsRow W0.heap.size 3 1 o (wtL level shift (es.take k)).length (intsV (wtL level shift (es.take k))) ∧ Ext W0 wr ∧ Below w.heap.size w wr) (fun _ i _ => es.length - (intOf i).toNat)
  case atStart => exact ⟨0, Nat.zero_le _, rfl, World.ownsRow_nil _ _ _ _, Ext.refl _, HX0.out⟩
  case round =>
   obtain ⟨k, hk, rfl, hown, hx, hb⟩ := hrel
   have HOw := Lib.hid hown
   have HB := Lib.hid hb
   have HXr := Lib.hid hx
   have hq2 := HQ.out.keep hx
   obtain ⟨cq, fq⟩ := hq2.facts
   have hql := hq2.lt
   clear hown hb hx hq2
   by_cases hlt : k < es.length
   ·have hk' : (k : Int) < es.length := by omega
    have hnI : (es.length : Int) ≤ 300000 := by omega
    have hle := wtL_len level shift es k
    have ht := wtL_take level shift es k hlt
    have c1 := HV.out wr HB.out k hlt
    obtain ⟨e, he⟩ : ∃ e, e = es[k] := ⟨_, rfl⟩
    have hek := HO.out es[k] (List.getElem_mem hlt)
    have hcn : cnts level shift e = (decide (0 < ((e.wt level : Nat) : Int)) && !(shift && e.v)) := by simp [cnts]
    have hx65 := wt_lt es[k] hek level
    rw [← he] at ht c1 hek hx65
    have HWk := Lib.hid (HW.out e hek wr)
    have KV := Lib.hid (variable_any e wr hek)
    generalize e.word = x0 at c1 HWk KV
    generalize e.wt level = x at ht hcn HWk hx65
    obtain ⟨X, hX⟩ : ∃ X : Int, X = (x : Int) := ⟨_, rfl⟩
    rw [← hX] at hcn HWk
    have HXx := Lib.hid hX
    clear hX
    generalize e.v = ev at hcn KV
    generalize cnts level shift e = cn at ht hcn
    generalize wtL level shift (es.take k) = ds at HOw hle ht
    have HT := Lib.hid ht
    have HS := Lib.hid (show ∀ W v, W.ownsRow W0.heap.size 3 1 v (wtL level shift (es.take (k + 1))).length (intsV (wtL level shift (es.take (k + 1)))) → Ext W0 W → Below w.heap.size w W → ∃ j : Nat, j ≤ es.length ∧ Value.int .i64 ((k : Int) + 1) = .int .i64 j ∧ W.ownsRow W0.heap.size 3 1 v (wtL level shift (es.take j)).length (intsV (wtL level shift (es.take j))) ∧ Ext W0 W ∧ Below w.heap.size w W from
     fun W v h1 h2 h3 => ⟨k + 1, by omega, by go_num, h1, h2, h3⟩)
    clear ht hek he HV HO
    go_wp2_with fail
    refine HWk.out.mono ?_
    rintro r w2 ⟨rfl, rfl⟩
    cases hx : decide (0 < X)
    ·rw [hx] at hcn
     have HN := Lib.hid (show wtL level shift (es.take (k + 1)) = ds by rw [HT.out, hcn]; simp)
     clear hcn
     go_wp2_with fail
     go_roundw
     case rel => exact HS.out _ _ (by rw [HN.out]; exact HOw.out) HXr.out HB.out
     case measure => simp [intOf]; omega
    ·rw [hx] at hcn
     cases shift
     ·have HN := Lib.hid (show wtL level false (es.take (k + 1)) = ds ++ [x] by rw [HT.out, hcn]; simp)
      clear hcn
      go_wp2_with (at_builtin; refine wpList_push rfl _ _ _ rfl W0.heap.size 3 (.int .i64 0) 1 8 Tryz.underlying40 infoInt1 rfl (by decide) u7 ds.length (intsV ds) rfl (HOw.out.alloc _) wr.heap.size 3 #[.int .i64 X] rfl (Blk.new _ _ _ rfl) rfl (by simp [Value.oneCell']) (by unfold maxLen; omega) (by omega) (by have := HXr.out.size; simp <;> omega) ?_; intro v5 w5 hown hgr hat)
      have HZ := Lib.hid (HS.out w5 v5 (by rw [HN.out, List.length_append, intsV_snoc, ← HXx.out]; exact hown) (show Below W0.heap.size W0 w5 from ((show Below W0.heap.size W0 wr from HXr.out).alloc HXr.out.size _).grown hgr (by have := HXr.out.size; simp <;> omega) (fun k hk => by
        rcases HOw.out.2 with ⟨e, _⟩ | ⟨g', _, _, e, hB, _⟩
        ·rw [e] at hk; simp [Value.ownBlock] at hk
        ·rw [e] at hk; simp [Value.ownBlock] at hk; omega)) ((HB.out.alloc HB.out.size _).grown hgr (by have := HB.out.size; simp <;> omega) (fun k hk => by
        have h0 := HX0.out.size
        rcases HOw.out.2 with ⟨e, _⟩ | ⟨g', _, _, e, hB, _⟩
        ·rw [e] at hk; simp [Value.ownBlock] at hk
        ·rw [e] at hk; simp [Value.ownBlock] at hk; omega)))
      clear hown hgr hat
      go_wp2_with fail
      go_roundw
      case rel => exact HZ.out
      case measure => simp [intOf]; omega
     ·cases ev
      ·have HN := Lib.hid (show wtL level true (es.take (k + 1)) = ds ++ [x] by rw [HT.out, hcn]; simp)
       clear hcn
       go_wp2_with fail
       refine KV.out.mono ?_
       rintro r w2 ⟨rfl, rfl⟩
       go_wp2_with (at_builtin; refine wpList_push rfl _ _ _ rfl W0.heap.size 3 (.int .i64 0) 1 8 Tryz.underlying40 infoInt1 rfl (by decide) u7 ds.length (intsV ds) rfl (HOw.out.alloc _) wr.heap.size 3 #[.int .i64 X] rfl (Blk.new _ _ _ rfl) rfl (by simp [Value.oneCell']) (by unfold maxLen; omega) (by omega) (by have := HXr.out.size; simp <;> omega) ?_; intro v5 w5 hown hgr hat)
       have HZ := Lib.hid (HS.out w5 v5 (by rw [HN.out, List.length_append, intsV_snoc, ← HXx.out]; exact hown) (show Below W0.heap.size W0 w5 from ((show Below W0.heap.size W0 wr from HXr.out).alloc HXr.out.size _).grown hgr (by have := HXr.out.size; simp <;> omega) (fun k hk => by
         rcases HOw.out.2 with ⟨e, _⟩ | ⟨g', _, _, e, hB, _⟩
         ·rw [e] at hk; simp [Value.ownBlock] at hk
         ·rw [e] at hk; simp [Value.ownBlock] at hk; omega)) ((HB.out.alloc HB.out.size _).grown hgr (by have := HB.out.size; simp <;> omega) (fun k hk => by
         have h0 := HX0.out.size
         rcases HOw.out.2 with ⟨e, _⟩ | ⟨g', _, _, e, hB, _⟩
         ·rw [e] at hk; simp [Value.ownBlock] at hk
         ·rw [e] at hk; simp [Value.ownBlock] at hk; omega)))
       clear hown hgr hat
       go_wp2_with fail
       go_roundw
       case rel => exact HZ.out
       case measure => simp [intOf]; omega
      ·have HN := Lib.hid (show wtL level true (es.take (k + 1)) = ds by rw [HT.out, hcn]; simp)
       clear hcn
       go_wp2_with fail
       refine KV.out.mono ?_
       rintro r w2 ⟨rfl, rfl⟩
       go_wp2_with fail
       go_roundw
       case rel => exact HS.out _ _ (by rw [HN.out]; exact HOw.out) HXr.out HB.out
       case measure => simp [intOf]; omega
   ·obtain rfl : k = es.length := by omega
    have HF := Lib.hid (show ReadsL wr (clip u7) (intsV (wtL level shift es)) from by
     have := HOw.out
     rw [List.take_length] at this
     exact (ownsRow_reads this).clip)
    cases hl2 : ((level : Int) == 2)
    all_goals
     go_wp2_with fail
     refine (clip_own HOw.out).mono ?_
     rintro e w2 ⟨rfl, rfl⟩
     go_wp2_with fail
     go_ret
     exact ⟨⟨u7, rfl, HF.out⟩, HB.out⟩
/-! ### Lists of numbers -/
/-! ### The table's stream -/
theorem wts_wtL (i : Nat) (sh : Bool) (es : List El) : wts i sh false es = wtL i sh es := wts_fwd i sh es
/-- The bytes ahead of level i. -/
def preB (sh : Bool) (L : Nat) (es : List El) (i : Nat) : List UInt8 := (List.range' 1 (i - 1)).flatMap (levB sh L es)
def wsL (sh : Bool) (L : Nat) (es : List El) (i : Nat) : List Nat := wtL i sh es ++ if i < L then [0] else []
theorem levB_ws (sh : Bool) (L : Nat) (es : List El) (i : Nat) : levB sh L es i = (wsL sh L es i).flatMap (wtB i) := by
 unfold levB wsL
 rw [wts_wtL]
theorem preB_one (sh : Bool) (L : Nat) (es : List El) : preB sh L es 1 = [] := rfl
theorem preB_succ (sh : Bool) (L : Nat) (es : List El) (i : Nat) (hi : 1 ≤ i) : preB sh L es (i + 1) = preB sh L es i ++ levB sh L es i := by
 unfold preB
 rw [Nat.add_sub_cancel]
 obtain ⟨j, rfl⟩ : ∃ j, i = j + 1 := ⟨i - 1, by omega⟩
 rw [Nat.add_sub_cancel, List.range'_concat, List.flatMap_append]
 simp [Nat.add_comm]
theorem preB_all (sh : Bool) (L : Nat) (es : List El) : preB sh L es (L + 1) = streamB sh L es := rfl
theorem preB_le (sh : Bool) (L : Nat) (es : List El) : ∀ n i, 1 ≤ i → (preB sh L es i).length ≤ (preB sh L es (i + n)).length
 | 0, i, _ => Nat.le_refl _
 | n + 1, i, hi => by
  have h1 := preB_le sh L es n i hi
  have h2 := preB_succ sh L es (i + n) (by omega)
  rw [show i + (n + 1) = i + n + 1 by omega, h2, List.length_append]
  omega
theorem lev_room (sh : Bool) (L : Nat) (es : List El) (i j : Nat) (hi : 1 ≤ i) (hL : i ≤ L) (hj : j < (wsL sh L es i).length) :
  (preB sh L es i).length + (((wsL sh L es i).take j).flatMap (wtB i)).length + (wtB i (wsL sh L es i)[j]).length ≤ (streamB sh L es).length := by
 have h1 := preB_le sh L es (L - i) (i + 1) (by omega)
 rw [show i + 1 + (L - i) = L + 1 by omega, preB_all, preB_succ sh L es i hi, List.length_append, levB_ws] at h1
 have h2 : (wsL sh L es i) = (wsL sh L es i).take j ++ (wsL sh L es i)[j] :: (wsL sh L es i).drop (j + 1) := by
  rw [← List.drop_eq_getElem_cons hj, List.take_append_drop]
 have h3 := congrArg (fun l : List Nat => (l.flatMap (wtB i)).length) h2
 simp only [List.flatMap_append, List.flatMap_cons, List.length_append] at h3
 omega
theorem ws_take (sh : Bool) (L : Nat) (es : List El) (i j : Nat) (hj : j < (wsL sh L es i).length) : ((wsL sh L es i).take (j + 1)).flatMap (wtB i) = ((wsL sh L es i).take j).flatMap (wtB i) ++ wtB i (wsL sh L es i)[j] := by
 rw [List.take_succ_eq_append_getElem hj, List.flatMap_append]
 simp
theorem ws_lt (sh : Bool) (L : Nat) (es : List El) (i : Nat) (hok : ∀ e ∈ es, e.ok) : ∀ x ∈ wsL sh L es i, x < 65536 := by
 intro x hx
 unfold wsL at hx
 rcases List.mem_append.1 hx with hx | hx
 ·unfold wtL at hx
  obtain ⟨e, he, rfl⟩ := List.mem_map.1 hx
  exact wt_lt e (hok e (List.mem_filter.1 he).1) i
 ·split at hx
  ·simp at hx; omega
  ·simp at hx
theorem ws_len (sh : Bool) (L : Nat) (es : List El) (i : Nat) : (wsL sh L es i).length ≤ es.length + 1 := by
 have h := wtL_len i sh es es.length
 rw [List.take_length] at h
 unfold wsL
 rw [List.length_append]
 split <;> simp <;> omega
theorem wordsV_hard (es : List El) : ∀ y, (wordsV es)[0]? = some y → (∀ x, y ≠ .int .u8 x) ∧ ∀ a n c, y ≠ .slice a n c := by
 intro y hy
 cases es with
 | nil => simp [wordsV] at hy
 | cons e es =>
  simp [wordsV] at hy
  subst hy
  exact ⟨fun x h => (by cases h), fun a n c h => (by cases h)⟩
theorem intsV_hard (ws : List Nat) : ∀ y, (intsV ws)[0]? = some y → (∀ x, y ≠ .int .u8 x) ∧ ∀ a n c, y ≠ .slice a n c := by
 intro y hy
 cases ws with
 | nil => simp [intsV] at hy
 | cons e es =>
  simp [intsV] at hy
  subst hy
  exact ⟨fun x h => (by cases h), fun a n c h => (by cases h)⟩
theorem app_facts {w7 : World} {B k L : Nat} {sh : Bool} {es : List El} {v7 : Value} (hkl : k < L) (hown : w7.ownsRow B 3 1 v7 ((intsV (wtL k sh es)).length + 1) (intsV (wtL k sh es) ++ [Value.int .i64 0])) : ∃ ao cap, v7 = .slice ao (wsL sh L es k).length cap ∧ (wsL sh L es k).length ≤ cap ∧ ReadsL w7 (.slice ao (wsL sh L es k).length cap) (intsV (wsL sh L es k)) := by
 have h := ownsRow_reads hown
 rw [show intsV (wtL k sh es) ++ [Value.int .i64 0] = intsV (wsL sh L es k) by unfold wsL; rw [if_pos hkl]; exact (intsV_snoc _ 0).symm] at h
 obtain ⟨ao, cap, e, h2, _⟩ := intsAt h
 rw [e] at h
 exact ⟨ao, cap, e, h2, h⟩
theorem infoIntK : (Tryz.prog.info? 3).map (fun i => (i.zero, i.size, i.bytes)) = some (some (.int .i64 0), 1, 8) := by kernel_rfl
set_option maxHeartbeats 8000000 in
theorem stream1_tab (m L : Nat) (sh : Bool) (p : Nat) (s : ByteArray) (B1 B2 : Nat) (w : World) (hL1 : 1 ≤ L) (hL3 : L ≤ 3) (h1 : Blk w B1 #[.int .i64 3, .int .i64 (L : Int), .bool sh, .bool false, .pointer (some ⟨p, 0, none⟩)] 25) (h2 : Blk w B2 #[.string s] 9) (hp : RootAt w p)
  (hs : s.size ≤ 100000) (hT : ∀ W, Ext w W → Lib.Utf8Tabs 0 1 W) :
  Hands Fence.wide m Tryz.prog 243 #[.pointer (some ⟨B1, 0, none⟩), .pointer (some ⟨B2, 0, none⟩)] enc8 KeepU B2 (streamB sh L (els (signs s.data.toList))) w := by
 obtain ⟨es, hese⟩ : ∃ es, es = els (signs s.data.toList) := ⟨_, rfl⟩
 rw [← hese]
 have HEs := Lib.hid hese
 clear hese
 intro l J W hW hJ hJs hY h0
 have k1 := h1.keep hW
 have k2 := h2.keep hW
 have HB1 := Lib.hid k1
 have HB2 := Lib.hid k2
 obtain ⟨c1, f1⟩ := k1.facts
 obtain ⟨c2, f2⟩ := k2.facts
 have hcs := signs_length s.data.toList
 have hsz : s.data.toList.length = s.size := Array.length_toList
 have HAll := Lib.hid (signs_all s.data.toList)
 refine callsIn_of_wp Tryz.func243 rfl trivial ?_ rfl
 simp only [Tryz.ntmps243, List.size_toArray, List.length_cons, List.length_nil, Nat.reduceAdd, Nat.reduceSub, Array.replicate_succ, Array.replicate_zero, List.push_toArray, List.append_toArray, List.nil_append, List.cons_append]
 gi_wp2
 refine ⟨trivial, fun h => (by cases h), (callsIn_wide.2 (collOk_table (L : Int) sh false p W (by omega) (by omega))).mono ?_⟩
 rintro e w1 ⟨rfl, hb1⟩
 have HX1 := Lib.hid (show Ext W w1 from hb1)
 obtain ⟨c1, f1⟩ := (HB1.out.keep hb1).facts
 obtain ⟨c2, f2⟩ := (HB2.out.keep hb1).facts
 gi_wp2
 refine ⟨trivial, fun h => (by cases h), (callsIn_wide.2 (elements_any p s w1 (hp.ext (Ext.trans hW hb1)) hs fun W2 h2 => hT W2 (Ext.trans hW (Ext.trans hb1 h2)))).mono ?_⟩
 rintro e w2 ⟨⟨ve, rfl, hve⟩, hb2⟩
 have hx2 := Ext.trans HX1.out hb2
 have HJ2 := Lib.hid (hJ [] W w2 none h0 ⟨hx2.os, hx2.tape, hx2.output, hx2.size, fun i hi _ => hx2.block i hi⟩ (fun r h => by cases h))
 have HB1' := Lib.hid (HB1.out.keep hx2)
 have HE := Lib.hid hve
 have hel := els_len (signs s.data.toList)
 have HOk := Lib.hid (els_ok _ fun c hc => (HAll.out c hc).2)
 rw [← HEs.out] at hel HOk HE
 have hes : es.length ≤ 200000 := by omega
 obtain ⟨c1, f1⟩ := HB1'.out.facts
 clear hb1 hb2 hx2 hve hel hcs hsz HAll hW hp h1 h2 hT hs HB1 HB2 HX1 c2 f2
 gi_wp2
 gi_loopw [6, 7, 9] (fun i _ _ wr => ∃ k : Nat, 1 ≤ k ∧ k ≤ L + 1 ∧ i = .int .i64 k ∧ J (preB sh L es k) wr ∧ Blk wr B1 #[.int .i64 3, .int .i64 (L : Int), .bool sh, .bool false, .pointer (some ⟨p, 0, none⟩)] 25 ∧ ReadsL wr ve (wordsV es)) (fun i _ _ _ => L + 1 - (intOf i).toNat)
 case atStart => exact ⟨1, Nat.le_refl _, by omega, rfl, HJ2.out, HB1'.out, HE.out⟩
 case round =>
  obtain ⟨k, hk1, hkL, rfl, hj, hb1, hre⟩ := hrel
  obtain ⟨c1, f1⟩ := hb1.facts
  have HK := Lib.hid hb1
  have HJk := Lib.hid hj
  have HRe := Lib.hid hre
  clear hj hb1 hre
  by_cases hlt : k ≤ L
  ·have hltI : (k : Int) ≤ (L : Int) := by omega
   gi_wp2
   refine ⟨trivial, fun h => (by cases h), (callsIn_wide.2 (collOf_full 3 (L : Int) sh (some ⟨p, 0, none⟩) ve es k wr HRe.out (by omega) HOk.out (by omega))).mono ?_⟩
   rintro e w3 ⟨⟨uw, rfl, huw⟩, hb3⟩
   have HX3 := Lib.hid (show Ext wr w3 from hb3)
   have HU := Lib.hid huw
   obtain ⟨c1, f1⟩ := (HK.out.keep hb3).facts
   clear hb3 huw
   have hJx : ∀ W5, Ext wr W5 → J (preB sh L es k) W5 := fun W5 h5 => hJ _ wr W5 none HJk.out ⟨h5.os, h5.tape, h5.output, h5.size, fun i hi _ => h5.block i hi⟩ (fun r h => by cases h)
   have hwl := wtL_len k sh es es.length
   rw [List.take_length] at hwl
   by_cases hkl : k < L
   ·have hklI : (k : Int) < (L : Int) := by omega
    gi_wp2_with (gi_at_builtin; refine wpListIn_app_full rfl _ _ _ rfl 3 (.int .i64 0) 8 Tryz.underlying40 infoIntK rfl uw (intsV (wtL k sh es)) rfl (HU.out.ext ((Ext.refl w3).alloc _)) w3.heap.size 3 (.int .i64 0) rfl (Blk.new _ _ _ rfl) rfl (by rw [intsV_length]; unfold maxLen; omega) (by rw [intsV_length]; omega) ?_; intro v7 w7 hown hgr; obtain ⟨ao, cap7, rfl, hcap7, hrd7⟩ := app_facts hkl hown; clear hown)
    have hx7 : Ext wr w7 := Ext.trans (Ext.trans HX3.out ((Ext.refl w3).alloc (.cells #[.int .i64 0] 3))) ⟨hgr.os, hgr.tape, hgr.output, hgr.size, fun i hi => hgr.block i hi (by simp)⟩
    clear hgr
    have HX7 := Lib.hid (keepU_ext hx7)
    have HB7 := Lib.hid (HK.out.keep hx7)
    have HE7 := Lib.hid (HRe.out.ext hx7)
    have HJ7 := Lib.hid (hJx _ hx7)
    have hlen7 := ws_len sh L es k
    have HLt := Lib.hid (ws_lt sh L es k HOk.out)
    have HTk := Lib.hid (fun q (hq : q < (wsL sh L es k).length) => ws_take sh L es k q hq)
    have HRoom := Lib.hid (fun q (hq : q < (wsL sh L es k).length) => lev_room sh L es k q hk1 hlt hq)
    have HEnd := Lib.hid (preB_succ sh L es k hk1)
    rw [levB_ws] at HEnd
    have HRd7 := Lib.hid hrd7
    generalize wsL sh L es k = ws at HLt HTk HRoom HEnd HRd7 hlen7 hcap7 ⊢
    clear hx7 hrd7 c1 f1
    obtain ⟨c1, f1⟩ := HB7.out.facts
    gi_loopw [9, 62] (fun _ j wz => ∃ q : Nat, q ≤ ws.length ∧ j = .int .i64 q ∧ J (preB sh L es k ++ (ws.take q).flatMap (wtB k)) wz ∧ Blk wz B1 #[.int .i64 3, .int .i64 (L : Int), .bool sh, .bool false, .pointer (some ⟨p, 0, none⟩)] 25 ∧ ReadsL wz ve (wordsV es) ∧ ReadsL wz (.slice ao ws.length cap7) (intsV ws)) (fun _ j _ => ws.length - (intOf j).toNat)
    case atStart => exact ⟨0, Nat.zero_le _, rfl, by simpa using HJ7.out, HB7.out, HE7.out, HRd7.out⟩
    case round =>
     obtain ⟨q, hq, rfl, hj, hbz, hez, hwz⟩ := hrel
     have HBz := Lib.hid hbz
     have HEz := Lib.hid hez
     have HWz := Lib.hid hwz
     by_cases hlq : q < ws.length
     ·have hlqI : (q : Int) < (ws.length : Int) := by omega
      obtain ⟨ao', cap', hsl, _, hcz⟩ := intsAt hwz
      simp only [Value.slice.injEq] at hsl
      obtain ⟨rfl, _, rfl⟩ := hsl
      obtain ⟨gw, rfl, cz⟩ := hcz wr (Ext.refl _) q hlq
      have hXl := HLt.out ws[q] (List.getElem_mem hlq)
      have hroom := HRoom.out q hlq
      have htk := HTk.out q hlq
      generalize ws[q] = X at cz hXl hroom htk
      have e2 : ((u8 X).toNat : Int) = (X : Int) % 256 := by simp [u8]
      by_cases hke : k = 1
      ·have hkeb : ((k : Int) == 1) = true := by rw [beq_iff_eq]; omega
       have e1 : ((u8 (X / 256)).toNat : Int) = (X : Int) / 256 := by simp [u8]; omega
       have hw1 : wtB k X = [u8 (X / 256), u8 X] := by unfold wtB; rw [if_pos hke]
       clear hke
       rw [hw1] at hroom htk
       simp only [List.length_cons, List.length_nil] at hroom
       obtain ⟨fn, tmps, assign, body, hy, hR⟩ := hY _ (u8 (X / 256)) wr hj (by rw [List.length_append]; omega)
       simp only [enc8, e1] at hy
       gi_wp2
       refine ⟨fun h => (by cases h), hR.mono ?_⟩
       rintro e W4 ⟨rfl, hJ4, hk4⟩
       obtain ⟨fn2, tmps2, assign2, body2, hy2, hR2⟩ := hY _ (u8 X) W4 hJ4 (by simp only [List.length_append, List.length_cons, List.length_nil]; omega)
       simp only [enc8, e2] at hy2
       gi_wp2
       refine ⟨fun h => (by cases h), hR2.mono ?_⟩
       rintro e W5 ⟨rfl, hJ5, hk5⟩
       have hk6 := keepU_t hk4 hk5
       have HJ6 := Lib.hid (show J (preB sh L es k ++ (ws.take (q + 1)).flatMap (wtB k)) W5 by rw [htk]; simpa using hJ5)
       have HB6 := Lib.hid (hk6.blk HBz.out (by simp [Soft]))
       have HE6 := Lib.hid (hk6.reads HEz.out (wordsV_hard es))
       have HW6 := Lib.hid (hk6.reads HWz.out (intsV_hard ws))
       gi_wp2
       go_roundw
       case rel => exact ⟨q + 1, by omega, by go_num, HJ6.out, HB6.out, HE6.out, HW6.out⟩
       case measure => simp [intOf]; omega
      ·have hkeb : ((k : Int) == 1) = false := by rw [beq_eq_false_iff_ne]; omega
       have hw1 : wtB k X = [u8 X] := by unfold wtB; rw [if_neg hke]
       rw [hw1] at hroom htk
       simp only [List.length_cons, List.length_nil] at hroom
       obtain ⟨fn2, tmps2, assign2, body2, hy2, hR2⟩ := hY _ (u8 X) wr hj (by rw [List.length_append]; omega)
       simp only [enc8, e2] at hy2
       gi_wp2
       refine ⟨fun _ h => (by cases h), ?_⟩
       gi_wp2
       refine ⟨fun h => (by cases h), hR2.mono ?_⟩
       rintro e W5 ⟨rfl, hJ5, hk5⟩
       have HJ6 := Lib.hid (show J (preB sh L es k ++ (ws.take (q + 1)).flatMap (wtB k)) W5 by rw [htk]; simpa using hJ5)
       have HB6 := Lib.hid (hk5.blk HBz.out (by simp [Soft]))
       have HE6 := Lib.hid (hk5.reads HEz.out (wordsV_hard es))
       have HW6 := Lib.hid (hk5.reads HWz.out (intsV_hard ws))
       gi_wp2
       go_roundw
       case rel => exact ⟨q + 1, by omega, by go_num, HJ6.out, HB6.out, HE6.out, HW6.out⟩
       case measure => simp [intOf]; omega
     ·obtain rfl : q = ws.length := by omega
      have hlqI : ¬ (ws.length : Int) < (ws.length : Int) := by omega
      rw [List.take_length] at hj
      gi_wp2
      go_roundw
      case rel => exact ⟨k + 1, by omega, by omega, by go_num, by rw [HEnd.out]; exact hj, hbz, hez⟩
      case measure => simp [intOf]; omega
   ·have hklI : ¬ (k : Int) < (L : Int) := by omega
    have hx7 := HX3.out
    have hrd7 : ReadsL w3 (clip uw) (intsV (wsL sh L es k)) := by
     unfold wsL
     rw [if_neg hkl, List.append_nil]
     exact HU.out
    obtain ⟨ao, cap7, hv7, hcap7, _⟩ := intsAt hrd7
    rw [hv7] at hrd7 ⊢
    have HX7 := Lib.hid (keepU_ext hx7)
    have HB7 := Lib.hid (HK.out.keep hx7)
    have HE7 := Lib.hid (HRe.out.ext hx7)
    have HJ7 := Lib.hid (hJx _ hx7)
    have hlen7 := ws_len sh L es k
    have HLt := Lib.hid (ws_lt sh L es k HOk.out)
    have HTk := Lib.hid (fun q (hq : q < (wsL sh L es k).length) => ws_take sh L es k q hq)
    have HRoom := Lib.hid (fun q (hq : q < (wsL sh L es k).length) => lev_room sh L es k q hk1 hlt hq)
    have HEnd := Lib.hid (preB_succ sh L es k hk1)
    rw [levB_ws] at HEnd
    have HRd7 := Lib.hid hrd7
    generalize wsL sh L es k = ws at HLt HTk HRoom HEnd HRd7 hlen7 hcap7 ⊢
    clear hx7 hrd7 c1 f1
    obtain ⟨c1, f1⟩ := HB7.out.facts
    gi_wp2
    gi_loopw [9, 62] (fun _ j wz => ∃ q : Nat, q ≤ ws.length ∧ j = .int .i64 q ∧ J (preB sh L es k ++ (ws.take q).flatMap (wtB k)) wz ∧ Blk wz B1 #[.int .i64 3, .int .i64 (L : Int), .bool sh, .bool false, .pointer (some ⟨p, 0, none⟩)] 25 ∧ ReadsL wz ve (wordsV es) ∧ ReadsL wz (.slice ao ws.length cap7) (intsV ws)) (fun _ j _ => ws.length - (intOf j).toNat)
    case atStart => exact ⟨0, Nat.zero_le _, rfl, by simpa using HJ7.out, HB7.out, HE7.out, HRd7.out⟩
    case round =>
     obtain ⟨q, hq, rfl, hj, hbz, hez, hwz⟩ := hrel
     have HBz := Lib.hid hbz
     have HEz := Lib.hid hez
     have HWz := Lib.hid hwz
     by_cases hlq : q < ws.length
     ·have hlqI : (q : Int) < (ws.length : Int) := by omega
      obtain ⟨ao', cap', hsl, _, hcz⟩ := intsAt hwz
      simp only [Value.slice.injEq] at hsl
      obtain ⟨rfl, _, rfl⟩ := hsl
      obtain ⟨gw, rfl, cz⟩ := hcz wr (Ext.refl _) q hlq
      have hXl := HLt.out ws[q] (List.getElem_mem hlq)
      have hroom := HRoom.out q hlq
      have htk := HTk.out q hlq
      generalize ws[q] = X at cz hXl hroom htk
      have e2 : ((u8 X).toNat : Int) = (X : Int) % 256 := by simp [u8]
      by_cases hke : k = 1
      ·have hkeb : ((k : Int) == 1) = true := by rw [beq_iff_eq]; omega
       have e1 : ((u8 (X / 256)).toNat : Int) = (X : Int) / 256 := by simp [u8]; omega
       have hw1 : wtB k X = [u8 (X / 256), u8 X] := by unfold wtB; rw [if_pos hke]
       clear hke
       rw [hw1] at hroom htk
       simp only [List.length_cons, List.length_nil] at hroom
       obtain ⟨fn, tmps, assign, body, hy, hR⟩ := hY _ (u8 (X / 256)) wr hj (by rw [List.length_append]; omega)
       simp only [enc8, e1] at hy
       gi_wp2
       refine ⟨fun h => (by cases h), hR.mono ?_⟩
       rintro e W4 ⟨rfl, hJ4, hk4⟩
       obtain ⟨fn2, tmps2, assign2, body2, hy2, hR2⟩ := hY _ (u8 X) W4 hJ4 (by simp only [List.length_append, List.length_cons, List.length_nil]; omega)
       simp only [enc8, e2] at hy2
       gi_wp2
       refine ⟨fun h => (by cases h), hR2.mono ?_⟩
       rintro e W5 ⟨rfl, hJ5, hk5⟩
       have hk6 := keepU_t hk4 hk5
       have HJ6 := Lib.hid (show J (preB sh L es k ++ (ws.take (q + 1)).flatMap (wtB k)) W5 by rw [htk]; simpa using hJ5)
       have HB6 := Lib.hid (hk6.blk HBz.out (by simp [Soft]))
       have HE6 := Lib.hid (hk6.reads HEz.out (wordsV_hard es))
       have HW6 := Lib.hid (hk6.reads HWz.out (intsV_hard ws))
       gi_wp2
       go_roundw
       case rel => exact ⟨q + 1, by omega, by go_num, HJ6.out, HB6.out, HE6.out, HW6.out⟩
       case measure => simp [intOf]; omega
      ·have hkeb : ((k : Int) == 1) = false := by rw [beq_eq_false_iff_ne]; omega
       have hw1 : wtB k X = [u8 X] := by unfold wtB; rw [if_neg hke]
       rw [hw1] at hroom htk
       simp only [List.length_cons, List.length_nil] at hroom
       obtain ⟨fn2, tmps2, assign2, body2, hy2, hR2⟩ := hY _ (u8 X) wr hj (by rw [List.length_append]; omega)
       simp only [enc8, e2] at hy2
       gi_wp2
       refine ⟨fun _ h => (by cases h), ?_⟩
       gi_wp2
       refine ⟨fun h => (by cases h), hR2.mono ?_⟩
       rintro e W5 ⟨rfl, hJ5, hk5⟩
       have HJ6 := Lib.hid (show J (preB sh L es k ++ (ws.take (q + 1)).flatMap (wtB k)) W5 by rw [htk]; simpa using hJ5)
       have HB6 := Lib.hid (hk5.blk HBz.out (by simp [Soft]))
       have HE6 := Lib.hid (hk5.reads HEz.out (wordsV_hard es))
       have HW6 := Lib.hid (hk5.reads HWz.out (intsV_hard ws))
       gi_wp2
       go_roundw
       case rel => exact ⟨q + 1, by omega, by go_num, HJ6.out, HB6.out, HE6.out, HW6.out⟩
       case measure => simp [intOf]; omega
     ·obtain rfl : q = ws.length := by omega
      have hlqI : ¬ (ws.length : Int) < (ws.length : Int) := by omega
      rw [List.take_length] at hj
      gi_wp2
      go_roundw
      case rel => exact ⟨k + 1, by omega, by omega, by go_num, by rw [HEnd.out]; exact hj, hbz, hez⟩
      case measure => simp [intOf]; omega
  ·obtain rfl : k = L + 1 := by omega
   have hltI : ¬ ((L : Int) + 1) ≤ (L : Int) := by omega
   gi_wp2
   refine bodyPost_end (results_none rfl _ _ _) rfl ?_
   exact ⟨⟨_, rfl⟩, by rw [← preB_all]; exact HJk.out⟩
end Go.Proofs.YtipokgedmfnlaaaGreatDoor

namespace Go.Proofs.YtipokgedmfnlaaaGreatDoor
open Go.RowKit Go.Shelf Go.Lib
attribute [local go_sem] Oper.semAt_some
set_option maxRecDepth 100000

/-! ### The key -/
set_option maxHeartbeats 1000000 in
theorem stream_any (c : Array Value) (hc : ∃ a b d e g, c = #[a, b, d, e, g]) (s : ByteArray) (w : World) :
  Calls Tryz.prog 201 #[.agg c, .string s] w fun e w' => e = .returned (.func (.func 243) #[] #[.pointer (some ⟨w.heap.size, 0, none⟩), .pointer (some ⟨w.heap.size + 1, 0, none⟩)]) ∧ w' = (w.alloc (.cells c 25)).alloc (.cells #[.string s] 9) := by
 obtain ⟨a, b, d, e, g, rfl⟩ := hc
 go_enter Tryz.func201, Tryz.ntmps201
 go_wp2_with fail
 go_ret
 exact ⟨rfl, rfl⟩
theorem stream1_any (m : Nat) (x : C5) (s : ByteArray) (B1 B2 : Nat) (w : World) (h1 : Blk w B1 x.c.toArray 25) (h2 : Blk w B2 #[.string s] 9) (hx : x.At w) (hs : s.size ≤ 100000) (hG : ∀ W, Ext w W → Glob W) :
  Hands Fence.wide m Tryz.prog 243 #[.pointer (some ⟨B1, 0, none⟩), .pointer (some ⟨B2, 0, none⟩)] enc8 KeepU B2 (x.key s.data.toList) w := by
 obtain ⟨K, lv, sh, p, q, qn, qc, f⟩ := x
 unfold C5.key keyT
 rcases hx.how with ⟨h3, h4, h5, h6, _, _, _, _⟩ | ⟨p2, l, h3, h4, h5, h6, h7, h8, _, _⟩
 ·simp only at h3 h4 h5 h6
  subst h4 h5 h6
  rcases h3 with rfl | rfl
  ·exact stream1_bin m 0 false none s B1 B2 w h1 h2 hs
  ·exact stream1_fold m 0 false none s B1 B2 w h1 h2 hs fun W hW => (hG W hW).tabs
 ·simp only at h3 h6 h7
  subst h3 h6 h7
  exact stream1_tab m l sh p2 s B1 B2 w h4 h5 h1 h2 h8 hs fun W hW => (hG W hW).tabs
def u8V (x : UInt8) : Value := .int .u8 (x.toNat : Int)
theorem u8V_head (l : List UInt8) : ∀ y, (l.map u8V)[0]? = some y → ∃ x, y = .int .u8 x := fun y hy => by
 cases l with
 | nil => simp at hy
 | cons a l =>
  simp [u8V] at hy
  exact ⟨_, hy.symm⟩
set_option maxHeartbeats 4000000 in
theorem key_any (x : C5) (s : ByteArray) (w : World) (hx : x.At w) (hs : s.size ≤ 100000) (hlen : (x.key s.data.toList).length ≤ 1000000) (hG : ∀ W, Ext w W → Glob W) :
  Calls Tryz.prog 138 #[.agg x.c.toArray, .string s] w fun e w' => e = .returned (.string ⟨(x.key s.data.toList).toArray⟩) ∧ Below w.heap.size w w' := by
 obtain ⟨i0, hi, hz0, hz1, hz2⟩ := info_parts infoU8
 have HG := Lib.hid hG
 have HX := Lib.hid hx
 obtain ⟨a1, a2, a3, a4, a5, hc⟩ : ∃ a b d e g, x.c.toArray = #[a, b, d, e, g] := ⟨_, _, _, _, _, rfl⟩
 have HC := Lib.hid hc
 rw [hc]
 clear hG hx hc
 refine (callsIn_wide (n := 6)).1 ?_
 refine callsIn_of_wp_marks Tryz.func138 rfl trivial ?_ rfl
 simp only [Tryz.ntmps138, List.size_toArray, List.length_cons, List.length_nil, Nat.reduceAdd, Nat.reduceSub, Array.replicate_succ, Array.replicate_zero, List.push_toArray, List.append_toArray, List.nil_append, List.cons_append]
 gi_wp2
 refine ⟨trivial, (callsIn_wide.2 (stream_any _ ⟨_, _, _, _, _, rfl⟩ s _)).mono ?_⟩
 rintro e w1 ⟨rfl, rfl⟩
 gi_wp2
 have bO : Boxed ((((w.alloc (.cells #[a1, a2, a3, a4, a5] 25)).alloc (.cells #[.slice none 0 0] 123)).alloc (.cells #[a1, a2, a3, a4, a5] 25)).alloc (.cells #[.string s] 9)) (w.heap.size + 1) 123 (.slice none 0 0) := (((Blk.new (w.alloc (.cells #[a1, a2, a3, a4, a5] 25)) #[.slice none 0 0] 123 (n := w.heap.size + 1) (by simp)).alloc _).alloc _)
 have b1 : Blk ((((w.alloc (.cells #[a1, a2, a3, a4, a5] 25)).alloc (.cells #[.slice none 0 0] 123)).alloc (.cells #[a1, a2, a3, a4, a5] 25)).alloc (.cells #[.string s] 9)) (w.heap.size + 1 + 1) #[a1, a2, a3, a4, a5] 25 := (Blk.new _ #[a1, a2, a3, a4, a5] 25 (n := w.heap.size + 1 + 1) (by simp)).alloc _
 have b2 : Blk ((((w.alloc (.cells #[a1, a2, a3, a4, a5] 25)).alloc (.cells #[.slice none 0 0] 123)).alloc (.cells #[a1, a2, a3, a4, a5] 25)).alloc (.cells #[.string s] 9)) (w.heap.size + 1 + 1 + 1) #[.string s] 9 := Blk.new _ _ _ (by simp)
 have hx0 : Ext w ((((w.alloc (.cells #[a1, a2, a3, a4, a5] 25)).alloc (.cells #[.slice none 0 0] 123)).alloc (.cells #[a1, a2, a3, a4, a5] 25)).alloc (.cells #[.string s] 9)) := ((((Ext.refl w).alloc _).alloc _).alloc _).alloc _
 have hsz : ((((w.alloc (.cells #[a1, a2, a3, a4, a5] 25)).alloc (.cells #[.slice none 0 0] 123)).alloc (.cells #[a1, a2, a3, a4, a5] 25)).alloc (.cells #[.string s] 9)).heap.size = w.heap.size + 4 := by simp
 generalize (((w.alloc (.cells #[a1, a2, a3, a4, a5] 25)).alloc (.cells #[.slice none 0 0] 123)).alloc (.cells #[a1, a2, a3, a4, a5] 25)).alloc (.cells #[.string s] 9) = W0 at bO b1 b2 hx0 hsz ⊢
 rw [← HC.out] at b1
 have HX0 := Lib.hid hx0
 refine wpIn_range_box (F := Fence.wide) (n := 6) (xs := x.key s.data.toList) rfl (by decide) (gf := 243) (lb := #[.pointer (some ⟨w.heap.size + 1 + 1, 0, none⟩), .pointer (some ⟨w.heap.size + 1 + 1 + 1, 0, none⟩)]) rfl trivial (enters_of Tryz.func243 (by kernel_rfl) rfl)
  (stream1_any _ x s _ _ W0 b1 b2 (HX.out.ext hx0) hs fun W hW => HG.out W (Ext.trans hx0 hW)) keepU_t keepU_b (by rw [hsz]; omega) (fun _ => rfl)
  (fun pre W => (∃ v, Boxed W (w.heap.size + 1) 123 v ∧ W.ownsRow w.heap.size 5 1 v pre.length (pre.map u8V) ∧ (pre.length = 0 → v = .slice none 0 0)) ∧ Below w.heap.size w W)
  (OwnFrom.and (Own.from (holdsRow_own w.heap.size (w.heap.size + 1) 123 5 1 (fun (pre : List UInt8) => pre.length) (fun (pre : List UInt8) => pre.map u8V) (fun (pre : List UInt8) v => pre.length = 0 → v = .slice none 0 0)) _) (ownFrom_below (Nat.le_refl _) (by rw [hsz]; omega)))
  (fun W v h => by
   obtain ⟨⟨v0, h1, h2, h3⟩, h4⟩ := h
   have h5 := h3 rfl
   subst h5
   exact ⟨⟨_, h1.other (by omega) v, World.ownsRow_nil _ _ _ _, fun _ => rfl⟩, Below.setCell h4 (by show w.heap.size ≤ w.heap.size + 1 + 1 + 1; omega) _⟩)
  ⟨⟨_, bO, World.ownsRow_nil _ _ _ _, fun _ => rfl⟩, hx0⟩
  (fun y => { tmps := #[.agg #[a1, a2, a3, a4, a5], .string s, .pointer (some ⟨w.heap.size, 0, none⟩), undef, .string ⟨#[]⟩, .pointer (some ⟨w.heap.size + 1, 0, none⟩), (.int .u8 (y.toNat : Int)), .agg #[a1, a2, a3, a4, a5], .string s, .func (.func 243) #[] #[.pointer (some ⟨w.heap.size + 1 + 1, 0, none⟩), .pointer (some ⟨w.heap.size + 1 + 1 + 1, 0, none⟩)], .int .u8 (y.toNat : Int), undef, undef, undef, undef, undef, undef], defers := [] }) ?assign ?body ?done
 case assign =>
  intro l y W K hK
  simp only [enc8]
  gi_wp2
  exact hK
 case body =>
  rintro l pre y W ⟨⟨v, hv, hrow, hnil⟩, hB⟩ hlt
  have hc := hv.cell
  gi_wp2_with (gi_at_builtin; refine wpListIn_append_own _ rfl _ _ 123 rfl w.heap.size 5 i0 (.int .u8 0) 1 1 Tryz.underlying123 hi hz0 hz1 hz2 rfl (by decide) _ _ _ rfl (hrow.alloc _) ⟨W.heap.size, 0, none⟩ 1 1 [.int .u8 (y.toNat : Int)] rfl rfl (cell_one_new _ _ _) (by simp [Value.oneCell']) (by unfold maxLen; omega) (by omega) (by have := hB.size; simp; omega) ?_; intro v' w1 hown' hgrow _; obtain ⟨g', cap', rfl⟩ := ownsRow_succ hown'; obtain ⟨hv1, hv2, hr2, hk2, hb2⟩ := hv.appended (by decide) hrow hB.size (Nat.le_succ _) hown' hgrow; have hku := keepU_push (u := .slice (some ⟨g', 0, none⟩) (pre.length + 1) cap') hv hrow hnil (u8V_head pre) hgrow; have hc1 := hv1.cell; have hf1 := hv1.frozen)
  exact ⟨hk2.from _, hku, ⟨_, hv2, by simpa [u8V] using hr2, fun h => by simp at h⟩, hB.trans hb2⟩
 case done =>
  rintro D W hD ⟨⟨v, hv, hrow, hnil⟩, hB⟩ hK
  have hc := hv.cell
  have hBe : Below w.heap.size W (W.putObj D (.deferred none)) := belowK_b (w := w) (Nat.le_refl _) W D _ _ (by omega) hK rfl rfl
  rcases hrow.2 with ⟨rfl, h0⟩ | ⟨g, cap, cur, rfl, _, hb, hcap, _, hcs, ht⟩
  ·have hcv := run_convert_bytes_nil (P := Tryz.prog) W 123 5 Tryz.underlying123 Tryz.underlying5 0 0 9 Tryz.underlying9
   gi_wp2
   refine ⟨by simp, .inl ⟨_, _, rfl, run_takeDeferred hK, ?_⟩⟩
   have hz : x.key s.data.toList = [] := List.eq_nil_of_length_eq_zero h0
   exact ⟨_, results_tmp rfl _ _ _, by rw [hz]; rfl, hB.trans hBe⟩
  ·have hcv := run_convert_bytes_arg (P := Tryz.prog) W 123 5 Tryz.underlying123 Tryz.underlying5 g 0 (x.key s.data.toList).length cap ((x.key s.data.toList).map fun y => (y.toNat : Int)) (by simp) (fun i hi => by
    rw [Nat.zero_add, cell_of_row W g i cur _ (0, 0) hb]
    have h1 := congrArg (fun l : List Value => l[i]?) ht
    simp only [Nat.mul_one] at h1
    rw [List.getElem?_take, if_pos hi, Array.getElem?_toList] at h1
    rw [h1]
    simp [u8V, List.getD_eq_getElem?_getD, hi]) 9 Tryz.underlying9
   gi_wp2
   refine ⟨by simp, .inl ⟨_, _, rfl, run_takeDeferred hK, ?_⟩⟩
   exact ⟨_, results_tmp rfl _ _ _, by
    have e : strOfNums ((x.key s.data.toList).map fun y => (y.toNat : Int)) = ⟨(x.key s.data.toList).toArray⟩ := by
     unfold strOfNums
     rw [List.map_map]
     congr 1
     congr 1
     conv => rhs; rw [← List.map_id (x.key s.data.toList)]
     refine List.map_congr_left fun y _ => ?_
     simp
    rw [← e]; rfl, hB.trans hBe⟩
end Go.Proofs.YtipokgedmfnlaaaGreatDoor

namespace Go.Proofs.YtipokgedmfnlaaaGreatDoor
open Go.RowKit Go.Shelf Go.Lib
set_option maxRecDepth 100000

set_option maxHeartbeats 1000000 in
theorem escape_any (l : List UInt8) (w : World) (hl : l.length ≤ 1000000) (hG : Glob w) :
  Calls Tryz.prog 137 #[.string ⟨l.toArray⟩] w fun e w' => e = .returned (.string ⟨(escB l ++ [0, 1]).toArray⟩) ∧ Below w.heap.size w w' := by
 obtain ⟨m, hm⟩ := hG.maxLen
 have HM := Lib.hid hm
 have hcl := Lib.count_le l [0]
 have hel := escB_len l
 have HC := Lib.hid hcl
 have HE := Lib.hid hel
 have HL := Lib.hid hl
 clear hG hm hcl hel hl
 go_enter Tryz.func137, Tryz.ntmps137
 go_wp2_with fail
 refine Calls.mono (Tryz.strings_ReplaceAll ⟨l.toArray⟩ ⟨#[0]⟩ ⟨#[0, 255]⟩ m w (by simpa [ByteArray.size] using (by have := HL.out; omega)) HM.out (by decide) ?hlen) ?_
 case hlen =>
  show l.length + Lib.count l [0] * 2 ≤ _
  have := HC.out; have := HL.out; omega
 rintro e w1 ⟨rfl, hb⟩
 rw [show (⟨(Lib.replaceAll (⟨l.toArray⟩ : ByteArray).data.toList (⟨#[0]⟩ : ByteArray).data.toList (⟨#[0, 255]⟩ : ByteArray).data.toList).toArray⟩ : ByteArray) = ⟨(escB l).toArray⟩ from by
  rw [show Lib.replaceAll (⟨l.toArray⟩ : ByteArray).data.toList (⟨#[0]⟩ : ByteArray).data.toList (⟨#[0, 255]⟩ : ByteArray).data.toList = escB l from replaceAll_zero l]]
 have hsz : (escB l).length ≤ 2000000 := by
  have := HE.out; have := HL.out; omega
 have HB := Lib.hid hb
 clear hb
 obtain ⟨E, hE⟩ : ∃ E, E = escB l := ⟨_, rfl⟩
 rw [← hE] at hsz ⊢
 have HEq := Lib.hid hE
 clear hE HE HC
 go_wp2_with fail
 go_ret
 refine ⟨?_, HB.out⟩
 rw [show (⟨E.toArray⟩ : ByteArray) ++ ⟨#[0, 1]⟩ = ⟨(E ++ [0, 1]).toArray⟩ from by apply ByteArray.ext; simp, HEq.out]
 rfl

abbrev oneU8 (n : Int) (v : Value) (W : World) : Prop := ∃ b, v = .slice (some ⟨b, 0, none⟩) 1 1 ∧ Blk W b #[.int .u8 n] 5
def partV (x : C5) : Value := .agg #[.int .i64 x.K, .int .i64 x.lv, .bool x.sh, .bool false, .pointer x.p, .bool false]
set_option maxHeartbeats 4000000 in
theorem value_any (x : C5) (y : V3) (w : World) (hx : x.At w) (hs : y.s.size ≤ 60) (hlen : (x.key (cS y.k y.n y.s).data.toList).length ≤ 1000000) (hG : ∀ W, Ext w W → Glob W) :
  Calls Tryz.prog 84 #[.agg #[.int .i64 y.k, .int .i64 y.n, .string y.s], partV x] w fun e w' => e = .returned (.string (bs (valB x y))) ∧ Below w.heap.size w w' := by
 have HIS := Lib.hid (fun W => valis_any y.k y.n y.s W)
 have k1 := cK_kinds y.k y.n y.s
 have b1 := @cN_bool y.k y.n y.s
 have hz := cS_size y.k y.n y.s
 unfold valB partV
 unfold vV at HIS
 generalize cK y.k y.n y.s = kk at *
 generalize cN y.k y.n y.s = nn at *
 generalize cS y.k y.n y.s = ss at *
 have HG := Lib.hid hG
 have HX := Lib.hid hx
 have HB1 := Lib.hid b1
 have HL := Lib.hid hlen
 have HZ := Lib.hid (Nat.le_trans hz hs)
 clear hG hx hlen b1 hz hs
 have hd : ∃ P : List UInt8, P = (if kk = 0 then [1] else if kk = 1 then [2, UInt8.ofNat nn.toNat] else if kk = 2 then 3 :: numB nn else 4 :: (escB (x.key ss.data.toList) ++ [0, 1])) := ⟨_, rfl⟩
 obtain ⟨P, hP⟩ := hd
 rw [← hP]
 have HP := Lib.hid hP
 clear hP
 go_enter Tryz.func84, Tryz.ntmps84
 go_wp2_with fail
 refine Calls.mono (HIS.out _) ?_
 rintro e w1 ⟨rfl, hb⟩
 have k0 : Blk w1 w.heap.size #[.int .i64 y.k, .int .i64 y.n, .string y.s] 45 := (Blk.alloc (Blk.new _ _ _ rfl) _).keep hb
 have kp : Blk w1 (w.heap.size + 1) #[.int .i64 x.K, .int .i64 x.lv, .bool x.sh, .bool false, .pointer x.p, .bool false] 165 := (Blk.new _ _ _ (by simp)).keep hb
 obtain ⟨c0, f0⟩ := k0.facts
 obtain ⟨c1, f1⟩ := kp.facts
 have hz := hb.size
 simp at hz
 have K0 := Lib.hid k0
 have K1 := Lib.hid kp
 have hb0 : Below w.heap.size w w1 := (((Below.refl _ _).alloc (Nat.le_refl _) _).alloc (by simp) _).trans (hb.mono (by simp; omega))
 have HB0 := Lib.hid hb0
 clear hb0
 have HB := Lib.hid hb
 clear k0 kp hb
 dsimp only
 rcases k1 with rfl | rfl | rfl | rfl
 ·have hP := HP.out
  simp only [if_true] at hP
  have HP0 := Lib.hid hP
  clear hP HP
  go_wp2_with fail
  rw [run_convert_bytes_arg _ 123 5 Tryz.underlying123 Tryz.underlying5 w1.heap.size 0 1 1 [1] rfl ?hc 9 Tryz.underlying9]
  case hc =>
   intro i hi
   obtain rfl : i = 0 := by omega
   simp [go_sem]
  have hW : Below w.heap.size w ((((w1.setCell ⟨w.heap.size, 0, none⟩ (.int .i64 0)).setCell ⟨w.heap.size, 1, none⟩ (.int .i64 nn)).setCell ⟨w.heap.size, 2, none⟩ (.string ss)).alloc (.cells #[.int .u8 1] 5)) := ((((HB0.out.setCell (Nat.le_refl _) _).setCell (Nat.le_refl _) _).setCell (Nat.le_refl _) _).alloc (by simp; omega) _)
  have kq : Blk ((((w1.setCell ⟨w.heap.size, 0, none⟩ (.int .i64 0)).setCell ⟨w.heap.size, 1, none⟩ (.int .i64 nn)).setCell ⟨w.heap.size, 2, none⟩ (.string ss)).alloc (.cells #[.int .u8 1] 5)) (w.heap.size + 1) #[.int .i64 x.K, .int .i64 x.lv, .bool x.sh, .bool false, .pointer x.p, .bool false] 165 := (((K1.out.other (by simp) _).other (by simp) _).other (by simp) _).alloc _
  generalize ((((w1.setCell ⟨w.heap.size, 0, none⟩ (.int .i64 0)).setCell ⟨w.heap.size, 1, none⟩ (.int .i64 nn)).setCell ⟨w.heap.size, 2, none⟩ (.string ss)).alloc (.cells #[.int .u8 1] 5)) = W1 at hW kq ⊢
  obtain ⟨c4, f4⟩ := kq.facts
  have HW := Lib.hid hW
  clear c0 f0 c1 f1 hW kq
  go_wp2_with fail
  go_ret
  exact ⟨by rw [HP0.out]; rfl, HW.out⟩
 ·have hP := HP.out
  simp only [if_true] at hP
  rw [if_neg (by omega)] at hP
  obtain ⟨u, hu, hu2⟩ : ∃ u : Int, (u = 0 ∨ u = 1) ∧ nn = u := ⟨nn, HB1.out rfl, rfl⟩
  rw [hu2] at hP
  have HP0 := Lib.hid hP
  have HU := Lib.hid hu
  subst hu2
  have hmod : nn % 256 = nn := by omega
  clear hP HP hu HIS HB1
  go_wp2_with fail
  rw [run_convert_bytes_arg _ 123 5 Tryz.underlying123 Tryz.underlying5 w1.heap.size 0 2 2 [2, nn] rfl ?hc 9 Tryz.underlying9]
  case hc =>
   intro i hi
   have : i = 0 ∨ i = 1 := by omega
   rcases this with rfl | rfl <;> simp [go_sem]
  have hW : Below w.heap.size w ((((w1.setCell ⟨w.heap.size, 0, none⟩ (.int .i64 1)).setCell ⟨w.heap.size, 1, none⟩ (.int .i64 nn)).setCell ⟨w.heap.size, 2, none⟩ (.string ss)).alloc (.cells #[.int .u8 2, .int .u8 nn] 5)) := ((((HB0.out.setCell (Nat.le_refl _) _).setCell (Nat.le_refl _) _).setCell (Nat.le_refl _) _).alloc (by simp; omega) _)
  have kq : Blk ((((w1.setCell ⟨w.heap.size, 0, none⟩ (.int .i64 1)).setCell ⟨w.heap.size, 1, none⟩ (.int .i64 nn)).setCell ⟨w.heap.size, 2, none⟩ (.string ss)).alloc (.cells #[.int .u8 2, .int .u8 nn] 5)) (w.heap.size + 1) #[.int .i64 x.K, .int .i64 x.lv, .bool x.sh, .bool false, .pointer x.p, .bool false] 165 := (((K1.out.other (by simp) _).other (by simp) _).other (by simp) _).alloc _
  generalize ((((w1.setCell ⟨w.heap.size, 0, none⟩ (.int .i64 1)).setCell ⟨w.heap.size, 1, none⟩ (.int .i64 nn)).setCell ⟨w.heap.size, 2, none⟩ (.string ss)).alloc (.cells #[.int .u8 2, .int .u8 nn] 5)) = W1 at hW kq ⊢
  obtain ⟨c4, f4⟩ := kq.facts
  have HW := Lib.hid hW
  clear c0 f0 c1 f1 hW kq
  go_wp2_with fail
  go_ret
  exact ⟨by rw [HP0.out]; rfl, HW.out⟩
 ·have hP := HP.out
  rw [if_neg (by omega), if_neg (by omega), if_pos rfl] at hP
  have HP0 := Lib.hid hP
  clear hP HP
  go_upto_region 9 with (fail)
  have hK0 : ∀ W, Ext (((w1.setCell ⟨w.heap.size, 0, none⟩ (.int .i64 2)).setCell ⟨w.heap.size, 1, none⟩ (.int .i64 nn)).setCell ⟨w.heap.size, 2, none⟩ (.string ss)) W → W.cell? ⟨w.heap.size, 1, none⟩ = some (.int .i64 nn) := by
   intro W hx
   exact ((((K0.out.set 0 _).set 1 _).set 2 _).keep hx).cell 1
  have HK0 := Lib.hid hK0
  clear hK0
  have hsz : (strOfNums (num8 (turnU nn))).size = 8 := by simp [strOfNums_size, num8]
  refine wp_par 7 (fun
    | 0 => (oneU8 3)
    | 1 => fun v _ => v = .string ⟨#[3]⟩
    | 2 => fun v _ => v = .pointer (some ⟨w.heap.size, 1, none⟩)
    | 3 => fun v _ => v = .int .i64 nn
    | 4 => fun v _ => v = .string (strOfNums (num8 (turnU nn)))
    | 5 => fun v _ => v = .string ⟨#[3] ++ (strOfNums (num8 (turnU nn))).data⟩
    | 6 => fun v _ => v = .string ⟨#[3] ++ (strOfNums (num8 (turnU nn))).data⟩
    | _ => fun _ _ => True) (by kernel_rfl) (by kernel_rfl) (by kernel_rfl) ?_ ?_
  ·simp (maxSteps := 20000000) only [List.take_succ_cons, List.take_zero, ParAll, Act.put, List.setIfInBounds_toArray, List.set_cons_succ, List.set_cons_zero]
   refine ⟨?_, ?_, ?_, ?_, ?_, ?_, ?_, trivial⟩
   ·intro vals W hx hd
    have hW := HK0.out W hx
    simp [PDeps, pdeps, Region.binds] at hd
    first
     | refine ParOb.plain rfl ?_
     | refine ParOb.wanted (by simp [Region.wanted, yielded, hd]) ?_
    go_simp
    exact ⟨(Ext.refl _).alloc _, fun w2 h2 => ⟨_, rfl, (Blk.new _ _ _ rfl).keep h2⟩⟩
   ·intro vals W hx hd
    have hW := HK0.out W hx
    simp [PDeps, pdeps, Region.binds] at hd
    first
     | refine ParOb.plain rfl ?_
     | refine ParOb.wanted (by simp [Region.wanted, yielded, hd]) ?_
    obtain ⟨b, h0, hk⟩ := hd
    go_simp
    rw [run_convert_bytes_arg _ 123 5 Tryz.underlying123 Tryz.underlying5 b 0 1 1 [3] rfl ?hc 9 Tryz.underlying9]
    case hc =>
     intro i hi
     obtain rfl : i = 0 := by omega
     rw [hk.cell]; rfl
    go_simp
    exact ⟨Ext.refl _, fun _ _ => rfl⟩
   iterate 2
    next =>
     intro vals W hx hd
     have hW := HK0.out W hx
     simp [PDeps, pdeps, Region.binds] at hd
     first
      | refine ParOb.plain rfl ?_
      | refine ParOb.wanted (by simp [Region.wanted, yielded, hd]) ?_
     go_simp
     exact ParPost.same fun _ _ => rfl
   ·intro vals W hx hd
    have hW := HK0.out W hx
    simp [PDeps, pdeps, Region.binds] at hd
    first
     | refine ParOb.plain rfl ?_
     | refine ParOb.wanted (by simp [Region.wanted, yielded, hd]) ?_
    go_simp
    refine (number_any nn W (turn_in nn).1 (turn_in nn).2).mono ?_
    rintro e w2 ⟨rfl, hb2⟩
    exact ⟨_, rfl, hb2, fun _ _ => rfl⟩
   iterate 2
    next =>
     intro vals W hx hd
     have hW := HK0.out W hx
     simp [PDeps, pdeps, Region.binds] at hd
     first
      | refine ParOb.plain rfl ?_
      | refine ParOb.wanted (by simp [Region.wanted, yielded, hd]) ?_
     go_simp
     exact ParPost.same fun _ _ => rfl
  intro vals W hx hf
  simp (maxSteps := 20000000) only [ParFacts, List.take_succ_cons, List.take_zero, and_true, Nat.reduceAdd] at hf
  obtain ⟨f0, f1, f2, f3, f4, f5, f6⟩ := hf
  simp (maxSteps := 20000000) only [List.drop_succ_cons, List.drop_zero, List.take_succ_cons, List.take_zero, ParEnd, Act.put, List.setIfInBounds_toArray, List.set_cons_succ, List.set_cons_zero, Nat.reduceAdd, f1, f2, f3, f4, f5, f6]
  clear f1 f2 f3 f4 f5 f6
  generalize vals 0 = y0 at f0 ⊢
  have k1 : Blk W (w.heap.size + 1) #[.int .i64 x.K, .int .i64 x.lv, .bool x.sh, .bool false, .pointer x.p, .bool false] 165 := (((K1.out.other (by simp) _).other (by simp) _).other (by simp) _).keep hx
  have hW : Below w.heap.size w W := (((HB0.out.setCell (Nat.le_refl _) _).setCell (Nat.le_refl _) _).setCell (Nat.le_refl _) _).trans (Below.mono hx (by simp; omega))
  obtain ⟨c4, f4⟩ := k1.facts
  clear c0 f0 c1 f1 hx k1
  have HW := Lib.hid hW
  clear hW
  refine wpList_nil ?_
  go_wp2
  go_ret
  exact ⟨by rw [HP0.out]; rfl, HW.out⟩
 ·have hP := HP.out
  rw [if_neg (by omega), if_neg (by omega), if_neg (by omega)] at hP
  have HP0 := Lib.hid hP
  clear hP HP
  go_upto_region 11 with (fail)
  have hK0 : ∀ W, Ext (((w1.setCell ⟨w.heap.size, 0, none⟩ (.int .i64 3)).setCell ⟨w.heap.size, 1, none⟩ (.int .i64 nn)).setCell ⟨w.heap.size, 2, none⟩ (.string ss)) W → W.cell? ⟨w.heap.size, 2, none⟩ = some (.string ss) ∧ ∀ o, W.cell? ⟨w.heap.size + 1, o, none⟩ = #[.int .i64 x.K, .int .i64 x.lv, .bool x.sh, .bool false, .pointer x.p, .bool false][o]? := by
   intro W hx
   exact ⟨((((K0.out.set 0 _).set 1 _).set 2 _).keep hx).cell 2, ((((K1.out.other (by simp) _).other (by simp) _).other (by simp) _).keep hx).cell⟩
  have HK0 := Lib.hid hK0
  have hX0 : Ext w (((w1.setCell ⟨w.heap.size, 0, none⟩ (.int .i64 3)).setCell ⟨w.heap.size, 1, none⟩ (.int .i64 nn)).setCell ⟨w.heap.size, 2, none⟩ (.string ss)) := ((HB0.out.setCell (Nat.le_refl _) _).setCell (Nat.le_refl _) _).setCell (Nat.le_refl _) _
  have HKEY := Lib.hid (show ∀ W, Ext (((w1.setCell ⟨w.heap.size, 0, none⟩ (.int .i64 3)).setCell ⟨w.heap.size, 1, none⟩ (.int .i64 nn)).setCell ⟨w.heap.size, 2, none⟩ (.string ss)) W →
    Calls Tryz.prog 138 #[.agg #[.int .i64 x.K, .int .i64 x.lv, .bool x.sh, .bool false, .pointer x.p], .string ss] W fun e w' => e = .returned (.string ⟨(x.key ss.data.toList).toArray⟩) ∧ Below W.heap.size W w' from
   fun W hW => key_any x ss W (HX.out.ext (Ext.trans hX0 hW)) (by have := HZ.out; omega) HL.out fun W2 h2 => HG.out W2 (Ext.trans (Ext.trans hX0 hW) h2))
  have HESC := Lib.hid (show ∀ W, Ext (((w1.setCell ⟨w.heap.size, 0, none⟩ (.int .i64 3)).setCell ⟨w.heap.size, 1, none⟩ (.int .i64 nn)).setCell ⟨w.heap.size, 2, none⟩ (.string ss)) W → Calls Tryz.prog 137 #[.string ⟨(x.key ss.data.toList).toArray⟩] W fun e w' => e = .returned (.string ⟨(escB (x.key ss.data.toList) ++ [0, 1]).toArray⟩) ∧ Below W.heap.size W w' from
   fun W hW => escape_any _ W HL.out (HG.out W (Ext.trans hX0 hW)))
  have hEl := escB_len (x.key ss.data.toList)
  have hEl2 := HL.out
  generalize x.key ss.data.toList = kx at HKEY HESC HP0 HL hEl hEl2
  generalize escB kx = ek at HESC HP0 hEl
  have hsz : (ek ++ [0, 1]).length ≤ 3000000 := by simp; omega
  clear hK0 hX0 HL hEl hEl2
  generalize ek ++ [0, 1] = fk at HESC HP0 hsz
  refine wp_par 10 (fun
    | 0 => (oneU8 4)
    | 1 => fun v _ => v = .string ⟨#[4]⟩
    | 2 => fun v _ => v = .pointer (some ⟨w.heap.size + 1, 0, none⟩)
    | 3 => fun v _ => v = .agg #[.int .i64 x.K, .int .i64 x.lv, .bool x.sh, .bool false, .pointer x.p]
    | 4 => fun v _ => v = .pointer (some ⟨w.heap.size, 2, none⟩)
    | 5 => fun v _ => v = .string ss
    | 6 => fun v _ => v = .string ⟨kx.toArray⟩
    | 7 => fun v _ => v = .string ⟨fk.toArray⟩
    | 8 => fun v _ => v = .string (⟨#[4]⟩ ++ ⟨fk.toArray⟩)
    | 9 => fun v _ => v = .string (⟨#[4]⟩ ++ ⟨fk.toArray⟩)
    | _ => fun _ _ => True) (by kernel_rfl) (by kernel_rfl) (by kernel_rfl) ?_ ?_
  ·simp (maxSteps := 20000000) only [List.take_succ_cons, List.take_zero, ParAll, Act.put, List.setIfInBounds_toArray, List.set_cons_succ, List.set_cons_zero]
   refine ⟨?_, ?_, ?_, ?_, ?_, ?_, ?_, ?_, ?_, ?_, trivial⟩
   ·intro vals W hx hd
    have hW := HK0.out W hx
    simp [PDeps, pdeps, Region.binds] at hd
    first
     | refine ParOb.plain rfl ?_
     | refine ParOb.wanted (by simp [Region.wanted, yielded, hd]) ?_
    go_simp
    exact ⟨(Ext.refl _).alloc _, fun w2 h2 => ⟨_, rfl, (Blk.new _ _ _ rfl).keep h2⟩⟩
   ·intro vals W hx hd
    have hW := HK0.out W hx
    simp [PDeps, pdeps, Region.binds] at hd
    first
     | refine ParOb.plain rfl ?_
     | refine ParOb.wanted (by simp [Region.wanted, yielded, hd]) ?_
    obtain ⟨b, h0, hk⟩ := hd
    go_simp
    rw [run_convert_bytes_arg _ 123 5 Tryz.underlying123 Tryz.underlying5 b 0 1 1 [4] rfl ?hc 9 Tryz.underlying9]
    case hc =>
     intro i hi
     obtain rfl : i = 0 := by omega
     rw [hk.cell]; rfl
    go_simp
    exact ⟨Ext.refl _, fun _ _ => rfl⟩
   iterate 4
    next =>
     intro vals W hx hd
     have hW := HK0.out W hx
     simp [PDeps, pdeps, Region.binds] at hd
     first
      | refine ParOb.plain rfl ?_
      | refine ParOb.wanted (by simp [Region.wanted, yielded, hd]) ?_
     go_simp
     exact ParPost.same fun _ _ => rfl
   ·intro vals W hx hd
    have hW := HK0.out W hx
    simp [PDeps, pdeps, Region.binds] at hd
    first
     | refine ParOb.plain rfl ?_
     | refine ParOb.wanted (by simp [Region.wanted, yielded, hd]) ?_
    go_simp
    refine (HKEY.out W hx).mono ?_
    rintro e w2 ⟨rfl, hb2⟩
    exact ⟨_, rfl, hb2, fun _ _ => rfl⟩
   ·intro vals W hx hd
    have hW := HK0.out W hx
    simp [PDeps, pdeps, Region.binds] at hd
    first
     | refine ParOb.plain rfl ?_
     | refine ParOb.wanted (by simp [Region.wanted, yielded, hd]) ?_
    go_simp
    refine (HESC.out W hx).mono ?_
    rintro e w2 ⟨rfl, hb2⟩
    exact ⟨_, rfl, hb2, fun _ _ => rfl⟩
   ·intro vals W hx hd
    have hW := HK0.out W hx
    simp [PDeps, pdeps, Region.binds] at hd
    first
     | refine ParOb.plain rfl ?_
     | refine ParOb.wanted (by simp [Region.wanted, yielded, hd]) ?_
    go_simp
    rw [if_neg (by omega)]
    go_simp
    exact ⟨Ext.refl _, fun _ _ => rfl⟩
   ·intro vals W hx hd
    have hW := HK0.out W hx
    simp [PDeps, pdeps, Region.binds] at hd
    first
     | refine ParOb.plain rfl ?_
     | refine ParOb.wanted (by simp [Region.wanted, yielded, hd]) ?_
    go_simp
    exact ParPost.same fun _ _ => rfl
  intro vals W hx hf
  simp (maxSteps := 20000000) only [ParFacts, List.take_succ_cons, List.take_zero, and_true, Nat.reduceAdd] at hf
  obtain ⟨f0, f1, f2, f3, f4, f5, f6, f7, f8, f9⟩ := hf
  simp (maxSteps := 20000000) only [List.drop_succ_cons, List.drop_zero, List.take_succ_cons, List.take_zero, ParEnd, Act.put, List.setIfInBounds_toArray, List.set_cons_succ, List.set_cons_zero, Nat.reduceAdd, f1, f2, f3, f4, f5, f6, f7, f8, f9]
  clear f1 f2 f3 f4 f5 f6 f7 f8 f9
  generalize vals 0 = y0 at f0 ⊢
  have k1 : Blk W (w.heap.size + 1) #[.int .i64 x.K, .int .i64 x.lv, .bool x.sh, .bool false, .pointer x.p, .bool false] 165 := (((K1.out.other (by simp) _).other (by simp) _).other (by simp) _).keep hx
  have hW : Below w.heap.size w W := (((HB0.out.setCell (Nat.le_refl _) _).setCell (Nat.le_refl _) _).setCell (Nat.le_refl _) _).trans (Below.mono hx (by simp; omega))
  obtain ⟨c4, f4⟩ := k1.facts
  clear c0 f0 c1 f1 hx k1
  have HW := Lib.hid hW
  clear hW
  refine wpList_nil ?_
  go_wp2
  go_ret
  refine ⟨?_, HW.out⟩
  rw [HP0.out]
  rw [show (⟨#[4]⟩ : ByteArray) ++ ⟨fk.toArray⟩ = bs (4 :: fk) from by apply ByteArray.ext; simp [bs]]
  rfl
end Go.Proofs.YtipokgedmfnlaaaGreatDoor

namespace Go.Proofs.YtipokgedmfnlaaaGreatDoor
open Go.RowKit Go.Lib
set_option maxRecDepth 100000

/-- The bytes' own collation. -/
def bin5 : C5 := ⟨1, 0, false, none, none, 0, 0, collC 1 0 false false⟩
theorem bin5_at (w : World) : bin5.At w := ⟨⟨by decide, by decide⟩, .inl ⟨.inl rfl, rfl, rfl, rfl, rfl, rfl, rfl, rfl⟩⟩
def colAt (L : List C5) (j : Nat) : C5 := (L[j]?).getD bin5
theorem colAt_f (L : List C5) (j : Nat) : (colAt L j).f = fsL L j := by
 unfold colAt fsL
 cases L[j]? <;> rfl
/-- Collations in a slice, told whole. -/
def CollsW (w : World) (v : Value) (L : List C5) : Prop :=
 (∃ a c, v = .slice a L.length c ∧ L.length ≤ c ∧ (0 < L.length → ∃ g o, a = some ⟨g, o, none⟩ ∧ g < w.heap.size ∧ ∀ (j : Nat) (x : C5), L[j]? = some x → ∀ k, k < 5 → w.cell? ⟨g, o + j * 5 + k, none⟩ = x.c[k]?)) ∧ ∀ x ∈ L, x.At w
theorem CollsW.ext {w w' : World} {v : Value} {L : List C5} (h : CollsW w v L) (hx : Ext w w') : CollsW w' v L := by
 obtain ⟨⟨a, c, h1, h2, h3⟩, h4⟩ := h
 refine ⟨⟨a, c, h1, h2, fun h0 => ?_⟩, fun x hx2 => (h4 x hx2).ext hx⟩
 obtain ⟨g, o, e1, e2, e3⟩ := h3 h0
 exact ⟨g, o, e1, Nat.lt_of_lt_of_le e2 hx.size, fun j x hj k hk => (hx.cell e2).trans (e3 j x hj k hk)⟩
theorem CollsW.at {w : World} {v : Value} {L : List C5} (h : CollsW w v L) (j : Nat) : (colAt L j).At w := by
 unfold colAt
 cases hj : L[j]? with
 | none => exact bin5_at w
 | some x => exact h.2 x (List.mem_of_getElem? hj)
theorem collsW_own {w : World} {B : Nat} {v : Value} {L : List C5} (ho : w.ownsRow B 25 5 v L.length (flatC L)) (hat : ∀ x ∈ L, x.At w) : CollsW w v L := by
 obtain ⟨ao, cap, hv, hcap⟩ := ownsRow_slice ho
 refine ⟨⟨ao, cap, hv, hcap, fun h0 => ?_⟩, hat⟩
 obtain ⟨_, ho⟩ := ho
 rcases ho with ⟨_, h1⟩ | ⟨g, cap', cur, hv', _, hb, hn, _, hs, ht⟩
 ·omega
 ·rw [hv] at hv'
  simp only [Value.slice.injEq] at hv'
  obtain ⟨rfl, _, _⟩ := hv'
  refine ⟨g, 0, rfl, lt_of_block hb, fun j x hx k hk => ?_⟩
  have hj : j < L.length := (List.getElem?_eq_some_iff.1 hx).1
  rw [cell_of_row w g _ cur _ (0, 0) hb, ← flatC_get L j x hx k hk, ← ht, List.getElem?_take, if_pos (by omega), Array.getElem?_toList, Nat.zero_add]
def cV5 (x : C5) : Value := .agg #[.int .i64 x.K, .int .i64 x.lv, .bool x.sh, .bool false, .pointer x.p]
set_option maxHeartbeats 4000000 in
theorem execat5_any (v : Value) (L : List C5) (i : Nat) (w : World) (h : CollsW w v L) :
  Calls Tryz.prog 70 #[v, .int .i64 (i : Int)] w fun e w' => e = .returned (cV5 (colAt L i)) ∧ Below w.heap.size w w' := by
 obtain ⟨⟨a, c, rfl, hc, hcell⟩, -⟩ := h
 go_enter Tryz.func70, Tryz.ntmps70
 by_cases hi : i < L.length
 ·have hiI : (i : Int) < (L.length : Int) := by omega
  obtain ⟨g, o, rfl, hg, hall⟩ := hcell (by omega)
  have hx := List.getElem?_eq_getElem hi
  have hA := hall i L[i] hx
  have he : colAt L i = L[i] := by unfold colAt; rw [hx]; rfl
  rw [he]
  generalize L[i] = x at hA ⊢
  have f0 : w.cell? ⟨g, o + i * 5, none⟩ = some (.int .i64 x.K) := hA 0 (by omega)
  have f1 : w.cell? ⟨g, o + i * 5 + 1, none⟩ = some (.int .i64 x.lv) := hA 1 (by omega)
  have f2 : w.cell? ⟨g, o + i * 5 + 2, none⟩ = some (.bool x.sh) := hA 2 (by omega)
  have f3 : w.cell? ⟨g, o + i * 5 + 3, none⟩ = some (.bool false) := hA 3 (by omega)
  have f4 : w.cell? ⟨g, o + i * 5 + 4, none⟩ = some (.pointer x.p) := hA 4 (by omega)
  clear hall hA hx he
  go_wp2_with fail
  refine bodyPost_ret (ret_c rfl _ rfl rfl (Blk.new w _ _ rfl)) rfl ?_
  exact ⟨rfl, (Ext.refl w).alloc _⟩
 ·have hiI : ¬ (i : Int) < (L.length : Int) := by omega
  have he : colAt L i = bin5 := by unfold colAt; rw [List.getElem?_eq_none (by omega)]; rfl
  rw [he]
  clear hcell he
  go_wp2_with fail
  refine bodyPost_ret (ret_c rfl _ rfl rfl (Blk.new w _ _ rfl)) rfl ?_
  exact ⟨rfl, (Ext.refl w).alloc _⟩

/-! ### The key -/
theorem key_len {x : C5} {w : World} (h : x.At w) (t : List UInt8) (ht : t.length ≤ 60) : (x.key t).length ≤ 1000 := by
 have hs := signs_length t
 unfold C5.key keyT
 split
 ·unfold foldT
  have := putL_length ((signs t).map foldC)
  rw [List.length_map] at this
  omega
 ·split
  ·have he := els_len (signs t)
   have hl := lev_len x.sh x.lv.toNat (els (signs t))
   have hlv : x.lv.toNat ≤ 3 := by
    rcases h.how with ⟨_, h2, _⟩ | ⟨_, l, _, _, h3, h4, _⟩
    ·rw [h2]; decide
    ·rw [h4]; omega
   unfold streamB
   have hsum : ∀ l : List Nat, (l.flatMap (levB x.sh x.lv.toNat (els (signs t)))).length ≤ 242 * l.length := by
    intro l
    induction l with
    | nil => simp
    | cons i l ih =>
     have := hl i
     simp only [List.flatMap_cons, List.length_append, List.length_cons]; omega
   have := hsum (List.range' 1 x.lv.toNat)
   rw [List.length_range'] at this
   omega
  ·omega
theorem valB_len {x : C5} {w : World} (h : x.At w) (y : V3) (hs : y.s.size ≤ 60) : (valB x y).length ≤ 3000 := by
 unfold valB
 split
 ·simp
 ·split
  ·simp
  ·split
   ·simp [numB, num8]
   ·have h1 := cS_size y.k y.n y.s
    have h2 := key_len h (cS y.k y.n y.s).data.toList (by rw [Array.length_toList]; exact Nat.le_trans h1 hs)
    have h3 := escB_len (x.key (cS y.k y.n y.s).data.toList)
    simp only [List.length_cons, List.length_append, List.length_nil]; omega
def colB (L : List C5) (X : List V3) (j : Nat) : List UInt8 := match X[j]? with
 | some y => valB (colAt L j) y
 | none => []
def keyK (L : List C5) (X : List V3) : K5 := (colB L X 0, colB L X 1, colB L X 2, colB L X 3, [])
def gC (f : Nat → List UInt8) (k : Nat) : Array Value := #[.string (if 0 < k then bs (f 0) else ⟨#[]⟩), .string (if 1 < k then bs (f 1) else ⟨#[]⟩), .string (if 2 < k then bs (f 2) else ⟨#[]⟩), .string (if 3 < k then bs (f 3) else ⟨#[]⟩), .string ⟨#[]⟩]
theorem gC_zero (f : Nat → List UInt8) : gC f 0 = #[.string ⟨#[]⟩, .string ⟨#[]⟩, .string ⟨#[]⟩, .string ⟨#[]⟩, .string ⟨#[]⟩] := by simp [gC]
theorem gC_at (f : Nat → List UInt8) (k : Nat) (h : k < 4) : (gC f k)[k]? = some (.string ⟨#[]⟩) := by
 have : k = 0 ∨ k = 1 ∨ k = 2 ∨ k = 3 := by omega
 rcases this with rfl | rfl | rfl | rfl <;> simp [gC]
theorem gC_set (f : Nat → List UInt8) (k : Nat) (h : k < 4) : (gC f k).setIfInBounds k (.string (bs (f k))) = gC f (k + 1) := by
 have : k = 0 ∨ k = 1 ∨ k = 2 ∨ k = 3 := by omega
 rcases this with rfl | rfl | rfl | rfl <;> simp [gC]
theorem gC_end (L : List C5) (X : List V3) (_h : X.length ≤ 4) : .agg (gC (colB L X) X.length) = kv (keyK L X) := by
 have e : ∀ j, ¬ j < X.length → colB L X j = [] := fun j hj => by unfold colB; rw [List.getElem?_eq_none (by omega)]
 have e2 : ∀ j, (if j < X.length then bs (colB L X j) else ⟨#[]⟩) = bs (colB L X j) := fun j => by
  split
  ·rfl
  ·rw [e j (by assumption)]; rfl
 unfold gC kv keyK
 rw [e2, e2, e2, e2]
 rfl
theorem ret_g {t : Tmp} {fn : Func} (h : fn.results = #[.cell t 103]) (tmps : Array Value) {w : World} {g : Nat} {cs : Array Value} (hc : cs.size = 5) (hp : tmps.getD t undef = .pointer (some ⟨g, 0, none⟩)) (hg : Blk w g cs 103) :
  (results fn tmps).run Tryz.prog w = .ok (.agg cs) w := by
 have h1 : tmps[t]?.getD undef = .pointer (some ⟨g, 0, none⟩) := by simpa using hp
 have hr := run_loadVar_row w g 103 103 cs (0, 0) _ hg Tryz.underlying103 rfl (by rw [hc]; kernel_rfl)
 simp [results, h, h1, asAddr, hr]
set_option maxHeartbeats 4000000 in
theorem execkey_any (v cv : Value) (X : List V3) (L : List C5) (w : World) (hX : RowAt w v X) (hC : CollsW w cv L) (hl : X.length ≤ 4) (hs : ∀ x ∈ X, x.s.size ≤ 60) (hG : ∀ W, Ext w W → Glob W) :
  Calls Tryz.prog 45 #[v, cv] w fun e w' => e = .returned (kv (keyK L X)) ∧ Below w.heap.size w w' := by
 obtain ⟨a2, c2, rfl, hc2, hx2⟩ := hX
 have HCW := Lib.hid hC
 obtain ⟨⟨ac, cc, rfl, hcc, -⟩, -⟩ := hC
 have HX2 := Lib.hid hx2
 have HS := Lib.hid hs
 have HG := Lib.hid hG
 have HE := Lib.hid (gC_end L X hl)
 rw [← gC_end L X hl]
 clear hx2 hs hG hcc
 go_enter Tryz.func45, Tryz.ntmps45
 go_wp2_with fail
 go_loopw [10] (fun i wr => ∃ k : Nat, k ≤ X.length ∧ i = .int .i64 k ∧ Blk wr w.heap.size #[.string ⟨#[]⟩, .string ⟨#[]⟩, .string ⟨#[]⟩, .string ⟨#[]⟩, .string ⟨#[]⟩] 103 ∧ Blk wr (w.heap.size + 1) (gC (colB L X) k) 103 ∧ Below w.heap.size w wr) (fun i _ => X.length - (intOf i).toNat)
 case atStart =>
  refine ⟨0, Nat.zero_le _, rfl, (Blk.new _ _ _ rfl).alloc _, ?_, ((Below.refl _ _).alloc (Nat.le_refl _) _).alloc (by simp) _⟩
  rw [gC_zero]
  exact Blk.new _ _ _ (by simp)
 case round =>
  obtain ⟨k, hk, rfl, hb0, hb1, hbe⟩ := hrel
  have HB0 := Lib.hid hb0
  have HB1 := Lib.hid hb1
  have HBE := Lib.hid hbe
  clear hb0 hb1
  by_cases hlt : k < X.length
  ·have hltI : (k : Int) < (X.length : Int) := by omega
   have h4I : (k : Int) < 4 := by omega
   obtain ⟨g2, o2, rfl, hg2, hall⟩ := HX2.out (by omega)
   have hxk := List.getElem?_eq_getElem hlt
   obtain ⟨x0, x1, x2⟩ := hall k X[k] hxk
   have hsx := HS.out X[k] (List.getElem_mem hlt)
   have hcol : colB L X k = valB (colAt L k) X[k] := by unfold colB; rw [hxk]
   generalize X[k] = x at x0 x1 x2 hsx hcol
   have y0 := (hbe.cell (p := ⟨g2, o2 + k * 3, none⟩) hg2).trans x0
   have y1 := (hbe.cell (p := ⟨g2, o2 + k * 3 + 1, none⟩) hg2).trans x1
   have y2 := (hbe.cell (p := ⟨g2, o2 + k * 3 + 2, none⟩) hg2).trans x2
   have HSX := Lib.hid hsx
   have HCOL := Lib.hid hcol
   clear hall hxk x0 x1 x2 hsx hcol hbe
   have h5I : (k : Int) < 5 := by omega
   have hxr : Ext w (wr.alloc (.cells #[.int .i64 x.k, .int .i64 x.n, .string x.s] 45)) := HBE.out.alloc HBE.out.size _
   have HF := Lib.hid (show ∀ W, Ext (wr.alloc (.cells #[.int .i64 x.k, .int .i64 x.n, .string x.s] 45)) W → W.cell? ⟨w.heap.size + 1, k, none⟩ = some (.string ⟨#[]⟩) ∧ ∀ o, W.cell? ⟨wr.heap.size, o, none⟩ = #[.int .i64 x.k, .int .i64 x.n, .string x.s][o]? from
    fun W hW => ⟨by rw [((HB1.out.alloc _).keep hW).cell]; exact gC_at _ k (by omega), ((Blk.new wr #[.int .i64 x.k, .int .i64 x.n, .string x.s] 45 rfl).keep hW).cell⟩)
   have KAT := Lib.hid (show ∀ W, Ext (wr.alloc (.cells #[.int .i64 x.k, .int .i64 x.n, .string x.s] 45)) W → Calls Tryz.prog 70 #[.slice ac L.length cc, .int .i64 (k : Int)] W fun e w' => e = .returned (cV5 (colAt L k)) ∧ Below W.heap.size W w' from
    fun W hW => execat5_any _ L k W (HCW.out.ext (Ext.trans hxr hW)))
   have hlen := valB_len (HCW.out.at k) x HSX.out
   have KVAL := Lib.hid (show ∀ W, Ext (wr.alloc (.cells #[.int .i64 x.k, .int .i64 x.n, .string x.s] 45)) W → Calls Tryz.prog 84 #[.agg #[.int .i64 x.k, .int .i64 x.n, .string x.s], partV (colAt L k)] W fun e w' => e = .returned (.string (bs (valB (colAt L k) x))) ∧ Below W.heap.size W w' from
    fun W hW => value_any (colAt L k) x W ((HCW.out.at k).ext (Ext.trans hxr hW)) HSX.out (Nat.le_trans (key_len (HCW.out.at k) _ (by rw [Array.length_toList]; exact Nat.le_trans (cS_size _ _ _) HSX.out)) (by omega)) fun W2 h2 => HG.out W2 (Ext.trans (Ext.trans hxr hW) h2))
   unfold cV5 at KAT
   unfold partV at KVAL
   have hcol := HCOL.out
   generalize valB (colAt L k) x = vb at KVAL hlen hcol
   generalize colAt L k = y at KAT KVAL
   have HCOL2 := Lib.hid hcol
   clear hxr hcol HCOL
   go_wp2_with fail
   refine wp_par 12 (fun
     | 0 => fun v _ => v = .int .i64 (k : Int)
     | 1 => fun v _ => v = .int .i64 (k : Int)
     | 2 => fun v _ => v = .pointer (some ⟨w.heap.size + 1, k, none⟩)
     | 3 => fun v _ => v = .string ⟨#[]⟩
     | 4 => fun v _ => v = .agg #[.int .i64 x.k, .int .i64 x.n, .string x.s]
     | 5 => fun v _ => v = .slice ac L.length cc
     | 6 => fun v _ => v = .int .i64 (k : Int)
     | 7 => fun v _ => v = .agg #[.int .i64 y.K, .int .i64 y.lv, .bool y.sh, .bool false, .pointer y.p]
     | 8 => fun v _ => v = .agg #[.int .i64 y.K, .int .i64 y.lv, .bool y.sh, .bool false, .pointer y.p, .bool false]
     | 9 => fun v _ => v = .string (bs vb)
     | 10 => fun v _ => v = .string (bs vb)
     | 11 => fun v _ => v = .pointer (some ⟨w.heap.size + 1, k, none⟩)
     | _ => fun _ _ => True) (by kernel_rfl) (by kernel_rfl) (by kernel_rfl) ?_ ?_
   ·simp (maxSteps := 20000000) only [List.take_succ_cons, List.take_zero, ParAll, Act.put, List.setIfInBounds_toArray, List.set_cons_succ, List.set_cons_zero]
    refine ⟨?_, ?_, ?_, ?_, ?_, ?_, ?_, ?_, ?_, ?_, ?_, ?_, trivial⟩
    ·intro vals W hx hd
     have hW := HF.out W hx
     simp [PDeps, pdeps, Region.binds] at hd
     first
      | refine ParOb.plain rfl ?_
      | refine ParOb.wanted (by simp [Region.wanted, yielded, hd]) ?_
     go_simp
     exact ParPost.same fun _ _ => rfl
    ·intro vals W hx hd
     have hW := HF.out W hx
     simp [PDeps, pdeps, Region.binds] at hd
     first
      | refine ParOb.plain rfl ?_
      | refine ParOb.wanted (by simp [Region.wanted, yielded, hd]) ?_
     go_simp
     rw [show min (k : Int) 4 = (k : Int) from by omega]
     exact ParPost.same fun _ _ => rfl
    iterate 5
     next =>
      intro vals W hx hd
      have hW := HF.out W hx
      simp [PDeps, pdeps, Region.binds] at hd
      first
       | refine ParOb.plain rfl ?_
       | refine ParOb.wanted (by simp [Region.wanted, yielded, hd]) ?_
      go_simp
      exact ParPost.same fun _ _ => rfl
    ·intro vals W hx hd
     have hW := HF.out W hx
     simp [PDeps, pdeps, Region.binds] at hd
     first
      | refine ParOb.plain rfl ?_
      | refine ParOb.wanted (by simp [Region.wanted, yielded, hd]) ?_
     go_simp
     refine (KAT.out W hx).mono ?_
     rintro e w2 ⟨rfl, hb2⟩
     exact ⟨_, rfl, hb2, fun _ _ => rfl⟩
    ·intro vals W hx hd
     have hW := HF.out W hx
     simp [PDeps, pdeps, Region.binds] at hd
     first
      | refine ParOb.plain rfl ?_
      | refine ParOb.wanted (by simp [Region.wanted, yielded, hd]) ?_
     go_simp
     exact ParPost.same fun _ _ => rfl
    ·intro vals W hx hd
     have hW := HF.out W hx
     simp [PDeps, pdeps, Region.binds] at hd
     first
      | refine ParOb.plain rfl ?_
      | refine ParOb.wanted (by simp [Region.wanted, yielded, hd]) ?_
     go_simp
     refine (KVAL.out W hx).mono ?_
     rintro e w2 ⟨rfl, hb2⟩
     exact ⟨_, rfl, hb2, fun _ _ => rfl⟩
    ·intro vals W hx hd
     have hW := HF.out W hx
     simp [PDeps, pdeps, Region.binds] at hd
     first
      | refine ParOb.plain rfl ?_
      | refine ParOb.wanted (by simp [Region.wanted, yielded, hd]) ?_
     have hsz : (bs vb).size ≤ 3000 := by rw [bs_size]; exact hlen
     go_simp
     rw [if_neg (by omega), show (⟨#[]⟩ : ByteArray) ++ bs vb = bs vb from by apply ByteArray.ext; simp [bs]]
     go_simp
     exact ⟨Ext.refl _, fun _ _ => rfl⟩
    ·intro vals W hx hd
     have hW := HF.out W hx
     simp [PDeps, pdeps, Region.binds] at hd
     first
      | refine ParOb.plain rfl ?_
      | refine ParOb.wanted (by simp [Region.wanted, yielded, hd]) ?_
     go_simp
     exact ParPost.same fun _ _ => rfl
   intro vals W hx hf
   simp (maxSteps := 20000000) only [ParFacts, List.take_succ_cons, List.take_zero, and_true] at hf
   simp (maxSteps := 20000000) only [List.drop_succ_cons, List.drop_zero, List.take_succ_cons, List.take_zero, ParEnd, Act.put, List.setIfInBounds_toArray, List.set_cons_succ, List.set_cons_zero, hf]
   clear hf
   have b0 := (HB0.out.alloc (.cells #[.int .i64 x.k, .int .i64 x.n, .string x.s] 45)).keep hx
   have b1 := (HB1.out.alloc (.cells #[.int .i64 x.k, .int .i64 x.n, .string x.s] 45)).keep hx
   have hbW : Below w.heap.size w W := (HBE.out.alloc HBE.out.size _).trans (Below.mono hx (by have := HBE.out.size; simp; omega))
   obtain ⟨c6, f6⟩ := b1.facts
   have c7 : W.cell? ⟨w.heap.size + 1, k, none⟩ = some (.string ⟨#[]⟩) := (HF.out W hx).1
   have HB0' := Lib.hid b0
   have HB1' := Lib.hid b1
   have HBW := Lib.hid hbW
   clear b0 b1 hbW hx c6
   go_wp2_with fail
   go_roundw
   case rel =>
    refine ⟨k + 1, by omega, by go_num, HB0'.out.other (by simp) _, ?_, HBW.out.setCell (by simp) _⟩
    rw [← gC_set _ _ (by omega), HCOL2.out]
    exact HB1'.out.set k _
   case measure => simp [intOf]; omega
  ·obtain rfl : k = X.length := by omega
   have hltI : ¬ ((X.length : Nat) : Int) < (X.length : Int) := by omega
   obtain ⟨s0, s1, s2, s3, hgc⟩ : ∃ s0 s1 s2 s3, gC (colB L X) X.length = #[.string s0, .string s1, .string s2, .string s3, .string ⟨#[]⟩] := ⟨_, _, _, _, rfl⟩
   have hb1 := HB1.out
   rw [hgc] at hb1
   have HGC := Lib.hid hgc
   obtain ⟨c4, f4⟩ := HB0.out.facts
   obtain ⟨c5, f5⟩ := hb1.facts
   clear hbe hgc hb1 HB1
   go_wp2_with fail
   have hb : Blk (((((wr.setCell ⟨w.heap.size, 0, none⟩ (.string s0)).setCell ⟨w.heap.size, 1, none⟩ (.string s1)).setCell ⟨w.heap.size, 2, none⟩ (.string s2)).setCell ⟨w.heap.size, 3, none⟩ (.string s3)).setCell ⟨w.heap.size, 4, none⟩ (.string ⟨#[]⟩)) w.heap.size #[.string s0, .string s1, .string s2, .string s3, .string ⟨#[]⟩] 103 :=
    ((((HB0.out.set 0 (.string s0)).set 1 (.string s1)).set 2 (.string s2)).set 3 (.string s3)).set 4 (.string ⟨#[]⟩)
   refine bodyPost_ret (ret_g rfl _ rfl rfl hb) rfl ⟨by rw [HGC.out], ?_⟩
   exact ((((HBE.out.setCell (Nat.le_refl _) _).setCell (Nat.le_refl _) _).setCell (Nat.le_refl _) _).setCell (Nat.le_refl _) _).setCell (Nat.le_refl _) _
end Go.Proofs.YtipokgedmfnlaaaGreatDoor

namespace Go.Proofs.YtipokgedmfnlaaaGreatDoor
open Go.RowKit Go.Lib
set_option maxRecDepth 100000

theorem ordL_zero (fs : Nat → List UInt8 → List UInt8 → Int) : ∀ (X Y : List V3) (i : Nat), ordL fs (fun _ => false) i X Y = 0 ↔ ∀ (j : Nat) (x y : V3), X[j]? = some x → Y[j]? = some y → leK x.k x.n x.s y.k y.n y.s (fs (i + j)) = 0
 | [], Y, i => by simp [ordL]
 | x :: X, [], i => by simp [ordL]
 | x :: X, y :: Y, i => by
  have ih := ordL_zero fs X Y (i + 1)
  simp only [ordL, Bool.false_eq_true, if_false]
  by_cases h : leK x.k x.n x.s y.k y.n y.s (fs i) = 0
  ·rw [if_neg (by simp [h]), ih]
   constructor
   ·intro h2 j a b ha hb
    cases j with
    | zero => simp at ha hb; subst ha hb; exact h
    | succ j =>
     have := h2 j a b (by simpa using ha) (by simpa using hb)
     rwa [show i + 1 + j = i + (j + 1) by omega] at this
   ·intro h2 j a b ha hb
    have := h2 (j + 1) a b (by simpa using ha) (by simpa using hb)
    rwa [show i + (j + 1) = i + 1 + j by omega] at this
  ·rw [if_pos h]
   constructor
   ·intro h2; exact absurd h2 h
   ·intro h2
    exact h2 0 x y rfl rfl
theorem keyK_iff {w : World} {v : Value} {L : List C5} (hC : CollsW w v L) {X Y : List V3} (hl : X.length = Y.length) (h4 : X.length ≤ 4) (hX : ∀ x ∈ X, InV x) (hY : ∀ y ∈ Y, InV y) :
  keyK L X = keyK L Y ↔ ordL (fsL L) (fun _ => false) 0 X Y = 0 := by
 rw [ordL_zero]
 have key : keyK L X = keyK L Y ↔ ∀ j, j < 4 → colB L X j = colB L Y j := by
  unfold keyK
  constructor
  ·intro h j hj
   simp only [Prod.mk.injEq, and_true] at h
   have : j = 0 ∨ j = 1 ∨ j = 2 ∨ j = 3 := by omega
   rcases this with rfl | rfl | rfl | rfl
   ·exact h.1
   ·exact h.2.1
   ·exact h.2.2.1
   ·exact h.2.2.2
  ·intro h
   rw [h 0 (by omega), h 1 (by omega), h 2 (by omega), h 3 (by omega)]
 rw [key]
 constructor
 ·intro h j x y hx hy
  have hj : j < X.length := (List.getElem?_eq_some_iff.1 hx).1
  have h1 := h j (by omega)
  unfold colB at h1
  rw [hx, hy] at h1
  rw [Nat.zero_add, ← colAt_f]
  exact (valB_iff (hC.at j) (hX x (List.mem_of_getElem? hx)) (hY y (List.mem_of_getElem? hy))).1 h1
 ·intro h j hj
  unfold colB
  by_cases hj2 : j < X.length
  ·have hx := List.getElem?_eq_getElem hj2
   have hy := List.getElem?_eq_getElem (show j < Y.length by omega)
   rw [hx, hy]
   have h1 := h j _ _ hx hy
   rw [Nat.zero_add, ← colAt_f] at h1
   exact (valB_iff (hC.at j) (hX _ (List.getElem_mem hj2)) (hY _ (List.getElem_mem _))).2 h1
  ·rw [List.getElem?_eq_none (by omega), List.getElem?_eq_none (by omega)]
theorem keyK_ok {w : World} {v : Value} {L : List C5} (hC : CollsW w v L) {X : List V3} (hs : ∀ x ∈ X, x.s.size ≤ 60) : (keyK L X).ok := by
 have h : ∀ j, (colB L X j).length ≤ maxLen := fun j => by
  unfold colB
  cases hx : X[j]? with
  | none => simp [maxLen]
  | some x =>
   have := valB_len (hC.at j) x (hs x (List.mem_of_getElem? hx))
   simp only [maxLen]; omega
 exact ⟨h 0, h 1, h 2, h 3, by simp [keyK, maxLen]⟩
/-- Each group has a first, whose key is the group's. -/
theorem gst_first (K : Nat → K5) : ∀ (k n : Nat) (l : List Nat), (gst K k).2[n]? = some l → ∃ f t, l = f :: t ∧ f < k ∧ (gst K k).1[n]? = some (K f)
 | 0, n, l, h => by simp [gst] at h
 | k + 1, n, l, h => by
  have hlen := (gst_ok K k).2.1
  simp only [gst, gstep] at h ⊢
  split at h
  ·rename_i hm
   simp only [if_pos hm]
   simp only at h
   rw [List.getElem?_set] at h
   split at h
   ·rename_i he
    split at h
    ·rename_i hlt
     have hg := List.getElem?_eq_getElem hlt
     obtain ⟨f, t, h1, h2, h3⟩ := gst_first K k _ _ hg
     rw [he] at h3
     simp only [List.getD_eq_getElem?_getD, hg, Option.getD_some, Option.some.injEq] at h
     rw [h1] at h
     exact ⟨f, t ++ [k], by rw [← h]; rfl, by omega, h3⟩
    ·cases h
   ·obtain ⟨f, t, h1, h2, h3⟩ := gst_first K k n l h
    exact ⟨f, t, h1, by omega, h3⟩
  ·rename_i hm
   simp only [if_neg hm]
   simp only at h
   by_cases hn : n < (gst K k).2.length
   ·rw [List.getElem?_append_left hn] at h
    obtain ⟨f, t, h1, h2, h3⟩ := gst_first K k n l h
    exact ⟨f, t, h1, by omega, by rw [List.getElem?_append_left (by omega)]; exact h3⟩
   ·rw [List.getElem?_append_right (by omega)] at h
    have h0 : n - (gst K k).2.length = 0 := by
     by_cases h0 : n - (gst K k).2.length = 0
     ·exact h0
     ·rw [List.getElem?_eq_none (by simp; omega)] at h; cases h
    rw [h0] at h
    simp at h
    refine ⟨k, [], h.symm, by omega, ?_⟩
    rw [List.getElem?_append_right (by omega), show n - (gst K k).1.length = 0 by omega]
    rfl
end Go.Proofs.YtipokgedmfnlaaaGreatDoor

namespace Go.Proofs.YtipokgedmfnlaaaGreatDoor
open Go.RowKit Go.Lib
set_option maxRecDepth 100000

def keyN (L : List C5) (R : List (List V3)) (i : Nat) : K5 := keyK L (R.getD i [])
def GrpOut (w : World) (G : List (List Nat)) (e : Ending) (w' : World) : Prop := ∃ v, e = .returned v ∧ ReadsLL w' v (gcells G) ∧ Below w.heap.size w w'
set_option maxHeartbeats 1000000 in
theorem groups_none (a : Option Addr) (c : Nat) (cv : Value) (w : World) : Calls Tryz.prog 14 #[.slice a 0 c, cv] w (GrpOut w []) := by
 have hmm := @run_makeMap Tryz.prog
 go_enter Tryz.func14, Tryz.ntmps14
 go_wp2_with fail
 refine wp_loop_rounds 1 ?_
 rw [rounds_succ]
 go_wp2_with fail
 refine (clip_any none 0 0 _ (by omega) (by omega)).mono ?_
 rintro e w' ⟨rfl, rfl⟩
 go_wp2_with fail
 go_ret
 exact ⟨_, rfl, ⟨[], .inl ⟨rfl, rfl⟩, rfl, fun j u l h => by simp at h⟩, by go_grown⟩
theorem groups5_any (v cv : Value) (R : List (List V3)) (L : List C5) (w : World) (hR : RowsAt w v R) (hF : FewR R) (hC : CollsW w cv L) (hG : ∀ W, Ext w W → Glob W) :
  Calls Tryz.prog 14 #[v, cv] w (GrpOut w (gst (keyN L R) R.length).2) := by
 obtain ⟨a, c, rfl, h1, h2, h3⟩ := hR
 by_cases h0 : 0 < R.length
 ·obtain ⟨g, o, rfl, hg, hall⟩ := h3 h0
  have each : ∀ i, ∃ u, i < R.length → w.cell? ⟨g, o + i, none⟩ = some u ∧ RowAt w u (R.getD i []) := fun i => by
   by_cases hi : i < R.length
   ·obtain ⟨u, hu⟩ := hall i R[i] (List.getElem?_eq_getElem hi)
    exact ⟨u, fun _ => by simpa [List.getD_eq_getElem?_getD, hi] using hu⟩
   ·exact ⟨undef, fun h => absurd h hi⟩
  obtain ⟨f, hf⟩ := Classical.axiomOfChoice each
  have few : ∀ i, i < R.length → (R.getD i []).length ≤ 4 ∧ ∀ x ∈ R.getD i [], x.s.size ≤ 60 := fun i hi => by
   have := hF.2 R[i] (List.getElem_mem hi)
   simpa [List.getD_eq_getElem?_getD, hi] using this
  exact groups_any g o R.length c f cv (keyN L R) w (by have := hF.1; omega) (fun i hi => (hf i hi).1) (fun i hi => keyK_ok hC (few i hi).2)
   fun i hi w1 hb => execkey_any _ cv _ L w1 ((hf i hi).2.ext hb) (hC.ext hb) (few i hi).1 (few i hi).2 fun W hW => hG W (Ext.trans hb hW)
 ·have hz : R.length = 0 := by omega
  rw [hz]
  exact groups_none a c cv w
end Go.Proofs.YtipokgedmfnlaaaGreatDoor
