/-
  The document's own numbers: sum, product by ten, text of a number from 0 on.
-/
import Derived.Test.YtbdaebjpgdpcnaaGreatDoorProg
import Derived.Test.YtbdaebjpgdpcnaaGreatDoorBase
import Derived.Test.YtbdaebjpgdpcnaaGreatDoorLexA
namespace Go.Proofs.YtbdaebjpgdpcnaaGreatDoor
open Go.RowKit
set_option maxRecDepth 100000

set_option maxHeartbeats 1000000 in
theorem refadd_any (a b : Int) (w : World) (ha : -9223372036854775808 ≤ a ∧ a ≤ 9223372036854775807) (hb : -9223372036854775808 ≤ b ∧ b ≤ 9223372036854775807) :
    Calls Tryz.prog 66 #[.int .i64 a, .int .i64 b] w fun e w' => e = .returned (if -9223372036854775808 ≤ a + b ∧ a + b ≤ 9223372036854775807 then .tuple #[.int .i64 (a + b), .int .i64 0] else .tuple #[.int .i64 0, .int .i64 17]) ∧ w = w' := by
  obtain ⟨ha1, ha2⟩ := ha
  obtain ⟨hb1, hb2⟩ := hb
  go_enter Tryz.func66, Tryz.ntmps66
  go_wp2_with fail
  all_goals first
    | (go_ret2; exact ⟨rfl, rfl⟩)
theorem wrap64_of {n : Int} (h0 : -9223372036854775808 ≤ n) (h1 : n ≤ 9223372036854775807) : wrap64 n = n := by unfold wrap64; omega
theorem wrap64_bounds (n : Int) : -9223372036854775808 ≤ wrap64 n ∧ wrap64 n ≤ 9223372036854775807 := by unfold wrap64; omega
theorem mul_fits (a : Int) (h0 : 0 ≤ a) (h : a * 10 ≤ 9223372036854775807) : wrap64 (a * 10) = a * 10 ∧ wrap64 ((a * 10).tdiv 10) = a := by
  have e : (a * 10).tdiv 10 = a := Int.mul_tdiv_cancel a (by decide)
  rw [e]
  exact ⟨wrap64_of (by omega) (by omega), wrap64_of (by omega) (by omega)⟩
theorem mul_over (a : Int) (h : 9223372036854775807 < a * 10) : (wrap64 ((wrap64 (a * 10)).tdiv 10) == a) = false := by
  have hp := wrap64_bounds (a * 10)
  generalize wrap64 (a * 10) = p at hp ⊢
  have ht : -922337203685477580 ≤ p.tdiv 10 ∧ p.tdiv 10 ≤ 922337203685477580 := by
    rcases Int.le_total 0 p with h0 | h0
    · rw [Int.tdiv_eq_ediv_of_nonneg h0]; omega
    · have e : p.tdiv 10 = -((-p).tdiv 10) := by rw [Int.neg_tdiv]; omega
      rw [e, Int.tdiv_eq_ediv_of_nonneg (by omega)]; omega
  rw [wrap64_of (by omega) (by omega), beq_eq_false_iff_ne]
  omega
theorem refmul_any (a : Int) (w : World) (ha : 0 ≤ a ∧ a ≤ 9223372036854775807) :
    Calls Tryz.prog 65 #[.int .i64 a, .int .i64 10] w fun e w' => e = .returned (if a * 10 ≤ 9223372036854775807 then .tuple #[.int .i64 (a * 10), .int .i64 0] else .tuple #[.int .i64 0, .int .i64 17]) ∧ w = w' := by
  obtain ⟨ha1, ha2⟩ := ha
  by_cases h : a * 10 ≤ 9223372036854775807
  · obtain ⟨e1, e2⟩ := mul_fits a ha1 h
    simp only [if_pos h]
    go_enter Tryz.func65, Tryz.ntmps65
    go_wp2_with fail
    all_goals first
      | (go_ret2; exact ⟨rfl, rfl⟩)
      | (rename_i hz; subst hz; go_ret2; exact ⟨rfl, rfl⟩)
  · have e := mul_over a (by omega)
    simp only [if_neg h]
    go_enter Tryz.func65, Tryz.ntmps65
    go_wp2_with fail
    all_goals first
      | (go_ret2; exact ⟨rfl, rfl⟩)

/-! ### The text of a number from 0 on -/
theorem num_from : ∀ (l : List UInt8) (a : Nat), l.foldl (fun a c => a * 10 + (c.toNat - 48)) a = a * 10 ^ l.length + Lx.num l
  | [], a => by simp [Lx.num]
  | c :: l, a => by
    have h1 := num_from l (a * 10 + (c.toNat - 48))
    have h2 := num_from l (0 * 10 + (c.toNat - 48))
    rw [Lx.num, List.foldl_cons, List.foldl_cons, h1, h2, List.length_cons, Nat.pow_succ]
    rw [Nat.add_mul, Nat.zero_mul, Nat.zero_add, Nat.mul_assoc, Nat.mul_comm 10]
    omega
theorem num_cons (c : UInt8) (l : List UInt8) : Lx.num (c :: l) = (c.toNat - 48) * 10 ^ l.length + Lx.num l := by
  have := num_from l (c.toNat - 48)
  rw [← this, Lx.num, List.foldl_cons]
  simp
theorem num_append (l r : List UInt8) : Lx.num (l ++ r) = Lx.num l * 10 ^ r.length + Lx.num r := by
  rw [Lx.num, List.foldl_append]
  exact num_from r _
theorem digit_at (k : Nat) (h : k < 10) : (ByteArray.mk #[48, 49, 50, 51, 52, 53, 54, 55, 56, 57]).extract k (k + 1) = ⟨#[48 + UInt8.ofNat k]⟩ := by
  have : ∀ k : Fin 10, (ByteArray.mk #[48, 49, 50, 51, 52, 53, 54, 55, 56, 57]).extract k.val (k.val + 1) = ⟨#[48 + UInt8.ofNat k.val]⟩ := by decide +kernel
  exact this ⟨k, h⟩
theorem digit_val (k : Nat) (h : k < 10) : (48 + UInt8.ofNat k).toNat = 48 + k := by
  have : ∀ k : Fin 10, (48 + UInt8.ofNat k.val).toNat = 48 + k.val := by decide +kernel
  exact this ⟨k, h⟩
theorem digit_is (k : Nat) (h : k < 10) : Lx.isDigit (48 + UInt8.ofNat k) = true := by
  have : ∀ k : Fin 10, Lx.isDigit (48 + UInt8.ofNat k.val) = true := by decide +kernel
  exact this ⟨k, h⟩
/-- Digits that were told, with what is left ahead of them. -/
structure Told (n X : Nat) (t : ByteArray) : Prop where
  dig : ∀ c ∈ bsl t, Lx.isDigit c = true
  is : n = X * 10 ^ t.size + Lx.num (bsl t)
  some : 0 < t.size → 0 < X
theorem Told.size {n X : Nat} {t : ByteArray} (h : Told n X t) (hn : n ≤ 9223372036854775807) : t.size ≤ 18 := by
  rcases Nat.eq_zero_or_pos t.size with h0 | h0
  · omega
  · have hX := h.some h0
    have hi := h.is
    rcases Nat.lt_or_ge 18 t.size with h1 | h1
    · have hp : 10 ^ 19 ≤ 10 ^ t.size := Nat.pow_le_pow_right (by decide) (by omega)
      have : 1 * 10 ^ t.size ≤ X * 10 ^ t.size := Nat.mul_le_mul_right _ hX
      omega
    · exact h1
theorem Told.next {n X : Nat} {t : ByteArray} (h : Told n X t) (hX : 9 < X) : Told n (X / 10) (⟨#[48 + UInt8.ofNat (X % 10)]⟩ ++ t) := by
  have e : bsl (⟨#[48 + UInt8.ofNat (X % 10)]⟩ ++ t) = (48 + UInt8.ofNat (X % 10)) :: bsl t := by simp [bsl]
  have hv := digit_val (X % 10) (by omega)
  have hs : (ByteArray.mk #[48 + UInt8.ofNat (X % 10)] ++ t).size = t.size + 1 := by rw [← bsl_length, e, List.length_cons, bsl_length]
  refine ⟨?_, ?_, fun _ => by omega⟩
  · intro c hc
    rw [e] at hc
    rcases List.mem_cons.1 hc with rfl | hc
    · exact digit_is (X % 10) (by omega)
    · exact h.dig c hc
  · rw [hs, e, num_cons, hv, bsl_length, h.is, Nat.pow_succ]
    have : X = X / 10 * 10 + X % 10 := by omega
    have h2 : X * 10 ^ t.size = (X / 10 * 10 + X % 10) * 10 ^ t.size := by rw [← this]
    rw [h2, Nat.add_mul, Nat.mul_assoc, Nat.mul_comm 10]
    have : 48 + X % 10 - 48 = X % 10 := by omega
    rw [this]
    omega
theorem Told.last {n X : Nat} {t : ByteArray} (h : Told n X t) (hX : X ≤ 9) : (∀ c ∈ bsl (⟨#[48 + UInt8.ofNat X]⟩ ++ t), Lx.isDigit c = true) ∧ Lx.num (bsl (⟨#[48 + UInt8.ofNat X]⟩ ++ t)) = n ∧ (ByteArray.mk #[48 + UInt8.ofNat X] ++ t).size = t.size + 1 := by
  have e : bsl (⟨#[48 + UInt8.ofNat X]⟩ ++ t) = (48 + UInt8.ofNat X) :: bsl t := by simp [bsl]
  have hv := digit_val X (by omega)
  refine ⟨?_, ?_, by rw [← bsl_length, e, List.length_cons, bsl_length]⟩
  · intro c hc
    rw [e] at hc
    rcases List.mem_cons.1 hc with rfl | hc
    · exact digit_is X (by omega)
    · exact h.dig c hc
  · rw [e, num_cons, hv, bsl_length, h.is]
    have : 48 + X - 48 = X := by omega
    rw [this]
set_option maxHeartbeats 1000000 in
theorem reftext_any (n : Nat) (w : World) (hn : n ≤ 9223372036854775807) :
    Calls Tryz.prog 40 #[.int .i64 n] w fun e w' => (∃ t, e = .returned (.string t) ∧ (∀ c ∈ bsl t, Lx.isDigit c = true) ∧ Lx.num (bsl t) = n ∧ 0 < t.size ∧ t.size ≤ 19) ∧ w = w' := by
  go_enter Tryz.func40, Tryz.ntmps40
  go_wp2_with fail
  go_loop [0, 3] (fun x s => ∃ (X : Nat) (t : ByteArray), x = .int .i64 X ∧ s = .string t ∧ Told n X t ∧ X ≤ n) (fun x _ => (intOf x).toNat)
  case atStart => exact ⟨n, ⟨#[]⟩, rfl, rfl, ⟨by simp [bsl], by simp [bsl, Lx.num, ByteArray.size], by simp [ByteArray.size]⟩, Nat.le_refl _⟩
  case round =>
    obtain ⟨X, t, rfl, rfl, hT, hXn⟩ := hrel
    have hsz := hT.size hn
    have HT := Lib.hid hT
    clear hT
    have e1 : ((X : Int).tmod 10) = ((X % 10 : Nat) : Int) := by rw [Int.tmod_eq_emod_of_nonneg (by omega)]; omega
    have e2 : ((X : Int).tdiv 10) = ((X / 10 : Nat) : Int) := by rw [Int.tdiv_eq_ediv_of_nonneg (by omega)]; omega
    by_cases h9 : 9 < X
    · have hd := digit_at (X % 10) (by omega)
      go_wp2_with fail
      case roundEnd =>
        refine ⟨⟨X / 10, _, by go_num, rfl, HT.out.next h9, by omega⟩, ?_⟩
        simp [intOf]; omega
    · have hd := digit_at X (by omega)
      go_wp2_with fail
      obtain ⟨t1, t2, t3⟩ := HT.out.last (by omega)
      go_ret
      exact ⟨⟨_, rfl, t1, t2, by omega, by omega⟩, rfl⟩
end Go.Proofs.YtbdaebjpgdpcnaaGreatDoor
