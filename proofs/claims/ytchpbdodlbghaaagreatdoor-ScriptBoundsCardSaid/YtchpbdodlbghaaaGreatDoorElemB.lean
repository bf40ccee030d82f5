import Derived.Test.YtchpbdodlbghaaaGreatDoorProg
import Derived.Laws.Bits64b
import Derived.Laws.BitsAllLaws
import Derived.Outline
import Derived.Test.YtchpbdodlbghaaaGreatDoorOwn
import Derived.Test.YtchpbdodlbghaaaGreatDoorPar
import Derived.Test.YtchpbdodlbghaaaGreatDoorTab
namespace Go.Proofs.YtchpbdodlbghaaaGreatDoor
open Go.RowKit
set_option maxRecDepth 100000

theorem and_shl (x k m : Nat) : x &&& ((2 ^ m - 1) * 2 ^ k) = x / 2 ^ k % 2 ^ m * 2 ^ k := by
  apply Nat.eq_of_testBit_eq
  intro i
  rw [Nat.testBit_and, Nat.testBit_mul_two_pow, Nat.testBit_two_pow_sub_one, Nat.testBit_mul_two_pow, Nat.testBit_mod_two_pow, Nat.testBit_div_two_pow]
  by_cases h : k ≤ i
  · simp [h, Bool.and_comm]
  · simp [h]
theorem and_hi (x : Nat) (h : x < 4294967296) : bits .and .u64 (x : Int) 4294901760 = ((x / 65536 * 65536 : Nat) : Int) := by
  rw [show (4294901760 : Int) = ((4294901760 : Nat) : Int) from rfl, bits_and_u64_nat _ _ (by omega) (by omega)]
  have := and_shl x 16 16
  rw [show (2 ^ 16 - 1) * 2 ^ 16 = 4294901760 from rfl] at this
  rw [this, show (2 : Nat) ^ 16 = 65536 from rfl, Nat.mod_eq_of_lt (by omega)]
theorem and_mid (x : Nat) (h : x < 4294967296) : bits .and .u64 (x : Int) 65280 = ((x / 256 % 256 * 256 : Nat) : Int) := by
  rw [show (65280 : Int) = ((65280 : Nat) : Int) from rfl, bits_and_u64_nat _ _ (by omega) (by omega)]
  exact congrArg Nat.cast (and_shl x 8 8)
theorem and_lo (x : Nat) (h : x < 4294967296) : bits .and .u64 (x : Int) 254 = ((x / 2 % 128 * 2 : Nat) : Int) := by
  rw [show (254 : Int) = ((254 : Nat) : Int) from rfl, bits_and_u64_nat _ _ (by omega) (by omega)]
  exact congrArg Nat.cast (and_shl x 1 7)
theorem ret_i64 {a b : Int} (h : a = b) : Ending.returned (.int .i64 a) = .returned (.int .i64 b) := by rw [h]
theorem ret_u64 {a b : Int} (h : a = b) : Ending.returned (.int .u64 a) = .returned (.int .u64 b) := by rw [h]
theorem ret_u32 {a b : Int} (h : a = b) : Ending.returned (.int .u32 a) = .returned (.int .u32 b) := by rw [h]
theorem mask1 (w : World) : Calls Tryz.prog 262 #[.int .i64 16, .int .i64 16] w fun e w' => e = .returned (.int .u64 4294901760) ∧ w = w' := by
  go_enter Tryz.func262, Tryz.ntmps262
  go_wp2
  go_ret
  exact ⟨rfl, rfl⟩
theorem mask2 (w : World) : Calls Tryz.prog 262 #[.int .i64 8, .int .i64 8] w fun e w' => e = .returned (.int .u64 65280) ∧ w = w' := by
  go_enter Tryz.func262, Tryz.ntmps262
  go_wp2
  go_ret
  exact ⟨rfl, rfl⟩
theorem mask3 (w : World) : Calls Tryz.prog 262 #[.int .i64 1, .int .i64 7] w fun e w' => e = .returned (.int .u64 254) ∧ w = w' := by
  go_enter Tryz.func262, Tryz.ntmps262
  go_wp2
  go_ret
  exact ⟨rfl, rfl⟩
theorem mask0 (w : World) : Calls Tryz.prog 262 #[.int .i64 0, .int .i64 0] w fun e w' => e = .returned (.int .u64 0) ∧ w = w' := by
  go_enter Tryz.func262, Tryz.ntmps262
  go_wp2
  go_ret
  exact ⟨rfl, rfl⟩
theorem get1 (x : Nat) (w : World) (h : x < 4294967296) : Calls Tryz.prog 479 #[.int .u64 x, .int .i64 16, .int .i64 16] w fun e w' => e = .returned (.int .u64 ((x / 65536 : Nat) : Int)) ∧ w = w' := by
  have hb := and_hi x h
  go_enter Tryz.func479, Tryz.ntmps479
  go_wp2_with (refine (mask1 _).mono ?_; rintro e w' ⟨rfl, rfl⟩)
  go_ret
  exact ⟨ret_u64 (by omega), rfl⟩
theorem get2 (x : Nat) (w : World) (h : x < 4294967296) : Calls Tryz.prog 479 #[.int .u64 x, .int .i64 8, .int .i64 8] w fun e w' => e = .returned (.int .u64 ((x / 256 % 256 : Nat) : Int)) ∧ w = w' := by
  have hb := and_mid x h
  go_enter Tryz.func479, Tryz.ntmps479
  go_wp2_with (refine (mask2 _).mono ?_; rintro e w' ⟨rfl, rfl⟩)
  go_ret
  exact ⟨ret_u64 (by omega), rfl⟩
theorem get3 (x : Nat) (w : World) (h : x < 4294967296) : Calls Tryz.prog 479 #[.int .u64 x, .int .i64 1, .int .i64 7] w fun e w' => e = .returned (.int .u64 ((x / 2 % 128 : Nat) : Int)) ∧ w = w' := by
  have hb := and_lo x h
  go_enter Tryz.func479, Tryz.ntmps479
  go_wp2_with (refine (mask3 _).mono ?_; rintro e w' ⟨rfl, rfl⟩)
  go_ret
  exact ⟨ret_u64 (by omega), rfl⟩
theorem setN_eq (x k m v : Nat) (hx : x < 2 ^ 64) (hv : v < 2 ^ m) (hkm : (2 ^ m - 1) * 2 ^ k < 2 ^ 64) (hk : k + m ≤ 64) :
    (x &&& (2 ^ 64 - ((2 ^ m - 1) * 2 ^ k + 1))) ||| (v * 2 ^ k &&& (2 ^ m - 1) * 2 ^ k) = x / 2 ^ (k + m) * 2 ^ (k + m) + (v * 2 ^ k + x % 2 ^ k) := by
  have h1 : v * 2 ^ k + x % 2 ^ k < 2 ^ (k + m) := by
    have : x % 2 ^ k < 2 ^ k := Nat.mod_lt _ (Nat.two_pow_pos k)
    have h2 : (v + 1) * 2 ^ k ≤ 2 ^ m * 2 ^ k := Nat.mul_le_mul_right _ hv
    rw [Nat.pow_add, Nat.mul_comm (2 ^ k)]
    rw [Nat.add_mul] at h2
    omega
  rw [Nat.mul_comm (x / 2 ^ (k + m)), Nat.two_pow_add_eq_or_of_lt h1, Nat.mul_comm v, Nat.two_pow_add_eq_or_of_lt (Nat.mod_lt _ (Nat.two_pow_pos k))]
  apply Nat.eq_of_testBit_eq
  intro i
  rw [Nat.testBit_or, Nat.testBit_and, Nat.testBit_two_pow_sub_succ hkm, Nat.testBit_and, Nat.testBit_or, Nat.testBit_or, Nat.testBit_mul_two_pow, Nat.testBit_two_pow_sub_one, Nat.testBit_mod_two_pow, Nat.mul_comm (2 ^ k) v, Nat.testBit_mul_two_pow, Nat.mul_comm (2 ^ (k + m)), Nat.testBit_mul_two_pow, Nat.testBit_div_two_pow]
  by_cases h64 : i < 64
  · by_cases hki : k ≤ i
    · by_cases hm : i < k + m
      · simp [hki, h64, show ¬ k + m ≤ i by omega, show i - k < m by omega, show ¬ i < k by omega]
      · have hvz : v.testBit (i - k) = false := Nat.testBit_lt_two_pow (Nat.lt_of_lt_of_le hv (Nat.pow_le_pow_right (by omega) (by omega)))
        simp [hki, h64, show k + m ≤ i by omega, show ¬ i - k < m by omega, show ¬ i < k by omega, hvz]
    · simp [hki, h64, show ¬ k + m ≤ i by omega, show i < k by omega]
  · have hxz : x.testBit i = false := Nat.testBit_lt_two_pow (Nat.lt_of_lt_of_le hx (Nat.pow_le_pow_right (by omega) (by omega)))
    by_cases hkm2 : k + m ≤ i
    · have hvz : v.testBit (i - k) = false := Nat.testBit_lt_two_pow (Nat.lt_of_lt_of_le hv (Nat.pow_le_pow_right (by omega) (by omega)))
      simp [h64, hxz, hvz]
      intro _
      rw [Nat.sub_add_cancel hkm2]
      exact hxz
    · omega
def setN (level x v : Nat) : Nat := if level = 1 then v * 65536 + x % 65536 else if level = 2 then x / 65536 * 65536 + (v * 256 + x % 256) else if level = 3 then x / 256 * 256 + (v * 2 + x % 2) else x
theorem set1_eq (x v : Nat) (hx : x < 4294967296) (hv : v < 65536) : bits .or .u64 (bits .andNot .u64 (x : Int) 4294901760) (bits .and .u64 ((v : Int) * 65536) 4294901760) = ((setN 1 x v : Nat) : Int) := by
  rw [show (4294901760 : Int) = ((4294901760 : Nat) : Int) from rfl, u64_andNot_nat _ _ (by omega) (by omega), show (v : Int) * 65536 = ((v * 65536 : Nat) : Int) by omega, bits_and_u64_nat _ _ (by omega) (by omega), bits_or_u64_nat _ _ (Nat.lt_of_le_of_lt Nat.and_le_left (by omega)) (Nat.lt_of_le_of_lt Nat.and_le_left (by omega))]
  have h := setN_eq x 16 16 v (by omega) (by omega) (by decide) (by decide)
  rw [show 2 ^ 64 - ((2 ^ 16 - 1) * 2 ^ 16 + 1) = 18446744073709551615 - 4294901760 from rfl, show (2 ^ 16 - 1) * 2 ^ 16 = 4294901760 from rfl] at h
  rw [show v * 65536 = v * 2 ^ 16 from rfl, h, Nat.div_eq_of_lt (show x < 2 ^ (16 + 16) from hx), Nat.zero_mul, Nat.zero_add]
  rfl
theorem set2_eq (x v : Nat) (hx : x < 4294967296) (hv : v < 256) : bits .or .u64 (bits .andNot .u64 (x : Int) 65280) (bits .and .u64 ((v : Int) * 256) 65280) = ((setN 2 x v : Nat) : Int) := by
  rw [show (65280 : Int) = ((65280 : Nat) : Int) from rfl, u64_andNot_nat _ _ (by omega) (by omega), show (v : Int) * 256 = ((v * 256 : Nat) : Int) by omega, bits_and_u64_nat _ _ (by omega) (by omega), bits_or_u64_nat _ _ (Nat.lt_of_le_of_lt Nat.and_le_left (by omega)) (Nat.lt_of_le_of_lt Nat.and_le_left (by omega))]
  have h := setN_eq x 8 8 v (by omega) (by omega) (by decide) (by decide)
  rw [show 2 ^ 64 - ((2 ^ 8 - 1) * 2 ^ 8 + 1) = 18446744073709551615 - 65280 from rfl, show (2 ^ 8 - 1) * 2 ^ 8 = 65280 from rfl] at h
  rw [show v * 256 = v * 2 ^ 8 from rfl, h]
  rfl
theorem set3_eq (x v : Nat) (hx : x < 4294967296) (hv : v < 128) : bits .or .u64 (bits .andNot .u64 (x : Int) 254) (bits .and .u64 ((v : Int) * 2) 254) = ((setN 3 x v : Nat) : Int) := by
  rw [show (254 : Int) = ((254 : Nat) : Int) from rfl, u64_andNot_nat _ _ (by omega) (by omega), show (v : Int) * 2 = ((v * 2 : Nat) : Int) by omega, bits_and_u64_nat _ _ (by omega) (by omega), bits_or_u64_nat _ _ (Nat.lt_of_le_of_lt Nat.and_le_left (by omega)) (Nat.lt_of_le_of_lt Nat.and_le_left (by omega))]
  have h := setN_eq x 1 7 v (by omega) (by omega) (by decide) (by decide)
  rw [show 2 ^ 64 - ((2 ^ 7 - 1) * 2 ^ 1 + 1) = 18446744073709551615 - 254 from rfl, show (2 ^ 7 - 1) * 2 ^ 1 = 254 from rfl] at h
  rw [show v * 2 = v * 2 ^ 1 from rfl, h]
  rfl
theorem set1 (x v : Nat) (w : World) (hx : x < 4294967296) (hv : v < 65536) : Calls Tryz.prog 179 #[.int .u64 x, .int .i64 16, .int .i64 16, .int .u64 v] w fun e w' => e = .returned (.int .u64 ((setN 1 x v : Nat) : Int)) ∧ w = w' := by
  have hb := set1_eq x v hx hv
  have HB := Lib.hid hb
  clear hb
  go_enter Tryz.func179, Tryz.ntmps179
  go_wp2_with (refine (mask1 _).mono ?_; rintro e w' ⟨rfl, rfl⟩)
  go_ret
  exact ⟨ret_u64 HB.out, rfl⟩
theorem set2 (x v : Nat) (w : World) (hx : x < 4294967296) (hv : v < 256) : Calls Tryz.prog 179 #[.int .u64 x, .int .i64 8, .int .i64 8, .int .u64 v] w fun e w' => e = .returned (.int .u64 ((setN 2 x v : Nat) : Int)) ∧ w = w' := by
  have hb := set2_eq x v hx hv
  have HB := Lib.hid hb
  clear hb
  go_enter Tryz.func179, Tryz.ntmps179
  go_wp2_with (refine (mask2 _).mono ?_; rintro e w' ⟨rfl, rfl⟩)
  go_ret
  exact ⟨ret_u64 HB.out, rfl⟩
theorem set3 (x v : Nat) (w : World) (hx : x < 4294967296) (hv : v < 128) : Calls Tryz.prog 179 #[.int .u64 x, .int .i64 1, .int .i64 7, .int .u64 v] w fun e w' => e = .returned (.int .u64 ((setN 3 x v : Nat) : Int)) ∧ w = w' := by
  have hb := set3_eq x v hx hv
  have HB := Lib.hid hb
  clear hb
  go_enter Tryz.func179, Tryz.ntmps179
  go_wp2_with (refine (mask3 _).mono ?_; rintro e w' ⟨rfl, rfl⟩)
  go_ret
  exact ⟨ret_u64 HB.out, rfl⟩
def fieldV (level : Nat) : Value := .tuple #[.int .i64 (if level = 1 then 16 else if level = 2 then 8 else 1), .int .i64 (if level = 1 then 16 else if level = 2 then 8 else 7)]
theorem field1 (w : World) : Calls Tryz.prog 104 #[.int .i64 1] w fun e w' => e = .returned (.tuple #[.int .i64 16, .int .i64 16]) ∧ w = w' := by
  go_enter Tryz.func104, Tryz.ntmps104
  go_wp2
  go_ret2
  exact ⟨rfl, rfl⟩
theorem field2 (w : World) : Calls Tryz.prog 104 #[.int .i64 2] w fun e w' => e = .returned (.tuple #[.int .i64 8, .int .i64 8]) ∧ w = w' := by
  go_enter Tryz.func104, Tryz.ntmps104
  go_wp2
  go_ret2
  exact ⟨rfl, rfl⟩
theorem field3 (w : World) : Calls Tryz.prog 104 #[.int .i64 3] w fun e w' => e = .returned (.tuple #[.int .i64 1, .int .i64 7]) ∧ w = w' := by
  go_enter Tryz.func104, Tryz.ntmps104
  go_wp2
  go_ret2
  exact ⟨rfl, rfl⟩
def wtN (level x : Nat) : Nat := if level = 1 then x / 65536 else if level = 2 then x / 256 % 256 else x / 2 % 128
theorem weight_any (level x : Nat) (w : World) (hl : level = 1 ∨ level = 2 ∨ level = 3) (h : x < 4294967296) :
    Calls Tryz.prog 383 #[.int .u32 x, .int .i64 level] w fun e w' => e = .returned (.int .i64 ((wtN level x : Nat) : Int)) ∧ w = w' := by
  rcases hl with rfl | rfl | rfl
  · rw [show wtN 1 x = x / 65536 from rfl]
    go_enter Tryz.func383, Tryz.ntmps383
    go_wp2_with (first | (refine (field1 _).mono ?_; rintro e w' ⟨rfl, rfl⟩) | (refine (get1 _ _ h).mono ?_; rintro e w' ⟨rfl, rfl⟩))
    go_ret
    exact ⟨ret_i64 (by omega), rfl⟩
  · rw [show wtN 2 x = x / 256 % 256 from rfl]
    go_enter Tryz.func383, Tryz.ntmps383
    go_wp2_with (first | (refine (field2 _).mono ?_; rintro e w' ⟨rfl, rfl⟩) | (refine (get2 _ _ h).mono ?_; rintro e w' ⟨rfl, rfl⟩))
    go_ret
    exact ⟨ret_i64 (by omega), rfl⟩
  · rw [show wtN 3 x = x / 2 % 128 from rfl]
    go_enter Tryz.func383, Tryz.ntmps383
    go_wp2_with (first | (refine (field3 _).mono ?_; rintro e w' ⟨rfl, rfl⟩) | (refine (get3 _ _ h).mono ?_; rintro e w' ⟨rfl, rfl⟩))
    go_ret
    exact ⟨ret_i64 (by omega), rfl⟩
theorem with1 (x v : Nat) (w : World) (hx : x < 4294967296) (hv : v < 65536) : Calls Tryz.prog 105 #[.int .u32 x, .int .i64 1, .int .i64 v] w fun e w' => e = .returned (.int .u32 ((setN 1 x v : Nat) : Int)) ∧ w = w' := by
  have hs : setN 1 x v < 4294967296 := by rw [show setN 1 x v = v * 65536 + x % 65536 from rfl]; omega
  go_enter Tryz.func105, Tryz.ntmps105
  go_wp2_with (first | (refine (field1 _).mono ?_; rintro e w' ⟨rfl, rfl⟩) | (refine (set1 _ _ _ hx hv).mono ?_; rintro e w' ⟨rfl, rfl⟩))
  go_ret
  exact ⟨ret_u32 (by omega), rfl⟩
theorem with2 (x v : Nat) (w : World) (hx : x < 4294967296) (hv : v < 256) : Calls Tryz.prog 105 #[.int .u32 x, .int .i64 2, .int .i64 v] w fun e w' => e = .returned (.int .u32 ((setN 2 x v : Nat) : Int)) ∧ w = w' := by
  have hs : setN 2 x v < 4294967296 := by rw [show setN 2 x v = x / 65536 * 65536 + (v * 256 + x % 256) from rfl]; omega
  go_enter Tryz.func105, Tryz.ntmps105
  go_wp2_with (first | (refine (field2 _).mono ?_; rintro e w' ⟨rfl, rfl⟩) | (refine (set2 _ _ _ hx hv).mono ?_; rintro e w' ⟨rfl, rfl⟩))
  go_ret
  exact ⟨ret_u32 (by omega), rfl⟩
theorem with3 (x v : Nat) (w : World) (hx : x < 4294967296) (hv : v < 128) : Calls Tryz.prog 105 #[.int .u32 x, .int .i64 3, .int .i64 v] w fun e w' => e = .returned (.int .u32 ((setN 3 x v : Nat) : Int)) ∧ w = w' := by
  have hs : setN 3 x v < 4294967296 := by rw [show setN 3 x v = x / 256 * 256 + (v * 2 + x % 2) from rfl]; omega
  go_enter Tryz.func105, Tryz.ntmps105
  go_wp2_with (first | (refine (field3 _).mono ?_; rintro e w' ⟨rfl, rfl⟩) | (refine (set3 _ _ _ hx hv).mono ?_; rintro e w' ⟨rfl, rfl⟩))
  go_ret
  exact ⟨ret_u32 (by omega), rfl⟩
theorem wordOf (p s t : Nat) (_hs : s < 256) (_ht : t < 128) : setN 3 (setN 2 (setN 1 0 p) s) t = p * 65536 + s * 256 + t * 2 := by
  simp only [setN, if_true]
  simp
  omega
theorem or1 (x : Nat) (h : x < 4294967296) (he : x % 2 = 0) : bits .or .u32 (x : Int) 1 = ((x + 1 : Nat) : Int) := by
  rw [show (1 : Int) = ((1 : Nat) : Int) from rfl, u32_or_nat _ _ (by omega) (by omega)]
  congr 1
  have := Nat.two_pow_add_eq_or_of_lt (show 1 < 2 ^ 1 by decide) (x / 2)
  rw [show 2 ^ 1 * (x / 2) = x by omega] at this
  exact this.symm
theorem make_any (e : El) (w : World) (he : e.ok) : Calls Tryz.prog 60 #[.int .i64 e.p, .int .i64 e.s, .int .i64 e.t, .bool e.v] w fun r w' => r = .returned (.tuple #[.int .u32 e.word, .int .i64 0]) ∧ w = w' := by
  obtain ⟨p, s, t, v⟩ := e
  obtain ⟨hp, hs, ht⟩ := he
  simp only at hp hs ht
  have h1 : setN 1 0 p < 4294967296 := by rw [show setN 1 0 p = p * 65536 + 0 % 65536 from rfl]; omega
  have h2 : setN 2 (setN 1 0 p) s < 4294967296 := by rw [show setN 2 (setN 1 0 p) s = (p * 65536 + 0 % 65536) / 65536 * 65536 + (s * 256 + (p * 65536 + 0 % 65536) % 256) from rfl]; omega
  have hw := wordOf p s t hs ht
  have HW := Lib.hid hw
  have hor : bits .or .u32 ((setN 3 (setN 2 (setN 1 0 p) s) t : Nat) : Int) 1 = ((p * 65536 + s * 256 + t * 2 + 1 : Nat) : Int) := by rw [hw]; exact or1 _ (by omega) (by omega)
  clear hw
  have ha : ∀ W, (Instr.index 121 (.agg #[.int .i64 p, .int .i64 s, .int .i64 t]) (.int .i64 0)).run Tryz.prog W = .ok (.int .i64 p) W := fun _ => by kernel_rfl
  have hb : ∀ W, (Instr.index 121 (.agg #[.int .i64 p, .int .i64 s, .int .i64 t]) (.int .i64 1)).run Tryz.prog W = .ok (.int .i64 s) W := fun _ => by kernel_rfl
  have hc : ∀ W, (Instr.index 121 (.agg #[.int .i64 p, .int .i64 s, .int .i64 t]) (.int .i64 2)).run Tryz.prog W = .ok (.int .i64 t) W := fun _ => by kernel_rfl
  show Calls _ _ #[.int .i64 p, .int .i64 s, .int .i64 t, .bool v] _ _
  rw [show (El.mk p s t v).word = p * 65536 + s * 256 + t * 2 + (if v then 1 else 0) from rfl]
  go_enter Tryz.func60, Tryz.ntmps60
  go_wp2
  refine wp_loop_rounds 4 ?_
  rw [rounds_succ]
  go_wp2_with (first | (refine (field1 _).mono ?_; rintro e w' ⟨rfl, rfl⟩) | (refine (with1 0 p _ (by omega) hp).mono ?_; rintro e w' ⟨rfl, rfl⟩))
  rw [rounds_succ]
  go_wp2_with (first | (refine (field2 _).mono ?_; rintro e w' ⟨rfl, rfl⟩) | (refine (with2 _ s _ h1 hs).mono ?_; rintro e w' ⟨rfl, rfl⟩))
  rw [rounds_succ]
  go_wp2_with (first | (refine (field3 _).mono ?_; rintro e w' ⟨rfl, rfl⟩) | (refine (with3 _ t _ h2 ht).mono ?_; rintro e w' ⟨rfl, rfl⟩))
  rw [rounds_succ]
  cases v
  · go_wp2
    go_ret2
    exact ⟨by rw [HW.out]; rfl, rfl⟩
  · go_wp2
    go_ret2
    exact ⟨by rfl, rfl⟩
end Go.Proofs.YtchpbdodlbghaaaGreatDoor

namespace Go.Proofs.YtchpbdodlbghaaaGreatDoor
open Go.RowKit Go.Lib
set_option maxRecDepth 100000

def El.fit (e : El) : Bool := (!decide (0 < e.p) || decide (0 < e.s)) && (!decide (0 < e.s) || decide (0 < e.t)) && (!e.v || decide (0 < e.p))
theorem rootL_fit : ∀ x ∈ rootL, ∀ e ∈ x.2, e.ok ∧ e.fit = true ∧ e.p < 64256 := by decide +kernel
theorem wtN_word (e : El) (h : e.ok) : wtN 1 e.word = e.p ∧ wtN 2 e.word = e.s ∧ wtN 3 e.word = e.t ∧ e.word % 2 = if e.v then 1 else 0 := by
  obtain ⟨p, s, t, v⟩ := e
  obtain ⟨h1, h2, h3⟩ := h
  simp only at h1 h2 h3
  unfold El.word
  cases v <;> simp [wtN] <;> omega
theorem and1 (x : Nat) (h : x < 4294967296) : bits .and .u32 (x : Int) 1 = ((x % 2 : Nat) : Int) := by
  rw [show (1 : Int) = ((1 : Nat) : Int) from rfl, u32_and_nat _ _ (by omega) (by omega)]
  congr 1
  exact Nat.and_one_is_mod x
theorem weight_el (level : Nat) (e : El) (w : World) (hl : level = 1 ∨ level = 2 ∨ level = 3) (h : e.ok) :
    Calls Tryz.prog 383 #[.int .u32 e.word, .int .i64 level] w fun r w' => r = .returned (.int .i64 ((e.wt level : Nat) : Int)) ∧ w = w' := by
  refine (weight_any level e.word w hl (e.word_lt h)).mono ?_
  rintro r w' ⟨rfl, rfl⟩
  obtain ⟨h1, h2, h3, _⟩ := wtN_word e h
  refine ⟨?_, rfl⟩
  rcases hl with rfl | rfl | rfl
  · rw [h1]; rfl
  · rw [h2]; rfl
  · rw [h3]; rfl
theorem variable_any (e : El) (w : World) (h : e.ok) : Calls Tryz.prog 478 #[.int .u32 e.word] w fun r w' => r = .returned (.bool e.v) ∧ w = w' := by
  have hw := e.word_lt h
  have hb := and1 e.word hw
  rw [(wtN_word e h).2.2.2] at hb
  generalize e.word = x at hb hw ⊢
  generalize e.v = v at hb ⊢
  cases v
  · rw [show (((if false = true then 1 else 0 : Nat) : Nat) : Int) = 0 from rfl] at hb
    go_enter Tryz.func478, Tryz.ntmps478
    go_wp2_with fail
    go_ret
    exact ⟨rfl, rfl⟩
  · rw [show (((if true = true then 1 else 0 : Nat) : Nat) : Int) = 1 from rfl] at hb
    go_enter Tryz.func478, Tryz.ntmps478
    go_wp2_with fail
    go_ret
    exact ⟨rfl, rfl⟩
set_option maxHeartbeats 4000000 in
theorem ok_any (e : El) (w : World) (h : e.ok) : Calls Tryz.prog 382 #[.int .u32 e.word] w fun r w' => r = .returned (.bool e.fit) ∧ w = w' := by
  have K1 : Hid (Calls Tryz.prog 383 #[.int .u32 e.word, .int .i64 1] w fun r w' => r = .returned (.int .i64 ((e.wt 1 : Nat) : Int)) ∧ w = w') := Lib.hid (weight_el 1 e w (.inl rfl) h)
  have K2 : Hid (Calls Tryz.prog 383 #[.int .u32 e.word, .int .i64 2] w fun r w' => r = .returned (.int .i64 ((e.wt 2 : Nat) : Int)) ∧ w = w') := Lib.hid (weight_el 2 e w (.inr (.inl rfl)) h)
  have K3 : Hid (Calls Tryz.prog 383 #[.int .u32 e.word, .int .i64 3] w fun r w' => r = .returned (.int .i64 ((e.wt 3 : Nat) : Int)) ∧ w = w') := Lib.hid (weight_el 3 e w (.inr (.inr rfl)) h)
  have KV := Lib.hid (variable_any e w h)
  have hf : e.fit = ((!decide (0 < ((e.wt 1 : Nat) : Int)) || decide (0 < ((e.wt 2 : Nat) : Int))) && (!decide (0 < ((e.wt 2 : Nat) : Int)) || decide (0 < ((e.wt 3 : Nat) : Int))) && (!e.v || decide (0 < ((e.wt 1 : Nat) : Int)))) := by
    simp [El.fit, El.wt]
  rw [hf]
  clear hf
  generalize ((e.wt 1 : Nat) : Int) = p at K1 ⊢
  generalize ((e.wt 2 : Nat) : Int) = s at K2 ⊢
  generalize ((e.wt 3 : Nat) : Int) = t at K3 ⊢
  generalize e.v = v at KV ⊢
  generalize ((e.word : Nat) : Int) = x at K1 K2 K3 KV ⊢
  cases hp : decide (0 < p) <;> cases hs : decide (0 < s) <;> cases ht : decide (0 < t) <;> cases v
  all_goals
    go_enter Tryz.func382, Tryz.ntmps382
    repeat (first | go_values | go_skip | go_guarded | go_step | go_upon)
    refine K1.out.mono ?_
    rintro r w1 ⟨rfl, rfl⟩
    go_simp
    repeat (first | go_values | go_skip | go_guarded | go_step | go_upon)
    refine K2.out.mono ?_
    rintro r w1 ⟨rfl, rfl⟩
    go_simp
    repeat (first | go_values | go_skip | go_guarded | go_step | go_upon)
    refine K3.out.mono ?_
    rintro r w1 ⟨rfl, rfl⟩
    go_simp
    repeat (first | go_values | go_skip | go_guarded | go_step | go_upon)
    try
      refine KV.out.mono ?_
      rintro r w1 ⟨rfl, rfl⟩
      go_simp
      repeat (first | go_values | go_skip | go_guarded | go_step | go_upon)
    go_ret
    exact ⟨rfl, rfl⟩
def El.good (e : El) : Prop := e.ok ∧ e.fit = true ∧ e.p < 64256
theorem notgood_any (e : El) (w : World) (h : e.good) : Calls Tryz.prog 381 #[.int .u32 e.word] w fun r w' => r = .returned (.bool false) ∧ w = w' := by
  obtain ⟨h1, h2, h3⟩ := h
  have K1 : Hid (Calls Tryz.prog 383 #[.int .u32 e.word, .int .i64 1] w fun r w' => r = .returned (.int .i64 ((e.wt 1 : Nat) : Int)) ∧ w = w') := Lib.hid (weight_el 1 e w (.inl rfl) h1)
  have KO := Lib.hid (ok_any e w h1)
  rw [h2] at KO
  have hd : decide (64256 ≤ ((e.wt 1 : Nat) : Int)) = false := by simp [El.wt]; omega
  generalize ((e.wt 1 : Nat) : Int) = p at K1 hd
  go_enter Tryz.func381, Tryz.ntmps381
  go_wp2_with (first | (refine K1.out.mono ?_; rintro e w' ⟨rfl, rfl⟩) | (refine KO.out.mono ?_; rintro e w' ⟨rfl, rfl⟩))
  go_ret
  exact ⟨rfl, rfl⟩
def wordsE (l : List El) : List Value := l.map fun e => .int .u32 (e.word : Int)
set_option maxHeartbeats 1000000 in
theorem indexEl_none (v : Value) (es : List El) (w : World) (hp : ReadsL w v (wordsE es)) (hlen : es.length ≤ 1000000) (hg : ∀ e ∈ es, e.good) :
    Calls Tryz.prog 477 #[v, .func (.func 381) #[] #[]] w fun e w' => e = .returned (.int .i64 (-1)) ∧ w = w' := by
  rcases hp with ⟨rfl, h0⟩ | ⟨g, c, rfl, hc, hcell⟩
  · have hes : es = [] := by simpa [wordsE] using h0
    subst hes
    go_enter Tryz.func477, Tryz.ntmps477
    go_wp2_with fail
    go_loopw [8] (fun i wr => i = .int .i64 0 ∧ w = wr) (fun _ _ => 0)
    case atStart => exact ⟨rfl, rfl⟩
    case round =>
      obtain ⟨rfl, rfl⟩ := hrel
      go_wp2_with fail
      go_ret
      exact ⟨rfl, rfl⟩
  · have hwl : (wordsE es).length = es.length := by simp [wordsE]
    rw [hwl] at hc ⊢
    have HC := Lib.hid (show ∀ k e, es[k]? = some e → w.cell? ⟨g, k, none⟩ = some (.int .u32 (e.word : Int)) from fun k e he => hcell k _ (by simp [wordsE, he]))
    have HG := Lib.hid hg
    clear hcell hg hwl
    go_enter Tryz.func477, Tryz.ntmps477
    go_wp2_with fail
    go_loopw [8] (fun i wr => ∃ k : Nat, k ≤ es.length ∧ i = .int .i64 k ∧ w = wr) (fun i _ => es.length - (intOf i).toNat)
    case atStart => exact ⟨0, Nat.zero_le _, rfl, rfl⟩
    case round =>
      obtain ⟨k, hk, rfl, rfl⟩ := hrel
      by_cases hlt : k < es.length
      · obtain ⟨e, he⟩ : ∃ e, es[k]? = some e := ⟨_, List.getElem?_eq_getElem hlt⟩
        have c1 := HC.out k e he
        have hge := HG.out e (List.mem_of_getElem? he)
        clear he
        go_wp2_with fail
        refine (notgood_any e _ hge).mono ?_
        rintro r w2 ⟨rfl, rfl⟩
        go_wp2_with fail
        go_roundw
        case rel => exact ⟨k + 1, by omega, by go_num, trivial⟩
        case measure => simp [intOf]; omega
      · obtain rfl : k = es.length := by omega
        go_wp2_with fail
        go_ret
        exact ⟨rfl, rfl⟩
theorem containsEl_none (v : Value) (es : List El) (w : World) (hp : ReadsL w v (wordsE es)) (hlen : es.length ≤ 1000000) (hg : ∀ e ∈ es, e.good) :
    Calls Tryz.prog 380 #[v, .func (.func 381) #[] #[]] w fun e w' => e = .returned (.bool false) ∧ w = w' := by
  have HC := Lib.hid (indexEl_none v es w hp hlen hg)
  clear hp hg
  go_enter Tryz.func380, Tryz.ntmps380
  go_wp2_with fail
  refine HC.out.mono ?_
  rintro e w2 ⟨rfl, rfl⟩
  go_wp2_with fail
  go_ret
  exact ⟨rfl, rfl⟩
end Go.Proofs.YtchpbdodlbghaaaGreatDoor
