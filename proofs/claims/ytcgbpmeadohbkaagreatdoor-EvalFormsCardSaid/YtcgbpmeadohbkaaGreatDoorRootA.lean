import Derived.Lib.DecodeN
import Derived.WalkKit
import Derived.Test.YtcgbpmeadohbkaaGreatDoorProg
import Derived.Laws.Bits64b
import Derived.Laws.BitsAllLaws
import Derived.Outline
import Derived.WideKeyPair
import Derived.Test.YtcgbpmeadohbkaaGreatDoorGMap
import Derived.Test.YtcgbpmeadohbkaaGreatDoorOwn
import Derived.Test.YtcgbpmeadohbkaaGreatDoorPar
namespace Go.Proofs.YtcgbpmeadohbkaaGreatDoor
set_option maxRecDepth 100000
structure El where
 p : Nat
 s : Nat
 t : Nat
 v : Bool
deriving DecidableEq
def El.ok (e : El) : Prop := e.p < 65536 ∧ e.s < 256 ∧ e.t < 128
instance (e : El) : Decidable e.ok := by unfold El.ok; infer_instance
def El.word (e : El) : Nat := e.p * 65536 + e.s * 256 + e.t * 2 + (if e.v then 1 else 0)
def low (c : Nat) (t : Nat) : El := ⟨256 + 8 * c, 32, t, false⟩
def mk (s : Nat) : El := ⟨0, s, 2, false⟩
def marked (base c : Nat) (ms : List Nat) : List (Nat × List El) :=
 ms.zipIdx.flatMap fun (m, i) => [(base + i, [low c 8, mk m]), (base + i + 32, [low c 2, mk m])]
def rootL : List (Nat × List El) :=
 ([32, 95, 45, 44, 46, 39].zipIdx.map fun (c, i) => (c, [⟨16 + 4 * i, 32, 2, true⟩])) ++
 ((List.range 10).map fun i => (48 + i, [⟨128 + 4 * i, 32, 2, false⟩])) ++
 ((List.range 26).flatMap fun i => [(97 + i, [low i 2]), (65 + i, [low i 8])]) ++
 [(0x300, [mk 0x25]), (0x301, [mk 0x24]), (0x302, [mk 0x27]), (0x303, [mk 0x2d]), (0x304, [mk 0x2f]), (0x308, [mk 0x2b]), (0x30a, [mk 0x29]), (0x327, [mk 0x30])] ++
 marked 0xc0 0 [0x25, 0x24, 0x27, 0x2d, 0x2b, 0x29] ++ marked 0xc7 2 [0x30] ++ marked 0xc8 4 [0x25, 0x24, 0x27, 0x2b] ++
 marked 0xcc 8 [0x25, 0x24, 0x27, 0x2b] ++ marked 0xd1 13 [0x2d] ++ marked 0xd2 14 [0x25, 0x24, 0x27, 0x2d, 0x2b] ++
 marked 0xd9 20 [0x25, 0x24, 0x27, 0x2b] ++ marked 0xdd 24 [0x24] ++
 [(0xdf, [low 18 4, low 18 4]), (0xc6, [low 0 10, low 4 10]), (0xe6, [low 0 4, low 4 4]), (0xad, [])]
theorem rootL_length : rootL.length = 132 := by decide +kernel
theorem rootL_nodup : (rootL.map (·.1)).Nodup := by decide +kernel
theorem rootL_ok : ∀ x ∈ rootL, x.1 ≤ 1000 ∧ x.2.length ≤ 2 ∧ ∀ e ∈ x.2, e.ok := by decide +kernel
structure Chain {α : Type} (f : α → α → Int) : Prop where
 refl : ∀ x, f x x = 0
 swap : ∀ x y, f y x = -f x y
 vals : ∀ x y, f x y = -1 ∨ f x y = 0 ∨ f x y = 1
 eql : ∀ x y z, f x y = 0 → f x z = f y z
 trans : ∀ x y z, f x y = -1 → f y z = -1 → f x z = -1
theorem Chain.map {α β : Type} {f : α → α → Int} (h : Chain f) (g : β → α) : Chain fun x y => f (g x) (g y) :=
 ⟨fun _ => h.refl _, fun _ _ => h.swap _ _, fun _ _ => h.vals _ _, fun _ _ _ k => h.eql _ _ _ k, fun _ _ _ => h.trans _ _ _⟩
end Go.Proofs.YtcgbpmeadohbkaaGreatDoor
namespace Go.Proofs.YtcgbpmeadohbkaaGreatDoor
open Go.RowKit
set_option maxRecDepth 100000
theorem ret_u64 {a b : Int} (h : a = b) : Ending.returned (.int .u64 a) = .returned (.int .u64 b) := by rw [h]
theorem ret_u32 {a b : Int} (h : a = b) : Ending.returned (.int .u32 a) = .returned (.int .u32 b) := by rw [h]
theorem mask1 (w : World) : Calls Tryz.prog 291 #[.int .i64 16, .int .i64 16] w fun e w' => e = .returned (.int .u64 4294901760) ∧ w = w' := by
 go_enter Tryz.func291, Tryz.ntmps291
 go_wp2
 go_ret
 exact ⟨rfl, rfl⟩
theorem mask2 (w : World) : Calls Tryz.prog 291 #[.int .i64 8, .int .i64 8] w fun e w' => e = .returned (.int .u64 65280) ∧ w = w' := by
 go_enter Tryz.func291, Tryz.ntmps291
 go_wp2
 go_ret
 exact ⟨rfl, rfl⟩
theorem mask3 (w : World) : Calls Tryz.prog 291 #[.int .i64 1, .int .i64 7] w fun e w' => e = .returned (.int .u64 254) ∧ w = w' := by
 go_enter Tryz.func291, Tryz.ntmps291
 go_wp2
 go_ret
 exact ⟨rfl, rfl⟩
theorem setN_eq (x k m v : Nat) (hx : x < 2 ^ 64) (hv : v < 2 ^ m) (hkm : (2 ^ m - 1) * 2 ^ k < 2 ^ 64) (hk : k + m ≤ 64) :
 (x &&& (2 ^ 64 - ((2 ^ m - 1) * 2 ^ k + 1))) ||| (v * 2 ^ k &&& (2 ^ m - 1) * 2 ^ k) = x / 2 ^ (k + m) * 2 ^ (k + m) + (v * 2 ^ k + x % 2 ^ k) := by
 have h1 : v * 2 ^ k + x % 2 ^ k < 2 ^ (k + m) := by
  have : x % 2 ^ k < 2 ^ k := Nat.mod_lt _ (Nat.two_pow_pos k)
  have h2 : (v + 1) * 2 ^ k ≤ 2 ^ m * 2 ^ k := Nat.mul_le_mul_right _ hv
  rw [Nat.pow_add, Nat.mul_comm (2 ^ k)]
  rw [Nat.add_mul] at h2
  omega
 rw [Nat.mul_comm (x / 2 ^ (k + m)), Nat.two_pow_add_eq_or_of_lt h1, Nat.mul_comm v, Nat.two_pow_add_eq_or_of_lt (Nat.mod_lt _ (Nat.two_pow_pos k))]
 apply Nat.eq_of_testBit_eq
 intro i
 rw [Nat.testBit_or, Nat.testBit_and, Nat.testBit_two_pow_sub_succ hkm, Nat.testBit_and, Nat.testBit_or, Nat.testBit_or, Nat.testBit_mul_two_pow, Nat.testBit_two_pow_sub_one, Nat.testBit_mod_two_pow, Nat.mul_comm (2 ^ k) v, Nat.testBit_mul_two_pow, Nat.mul_comm (2 ^ (k + m)), Nat.testBit_mul_two_pow, Nat.testBit_div_two_pow]
 by_cases h64 : i < 64
 ·by_cases hki : k ≤ i
  ·by_cases hm : i < k + m
   ·simp [hki, h64, show ¬ k + m ≤ i by omega, show i - k < m by omega, show ¬ i < k by omega]
   ·have hvz : v.testBit (i - k) = false := Nat.testBit_lt_two_pow (Nat.lt_of_lt_of_le hv (Nat.pow_le_pow_right (by omega) (by omega)))
    simp [hki, h64, show k + m ≤ i by omega, show ¬ i - k < m by omega, show ¬ i < k by omega, hvz]
  ·simp [hki, h64, show ¬ k + m ≤ i by omega, show i < k by omega]
 ·have hxz : x.testBit i = false := Nat.testBit_lt_two_pow (Nat.lt_of_lt_of_le hx (Nat.pow_le_pow_right (by omega) (by omega)))
  by_cases hkm2 : k + m ≤ i
  ·have hvz : v.testBit (i - k) = false := Nat.testBit_lt_two_pow (Nat.lt_of_lt_of_le hv (Nat.pow_le_pow_right (by omega) (by omega)))
   simp [h64, hxz, hvz]
   intro _
   rw [Nat.sub_add_cancel hkm2]
   exact hxz
  ·omega
def setN (level x v : Nat) : Nat := if level = 1 then v * 65536 + x % 65536 else if level = 2 then x / 65536 * 65536 + (v * 256 + x % 256) else if level = 3 then x / 256 * 256 + (v * 2 + x % 2) else x
theorem set1_eq (x v : Nat) (hx : x < 4294967296) (hv : v < 65536) : bits .or .u64 (bits .andNot .u64 (x : Int) 4294901760) (bits .and .u64 ((v : Int) * 65536) 4294901760) = ((setN 1 x v : Nat) : Int) := by
 rw [show (4294901760 : Int) = ((4294901760 : Nat) : Int) from rfl, u64_andNot_nat _ _ (by omega) (by omega), show (v : Int) * 65536 = ((v * 65536 : Nat) : Int) by omega, bits_and_u64_nat _ _ (by omega) (by omega), bits_or_u64_nat _ _ (Nat.lt_of_le_of_lt Nat.and_le_left (by omega)) (Nat.lt_of_le_of_lt Nat.and_le_left (by omega))]
 have h := setN_eq x 16 16 v (by omega) (by omega) (by decide) (by decide)
 rw [show 2 ^ 64 - ((2 ^ 16 - 1) * 2 ^ 16 + 1) = 18446744073709551615 - 4294901760 from rfl, show (2 ^ 16 - 1) * 2 ^ 16 = 4294901760 from rfl] at h
 rw [show v * 65536 = v * 2 ^ 16 from rfl, h, Nat.div_eq_of_lt (show x < 2 ^ (16 + 16) from hx), Nat.zero_mul, Nat.zero_add]
 rfl
theorem set2_eq (x v : Nat) (hx : x < 4294967296) (hv : v < 256) : bits .or .u64 (bits .andNot .u64 (x : Int) 65280) (bits .and .u64 ((v : Int) * 256) 65280) = ((setN 2 x v : Nat) : Int) := by
 rw [show (65280 : Int) = ((65280 : Nat) : Int) from rfl, u64_andNot_nat _ _ (by omega) (by omega), show (v : Int) * 256 = ((v * 256 : Nat) : Int) by omega, bits_and_u64_nat _ _ (by omega) (by omega), bits_or_u64_nat _ _ (Nat.lt_of_le_of_lt Nat.and_le_left (by omega)) (Nat.lt_of_le_of_lt Nat.and_le_left (by omega))]
 have h := setN_eq x 8 8 v (by omega) (by omega) (by decide) (by decide)
 rw [show 2 ^ 64 - ((2 ^ 8 - 1) * 2 ^ 8 + 1) = 18446744073709551615 - 65280 from rfl, show (2 ^ 8 - 1) * 2 ^ 8 = 65280 from rfl] at h
 rw [show v * 256 = v * 2 ^ 8 from rfl, h]
 rfl
theorem set3_eq (x v : Nat) (hx : x < 4294967296) (hv : v < 128) : bits .or .u64 (bits .andNot .u64 (x : Int) 254) (bits .and .u64 ((v : Int) * 2) 254) = ((setN 3 x v : Nat) : Int) := by
 rw [show (254 : Int) = ((254 : Nat) : Int) from rfl, u64_andNot_nat _ _ (by omega) (by omega), show (v : Int) * 2 = ((v * 2 : Nat) : Int) by omega, bits_and_u64_nat _ _ (by omega) (by omega), bits_or_u64_nat _ _ (Nat.lt_of_le_of_lt Nat.and_le_left (by omega)) (Nat.lt_of_le_of_lt Nat.and_le_left (by omega))]
 have h := setN_eq x 1 7 v (by omega) (by omega) (by decide) (by decide)
 rw [show 2 ^ 64 - ((2 ^ 7 - 1) * 2 ^ 1 + 1) = 18446744073709551615 - 254 from rfl, show (2 ^ 7 - 1) * 2 ^ 1 = 254 from rfl] at h
 rw [show v * 2 = v * 2 ^ 1 from rfl, h]
 rfl
theorem set1 (x v : Nat) (w : World) (hx : x < 4294967296) (hv : v < 65536) : Calls Tryz.prog 245 #[.int .u64 x, .int .i64 16, .int .i64 16, .int .u64 v] w fun e w' => e = .returned (.int .u64 ((setN 1 x v : Nat) : Int)) ∧ w = w' := by
 have hb := set1_eq x v hx hv
 have HB := Lib.hid hb
 clear hb
 go_enter Tryz.func245, Tryz.ntmps245
 go_wp2_with (refine (mask1 _).mono ?_; rintro e w' ⟨rfl, rfl⟩)
 go_ret
 exact ⟨ret_u64 HB.out, rfl⟩
theorem set2 (x v : Nat) (w : World) (hx : x < 4294967296) (hv : v < 256) : Calls Tryz.prog 245 #[.int .u64 x, .int .i64 8, .int .i64 8, .int .u64 v] w fun e w' => e = .returned (.int .u64 ((setN 2 x v : Nat) : Int)) ∧ w = w' := by
 have hb := set2_eq x v hx hv
 have HB := Lib.hid hb
 clear hb
 go_enter Tryz.func245, Tryz.ntmps245
 go_wp2_with (refine (mask2 _).mono ?_; rintro e w' ⟨rfl, rfl⟩)
 go_ret
 exact ⟨ret_u64 HB.out, rfl⟩
theorem set3 (x v : Nat) (w : World) (hx : x < 4294967296) (hv : v < 128) : Calls Tryz.prog 245 #[.int .u64 x, .int .i64 1, .int .i64 7, .int .u64 v] w fun e w' => e = .returned (.int .u64 ((setN 3 x v : Nat) : Int)) ∧ w = w' := by
 have hb := set3_eq x v hx hv
 have HB := Lib.hid hb
 clear hb
 go_enter Tryz.func245, Tryz.ntmps245
 go_wp2_with (refine (mask3 _).mono ?_; rintro e w' ⟨rfl, rfl⟩)
 go_ret
 exact ⟨ret_u64 HB.out, rfl⟩
theorem field1 (w : World) : Calls Tryz.prog 210 #[.int .i64 1] w fun e w' => e = .returned (.tuple #[.int .i64 16, .int .i64 16]) ∧ w = w' := by
 go_enter Tryz.func210, Tryz.ntmps210
 go_wp2
 go_ret2
 exact ⟨rfl, rfl⟩
theorem field2 (w : World) : Calls Tryz.prog 210 #[.int .i64 2] w fun e w' => e = .returned (.tuple #[.int .i64 8, .int .i64 8]) ∧ w = w' := by
 go_enter Tryz.func210, Tryz.ntmps210
 go_wp2
 go_ret2
 exact ⟨rfl, rfl⟩
theorem field3 (w : World) : Calls Tryz.prog 210 #[.int .i64 3] w fun e w' => e = .returned (.tuple #[.int .i64 1, .int .i64 7]) ∧ w = w' := by
 go_enter Tryz.func210, Tryz.ntmps210
 go_wp2
 go_ret2
 exact ⟨rfl, rfl⟩
theorem with1 (x v : Nat) (w : World) (hx : x < 4294967296) (hv : v < 65536) : Calls Tryz.prog 211 #[.int .u32 x, .int .i64 1, .int .i64 v] w fun e w' => e = .returned (.int .u32 ((setN 1 x v : Nat) : Int)) ∧ w = w' := by
 have hs : setN 1 x v < 4294967296 := by rw [show setN 1 x v = v * 65536 + x % 65536 from rfl]; omega
 go_enter Tryz.func211, Tryz.ntmps211
 go_wp2_with (first | (refine (field1 _).mono ?_; rintro e w' ⟨rfl, rfl⟩) | (refine (set1 _ _ _ hx hv).mono ?_; rintro e w' ⟨rfl, rfl⟩))
 go_ret
 exact ⟨ret_u32 (by omega), rfl⟩
theorem with2 (x v : Nat) (w : World) (hx : x < 4294967296) (hv : v < 256) : Calls Tryz.prog 211 #[.int .u32 x, .int .i64 2, .int .i64 v] w fun e w' => e = .returned (.int .u32 ((setN 2 x v : Nat) : Int)) ∧ w = w' := by
 have hs : setN 2 x v < 4294967296 := by rw [show setN 2 x v = x / 65536 * 65536 + (v * 256 + x % 256) from rfl]; omega
 go_enter Tryz.func211, Tryz.ntmps211
 go_wp2_with (first | (refine (field2 _).mono ?_; rintro e w' ⟨rfl, rfl⟩) | (refine (set2 _ _ _ hx hv).mono ?_; rintro e w' ⟨rfl, rfl⟩))
 go_ret
 exact ⟨ret_u32 (by omega), rfl⟩
theorem with3 (x v : Nat) (w : World) (hx : x < 4294967296) (hv : v < 128) : Calls Tryz.prog 211 #[.int .u32 x, .int .i64 3, .int .i64 v] w fun e w' => e = .returned (.int .u32 ((setN 3 x v : Nat) : Int)) ∧ w = w' := by
 have hs : setN 3 x v < 4294967296 := by rw [show setN 3 x v = x / 256 * 256 + (v * 2 + x % 2) from rfl]; omega
 go_enter Tryz.func211, Tryz.ntmps211
 go_wp2_with (first | (refine (field3 _).mono ?_; rintro e w' ⟨rfl, rfl⟩) | (refine (set3 _ _ _ hx hv).mono ?_; rintro e w' ⟨rfl, rfl⟩))
 go_ret
 exact ⟨ret_u32 (by omega), rfl⟩
theorem wordOf (p s t : Nat) (_hs : s < 256) (_ht : t < 128) : setN 3 (setN 2 (setN 1 0 p) s) t = p * 65536 + s * 256 + t * 2 := by
 simp only [setN, if_true]
 simp
 omega
theorem or1 (x : Nat) (h : x < 4294967296) (he : x % 2 = 0) : bits .or .u32 (x : Int) 1 = ((x + 1 : Nat) : Int) := by
 rw [show (1 : Int) = ((1 : Nat) : Int) from rfl, u32_or_nat _ _ (by omega) (by omega)]
 congr 1
 have := Nat.two_pow_add_eq_or_of_lt (show 1 < 2 ^ 1 by decide) (x / 2)
 rw [show 2 ^ 1 * (x / 2) = x by omega] at this
 exact this.symm
theorem make_any (e : El) (w : World) (he : e.ok) : Calls Tryz.prog 170 #[.int .i64 e.p, .int .i64 e.s, .int .i64 e.t, .bool e.v] w fun r w' => r = .returned (.tuple #[.int .u32 e.word, .int .i64 0]) ∧ w = w' := by
 obtain ⟨p, s, t, v⟩ := e
 obtain ⟨hp, hs, ht⟩ := he
 simp only at hp hs ht
 have h1 : setN 1 0 p < 4294967296 := by rw [show setN 1 0 p = p * 65536 + 0 % 65536 from rfl]; omega
 have h2 : setN 2 (setN 1 0 p) s < 4294967296 := by rw [show setN 2 (setN 1 0 p) s = (p * 65536 + 0 % 65536) / 65536 * 65536 + (s * 256 + (p * 65536 + 0 % 65536) % 256) from rfl]; omega
 have hw := wordOf p s t hs ht
 have HW := Lib.hid hw
 have hor : bits .or .u32 ((setN 3 (setN 2 (setN 1 0 p) s) t : Nat) : Int) 1 = ((p * 65536 + s * 256 + t * 2 + 1 : Nat) : Int) := by rw [hw]; exact or1 _ (by omega) (by omega)
 clear hw
 have ha : ∀ W, (Instr.index 151 (.agg #[.int .i64 p, .int .i64 s, .int .i64 t]) (.int .i64 0)).run Tryz.prog W = .ok (.int .i64 p) W := fun _ => by kernel_rfl
 have hb : ∀ W, (Instr.index 151 (.agg #[.int .i64 p, .int .i64 s, .int .i64 t]) (.int .i64 1)).run Tryz.prog W = .ok (.int .i64 s) W := fun _ => by kernel_rfl
 have hc : ∀ W, (Instr.index 151 (.agg #[.int .i64 p, .int .i64 s, .int .i64 t]) (.int .i64 2)).run Tryz.prog W = .ok (.int .i64 t) W := fun _ => by kernel_rfl
 show Calls _ _ #[.int .i64 p, .int .i64 s, .int .i64 t, .bool v] _ _
 rw [show (El.mk p s t v).word = p * 65536 + s * 256 + t * 2 + (if v then 1 else 0) from rfl]
 go_enter Tryz.func170, Tryz.ntmps170
 go_wp2
 refine wp_loop_rounds 4 ?_
 rw [rounds_succ]
 go_wp2_with (first | (refine (field1 _).mono ?_; rintro e w' ⟨rfl, rfl⟩) | (refine (with1 0 p _ (by omega) hp).mono ?_; rintro e w' ⟨rfl, rfl⟩))
 rw [rounds_succ]
 go_wp2_with (first | (refine (field2 _).mono ?_; rintro e w' ⟨rfl, rfl⟩) | (refine (with2 _ s _ h1 hs).mono ?_; rintro e w' ⟨rfl, rfl⟩))
 rw [rounds_succ]
 go_wp2_with (first | (refine (field3 _).mono ?_; rintro e w' ⟨rfl, rfl⟩) | (refine (with3 _ t _ h2 ht).mono ?_; rintro e w' ⟨rfl, rfl⟩))
 rw [rounds_succ]
 cases v
 ·go_wp2
  go_ret2
  exact ⟨by rw [HW.out]; rfl, rfl⟩
 ·go_wp2
  go_ret2
  exact ⟨by rfl, rfl⟩
end Go.Proofs.YtcgbpmeadohbkaaGreatDoor
namespace Go.Proofs.YtcgbpmeadohbkaaGreatDoor
open Go.RowKit Go.Lib
set_option maxRecDepth 100000
end Go.Proofs.YtcgbpmeadohbkaaGreatDoor
namespace Go.Proofs.YtcgbpmeadohbkaaGreatDoor
open Go.RowKit
set_option maxRecDepth 100000
theorem mapM_some' {α β : Type} {f : α → Option β} {g : α → β} : ∀ {l : List α}, (∀ i ∈ l, f i = some (g i)) → l.mapM f = some (l.map g)
 | [], _ => rfl
 | a :: l, h => by
  rw [List.mapM_cons, h a (List.mem_cons_self ..), mapM_some' (fun i hi => h i (List.mem_cons_of_mem _ hi))]
  rfl
theorem keyOk_ints {P : Program} {k e : TypeId} {q : IntKind} {n : Nat} (A : WideMaps.ArrKey P k e n) (he : P.underlying e = some (.int q)) (hsz : ∃ m, P.types.size = m + 1) (xs : List Int) (hn : xs.length = n) (hw : ∀ x ∈ xs, (Lit.int q x).wf = true) :
 KeyOk P k (.agg (xs.map (Value.int q)).toArray) := by
 have hkt := A.keyType hsz
 obtain ⟨m, hm⟩ := hsz
 unfold KeyOk keyOf
 simp only [A.hu]
 rw [if_pos (by simp [hkt, Value.formed, A.hu, A.size, hn]), hm]
 unfold Program.keyLits
 simp only [A.hu, Value.cells]
 rw [if_pos (by simp [A.size, hn])]
 rw [mapM_some' (g := fun i => [Lit.int q (xs.getD i 0)]) (fun i hi => by
  have hi : i < n := List.mem_range.1 hi
  rw [A.one, Nat.mul_one]
  have h1 : ((xs.map (Value.int q)).toArray.toList.drop i).take 1 = [.int q (xs.getD i 0)] := by
   apply List.ext_getElem?
   intro j
   rw [List.getElem?_take, List.getElem?_drop]
   cases j with
   | zero => simp [List.getD_eq_getElem?_getD, List.getElem?_eq_getElem (show i < xs.length by omega)]
   | succ j => simp
  rw [h1]
  unfold Program.keyLits
  rw [he]
  have h2 : (Lit.int q (xs.getD i 0)).wf = true := hw _ (by
   rw [List.getD_eq_getElem?_getD, List.getElem?_eq_getElem (show i < xs.length by omega)]
   exact List.getElem_mem _)
  simp only [and_self, h2, if_true])]
 exact ⟨_, rfl⟩
theorem arrSeq : WideMaps.ArrKey Tryz.prog 152 3 3 := ⟨Tryz.underlying152, by kernel_rfl, by kernel_rfl, by kernel_rfl⟩
theorem typesSize : ∃ m, Tryz.prog.types.size = m + 1 := ⟨Tryz.prog.types.size - 1, by kernel_rfl⟩
theorem keyedSeq : Maps.Keyed Tryz.prog 152 := Maps.Keyed.of_law arrSeq.law
def kS (c : Nat) : Value := .agg #[.int .i64 ((c : Int) + 1), .int .i64 0, .int .i64 0]
theorem kS_inj {c d : Nat} (h : kS c = kS d) : c = d := by
 simp only [kS, Value.agg.injEq, Array.mk.injEq, List.cons.injEq, Value.int.injEq, and_true, true_and] at h
 omega
theorem keySeq (c : Nat) (h : c ≤ 1114367) : KeyOk Tryz.prog 152 (kS c) :=
 keyOk_ints arrSeq Tryz.underlying3 typesSize [(c : Int) + 1, 0, 0] rfl (fun x hx => by
  have : x = (c : Int) + 1 ∨ x = 0 := by simpa using hx
  simp [Lit.wf, IntKind.min, IntKind.max, IntKind.bits, IntKind.signed]
  omega)
def wordsV (l : List El) : List Value := l.map fun e => .int .u32 (e.word : Int)
def RootTo (w : World) (b n : Nat) : Prop :=
 ∃ L : List (Value × Value), GMap Tryz.prog 152 w b L ∧ L.length = n ∧ n ≤ rootL.length ∧
  ∀ i c es, i < n → rootL[i]? = some (c, es) → ∃ v, L[i]? = some (kS c, v) ∧ ReadsL w v (wordsV es)
theorem RootTo.ext {w w' : World} {b n : Nat} (h : RootTo w b n) (hx : Ext w w') : RootTo w' b n := by
 obtain ⟨L, h1, h2, h3, h4⟩ := h
 refine ⟨L, h1.keep hx, h2, h3, fun i c es hi hr => ?_⟩
 obtain ⟨v, h5, h6⟩ := h4 i c es hi hr
 exact ⟨v, h5, h6.ext hx⟩
theorem RootTo.lt {w : World} {b n : Nat} (h : RootTo w b n) : b < w.heap.size := by
 obtain ⟨L, h1, _⟩ := h
 exact h1.lt
theorem ReadsL.grown {w w' : World} {v : Value} {xs : List Value} {b : Nat} (h : ReadsL w v xs) (hg : w.grownBy w' (some b)) (hm : ∀ c t f, w.heap[b]? ≠ some (.cells c t f)) : ReadsL w' v xs := by
 rcases h with h | ⟨g, c, rfl, h1, h2⟩
 ·exact .inl h
 ·refine .inr ⟨g, c, rfl, h1, fun j u hu => hg.cell (h2 j u hu) ?_⟩
  intro e
  have e : g = b := Option.some.inj e
  subst e
  have hc := h2 j u hu
  unfold World.cell? at hc
  cases hh : w.heap[g]? with
  | none => simp [hh] at hc
  | some o => cases o <;> first | exact hm _ _ _ hh | simp [hh] at hc
theorem GMap.nocells {P : Program} {k : TypeId} {w : World} {b : Nat} {l : List (Value × Value)} (h : GMap P k w b l) : ∀ c t f, w.heap[b]? ≠ some (.cells c t f) := by
 obtain ⟨es, c, h1, _⟩ := h.ex
 intro c t f
 rw [h1]
 simp
theorem of_any (p s t : Nat) (v : Bool) (w : World) (he : (El.mk p s t v).ok) : Calls Tryz.prog 98 #[.int .i64 p, .int .i64 s, .int .i64 t, .bool v] w fun r w' => r = .returned (.int .u32 ((El.mk p s t v).word : Int)) ∧ w = w' := by
 go_enter Tryz.func98, Tryz.ntmps98
 go_wp2_with (refine (make_any ⟨p, s, t, v⟩ _ he).mono ?_; rintro e w' ⟨rfl, rfl⟩)
 go_ret
 exact ⟨rfl, rfl⟩
theorem letter_any (c t : Nat) (w : World) (hc : c < 26) (ht : t < 128) : Calls Tryz.prog 99 #[.int .i32 (97 + (c : Int)), .int .i64 t] w fun r w' => r = .returned (.int .u32 ((low c t).word : Int)) ∧ w = w' := by
 have hok : (El.mk (256 + 8 * c) 32 t false).ok := by
  refine ⟨?_, ?_, ht⟩
  ·show 256 + 8 * c < 65536
   omega
  ·exact (by decide : 32 < 256)
 have hk := of_any (256 + 8 * c) 32 t false w hok
 simp only [Int.natCast_add, Int.natCast_mul, Int.cast_ofNat_Int] at hk
 have HK := Lib.hid hk
 clear hk
 go_enter Tryz.func99, Tryz.ntmps99
 go_wp2_with fail
 rw [show (256 : Int) + 8 * (97 + (c : Int) - 97) = 256 + 8 * (c : Int) by omega]
 refine HK.out.mono ?_
 rintro e w' ⟨rfl, rfl⟩
 go_wp2_with fail
 go_ret
 exact ⟨rfl, rfl⟩
theorem mark0 (w : World) : Calls Tryz.prog 100 #[.int .i64 768] w fun r w' => r = .returned (.int .u32 ((mk 37).word : Int)) ∧ w = w' := by
 have i0 : ∀ W, (Instr.index 202 (.agg #[.int .i64 37, .int .i64 36, .int .i64 39, .int .i64 45, .int .i64 47]) (.int .i64 0)).run Tryz.prog W = .ok (.int .i64 37) W := fun _ => by kernel_rfl
 go_enter Tryz.func100, Tryz.ntmps100
 go_wp2_with fail
 refine (of_any 0 37 2 false _ (by decide)).mono ?_
 rintro e w' ⟨rfl, rfl⟩
 go_wp2_with fail
 go_ret
 exact ⟨rfl, rfl⟩
theorem mark1 (w : World) : Calls Tryz.prog 100 #[.int .i64 769] w fun r w' => r = .returned (.int .u32 ((mk 36).word : Int)) ∧ w = w' := by
 have i0 : ∀ W, (Instr.index 202 (.agg #[.int .i64 37, .int .i64 36, .int .i64 39, .int .i64 45, .int .i64 47]) (.int .i64 1)).run Tryz.prog W = .ok (.int .i64 36) W := fun _ => by kernel_rfl
 go_enter Tryz.func100, Tryz.ntmps100
 go_wp2_with fail
 refine (of_any 0 36 2 false _ (by decide)).mono ?_
 rintro e w' ⟨rfl, rfl⟩
 go_wp2_with fail
 go_ret
 exact ⟨rfl, rfl⟩
theorem mark2 (w : World) : Calls Tryz.prog 100 #[.int .i64 770] w fun r w' => r = .returned (.int .u32 ((mk 39).word : Int)) ∧ w = w' := by
 have i0 : ∀ W, (Instr.index 202 (.agg #[.int .i64 37, .int .i64 36, .int .i64 39, .int .i64 45, .int .i64 47]) (.int .i64 2)).run Tryz.prog W = .ok (.int .i64 39) W := fun _ => by kernel_rfl
 go_enter Tryz.func100, Tryz.ntmps100
 go_wp2_with fail
 refine (of_any 0 39 2 false _ (by decide)).mono ?_
 rintro e w' ⟨rfl, rfl⟩
 go_wp2_with fail
 go_ret
 exact ⟨rfl, rfl⟩
theorem mark3 (w : World) : Calls Tryz.prog 100 #[.int .i64 771] w fun r w' => r = .returned (.int .u32 ((mk 45).word : Int)) ∧ w = w' := by
 have i0 : ∀ W, (Instr.index 202 (.agg #[.int .i64 37, .int .i64 36, .int .i64 39, .int .i64 45, .int .i64 47]) (.int .i64 3)).run Tryz.prog W = .ok (.int .i64 45) W := fun _ => by kernel_rfl
 go_enter Tryz.func100, Tryz.ntmps100
 go_wp2_with fail
 refine (of_any 0 45 2 false _ (by decide)).mono ?_
 rintro e w' ⟨rfl, rfl⟩
 go_wp2_with fail
 go_ret
 exact ⟨rfl, rfl⟩
theorem mark4 (w : World) : Calls Tryz.prog 100 #[.int .i64 772] w fun r w' => r = .returned (.int .u32 ((mk 47).word : Int)) ∧ w = w' := by
 have i0 : ∀ W, (Instr.index 202 (.agg #[.int .i64 37, .int .i64 36, .int .i64 39, .int .i64 45, .int .i64 47]) (.int .i64 4)).run Tryz.prog W = .ok (.int .i64 47) W := fun _ => by kernel_rfl
 go_enter Tryz.func100, Tryz.ntmps100
 go_wp2_with fail
 refine (of_any 0 47 2 false _ (by decide)).mono ?_
 rintro e w' ⟨rfl, rfl⟩
 go_wp2_with fail
 go_ret
 exact ⟨rfl, rfl⟩
theorem mark5 (w : World) : Calls Tryz.prog 100 #[.int .i64 776] w fun r w' => r = .returned (.int .u32 ((mk 43).word : Int)) ∧ w = w' := by
 go_enter Tryz.func100, Tryz.ntmps100
 go_wp2_with fail
 refine (of_any 0 43 2 false _ (by decide)).mono ?_
 rintro e w' ⟨rfl, rfl⟩
 go_wp2_with fail
 go_ret
 exact ⟨rfl, rfl⟩
theorem mark6 (w : World) : Calls Tryz.prog 100 #[.int .i64 778] w fun r w' => r = .returned (.int .u32 ((mk 41).word : Int)) ∧ w = w' := by
 go_enter Tryz.func100, Tryz.ntmps100
 go_wp2_with fail
 refine (of_any 0 41 2 false _ (by decide)).mono ?_
 rintro e w' ⟨rfl, rfl⟩
 go_wp2_with fail
 go_ret
 exact ⟨rfl, rfl⟩
theorem mark7 (w : World) : Calls Tryz.prog 100 #[.int .i64 807] w fun r w' => r = .returned (.int .u32 ((mk 48).word : Int)) ∧ w = w' := by
 go_enter Tryz.func100, Tryz.ntmps100
 go_wp2_with fail
 refine (of_any 0 48 2 false _ (by decide)).mono ?_
 rintro e w' ⟨rfl, rfl⟩
 go_wp2_with fail
 go_ret
 exact ⟨rfl, rfl⟩
theorem mark_any (c s : Nat) (w : World) (h : (c, s) ∈ [(768, 37), (769, 36), (770, 39), (771, 45), (772, 47), (776, 43), (778, 41), (807, 48)]) :
 Calls Tryz.prog 100 #[.int .i64 c] w fun r w' => r = .returned (.int .u32 ((mk s).word : Int)) ∧ w = w' := by
 simp only [List.mem_cons, Prod.mk.injEq, List.not_mem_nil, or_false] at h
 rcases h with ⟨rfl, rfl⟩ | ⟨rfl, rfl⟩ | ⟨rfl, rfl⟩ | ⟨rfl, rfl⟩ | ⟨rfl, rfl⟩ | ⟨rfl, rfl⟩ | ⟨rfl, rfl⟩ | ⟨rfl, rfl⟩
 ·exact mark0 w
 ·exact mark1 w
 ·exact mark2 w
 ·exact mark3 w
 ·exact mark4 w
 ·exact mark5 w
 ·exact mark6 w
 ·exact mark7 w
set_option maxHeartbeats 1000000 in
theorem put_any (b q n c : Nat) (es : List El) (v : Value) (w : World) (hq : w.cell? ⟨q, 0, none⟩ = some (.map (some b))) (h : RootTo w b n) (hn : rootL[n]? = some (c, es)) (hv : ReadsL w v (wordsV es)) :
 Calls Tryz.prog 97 #[.int .i64 c, v, .pointer (some ⟨q, 0, none⟩)] w fun e w' => e = .returned (.tuple #[]) ∧ RootTo w' b (n + 1) ∧ w.grownBy w' (some b) ∧ w'.heap.size = w.heap.size := by
 obtain ⟨L, h1, h2, h3, h4⟩ := h
 have hc : c ≤ 1000 := (rootL_ok (c, es) (List.mem_of_getElem? hn)).1
 have HH := Lib.hid (show ∀ w', GMap Tryz.prog 152 w' b (L ++ [(kS c, v)]) → w.grownBy w' (some b) → RootTo w' b (n + 1) from fun w' g1 g2 => by
  refine ⟨_, g1, by simp [h2], (List.getElem?_eq_some_iff.1 hn).1, fun i d ds hi hr => ?_⟩
  rcases Nat.lt_or_ge i n with hlt | hge
  ·obtain ⟨u, h5, h6⟩ := h4 i d ds hlt hr
   exact ⟨u, by rw [List.getElem?_append_left (by omega)]; exact h5, h6.grown g2 h1.nocells⟩
  ·obtain rfl : i = n := by omega
   rw [hn] at hr
   obtain ⟨rfl, rfl⟩ := Prod.mk.inj (Option.some.inj hr)
   exact ⟨v, by rw [List.getElem?_append_right (by omega)]; simp [h2], hv.grown g2 h1.nocells⟩)
 have HN := Lib.hid (show ∀ p ∈ L, p.1 ≠ kS c from by
  intro p hp he
  obtain ⟨i, hi, rfl⟩ := List.getElem_of_mem hp
  have hr : rootL[i]? = some rootL[i] := List.getElem?_eq_getElem (by omega)
  obtain ⟨u, h5, _⟩ := h4 i _ _ (by omega) hr
  rw [List.getElem?_eq_getElem hi] at h5
  have h6 := Option.some.inj h5
  rw [h6] at he
  have h7 : rootL[i].1 = c := kS_inj he
  have hp := rootL_nodup
  rw [List.Nodup, List.pairwise_map] at hp
  have h8 := List.pairwise_iff_getElem.1 hp i n (by omega) (List.getElem?_eq_some_iff.1 hn).1 (by omega)
  rw [(List.getElem?_eq_some_iff.1 hn).2] at h8
  exact h8 h7)
 have H1 := Lib.hid h1
 have HQ := Lib.hid (keySeq c (by omega))
 clear h1 h2 h3 h4 hv hn
 go_enter Tryz.func97, Tryz.ntmps97
 go_wp2_with (at_mapUpdate; refine wpList_gput rfl _ _ _ _ rfl _ _ keyedSeq Tryz.underlying149 b L rfl H1.out HQ.out HN.out ?_; intro w1 g1 g2 g3)
 go_end0
 exact ⟨rfl, HH.out _ g1 g2, g2, g3⟩
end Go.Proofs.YtcgbpmeadohbkaaGreatDoor
