import Derived.Test.YtjjmifidjeaefaaDoorCuts
namespace Go.Proofs.YtjjmifidjeaefaaDoor
open Go.RowKit
theorem and_mask16 (n : Int) : bits BinOp.and IntKind.i64 n 65535 = n % 65536 := by
  have e : (BitVec.ofInt 64 n &&& BitVec.ofInt 64 65535).toNat = (n % 65536).toNat := by
    rw [BitVec.toNat_and]
    have h : (BitVec.ofInt 64 65535).toNat = 2 ^ 16 - 1 := by decide
    rw [h, Nat.and_two_pow_sub_one_eq_mod, BitVec.toNat_ofInt]
    omega
  show IntKind.i64.wrap ((BitVec.ofInt 64 n &&& BitVec.ofInt 64 65535).toNat : Int) = _
  rw [e, IntKind.wrap_i64]
  omega
set_option maxRecDepth 100000 in
set_option maxHeartbeats 1000000 in
theorem law_cuts (n l o : Int) (w : World) (hl : -9223372036854775808 ≤ l ∧ l ≤ 9223372036854775807) (ho : -9223372036854775808 ≤ o ∧ o ≤ 9223372036854775807) :
    Calls Tryd.prog 3 #[.int .i64 n, .int .i64 l, .int .i64 o] w fun e w' => e = .returned (.bool true) ∧ Below w.heap.size w w' := by
  go_enter Tryd.func3, Tryd.ntmps3
  go_wp2_with fail
  rw [and_mask16]
  obtain ⟨m, hm⟩ : ∃ m, n % 65536 = m := ⟨_, rfl⟩
  rw [hm]
  have h0 : 0 ≤ m := by omega
  have h1 : m ≤ 65535 := by omega
  have HM := Lib.hid hm
  clear hm
  refine (cut_any m l o w h0 h1 hl ho).mono ?_
  rintro e w' ⟨rfl, rfl⟩
  obtain ⟨a, ha⟩ : ∃ a, cutF m o = a := ⟨_, rfl⟩
  obtain ⟨b, hb⟩ : ∃ b, cutT m l o = b := ⟨_, rfl⟩
  have hab : 0 ≤ a ∧ (-1 ≤ l → -1 ≤ o → a ≤ b ∧ b ≤ m) := by
    subst ha hb
    simp only [cutF, cutT]
    constructor
    · split <;> (try split) <;> omega
    · intro h1 h2; repeat' split
      all_goals omega
  rw [ha, hb]
  have HA := Lib.hid ha
  have HB := Lib.hid hb
  clear ha hb
  go_wp2_with fail
  refine (refcut_any m l o w h0 h1 hl ho).mono ?_
  rintro e w' ⟨rfl, rfl⟩
  rw [HA.out, HB.out]
  obtain ⟨ha0, hab⟩ := hab
  by_cases hl2 : l < -1
  · go_wp2_with (go_at_call 12; refine (awake23 _).mono ?_; rintro e w' ⟨rfl, hbel⟩)
    all_goals (go_ret; exact ⟨rfl, by assumption⟩)
  · by_cases ho2 : o < -1
    · go_wp2_with (go_at_call 12; refine (awake23 _).mono ?_; rintro e w' ⟨rfl, hbel⟩)
      all_goals (go_ret; exact ⟨rfl, by assumption⟩)
    · obtain ⟨hab1, hab2⟩ := hab (by omega) (by omega)
      clear hab
      go_wp2_with (go_at_call 12; refine (awake23 _).mono ?_; rintro e w' ⟨rfl, hbel⟩)
      all_goals (go_ret; exact ⟨rfl, by assumption⟩)
end Go.Proofs.YtjjmifidjeaefaaDoor
