/-
  As much may stand within one another as the bound says, and no more: for every number up to 40 of parentheses, functions, NOTs, minuses, casts or lists (umlautlaw18.ParseDeep).
-/
import Derived.Test.YtlhkmdchjklaeaaGreatDoorAwake18
import Derived.Test.YtlhkmdchjklaeaaGreatDoorDeepQ
import Derived.Test.YtlhkmdchjklaeaaGreatDoorDeepR
import Derived.Test.YtlhkmdchjklaeaaGreatDoorDeepS
namespace Go.Proofs.YtlhkmdchjklaeaaGreatDoor
open Go.RowKit Go.Lib
set_option maxRecDepth 100000

theorem deep_all (k n : Nat) (hk : k < 6) (hn : n < 40) : chkD k (n + 1) = true := by
  have h : chkK k 1 40 = true := by
    rcases (by omega : k = 0 ∨ k = 1 ∨ k = 2 ∨ k = 3 ∨ k = 4 ∨ k = 5) with rfl | rfl | rfl | rfl | rfl | rfl
    · exact deep_0
    · exact deep_1
    · exact deep_2
    · exact deep_3
    · exact deep_4
    · exact deep_5
  exact List.all_eq_true.1 h n (List.mem_range.2 hn)
theorem and_mask16d (n : Int) : bits BinOp.and IntKind.i64 n 65535 = n % 65536 := by
  have e : (BitVec.ofInt 64 n &&& BitVec.ofInt 64 65535).toNat = (n % 65536).toNat := by
    rw [BitVec.toNat_and]
    have h : (BitVec.ofInt 64 65535).toNat = 2 ^ 16 - 1 := by decide
    rw [h, Nat.and_two_pow_sub_one_eq_mod, BitVec.toNat_ofInt]
    omega
  show IntKind.i64.wrap ((BitVec.ofInt 64 n &&& BitVec.ofInt 64 65535).toNat : Int) = _
  rw [e, IntWalk.i64_in _ (by omega)]
  omega
theorem ba_appD (a b : List UInt8) : (⟨a.toArray⟩ : ByteArray) ++ ⟨b.toArray⟩ = ⟨(a ++ b).toArray⟩ := by
  apply ByteArray.ext
  simp
theorem pickD (a : Int) (q : Nat) (hq : 0 < q) : ∃ x : Nat, x < q ∧ (bits BinOp.and IntKind.i64 a 65535).tmod q = (x : Int) := by
  rw [and_mask16d, Int.tmod_eq_emod_of_nonneg (by omega)]
  have h1 := Int.emod_nonneg (a % 65536) (show (q : Int) ≠ 0 by omega)
  have h2 := Int.emod_lt_of_pos (a % 65536) (show (0 : Int) < q by omega)
  exact ⟨(a % 65536 % q).toNat, by omega, by omega⟩
theorem opn_at (k : Nat) (h : k < 6) : (#[.string ⟨#[40, 32]⟩, .string ⟨#[102, 32, 40, 32]⟩, .string ⟨#[78, 79, 84, 32]⟩, .string ⟨#[45, 32]⟩, .string ⟨#[67, 65, 83, 84, 32, 40, 32]⟩, .string ⟨#[49, 32, 73, 78, 32, 40, 32]⟩] : Array Value)[k]? = some (.string ⟨(opnD k).toArray⟩) := by
  rcases (by omega : k = 0 ∨ k = 1 ∨ k = 2 ∨ k = 3 ∨ k = 4 ∨ k = 5) with rfl | rfl | rfl | rfl | rfl | rfl <;> rfl
theorem end_at (k : Nat) (h : k < 6) : (#[.string ⟨#[32, 41]⟩, .string ⟨#[32, 41]⟩, .string ⟨#[]⟩, .string ⟨#[]⟩, .string ⟨#[32, 65, 83, 32, 73, 78, 84, 32, 41]⟩, .string ⟨#[32, 41]⟩] : Array Value)[k]? = some (.string ⟨(endD k).toArray⟩) := by
  rcases (by omega : k = 0 ∨ k = 1 ∨ k = 2 ∨ k = 3 ∨ k = 4 ∨ k = 5) with rfl | rfl | rfl | rfl | rfl | rfl <;> rfl
theorem rep_len (l : List UInt8) : ∀ n, (repD l n).length = l.length * n
  | 0 => by simp [repD]
  | n + 1 => by rw [repD, List.length_append, rep_len l n, Nat.mul_succ]
set_option maxHeartbeats 16000000 in
theorem law_deep (n kind : Int) (w : World) (hG : GlobL w) : Calls Tryz.prog 4 #[.int .i64 n, .int .i64 kind] w fun e w' => e = .returned (.bool true) ∧ Below w.heap.size w w' := by
  obtain ⟨m, hm, hmm⟩ := pickD n 40 (by decide)
  obtain ⟨k, hk, hkk⟩ := pickD kind 6 (by decide)
  replace hmm : (bits BinOp.and IntKind.i64 n 65535).tmod 40 = (m : Int) := hmm
  replace hkk : (bits BinOp.and IntKind.i64 kind 65535).tmod 6 = (k : Int) := hkk
  obtain ⟨N, hNN⟩ : ∃ N : Nat, N = m + 1 := ⟨_, rfl⟩
  have hN := (IntWalk.i64_in ((m : Int) + 1) (by omega)).trans (show (m : Int) + 1 = (N : Int) by omega)
  have hN2 := (IntWalk.wrap64_in ((m : Int) + 1) (by omega)).trans (show (m : Int) + 1 = (N : Int) by omega)
  obtain ⟨T, t, h1, h2, h3, h4, h5⟩ := chkD_facts (deep_all k m hk hm)
  rw [← hNN] at h1 h4 h5
  have hN40 : N ≤ 40 := by omega
  clear hNN
  have hbs : bsl ⟨(deS k N).toArray⟩ = deS k N := bsl_mk _
  have hsz : (⟨(deS k N).toArray⟩ : ByteArray).size = (deS k N).length := by simp [ByteArray.size]
  have KE := Lib.hid (fun W hG => expr_any ⟨(deS k N).toArray⟩ T 400 t (wantD k N) (errD N) (by rw [hsz]; exact h5) (by rw [hbs]; exact h1) h2 h3 W hG (by rw [hsz]; exact h4))
  have KA := Lib.hid (fun W hG => awake18_any W hG)
  have HG := Lib.hid hG
  clear hG h1 h2 h3 h4 h5 hbs hsz
  have hkI : (k : Int) < 6 := by omega
  have cO : (w.alloc (.cells #[.string ⟨#[40, 32]⟩, .string ⟨#[102, 32, 40, 32]⟩, .string ⟨#[78, 79, 84, 32]⟩, .string ⟨#[45, 32]⟩, .string ⟨#[67, 65, 83, 84, 32, 40, 32]⟩, .string ⟨#[49, 32, 73, 78, 32, 40, 32]⟩] 9)).cell? ⟨w.heap.size, k, none⟩ = some (.string ⟨(opnD k).toArray⟩) := by rw [(Blk.new w #[.string ⟨#[40, 32]⟩, .string ⟨#[102, 32, 40, 32]⟩, .string ⟨#[78, 79, 84, 32]⟩, .string ⟨#[45, 32]⟩, .string ⟨#[67, 65, 83, 84, 32, 40, 32]⟩, .string ⟨#[49, 32, 73, 78, 32, 40, 32]⟩] 9 rfl).cell, opn_at k hk]
  have cE : ((w.alloc (.cells #[.string ⟨#[40, 32]⟩, .string ⟨#[102, 32, 40, 32]⟩, .string ⟨#[78, 79, 84, 32]⟩, .string ⟨#[45, 32]⟩, .string ⟨#[67, 65, 83, 84, 32, 40, 32]⟩, .string ⟨#[49, 32, 73, 78, 32, 40, 32]⟩] 9)).alloc (.cells #[.string ⟨#[32, 41]⟩, .string ⟨#[32, 41]⟩, .string ⟨#[]⟩, .string ⟨#[]⟩, .string ⟨#[32, 65, 83, 32, 73, 78, 84, 32, 41]⟩, .string ⟨#[32, 41]⟩] 9)).cell? ⟨w.heap.size + 1, k, none⟩ = some (.string ⟨(endD k).toArray⟩) := by rw [(Blk.new (w.alloc (.cells #[.string ⟨#[40, 32]⟩, .string ⟨#[102, 32, 40, 32]⟩, .string ⟨#[78, 79, 84, 32]⟩, .string ⟨#[45, 32]⟩, .string ⟨#[67, 65, 83, 84, 32, 40, 32]⟩, .string ⟨#[49, 32, 73, 78, 32, 40, 32]⟩] 9)) #[.string ⟨#[32, 41]⟩, .string ⟨#[32, 41]⟩, .string ⟨#[]⟩, .string ⟨#[]⟩, .string ⟨#[32, 65, 83, 32, 73, 78, 84, 32, 41]⟩, .string ⟨#[32, 41]⟩] 9 (n := w.heap.size + 1) (by simp)).cell, end_at k hk]
  have hLo : (opnD k).length ≤ 7 := by
    rcases (by omega : k = 0 ∨ k = 1 ∨ k = 2 ∨ k = 3 ∨ k = 4 ∨ k = 5) with rfl | rfl | rfl | rfl | rfl | rfl <;> decide
  have hLe : (endD k).length ≤ 9 := by
    rcases (by omega : k = 0 ∨ k = 1 ∨ k = 2 ∨ k = 3 ∨ k = 4 ∨ k = 5) with rfl | rfl | rfl | rfl | rfl | rfl <;> decide
  have HX := Lib.hid (show Ext w ((w.alloc (.cells #[.string ⟨#[40, 32]⟩, .string ⟨#[102, 32, 40, 32]⟩, .string ⟨#[78, 79, 84, 32]⟩, .string ⟨#[45, 32]⟩, .string ⟨#[67, 65, 83, 84, 32, 40, 32]⟩, .string ⟨#[49, 32, 73, 78, 32, 40, 32]⟩] 9)).alloc (.cells #[.string ⟨#[32, 41]⟩, .string ⟨#[32, 41]⟩, .string ⟨#[]⟩, .string ⟨#[]⟩, .string ⟨#[32, 65, 83, 32, 73, 78, 84, 32, 41]⟩, .string ⟨#[32, 41]⟩] 9)) from ((Ext.refl w).alloc _).alloc _)
  unfold deS wantD errD at KE
  generalize opnD k = op at KE cO hLo
  generalize endD k = en at KE cE hLe
  go_enter Tryz.func4, Tryz.ntmps4
  go_simp
  repeat (first | go_values | go_skip | go_guarded | go_step | go_upon)
  generalize (w.alloc (.cells #[.string ⟨#[40, 32]⟩, .string ⟨#[102, 32, 40, 32]⟩, .string ⟨#[78, 79, 84, 32]⟩, .string ⟨#[45, 32]⟩, .string ⟨#[67, 65, 83, 84, 32, 40, 32]⟩, .string ⟨#[49, 32, 73, 78, 32, 40, 32]⟩] 9)).alloc (.cells #[.string ⟨#[32, 41]⟩, .string ⟨#[32, 41]⟩, .string ⟨#[]⟩, .string ⟨#[]⟩, .string ⟨#[32, 65, 83, 32, 73, 78, 84, 32, 41]⟩, .string ⟨#[32, 41]⟩] 9) = Wo at HX ⊢
  have HKK := Lib.hid hkk
  clear cO cE hN hN2 hmm hkk
  go_loopg [7, 8, 9] N (fun mm sv tv iv wr => ∃ i : Nat, i + mm = N ∧ iv = .int .i64 i ∧ sv = .string ⟨(repD op i).toArray⟩ ∧ tv = .string ⟨(repD en i).toArray⟩ ∧ Ext Wo wr)
  case atStart => exact ⟨0, by omega, rfl, rfl, rfl, Ext.refl _⟩
  case round =>
    obtain ⟨i, him, rfl, rfl, rfl, hxr⟩ := hrel
    have HXr := Lib.hid (Ext.trans HX.out hxr)
    have HXs := Lib.hid hxr
    have hro := rep_len op i
    have hre := rep_len en i
    have hb1 : op.length * i ≤ 7 * 40 := Nat.mul_le_mul hLo (by omega)
    have hb2 : en.length * i ≤ 9 * 40 := Nat.mul_le_mul hLe (by omega)
    rw [← hro] at hb1
    rw [← hre] at hb2
    clear hxr hro hre
    by_cases hlt : i < N
    · obtain ⟨mm, rfl⟩ : ∃ mm, gk = mm + 1 := ⟨gk - 1, by omega⟩
      have hltI : (i : Int) < (N : Int) := by omega
      have e1 : i + 1 + mm = N := by omega
      have e2 : mm < mm + 1 := by omega
      have hA1 : ¬ 9223372036854775807 < (repD op i).length + op.length := by omega
      have hA2 : ¬ 9223372036854775807 < (repD en i).length + en.length := by omega
      have hs1 := IntWalk.i64_in ((i : Int) + 1) (by omega)
      obtain ⟨S, hS⟩ : ∃ S, S = repD op i := ⟨_, rfl⟩
      obtain ⟨U, hU⟩ : ∃ U, U = repD en i := ⟨_, rfl⟩
      rw [← hS] at hA1 hb1 ⊢
      rw [← hU] at hA2 hb2 ⊢
      have HS := Lib.hid hS
      have HU := Lib.hid hU
      clear hS hU
      go_simp
      repeat (first | go_values | go_skip | go_guarded | go_step | go_upon)
      clear hs1
      go_roundg mm
      case measure => exact e2
      case rel =>
        refine ⟨i + 1, e1, rfl, ?_, ?_, HXs.out⟩
        · rw [repD, ← HS.out, ba_appD]
        · rw [repD, ← HU.out, ba_appD]
    · obtain rfl : i = N := by omega
      have hltI : ¬ (i : Int) < (i : Int) := by omega
      have hA1 : ¬ 9223372036854775807 < (repD op i).length + 1 := by omega
      have hA2 : ¬ 9223372036854775807 < (repD op i).length + 1 + (repD en i).length := by omega
      have hap : (⟨(repD op i).toArray⟩ : ByteArray) ++ ⟨#[97]⟩ ++ ⟨(repD en i).toArray⟩ = ⟨(repD op i ++ [97] ++ repD en i).toArray⟩ := by
        rw [show (⟨#[97]⟩ : ByteArray) = ⟨([97] : List UInt8).toArray⟩ from rfl, ba_appD, ba_appD]
      rw [← hap] at KE
      generalize repD op i = S at KE hA1 hA2 hb1 ⊢
      generalize repD en i = U at KE hA2 hb2 ⊢
      clear hap
      have hw1 := IntWalk.i64_in (24 * (op.length : Int)) (by omega)
      have hw2 := IntWalk.i64_in (24 * (op.length : Int) + 5) (by omega)
      have hkk := HKK.out
      go_simp
      repeat (first | go_values | go_skip | go_guarded | go_step | go_upon)
      refine Calls.mono (KE.out wr (HG.out.keep HXr.out)) ?_
      rintro e W2 ⟨v, rfl, hvt, hb3⟩
      have HX2 := Lib.hid (Ext.trans HXr.out hb3)
      clear hb3 hvt HXr HXs KE
      obtain ⟨vk, vo, vs, vt, vn, vla, vln, vlc⟩ := v
      simp only [PN.v]
      have hx3 : Ext W2 (W2.alloc (.cells #[.int .i64 vk, .int .i64 vo, .string vs, .string vt, .int .i64 vn, .slice vla vln vlc] 25)) := (Ext.refl W2).alloc _
      have HX3 := Lib.hid (Ext.trans HX2.out hx3)
      have KA3 := Lib.hid (KA.out _ (HG.out.keep HX3.out))
      clear hx3
      by_cases h24 : i ≤ 24
      · have h24I : (i : Int) ≤ 24 := by omega
        simp only [if_pos h24]
        go_simp
        repeat (first | go_values | go_skip | go_guarded | go_step | go_upon)
        refine Calls.mono KA3.out ?_
        rintro e W9 ⟨rfl, hb9⟩
        have HX9 := Lib.hid (Ext.trans HX3.out hb9)
        clear hb9
        go_simp
        repeat (first | go_values | go_skip | go_guarded | go_step | go_upon)
        go_returns
        exact ⟨rfl, HX9.out⟩
      · have h24I : ¬ (i : Int) ≤ 24 := by omega
        simp only [if_neg h24]
        by_cases h5 : k = 5
        · subst h5
          rw [if_pos rfl]
          go_simp
          repeat (first | go_values | go_skip | go_guarded | go_step | go_upon)
          refine Calls.mono KA3.out ?_
          rintro e W9 ⟨rfl, hb9⟩
          have HX9 := Lib.hid (Ext.trans HX3.out hb9)
          clear hb9
          go_simp
          repeat (first | go_values | go_skip | go_guarded | go_step | go_upon)
          go_returns
          exact ⟨rfl, HX9.out⟩
        · have h5b : ((k : Int) == 5) = false := by rw [beq_eq_false_iff_ne]; omega
          rw [if_neg h5]
          go_simp
          repeat (first | go_values | go_skip | go_guarded | go_step | go_upon)
          refine Calls.mono KA3.out ?_
          rintro e W9 ⟨rfl, hb9⟩
          have HX9 := Lib.hid (Ext.trans HX3.out hb9)
          clear hb9
          go_simp
          repeat (first | go_values | go_skip | go_guarded | go_step | go_upon)
          go_returns
          exact ⟨rfl, HX9.out⟩
end Go.Proofs.YtlhkmdchjklaeaaGreatDoor
