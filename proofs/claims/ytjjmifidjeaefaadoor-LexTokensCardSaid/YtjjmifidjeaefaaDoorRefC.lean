/-
  The document's own lexer: texts, numbers, all words.
-/
import Derived.Test.YtjjmifidjeaefaaDoorRefB
import Derived.Test.YtjjmifidjeaefaaDoorPar
namespace Go.Proofs.YtjjmifidjeaefaaDoor
open Go.RowKit Go.Shelf
set_option maxRecDepth 100000

/-! ### Texts -/
def textV (at_ : Nat) : Option (Nat × List UInt8 × Int × Nat) → Value
  | none => .tuple #[.string ⟨#[]⟩, .int .i64 0, .bool false]
  | some x => .tuple #[.string ⟨x.2.1.toArray⟩, .int .i64 ((at_ + x.2.2.2 : Nat) : Int), .bool true]
theorem ext_one (s : ByteArray) (k : Nat) (h : k < s.size) : s.extract k (k + 1) = ⟨[s[k]'h].toArray⟩ := by
  have hd := bsl_drop_cons s k h
  apply ByteArray.ext
  apply Array.toList_inj.1
  rw [Lib.extract_data]
  show (((bsl s).drop k).take (k + 1 - k)) = _
  rw [hd]
  simp
theorem ba_append (a b : List UInt8) : (ByteArray.mk a.toArray) ++ ⟨b.toArray⟩ = ⟨(a ++ b).toArray⟩ := by
  apply ByteArray.ext; simp
set_option maxHeartbeats 2000000 in
theorem reftext2_any (s : ByteArray) (k : Nat) (w : World) (hs : s.size ≤ 4000) (hk : k < s.size) :
    Calls Tryd.prog 31 #[.string s, .int .i64 k] w fun e w' => e = .returned (textV k (textE ((bsl s).drop k))) ∧ w = w' := by
  go_enter Tryd.func31, Tryd.ntmps31
  go_wp2_with fail
  go_loop [7, 8] (fun o i => ∃ (n : Nat) (acc : List UInt8), i = .int .i64 ((k + n : Nat) : Int) ∧ k + n ≤ s.size + 1 ∧ o = .string ⟨acc.toArray⟩ ∧ TextAt ((bsl s).drop k) acc n) (fun _ i => s.size + 1 - (intOf i).toNat)
  case atStart => exact ⟨1, [], by go_num, by omega, rfl, TextAt.start _⟩
  case round =>
    obtain ⟨n, acc, rfl, hn, rfl, hT⟩ := hrel
    have hle := hT.len
    have HT := Lib.hid hT
    clear hT
    by_cases hlt : k + n < s.size
    · have hg := bsl_get s (k + n) hlt
      rw [← List.getElem?_drop] at hg
      have HG := Lib.hid hg
      clear hg
      by_cases h39 : s[k + n]'hlt = 39
      · have HQ := Lib.hid h39
        have e39 : (((s[k + n]'hlt).toNat : Int) != 39) = false := by rw [h39]; rfl
        clear h39
        by_cases hl2 : k + n + 1 < s.size
        · have hg2 : ((bsl s).drop k)[n + 1]? = some (s[k + n + 1]'hl2) := by
            rw [List.getElem?_drop, ← Nat.add_assoc]
            exact bsl_get s (k + n + 1) hl2
          have HG2 := Lib.hid hg2
          clear hg2
          by_cases h392 : s[k + n + 1]'hl2 = 39
          · have HQ2 := Lib.hid h392
            have e392 : (((s[k + n + 1]'hl2).toNat : Int) == 39) = true := by rw [h392]; rfl
            clear h392
            go_wp2_with fail
            case roundEnd =>
              refine ⟨⟨n + 2, acc ++ [39], by go_num, by omega, ?_, HT.out.twice (by rw [HG.out, HQ.out]) (by rw [HG2.out, HQ2.out])⟩, by simp [intOf]; omega⟩
              exact congrArg Value.string (ba_append acc [39])
          · have HQ2 := Lib.hid h392
            have e392 : (((s[k + n + 1]'hl2).toNat : Int) == 39) = false := by
              rw [beq_eq_false_iff_ne]
              intro h
              exact h392 (by rw [← UInt8.toNat_inj]; simpa using (by omega : (s[k + n + 1]'hl2).toNat = 39))
            clear h392
            go_wp2_with fail
            go_ret3
            exact ⟨by rw [HT.out.stop (by rw [HG.out, HQ.out]) (by rw [HG2.out]; exact fun h => HQ2.out (Option.some.inj h))]; rfl, rfl⟩
        · go_wp2_with fail
          go_ret3
          exact ⟨by rw [HT.out.stop (by rw [HG.out, HQ.out]) (by rw [List.getElem?_eq_none (by rw [List.length_drop, bsl_length]; omega)]; simp)]; rfl, rfl⟩
      · have HQ := Lib.hid h39
        have e39 : (((s[k + n]'hlt).toNat : Int) != 39) = true := by
          rw [bne_iff_ne]
          intro h
          exact h39 (by rw [← UInt8.toNat_inj]; simpa using (by omega : (s[k + n]'hlt).toNat = 39))
        clear h39
        go_wp2_with fail
        case roundEnd =>
          refine ⟨⟨n + 1, acc ++ [s[k + n]'hlt], by go_num, by omega, ?_, HT.out.plain HG.out HQ.out⟩, by simp [intOf]; omega⟩
          rw [ext_one s (k + n) hlt]
          exact congrArg Value.string (ba_append acc [s[k + n]'hlt])
    · go_wp2_with fail
      go_ret3
      exact ⟨by rw [HT.out.none (by rw [List.length_drop, bsl_length]; omega)]; rfl, rfl⟩

/-! ### Numbers -/
theorem num_le_take (l : List UInt8) (k : Nat) : Lx.num (l.take k) ≤ Lx.num l := by
  have h := num_append (l.take k) (l.drop k)
  rw [List.take_append_drop] at h
  rw [h]
  have : 1 ≤ 10 ^ (l.drop k).length := Nat.one_le_pow _ _ (by decide)
  have := Nat.le_mul_of_pos_right (Lx.num (l.take k)) this
  omega
theorem num_take_succ {s : ByteArray} {k : Nat} (h : k < s.size) : Lx.num ((bsl s).take (k + 1)) = Lx.num ((bsl s).take k) * 10 + ((s[k]'h).toNat - 48) := by
  rw [List.take_add_one, bsl_get s k h, num_append]
  simp [Lx.num]
def parseV (n : Nat) : Value := if n ≤ 9223372036854775807 then .tuple #[.int .i64 n, .int .i64 0] else .tuple #[.int .i64 0, .int .i64 17]
set_option maxHeartbeats 4000000 in
theorem refparse_any (s : ByteArray) (w : World) (hs : s.size ≤ 4000) (h0 : 0 < s.size) (hd : ∀ c ∈ bsl s, Lx.isDigit c = true) :
    Calls Tryd.prog 26 #[.string s] w fun e w' => e = .returned (parseV (Lx.num (bsl s))) ∧ w = w' := by
  have hdig : ∀ k, (h : k < s.size) → 48 ≤ (s[k]'h).toNat ∧ (s[k]'h).toNat ≤ 57 := by
    intro k h
    have := hd _ (List.mem_of_getElem? (bsl_get s k h))
    simp [Lx.isDigit, UInt8.le_iff_toNat_le] at this
    exact this
  have HD := Lib.hid hdig
  clear hdig hd
  have h45 : (((s[0]'h0).toNat : Int) == 45) = false := by
    have := HD.out 0 h0
    rw [beq_eq_false_iff_ne]; omega
  have hne : (s.toList == []) = false := by
    rw [ByteArray.toList_eq, beq_eq_false_iff_ne]
    intro h
    have := bsl_length s
    rw [bsl, h] at this
    simp at this
    omega
  go_enter Tryd.func26, Tryd.ntmps26
  go_wp2_with fail
  go_loop [5] (fun i => ∃ k : Nat, k ≤ s.size ∧ i = .int .i64 k) (fun i => s.size - (intOf i).toNat)
  case atStart => exact ⟨0, Nat.zero_le _, rfl⟩
  case round =>
    obtain ⟨k, hk, rfl⟩ := hrel
    by_cases hlt : k < s.size
    · obtain ⟨d1, d2⟩ := HD.out k hlt
      go_wp2_with fail
      go_round
      case rel => exact ⟨k + 1, by omega, by go_num⟩
      case measure => simp [intOf]; omega
    · go_wp2_with fail
      go_loop [6, 7] (fun x i => ∃ k : Nat, k ≤ s.size ∧ i = .int .i64 k ∧ x = .int .i64 (Lx.num ((bsl s).take k) : Nat) ∧ Lx.num ((bsl s).take k) ≤ 9223372036854775807) (fun _ i => s.size - (intOf i).toNat)
      case atStart => exact ⟨0, Nat.zero_le _, rfl, rfl, by simp [Lx.num]⟩
      case round =>
        obtain ⟨m, hm, rfl, rfl, hfit⟩ := hrel
        by_cases hmt : m < s.size
        · obtain ⟨d1, d2⟩ := HD.out m hmt
          have HS := Lib.hid (num_take_succ hmt)
          have HM := Lib.hid (num_le_take (bsl s) (m + 1))
          generalize Lx.num ((bsl s).take m) = x at hfit HS ⊢
          by_cases hmul : (x : Int) * 10 ≤ 9223372036854775807
          · by_cases hadd : (x : Int) * 10 + (((s[m]'hmt).toNat : Int) - 48) ≤ 9223372036854775807
            · have HI := Lib.hid hmul
              have HJ := Lib.hid hadd
              go_wp2_with fail
              refine (refmul_any _ w (by omega)).mono ?_
              rintro e w' ⟨rfl, rfl⟩
              rw [if_pos HI.out]
              go_wp2_with fail
              refine (refadd_any _ _ w (by omega) (by omega)).mono ?_
              rintro e w' ⟨rfl, rfl⟩
              rw [if_pos ⟨by omega, HJ.out⟩]
              go_wp2_with fail
              go_round
              case rel =>
                have := HS.out
                refine ⟨m + 1, by omega, by go_num, ?_, by omega⟩
                rw [this]
                go_num
              case measure => simp [intOf]; omega
            · have HI := Lib.hid hmul
              have HJ := Lib.hid hadd
              go_wp2_with fail
              refine (refmul_any _ w (by omega)).mono ?_
              rintro e w' ⟨rfl, rfl⟩
              rw [if_pos HI.out]
              go_wp2_with fail
              refine (refadd_any _ _ w (by omega) (by omega)).mono ?_
              rintro e w' ⟨rfl, rfl⟩
              rw [if_neg (by have := HJ.out; omega)]
              go_wp2_with fail
              go_ret2
              refine ⟨?_, rfl⟩
              have h1 := HS.out
              have h2 := HM.out
              rw [parseV, if_neg (by omega)]; rfl
          · have HI := Lib.hid hmul
            go_wp2_with fail
            refine (refmul_any _ w (by omega)).mono ?_
            rintro e w' ⟨rfl, rfl⟩
            rw [if_neg (by have := HI.out; omega)]
            go_wp2_with fail
            go_ret2
            refine ⟨?_, rfl⟩
            have h1 := HS.out
            have h2 := HM.out
            rw [parseV, if_neg (by omega)]; rfl
        · have e : (bsl s).take m = bsl s := List.take_of_length_le (by rw [bsl_length]; omega)
          rw [e] at hfit ⊢
          have HF := Lib.hid hfit
          clear e hfit
          go_wp2_with fail
          go_ret2
          exact ⟨by rw [parseV, if_pos HF.out]; rfl, rfl⟩
end Go.Proofs.YtjjmifidjeaefaaDoor
