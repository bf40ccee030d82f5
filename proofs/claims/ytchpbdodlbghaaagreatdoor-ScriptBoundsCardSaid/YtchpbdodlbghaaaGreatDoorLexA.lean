import Derived.Test.YtchpbdodlbghaaaGreatDoorProg
import Derived.Test.YtchpbdodlbghaaaGreatDoorBase
import Derived.Test.YtchpbdodlbghaaaGreatDoorLx
namespace Go.Proofs.YtchpbdodlbghaaaGreatDoor
open Go.RowKit
set_option maxRecDepth 100000

theorem ret_bool {a b : Bool} (h : a = b) : Ending.returned (.bool a) = .returned (.bool b) := by rw [h]
theorem u8_all {p : UInt8 → Prop} (h : ∀ n : Fin 256, p (UInt8.ofNat n.val)) (c : UInt8) : p c := by
  have := h ⟨c.toNat, c.toNat_lt⟩
  simpa using this
def letterX (n : Nat) : Bool := decide ((64 : Int) ≤ (n : Int)) && decide ((n : Int) < 128) && ((bits BinOp.and IntKind.i64 (134217726 / 2 ^ (n % 32)) 1 == 1) || ((n : Int) == 95))
theorem letterX_all : ∀ n : Fin 256, letterX n.val = Lx.isLetter (UInt8.ofNat n.val) := by decide +kernel
theorem letterX_eq (c : UInt8) : Lx.isLetter c = letterX c.toNat := by
  have := letterX_all ⟨c.toNat, c.toNat_lt⟩
  simp at this
  exact this.symm
theorem isDigit_eq (c : UInt8) : Lx.isDigit c = (decide ((48 : Int) ≤ (c.toNat : Int)) && decide ((c.toNat : Int) ≤ 57)) := by
  rw [Bool.eq_iff_iff]
  simp [Lx.isDigit, UInt8.le_iff_toNat_le]
  omega
theorem isLetter_eq (c : UInt8) : Lx.isLetter c = (decide ((97 : Int) ≤ (c.toNat : Int)) && decide ((c.toNat : Int) ≤ 122) || decide ((65 : Int) ≤ (c.toNat : Int)) && decide ((c.toNat : Int) ≤ 90) || ((c.toNat : Int) == 95)) := by
  rw [Bool.eq_iff_iff]
  simp [Lx.isLetter, UInt8.le_iff_toNat_le, ← UInt8.toNat_inj]
  omega

set_option maxHeartbeats 400000 in
theorem lexLetter_any (c : UInt8) (w : World) :
    Calls Tryz.prog 190 #[.int .u8 c.toNat] w fun e w' => e = .returned (.bool (Lx.isLetter c)) ∧ w = w' := by
  rw [letterX_eq]
  have hc := c.toNat_lt
  go_enter Tryz.func190, Tryz.ntmps190
  go_wp2
  all_goals (go_ret; refine ⟨ret_bool ?_, rfl⟩; simp [letterX, *])
  all_goals omega
theorem digit_any (c : UInt8) (w : World) :
    Calls Tryz.prog 192 #[.int .u8 c.toNat] w fun e w' => e = .returned (.bool (Lx.isDigit c)) ∧ w = w' := by
  rw [isDigit_eq]
  have hc := c.toNat_lt
  go_enter Tryz.func192, Tryz.ntmps192
  go_wp2
  all_goals (go_ret; refine ⟨ret_bool ?_, rfl⟩; rw [Bool.eq_iff_iff]; simp; omega)
theorem line_any (c : UInt8) (w : World) :
    Calls Tryz.prog 189 #[.int .u8 c.toNat] w fun e w' => e = .returned (.bool (c != 10)) ∧ w = w' := by
  have hc : (c != 10) = ((c.toNat : Int) != 10) := by
    rw [Bool.eq_iff_iff]
    simp [← UInt8.toNat_inj]
    omega
  rw [hc]
  clear hc
  go_enter Tryz.func189, Tryz.ntmps189
  go_wp2
  go_ret
  exact ⟨rfl, rfl⟩
theorem nameb_any (c : UInt8) (w : World) :
    Calls Tryz.prog 268 #[.int .u8 c.toNat] w fun e w' => e = .returned (.bool (Lx.isNameB c)) ∧ w = w' := by
  cases h : Lx.isLetter c
  · have H := Lib.hid h
    clear h
    go_enter Tryz.func268, Tryz.ntmps268
    go_wp2_with fail
    refine (lexLetter_any c w).mono ?_
    rintro e w' ⟨rfl, rfl⟩
    rw [H.out]
    go_wp2_with fail
    refine (digit_any c w).mono ?_
    rintro e w' ⟨rfl, rfl⟩
    have e : Lx.isDigit c = Lx.isNameB c := by unfold Lx.isNameB; rw [H.out]; rfl
    have E := Lib.hid e
    clear e
    go_wp2
    go_ret
    exact ⟨ret_bool E.out, rfl⟩
  · have H := Lib.hid h
    clear h
    go_enter Tryz.func268, Tryz.ntmps268
    go_wp2_with fail
    refine (lexLetter_any c w).mono ?_
    rintro e w' ⟨rfl, rfl⟩
    rw [H.out]
    have e : true = Lx.isNameB c := by unfold Lx.isNameB; rw [H.out]; rfl
    have E := Lib.hid e
    clear e
    go_wp2
    go_ret
    exact ⟨ret_bool E.out, rfl⟩
def bsl (s : ByteArray) : List UInt8 := s.data.toList
theorem bsl_length (s : ByteArray) : (bsl s).length = s.size := Array.length_toList
theorem bsl_get (s : ByteArray) (k : Nat) (h : k < s.size) : (bsl s)[k]? = some (s[k]'h) := by
  have h' : k < s.data.toList.length := by rw [Array.length_toList]; exact h
  rw [bsl, List.getElem?_eq_getElem h']; rfl

set_option maxHeartbeats 1000000 in
theorem span_any (K : Nat) (p : UInt8 → Bool) (s : ByteArray) (w : World) (hs : s.size ≤ maxLen) (hcf : ∀ (args : Array Value) (w : World), (callFunc K args).run Tryz.prog w = .ok (.enter K args) w)
    (hf : ∀ (c : UInt8) (w : World), Calls Tryz.prog K #[.int .u8 c.toNat] w fun e w' => e = .returned (.bool (p c)) ∧ w = w') :
    Calls Tryz.prog 188 #[.string s, .func (.func K) #[] #[]] w fun e w' => e = .returned (.int .i64 (Lx.span p (bsl s))) ∧ w = w' := by
  unfold maxLen at hs
  have HF := Lib.hid hf
  clear hf
  have hle := Lx.span_le p (bsl s)
  rw [bsl_length] at hle
  go_enter Tryz.func188, Tryz.ntmps188
  go_wp2_with fail
  go_loop [5] (fun i => ∃ k : Nat, k ≤ Lx.span p (bsl s) ∧ i = .int .i64 k) (fun i => s.size - (intOf i).toNat)
  case atStart => exact ⟨0, Nat.zero_le _, rfl⟩
  case round =>
    obtain ⟨k, hk, rfl⟩ := hrel
    have hst := Lib.hid (Lx.span_step hk)
    by_cases hlt : k < s.size
    · cases hp : p (s[k]'hlt)
      · have HP := Lib.hid hp
        clear hp
        go_wp2_with fail
        refine (HF.out _ w).mono ?_
        rintro e w' ⟨rfl, rfl⟩
        rw [HP.out]
        go_wp2
        go_ret
        refine ⟨?_, rfl⟩
        have : ¬ k < Lx.span p (bsl s) := by
          intro h
          obtain ⟨c, hc, hpc⟩ := hst.out.1 h
          rw [bsl_get s k hlt] at hc
          cases hc
          rw [HP.out] at hpc; cases hpc
        have e : k = Lx.span p (bsl s) := by omega
        simp [e]
      · have HP := Lib.hid hp
        clear hp
        go_wp2_with fail
        refine (HF.out _ w).mono ?_
        rintro e w' ⟨rfl, rfl⟩
        rw [HP.out]
        go_wp2
        go_round
        case rel => exact ⟨k + 1, hst.out.2 ⟨_, bsl_get s k hlt, HP.out⟩, by go_num⟩
        case measure => simp [intOf]; omega
    · go_wp2
      go_ret
      have e : k = Lx.span p (bsl s) := by omega
      exact ⟨by simp [e], rfl⟩
theorem enter192 (args : Array Value) (w : World) : (callFunc 192 args).run Tryz.prog w = .ok (.enter 192 args) w := by kernel_rfl
theorem enter189 (args : Array Value) (w : World) : (callFunc 189 args).run Tryz.prog w = .ok (.enter 189 args) w := by kernel_rfl
theorem enter268 (args : Array Value) (w : World) : (callFunc 268 args).run Tryz.prog w = .ok (.enter 268 args) w := by kernel_rfl
theorem span_digit (s : ByteArray) (w : World) (hs : s.size ≤ maxLen) : Calls Tryz.prog 188 #[.string s, .func (.func 192) #[] #[]] w fun e w' => e = .returned (.int .i64 (Lx.span Lx.isDigit (bsl s))) ∧ w = w' :=
  span_any 192 Lx.isDigit s w hs enter192 digit_any
theorem span_line (s : ByteArray) (w : World) (hs : s.size ≤ maxLen) : Calls Tryz.prog 188 #[.string s, .func (.func 189) #[] #[]] w fun e w' => e = .returned (.int .i64 (Lx.span (fun c => c != 10) (bsl s))) ∧ w = w' :=
  span_any 189 _ s w hs enter189 line_any
theorem span_name (s : ByteArray) (w : World) (hs : s.size ≤ maxLen) : Calls Tryz.prog 188 #[.string s, .func (.func 268) #[] #[]] w fun e w' => e = .returned (.int .i64 (Lx.span Lx.isNameB (bsl s))) ∧ w = w' :=
  span_any 268 _ s w hs enter268 nameb_any
end Go.Proofs.YtchpbdodlbghaaaGreatDoor
