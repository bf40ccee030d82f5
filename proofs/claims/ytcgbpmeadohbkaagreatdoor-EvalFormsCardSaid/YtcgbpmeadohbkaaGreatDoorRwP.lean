import Derived.Test.YtcgbpmeadohbkaaGreatDoorProg
import Derived.Lib.Replace
import Derived.Lib.CountLaws
import Derived.Lib.ParseIntB
import Derived.Lib.ItoaNum
import Derived.Lib.ItoaMem
import Derived.Lib.ItoaLen
import Derived.Test.YtcgbpmeadohbkaaGreatDoorOwn
import Derived.Test.YtcgbpmeadohbkaaGreatDoorPar
import Derived.Test.YtcgbpmeadohbkaaGreatDoorRpW
import Derived.Test.YtcgbpmeadohbkaaGreatDoorShelf
namespace Go.Proofs.YtcgbpmeadohbkaaGreatDoor
open Go.RowKit
set_option maxRecDepth 100000
theorem ret_b {a b : Bool} (h : a = b) : Ending.returned (.bool a) = .returned (.bool b) := by rw [h]
def vV (k n : Int) (s : ByteArray) : Value := .agg #[.int .i64 k, .int .i64 n, .string s]
def emp : ByteArray := ⟨#[]⟩
def vOk (k n : Int) (s : ByteArray) : Bool :=
 if k = 0 then n == 0 && s.toList == [] else if k = 1 then (n == 0 || n == 1) && s.toList == [] else if k = 2 then s.toList == [] else k == 3 && n == 0
theorem vOk_eq (k n : Int) (s : ByteArray) : vOk k n s = (decide (0 ≤ k) && decide (k ≤ 3) && (n == 0 || k == 2 || k == 1 && n == 1) && (s.toList == [] || k == 3)) := by
 unfold vOk
 generalize (s.toList == []) = e
 rw [Bool.eq_iff_iff]
 by_cases h0 : k = 0
 ·subst h0; cases e <;> simp
 by_cases h1 : k = 1
 ·subst h1; cases e <;> simp
 by_cases h2 : k = 2
 ·subst h2; cases e <;> simp
 by_cases h3 : k = 3
 ·subst h3; cases e <;> simp
 rw [if_neg h0, if_neg h1, if_neg h2]
 simp
 omega
theorem kinds (k : Int) : k = 0 ∨ k = 1 ∨ k = 2 ∨ k = 3 ∨ ((k == 0) = false ∧ (k == 1) = false ∧ (k == 2) = false ∧ (k == 3) = false ∧ (k < 0 ∨ 3 < k)) := by
 simp only [beq_eq_false_iff_ne]
 omega
theorem nums (n : Int) : n = 0 ∨ n = 1 ∨ ((n == 0) = false ∧ (n == 1) = false) := by
 simp only [beq_eq_false_iff_ne]
 omega
set_option maxHeartbeats 4000000 in
theorem valok_any (k n : Int) (s : ByteArray) (w : World) :
 Calls Tryz.prog 234 #[vV k n s] w fun e w' => e = .returned (.bool (vOk k n s)) ∧ Below w.heap.size w w' := by
 unfold vV
 cases hs : s.toList.isEmpty
 all_goals
  rcases kinds k with rfl | rfl | rfl | rfl | ⟨k0, k1, k2, k3, k4⟩
 all_goals
  rcases nums n with rfl | rfl | ⟨n0, n1⟩
 all_goals
  go_enter Tryz.func234, Tryz.ntmps234
  go_wp2_with fail
  go_ret
  refine ⟨ret_b ?_, by go_grown⟩
  first
  | (simp [vOk, *]; done)
  | (simp only [beq_eq_false_iff_ne] at k0 k1 k2 k3; simp [vOk, *]; done)
set_option maxHeartbeats 4000000 in
theorem refok_any (k n : Int) (s : ByteArray) (w : World) :
 Calls Tryz.prog 134 #[vV k n s] w fun e w' => e = .returned (.bool (vOk k n s)) ∧ Below w.heap.size w w' := by
 rw [vOk_eq]
 unfold vV
 cases hs : s.toList.isEmpty
 all_goals
  rcases kinds k with rfl | rfl | rfl | rfl | ⟨k0, k1, k2, k3, k4⟩
 all_goals
  rcases nums n with rfl | rfl | ⟨n0, n1⟩
 all_goals
  try rcases k4 with k4 | k4
 all_goals
  go_enter Tryz.func134, Tryz.ntmps134
  go_wp2_with fail
  go_ret
  refine ⟨ret_b ?_, by go_grown⟩
  first
  | (simp [*]; done)
  | (rw [show decide (0 ≤ k) = false by simp; omega]; simp; done)
  | (rw [show decide (k ≤ 3) = false by simp; omega]; simp; done)
theorem valint_any (n : Int) (w : World) : Calls Tryz.prog 173 #[.int .i64 n] w fun e w' => e = .returned (vV 2 n emp) ∧ Below w.heap.size w w' := by
 go_enter Tryz.func173, Tryz.ntmps173
 go_wp2_with fail
 exact bodyPost_ret (v := vV 2 n emp) (by simp [results, Tryz.results173, go_sem, vV, emp]) rfl ⟨rfl, by go_grown⟩
theorem reftextv_any (s : ByteArray) (w : World) : Calls Tryz.prog 51 #[.string s] w fun e w' => e = .returned (vV 3 0 s) ∧ Below w.heap.size w w' := by
 go_enter Tryz.func51, Tryz.ntmps51
 go_wp2_with fail
 exact bodyPost_ret (v := vV 3 0 s) (by simp [results, Tryz.results51, go_sem, vV]) rfl ⟨rfl, by go_grown⟩
def bN (b : Bool) : Int := if b then 1 else 0
theorem valbool_any (b : Bool) (w : World) : Calls Tryz.prog 128 #[.bool b] w fun e w' => e = .returned (vV 1 (bN b) emp) ∧ Below w.heap.size w w' := by
 cases b
 all_goals
  go_enter Tryz.func128, Tryz.ntmps128
  go_wp2_with fail
 ·exact bodyPost_ret (v := vV 1 0 emp) (by simp [results, Tryz.results128, go_sem, vV, emp]) rfl ⟨rfl, by go_grown⟩
 ·exact bodyPost_ret (v := vV 1 1 emp) (by simp [results, Tryz.results128, go_sem, vV, emp]) rfl ⟨rfl, by go_grown⟩
theorem valnull_any (w : World) : Calls Tryz.prog 59 #[] w fun e w' => e = .returned (vV 0 0 emp) ∧ Below w.heap.size w w' := by
 go_enter Tryz.func59, Tryz.ntmps59
 go_wp2_with fail
 exact bodyPost_ret (v := vV 0 0 emp) (by simp [results, Tryz.results59, go_sem, vV, emp]) rfl ⟨rfl, by go_grown⟩
theorem blk3 {w : World} {g : Nat} {a b c : Value} {t : TypeId} (h : Blk w g #[a, b, c] t) (a' b' c' : Value) : Blk (((w.setCell ⟨g, 0, none⟩ a').setCell ⟨g, 1, none⟩ b').setCell ⟨g, 2, none⟩ c') g #[a', b', c'] t :=
 ((h.set 0 a').set 1 b').set 2 c'
theorem below3 {w w0 : World} {g B : Nat} (h : Below B w0 w) (hg : B ≤ g) (a' b' c' : Value) : Below B w0 (((w.setCell ⟨g, 0, none⟩ a').setCell ⟨g, 1, none⟩ b').setCell ⟨g, 2, none⟩ c') :=
 ((h.setCell (p := ⟨g, 0, none⟩) hg a').setCell (p := ⟨g, 1, none⟩) hg b').setCell (p := ⟨g, 2, none⟩) hg c'
end Go.Proofs.YtcgbpmeadohbkaaGreatDoor
namespace Go.Proofs.YtcgbpmeadohbkaaGreatDoor
open Go.RowKit
set_option maxRecDepth 100000
def cK (k n : Int) (s : ByteArray) : Int := if vOk k n s then k else 0
def cN (k n : Int) (s : ByteArray) : Int := if vOk k n s then n else 0
def cS (k n : Int) (s : ByteArray) : ByteArray := if vOk k n s then s else emp
set_option maxHeartbeats 1000000 in
theorem valis_any (k n : Int) (s : ByteArray) (w : World) : Calls Tryz.prog 194 #[vV k n s] w fun e w' => e = .returned (vV (cK k n s) (cN k n s) (cS k n s)) ∧ Below w.heap.size w w' := by
 unfold cK cN cS
 cases hok : vOk k n s
 all_goals
  have HOK := Lib.hid hok
  clear hok
  rw [show vV k n s = .agg #[.int .i64 k, .int .i64 n, .string s] from rfl]
  go_enter Tryz.func194, Tryz.ntmps194
  go_wp2_with fail
  refine (valok_any k n s _).mono ?_
  rintro e w1 ⟨rfl, hb⟩
  rw [HOK.out]
  have hA := ((Blk.new w #[.int .i64 k, .int .i64 n, .string s] 69 rfl).alloc (.cells #[.int .i64 0, .int .i64 0, .string ⟨#[]⟩] 69)).keep hb
  have hB := (Blk.new (w.alloc (.cells #[.int .i64 k, .int .i64 n, .string s] 69)) #[.int .i64 0, .int .i64 0, .string ⟨#[]⟩] 69 (n := w.heap.size + 1) (by simp)).keep hb
  have HB := Lib.hid (show Below w.heap.size w w1 from Below.trans (by go_grown) (hb.mono (by simp; omega)))
  have HA := Lib.hid hA
  have HBB := Lib.hid hB
  obtain ⟨ca, fa⟩ := hA.facts
  obtain ⟨cb, fb⟩ := hB.facts
  clear hb hA hB
  go_wp2_with fail
 ·refine (valnull_any _).mono ?_
  rintro e w2 ⟨rfl, hb2⟩
  have hB := HBB.out.keep hb2
  have HB2 := Lib.hid (HB.out.trans (hb2.mono HB.out.size))
  have HC := Lib.hid hB
  clear hb2 ca fa cb fb
  obtain ⟨cb, fb⟩ := hB.facts
  clear hB
  rw [show vV 0 0 emp = .agg #[.int .i64 0, .int .i64 0, .string emp] from rfl]
  go_wp2_with fail
  exact bodyPost_ret (v := vV 0 0 emp) (by simp [results, Tryz.results194, go_sem, (blk3 HC.out _ _ _).cell, vV]) rfl ⟨rfl, below3 HB2.out (Nat.le_succ _) _ _ _⟩
 ·exact bodyPost_ret (v := vV k n s) (by simp [results, Tryz.results194, go_sem, (blk3 HBB.out _ _ _).cell, vV]) rfl ⟨rfl, below3 HB.out (Nat.le_succ _) _ _ _⟩
def cV (kind level : Int) (shift back : Bool) (p : Option Addr) : Value := .agg #[.int .i64 kind, .int .i64 level, .bool shift, .bool back, .pointer p]
def CmpAt (W : World) (kind level : Int) (shift back : Bool) (p : Option Addr) (a b : ByteArray) (r : Int) : Prop :=
 ∀ W', Ext W W' → Calls Tryz.prog 252 #[cV kind level shift back p, .string a, .string b] W' fun e w' => e = .returned (.int .i64 r) ∧ Below W'.heap.size W' w'
theorem CmpAt.ext {W W' : World} {kind level : Int} {shift back : Bool} {p : Option Addr} {a b : ByteArray} {r : Int} (h : CmpAt W kind level shift back p a b r) (hx : Ext W W') : CmpAt W' kind level shift back p a b r :=
 fun W2 h2 => h W2 (hx.trans h2)
theorem pairEq (a b c d : Int) (w : World) : (Op.equalIn 10000 266 (.agg #[.int .i64 a, .int .i64 b]) (.agg #[.int .i64 c, .int .i64 d])).run Tryz.prog w = .ok (a == c && b == d) w := by
 have hs : ∀ w, (sizeOf 3).run Tryz.prog w = .ok 1 w := fun _ => by kernel_rfl
 have hp : ∀ (x y : Value) w, (part 3 #[x, y] 0).run Tryz.prog w = .ok x w := fun _ _ _ => by kernel_rfl
 have hp1 : ∀ (x y : Value) w, (part 3 #[x, y] 1).run Tryz.prog w = .ok y w := fun _ _ _ => by kernel_rfl
 have he : ∀ (x y : Int) w, (Op.equalIn 9999 3 (.int .i64 x) (.int .i64 y)).run Tryz.prog w = .ok (x == y) w := fun x y w => run_equalIn_int w 9998 3 .i64 .i64 x y Tryz.underlying3
 rw [show (10000 : Nat) = 9999 + 1 from rfl, Op.equalIn]
 simp only [Sem.run_bind, run_underlying Tryz.underlying266, Result.andThen_ok, hs]
 simp only [Std.Legacy.Range.forIn_eq_forIn_range', Std.Legacy.Range.size]
 rw [show List.range' 0 ((2 - 0 + 1 - 1) / 1) 1 = [0, 1] from rfl]
 cases h1 : (a == c) <;> cases h2 : (b == d) <;> simp [hp, hp1, he, h1, h2]
theorem pairGuard : Tryz.prog.eqGuardType Tryz.prog.depth 266 = false := by kernel_rfl
end Go.Proofs.YtcgbpmeadohbkaaGreatDoor
namespace Go.Proofs.YtcgbpmeadohbkaaGreatDoor
open Go.RowKit
set_option maxRecDepth 100000
structure Glob (w : World) : Prop where
 maxLen : ∃ m, w.cell? ⟨0, 0, none⟩ = some (.int .i64 m)
 tabs : Lib.Utf8Tabs 5 6 w
 size : 0 < w.heap.size
theorem Glob.keep {w w' : World} (h : Glob w) (hb : Below w.heap.size w w') : Glob w' := by
 obtain ⟨m, hm⟩ := h.maxLen
 refine ⟨⟨m, by rw [hb.cell (p := ⟨0, 0, none⟩) h.size]; exact hm⟩, ?_, Nat.lt_of_lt_of_le h.size hb.size⟩
 exact ⟨fun c hc => (hb.cell (World.block_lt_of_cell? w _ (h.tabs.1 c hc))).trans (h.tabs.1 c hc),
  fun i hi => ⟨(hb.cell (World.block_lt_of_cell? w _ (h.tabs.2 i hi).1)).trans (h.tabs.2 i hi).1, (hb.cell (World.block_lt_of_cell? w _ (h.tabs.2 i hi).2)).trans (h.tabs.2 i hi).2⟩⟩
end Go.Proofs.YtcgbpmeadohbkaaGreatDoor
namespace Go.Proofs.YtcgbpmeadohbkaaGreatDoor
set_option maxRecDepth 100000
def escQ (l : List UInt8) : List UInt8 := l.flatMap fun b => if b = 39 then [39, 39] else [b]
theorem escQ_q (l : List UInt8) : escQ (39 :: l) = 39 :: 39 :: escQ l := by simp [escQ]
theorem escQ_c (b : UInt8) (l : List UInt8) (h : b ≠ 39) : escQ (b :: l) = b :: escQ l := by simp [escQ, h]
theorem escQ_append (a b : List UInt8) : escQ (a ++ b) = escQ a ++ escQ b := by simp [escQ]
theorem escQ_len (l : List UInt8) : (escQ l).length ≤ 2 * l.length := by
 induction l with
 | nil => simp [escQ]
 | cons x l ih =>
  by_cases h : x = 39
  ·subst h; rw [escQ_q]; simp; omega
  ·rw [escQ_c x l h]; simp; omega
def InR (n : Int) : Prop := -9223372036854775808 ≤ n ∧ n ≤ 9223372036854775807
instance (n : Int) : Decidable (InR n) := inferInstanceAs (Decidable (_ ∧ _))
def Cl (v : Int × Int × List UInt8) : Prop := (v.1 = 0 ∧ v.2.1 = 0 ∧ v.2.2 = []) ∨ (v.1 = 1 ∧ (v.2.1 = 0 ∨ v.2.1 = 1) ∧ v.2.2 = []) ∨ (v.1 = 2 ∧ InR v.2.1 ∧ v.2.2 = []) ∨ (v.1 = 3 ∧ v.2.1 = 0)
def nullL : List UInt8 := [78, 85, 76, 76]
def trueL : List UInt8 := [84, 82, 85, 69]
def falseL : List UInt8 := [70, 65, 76, 83, 69]
def prB (v : Int × Int × List UInt8) : List UInt8 := if v.1 = 0 then nullL else if v.1 = 1 then (if v.2.1 = 1 then trueL else falseL) else if v.1 = 2 then Lib.itoa v.2.1 else 39 :: (escQ v.2.2 ++ [39])
end Go.Proofs.YtcgbpmeadohbkaaGreatDoor
namespace Go.Proofs.YtcgbpmeadohbkaaGreatDoor
open Go.RowKit
set_option maxRecDepth 100000
theorem dec_step (X : Nat) (h : 9 < X) : Lib.decDigits X = Lib.decDigits (X / 10) ++ [UInt8.ofNat (48 + X % 10)] := by
 rw [Lib.decDigits, dif_neg (by omega)]
theorem dig_add (k : Nat) (h : k < 10) : UInt8.ofNat (48 + k) = 48 + UInt8.ofNat k := by
 have : ∀ k : Fin 10, UInt8.ofNat (48 + k.val) = 48 + UInt8.ofNat k.val := by decide +kernel
 exact this ⟨k, h⟩
theorem bsl_dropZ (s : ByteArray) (k : Nat) (h : k < s.size) : (bsl s).drop k = s[k]'h :: (bsl s).drop (k + 1) := by
 have h1 := bsl_get s k h
 have h2 : k < (bsl s).length := by rw [bsl_length]; exact h
 rw [List.getElem?_eq_getElem h2] at h1
 rw [List.drop_eq_getElem_cons h2, Option.some.inj h1]
theorem dec_len (n : Nat) (h : n ≤ 9223372036854775808) : (Lib.decDigits n).length ≤ 22 := by
 have h1 := Lib.itoa_length_le (-(n : Int)) (by omega) (by omega)
 rcases Nat.eq_zero_or_pos n with h0 | h0
 ·subst h0; rw [Lib.decDigits]; decide
 ·rw [Lib.itoa_neg n h0] at h1
  simp at h1; omega
theorem bs_cons (x : UInt8) (t : ByteArray) : (ByteArray.mk #[x] ++ t).data.toList = x :: t.data.toList := by simp
theorem ba_ext {a b : ByteArray} (h : a.data.toList = b.data.toList) : a = b := by
 cases a; cases b
 simp only [ByteArray.mk.injEq]
 exact Array.toList_inj.1 h
set_option maxHeartbeats 1000000 in
theorem reftextN_any (n : Nat) (w : World) (hn : n ≤ 9223372036854775807) :
 Calls Tryz.prog 49 #[.int .i64 n] w fun e w' => e = .returned (.string ⟨(Lib.decDigits n).toArray⟩) ∧ w = w' := by
 have hlen := dec_len n (by omega)
 have hl : ((n : Int) == -9223372036854775808) = false := by rw [beq_eq_false_iff_ne]; omega
 go_enter Tryz.func49, Tryz.ntmps49
 go_wp2_with fail
 go_loop [0, 3] (fun x s => ∃ (X : Nat) (t : ByteArray), x = .int .i64 X ∧ s = .string t ∧ Lib.decDigits n = Lib.decDigits X ++ t.data.toList ∧ X ≤ n) (fun x _ => (intOf x).toNat)
 case atStart => exact ⟨n, ⟨#[]⟩, rfl, rfl, by simp, Nat.le_refl _⟩
 case round =>
  obtain ⟨X, t, rfl, rfl, hT, hXn⟩ := hrel
  have hsz : t.size ≤ 22 := by
   have q1 := congrArg List.length hT
   rw [List.length_append] at q1
   have q2 : t.data.toList.length = t.size := Array.length_toList
   omega
  have HT := Lib.hid hT
  have HL := Lib.hid hlen
  clear hT hlen
  have e1 : ((X : Int).tmod 10) = ((X % 10 : Nat) : Int) := by rw [Int.tmod_eq_emod_of_nonneg (by omega)]; omega
  have e2 : ((X : Int).tdiv 10) = ((X / 10 : Nat) : Int) := by rw [Int.tdiv_eq_ediv_of_nonneg (by omega)]; omega
  by_cases h9 : 9 < X
  ·have hd := digit_at (X % 10) (by omega)
   go_wp2_with fail
   case roundEnd =>
    refine ⟨⟨X / 10, _, by go_num, rfl, ?_, by omega⟩, ?_⟩
    ·rw [bs_cons, HT.out, dec_step X h9, List.append_assoc, dig_add _ (by omega)]
     rfl
    ·simp [intOf]; omega
  ·have hd := digit_at X (by omega)
   go_wp2_with fail
   go_ret
   refine ⟨?_, rfl⟩
   refine congrArg (fun x => Ending.returned (.string x)) (ba_ext ?_)
   rw [bs_cons]
   have h := HT.out
   rw [Lib.decDigits.eq_def X, dif_pos (by omega)] at h
   rw [dig_add _ (by omega)] at h
   simp only [List.cons_append, List.nil_append] at h
   exact h.symm
theorem itoa_least : Lib.itoa (-9223372036854775808) = [45, 57, 50, 50, 51, 51, 55, 50, 48, 51, 54, 56, 53, 52, 55, 55, 53, 56, 48, 56] := by
 have h := Lib.itoa_neg 9223372036854775808 (by decide)
 rw [show (-((9223372036854775808 : Nat) : Int)) = -9223372036854775808 from rfl] at h
 rw [h]
 simp [Lib.decDigits]
set_option maxHeartbeats 1000000 in
theorem reftextZ_any (n : Int) (w : World) (hn : InR n) :
 Calls Tryz.prog 49 #[.int .i64 n] w fun e w' => e = .returned (.string ⟨(Lib.itoa n).toArray⟩) ∧ w = w' := by
 obtain ⟨h1, h2⟩ := hn
 by_cases hn0 : n < 0
 ·by_cases hl : n = -9223372036854775808
  ·subst hl
   rw [itoa_least]
   go_enter Tryz.func49, Tryz.ntmps49
   go_wp2_with fail
   go_ret
   exact ⟨rfl, rfl⟩
  ·obtain ⟨m, rfl⟩ : ∃ m : Nat, n = -(m : Int) := ⟨n.natAbs, by omega⟩
   have hlb : (-(m : Int) == -9223372036854775808) = false := by rw [beq_eq_false_iff_ne]; exact hl
   have hw : wrap64 (- -(m : Int)) = (m : Int) := by rw [Int.neg_neg]; exact wrap64_of (by omega) (by omega)
   have hw2 : wrap64 (m : Int) = (m : Int) := wrap64_of (by omega) (by omega)
   have hlen := dec_len m (by omega)
   rw [Lib.itoa_neg m (by omega)]
   obtain ⟨z, hz⟩ : ∃ z, z = -(m : Int) := ⟨_, rfl⟩
   have hzw : wrap64 (-z) = (m : Int) := by rw [hz]; exact hw
   have hzb : (z == -9223372036854775808) = false := by rw [hz]; exact hlb
   have hzn : z < 0 := by omega
   have HK := Lib.hid (reftextN_any m w (by omega))
   rw [← hz]
   clear hz hw hlb hl hn0
   go_enter Tryz.func49, Tryz.ntmps49
   go_wp2_with fail
   refine HK.out.mono ?_
   rintro e w' ⟨rfl, rfl⟩
   go_wp2_with fail
   go_ret
   exact ⟨congrArg (fun x => Ending.returned (.string x)) (ba_ext (by simp)), rfl⟩
 ·obtain ⟨m, rfl⟩ : ∃ m : Nat, n = (m : Int) := ⟨n.toNat, by omega⟩
  rw [Lib.itoa_nonneg]
  exact reftextN_any m w (by omega)
end Go.Proofs.YtcgbpmeadohbkaaGreatDoor
namespace Go.Proofs.YtcgbpmeadohbkaaGreatDoor
open Go.RowKit Go.Lib
set_option maxRecDepth 100000
def lvR (k o : Int) : Int :=
 if k = 6 then (if o = 19 ∨ o = 22 then 1 else if o = 18 then 2 else if o = 15 ∨ o = 16 then 5 else if o = 14 then 6 else if o = 12 ∨ o = 13 then 7 else if o = 7 ∨ o = 8 ∨ o = 17 then 8 else if o = 9 ∨ o = 10 ∨ o = 11 then 9 else 4)
 else if k = 5 then (if o = 21 then 3 else 10)
 else if k = 7 ∨ k = 8 ∨ k = 9 ∨ k = 10 then 4 else if k = 11 then 11 else 12
def opNR : List (List UInt8) := [[], [61], [60, 62], [60], [60, 61], [62], [62, 61], [43], [45], [42], [47], [37], [60, 60], [62, 62], [38], [124], [94], [124, 124], [65, 78, 68], [79, 82], [], [], [88, 79, 82]]
def opN (o : Int) : List UInt8 := if o < 0 then [] else (opNR[o.toNat]?).getD []
def atB (c : Int × List UInt8) (lv : Int) : List UInt8 := if c.1 < lv then [40, 32] ++ c.2 ++ [32, 41] else c.2
def atI (L : List (Int × List UInt8)) (i : Nat) (lv : Int) : List UInt8 := match L[i]? with | some c => atB c lv | none => []
def notB (n : Int) : List UInt8 := if n = 1 then [78, 79, 84, 32] else []
def commaB : List (Int × List UInt8) → List UInt8
 | [] => []
 | c :: L => [32, 44, 32] ++ atB c 1 ++ commaB L
def commasB : List (Int × List UInt8) → List UInt8
 | [] => []
 | c :: L => atB c 1 ++ commaB L
def kwB (n : Int) : List UInt8 := if n = 1 then [66, 79, 79, 76] else if n = 2 then [73, 78, 84] else [84, 69, 88, 84]
def leafB (k : Int) (s t : List UInt8) (n : Int) : List UInt8 :=
 if k = 4 ∧ t ≠ [] then t ++ [32, 46, 32] ++ s
 else if k = 4 then s
 else if k = 2 then Lib.itoa n
 else if k = 3 then 39 :: (escQ s ++ [39])
 else if k = 1 ∧ n = 1 then trueL
 else if k = 1 then falseL
 else if k = 0 then nullL
 else [63]
def callB (k : Int) (s t : List UInt8) (n : Int) (L : List (Int × List UInt8)) : List UInt8 :=
 if k = 11 ∧ L.length = 1 then atI L 0 11 ++ [32, 67, 79, 76, 76, 65, 84, 69, 32] ++ s
 else if k = 12 ∧ L.length = 1 ∧ 1 ≤ n ∧ n ≤ 3 then [67, 65, 83, 84, 32, 40, 32] ++ atI L 0 1 ++ [32, 65, 83, 32] ++ kwB n ++ [32, 41]
 else if k = 14 ∧ L.length = 0 then s ++ [32, 40, 32, 42, 32, 41]
 else if (k = 13 ∨ k = 14) ∧ L.length = 1 then s ++ [32, 40, 32] ++ atI L 0 1 ++ [32, 41]
 else leafB k s t n
def testB (k : Int) (s t : List UInt8) (n : Int) (L : List (Int × List UInt8)) : List UInt8 :=
 if k = 7 ∧ L.length = 1 then atI L 0 5 ++ [32, 73, 83, 32] ++ notB n ++ [78, 85, 76, 76]
 else if k = 8 ∧ L.length = 2 then atI L 0 5 ++ [32] ++ notB n ++ [76, 73, 75, 69, 32] ++ atI L 1 5
 else if k = 8 ∧ L.length = 3 then atI L 0 5 ++ [32] ++ notB n ++ [76, 73, 75, 69, 32] ++ atI L 1 5 ++ [32, 69, 83, 67, 65, 80, 69, 32] ++ atI L 2 5
 else if k = 9 ∧ 1 < L.length then atI L 0 5 ++ [32] ++ notB n ++ [73, 78, 32, 40, 32] ++ commasB (L.drop 1) ++ [32, 41]
 else if k = 10 ∧ L.length = 3 then atI L 0 5 ++ [32] ++ notB n ++ [66, 69, 84, 87, 69, 69, 78, 32] ++ atI L 1 5 ++ [32, 65, 78, 68, 32] ++ atI L 2 5
 else callB k s t n L
def wordsB (k o : Int) (s t : List UInt8) (n : Int) (L : List (Int × List UInt8)) : List UInt8 :=
 if k = 6 ∧ L.length = 2 then (if lvR k o = 4 then atI L 0 5 ++ [32] ++ opN o ++ [32] ++ atI L 1 5 else atI L 0 (lvR k o) ++ [32] ++ opN o ++ [32] ++ atI L 1 (lvR k o + 1))
 else if k = 5 ∧ L.length = 1 then (if o = 21 then [78, 79, 84, 32] ++ atI L 0 3 else [45, 32] ++ atI L 0 10)
 else testB k s t n L
mutual
def wordsT : Tr → List UInt8
 | .mk k o s t n l => wordsB k o s t n (wordsTs l)
def wordsTs : List Tr → List (Int × List UInt8)
 | [] => []
 | .mk k o s t n l :: r => (lvR k o, wordsT (.mk k o s t n l)) :: wordsTs r
end
mutual
def cntT : Tr → Nat
 | .mk _ _ _ _ _ l => 1 + cntTs l
def cntTs : List Tr → Nat
 | [] => 0
 | x :: r => cntT x + cntTs r
end
def lvT : Tr → Int
 | .mk k o _ _ _ _ => lvR k o
theorem wordsT_mk (k o : Int) (s t : List UInt8) (n : Int) (l : List Tr) : wordsT (.mk k o s t n l) = wordsB k o s t n (wordsTs l) := by rw [wordsT]
theorem wordsTs_cons (x : Tr) (r : List Tr) : wordsTs (x :: r) = (lvT x, wordsT x) :: wordsTs r := by cases x; rw [wordsTs]; rfl
theorem wordsTs_map : ∀ l : List Tr, wordsTs l = l.map fun x => (lvT x, wordsT x)
 | [] => by rw [wordsTs]; rfl
 | x :: r => by rw [wordsTs_cons, List.map_cons, wordsTs_map r]
theorem wordsTs_len (l : List Tr) : (wordsTs l).length = l.length := by rw [wordsTs_map, List.length_map]
theorem cntT_mk (k o : Int) (s t : List UInt8) (n : Int) (l : List Tr) : cntT (.mk k o s t n l) = 1 + cntTs l := by rw [cntT]
theorem cntTs_cons (x : Tr) (r : List Tr) : cntTs (x :: r) = cntT x + cntTs r := by rw [cntTs]
inductive SmT : Nat → Tr → Prop
 | mk (d : Nat) (k o : Int) (s t : List UInt8) (n : Int) (l : List Tr) (hd : d ≤ 40) (hn : InR n) (hl : l.length ≤ 20) (hs : s.length ≤ 500) (ht : t.length ≤ 50) (h : ∀ y, y ∈ l → SmT (d + 1) y) : SmT d (.mk k o s t n l)
def totB (L : List (Int × List UInt8)) : Nat := (L.map fun c => c.2.length + 7).sum
theorem totB_cons (c : Int × List UInt8) (L : List (Int × List UInt8)) : totB (c :: L) = c.2.length + 7 + totB L := by simp [totB]
theorem atB_len (c : Int × List UInt8) (lv : Int) : (atB c lv).length ≤ c.2.length + 4 := by
 unfold atB; split <;> simp
theorem commaB_len : ∀ L : List (Int × List UInt8), (commaB L).length ≤ totB L
 | [] => by simp [commaB]
 | c :: L => by
  have ih := commaB_len L
  have h := atB_len c 1
  rw [totB_cons]
  simp only [commaB, List.length_append, List.length_cons, List.length_nil]
  omega
theorem commasB_len : ∀ L : List (Int × List UInt8), (commasB L).length ≤ totB L
 | [] => by simp [commasB]
 | c :: L => by
  have ih := commaB_len L
  have h := atB_len c 1
  rw [totB_cons]
  simp only [commasB, List.length_append]
  omega
theorem notB_len (n : Int) : (notB n).length ≤ 4 := by unfold notB; split <;> simp
theorem kwB_len (n : Int) : (kwB n).length ≤ 4 := by
 unfold kwB; split
 ·simp
 ·split <;> simp
theorem opN_len (o : Int) : (opN o).length ≤ 3 := by
 unfold opN
 split
 ·simp
 ·by_cases h : o.toNat < 23
  ·generalize o.toNat = m at h
   have : ∀ m : Fin 23, ((opNR[m.val]?).getD []).length ≤ 3 := by decide
   exact this ⟨m, h⟩
  ·rw [List.getElem?_eq_none (by simp [opNR]; omega)]; simp
theorem itoa_len (n : Int) (h : InR n) : (Lib.itoa n).length ≤ 22 := Nat.le_trans (Lib.itoa_length_le n h.1 h.2) (by decide)
theorem leafB_len (k : Int) (s t : List UInt8) (n : Int) (hn : InR n) (hs : s.length ≤ 500) (ht : t.length ≤ 50) : (leafB k s t n).length ≤ 1100 := by
 unfold leafB
 have h1 := itoa_len n hn
 have h2 := escQ_len s
 split
 ·simp; omega
 split
 ·omega
 split
 ·omega
 split
 ·simp; omega
 split
 ·simp [trueL]
 split
 ·simp [falseL]
 split
 ·simp [nullL]
 ·simp
theorem len_one {α : Type} {L : List α} (h : L.length = 1) : ∃ a, L = [a] := by
 match L, h with
 | [a], _ => exact ⟨a, rfl⟩
theorem len_two {α : Type} {L : List α} (h : L.length = 2) : ∃ a b, L = [a, b] := by
 match L, h with
 | [a, b], _ => exact ⟨a, b, rfl⟩
theorem len_three {α : Type} {L : List α} (h : L.length = 3) : ∃ a b c, L = [a, b, c] := by
 match L, h with
 | [a, b, c], _ => exact ⟨a, b, c, rfl⟩
theorem callB_len (k : Int) (s t : List UInt8) (n : Int) (L : List (Int × List UInt8)) (hn : InR n) (hs : s.length ≤ 500) (ht : t.length ≤ 50) : (callB k s t n L).length ≤ totB L + 1100 := by
 unfold callB
 have h1 := leafB_len k s t n hn hs ht
 have h2 := kwB_len n
 split
 ·rename_i h
  obtain ⟨a, rfl⟩ := len_one h.2
  have := atB_len a 11
  simp [atI, totB]; omega
 split
 ·rename_i h
  obtain ⟨a, rfl⟩ := len_one h.2.1
  have := atB_len a 1
  simp [atI, totB]; omega
 split
 ·simp; omega
 split
 ·rename_i h
  obtain ⟨a, rfl⟩ := len_one h.2
  have := atB_len a 1
  simp [atI, totB]; omega
 ·omega
theorem testB_len (k : Int) (s t : List UInt8) (n : Int) (L : List (Int × List UInt8)) (hn : InR n) (hs : s.length ≤ 500) (ht : t.length ≤ 50) : (testB k s t n L).length ≤ totB L + 1100 := by
 unfold testB
 have h1 := callB_len k s t n L hn hs ht
 have h2 := notB_len n
 split
 ·rename_i h
  obtain ⟨a, rfl⟩ := len_one h.2
  have := atB_len a 5
  simp [atI, totB]; omega
 split
 ·rename_i h
  obtain ⟨a, b, rfl⟩ := len_two h.2
  have := atB_len a 5
  have := atB_len b 5
  simp [atI, totB]; omega
 split
 ·rename_i h
  obtain ⟨a, b, c, rfl⟩ := len_three h.2
  have := atB_len a 5
  have := atB_len b 5
  have := atB_len c 5
  simp [atI, totB]; omega
 split
 ·rename_i h
  match L, h with
  | a :: L, h =>
   have := atB_len a 5
   have := commasB_len L
   rw [totB_cons]
   simp [atI]; omega
 split
 ·rename_i h
  obtain ⟨a, b, c, rfl⟩ := len_three h.2
  have := atB_len a 5
  have := atB_len b 5
  have := atB_len c 5
  simp [atI, totB]; omega
 ·exact h1
theorem wordsB_len (k o : Int) (s t : List UInt8) (n : Int) (L : List (Int × List UInt8)) (hn : InR n) (hs : s.length ≤ 500) (ht : t.length ≤ 50) : (wordsB k o s t n L).length ≤ totB L + 1100 := by
 unfold wordsB
 have h1 := testB_len k s t n L hn hs ht
 have h2 := opN_len o
 split
 ·rename_i h
  obtain ⟨a, b, rfl⟩ := len_two h.2
  generalize lvR k o = z
  have := atB_len a 5
  have := atB_len b 5
  have := atB_len a z
  have := atB_len b (z + 1)
  split <;> simp [atI, totB] <;> omega
 split
 ·rename_i h
  obtain ⟨a, rfl⟩ := len_one h.2
  have := atB_len a 3
  have := atB_len a 10
  split <;> simp [atI, totB] <;> omega
 ·exact h1
theorem totB_le : ∀ l : List Tr, (∀ y, y ∈ l → (wordsT y).length ≤ 2000 * cntT y) → totB (wordsTs l) ≤ 2000 * cntTs l + 7 * l.length
 | [], _ => by simp [wordsTs, totB]
 | x :: r, h => by
  have ih := totB_le r fun y hy => h y (by simp [hy])
  have h1 := h x (by simp)
  rw [wordsTs_cons, totB_cons, cntTs_cons, List.length_cons]
  simp only
  omega
theorem wordsT_len {d : Nat} {t : Tr} (h : SmT d t) : (wordsT t).length ≤ 2000 * cntT t := by
 induction h with
 | mk d k o s t n l hd hn hl hs ht _ ih =>
  rw [wordsT_mk, cntT_mk]
  have h1 := wordsB_len k o s t n (wordsTs l) hn hs ht
  have h2 := totB_le l ih
  omega
theorem cntTs_mem : ∀ (l : List Tr) (z : Tr), z ∈ l → cntT z ≤ cntTs l
 | x :: r, z, h => by
  rw [cntTs_cons]
  rcases List.mem_cons.1 h with rfl | h
  ·omega
  ·have := cntTs_mem r z h; omega
end Go.Proofs.YtcgbpmeadohbkaaGreatDoor
