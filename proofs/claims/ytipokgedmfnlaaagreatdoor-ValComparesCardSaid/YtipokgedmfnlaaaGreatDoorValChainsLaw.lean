/-
  The law of chains of values, walked.
-/
import Derived.Test.YtipokgedmfnlaaaGreatDoorMake
import Derived.Test.YtipokgedmfnlaaaGreatDoorCmp
namespace Go.Proofs.YtipokgedmfnlaaaGreatDoor
open Go.RowKit Go.Lib
set_option maxRecDepth 100000

theorem chain_cmpI : Chain cmpI := by
  refine ⟨cmpI_eq, fun x y => ?_, fun x y => ?_, fun x y z h => ?_, fun x y z h k => ?_⟩
  all_goals
    unfold cmpI at *
    repeat' split at *
    all_goals omega
/-- Three in one order. -/
structure Chain3 (p q r : Int) : Prop where
  up : p > 0 ∨ q > 0 ∨ r ≤ 0
  le : p ≠ 0 ∨ q = r
  ri : q ≠ 0 ∨ p = r
theorem Chain.three {α : Type} {f : α → α → Int} (h : Chain f) (a b d : α) : Chain3 (f a b) (f b d) (f a d) := by
  have e1 := h.eql a b d
  have e2 := h.eql b d a
  have s1 := h.swap a b
  have s2 := h.swap a d
  have t := h.trans a b d
  have v1 := h.vals a b
  have v2 := h.vals b d
  have v3 := h.vals a d
  refine ⟨?_, ?_, ?_⟩ <;> omega
theorem vOrd_refl (k n : Int) (s : ByteArray) (r : Int) (h : r = 0) : vOrd k n s k n s r = 0 := by
  unfold vOrd alikeV
  rw [if_pos rfl, cmpI_eq, h]
  simp
theorem vOrd_chain {f : List UInt8 → List UInt8 → Int} (hf : Chain f) (k0 n0 : Int) (s0 : ByteArray) (k1 n1 : Int) (s1 : ByteArray) (k2 n2 : Int) (s2 : ByteArray) :
    Chain3 (vOrd k0 n0 s0 k1 n1 s1 (f (cS k0 n0 s0).data.toList (cS k1 n1 s1).data.toList)) (vOrd k1 n1 s1 k2 n2 s2 (f (cS k1 n1 s1).data.toList (cS k2 n2 s2).data.toList)) (vOrd k0 n0 s0 k2 n2 s2 (f (cS k0 n0 s0).data.toList (cS k2 n2 s2).data.toList)) := by
  have c1 := hf.three (cS k0 n0 s0).data.toList (cS k1 n1 s1).data.toList (cS k2 n2 s2).data.toList
  have c2 := chain_cmpI.three (cN k0 n0 s0) (cN k1 n1 s1) (cN k2 n2 s2)
  have c3 := chain_cmpI.three (cK k0 n0 s0) (cK k1 n1 s1) (cK k2 n2 s2)
  unfold vOrd alikeV
  generalize f (cS k0 n0 s0).data.toList (cS k1 n1 s1).data.toList = f01 at c1 ⊢
  generalize f (cS k1 n1 s1).data.toList (cS k2 n2 s2).data.toList = f12 at c1 ⊢
  generalize f (cS k0 n0 s0).data.toList (cS k2 n2 s2).data.toList = f02 at c1 ⊢
  generalize cmpI (cN k0 n0 s0) (cN k1 n1 s1) = m01 at c2 ⊢
  generalize cmpI (cN k1 n1 s1) (cN k2 n2 s2) = m12 at c2 ⊢
  generalize cmpI (cN k0 n0 s0) (cN k2 n2 s2) = m02 at c2 ⊢
  generalize cK k0 n0 s0 = K0 at c3 ⊢
  generalize cK k1 n1 s1 = K1 at c3 ⊢
  generalize cK k2 n2 s2 = K2 at c3 ⊢
  obtain ⟨u1, u2, u3⟩ := c1
  obtain ⟨v1, v2, v3⟩ := c2
  by_cases h01 : K0 = K1
  · subst h01
    by_cases h12 : K0 = K2
    · subst h12
      simp only [if_true]
      by_cases h3 : K0 = 3
      · simp only [h3, if_true]; exact ⟨u1, u2, u3⟩
      · simp only [h3, if_false]; exact ⟨v1, v2, v3⟩
    · simp only [if_true, if_neg h12]
      unfold cmpI
      constructor <;> repeat' split
      all_goals omega
  · by_cases h12 : K1 = K2
    · subst h12
      simp only [if_true, if_neg h01]
      unfold cmpI
      constructor <;> repeat' split
      all_goals omega
    · by_cases h02 : K0 = K2
      · subst h02
        simp only [if_true, if_neg h01, if_neg h12]
        unfold cmpI
        constructor <;> repeat' split
        all_goals omega
      · simp only [if_neg h01, if_neg h12, if_neg h02]
        unfold cmpI
        constructor <;> repeat' split
        all_goals omega
/-- A collation in hand: it answers so at any two texts. -/
def CollIn (w : World) (K lv : Int) (sh : Bool) (p : Option Addr) (f : List UInt8 → List UInt8 → Int) : Prop :=
  ∀ (a b : ByteArray), a.size ≤ 100000 → b.size ≤ 100000 → CmpAt w K lv sh false p a b (f a.data.toList b.data.toList)
theorem CollIn.ext {w w' : World} {K lv : Int} {sh : Bool} {p : Option Addr} {f : List UInt8 → List UInt8 → Int} (h : CollIn w K lv sh p f) (hx : Ext w w') : CollIn w' K lv sh p f := fun a b ha hb => (h a b ha hb).ext hx
theorem cS_size (k n : Int) (s : ByteArray) : (cS k n s).size ≤ s.size := by
  unfold cS
  split
  · exact Nat.le_refl _
  · show (0 : Nat) ≤ _
    omega
def leK (k0 n0 : Int) (s0 : ByteArray) (k1 n1 : Int) (s1 : ByteArray) (f : List UInt8 → List UInt8 → Int) : Int := vOrd k0 n0 s0 k1 n1 s1 (f (cS k0 n0 s0).data.toList (cS k1 n1 s1).data.toList)
theorem order_in (k0 n0 : Int) (s0 : ByteArray) (k1 n1 : Int) (s1 : ByteArray) (K lv : Int) (sh : Bool) (p : Option Addr) (f : List UInt8 → List UInt8 → Int) (w : World) (h : CollIn w K lv sh p f) (h0 : s0.size ≤ 100000) (h1 : s1.size ≤ 100000) :
    Calls Tryz.prog 35 #[vV k0 n0 s0, vV k1 n1 s1, cV K lv sh false p] w fun e w' => e = .returned (.int .i64 (leK k0 n0 s0 k1 n1 s1 f)) ∧ Below w.heap.size w w' :=
  valorder_any k0 n0 s0 k1 n1 s1 K lv sh false p _ w fun _ => h _ _ (Nat.le_trans (cS_size _ _ _) h0) (Nat.le_trans (cS_size _ _ _) h1)
/-- What Make answers, as the laws of values want it. -/
def MakeIn (w : World) (e : Ending) (w' : World) : Prop :=
  (∃ K lv sh' p a1 a2 a3 a4 q1 q2 q3 f, e = .returned (.tuple #[cV K lv sh' false p, rV a1 a2 a3 a4 (.slice q1 q2 q3), .bool true]) ∧ CollIn w' K lv sh' p f ∧ Chain f) ∧ Below w.heap.size w w'
theorem make_in (kind level : Int) (sh : Bool) (w : World) (hG : ∀ W, Ext w W → Glob W) :
    Calls Tryz.prog 10 #[.int .i64 kind, .int .i64 level, .bool sh, .bool false, .string ⟨#[]⟩] w (MakeIn w) := by
  by_cases hk : kind = 1 ∨ kind = 2
  · refine Calls.mono (make_small kind level sh false ⟨#[]⟩ w hk) ?_
    rintro e w' ⟨rfl, hb⟩
    exact ⟨⟨kind, 0, false, none, _, _, _, _, _, _, _, collC kind 0 false false, rfl, fun a b ha hb2 => cmpAt_small kind 0 false none a b w' hk ha hb2 fun W hW => (hG W (Ext.trans hb hW)).tabs, chain_coll _ _ _ _⟩, hb⟩
  · refine Calls.mono (make_table kind level sh false w (fun h => hk (.inl h)) (fun h => hk (.inr h))) ?_
    rintro e w' ⟨⟨p, v, rfl, hp, hv⟩, hb⟩
    obtain ⟨l1, l3⟩ := lvl_13 level
    obtain ⟨a1, a2, a3, rfl⟩ := hv.slice
    exact ⟨⟨3, lvl level, sh, some ⟨p, 0, none⟩, _, _, _, _, _, _, _, collC 3 (lvl level) sh false, rfl, fun a b ha hb2 => cmpAt_table (lvl level) sh p a b w' l1 l3 hp ha hb2 fun W hW => (hG W (Ext.trans hb hW)).tabs, chain_coll _ _ _ _⟩, hb⟩
set_option maxHeartbeats 16000000 in
theorem law_chains (k0 n0 : Int) (s0 : ByteArray) (k1 n1 : Int) (s1 : ByteArray) (k2 n2 : Int) (s2 : ByteArray) (kind level : Int) (w : World) (hG : Glob w)
    (m0 : s0.size ≤ 140737488355328) (m1 : s1.size ≤ 140737488355328) (m2 : s2.size ≤ 140737488355328) :
    Calls Tryz.prog 7 #[vV k0 n0 s0, vV k1 n1 s1, vV k2 n2 s2, .int .i64 kind, .int .i64 level] w fun e w' => e = .returned (.bool true) ∧ Below w.heap.size w w' := by
  rw [show vV k0 n0 s0 = .agg #[.int .i64 k0, .int .i64 n0, .string s0] from rfl, show vV k1 n1 s1 = .agg #[.int .i64 k1, .int .i64 n1, .string s1] from rfl, show vV k2 n2 s2 = .agg #[.int .i64 k2, .int .i64 n2, .string s2] from rfl]
  go_enter Tryz.func7, Tryz.ntmps7
  obtain ⟨Z0, hZ0⟩ : ∃ Z : Int, Z = (s0.size : Int) := ⟨_, rfl⟩
  obtain ⟨Z1, hZ1⟩ : ∃ Z : Int, Z = (s1.size : Int) := ⟨_, rfl⟩
  obtain ⟨Z2, hZ2⟩ : ∃ Z : Int, Z = (s2.size : Int) := ⟨_, rfl⟩
  have z1 : wrap64 ((s0.size : Int) + (s1.size : Int)) = (s0.size : Int) + (s1.size : Int) := IntWalk.wrap64_in _ (by omega)
  have z2 : wrap64 ((s0.size : Int) + (s1.size : Int) + (s2.size : Int)) = (s0.size : Int) + (s1.size : Int) + (s2.size : Int) := IntWalk.wrap64_in _ (by omega)
  have hA := ((Blk.new w #[.int .i64 k0, .int .i64 n0, .string s0] 45 rfl).alloc (.cells #[.int .i64 k1, .int .i64 n1, .string s1] 45)).alloc (.cells #[.int .i64 k2, .int .i64 n2, .string s2] 45)
  have hB := (Blk.new (w.alloc (.cells #[.int .i64 k0, .int .i64 n0, .string s0] 45)) #[.int .i64 k1, .int .i64 n1, .string s1] 45 (n := w.heap.size + 1) (by simp)).alloc (.cells #[.int .i64 k2, .int .i64 n2, .string s2] 45)
  have hC := Blk.new ((w.alloc (.cells #[.int .i64 k0, .int .i64 n0, .string s0] 45)).alloc (.cells #[.int .i64 k1, .int .i64 n1, .string s1] 45)) #[.int .i64 k2, .int .i64 n2, .string s2] 45 (n := w.heap.size + 1 + 1) (by simp)
  have hx0 := (((Ext.refl w).alloc (.cells #[.int .i64 k0, .int .i64 n0, .string s0] 45)).alloc (.cells #[.int .i64 k1, .int .i64 n1, .string s1] 45)).alloc (.cells #[.int .i64 k2, .int .i64 n2, .string s2] 45)
  have HA := Lib.hid hA
  have HB := Lib.hid hB
  have HC := Lib.hid hC
  have HX := Lib.hid hx0
  have HG := Lib.hid hG
  clear hA hB hC hx0 hG
  by_cases hbig : (200 : Int) < (s0.size : Int) + (s1.size : Int) + (s2.size : Int)
  · go_wp2_with fail
    refine Calls.mono (valawake_any _ (HG.out.keep HX.out)) ?_
    rintro e w2 ⟨rfl, hb2⟩
    have HX2 := Lib.hid (Ext.trans HX.out hb2)
    clear hb2
    go_wp2_with fail
    go_ret
    exact ⟨rfl, HX2.out⟩
  · have hs0 : s0.size ≤ 100000 := by omega
    have hs1 : s1.size ≤ 100000 := by omega
    have hs2 : s2.size ≤ 100000 := by omega
    have hle : (s0.size : Int) + (s1.size : Int) + (s2.size : Int) ≤ 200 := by omega
    go_wp2_with fail
    clear z1 z2 hbig hle hZ0 hZ1 hZ2 m0 m1 m2
    generalize ((w.alloc (.cells #[.int .i64 k0, .int .i64 n0, .string s0] 45)).alloc (.cells #[.int .i64 k1, .int .i64 n1, .string s1] 45)).alloc (.cells #[.int .i64 k2, .int .i64 n2, .string s2] 45) = W0 at HA HB HC HX ⊢
    refine Calls.mono (make_in kind level true W0 fun W hW => HG.out.keep (Ext.trans HX.out hW)) ?_
    rintro e w1 ⟨⟨K, lv, sh, p, a1, a2, a3, a4, q1, q2, q3, f, rfl, hin, hch⟩, hb1⟩
    have HIN := Lib.hid hin
    have HCH := Lib.hid hch
    have HA1 := Lib.hid (HA.out.keep hb1)
    have HB1 := Lib.hid (HB.out.keep hb1)
    have HC1 := Lib.hid (HC.out.keep hb1)
    have HX1 := Lib.hid (Ext.trans HX.out hb1)
    clear hin hch hb1 HA HB HC HX
    rw [show cV K lv sh false p = .agg #[.int .i64 K, .int .i64 lv, .bool sh, .bool false, .pointer p] from rfl, show rV a1 a2 a3 a4 (.slice q1 q2 q3) = .agg #[.int .i64 a1, .int .i64 a2, .bool a3, .bool a4, .slice q1 q2 q3] from rfl]
    go_simp
    repeat (first | go_values | go_skip | go_guarded | go_step | go_upon)
    have hD := (Blk.new w1 #[.int .i64 K, .int .i64 lv, .bool sh, .bool false, .pointer p] 25 rfl).alloc (.cells #[.int .i64 a1, .int .i64 a2, .bool a3, .bool a4, .slice q1 q2 q3] 30)
    have HA2 := Lib.hid ((HA1.out.alloc (.cells #[.int .i64 K, .int .i64 lv, .bool sh, .bool false, .pointer p] 25)).alloc (.cells #[.int .i64 a1, .int .i64 a2, .bool a3, .bool a4, .slice q1 q2 q3] 30))
    have HB2 := Lib.hid ((HB1.out.alloc (.cells #[.int .i64 K, .int .i64 lv, .bool sh, .bool false, .pointer p] 25)).alloc (.cells #[.int .i64 a1, .int .i64 a2, .bool a3, .bool a4, .slice q1 q2 q3] 30))
    have HC2 := Lib.hid ((HC1.out.alloc (.cells #[.int .i64 K, .int .i64 lv, .bool sh, .bool false, .pointer p] 25)).alloc (.cells #[.int .i64 a1, .int .i64 a2, .bool a3, .bool a4, .slice q1 q2 q3] 30))
    have hx2 := ((Ext.refl w1).alloc (.cells #[.int .i64 K, .int .i64 lv, .bool sh, .bool false, .pointer p] 25)).alloc (.cells #[.int .i64 a1, .int .i64 a2, .bool a3, .bool a4, .slice q1 q2 q3] 30)
    have HX2 := Lib.hid (Ext.trans HX1.out hx2)
    have HIN2 := Lib.hid (HIN.out.ext hx2)
    generalize (w1.alloc (.cells #[.int .i64 K, .int .i64 lv, .bool sh, .bool false, .pointer p] 25)).alloc (.cells #[.int .i64 a1, .int .i64 a2, .bool a3, .bool a4, .slice q1 q2 q3] 30) = W2 at hD HA2 HB2 HC2 HX2 HIN2 hx2 ⊢
    generalize w1.heap.size = c at hD ⊢
    have HD := Lib.hid hD
    have KP := Lib.hid (show ∀ W, Ext W2 W → Calls Tryz.prog 35 #[.agg #[.int .i64 k0, .int .i64 n0, .string s0], .agg #[.int .i64 k1, .int .i64 n1, .string s1], .agg #[.int .i64 K, .int .i64 lv, .bool sh, .bool false, .pointer p]] W fun e w' => e = .returned (.int .i64 (leK k0 n0 s0 k1 n1 s1 f)) ∧ Below W.heap.size W w' from fun W hW => order_in k0 n0 s0 k1 n1 s1 K lv sh p f W (HIN2.out.ext hW) hs0 hs1)
    have KQ := Lib.hid (show ∀ W, Ext W2 W → Calls Tryz.prog 35 #[.agg #[.int .i64 k1, .int .i64 n1, .string s1], .agg #[.int .i64 k2, .int .i64 n2, .string s2], .agg #[.int .i64 K, .int .i64 lv, .bool sh, .bool false, .pointer p]] W fun e w' => e = .returned (.int .i64 (leK k1 n1 s1 k2 n2 s2 f)) ∧ Below W.heap.size W w' from fun W hW => order_in k1 n1 s1 k2 n2 s2 K lv sh p f W (HIN2.out.ext hW) hs1 hs2)
    have KR := Lib.hid (show ∀ W, Ext W2 W → Calls Tryz.prog 35 #[.agg #[.int .i64 k0, .int .i64 n0, .string s0], .agg #[.int .i64 k2, .int .i64 n2, .string s2], .agg #[.int .i64 K, .int .i64 lv, .bool sh, .bool false, .pointer p]] W fun e w' => e = .returned (.int .i64 (leK k0 n0 s0 k2 n2 s2 f)) ∧ Below W.heap.size W w' from fun W hW => order_in k0 n0 s0 k2 n2 s2 K lv sh p f W (HIN2.out.ext hW) hs0 hs2)
    have KA := Lib.hid (show ∀ W, Ext W2 W → Calls Tryz.prog 35 #[.agg #[.int .i64 k0, .int .i64 n0, .string s0], .agg #[.int .i64 k0, .int .i64 n0, .string s0], .agg #[.int .i64 K, .int .i64 lv, .bool sh, .bool false, .pointer p]] W fun e w' => e = .returned (.int .i64 (leK k0 n0 s0 k0 n0 s0 f)) ∧ Below W.heap.size W w' from fun W hW => order_in k0 n0 s0 k0 n0 s0 K lv sh p f W (HIN2.out.ext hW) hs0 hs0)
    rw [show leK k0 n0 s0 k0 n0 s0 f = 0 from vOrd_refl _ _ _ _ (HCH.out.refl _)] at KA
    have h3 : Chain3 (leK k0 n0 s0 k1 n1 s1 f) (leK k1 n1 s1 k2 n2 s2 f) (leK k0 n0 s0 k2 n2 s2 f) := vOrd_chain HCH.out k0 n0 s0 k1 n1 s1 k2 n2 s2
    have H3 := Lib.hid h3
    generalize leK k0 n0 s0 k1 n1 s1 f = P at KP H3
    generalize leK k1 n1 s1 k2 n2 s2 f = Q at KQ H3
    generalize leK k0 n0 s0 k2 n2 s2 f = R at KR H3
    clear hD hx2 h3 HA1 HB1 HC1 HX1 HIN HIN2 HCH
    have HF := Lib.hid (show ∀ W, Ext W2 W → (∀ o, W.cell? ⟨w.heap.size, o, none⟩ = (#[.int .i64 k0, .int .i64 n0, .string s0] : Array Value)[o]?) ∧ (∀ o, W.cell? ⟨w.heap.size + 1, o, none⟩ = (#[.int .i64 k1, .int .i64 n1, .string s1] : Array Value)[o]?) ∧ (∀ o, W.cell? ⟨w.heap.size + 1 + 1, o, none⟩ = (#[.int .i64 k2, .int .i64 n2, .string s2] : Array Value)[o]?) ∧ (∀ o, W.cell? ⟨c, o, none⟩ = (#[.int .i64 K, .int .i64 lv, .bool sh, .bool false, .pointer p] : Array Value)[o]?) from
      fun W hW => ⟨(HA2.out.keep hW).cell, (HB2.out.keep hW).cell, (HC2.out.keep hW).cell, (HD.out.keep hW).cell⟩)
    refine wp_par 15 (fun
        | 0 => fun v _ => v = .agg #[.int .i64 k0, .int .i64 n0, .string s0]
        | 1 => fun v _ => v = .agg #[.int .i64 k1, .int .i64 n1, .string s1]
        | 2 => fun v _ => v = .agg #[.int .i64 K, .int .i64 lv, .bool sh, .bool false, .pointer p]
        | 3 => fun v _ => v = .int .i64 P
        | 4 => fun v _ => v = .agg #[.int .i64 k1, .int .i64 n1, .string s1]
        | 5 => fun v _ => v = .agg #[.int .i64 k2, .int .i64 n2, .string s2]
        | 6 => fun v _ => v = .agg #[.int .i64 K, .int .i64 lv, .bool sh, .bool false, .pointer p]
        | 7 => fun v _ => v = .int .i64 Q
        | 8 => fun v _ => v = .agg #[.int .i64 k0, .int .i64 n0, .string s0]
        | 9 => fun v _ => v = .agg #[.int .i64 k2, .int .i64 n2, .string s2]
        | 10 => fun v _ => v = .agg #[.int .i64 K, .int .i64 lv, .bool sh, .bool false, .pointer p]
        | 11 => fun v _ => v = .int .i64 R
        | 12 => fun v _ => v = .int .i64 P
        | 13 => fun v _ => v = .int .i64 Q
        | 14 => fun v _ => v = .int .i64 R
        | _ => fun _ _ => True) (by kernel_rfl) (by kernel_rfl) (by kernel_rfl) ?_ ?_
    · simp (maxSteps := 20000000) only [List.take_succ_cons, List.take_zero, ParAll, Act.put, List.setIfInBounds_toArray, List.set_cons_succ, List.set_cons_zero]
      refine ⟨?_, ?_, ?_, ?_, ?_, ?_, ?_, ?_, ?_, ?_, ?_, ?_, ?_, ?_, ?_, trivial⟩
      · intro vals W hx hd
        have hW := HF.out W hx
        simp [PDeps, pdeps, Region.binds] at hd
        first
          | refine ParOb.plain rfl ?_
          | refine ParOb.wanted (by simp [Region.wanted, yielded, hd]) ?_
        go_simp
        exact ParPost.same fun _ _ => rfl
      · intro vals W hx hd
        have hW := HF.out W hx
        simp [PDeps, pdeps, Region.binds] at hd
        first
          | refine ParOb.plain rfl ?_
          | refine ParOb.wanted (by simp [Region.wanted, yielded, hd]) ?_
        go_simp
        exact ParPost.same fun _ _ => rfl
      · intro vals W hx hd
        have hW := HF.out W hx
        simp [PDeps, pdeps, Region.binds] at hd
        first
          | refine ParOb.plain rfl ?_
          | refine ParOb.wanted (by simp [Region.wanted, yielded, hd]) ?_
        go_simp
        exact ParPost.same fun _ _ => rfl
      · intro vals W hx hd
        have hW := HF.out W hx
        simp [PDeps, pdeps, Region.binds] at hd
        first
          | refine ParOb.plain rfl ?_
          | refine ParOb.wanted (by simp [Region.wanted, yielded, hd]) ?_
        go_simp
        refine Calls.mono (KP.out W hx) ?_
        rintro e w9 ⟨rfl, hb9⟩
        exact ⟨_, rfl, hb9, fun _ _ => rfl⟩
      · intro vals W hx hd
        have hW := HF.out W hx
        simp [PDeps, pdeps, Region.binds] at hd
        first
          | refine ParOb.plain rfl ?_
          | refine ParOb.wanted (by simp [Region.wanted, yielded, hd]) ?_
        go_simp
        exact ParPost.same fun _ _ => rfl
      · intro vals W hx hd
        have hW := HF.out W hx
        simp [PDeps, pdeps, Region.binds] at hd
        first
          | refine ParOb.plain rfl ?_
          | refine ParOb.wanted (by simp [Region.wanted, yielded, hd]) ?_
        go_simp
        exact ParPost.same fun _ _ => rfl
      · intro vals W hx hd
        have hW := HF.out W hx
        simp [PDeps, pdeps, Region.binds] at hd
        first
          | refine ParOb.plain rfl ?_
          | refine ParOb.wanted (by simp [Region.wanted, yielded, hd]) ?_
        go_simp
        exact ParPost.same fun _ _ => rfl
      · intro vals W hx hd
        have hW := HF.out W hx
        simp [PDeps, pdeps, Region.binds] at hd
        first
          | refine ParOb.plain rfl ?_
          | refine ParOb.wanted (by simp [Region.wanted, yielded, hd]) ?_
        go_simp
        refine Calls.mono (KQ.out W hx) ?_
        rintro e w9 ⟨rfl, hb9⟩
        exact ⟨_, rfl, hb9, fun _ _ => rfl⟩
      · intro vals W hx hd
        have hW := HF.out W hx
        simp [PDeps, pdeps, Region.binds] at hd
        first
          | refine ParOb.plain rfl ?_
          | refine ParOb.wanted (by simp [Region.wanted, yielded, hd]) ?_
        go_simp
        exact ParPost.same fun _ _ => rfl
      · intro vals W hx hd
        have hW := HF.out W hx
        simp [PDeps, pdeps, Region.binds] at hd
        first
          | refine ParOb.plain rfl ?_
          | refine ParOb.wanted (by simp [Region.wanted, yielded, hd]) ?_
        go_simp
        exact ParPost.same fun _ _ => rfl
      · intro vals W hx hd
        have hW := HF.out W hx
        simp [PDeps, pdeps, Region.binds] at hd
        first
          | refine ParOb.plain rfl ?_
          | refine ParOb.wanted (by simp [Region.wanted, yielded, hd]) ?_
        go_simp
        exact ParPost.same fun _ _ => rfl
      · intro vals W hx hd
        have hW := HF.out W hx
        simp [PDeps, pdeps, Region.binds] at hd
        first
          | refine ParOb.plain rfl ?_
          | refine ParOb.wanted (by simp [Region.wanted, yielded, hd]) ?_
        go_simp
        refine Calls.mono (KR.out W hx) ?_
        rintro e w9 ⟨rfl, hb9⟩
        exact ⟨_, rfl, hb9, fun _ _ => rfl⟩
      · intro vals W hx hd
        have hW := HF.out W hx
        simp [PDeps, pdeps, Region.binds] at hd
        first
          | refine ParOb.plain rfl ?_
          | refine ParOb.wanted (by simp [Region.wanted, yielded, hd]) ?_
        go_simp
        exact ParPost.same fun _ _ => rfl
      · intro vals W hx hd
        have hW := HF.out W hx
        simp [PDeps, pdeps, Region.binds] at hd
        first
          | refine ParOb.plain rfl ?_
          | refine ParOb.wanted (by simp [Region.wanted, yielded, hd]) ?_
        go_simp
        exact ParPost.same fun _ _ => rfl
      · intro vals W hx hd
        have hW := HF.out W hx
        simp [PDeps, pdeps, Region.binds] at hd
        first
          | refine ParOb.plain rfl ?_
          | refine ParOb.wanted (by simp [Region.wanted, yielded, hd]) ?_
        go_simp
        exact ParPost.same fun _ _ => rfl
    intro vals W hx hf
    simp (maxSteps := 20000000) only [ParFacts, List.take_succ_cons, List.take_zero, and_true] at hf
    simp (maxSteps := 20000000) only [List.drop_succ_cons, List.drop_zero, List.take_succ_cons, List.take_zero, ParEnd, Act.put, List.setIfInBounds_toArray, List.set_cons_succ, List.set_cons_zero, hf]
    clear hf
    have HX3 := Lib.hid (Ext.trans HX2.out hx)
    obtain ⟨ca, fa⟩ := (HA2.out.keep hx).facts
    obtain ⟨cd, fd⟩ := (HD.out.keep hx).facts
    have KA3 := Lib.hid (KA.out W hx)
    clear hx HF KP KQ KR KA HA2 HB2 HC2 HX2 HD
    rename_i W3
    go_wp2_with fail
    refine Calls.mono KA3.out ?_
    rintro e w4 ⟨rfl, hb4⟩
    have HX4 := Lib.hid (Ext.trans HX3.out hb4)
    clear hb4 KA3 HX3
    go_wp2_with fail
    all_goals obtain ⟨u1, u2, u3⟩ := H3.out
    all_goals
      first
        | (exfalso; omega)
        | (clear u1 u2 u3
           refine Calls.mono (valawake_any _ (HG.out.keep HX4.out)) ?_
           rintro e w5 ⟨rfl, hb5⟩
           have HX5 := Lib.hid (Ext.trans HX4.out hb5)
           clear hb5
           go_wp2_with fail
           go_ret
           refine ⟨?_, HX5.out⟩
           first | rfl | (simp <;> omega))
end Go.Proofs.YtipokgedmfnlaaaGreatDoor
