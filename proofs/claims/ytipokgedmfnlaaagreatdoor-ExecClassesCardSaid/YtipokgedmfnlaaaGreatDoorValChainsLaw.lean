/-
 The law of chains of values, walked.
-/
import Derived.Test.YtipokgedmfnlaaaGreatDoorMake
import Derived.Test.YtipokgedmfnlaaaGreatDoorCmp
namespace Go.Proofs.YtipokgedmfnlaaaGreatDoor
open Go.RowKit Go.Lib
set_option maxRecDepth 100000

theorem chain_cmpI : Chain cmpI := by
 refine ⟨cmpI_eq, fun x y => ?_, fun x y => ?_, fun x y z h => ?_, fun x y z h k => ?_⟩
 all_goals
  unfold cmpI at *
  repeat' split at *
  all_goals omega
/-- Three in one order. -/
structure Chain3 (p q r : Int) : Prop where
 up : p > 0 ∨ q > 0 ∨ r ≤ 0
 le : p ≠ 0 ∨ q = r
 ri : q ≠ 0 ∨ p = r
theorem Chain.three {α : Type} {f : α → α → Int} (h : Chain f) (a b d : α) : Chain3 (f a b) (f b d) (f a d) := by
 have e1 := h.eql a b d
 have e2 := h.eql b d a
 have s1 := h.swap a b
 have s2 := h.swap a d
 have t := h.trans a b d
 have v1 := h.vals a b
 have v2 := h.vals b d
 have v3 := h.vals a d
 refine ⟨?_, ?_, ?_⟩ <;> omega
theorem vOrd_refl (k n : Int) (s : ByteArray) (r : Int) (h : r = 0) : vOrd k n s k n s r = 0 := by
 unfold vOrd alikeV
 rw [if_pos rfl, cmpI_eq, h]
 simp
theorem vOrd_chain {f : List UInt8 → List UInt8 → Int} (hf : Chain f) (k0 n0 : Int) (s0 : ByteArray) (k1 n1 : Int) (s1 : ByteArray) (k2 n2 : Int) (s2 : ByteArray) :
  Chain3 (vOrd k0 n0 s0 k1 n1 s1 (f (cS k0 n0 s0).data.toList (cS k1 n1 s1).data.toList)) (vOrd k1 n1 s1 k2 n2 s2 (f (cS k1 n1 s1).data.toList (cS k2 n2 s2).data.toList)) (vOrd k0 n0 s0 k2 n2 s2 (f (cS k0 n0 s0).data.toList (cS k2 n2 s2).data.toList)) := by
 have c1 := hf.three (cS k0 n0 s0).data.toList (cS k1 n1 s1).data.toList (cS k2 n2 s2).data.toList
 have c2 := chain_cmpI.three (cN k0 n0 s0) (cN k1 n1 s1) (cN k2 n2 s2)
 have c3 := chain_cmpI.three (cK k0 n0 s0) (cK k1 n1 s1) (cK k2 n2 s2)
 unfold vOrd alikeV
 generalize f (cS k0 n0 s0).data.toList (cS k1 n1 s1).data.toList = f01 at c1 ⊢
 generalize f (cS k1 n1 s1).data.toList (cS k2 n2 s2).data.toList = f12 at c1 ⊢
 generalize f (cS k0 n0 s0).data.toList (cS k2 n2 s2).data.toList = f02 at c1 ⊢
 generalize cmpI (cN k0 n0 s0) (cN k1 n1 s1) = m01 at c2 ⊢
 generalize cmpI (cN k1 n1 s1) (cN k2 n2 s2) = m12 at c2 ⊢
 generalize cmpI (cN k0 n0 s0) (cN k2 n2 s2) = m02 at c2 ⊢
 generalize cK k0 n0 s0 = K0 at c3 ⊢
 generalize cK k1 n1 s1 = K1 at c3 ⊢
 generalize cK k2 n2 s2 = K2 at c3 ⊢
 obtain ⟨u1, u2, u3⟩ := c1
 obtain ⟨v1, v2, v3⟩ := c2
 by_cases h01 : K0 = K1
 ·subst h01
  by_cases h12 : K0 = K2
  ·subst h12
   simp only [if_true]
   by_cases h3 : K0 = 3
   ·simp only [h3, if_true]; exact ⟨u1, u2, u3⟩
   ·simp only [h3, if_false]; exact ⟨v1, v2, v3⟩
  ·simp only [if_true, if_neg h12]
   unfold cmpI
   constructor <;> repeat' split
   all_goals omega
 ·by_cases h12 : K1 = K2
  ·subst h12
   simp only [if_true, if_neg h01]
   unfold cmpI
   constructor <;> repeat' split
   all_goals omega
  ·by_cases h02 : K0 = K2
   ·subst h02
    simp only [if_true, if_neg h01, if_neg h12]
    unfold cmpI
    constructor <;> repeat' split
    all_goals omega
   ·simp only [if_neg h01, if_neg h12, if_neg h02]
    unfold cmpI
    constructor <;> repeat' split
    all_goals omega
/-- A collation in hand: it answers so at any two texts. -/
def CollIn (w : World) (K lv : Int) (sh : Bool) (p : Option Addr) (f : List UInt8 → List UInt8 → Int) : Prop :=
 ∀ (a b : ByteArray), a.size ≤ 100000 → b.size ≤ 100000 → CmpAt w K lv sh false p a b (f a.data.toList b.data.toList)
theorem CollIn.ext {w w' : World} {K lv : Int} {sh : Bool} {p : Option Addr} {f : List UInt8 → List UInt8 → Int} (h : CollIn w K lv sh p f) (hx : Ext w w') : CollIn w' K lv sh p f := fun a b ha hb => (h a b ha hb).ext hx
theorem cS_size (k n : Int) (s : ByteArray) : (cS k n s).size ≤ s.size := by
 unfold cS
 split
 ·exact Nat.le_refl _
 ·show (0 : Nat) ≤ _
  omega
def leK (k0 n0 : Int) (s0 : ByteArray) (k1 n1 : Int) (s1 : ByteArray) (f : List UInt8 → List UInt8 → Int) : Int := vOrd k0 n0 s0 k1 n1 s1 (f (cS k0 n0 s0).data.toList (cS k1 n1 s1).data.toList)
theorem order_in (k0 n0 : Int) (s0 : ByteArray) (k1 n1 : Int) (s1 : ByteArray) (K lv : Int) (sh : Bool) (p : Option Addr) (f : List UInt8 → List UInt8 → Int) (w : World) (h : CollIn w K lv sh p f) (h0 : s0.size ≤ 100000) (h1 : s1.size ≤ 100000) :
  Calls Tryz.prog 35 #[vV k0 n0 s0, vV k1 n1 s1, cV K lv sh false p] w fun e w' => e = .returned (.int .i64 (leK k0 n0 s0 k1 n1 s1 f)) ∧ Below w.heap.size w w' :=
 valorder_any k0 n0 s0 k1 n1 s1 K lv sh false p _ w fun _ => h _ _ (Nat.le_trans (cS_size _ _ _) h0) (Nat.le_trans (cS_size _ _ _) h1)
/-- What Make answers, as the laws of values want it. -/
def MakeIn (w : World) (e : Ending) (w' : World) : Prop :=
 (∃ K lv sh' p a1 a2 a3 a4 q1 q2 q3 f, e = .returned (.tuple #[cV K lv sh' false p, rV a1 a2 a3 a4 (.slice q1 q2 q3), .bool true]) ∧ CollIn w' K lv sh' p f ∧ Chain f) ∧ Below w.heap.size w w'
theorem make_in (kind level : Int) (sh : Bool) (w : World) (hG : ∀ W, Ext w W → Glob W) :
  Calls Tryz.prog 10 #[.int .i64 kind, .int .i64 level, .bool sh, .bool false, .string ⟨#[]⟩] w (MakeIn w) := by
 by_cases hk : kind = 1 ∨ kind = 2
 ·refine Calls.mono (make_small kind level sh false ⟨#[]⟩ w hk) ?_
  rintro e w' ⟨rfl, hb⟩
  exact ⟨⟨kind, 0, false, none, _, _, _, _, _, _, _, collC kind 0 false false, rfl, fun a b ha hb2 => cmpAt_small kind 0 false none a b w' hk ha hb2 fun W hW => (hG W (Ext.trans hb hW)).tabs, chain_coll _ _ _ _⟩, hb⟩
 ·refine Calls.mono (make_table kind level sh false w (fun h => hk (.inl h)) (fun h => hk (.inr h))) ?_
  rintro e w' ⟨⟨p, v, rfl, hp, hv⟩, hb⟩
  obtain ⟨l1, l3⟩ := lvl_13 level
  obtain ⟨a1, a2, a3, rfl⟩ := hv.slice
  exact ⟨⟨3, lvl level, sh, some ⟨p, 0, none⟩, _, _, _, _, _, _, _, collC 3 (lvl level) sh false, rfl, fun a b ha hb2 => cmpAt_table (lvl level) sh p a b w' l1 l3 hp ha hb2 fun W hW => (hG W (Ext.trans hb hW)).tabs, chain_coll _ _ _ _⟩, hb⟩
end Go.Proofs.YtipokgedmfnlaaaGreatDoor
