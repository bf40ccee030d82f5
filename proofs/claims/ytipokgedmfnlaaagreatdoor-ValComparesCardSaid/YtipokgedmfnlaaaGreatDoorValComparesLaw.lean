/-
  The law of compared values, walked: the program's way and the document's are one.
-/
import Derived.Test.YtipokgedmfnlaaaGreatDoorValChainsLaw
import Derived.Test.YtipokgedmfnlaaaGreatDoorDocK
import Derived.Test.YtipokgedmfnlaaaGreatDoorDocL
namespace Go.Proofs.YtipokgedmfnlaaaGreatDoor
open Go.RowKit Go.Lib
set_option maxRecDepth 100000

theorem lookS (c : Nat) : lookE rootS c = rootAt c := by
  unfold lookE
  cases h : rootS.find? (fun x => x.1 == c) with
  | some x =>
    have h1 := List.find?_some h
    have h2 := List.mem_of_find?_eq_some h
    have h3 : x.1 = c := by simpa using h1
    have h4 : (c, x.2) ∈ rootL := by rw [← h3]; exact rootS_mem.1 x h2
    exact (rootAt_mem.2 h4).symm
  | none =>
    cases h2 : rootAt c with
    | none => rfl
    | some l =>
      have h3 := rootS_mem.2 _ (rootAt_mem.1 h2)
      have h4 := List.find?_eq_none.1 h _ h3
      exact absurd (beq_self_eq_true c) h4
theorem elsL_root (cs : List Nat) : elsL rootS cs = els cs := by
  unfold elsL els
  congr 1
  funext c
  rw [lookS]
  rfl
theorem chain_vals {α : Type} {f : α → α → Int} (h : Chain f) (x y : α) : -1 ≤ f x y ∧ f x y ≤ 1 := by
  have v := h.vals x y
  omega
theorem leK_swap {f : List UInt8 → List UInt8 → Int} (hf : Chain f) (k0 n0 : Int) (s0 : ByteArray) (k1 n1 : Int) (s1 : ByteArray) : leK k1 n1 s1 k0 n0 s0 f = -leK k0 n0 s0 k1 n1 s1 f := by
  unfold leK vOrd alikeV
  by_cases h : cK k0 n0 s0 = cK k1 n1 s1
  · rw [if_pos h, if_pos h.symm, h]
    by_cases h3 : cK k1 n1 s1 = 3
    · rw [if_pos h3, if_pos h3]; exact hf.swap _ _
    · rw [if_neg h3, if_neg h3]; exact chain_cmpI.swap _ _
  · rw [if_neg h, if_neg (fun e => h e.symm)]; exact chain_cmpI.swap _ _
theorem leK_vals {f : List UInt8 → List UInt8 → Int} (hf : Chain f) (k0 n0 : Int) (s0 : ByteArray) (k1 n1 : Int) (s1 : ByteArray) : -1 ≤ leK k0 n0 s0 k1 n1 s1 f ∧ leK k0 n0 s0 k1 n1 s1 f ≤ 1 := by
  unfold leK vOrd alikeV
  split
  · split
    · exact chain_vals hf _ _
    · exact chain_vals chain_cmpI _ _
  · exact chain_vals chain_cmpI _ _
theorem vCmp_tuple (k n : Int) (s : ByteArray) (k' n' : Int) (s' : ByteArray) (r : Int) : ∃ (p : Int) (q : Bool) (e : Int), vCmp k n s k' n' s' r = .tuple #[.int .i64 p, .bool q, .int .i64 e] := by
  unfold vCmp
  split
  · exact ⟨_, _, _, rfl⟩
  · split
    · exact ⟨_, _, _, rfl⟩
    · exact ⟨_, _, _, rfl⟩
/-- The document's collation in hand. -/
def CollInR (w : World) (x : Array Value) (f : List UInt8 → List UInt8 → Int) : Prop :=
  ∀ (a b : ByteArray), a.size ≤ 10000 → b.size ≤ 10000 → CmpAtR w x a b (f a.data.toList b.data.toList)
theorem CollInR.ext {w w' : World} {x : Array Value} {f : List UInt8 → List UInt8 → Int} (h : CollInR w x f) (hx : Ext w w') : CollInR w' x f := fun a b ha hb => (h a b ha hb).ext hx
/-- What Make answers: two collations of one way. -/
def MakeBoth (w : World) (e : Ending) (w' : World) : Prop :=
  (∃ K lv sh p q1 q2 q3 f, e = .returned (.tuple #[cV K lv sh false p, rV K lv sh false (.slice q1 q2 q3), .bool true]) ∧ CollIn w' K lv sh p f ∧ CollInR w' #[.int .i64 K, .int .i64 lv, .bool sh, .bool false, .slice q1 q2 q3] f ∧ Chain f) ∧ Below w.heap.size w w'
theorem make_both (kind level : Int) (sh : Bool) (w : World) (hG : ∀ W, Ext w W → Glob W) :
    Calls Tryz.prog 10 #[.int .i64 kind, .int .i64 level, .bool sh, .bool false, .string ⟨#[]⟩] w (MakeBoth w) := by
  by_cases hk : kind = 1 ∨ kind = 2
  · refine Calls.mono (make_small kind level sh false ⟨#[]⟩ w hk) ?_
    rintro e w' ⟨rfl, hb⟩
    refine ⟨⟨kind, 0, false, none, _, _, _, collC kind 0 false false, rfl, fun a b ha hb2 => cmpAt_small kind 0 false none a b w' hk ha hb2 fun W hW => (hG W (Ext.trans hb hW)).tabs, ?_, chain_coll _ _ _ _⟩, hb⟩
    intro a b ha hb2 W hW
    rcases hk with rfl | rfl
    · exact cmpR_bin 1 0 false false none 0 0 a b W (by decide) (by decide)
    · exact cmpR_fold 0 false false none 0 0 a b W (by omega) (by omega)
  · refine Calls.mono (make_table kind level sh false w (fun h => hk (.inl h)) (fun h => hk (.inr h))) ?_
    rintro e w' ⟨⟨p, v, rfl, hp, hv⟩, hb⟩
    obtain ⟨l1, l3⟩ := lvl_13 level
    obtain ⟨a1, a2, a3, rfl⟩ := hv.slice
    refine ⟨⟨3, lvl level, sh, some ⟨p, 0, none⟩, _, _, _, collC 3 (lvl level) sh false, rfl, fun a b ha hb2 => cmpAt_table (lvl level) sh p a b w' l1 l3 hp ha hb2 fun W hW => (hG W (Ext.trans hb hW)).tabs, ?_, chain_coll _ _ _ _⟩, hb⟩
    intro a b ha hb2 W hW
    have h := cmpR_table (lvl level) sh (.slice a1 a2 a3) rootS a b W ⟨l1, l3⟩ (hv.ext hW) (by rw [rootS_length]; omega) (fun y hy => (rootS_good y hy).1) ha hb2
    rw [elsL_root, elsL_root] at h
    exact h
theorem cmp_in (k0 n0 : Int) (s0 : ByteArray) (k1 n1 : Int) (s1 : ByteArray) (K lv : Int) (sh : Bool) (p : Option Addr) (f : List UInt8 → List UInt8 → Int) (w : World) (h : CollIn w K lv sh p f) (h0 : s0.size ≤ 10000) (h1 : s1.size ≤ 10000) :
    Calls Tryz.prog 33 #[vV k0 n0 s0, vV k1 n1 s1, cV K lv sh false p] w fun e w' => e = .returned (vCmp k0 n0 s0 k1 n1 s1 (f (cS k0 n0 s0).data.toList (cS k1 n1 s1).data.toList)) ∧ Below w.heap.size w w' :=
  valcmp_any k0 n0 s0 k1 n1 s1 K lv sh false p _ w fun _ => h _ _ (Nat.le_trans (cS_size _ _ _) (by omega)) (Nat.le_trans (cS_size _ _ _) (by omega))
theorem same_in (k0 n0 : Int) (s0 : ByteArray) (k1 n1 : Int) (s1 : ByteArray) (K lv : Int) (sh : Bool) (p : Option Addr) (f : List UInt8 → List UInt8 → Int) (w : World) (h : CollIn w K lv sh p f) (h0 : s0.size ≤ 10000) (h1 : s1.size ≤ 10000) :
    Calls Tryz.prog 36 #[vV k0 n0 s0, vV k1 n1 s1, cV K lv sh false p] w fun e w' => e = .returned (.bool (leK k0 n0 s0 k1 n1 s1 f == 0)) ∧ Below w.heap.size w w' :=
  valsame_any k0 n0 s0 k1 n1 s1 K lv sh false p _ w fun _ => h _ _ (Nat.le_trans (cS_size _ _ _) (by omega)) (Nat.le_trans (cS_size _ _ _) (by omega))
theorem cmpR_in (k0 n0 : Int) (s0 : ByteArray) (k1 n1 : Int) (s1 : ByteArray) (K lv : Int) (sh : Bool) (q1 : Option Addr) (q2 q3 : Nat) (f : List UInt8 → List UInt8 → Int) (w : World) (h : CollInR w #[.int .i64 K, .int .i64 lv, .bool sh, .bool false, .slice q1 q2 q3] f) (h0 : s0.size ≤ 10000) (h1 : s1.size ≤ 10000) :
    Calls Tryz.prog 34 #[vV k0 n0 s0, vV k1 n1 s1, .agg #[.int .i64 K, .int .i64 lv, .bool sh, .bool false, .slice q1 q2 q3]] w fun e w' => e = .returned (vCmp k0 n0 s0 k1 n1 s1 (f (cS k0 n0 s0).data.toList (cS k1 n1 s1).data.toList)) ∧ Below w.heap.size w w' :=
  refcmp_any k0 n0 s0 k1 n1 s1 K lv sh false q1 q2 q3 _ w fun _ => h _ _ (Nat.le_trans (cS_size _ _ _) h0) (Nat.le_trans (cS_size _ _ _) h1)
theorem orderR_in (k0 n0 : Int) (s0 : ByteArray) (k1 n1 : Int) (s1 : ByteArray) (K lv : Int) (sh : Bool) (q1 : Option Addr) (q2 q3 : Nat) (f : List UInt8 → List UInt8 → Int) (w : World) (h : CollInR w #[.int .i64 K, .int .i64 lv, .bool sh, .bool false, .slice q1 q2 q3] f) (h0 : s0.size ≤ 10000) (h1 : s1.size ≤ 10000) :
    Calls Tryz.prog 15 #[vV k0 n0 s0, vV k1 n1 s1, .agg #[.int .i64 K, .int .i64 lv, .bool sh, .bool false, .slice q1 q2 q3]] w fun e w' => e = .returned (.int .i64 (leK k0 n0 s0 k1 n1 s1 f)) ∧ Below w.heap.size w w' :=
  reforder_any k0 n0 s0 k1 n1 s1 K lv sh false q1 q2 q3 _ w fun _ => h _ _ (Nat.le_trans (cS_size _ _ _) h0) (Nat.le_trans (cS_size _ _ _) h1)
set_option maxHeartbeats 16000000 in
theorem law_compares (k0 n0 : Int) (s0 : ByteArray) (k1 n1 : Int) (s1 : ByteArray) (kind level : Int) (w : World) (hG : Glob w)
    (m0 : s0.size ≤ 140737488355328) (m1 : s1.size ≤ 140737488355328) :
    Calls Tryz.prog 6 #[vV k0 n0 s0, vV k1 n1 s1, .int .i64 kind, .int .i64 level] w fun e w' => e = .returned (.bool true) ∧ Below w.heap.size w w' := by
  rw [show vV k0 n0 s0 = .agg #[.int .i64 k0, .int .i64 n0, .string s0] from rfl, show vV k1 n1 s1 = .agg #[.int .i64 k1, .int .i64 n1, .string s1] from rfl]
  go_enter Tryz.func6, Tryz.ntmps6
  obtain ⟨Z0, hZ0⟩ : ∃ Z : Int, Z = (s0.size : Int) := ⟨_, rfl⟩
  obtain ⟨Z1, hZ1⟩ : ∃ Z : Int, Z = (s1.size : Int) := ⟨_, rfl⟩
  have z1 : wrap64 ((s0.size : Int) + (s1.size : Int)) = (s0.size : Int) + (s1.size : Int) := IntWalk.wrap64_in _ (by omega)
  have hA := (Blk.new w #[.int .i64 k0, .int .i64 n0, .string s0] 45 rfl).alloc (.cells #[.int .i64 k1, .int .i64 n1, .string s1] 45)
  have hB := Blk.new (w.alloc (.cells #[.int .i64 k0, .int .i64 n0, .string s0] 45)) #[.int .i64 k1, .int .i64 n1, .string s1] 45 (n := w.heap.size + 1) (by simp)
  have hx0 := ((Ext.refl w).alloc (.cells #[.int .i64 k0, .int .i64 n0, .string s0] 45)).alloc (.cells #[.int .i64 k1, .int .i64 n1, .string s1] 45)
  have HA := Lib.hid hA
  have HB := Lib.hid hB
  have HX := Lib.hid hx0
  have HG := Lib.hid hG
  clear hA hB hx0 hG
  by_cases hbig : (200 : Int) < (s0.size : Int) + (s1.size : Int)
  · go_wp2_with fail
    refine Calls.mono (valawake_any _ (HG.out.keep HX.out)) ?_
    rintro e w2 ⟨rfl, hb2⟩
    have HX2 := Lib.hid (Ext.trans HX.out hb2)
    clear hb2
    go_wp2_with fail
    go_ret
    exact ⟨rfl, HX2.out⟩
  · have hs0 : s0.size ≤ 10000 := by omega
    have hs1 : s1.size ≤ 10000 := by omega
    have hle : (s0.size : Int) + (s1.size : Int) ≤ 200 := by omega
    go_wp2_with fail
    clear z1 hbig hle hZ0 hZ1 m0 m1
    generalize (w.alloc (.cells #[.int .i64 k0, .int .i64 n0, .string s0] 45)).alloc (.cells #[.int .i64 k1, .int .i64 n1, .string s1] 45) = W0 at HA HB HX ⊢
    refine Calls.mono (make_both kind level false W0 fun W hW => HG.out.keep (Ext.trans HX.out hW)) ?_
    rintro e w1 ⟨⟨K, lv, sh, p, q1, q2, q3, f, rfl, hin, hinR, hch⟩, hb1⟩
    have HIN := Lib.hid hin
    have HINR := Lib.hid hinR
    have HCH := Lib.hid hch
    have HA1 := Lib.hid (HA.out.keep hb1)
    have HB1 := Lib.hid (HB.out.keep hb1)
    have HX1 := Lib.hid (Ext.trans HX.out hb1)
    clear hin hinR hch hb1 HA HB HX
    rw [show cV K lv sh false p = .agg #[.int .i64 K, .int .i64 lv, .bool sh, .bool false, .pointer p] from rfl, show rV K lv sh false (.slice q1 q2 q3) = .agg #[.int .i64 K, .int .i64 lv, .bool sh, .bool false, .slice q1 q2 q3] from rfl]
    go_simp
    repeat (first | go_values | go_skip | go_guarded | go_step | go_upon)
    have hD := (Blk.new w1 #[.int .i64 K, .int .i64 lv, .bool sh, .bool false, .pointer p] 25 rfl).alloc (.cells #[.int .i64 K, .int .i64 lv, .bool sh, .bool false, .slice q1 q2 q3] 30)
    have hE := Blk.new (w1.alloc (.cells #[.int .i64 K, .int .i64 lv, .bool sh, .bool false, .pointer p] 25)) #[.int .i64 K, .int .i64 lv, .bool sh, .bool false, .slice q1 q2 q3] 30 (n := w1.heap.size + 1) (by simp)
    have HA2 := Lib.hid ((HA1.out.alloc (.cells #[.int .i64 K, .int .i64 lv, .bool sh, .bool false, .pointer p] 25)).alloc (.cells #[.int .i64 K, .int .i64 lv, .bool sh, .bool false, .slice q1 q2 q3] 30))
    have HB2 := Lib.hid ((HB1.out.alloc (.cells #[.int .i64 K, .int .i64 lv, .bool sh, .bool false, .pointer p] 25)).alloc (.cells #[.int .i64 K, .int .i64 lv, .bool sh, .bool false, .slice q1 q2 q3] 30))
    have hx2 := ((Ext.refl w1).alloc (.cells #[.int .i64 K, .int .i64 lv, .bool sh, .bool false, .pointer p] 25)).alloc (.cells #[.int .i64 K, .int .i64 lv, .bool sh, .bool false, .slice q1 q2 q3] 30)
    have HX2 := Lib.hid (Ext.trans HX1.out hx2)
    have HIN2 := Lib.hid (HIN.out.ext hx2)
    have HINR2 := Lib.hid (HINR.out.ext hx2)
    generalize (w1.alloc (.cells #[.int .i64 K, .int .i64 lv, .bool sh, .bool false, .pointer p] 25)).alloc (.cells #[.int .i64 K, .int .i64 lv, .bool sh, .bool false, .slice q1 q2 q3] 30) = W2 at hD hE HA2 HB2 HX2 HIN2 HINR2 hx2 ⊢
    generalize w1.heap.size = c at hD hE ⊢
    have HD := Lib.hid hD
    have HE := Lib.hid hE
    obtain ⟨P, Q, E, hT⟩ := vCmp_tuple k0 n0 s0 k1 n1 s1 (f (cS k0 n0 s0).data.toList (cS k1 n1 s1).data.toList)
    have KC := Lib.hid (show ∀ W, Ext W2 W → Calls Tryz.prog 33 #[.agg #[.int .i64 k0, .int .i64 n0, .string s0], .agg #[.int .i64 k1, .int .i64 n1, .string s1], .agg #[.int .i64 K, .int .i64 lv, .bool sh, .bool false, .pointer p]] W fun e w' => e = .returned (.tuple #[.int .i64 P, .bool Q, .int .i64 E]) ∧ Below W.heap.size W w' from fun W hW => hT ▸ cmp_in k0 n0 s0 k1 n1 s1 K lv sh p f W (HIN2.out.ext hW) hs0 hs1)
    have KCR := Lib.hid (show ∀ W, Ext W2 W → Calls Tryz.prog 34 #[.agg #[.int .i64 k0, .int .i64 n0, .string s0], .agg #[.int .i64 k1, .int .i64 n1, .string s1], .agg #[.int .i64 K, .int .i64 lv, .bool sh, .bool false, .slice q1 q2 q3]] W fun e w' => e = .returned (.tuple #[.int .i64 P, .bool Q, .int .i64 E]) ∧ Below W.heap.size W w' from fun W hW => hT ▸ cmpR_in k0 n0 s0 k1 n1 s1 K lv sh q1 q2 q3 f W (HINR2.out.ext hW) hs0 hs1)
    have KOR := Lib.hid (show ∀ W, Ext W2 W → Calls Tryz.prog 15 #[.agg #[.int .i64 k0, .int .i64 n0, .string s0], .agg #[.int .i64 k1, .int .i64 n1, .string s1], .agg #[.int .i64 K, .int .i64 lv, .bool sh, .bool false, .slice q1 q2 q3]] W fun e w' => e = .returned (.int .i64 (leK k0 n0 s0 k1 n1 s1 f)) ∧ Below W.heap.size W w' from fun W hW => orderR_in k0 n0 s0 k1 n1 s1 K lv sh q1 q2 q3 f W (HINR2.out.ext hW) hs0 hs1)
    have KO := Lib.hid (show ∀ W, Ext W2 W → Calls Tryz.prog 35 #[.agg #[.int .i64 k0, .int .i64 n0, .string s0], .agg #[.int .i64 k1, .int .i64 n1, .string s1], .agg #[.int .i64 K, .int .i64 lv, .bool sh, .bool false, .pointer p]] W fun e w' => e = .returned (.int .i64 (leK k0 n0 s0 k1 n1 s1 f)) ∧ Below W.heap.size W w' from fun W hW => order_in k0 n0 s0 k1 n1 s1 K lv sh p f W (HIN2.out.ext hW) (by omega) (by omega))
    have KO2 := Lib.hid (show ∀ W, Ext W2 W → Calls Tryz.prog 35 #[.agg #[.int .i64 k1, .int .i64 n1, .string s1], .agg #[.int .i64 k0, .int .i64 n0, .string s0], .agg #[.int .i64 K, .int .i64 lv, .bool sh, .bool false, .pointer p]] W fun e w' => e = .returned (.int .i64 (-leK k0 n0 s0 k1 n1 s1 f)) ∧ Below W.heap.size W w' from fun W hW => leK_swap HCH.out k0 n0 s0 k1 n1 s1 ▸ order_in k1 n1 s1 k0 n0 s0 K lv sh p f W (HIN2.out.ext hW) (by omega) (by omega))
    have KS := Lib.hid (show ∀ W, Ext W2 W → Calls Tryz.prog 36 #[.agg #[.int .i64 k0, .int .i64 n0, .string s0], .agg #[.int .i64 k1, .int .i64 n1, .string s1], .agg #[.int .i64 K, .int .i64 lv, .bool sh, .bool false, .pointer p]] W fun e w' => e = .returned (.bool (leK k0 n0 s0 k1 n1 s1 f == 0)) ∧ Below W.heap.size W w' from fun W hW => same_in k0 n0 s0 k1 n1 s1 K lv sh p f W (HIN2.out.ext hW) hs0 hs1)
    obtain ⟨v1, v2⟩ := leK_vals HCH.out k0 n0 s0 k1 n1 s1
    generalize leK k0 n0 s0 k1 n1 s1 f = R at KOR KO KO2 KS v1 v2
    have hneg : wrap64 (-R) = -R := IntWalk.wrap64_in _ (by omega)
    clear hx2 hT HA1 HB1 HX1 HIN HINR HIN2 HINR2 HCH v1 v2 hs0 hs1
    obtain ⟨ca, fa⟩ := HA2.out.facts
    obtain ⟨cb, fb⟩ := HB2.out.facts
    obtain ⟨cd, fd⟩ := hD.facts
    obtain ⟨ce, fe⟩ := hE.facts
    clear hD hE
    go_simp
    repeat (first | go_values | go_skip | go_guarded | go_step | go_upon)
    refine Calls.mono (KC.out _ (Ext.refl _)) ?_
    rintro e w3 ⟨rfl, hb3⟩
    have HX3 := Lib.hid (show Ext W2 w3 from hb3)
    clear ca fa cb fb cd fd ce fe hb3 KC
    obtain ⟨ca, fa⟩ := (HA2.out.keep HX3.out).facts
    obtain ⟨cb, fb⟩ := (HB2.out.keep HX3.out).facts
    obtain ⟨cd, fd⟩ := (HD.out.keep HX3.out).facts
    obtain ⟨ce, fe⟩ := (HE.out.keep HX3.out).facts
    go_simp
    repeat (first | go_values | go_skip | go_guarded | go_step | go_upon)
    refine Calls.mono (KCR.out _ HX3.out) ?_
    rintro e w4 ⟨rfl, hb4⟩
    have HX4 := Lib.hid (Ext.trans HX3.out hb4)
    clear ca fa cb fb cd fd ce fe hb4 HX3 KCR
    obtain ⟨ca, fa⟩ := (HA2.out.keep HX4.out).facts
    obtain ⟨cb, fb⟩ := (HB2.out.keep HX4.out).facts
    obtain ⟨cd, fd⟩ := (HD.out.keep HX4.out).facts
    obtain ⟨ce, fe⟩ := (HE.out.keep HX4.out).facts
    go_simp
    repeat (first | go_values | go_skip | go_guarded | go_step | go_upon)
    refine Calls.mono (KOR.out _ HX4.out) ?_
    rintro e w5 ⟨rfl, hb5⟩
    have HX5 := Lib.hid (Ext.trans HX4.out hb5)
    clear ca fa cb fb cd fd ce fe hb5 HX4 KOR
    obtain ⟨ca, fa⟩ := (HA2.out.keep HX5.out).facts
    obtain ⟨cb, fb⟩ := (HB2.out.keep HX5.out).facts
    obtain ⟨cd, fd⟩ := (HD.out.keep HX5.out).facts
    obtain ⟨ce, fe⟩ := (HE.out.keep HX5.out).facts
    go_simp
    repeat (first | go_values | go_skip | go_guarded | go_step | go_upon)
    refine Calls.mono (KO.out _ HX5.out) ?_
    rintro e w6 ⟨rfl, hb6⟩
    have HX6 := Lib.hid (Ext.trans HX5.out hb6)
    clear ca fa cb fb cd fd ce fe hb6 HX5 KO
    obtain ⟨ca, fa⟩ := (HA2.out.keep HX6.out).facts
    obtain ⟨cb, fb⟩ := (HB2.out.keep HX6.out).facts
    obtain ⟨cd, fd⟩ := (HD.out.keep HX6.out).facts
    obtain ⟨ce, fe⟩ := (HE.out.keep HX6.out).facts
    go_simp
    repeat (first | go_values | go_skip | go_guarded | go_step | go_upon)
    refine Calls.mono (KO2.out _ HX6.out) ?_
    rintro e w7 ⟨rfl, hb7⟩
    have HX7 := Lib.hid (Ext.trans HX6.out hb7)
    clear ca fa cb fb cd fd ce fe hb7 HX6 KO2
    obtain ⟨ca, fa⟩ := (HA2.out.keep HX7.out).facts
    obtain ⟨cb, fb⟩ := (HB2.out.keep HX7.out).facts
    obtain ⟨cd, fd⟩ := (HD.out.keep HX7.out).facts
    obtain ⟨ce, fe⟩ := (HE.out.keep HX7.out).facts
    go_simp
    repeat (first | go_values | go_skip | go_guarded | go_step | go_upon)
    refine Calls.mono (KS.out _ HX7.out) ?_
    rintro e w8 ⟨rfl, hb8⟩
    have HX8 := Lib.hid (Ext.trans HX7.out hb8)
    clear ca fa cb fb cd fd ce fe hb8 HX7 KS
    obtain ⟨ca, fa⟩ := (HA2.out.keep HX8.out).facts
    obtain ⟨cb, fb⟩ := (HB2.out.keep HX8.out).facts
    obtain ⟨cd, fd⟩ := (HD.out.keep HX8.out).facts
    obtain ⟨ce, fe⟩ := (HE.out.keep HX8.out).facts
    go_simp
    repeat (first | go_values | go_skip | go_guarded | go_step | go_upon)
    refine Calls.mono (valawake_any _ (HG.out.keep (Ext.trans HX2.out HX8.out))) ?_
    rintro e w9 ⟨rfl, hb9⟩
    have HX9 := Lib.hid (Ext.trans HX2.out (Ext.trans HX8.out hb9))
    clear hb9 HX8
    go_simp
    repeat (first | go_values | go_skip | go_guarded | go_step | go_upon)
    go_ret
    refine ⟨?_, HX9.out⟩
    simp
end Go.Proofs.YtipokgedmfnlaaaGreatDoor
