/-
  Trees that are shown: a node's words (printer.node, bare, binary, plain): ops of two, names, small numbers.
-/
import Derived.Test.YtlhkmdchjklaeaaGreatDoorShowC
namespace Go.Proofs.YtlhkmdchjklaeaaGreatDoor
open Go.RowKit Go.Lib
set_option maxRecDepth 100000

abbrev Ws := List (List UInt8)
def levT : Tr → Int
  | .mk k o _ _ _ _ => strT k o
def nodeW (f : Tr → Option Ws) (t : Tr) (level : Int) : Option Ws := if levT t < level then (f t).map fun u => [[40]] ++ u ++ [[41]] else f t
def plainW (k n : Int) (s t : List UInt8) : Option Ws :=
  if k = 4 then some ((if t = [] then [] else [t, [46]]) ++ [s]) else if k = 2 then (if 0 ≤ n ∧ n < 100 then some [Lib.decDigits n.toNat] else none) else none
def bareW : Nat → Tr → Option Ws
  | 0, _ => none
  | d + 1, .mk k o s t n l =>
    if k = 6 then (nodeW (bareW d) ((l[0]?).getD zTr) (if strT 6 o = 4 then 5 else strT 6 o)).bind fun a => (nodeW (bareW d) ((l[1]?).getD zTr) (strT 6 o + 1)).bind fun b => some (a ++ [sgn o 9 1] ++ b)
    else plainW k n s t
def PutPost (B q : Nat) (ws : Ws) (w : World) (e : Ending) (w' : World) : Prop := e = .returned (.tuple #[]) ∧ PrAt w' B q ws ∧ LeR q w w'
/-- What puts a node puts its words. -/
def BareOk (B q : Nat) (f : Tr → Option Ws) : Prop := ∀ (t : Tr) (x : PN) (ws out : Ws) (A : Nat → Prop) (w : World), f t = some out → PrAt w B q ws → TrAt A w x t → (∀ g, A g → g < B) → ws.length + out.length ≤ 100000 → B ≤ w.heap.size →
  Calls Tryz.prog 40 #[.pointer (some ⟨q, 0, none⟩), x.v] w (PutPost B q (ws ++ out) w)
def NodeOk (B q : Nat) (f : Tr → Option Ws) : Prop := ∀ (t : Tr) (x : PN) (level : Int) (ws out : Ws) (A : Nat → Prop) (w : World), nodeW f t level = some out → PrAt w B q ws → TrAt A w x t → (∀ g, A g → g < B) → ws.length + out.length ≤ 100000 → B ≤ w.heap.size →
  Calls Tryz.prog 21 #[.pointer (some ⟨q, 0, none⟩), x.v, .int .i64 level] w (PutPost B q (ws ++ out) w)
set_option maxHeartbeats 8000000 in
theorem node_nd (B q : Nat) (f : Tr → Option Ws) (hf : BareOk B q f) : NodeOk B q f := by
  intro t x level ws out A w hn hP hT hA hlen hBw
  have hx0 : Ext w (w.alloc (.cells x.cells 25)) := (Ext.refl w).alloc _
  have HL0 := Lib.hid (LeR.ofExt (q := q) hx0)
  have HP0 := Lib.hid (hP.ext hx0)
  have HB0 := Lib.hid (BoxAt.new hP x.cells 25)
  have HT0 := Lib.hid (hT.ext hx0)
  have HI := Lib.hid hP.is
  obtain ⟨k, o, s, t', n, l⟩ := t
  have KS := Lib.hid (fun W (hW : TrAt A W x (.mk k o s t' n l)) => strength_nd A x k o s t' n l W hW)
  have KB := Lib.hid (fun ws out W a b c d e f => hf (.mk k o s t' n l) x ws out A W a b c d e f)
  have KP := Lib.hid (fun ws xs b m W a b' c d e => put_nd B q b m ws xs W a b' c d e)
  have HA := Lib.hid hA
  have HN := Lib.hid hn
  have hBw0 : B ≤ (w.alloc (.cells x.cells 25)).heap.size := by simp; omega
  clear hn hP hT hA hf hx0
  obtain ⟨xk, xo, xs, xt, xn, xla, xln, xlc⟩ := x
  simp only [PN.cells, PN.v] at *
  obtain ⟨cb, fb⟩ := HB0.out.blk.facts
  have hbl := HB0.out.blk.lt
  go_enter Tryz.func21, Tryz.ntmps21
  go_simp
  repeat (first | go_values | go_skip | go_guarded | go_step | go_upon)
  generalize w.alloc (.cells #[.int .i64 xk, .int .i64 xo, .string xs, .string xt, .int .i64 xn, .slice xla xln xlc] 25) = W0 at HL0 HP0 HB0 HT0 cb fb hbl hBw0 ⊢
  generalize w.heap.size = b0 at HB0 cb fb hbl ⊢
  refine Calls.mono (KS.out W0 HT0.out) ?_
  rintro e W1 ⟨rfl, hx1⟩
  have HL1 := Lib.hid (LeR.trans HI.out HL0.out (LeR.ofExt hx1))
  have HP1 := Lib.hid (HP0.out.ext hx1)
  have HB1 := Lib.hid (HB0.out.later HP0.out.is (LeR.ofExt hx1))
  have HT1 := Lib.hid (HT0.out.ext hx1)
  have hs1 := hx1.size
  have hBw1 : B ≤ W1.heap.size := by omega
  clear hx1 HL0 HP0 HB0 HT0 cb fb hbl hBw0 hs1 KS
  obtain ⟨cb, fb⟩ := HB1.out.blk.facts
  have hbl := HB1.out.blk.lt
  have hn := HN.out
  clear HN
  unfold nodeW levT at hn
  simp only at hn
  by_cases hlt : strT k o < level
  · rw [if_pos hlt] at hn
    cases hft : f (.mk k o s t' n l) with
    | none => rw [hft] at hn; cases hn
    | some u =>
    rw [hft] at hn
    obtain rfl : [[40]] ++ u ++ [[41]] = out := by simpa using hn
    clear hn
    go_simp
    repeat (first | go_values | go_skip | go_guarded | go_step | go_upon)
    have hx2 : Ext W1 (W1.alloc (.cells #[.string ⟨#[40]⟩] 9)) := (Ext.refl W1).alloc _
    refine Calls.mono (KP.out ws [[40]] W1.heap.size 1 _ (HP1.out.ext hx2) (Blk.new W1 _ 9 rfl) rfl (by simp at hlen ⊢; omega) (by have := hx2.size; omega)) ?_
    rintro e W2 ⟨rfl, hp2, hl2⟩
    have hlx2 := LeR.trans HP1.out.is (LeR.ofExt hx2) hl2
    have HP2 := Lib.hid hp2
    have HL2 := Lib.hid (LeR.trans HI.out HL1.out hlx2)
    have HB2 := Lib.hid (HB1.out.later HP1.out.is hlx2)
    have HT2 := Lib.hid (HP1.out.tree HT1.out HA.out hlx2)
    have hBw2 : B ≤ W2.heap.size := by have := hlx2.size; omega
    clear hp2 hl2 hlx2 hx2 HP1 HL1 HB1 HT1 cb fb hbl
    obtain ⟨cb, fb⟩ := HB2.out.blk.facts
    have hbl := HB2.out.blk.lt
    go_simp
    repeat (first | go_values | go_skip | go_guarded | go_step | go_upon)
    refine Calls.mono (KB.out (ws ++ [[40]]) u W2 hft HP2.out HT2.out HA.out (by simp at hlen ⊢; omega) hBw2) ?_
    rintro e W3 ⟨rfl, hp3, hl3⟩
    have HP3 := Lib.hid hp3
    have HL3 := Lib.hid (LeR.trans HI.out HL2.out hl3)
    have hBw3 : B ≤ W3.heap.size := by have := hl3.size; omega
    clear hp3 hl3 HP2 HL2 HB2 HT2 cb fb hbl
    go_simp
    repeat (first | go_values | go_skip | go_guarded | go_step | go_upon)
    have hx4 : Ext W3 (W3.alloc (.cells #[.string ⟨#[41]⟩] 9)) := (Ext.refl W3).alloc _
    refine Calls.mono (KP.out (ws ++ [[40]] ++ u) [[41]] W3.heap.size 1 _ (HP3.out.ext hx4) (Blk.new W3 _ 9 rfl) rfl (by simp at hlen ⊢; omega) (by have := hx4.size; omega)) ?_
    rintro e W4 ⟨rfl, hp4, hl4⟩
    have hlx4 := LeR.trans HP3.out.is (LeR.ofExt hx4) hl4
    have HP4 := Lib.hid hp4
    have HL4 := Lib.hid (LeR.trans HI.out HL3.out hlx4)
    have hBw4 : B ≤ W4.heap.size := by have := hlx4.size; omega
    clear hp4 hl4 hlx4 hx4 HP3 HL3 
    go_simp
    repeat (first | go_values | go_skip | go_guarded | go_step | go_upon)
    go_returns
    exact ⟨rfl, by simpa using HP4.out, HL4.out⟩
  · rw [if_neg hlt] at hn
    go_simp
    repeat (first | go_values | go_skip | go_guarded | go_step | go_upon)
    refine Calls.mono (KB.out ws out W1 hn HP1.out HT1.out HA.out hlen hBw1) ?_
    rintro e W2 ⟨rfl, hp2, hl2⟩
    have HP2 := Lib.hid hp2
    have HL2 := Lib.hid (LeR.trans HI.out HL1.out hl2)
    clear hp2 hl2 HP1 HL1 HB1 HT1 cb fb hbl
    go_simp
    repeat (first | go_values | go_skip | go_guarded | go_step | go_upon)
    go_returns
    exact ⟨rfl, HP2.out, HL2.out⟩
theorem lvl_range (o : Int) : ∀ m k, k + m ≤ 12 → 0 ≤ lvl o m k ∧ lvl o m k ≤ 12
  | 0, k, _ => by simp [lvl]
  | m + 1, k, h => by
    have := lvl_range o m (k + 1) (by omega)
    rw [lvl]
    split
    · omega
    · exact this
set_option maxHeartbeats 16000000 in
theorem binary_nd (B q : Nat) (f : Tr → Option Ws) (hf : NodeOk B q f) (o : Int) (s t' : List UInt8) (n : Int) (l : List Tr) (x : PN) (ws ua ub : Ws) (A : Nat → Prop) (w : World)
    (ha : nodeW f ((l[0]?).getD zTr) (if strT 6 o = 4 then 5 else strT 6 o) = some ua) (hb : nodeW f ((l[1]?).getD zTr) (strT 6 o + 1) = some ub)
    (hP : PrAt w B q ws) (hT : TrAt A w x (.mk 6 o s t' n l)) (hA : ∀ g, A g → g < B) (hlen : ws.length + (ua ++ [sgn o 9 1] ++ ub).length ≤ 100000) (hBw : B ≤ w.heap.size) :
    Calls Tryz.prog 74 #[.pointer (some ⟨q, 0, none⟩), x.v] w (PutPost B q (ws ++ (ua ++ [sgn o 9 1] ++ ub)) w) := by
  have hlv := lvl_range o 9 1 (by omega)
  have hst : strT 6 o = lvl o 9 1 := by simp [strT]
  have hx0 : Ext w (w.alloc (.cells x.cells 25)) := (Ext.refl w).alloc _
  have HL0 := Lib.hid (LeR.ofExt (q := q) hx0)
  have HP0 := Lib.hid (hP.ext hx0)
  have HB0 := Lib.hid (BoxAt.new hP x.cells 25)
  have HT0 := Lib.hid (hT.ext hx0)
  have HI := Lib.hid hP.is
  have KS := Lib.hid (fun W (hW : TrAt A W x (.mk 6 o s t' n l)) => strength_nd A x 6 o s t' n l W hW)
  have KA := Lib.hid (fun i W (hW : TrAt A W x (.mk 6 o s t' n l)) => at_nd A x (.mk 6 o s t' n l) i W hW)
  have KG := Lib.hid (fun W => sign_nd o W)
  have KN := Lib.hid (fun t x level ws out A W a b c d e f => hf t x level ws out A W a b c d e f)
  have KP := Lib.hid (fun ws xs b m W a b' c d e => put_nd B q b m ws xs W a b' c d e)
  have HA := Lib.hid hA
  have ho := hT.parts.2.1
  have hBw0 : B ≤ (w.alloc (.cells x.cells 25)).heap.size := by simp; omega
  simp only [kidsT] at KA
  rw [hst] at KS ha hb
  generalize lvl o 9 1 = lv at KS ha hb hlv
  generalize sgn o 9 1 = sg at KG hlen ⊢
  clear hP hT hA hf hx0 hst
  obtain ⟨xk, xo, xs, xt, xn, xla, xln, xlc⟩ := x
  simp only at ho
  subst ho
  simp only [PN.cells, PN.v] at *
  obtain ⟨cb, fb⟩ := HB0.out.blk.facts
  have hbl := HB0.out.blk.lt
  have hsum := IntWalk.i64_in (lv + 1) (by omega)
  go_enter Tryz.func74, Tryz.ntmps74
  go_simp
  repeat (first | go_values | go_skip | go_guarded | go_step | go_upon)
  generalize w.alloc (.cells #[.int .i64 xk, .int .i64 xo, .string xs, .string xt, .int .i64 xn, .slice xla xln xlc] 25) = W0 at HL0 HP0 HB0 HT0 cb fb hbl hBw0 ⊢
  generalize w.heap.size = b0 at HB0 cb fb hbl ⊢
  refine Calls.mono (KS.out W0 HT0.out) ?_
  rintro e W1 ⟨rfl, hx1⟩
  have HL1 := Lib.hid (LeR.trans HI.out HL0.out (LeR.ofExt hx1))
  have HP1 := Lib.hid (HP0.out.ext hx1)
  have HB1 := Lib.hid (HB0.out.later HP0.out.is (LeR.ofExt hx1))
  have HT1 := Lib.hid (HT0.out.ext hx1)
  have hs1 := hx1.size
  have hBw1 : B ≤ W1.heap.size := by omega
  clear hx1 HL0 HP0 HB0 HT0 cb fb hbl hBw0 hs1 KS
  obtain ⟨cb, fb⟩ := HB1.out.blk.facts
  have hbl := HB1.out.blk.lt
  by_cases h4 : lv = 4
  · subst h4
    rw [if_pos rfl] at ha
    simp only [Int.reduceAdd] at hb
    go_simp
    repeat (first | go_values | go_skip | go_guarded | go_step | go_upon)
    refine Calls.mono (KA.out 0 W1 HT1.out) ?_
    rintro e W2 ⟨⟨y, rfl, hty⟩, hx2⟩
    have HP2 := Lib.hid (HP1.out.ext hx2)
    have HL2 := Lib.hid (LeR.trans HI.out HL1.out (LeR.ofExt hx2))
    have HB2 := Lib.hid (HB1.out.later HP1.out.is (LeR.ofExt hx2))
    have HT2 := Lib.hid (HT1.out.ext hx2)
    have hBw2 : B ≤ W2.heap.size := by have := hx2.size; omega
    have KK := Lib.hid (KN.out _ y 5 ws ua A W2 ha HP2.out hty HA.out (by simp at hlen ⊢; omega) hBw2)
    clear hty hx2 HP1 HL1 HB1 HT1 cb fb hbl
    obtain ⟨cb, fb⟩ := HB2.out.blk.facts
    have hbl := HB2.out.blk.lt
    obtain ⟨yk, yo, ys, yt, yn, yla, yln, ylc⟩ := y
    simp only at KK ⊢
    go_simp
    repeat (first | go_values | go_skip | go_guarded | go_step | go_upon)
    refine Calls.mono KK.out ?_
    rintro e W3 ⟨rfl, hp3, hl3⟩
    have HP3 := Lib.hid hp3
    have HL3 := Lib.hid (LeR.trans HI.out HL2.out hl3)
    have HB3 := Lib.hid (HB2.out.later HP2.out.is hl3)
    have HT3 := Lib.hid (HP2.out.tree HT2.out HA.out hl3)
    have hBw3 : B ≤ W3.heap.size := by have := hl3.size; omega
    clear hp3 hl3 HP2 HL2 HB2 HT2 KK cb fb hbl
    obtain ⟨cb, fb⟩ := HB3.out.blk.facts
    have hbl := HB3.out.blk.lt
    go_simp
    repeat (first | go_values | go_skip | go_guarded | go_step | go_upon)
    refine Calls.mono (KG.out W3) ?_
    rintro e W4 ⟨rfl, hx4⟩
    have HP4 := Lib.hid (HP3.out.ext hx4)
    have HL4 := Lib.hid (LeR.trans HI.out HL3.out (LeR.ofExt hx4))
    have HB4 := Lib.hid (HB3.out.later HP3.out.is (LeR.ofExt hx4))
    have HT4 := Lib.hid (HT3.out.ext hx4)
    have hBw4 : B ≤ W4.heap.size := by have := hx4.size; omega
    clear hx4 HP3 HL3 HB3 HT3 cb fb hbl
    obtain ⟨cb, fb⟩ := HB4.out.blk.facts
    have hbl := HB4.out.blk.lt
    go_simp
    repeat (first | go_values | go_skip | go_guarded | go_step | go_upon)
    have hx5 : Ext W4 (W4.alloc (.cells #[.string ⟨sg.toArray⟩] 9)) := (Ext.refl W4).alloc _
    refine Calls.mono (KP.out (ws ++ ua) [sg] W4.heap.size 1 _ (HP4.out.ext hx5) (Blk.new W4 _ 9 rfl) rfl (by simp at hlen ⊢; omega) (by have := hx5.size; omega)) ?_
    rintro e W5 ⟨rfl, hp5, hl5⟩
    have hlx5 := LeR.trans HP4.out.is (LeR.ofExt hx5) hl5
    have HP5 := Lib.hid hp5
    have HL5 := Lib.hid (LeR.trans HI.out HL4.out hlx5)
    have HB5 := Lib.hid (HB4.out.later HP4.out.is hlx5)
    have HT5 := Lib.hid (HP4.out.tree HT4.out HA.out hlx5)
    have hBw5 : B ≤ W5.heap.size := by have := hlx5.size; omega
    clear hp5 hl5 hlx5 hx5 HP4 HL4 HB4 HT4 cb fb hbl
    obtain ⟨cb, fb⟩ := HB5.out.blk.facts
    have hbl := HB5.out.blk.lt
    go_simp
    repeat (first | go_values | go_skip | go_guarded | go_step | go_upon)
    refine Calls.mono (KA.out 1 W5 HT5.out) ?_
    rintro e W6 ⟨⟨y, rfl, hty⟩, hx6⟩
    have HP6 := Lib.hid (HP5.out.ext hx6)
    have HL6 := Lib.hid (LeR.trans HI.out HL5.out (LeR.ofExt hx6))
    have HB6 := Lib.hid (HB5.out.later HP5.out.is (LeR.ofExt hx6))
    have HT6 := Lib.hid (HT5.out.ext hx6)
    have hBw6 : B ≤ W6.heap.size := by have := hx6.size; omega
    have KK := Lib.hid (KN.out _ y 5 (ws ++ ua ++ [sg]) ub A W6 hb HP6.out hty HA.out (by simp at hlen ⊢; omega) hBw6)
    clear hty hx6 HP5 HL5 HB5 HT5 cb fb hbl
    obtain ⟨cb, fb⟩ := HB6.out.blk.facts
    have hbl := HB6.out.blk.lt
    obtain ⟨yk, yo, ys, yt, yn, yla, yln, ylc⟩ := y
    simp only at KK ⊢
    go_simp
    repeat (first | go_values | go_skip | go_guarded | go_step | go_upon)
    refine Calls.mono KK.out ?_
    rintro e W7 ⟨rfl, hp7, hl7⟩
    have HP7 := Lib.hid hp7
    have HL7 := Lib.hid (LeR.trans HI.out HL6.out hl7)
    have HB7 := Lib.hid (HB6.out.later HP6.out.is hl7)
    have HT7 := Lib.hid (HP6.out.tree HT6.out HA.out hl7)
    have hBw7 : B ≤ W7.heap.size := by have := hl7.size; omega
    clear hp7 hl7 HP6 HL6 HB6 HT6 KK cb fb hbl
    obtain ⟨cb, fb⟩ := HB7.out.blk.facts
    have hbl := HB7.out.blk.lt
    go_simp
    repeat (first | go_values | go_skip | go_guarded | go_step | go_upon)
    go_returns
    exact ⟨rfl, by simpa using HP7.out, HL7.out⟩

  · rw [if_neg h4] at ha
    have h4b : (lv == 4) = false := by rw [beq_eq_false_iff_ne]; exact h4
    go_simp
    repeat (first | go_values | go_skip | go_guarded | go_step | go_upon)
    refine Calls.mono (KA.out 0 W1 HT1.out) ?_
    rintro e W2 ⟨⟨y, rfl, hty⟩, hx2⟩
    have HP2 := Lib.hid (HP1.out.ext hx2)
    have HL2 := Lib.hid (LeR.trans HI.out HL1.out (LeR.ofExt hx2))
    have HB2 := Lib.hid (HB1.out.later HP1.out.is (LeR.ofExt hx2))
    have HT2 := Lib.hid (HT1.out.ext hx2)
    have hBw2 : B ≤ W2.heap.size := by have := hx2.size; omega
    have KK := Lib.hid (KN.out _ y lv ws ua A W2 ha HP2.out hty HA.out (by simp at hlen ⊢; omega) hBw2)
    clear hty hx2 HP1 HL1 HB1 HT1 cb fb hbl
    obtain ⟨cb, fb⟩ := HB2.out.blk.facts
    have hbl := HB2.out.blk.lt
    obtain ⟨yk, yo, ys, yt, yn, yla, yln, ylc⟩ := y
    simp only at KK ⊢
    go_simp
    repeat (first | go_values | go_skip | go_guarded | go_step | go_upon)
    refine Calls.mono KK.out ?_
    rintro e W3 ⟨rfl, hp3, hl3⟩
    have HP3 := Lib.hid hp3
    have HL3 := Lib.hid (LeR.trans HI.out HL2.out hl3)
    have HB3 := Lib.hid (HB2.out.later HP2.out.is hl3)
    have HT3 := Lib.hid (HP2.out.tree HT2.out HA.out hl3)
    have hBw3 : B ≤ W3.heap.size := by have := hl3.size; omega
    clear hp3 hl3 HP2 HL2 HB2 HT2 KK cb fb hbl
    obtain ⟨cb, fb⟩ := HB3.out.blk.facts
    have hbl := HB3.out.blk.lt
    go_simp
    repeat (first | go_values | go_skip | go_guarded | go_step | go_upon)
    refine Calls.mono (KG.out W3) ?_
    rintro e W4 ⟨rfl, hx4⟩
    have HP4 := Lib.hid (HP3.out.ext hx4)
    have HL4 := Lib.hid (LeR.trans HI.out HL3.out (LeR.ofExt hx4))
    have HB4 := Lib.hid (HB3.out.later HP3.out.is (LeR.ofExt hx4))
    have HT4 := Lib.hid (HT3.out.ext hx4)
    have hBw4 : B ≤ W4.heap.size := by have := hx4.size; omega
    clear hx4 HP3 HL3 HB3 HT3 cb fb hbl
    obtain ⟨cb, fb⟩ := HB4.out.blk.facts
    have hbl := HB4.out.blk.lt
    go_simp
    repeat (first | go_values | go_skip | go_guarded | go_step | go_upon)
    have hx5 : Ext W4 (W4.alloc (.cells #[.string ⟨sg.toArray⟩] 9)) := (Ext.refl W4).alloc _
    refine Calls.mono (KP.out (ws ++ ua) [sg] W4.heap.size 1 _ (HP4.out.ext hx5) (Blk.new W4 _ 9 rfl) rfl (by simp at hlen ⊢; omega) (by have := hx5.size; omega)) ?_
    rintro e W5 ⟨rfl, hp5, hl5⟩
    have hlx5 := LeR.trans HP4.out.is (LeR.ofExt hx5) hl5
    have HP5 := Lib.hid hp5
    have HL5 := Lib.hid (LeR.trans HI.out HL4.out hlx5)
    have HB5 := Lib.hid (HB4.out.later HP4.out.is hlx5)
    have HT5 := Lib.hid (HP4.out.tree HT4.out HA.out hlx5)
    have hBw5 : B ≤ W5.heap.size := by have := hlx5.size; omega
    clear hp5 hl5 hlx5 hx5 HP4 HL4 HB4 HT4 cb fb hbl
    obtain ⟨cb, fb⟩ := HB5.out.blk.facts
    have hbl := HB5.out.blk.lt
    go_simp
    repeat (first | go_values | go_skip | go_guarded | go_step | go_upon)
    refine Calls.mono (KA.out 1 W5 HT5.out) ?_
    rintro e W6 ⟨⟨y, rfl, hty⟩, hx6⟩
    have HP6 := Lib.hid (HP5.out.ext hx6)
    have HL6 := Lib.hid (LeR.trans HI.out HL5.out (LeR.ofExt hx6))
    have HB6 := Lib.hid (HB5.out.later HP5.out.is (LeR.ofExt hx6))
    have HT6 := Lib.hid (HT5.out.ext hx6)
    have hBw6 : B ≤ W6.heap.size := by have := hx6.size; omega
    have KK := Lib.hid (KN.out _ y (lv + 1) (ws ++ ua ++ [sg]) ub A W6 hb HP6.out hty HA.out (by simp at hlen ⊢; omega) hBw6)
    clear hty hx6 HP5 HL5 HB5 HT5 cb fb hbl
    obtain ⟨cb, fb⟩ := HB6.out.blk.facts
    have hbl := HB6.out.blk.lt
    obtain ⟨yk, yo, ys, yt, yn, yla, yln, ylc⟩ := y
    simp only at KK ⊢
    go_simp
    repeat (first | go_values | go_skip | go_guarded | go_step | go_upon)
    refine Calls.mono KK.out ?_
    rintro e W7 ⟨rfl, hp7, hl7⟩
    have HP7 := Lib.hid hp7
    have HL7 := Lib.hid (LeR.trans HI.out HL6.out hl7)
    have HB7 := Lib.hid (HB6.out.later HP6.out.is hl7)
    have HT7 := Lib.hid (HP6.out.tree HT6.out HA.out hl7)
    have hBw7 : B ≤ W7.heap.size := by have := hl7.size; omega
    clear hp7 hl7 HP6 HL6 HB6 HT6 KK cb fb hbl
    obtain ⟨cb, fb⟩ := HB7.out.blk.facts
    have hbl := HB7.out.blk.lt
    go_simp
    repeat (first | go_values | go_skip | go_guarded | go_step | go_upon)
    go_returns
    exact ⟨rfl, by simpa using HP7.out, HL7.out⟩
theorem itext_small (n : Int) (h0 : 0 ≤ n) (h1 : n < 100) (w : World) : Calls Tryz.prog 141 #[.int .i64 n] w fun e w' => e = .returned (.string ⟨(Lib.decDigits n.toNat).toArray⟩) ∧ w' = w := by
  obtain ⟨i, rfl⟩ : ∃ i : Nat, n = (i : Int) := ⟨n.toNat, by omega⟩
  have HK := Lib.hid (Tryz.strconv_FormatInt_10_small i (by omega) w)
  rw [Int.toNat_natCast]
  go_enter Tryz.func141, Tryz.ntmps141
  go_wp2_with fail
  refine HK.out.mono ?_
  rintro e w' ⟨rfl, rfl⟩
  go_wp2_with fail
  go_ret
  exact ⟨rfl, rfl⟩
set_option maxHeartbeats 16000000 in
theorem plain_nd (B q : Nat) (k o n : Int) (s t' : List UInt8) (l : List Tr) (x : PN) (ws out : Ws) (A : Nat → Prop) (w : World) (hn : plainW k n s t' = some out)
    (hP : PrAt w B q ws) (hT : TrAt A w x (.mk k o s t' n l)) (hlen : ws.length + out.length ≤ 100000) (hBw : B ≤ w.heap.size) :
    Calls Tryz.prog 77 #[.pointer (some ⟨q, 0, none⟩), x.v] w (PutPost B q (ws ++ out) w) := by
  have hx0 : Ext w (w.alloc (.cells x.cells 25)) := (Ext.refl w).alloc _
  have HL0 := Lib.hid (LeR.ofExt (q := q) hx0)
  have HP0 := Lib.hid (hP.ext hx0)
  have HB0 := Lib.hid (BoxAt.new hP x.cells 25)
  have HI := Lib.hid hP.is
  have KP := Lib.hid (fun ws xs b m W a b' c d e => put_nd B q b m ws xs W a b' c d e)
  obtain ⟨e1, e2, e3, e4, e5, _⟩ := hT.parts
  have hBw0 : B ≤ (w.alloc (.cells x.cells 25)).heap.size := by simp; omega
  clear hP hT hx0
  obtain ⟨xk, xo, xs, xt, xn, xla, xln, xlc⟩ := x
  simp only at e1 e2 e3 e4 e5
  subst e1 e2 e3 e4 e5
  simp only [PN.cells, PN.v] at *
  obtain ⟨cb, fb⟩ := HB0.out.blk.facts
  have hbl := HB0.out.blk.lt
  unfold plainW at hn
  by_cases k4 : xk = 4
  · subst k4
    rw [if_pos rfl] at hn
    cases t' with
    | nil =>
      obtain rfl : [s] = out := by simpa using hn
      go_enter Tryz.func77, Tryz.ntmps77
      go_simp
      repeat (first | go_values | go_skip | go_guarded | go_step | go_upon)
      have hx1 : Ext (w.alloc (.cells #[.int .i64 4, .int .i64 xo, .string ⟨s.toArray⟩, .string ⟨#[]⟩, .int .i64 xn, .slice xla xln xlc] 25)) ((w.alloc (.cells #[.int .i64 4, .int .i64 xo, .string ⟨s.toArray⟩, .string ⟨#[]⟩, .int .i64 xn, .slice xla xln xlc] 25)).alloc (.cells #[.string ⟨s.toArray⟩] 9)) := (Ext.refl _).alloc _
      refine Calls.mono (KP.out ws [s] (w.heap.size + 1) 1 _ (HP0.out.ext hx1) (Blk.new (w.alloc (.cells #[.int .i64 4, .int .i64 xo, .string ⟨s.toArray⟩, .string ⟨#[]⟩, .int .i64 xn, .slice xla xln xlc] 25)) _ 9 (by simp)) rfl (by simp at hlen ⊢; omega) (by simp; omega)) ?_
      rintro e W1 ⟨rfl, hp1, hl1⟩
      have hlx1 := LeR.trans HP0.out.is (LeR.ofExt hx1) hl1
      have HP1 := Lib.hid hp1
      have HL1 := Lib.hid (LeR.trans HI.out HL0.out hlx1)
      have HB1 := Lib.hid (HB0.out.later HP0.out.is hlx1)
      have hBw1 : B ≤ W1.heap.size := by have := hlx1.size; omega
      clear hp1 hl1 hlx1 hx1 HP0 HL0 HB0 cb fb hbl hBw0
      obtain ⟨cb, fb⟩ := HB1.out.blk.facts
      have hbl := HB1.out.blk.lt
      go_simp
      repeat (first | go_values | go_skip | go_guarded | go_step | go_upon)
      go_returns
      exact ⟨rfl, by simpa using HP1.out, HL1.out⟩
    | cons c r =>
      obtain rfl : [c :: r, [46], s] = out := by simpa using hn
      have hne : ((c :: r : List UInt8) != []) = true := rfl
      go_enter Tryz.func77, Tryz.ntmps77
      go_simp
      repeat (first | go_values | go_skip | go_guarded | go_step | go_upon)
      have hx1 : Ext (w.alloc (.cells #[.int .i64 4, .int .i64 xo, .string ⟨s.toArray⟩, .string ⟨(c :: r).toArray⟩, .int .i64 xn, .slice xla xln xlc] 25)) ((w.alloc (.cells #[.int .i64 4, .int .i64 xo, .string ⟨s.toArray⟩, .string ⟨(c :: r).toArray⟩, .int .i64 xn, .slice xla xln xlc] 25)).alloc (.cells #[.string ⟨(c :: r).toArray⟩, .string ⟨#[46]⟩] 9)) := (Ext.refl _).alloc _
      refine Calls.mono (KP.out ws [c :: r, [46]] (w.heap.size + 1) 2 _ (HP0.out.ext hx1) (Blk.new (w.alloc (.cells #[.int .i64 4, .int .i64 xo, .string ⟨s.toArray⟩, .string ⟨(c :: r).toArray⟩, .int .i64 xn, .slice xla xln xlc] 25)) _ 9 (by simp)) rfl (by simp at hlen ⊢; omega) (by simp; omega)) ?_
      rintro e W1 ⟨rfl, hp1, hl1⟩
      have hlx1 := LeR.trans HP0.out.is (LeR.ofExt hx1) hl1
      have HP1 := Lib.hid hp1
      have HL1 := Lib.hid (LeR.trans HI.out HL0.out hlx1)
      have HB1 := Lib.hid (HB0.out.later HP0.out.is hlx1)
      have hBw1 : B ≤ W1.heap.size := by have := hlx1.size; omega
      clear hp1 hl1 hlx1 hx1 HP0 HL0 HB0 cb fb hbl hBw0
      obtain ⟨cb, fb⟩ := HB1.out.blk.facts
      have hbl := HB1.out.blk.lt
      go_simp
      repeat (first | go_values | go_skip | go_guarded | go_step | go_upon)
      have hx2 : Ext W1 (W1.alloc (.cells #[.string ⟨s.toArray⟩] 9)) := (Ext.refl W1).alloc _
      refine Calls.mono (KP.out (ws ++ [c :: r, [46]]) [s] W1.heap.size 1 _ (HP1.out.ext hx2) (Blk.new W1 _ 9 rfl) rfl (by simp at hlen ⊢; omega) (by have := hx2.size; omega)) ?_
      rintro e W2 ⟨rfl, hp2, hl2⟩
      have hlx2 := LeR.trans HP1.out.is (LeR.ofExt hx2) hl2
      have HP2 := Lib.hid hp2
      have HL2 := Lib.hid (LeR.trans HI.out HL1.out hlx2)
      have HB2 := Lib.hid (HB1.out.later HP1.out.is hlx2)
      have hBw2 : B ≤ W2.heap.size := by have := hlx2.size; omega
      clear hp2 hl2 hlx2 hx2 HP1 HL1 HB1 cb fb hbl
      obtain ⟨cb, fb⟩ := HB2.out.blk.facts
      have hbl := HB2.out.blk.lt
      go_simp
      repeat (first | go_values | go_skip | go_guarded | go_step | go_upon)
      go_returns
      exact ⟨rfl, by simpa using HP2.out, HL2.out⟩
  rw [if_neg k4] at hn
  by_cases k2 : xk = 2
  · subst k2
    rw [if_pos rfl] at hn
    by_cases hr : 0 ≤ xn ∧ xn < 100
    · rw [if_pos hr] at hn
      obtain rfl : [Lib.decDigits xn.toNat] = out := by simpa using hn
      have KT := Lib.hid (fun W => itext_small xn hr.1 hr.2 W)
      generalize Lib.decDigits xn.toNat = D at KT hlen ⊢
      go_enter Tryz.func77, Tryz.ntmps77
      go_simp
      repeat (first | go_values | go_skip | go_guarded | go_step | go_upon)
      generalize (w.alloc (.cells #[.int .i64 2, .int .i64 xo, .string ⟨s.toArray⟩, .string ⟨t'.toArray⟩, .int .i64 xn, .slice xla xln xlc] 25)) = W0 at HL0 HP0 HB0 cb fb hbl hBw0 ⊢
      generalize w.heap.size = b0 at HB0 cb fb hbl ⊢
      refine Calls.mono (KT.out W0) ?_
      rintro e W0b ⟨rfl, hw⟩
      subst hw
      go_simp
      repeat (first | go_values | go_skip | go_guarded | go_step | go_upon)
      have hx1 : Ext W0b (W0b.alloc (.cells #[.string ⟨D.toArray⟩] 9)) := (Ext.refl W0b).alloc _
      refine Calls.mono (KP.out ws [D] W0b.heap.size 1 _ (HP0.out.ext hx1) (Blk.new W0b _ 9 rfl) rfl (by simp at hlen ⊢; omega) (by have := hx1.size; omega)) ?_
      rintro e W1 ⟨rfl, hp1, hl1⟩
      have hlx1 := LeR.trans HP0.out.is (LeR.ofExt hx1) hl1
      have HP1 := Lib.hid hp1
      have HL1 := Lib.hid (LeR.trans HI.out HL0.out hlx1)
      have HB1 := Lib.hid (HB0.out.later HP0.out.is hlx1)
      have hBw1 : B ≤ W1.heap.size := by have := hlx1.size; omega
      clear hp1 hl1 hlx1 hx1 HP0 HL0 HB0 cb fb hbl
      obtain ⟨cb, fb⟩ := HB1.out.blk.facts
      have hbl := HB1.out.blk.lt
      go_simp
      repeat (first | go_values | go_skip | go_guarded | go_step | go_upon)
      go_returns
      exact ⟨rfl, by simpa using HP1.out, HL1.out⟩
    · rw [if_neg hr] at hn; cases hn
  · rw [if_neg k2] at hn; cases hn
set_option maxHeartbeats 8000000 in
theorem bare_nd (B q : Nat) : ∀ d, BareOk B q (bareW d)
  | 0 => fun t x ws out A w h => by simp [bareW] at h
  | d + 1 => by
    intro t x ws out A w hn hP hT hA hlen hBw
    obtain ⟨k, o, s, t', n, l⟩ := t
    rw [bareW] at hn
    have hx0 : Ext w (w.alloc (.cells x.cells 25)) := (Ext.refl w).alloc _
    have HL0 := Lib.hid (LeR.ofExt (q := q) hx0)
    have HI := Lib.hid hP.is
    have hBw0 : B ≤ (w.alloc (.cells x.cells 25)).heap.size := by simp; omega
    by_cases k6 : k = 6
    · subst k6
      rw [if_pos rfl] at hn
      obtain ⟨ua, ha, hn⟩ := Option.bind_eq_some_iff.1 hn
      obtain ⟨ub, hb, hn⟩ := Option.bind_eq_some_iff.1 hn
      obtain rfl := Option.some.inj hn
      have KB := Lib.hid (binary_nd B q (bareW d) (node_nd B q _ (bare_nd B q d)) o s t' n l x ws ua ub A _ ha hb (hP.ext hx0) (hT.ext hx0) hA hlen hBw0)
      have e1 := hT.parts.1
      clear hn ha hb hP hT hA hx0 hlen
      obtain ⟨xk, xo, xs, xt, xn, xla, xln, xlc⟩ := x
      simp only at e1
      subst e1
      simp only [PN.cells, PN.v] at *
      go_enter Tryz.func40, Tryz.ntmps40
      go_simp
      repeat (first | go_values | go_skip | go_guarded | go_step | go_upon)
      refine Calls.mono KB.out ?_
      rintro e W1 ⟨rfl, hp1, hl1⟩
      have HP1 := Lib.hid hp1
      have HL1 := Lib.hid (LeR.trans HI.out HL0.out hl1)
      clear hp1 hl1 KB HL0
      go_simp
      repeat (first | go_values | go_skip | go_guarded | go_step | go_upon)
      go_returns
      exact ⟨rfl, by simpa using HP1.out, HL1.out⟩
    · rw [if_neg k6] at hn
      have KB := Lib.hid (plain_nd B q k o n s t' l x ws out A _ hn (hP.ext hx0) (hT.ext hx0) hlen hBw0)
      have e1 := hT.parts.1
      have hk : k = 4 ∨ k = 2 := by
        unfold plainW at hn
        by_cases h4 : k = 4
        · exact .inl h4
        · rw [if_neg h4] at hn
          by_cases h2 : k = 2
          · exact .inr h2
          · rw [if_neg h2] at hn; cases hn
      clear hn hP hT hA hx0 hlen
      obtain ⟨xk, xo, xs, xt, xn, xla, xln, xlc⟩ := x
      simp only at e1
      subst e1
      simp only [PN.cells, PN.v] at *
      rcases hk with rfl | rfl
      all_goals
        go_enter Tryz.func40, Tryz.ntmps40
        go_simp
        repeat (first | go_values | go_skip | go_guarded | go_step | go_upon)
        refine Calls.mono KB.out ?_
        rintro e W1 ⟨rfl, hp1, hl1⟩
        have HP1 := Lib.hid hp1
        have HL1 := Lib.hid (LeR.trans HI.out HL0.out hl1)
        clear hp1 hl1 KB HL0
        go_simp
        repeat (first | go_values | go_skip | go_guarded | go_step | go_upon)
        go_returns
        exact ⟨rfl, HP1.out, HL1.out⟩
end Go.Proofs.YtlhkmdchjklaeaaGreatDoor
