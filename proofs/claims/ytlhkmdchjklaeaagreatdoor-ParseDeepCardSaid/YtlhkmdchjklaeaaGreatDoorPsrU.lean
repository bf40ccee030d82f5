/-
  The parser: a list (parser.in).
-/
import Derived.Test.YtlhkmdchjklaeaaGreatDoorPsrT
import Derived.Test.YtlhkmdchjklaeaaGreatDoorParD
namespace Go.Proofs.YtlhkmdchjklaeaaGreatDoor
open Go.RowKit Go.Lib
set_option maxRecDepth 100000

theorem infoNd : (Tryz.prog.info? 25).map (fun i => (i.zero, i.size, i.bytes)) = some (some (.agg #[.int .i64 0, .int .i64 0, .string ⟨#[]⟩, .string ⟨#[]⟩, .int .i64 0, .slice none 0 0]), 6, 80) := by kernel_rfl
abbrev cellsP (L : List PN) : List Value := L.flatMap fun x => x.cells.toList
theorem cellsP_length (L : List PN) : (cellsP L).length = L.length * 6 := by
  induction L with
  | nil => rfl
  | cons x L ih => simp only [cellsP, List.flatMap_cons, List.length_append, List.length_cons] at ih ⊢; rw [ih]; simp [PN.cells]; omega
theorem TrAt.kids {B : Nat → Prop} {w : World} {k o k2 o2 n n2 : Int} {s t : ByteArray} {s2 t2 : List UInt8} {g ln lc : Nat} {l : List Tr} (h : TrAt B w ⟨k, o, s, t, n, some ⟨g, 0, none⟩, ln, lc⟩ (.mk k2 o2 s2 t2 n2 l)) :
    ∃ L : List PN, L.length = l.length ∧ B g ∧ PnAt w g L ∧ ∀ (i : Nat) (x : PN) (y : Tr), L[i]? = some x → l[i]? = some y → TrAt B w x y := by
  cases h with
  | node _ _ _ _ _ _ _ L _ hl _ _ hg hN h => exact ⟨L, hl, hg, hN, h⟩
theorem pn_of_cells {w : World} {g i : Nat} {L L2 : List PN} {x y : PN} (h : PnAt w g L) (k : PnAt w g L2) (hx : L[i]? = some x) (hy : L2[i]? = some y) : y = x := by
  have q := fun j hj => (k.2 i y hy j hj).symm.trans (h.2 i x hx j hj)
  have q0 := q 0 (by omega)
  have q1 := q 1 (by omega)
  have q2 := q 2 (by omega)
  have q3 := q 3 (by omega)
  have q4 := q 4 (by omega)
  have q5 := q 5 (by omega)
  obtain ⟨a1, a2, a3, a4, a5, a6, a7, a8⟩ := y
  obtain ⟨b1, b2, b3, b4, b5, b6, b7, b8⟩ := x
  simp [PN.cells] at q0 q1 q2 q3 q4 q5
  obtain ⟨q6, q7, q8⟩ := q5
  subst q0 q1 q2 q3 q4 q6 q7 q8
  rfl
theorem TrAt.and {A B : Nat → Prop} {w : World} {x : PN} {t : Tr} (h : TrAt A w x t) (hk : TrAt B w x t) : TrAt (fun g => A g ∧ B g) w x t := by
  induction h with
  | leaf kd o s t n => exact .leaf kd o s t n
  | node kd o s t n g lc L l hl h0 hc hg hN hch ih =>
    obtain ⟨L2, hl2, hg2, hN2, h2⟩ := TrAt.kids hk
    refine .node kd o s t n g lc L l hl h0 hc ⟨hg, hg2⟩ hN fun i x y hx hy => ih i x y hx hy ?_
    have hi : i < L2.length := by have := (List.getElem?_eq_some_iff.1 hx).1; omega
    have e2 := List.getElem?_eq_getElem hi
    rw [← pn_of_cells hN hN2 hx e2]
    exact h2 i _ y e2 hy
theorem PN.v_inj {x y : PN} (h : x.v = y.v) : x = y := by
  obtain ⟨a1, a2, a3, a4, a5, a6, a7, a8⟩ := x
  obtain ⟨b1, b2, b3, b4, b5, b6, b7, b8⟩ := y
  simp [PN.v] at h
  obtain ⟨q0, q1, q2, q3, q4, q6, q7, q8⟩ := h
  subst q0 q1 q2 q3 q4 q6 q7 q8
  rfl
/-- A tree's node that was read, its blocks from lo on and below hi, the parser behind it. -/
def readD (n0 p g cap long : Nat) (T : List Lx.Tok) (r : Tr) (s' : PSt) (lo hi : Nat) (v : Value) (w : World) : Prop := n0 ≤ lo ∧ ∃ y : PN, v = y.v ∧ TrAt (fun g => lo ≤ g ∧ g < hi) w y r ∧ PsAt w p g cap long T s'
/-- Two nodes in a row; the second is the value ahead. -/
def pairD (n0 k : Nat) (x : PN) (m : Tr) (ds : List Value) (v : Value) (w : World) : Prop := ∃ (gs : Nat) (y : PN), ds[k]? = some y.v ∧ v = .slice (some ⟨gs, 0, none⟩) 2 2 ∧ Blk w gs (cellsP [x, y]).toArray 25 ∧ n0 ≤ gs ∧ TrAt (fun g => n0 ≤ g ∧ g < gs) w y m
def builtD (k j : Nat) (kd o : Int) (s t : ByteArray) (nt : Int) (ds : List Value) (v : Value) (_ : World) : Prop := ∃ u, ds[k]? = some u ∧ v = .agg #[.int .i64 kd, .int .i64 o, .string s, .string t, .int .i64 nt, u] ∧ j = j
def allocD (n0 : Nat) (v : Value) (w : World) : Prop := ∃ g, v = .pointer (some ⟨g, 0, none⟩) ∧ n0 ≤ g ∧ Blk w g #[.int .i64 0, .int .i64 0, .string ⟨#[]⟩, .string ⟨#[]⟩, .int .i64 0, .slice none 0 0] 25
def inBody (rec : Nat → PSt → Option (Tr × PSt)) (T : List Lx.Tok) (long : Nat) (a : Tr) (nt : Int) (s : PSt) : Option (Tr × PSt) :=
  if s.i < T.length then (rec 1 { s with i := s.i + 1 }).bind fun m => if isB T m.2 5 [44] then none else some (.mk 9 0 [] [] nt [a, m.1], wantF T long m.2 [41]) else none
theorem two_kids {A : Nat → Prop} {w : World} {k o n : Int} {s t : List UInt8} {g lc : Nat} {x y : PN} {a b : Tr} (hc : 2 ≤ lc) (hg : A g) (hP : PnAt w g [x, y]) (hx : TrAt A w x a) (hy : TrAt A w y b) : TrAt A w ⟨k, o, ⟨s.toArray⟩, ⟨t.toArray⟩, n, some ⟨g, 0, none⟩, 2, lc⟩ (.mk k o s t n [a, b]) :=
  .node k o s t n g lc [x, y] [a, b] rfl (by simp) hc hg hP fun i u v hu hv => by
    have hi : i = 0 ∨ i = 1 := by have := (List.getElem?_eq_some_iff.1 hu).1; simp at this; omega
    rcases hi with rfl | rfl
    · obtain rfl := Option.some.inj hu
      obtain rfl := Option.some.inj hv
      exact hx
    · obtain rfl := Option.some.inj hu
      obtain rfl := Option.some.inj hv
      exact hy
set_option maxHeartbeats 16000000 in
theorem inclo_any (X : Nat → Prop) (b0 b1 b2 : Nat) (ya : PN) (ta : Tr) (nt : Int) (p g cap long : Nat) (T : List Lx.Tok) (rec : Nat → PSt → Option (Tr × PSt)) (hrec : LevOk p g cap long T rec) (s : PSt) (r : Tr) (s' : PSt) (w : World) (hf : inBody rec T long ta nt s = some (r, s')) (h : PsAt w p g cap long T s)
    (hX : ∀ g, X g → g < w.heap.size ∧ g ≠ p) (hT : TrAt X w ya ta)
    (h0 : Blk w b0 #[.pointer (some ⟨p, 0, none⟩)] 38) (h1 : Blk w b1 #[.int .i64 nt] 2) (h2 : Blk w b2 ya.cells 25) (h0p : b0 ≠ p) (h1p : b1 ≠ p) (h2p : b2 ≠ p) :
    Calls Tryz.prog 201 #[.pointer (some ⟨b0, 0, none⟩), .pointer (some ⟨b1, 0, none⟩), .pointer (some ⟨b2, 0, none⟩)] w (LevPostX X p g cap long T r s' w) := by
  have mixed : Tryz.prog.follows .mixedOrders = true := by kernel_rfl
  have hpl : p < w.heap.size := h.blk.lt
  have hpw : p ≠ w.heap.size := by omega
  have hgl : g < w.heap.size := h.tok.1
  have hgw : g ≠ w.heap.size := by omega
  have hwp : w.heap.size ≠ p := Ne.symm hpw
  have hb0w : b0 < w.heap.size := h0.lt
  have hb1w : b1 < w.heap.size := h1.lt
  have hb2w : b2 < w.heap.size := h2.lt
  unfold inBody at hf
  by_cases hlt : s.i < T.length
  · rw [if_pos hlt] at hf
    cases hr1 : rec 1 { s with i := s.i + 1 } with
    | none => rw [hr1] at hf; cases hf
    | some m1 =>
    obtain ⟨m, s2⟩ := m1
    rw [hr1] at hf
    simp only [Option.bind_some] at hf
    cases hcm : isB T s2 5 [44]
    case true => rw [hcm] at hf; cases hf
    rw [hcm, if_neg (by decide)] at hf
    have HFf := Lib.hid hf
    have HCm := Lib.hid hcm
    clear hf hcm
    obtain ⟨i, deep, at_, er⟩ := s
    simp only at hr1 hlt
    have hfew := h.few
    obtain ⟨yk, yo, ys, yt, yn, yla, yln, ylc⟩ := ya
    simp only [PN.cells] at h2
    have HL0 := Lib.hid (show LeP p w ((w.setCell ⟨p, 1, none⟩ (.int .i64 ((i : Int) + 1))).alloc (.cells #[.int .i64 0, .int .i64 0, .string ⟨#[]⟩, .string ⟨#[]⟩, .int .i64 0, .slice none 0 0] 25)) from (LeP.set 1 _).trans (LeP.ofExt ((Ext.refl _).alloc _)))
    have HP0 := Lib.hid (show PsAt ((w.setCell ⟨p, 1, none⟩ (.int .i64 ((i : Int) + 1))).alloc (.cells #[.int .i64 0, .int .i64 0, .string ⟨#[]⟩, .string ⟨#[]⟩, .int .i64 0, .slice none 0 0] 25)) p g cap long T ⟨i + 1, deep, at_, er⟩ from
      PsAt.ext (w := w.setCell ⟨p, 1, none⟩ (.int .i64 ((i : Int) + 1))) (h.set (LeP.set 1 _) (h.blk.set 1 _) (by show i + 1 ≤ _; omega)) ((Ext.refl _).alloc _))
    have HR0 := Lib.hid (show Blk ((w.setCell ⟨p, 1, none⟩ (.int .i64 ((i : Int) + 1))).alloc (.cells #[.int .i64 0, .int .i64 0, .string ⟨#[]⟩, .string ⟨#[]⟩, .int .i64 0, .slice none 0 0] 25)) w.heap.size #[.int .i64 0, .int .i64 0, .string ⟨#[]⟩, .string ⟨#[]⟩, .int .i64 0, .slice none 0 0] 25 from Blk.new _ _ _ (by simp))
    have HT0 := Lib.hid (hT.later (fun g h => (hX g h).2) HL0.out)
    have HA0 := Lib.hid (HL0.out.blk h0 h0p)
    have HA1 := Lib.hid (HL0.out.blk h1 h1p)
    have HA2 := Lib.hid (HL0.out.blk h2 h2p)
    have HX := Lib.hid hX
    have HRec := Lib.hid hrec
    have HR1 := Lib.hid hr1
    have KW := Lib.hid (fun (s : PSt) (x : ByteArray) W (hW : PsAt W p g cap long T s) => wantOp_any p g cap long T s x W hW)
    have KO := Lib.hid (fun (s : PSt) (x : ByteArray) W (hW : PsAt W p g cap long T s) => pop_any p g cap long T s x W hW)
    have hb := h.blk
    simp only [psC] at hb
    have hsum := IntWalk.i64_in ((i : Int) + 1) (by omega)
    obtain ⟨cb, fb⟩ := hb.facts
    obtain ⟨c0, f0⟩ := h0.facts
    have hbl := hb.lt
    clear hb h h0 h1 h2 hT hX hrec hr1 hlt
    go_enter Tryz.func201, Tryz.ntmps201
    go_simp
    repeat (first | go_values | go_skip | go_guarded | go_step | go_upon)
    generalize (w.setCell ⟨p, 1, none⟩ (.int .i64 ((i : Int) + 1))).alloc (.cells #[.int .i64 0, .int .i64 0, .string ⟨#[]⟩, .string ⟨#[]⟩, .int .i64 0, .slice none 0 0] 25) = W0 at HL0 HP0 HR0 HT0 HA0 HA1 HA2 ⊢
    clear cb fb c0 f0 hbl
    have hw0 : w.heap.size < W0.heap.size := HR0.out.lt
    have hp0 : p < W0.heap.size := HP0.out.blk.lt
    have HF := Lib.hid (show ∀ W, LeP p W0 W → (∀ j, W.cell? ⟨b0, j, none⟩ = (#[.pointer (some ⟨p, 0, none⟩)] : Array Value)[j]?) ∧ (∀ j, W.cell? ⟨b1, j, none⟩ = (#[.int .i64 nt] : Array Value)[j]?) ∧ (∀ j, W.cell? ⟨b2, j, none⟩ = (#[.int .i64 yk, .int .i64 yo, .string ys, .string yt, .int .i64 yn, .slice yla yln ylc] : Array Value)[j]?) from fun W hW => ⟨(hW.blk HA0.out h0p).cell, (hW.blk HA1.out h1p).cell, (hW.blk HA2.out h2p).cell⟩)
    obtain ⟨c0, f0⟩ := HA0.out.facts
    have hb0l := HA0.out.lt
    go_simp
    repeat (first | go_values | go_skip | go_guarded | go_step | go_upon)
    refine wp_parZD 3 6 (readD W0.heap.size p g cap long T m s2) (by decide) (LeP.size) (leX) (leP p) (LeP.ofExt) [0, 1, 2, 3, 4, 5, 6, 7] 7 7 (fun
        | 0 => fun _ v _ => v = .int .i64 nt
        | 1 => fun _ v _ => v = .agg #[.int .i64 yk, .int .i64 yo, .string ys, .string yt, .int .i64 yn, .slice yla yln ylc]
        | 2 => fun _ v _ => v = .pointer (some ⟨p, 0, none⟩)
        | 3 => fun _ v w => ∃ lo hi, hi ≤ w.heap.size ∧ (readD W0.heap.size p g cap long T m s2) lo hi v w
        | 4 => pairD W0.heap.size 1 ⟨yk, yo, ys, yt, yn, yla, yln, ylc⟩ m
        | 5 => builtD 1 0 9 0 ⟨#[]⟩ ⟨#[]⟩ nt
        | 6 => fun _ => allocD W0.heap.size
        | _ => fun _ _ _ => True) (fun
        | _ => undef) (by kernel_rfl) (by kernel_rfl) (by kernel_rfl) (by decide) (by decide) (fun _ _ _ lo hi h1 h2 => ⟨lo, hi, h1, h2⟩) ?_ ?_ ?_
    · simp (maxSteps := 20000000) only [permL, permOp, List.filterMap_cons, List.filterMap_nil, List.getElem?_cons_succ, List.getElem?_cons_zero, Option.map_some, Option.map_none, List.take_succ_cons, List.take_zero, ParAllD, Act.put, List.setIfInBounds_toArray, List.set_cons_succ, List.set_cons_zero]
      refine ⟨?_, ?_, ?_, ?_, ?_, ?_, ?_, trivial⟩
      · intro vals W hx hd
        rw [if_neg (by decide)] at hx
        have hW := HF.out W hx
        simp [PDepsG, pdeps, Region.binds, List.idxOf_cons] at hd
        refine ParObD.plain rfl ?_
        go_simp
        first | exact IsLe.refl (leX) _ | exact ⟨IsLe.refl (leX) _, fun _ _ => rfl⟩
      · intro vals W hx hd
        rw [if_neg (by decide)] at hx
        have hW := HF.out W hx
        simp [PDepsG, pdeps, Region.binds, List.idxOf_cons] at hd
        refine ParObD.plain rfl ?_
        go_simp
        first | exact IsLe.refl (leX) _ | exact ⟨IsLe.refl (leX) _, fun _ _ => rfl⟩
      · intro vals W hx hd
        rw [if_neg (by decide)] at hx
        have hW := HF.out W hx
        simp [PDepsG, pdeps, Region.binds, List.idxOf_cons] at hd
        refine ParObD.plain rfl ?_
        go_simp
        first | exact IsLe.refl (leX) _ | exact ⟨IsLe.refl (leX) _, fun _ _ => rfl⟩
      · intro vals W hx hd
        rw [if_pos (by decide)] at hx
        simp [PDepsG, pdeps, Region.binds, List.idxOf_cons] at hd
        refine ParObD.call rfl ?_
        go_simp
        refine Calls.mono (HRec.out 1 1 ⟨i + 1, deep, at_, er⟩ m s2 W rfl (by decide) HR1.out (HP0.out.ext hx)) ?_
        rintro e w9 ⟨y, rfl, hty, hpy, hly⟩
        have hs := hx.size
        exact ⟨_, rfl, hly, fun w3 h3 => ⟨hs, y, rfl, (hty.mono (B := fun g => W.heap.size ≤ g ∧ g < w9.heap.size) fun g h1 h2 => ⟨h1, h2⟩).later (p := p) (fun g h => by omega) (LeP.ofExt h3), hpy.ext h3⟩⟩
      · intro vals W hx hd
        rw [if_neg (by decide)] at hx
        have hW := HF.out W hx
        simp [PDepsG, pdeps, Region.binds, List.idxOf_cons] at hd
        refine ParObD.plain rfl ?_
        obtain ⟨h1, lo, hi, hhi, hlo, y, hvy, hty, hpy⟩ := hd
        replace hvy : vals _ = .agg _ := hvy
        have hs := hx.size
        go_simp
        refine ⟨(Ext.refl _).alloc _, fun w3 h3 => ⟨W.heap.size, y, ?_, rfl, ?_, hs, ?_⟩⟩
        · simp [dv, ldeps, pdeps, Region.binds, List.idxOf_cons, hvy, PN.v]
        · exact h3.blk (Blk.new W _ 25 rfl) (by omega)
        · exact (hty.mono (B := fun g => W0.heap.size ≤ g ∧ g < W.heap.size) fun g h1 h2 => by omega).later (p := p) (fun g h => by omega) ((LeP.ofExt ((Ext.refl W).alloc _)).trans h3)
      · intro vals W hx hd
        rw [if_neg (by decide)] at hx
        have hW := HF.out W hx
        simp [PDepsG, pdeps, Region.binds, List.idxOf_cons] at hd
        refine ParObD.plain rfl ?_
        obtain ⟨h0, gs, y, _, hv4, _⟩ := hd
        go_simp
        exact ⟨IsLe.refl leX _, fun w3 h3 => ⟨.slice (some ⟨gs, 0, none⟩) 2 2, by simp [dv, ldeps, pdeps, Region.binds, List.idxOf_cons, hv4], rfl, rfl⟩⟩
      · intro vals W hx hd
        rw [if_neg (by decide)] at hx
        have hW := HF.out W hx
        simp [PDepsG, pdeps, Region.binds, List.idxOf_cons] at hd
        refine ParObD.made rfl ?_
        have hs := hx.size
        go_simp
        exact ⟨⟨(Ext.refl _).alloc _, fun w3 h3 => ⟨W.heap.size, rfl, hs, h3.blk (Blk.new W _ _ rfl) (by omega)⟩⟩, ⟨W.heap.size, rfl, Nat.le_refl _, by simp⟩⟩
    · simp (maxSteps := 20000000) only [permL, permOp, List.filterMap_cons, List.filterMap_nil, List.getElem?_cons_succ, List.getElem?_cons_zero, Option.map_some, Option.map_none, List.drop_succ_cons, List.drop_zero, List.take_succ_cons, List.take_zero, Nat.reduceSub, ZAll, ParEnd, Act.put, List.setIfInBounds_toArray, List.set_cons_succ, List.set_cons_zero]
    intro vals W hx hap hf hz
    obtain ⟨lo, hi, gq, hRc, hhi, hvq, hgq, hap⟩ := hap
    simp (maxSteps := 20000000) only [permL, permOp, List.filterMap_cons, List.filterMap_nil, List.getElem?_cons_succ, List.getElem?_cons_zero, Option.map_some, Option.map_none, ParFactsG, List.take_succ_cons, List.take_zero, and_true, Nat.reduceAdd] at hf
    obtain ⟨f0, f1, f2, f3, f4, f5, f6⟩ := hf
    clear hz
    simp (maxSteps := 20000000) only [permL, permOp, List.filterMap_cons, List.filterMap_nil, List.getElem?_cons_succ, List.getElem?_cons_zero, Option.map_some, Option.map_none, List.drop_succ_cons, List.drop_zero, List.take_succ_cons, List.take_zero, Nat.reduceSub, ParEnd, ZTail, Act.put, List.setIfInBounds_toArray, List.set_cons_succ, List.set_cons_zero, Nat.reduceAdd, f0, f1, f2]
    clear f0 f1 f2
    obtain ⟨gs, y, hds4, hv4, hB4, hge4, hT4⟩ := f4
    simp [dv, ldeps, pdeps, Region.binds, List.idxOf_cons] at hds4
    obtain ⟨u, hds5, hv5, _⟩ := f5
    simp [dv, ldeps, pdeps, Region.binds, List.idxOf_cons] at hds5
    obtain ⟨ga, hva, hgea, hBa⟩ := f6
    obtain rfl : gq = ga := by
      have := hvq.symm.trans hva
      simpa using this
    obtain ⟨hlo, y2, hv3, hT3, hP3⟩ := hRc
    obtain rfl : y = y2 := PN.v_inj (hds4.symm.trans hv3)
    have hTy := hT3.and hT4
    have hne : gs ≠ gq := by
      intro e
      subst e
      have := hB4.symm.trans hBa
      simp [PN.cells, cellsP] at this
    have hv5b : vals 5 = .agg #[.int .i64 9, .int .i64 0, .string ⟨#[]⟩, .string ⟨#[]⟩, .int .i64 nt, .slice (some ⟨gs, 0, none⟩) 2 2] := by rw [hv5, ← hds5, hv4]
    have hqp : gq ≠ p := by omega
    have hqg : g ≠ gq := by have := HP0.out.tok.1; omega
    have hwq : w.heap.size ≠ gq := by omega
    refine ⟨?_⟩
    refine yields_storeP (g := gq) (cs := #[.int .i64 9, .int .i64 0, .string ⟨#[]⟩, .string ⟨#[]⟩, .int .i64 nt, .slice (some ⟨gs, 0, none⟩) 2 2]) rfl (by simp [Act.eval, hvq]) (by simp [Act.eval, hv5b]) hBa rfl rfl (by simp [Value.oneCell']) ?_
    have HP5 := Lib.hid (hP3.row (Ne.symm hqp) hqg #[.int .i64 9, .int .i64 0, .string ⟨#[]⟩, .string ⟨#[]⟩, .int .i64 nt, .slice (some ⟨gs, 0, none⟩) 2 2])
    have HV5 := Lib.hid (show Blk _ gq #[.int .i64 9, .int .i64 0, .string ⟨#[]⟩, .string ⟨#[]⟩, .int .i64 nt, .slice (some ⟨gs, 0, none⟩) 2 2] 25 from setRow_heap W gq _ #[.int .i64 9, .int .i64 0, .string ⟨#[]⟩, .string ⟨#[]⟩, .int .i64 nt, .slice (some ⟨gs, 0, none⟩) 2 2] _ _ hBa)
    have HR5 := Lib.hid (show Blk _ w.heap.size _ 25 from (setRow_other W gq w.heap.size #[.int .i64 9, .int .i64 0, .string ⟨#[]⟩, .string ⟨#[]⟩, .int .i64 nt, .slice (some ⟨gs, 0, none⟩) 2 2] hwq).trans (hx.blk HR0.out hwp))
    have HL5 := Lib.hid ((HL0.out.trans hx).row (show w.heap.size ≤ gq by omega) #[.int .i64 9, .int .i64 0, .string ⟨#[]⟩, .string ⟨#[]⟩, .int .i64 nt, .slice (some ⟨gs, 0, none⟩) 2 2])
    have HA5 := Lib.hid (show Blk _ b0 _ 38 from (setRow_other W gq b0 #[.int .i64 9, .int .i64 0, .string ⟨#[]⟩, .string ⟨#[]⟩, .int .i64 nt, .slice (some ⟨gs, 0, none⟩) 2 2] (by omega)).trans (hx.blk HA0.out h0p))
    have HN5 := Lib.hid ((pnAt_of [⟨yk, yo, ys, yt, yn, yla, yln, ylc⟩, y] hB4).same (w' := W.setRow gq #[.int .i64 9, .int .i64 0, .string ⟨#[]⟩, .string ⟨#[]⟩, .int .i64 nt, .slice (some ⟨gs, 0, none⟩) 2 2]) (setRow_other W gq gs _ hne) (by simp))
    have HTa := Lib.hid (((HT0.out.mono (B := fun g => g < w.heap.size ∧ g ≠ p ∧ X g) fun g h1 _ => ⟨(HX.out g h1).1, (HX.out g h1).2, h1⟩).later (p := p) (fun g h => h.2.1) hx).row (b := gq) (fun g h => by omega) #[.int .i64 9, .int .i64 0, .string ⟨#[]⟩, .string ⟨#[]⟩, .int .i64 nt, .slice (some ⟨gs, 0, none⟩) 2 2])
    have HTy := Lib.hid ((hTy.mono (B := fun g => g ≠ gq ∧ W0.heap.size ≤ g) fun g h1 _ => by
      obtain ⟨⟨a1, a2⟩, a3, a4⟩ := h1
      omega).row (b := gq) (fun g h => h.1) #[.int .i64 9, .int .i64 0, .string ⟨#[]⟩, .string ⟨#[]⟩, .int .i64 nt, .slice (some ⟨gs, 0, none⟩) 2 2])
    generalize W.setRow gq #[.int .i64 9, .int .i64 0, .string ⟨#[]⟩, .string ⟨#[]⟩, .int .i64 nt, .slice (some ⟨gs, 0, none⟩) 2 2] = W5 at HP5 HV5 HR5 HL5 HA5 HN5 HTa HTy ⊢
    clear hx hT3 hT4 hTy hP3 hB4 hBa HF HP0 HR0 HT0 HL0 HA0 HA1 HA2 hv4 hv5 hv5b hds4 hds5 hva hhi hgq hap hlo f0 c0 hb0l f3 HX
    generalize vals 3 = v3
    generalize vals 4 = v4
    generalize vals 5 = v5
    rw [hvq]
    clear hvq
    obtain ⟨c0, f0⟩ := HA5.out.facts
    have hb0l := HA5.out.lt
    go_simp
    repeat (first | go_values | go_skip | go_guarded | go_step | go_upon)
    refine wp_loop_rounds 1 ?_
    rw [rounds_succ]
    go_simp
    repeat (first | go_values | go_skip | go_guarded | go_step | go_upon)
    refine Calls.mono (KO.out s2 ⟨#[44]⟩ W5 HP5.out) ?_
    rw [show bsl ⟨#[44]⟩ = [44] from rfl, HCm.out]
    rintro e W6 ⟨rfl, hp6, hl6⟩
    have hgp : gs ≠ p := by omega
    have HP6 := Lib.hid (show PsAt W6 p g cap long T s2 from hp6)
    have HV6 := Lib.hid (hl6.blk HV5.out hqp)
    have HR6 := Lib.hid (hl6.blk HR5.out hwp)
    have HL6 := Lib.hid (HL5.out.trans hl6)
    have HA6 := Lib.hid (hl6.blk HA5.out h0p)
    have HN6 := Lib.hid (HN5.out.same (hl6.old _ HN5.out.1 hgp) hl6.size)
    have HTa6 := Lib.hid (HTa.out.later (p := p) (fun g h => h.2.1) hl6)
    have HTy6 := Lib.hid (HTy.out.later (p := p) (fun g h => by omega) hl6)
    clear hp6 hl6 HP5 HV5 HR5 HL5 HA5 HN5 HTa HTy c0 f0 hb0l KO
    obtain ⟨c0, f0⟩ := HA6.out.facts
    have hb0l := HA6.out.lt
    go_simp
    repeat (first | go_values | go_skip | go_guarded | go_step | go_upon)
    refine Calls.mono (KW.out s2 ⟨#[41]⟩ W6 HP6.out) ?_
    rw [show bsl ⟨#[41]⟩ = [41] from rfl]
    rintro e W7 ⟨rfl, hp7, hl7⟩
    have HP7 := Lib.hid hp7
    have HV7 := Lib.hid (hl7.blk HV6.out hqp)
    have HR7 := Lib.hid (hl7.blk HR6.out hwp)
    have HL7 := Lib.hid (HL6.out.trans hl7)
    have HN7 := Lib.hid (HN6.out.same (hl7.old _ HN6.out.1 hgp) hl7.size)
    have HTa7 := Lib.hid (HTa6.out.later (p := p) (fun g h => h.2.1) hl7)
    have HTy7 := Lib.hid (HTy6.out.later (p := p) (fun g h => by omega) hl7)
    clear hp7 hl7 HP6 HV6 HR6 HL6 HA6 HN6 HTa6 HTy6 c0 f0 hb0l KW
    obtain ⟨cv, fv⟩ := HV7.out.facts
    have hvl := HV7.out.lt
    obtain ⟨cr, fr⟩ := HR7.out.facts
    have hrl := HR7.out.lt
    obtain ⟨rfl, rfl⟩ := Prod.mk.inj (Option.some.inj HFf.out)
    go_simp
    repeat (first | go_values | go_skip | go_guarded | go_step | go_upon)
    refine bodyPost_ret (ret_ndP rfl _ rfl rfl (blk6P HR7.out _ _ _ _ _ _)) rfl ?_
    refine ⟨⟨9, 0, ⟨#[]⟩, ⟨#[]⟩, nt, some ⟨gs, 0, none⟩, 2, 2⟩, rfl, ?_, HP7.out.other6 hpw hgw _ _ _ _ _ _, HL7.out.other6 (Nat.le_refl _) _ _ _ _ _ _⟩
    refine ((two_kids (A := fun g => g ≠ w.heap.size ∧ (X g ∨ w.heap.size ≤ g)) (s := []) (t := []) (Nat.le_refl _) ⟨by omega, .inr (by omega)⟩ HN7.out (HTa7.out.mono fun g h _ => ⟨by omega, .inl h.2.2⟩) (HTy7.out.mono fun g h _ => ⟨by omega, .inr (by omega)⟩)).set6 (b := w.heap.size) (fun g h => h.1) _ _ _ _ _ _).mono fun g h _ => h.2
  · rw [if_neg hlt] at hf; cases hf
def inF (rec : Nat → PSt → Option (Tr × PSt)) (T : List Lx.Tok) (long : Nat) (a : Tr) (nt : Int) (s : PSt) : Option (Tr × PSt) := withinF T long (inBody rec T long a nt) (if isB T s 5 [40] then s else wrongP T long 10 s)
set_option maxHeartbeats 16000000 in
theorem in_any (X : Nat → Prop) (ya : PN) (ta : Tr) (nt : Int) (p g cap long : Nat) (T : List Lx.Tok) (rec : Nat → PSt → Option (Tr × PSt)) (hrec : LevOk p g cap long T rec) (s : PSt) (r : Tr) (s' : PSt) (w : World) (hf : inF rec T long ta nt s = some (r, s')) (h : PsAt w p g cap long T s)
    (hX : ∀ g, X g → g < w.heap.size ∧ g ≠ p) (hT : TrAt X w ya ta) :
    Calls Tryz.prog 127 #[.pointer (some ⟨p, 0, none⟩), ya.v, .int .i64 nt] w (LevPostX X p g cap long T r s' w) := by
  have hpl : p < w.heap.size := h.blk.lt
  have hgl : g < w.heap.size := h.tok.1
  have hpw : p ≠ w.heap.size + 1 + 1 + 1 := by omega
  have hgw : g ≠ w.heap.size + 1 + 1 + 1 := by omega
  have hwp : w.heap.size + 1 + 1 + 1 ≠ p := Ne.symm hpw
  have hAp : w.heap.size ≠ p := by omega
  have hBp : w.heap.size + 1 ≠ p := by omega
  have hCp : w.heap.size + 1 + 1 ≠ p := by omega
  obtain ⟨yk, yo, ys, yt, yn, yla, yln, ylc⟩ := ya
  simp only [PN.v]
  have hx0 : Ext w ((((w.alloc (.cells #[.pointer (some ⟨p, 0, none⟩)] 38)).alloc (.cells #[.int .i64 yk, .int .i64 yo, .string ys, .string yt, .int .i64 yn, .slice yla yln ylc] 25)).alloc (.cells #[.int .i64 nt] 2)).alloc (.cells #[.int .i64 0, .int .i64 0, .string ⟨#[]⟩, .string ⟨#[]⟩, .int .i64 0, .slice none 0 0] 25)) := ((((Ext.refl w).alloc _).alloc _).alloc _).alloc _
  have HL0 := Lib.hid (LeP.ofExt (p := p) hx0)
  have HP0 := Lib.hid (h.ext hx0)
  have HA0 := Lib.hid (show Blk ((((w.alloc (.cells #[.pointer (some ⟨p, 0, none⟩)] 38)).alloc (.cells #[.int .i64 yk, .int .i64 yo, .string ys, .string yt, .int .i64 yn, .slice yla yln ylc] 25)).alloc (.cells #[.int .i64 nt] 2)).alloc (.cells #[.int .i64 0, .int .i64 0, .string ⟨#[]⟩, .string ⟨#[]⟩, .int .i64 0, .slice none 0 0] 25)) w.heap.size #[.pointer (some ⟨p, 0, none⟩)] 38 from (((Blk.new w _ _ rfl).alloc _).alloc _).alloc _)
  have HB0 := Lib.hid (show Blk ((((w.alloc (.cells #[.pointer (some ⟨p, 0, none⟩)] 38)).alloc (.cells #[.int .i64 yk, .int .i64 yo, .string ys, .string yt, .int .i64 yn, .slice yla yln ylc] 25)).alloc (.cells #[.int .i64 nt] 2)).alloc (.cells #[.int .i64 0, .int .i64 0, .string ⟨#[]⟩, .string ⟨#[]⟩, .int .i64 0, .slice none 0 0] 25)) (w.heap.size + 1) #[.int .i64 yk, .int .i64 yo, .string ys, .string yt, .int .i64 yn, .slice yla yln ylc] 25 from ((Blk.new (w.alloc (.cells #[.pointer (some ⟨p, 0, none⟩)] 38)) _ _ (by simp)).alloc _).alloc _)
  have HC0 := Lib.hid (show Blk ((((w.alloc (.cells #[.pointer (some ⟨p, 0, none⟩)] 38)).alloc (.cells #[.int .i64 yk, .int .i64 yo, .string ys, .string yt, .int .i64 yn, .slice yla yln ylc] 25)).alloc (.cells #[.int .i64 nt] 2)).alloc (.cells #[.int .i64 0, .int .i64 0, .string ⟨#[]⟩, .string ⟨#[]⟩, .int .i64 0, .slice none 0 0] 25)) (w.heap.size + 1 + 1) #[.int .i64 nt] 2 from (Blk.new ((w.alloc (.cells #[.pointer (some ⟨p, 0, none⟩)] 38)).alloc (.cells #[.int .i64 yk, .int .i64 yo, .string ys, .string yt, .int .i64 yn, .slice yla yln ylc] 25)) _ _ (by simp)).alloc _)
  have HR0 := Lib.hid (show Blk ((((w.alloc (.cells #[.pointer (some ⟨p, 0, none⟩)] 38)).alloc (.cells #[.int .i64 yk, .int .i64 yo, .string ys, .string yt, .int .i64 yn, .slice yla yln ylc] 25)).alloc (.cells #[.int .i64 nt] 2)).alloc (.cells #[.int .i64 0, .int .i64 0, .string ⟨#[]⟩, .string ⟨#[]⟩, .int .i64 0, .slice none 0 0] 25)) (w.heap.size + 1 + 1 + 1) #[.int .i64 0, .int .i64 0, .string ⟨#[]⟩, .string ⟨#[]⟩, .int .i64 0, .slice none 0 0] 25 from Blk.new (((w.alloc (.cells #[.pointer (some ⟨p, 0, none⟩)] 38)).alloc (.cells #[.int .i64 yk, .int .i64 yo, .string ys, .string yt, .int .i64 yn, .slice yla yln ylc] 25)).alloc (.cells #[.int .i64 nt] 2)) _ _ (by simp))
  have HT0 := Lib.hid (hT.later (fun g h => (hX g h).2) HL0.out)
  have HX := Lib.hid hX
  have HRec := Lib.hid hrec
  have HFf := Lib.hid hf
  have KI := Lib.hid (fun W (hW : PsAt W p g cap long T s) => is_any p g cap long T s 5 ⟨#[40]⟩ W hW)
  have KG := Lib.hid (fun W (hW : PsAt W p g cap long T s) => wrong_any p g cap long T s 10 W hW)
  clear h hX hT hrec hf hx0
  obtain ⟨ca, fa⟩ := HA0.out.facts
  have hal := HA0.out.lt
  go_enter Tryz.func127, Tryz.ntmps127
  go_simp
  repeat (first | go_values | go_skip | go_guarded | go_step | go_upon)
  generalize ((((w.alloc (.cells #[.pointer (some ⟨p, 0, none⟩)] 38)).alloc (.cells #[.int .i64 yk, .int .i64 yo, .string ys, .string yt, .int .i64 yn, .slice yla yln ylc] 25)).alloc (.cells #[.int .i64 nt] 2)).alloc (.cells #[.int .i64 0, .int .i64 0, .string ⟨#[]⟩, .string ⟨#[]⟩, .int .i64 0, .slice none 0 0] 25)) = W0 at HL0 HP0 HA0 HB0 HC0 HR0 HT0 ca fa hal ⊢
  refine Calls.mono (KI.out W0 HP0.out) ?_
  rw [show bsl ⟨#[40]⟩ = [40] from rfl]
  have hf := HFf.out
  clear HFf
  unfold inF at hf
  cases hpar : isB T s 5 [40]
  · rw [hpar, if_neg (by decide)] at hf
    rintro e W5 ⟨rfl, hl⟩
    have HP5 := Lib.hid (HP0.out.ext hl)
    have hl := LeP.ofExt (p := p) hl
    have HA5 := Lib.hid (hl.blk HA0.out hAp)
    have HB5 := Lib.hid (hl.blk HB0.out hBp)
    have HC5 := Lib.hid (hl.blk HC0.out hCp)
    have HR5 := Lib.hid (hl.blk HR0.out hwp)
    have HL5 := Lib.hid (HL0.out.trans hl)
    have HT5 := Lib.hid (HT0.out.later (fun g h => (HX.out g h).2) hl)
    clear hl HP0 HA0 HB0 HC0 HR0 HL0 HT0 ca fa hal
    obtain ⟨ca, fa⟩ := HA5.out.facts
    have hal := HA5.out.lt
    go_simp
    repeat (first | go_values | go_skip | go_guarded | go_step | go_upon)
    refine Calls.mono (KG.out W5 HP5.out) ?_
    rintro e W6 ⟨rfl, hp6, hl⟩
    generalize wrongP T long 10 s = s1 at hp6 hf
    have HFf := Lib.hid hf
    have HP6 := Lib.hid hp6
    have HA6 := Lib.hid (hl.blk HA5.out hAp)
    have HB6 := Lib.hid (hl.blk HB5.out hBp)
    have HC6 := Lib.hid (hl.blk HC5.out hCp)
    have HR6 := Lib.hid (hl.blk HR5.out hwp)
    have HL6 := Lib.hid (HL5.out.trans hl)
    have HT6 := Lib.hid (HT5.out.later (fun g h => (HX.out g h).2) hl)
    have hw6 : w.heap.size + 1 + 1 + 1 < W6.heap.size := HR6.out.lt
    clear hl hp6 hf HP5 HA5 HB5 HC5 HR5 HL5 HT5 ca fa hal
    have KL := Lib.hid (within_three X 201 (.pointer (some ⟨w.heap.size, 0, none⟩)) (.pointer (some ⟨w.heap.size + 1 + 1, 0, none⟩)) (.pointer (some ⟨w.heap.size + 1, 0, none⟩)) (fun _ _ => by kernel_rfl) p g cap long T (inBody rec T long ta nt) s1 r s' W6 (fun g h => ⟨by have := (HX.out g h).1; omega, (HX.out g h).2⟩) HFf.out HP6.out (fun s1 r1 s2 W hs hl hp => inclo_any X w.heap.size (w.heap.size + 1 + 1) (w.heap.size + 1) ⟨yk, yo, ys, yt, yn, yla, yln, ylc⟩ ta nt p g cap long T rec HRec.out s1 r1 s2 W hs hp (fun g h => ⟨by have := (HX.out g h).1; have := hl.size; omega, (HX.out g h).2⟩) (HT6.out.later (fun g h => (HX.out g h).2) hl) (hl.blk HA6.out hAp) (hl.blk HC6.out hCp) (hl.blk HB6.out hBp) hAp hCp hBp))
    obtain ⟨ca, fa⟩ := HA6.out.facts
    have hal := HA6.out.lt
    go_simp
    repeat (first | go_values | go_skip | go_guarded | go_step | go_upon)
    refine Calls.mono KL.out ?_
    rintro e W7 ⟨x, rfl, ht, hp7, hl7⟩
    have HR7 := Lib.hid (hl7.blk HR6.out hwp)
    have HL7 := Lib.hid (HL6.out.trans hl7)
    have HT7 := Lib.hid (ht.mono (B := fun g => g ≠ w.heap.size + 1 + 1 + 1 ∧ (X g ∨ w.heap.size ≤ g)) fun g h1 h2 => by
      rcases h1 with h1 | h1
      · exact ⟨by have := (HX.out g h1).1; omega, .inl h1⟩
      · exact ⟨by omega, .inr (by omega)⟩)
    have HP7 := Lib.hid hp7
    clear ht hp7 hl7 HP6 HR6 HL6 HA6 HB6 HC6 HT6 ca fa hal KL
    obtain ⟨xk, xo, xs, xt, xn, xla, xln, xlc⟩ := x
    simp only [PN.v]
    obtain ⟨cr, fr⟩ := HR7.out.facts
    have hrl := HR7.out.lt
    go_simp
    repeat (first | go_values | go_skip | go_guarded | go_step | go_upon)
    refine bodyPost_ret (ret_ndP rfl _ rfl rfl (blk6P HR7.out _ _ _ _ _ _)) rfl ?_
    refine ⟨⟨xk, xo, xs, xt, xn, xla, xln, xlc⟩, rfl, ?_, HP7.out.other6 hpw hgw _ _ _ _ _ _, HL7.out.other6 (by omega) _ _ _ _ _ _⟩
    exact (HT7.out.set6 (b := w.heap.size + 1 + 1 + 1) (fun g h => h.1) _ _ _ _ _ _).mono fun g h _ => h.2
  · rw [hpar, if_pos rfl] at hf
    rintro e W6 ⟨rfl, hl⟩
    have HFf := Lib.hid hf
    have HP6 := Lib.hid (HP0.out.ext hl)
    have hl := LeP.ofExt (p := p) hl
    have HA6 := Lib.hid (hl.blk HA0.out hAp)
    have HB6 := Lib.hid (hl.blk HB0.out hBp)
    have HC6 := Lib.hid (hl.blk HC0.out hCp)
    have HR6 := Lib.hid (hl.blk HR0.out hwp)
    have HL6 := Lib.hid (HL0.out.trans hl)
    have HT6 := Lib.hid (HT0.out.later (fun g h => (HX.out g h).2) hl)
    have hw6 : w.heap.size + 1 + 1 + 1 < W6.heap.size := HR6.out.lt
    clear hl hf HP0 HA0 HB0 HC0 HR0 HL0 HT0 ca fa hal
    obtain ⟨s1, hs1⟩ : ∃ s1, s1 = s := ⟨_, rfl⟩
    rw [← hs1] at HP6 HFf
    clear hs1
    have KL := Lib.hid (within_three X 201 (.pointer (some ⟨w.heap.size, 0, none⟩)) (.pointer (some ⟨w.heap.size + 1 + 1, 0, none⟩)) (.pointer (some ⟨w.heap.size + 1, 0, none⟩)) (fun _ _ => by kernel_rfl) p g cap long T (inBody rec T long ta nt) s1 r s' W6 (fun g h => ⟨by have := (HX.out g h).1; omega, (HX.out g h).2⟩) HFf.out HP6.out (fun s1 r1 s2 W hs hl hp => inclo_any X w.heap.size (w.heap.size + 1 + 1) (w.heap.size + 1) ⟨yk, yo, ys, yt, yn, yla, yln, ylc⟩ ta nt p g cap long T rec HRec.out s1 r1 s2 W hs hp (fun g h => ⟨by have := (HX.out g h).1; have := hl.size; omega, (HX.out g h).2⟩) (HT6.out.later (fun g h => (HX.out g h).2) hl) (hl.blk HA6.out hAp) (hl.blk HC6.out hCp) (hl.blk HB6.out hBp) hAp hCp hBp))
    obtain ⟨ca, fa⟩ := HA6.out.facts
    have hal := HA6.out.lt
    go_simp
    repeat (first | go_values | go_skip | go_guarded | go_step | go_upon)
    refine Calls.mono KL.out ?_
    rintro e W7 ⟨x, rfl, ht, hp7, hl7⟩
    have HR7 := Lib.hid (hl7.blk HR6.out hwp)
    have HL7 := Lib.hid (HL6.out.trans hl7)
    have HT7 := Lib.hid (ht.mono (B := fun g => g ≠ w.heap.size + 1 + 1 + 1 ∧ (X g ∨ w.heap.size ≤ g)) fun g h1 h2 => by
      rcases h1 with h1 | h1
      · exact ⟨by have := (HX.out g h1).1; omega, .inl h1⟩
      · exact ⟨by omega, .inr (by omega)⟩)
    have HP7 := Lib.hid hp7
    clear ht hp7 hl7 HP6 HR6 HL6 HA6 HB6 HC6 HT6 ca fa hal KL
    obtain ⟨xk, xo, xs, xt, xn, xla, xln, xlc⟩ := x
    simp only [PN.v]
    obtain ⟨cr, fr⟩ := HR7.out.facts
    have hrl := HR7.out.lt
    go_simp
    repeat (first | go_values | go_skip | go_guarded | go_step | go_upon)
    refine bodyPost_ret (ret_ndP rfl _ rfl rfl (blk6P HR7.out _ _ _ _ _ _)) rfl ?_
    refine ⟨⟨xk, xo, xs, xt, xn, xla, xln, xlc⟩, rfl, ?_, HP7.out.other6 hpw hgw _ _ _ _ _ _, HL7.out.other6 (by omega) _ _ _ _ _ _⟩
    exact (HT7.out.set6 (b := w.heap.size + 1 + 1 + 1) (fun g h => h.1) _ _ _ _ _ _).mono fun g h _ => h.2
end Go.Proofs.YtlhkmdchjklaeaaGreatDoor
