import Derived.Test.YtchpbdodlbghaaaGreatDoorParD
import Derived.Test.YtchpbdodlbghaaaGreatDoorPsrT
namespace Go.Proofs.YtchpbdodlbghaaaGreatDoor
open Go.RowKit Go.Lib
set_option maxRecDepth 100000

def readD (n0 p g cap long : Nat) (T : List Lx.Tok) (r : Tr) (s' : PSt) (lo hi : Nat) (v : Value) (w : World) : Prop := n0 ≤ lo ∧ ∃ y : PN, v = y.v ∧ TrAt (fun g => lo ≤ g ∧ g < hi) w y r ∧ PsAt w p g cap long T s'
def inBody (rec : Nat → PSt → Option (Tr × PSt)) (T : List Lx.Tok) (long : Nat) (a : Tr) (nt : Int) (s : PSt) : Option (Tr × PSt) :=
  if s.i < T.length then (rec 1 { s with i := s.i + 1 }).bind fun m => if isB T m.2 5 [44] then none else some (.mk 9 0 [] [] nt [a, m.1], wantF T long m.2 [41]) else none
set_option maxHeartbeats 16000000 in
theorem inclo_any (X : Nat → Prop) (b0 b1 b2 : Nat) (ya : PN) (ta : Tr) (nt : Int) (p g cap long : Nat) (T : List Lx.Tok) (rec : Nat → PSt → Option (Tr × PSt)) (hrec : LevOk p g cap long T rec) (s : PSt) (r : Tr) (s' : PSt) (w : World) (hf : inBody rec T long ta nt s = some (r, s')) (h : PsAt w p g cap long T s)
    (hX : ∀ g, X g → g < w.heap.size ∧ g ≠ p) (hT : TrAt X w ya ta)
    (h0 : Blk w b0 #[.pointer (some ⟨p, 0, none⟩)] 137) (h1 : Blk w b1 #[.int .i64 nt] 2) (h2 : Blk w b2 ya.cells 196) (h0p : b0 ≠ p) (h1p : b1 ≠ p) (h2p : b2 ≠ p) :
    Calls Tryz.prog 532 #[.pointer (some ⟨b0, 0, none⟩), .pointer (some ⟨b1, 0, none⟩), .pointer (some ⟨b2, 0, none⟩)] w (LevPostX X p g cap long T r s' w) := by
  have mixed : Tryz.prog.follows .mixedOrders = true := by kernel_rfl
  have hpl : p < w.heap.size := h.blk.lt
  have hpw : p ≠ w.heap.size := by omega
  have hgl : g < w.heap.size := h.tok.1
  have hgw : g ≠ w.heap.size := by omega
  have hwp : w.heap.size ≠ p := Ne.symm hpw
  have hb0w : b0 < w.heap.size := h0.lt
  have hb1w : b1 < w.heap.size := h1.lt
  have hb2w : b2 < w.heap.size := h2.lt
  unfold inBody at hf
  by_cases hlt : s.i < T.length
  · rw [if_pos hlt] at hf
    cases hr1 : rec 1 { s with i := s.i + 1 } with
    | none => rw [hr1] at hf; cases hf
    | some m1 =>
    obtain ⟨m, s2⟩ := m1
    rw [hr1] at hf
    simp only [Option.bind_some] at hf
    cases hcm : isB T s2 5 [44]
    case true => rw [hcm] at hf; cases hf
    rw [hcm, if_neg (by decide)] at hf
    have HFf := Lib.hid hf
    have HCm := Lib.hid hcm
    clear hf hcm
    obtain ⟨i, deep, at_, er⟩ := s
    simp only at hr1 hlt
    have hfew := h.few
    obtain ⟨yk, yo, ys, yt, yn, yla, yln, ylc⟩ := ya
    simp only [PN.cells] at h2
    have HL0 := Lib.hid (show LeP p w ((w.setCell ⟨p, 1, none⟩ (.int .i64 ((i : Int) + 1))).alloc (.cells #[.int .i64 0, .int .i64 0, .string ⟨#[]⟩, .string ⟨#[]⟩, .int .i64 0, .slice none 0 0] 196)) from (LeP.set 1 _).trans (LeP.ofExt ((Ext.refl _).alloc _)))
    have HP0 := Lib.hid (show PsAt ((w.setCell ⟨p, 1, none⟩ (.int .i64 ((i : Int) + 1))).alloc (.cells #[.int .i64 0, .int .i64 0, .string ⟨#[]⟩, .string ⟨#[]⟩, .int .i64 0, .slice none 0 0] 196)) p g cap long T ⟨i + 1, deep, at_, er⟩ from
      PsAt.ext (w := w.setCell ⟨p, 1, none⟩ (.int .i64 ((i : Int) + 1))) (h.set (LeP.set 1 _) (h.blk.set 1 _) (by show i + 1 ≤ _; omega)) ((Ext.refl _).alloc _))
    have HR0 := Lib.hid (show Blk ((w.setCell ⟨p, 1, none⟩ (.int .i64 ((i : Int) + 1))).alloc (.cells #[.int .i64 0, .int .i64 0, .string ⟨#[]⟩, .string ⟨#[]⟩, .int .i64 0, .slice none 0 0] 196)) w.heap.size #[.int .i64 0, .int .i64 0, .string ⟨#[]⟩, .string ⟨#[]⟩, .int .i64 0, .slice none 0 0] 196 from Blk.new _ _ _ (by simp))
    have HT0 := Lib.hid (hT.later (fun g h => (hX g h).2) HL0.out)
    have HA0 := Lib.hid (HL0.out.blk h0 h0p)
    have HA1 := Lib.hid (HL0.out.blk h1 h1p)
    have HA2 := Lib.hid (HL0.out.blk h2 h2p)
    have HX := Lib.hid hX
    have HRec := Lib.hid hrec
    have HR1 := Lib.hid hr1
    have KW := Lib.hid (fun (s : PSt) (x : ByteArray) W (hW : PsAt W p g cap long T s) => wantOp_any p g cap long T s x W hW)
    have KO := Lib.hid (fun (s : PSt) (x : ByteArray) W (hW : PsAt W p g cap long T s) => pop_any p g cap long T s x W hW)
    have hb := h.blk
    simp only [psC] at hb
    have hsum := IntWalk.i64_in ((i : Int) + 1) (by omega)
    obtain ⟨cb, fb⟩ := hb.facts
    obtain ⟨c0, f0⟩ := h0.facts
    have hbl := hb.lt
    clear hb h h0 h1 h2 hT hX hrec hr1 hlt
    go_enter Tryz.func532, Tryz.ntmps532
    go_simp
    repeat (first | go_values | go_skip | go_guarded | go_step | go_upon)
    generalize (w.setCell ⟨p, 1, none⟩ (.int .i64 ((i : Int) + 1))).alloc (.cells #[.int .i64 0, .int .i64 0, .string ⟨#[]⟩, .string ⟨#[]⟩, .int .i64 0, .slice none 0 0] 196) = W0 at HL0 HP0 HR0 HT0 HA0 HA1 HA2 ⊢
    clear cb fb c0 f0 hbl
    have hw0 : w.heap.size < W0.heap.size := HR0.out.lt
    have hp0 : p < W0.heap.size := HP0.out.blk.lt
    have HF := Lib.hid (show ∀ W, LeP p W0 W → (∀ j, W.cell? ⟨b0, j, none⟩ = (#[.pointer (some ⟨p, 0, none⟩)] : Array Value)[j]?) ∧ (∀ j, W.cell? ⟨b1, j, none⟩ = (#[.int .i64 nt] : Array Value)[j]?) ∧ (∀ j, W.cell? ⟨b2, j, none⟩ = (#[.int .i64 yk, .int .i64 yo, .string ys, .string yt, .int .i64 yn, .slice yla yln ylc] : Array Value)[j]?) from fun W hW => ⟨(hW.blk HA0.out h0p).cell, (hW.blk HA1.out h1p).cell, (hW.blk HA2.out h2p).cell⟩)
    obtain ⟨c0, f0⟩ := HA0.out.facts
    have hb0l := HA0.out.lt
    go_simp
    repeat (first | go_values | go_skip | go_guarded | go_step | go_upon)
    refine wp_parZD 3 6 (readD W0.heap.size p g cap long T m s2) (by decide) (LeP.size) (leX) (leP p) (LeP.ofExt) [0, 1, 2, 3, 4, 5, 6, 7] 7 7 (fun
        | 0 => fun _ v _ => v = .int .i64 nt
        | 1 => fun _ v _ => v = .agg #[.int .i64 yk, .int .i64 yo, .string ys, .string yt, .int .i64 yn, .slice yla yln ylc]
        | 2 => fun _ v _ => v = .pointer (some ⟨p, 0, none⟩)
        | 3 => fun _ v w => ∃ lo hi, hi ≤ w.heap.size ∧ (readD W0.heap.size p g cap long T m s2) lo hi v w
        | 4 => pairD W0.heap.size 1 ⟨yk, yo, ys, yt, yn, yla, yln, ylc⟩ m
        | 5 => builtD 1 0 9 0 ⟨#[]⟩ ⟨#[]⟩ nt
        | 6 => fun _ => allocD W0.heap.size
        | _ => fun _ _ _ => True) (fun
        | _ => undef) (by kernel_rfl) (by kernel_rfl) (by kernel_rfl) (by decide) (by decide) (fun _ _ _ lo hi h1 h2 => ⟨lo, hi, h1, h2⟩) ?_ ?_ ?_
    · simp (maxSteps := 20000000) only [permL, permOp, List.filterMap_cons, List.filterMap_nil, List.getElem?_cons_succ, List.getElem?_cons_zero, Option.map_some, Option.map_none, List.take_succ_cons, List.take_zero, ParAllD, Act.put, List.setIfInBounds_toArray, List.set_cons_succ, List.set_cons_zero]
      refine ⟨?_, ?_, ?_, ?_, ?_, ?_, ?_, trivial⟩
      · intro vals W hx hd
        rw [if_neg (by decide)] at hx
        have hW := HF.out W hx
        simp [PDepsG, pdeps, Region.binds, List.idxOf_cons] at hd
        refine ParObD.plain rfl ?_
        go_simp
        first | exact IsLe.refl (leX) _ | exact ⟨IsLe.refl (leX) _, fun _ _ => rfl⟩
      · intro vals W hx hd
        rw [if_neg (by decide)] at hx
        have hW := HF.out W hx
        simp [PDepsG, pdeps, Region.binds, List.idxOf_cons] at hd
        refine ParObD.plain rfl ?_
        go_simp
        first | exact IsLe.refl (leX) _ | exact ⟨IsLe.refl (leX) _, fun _ _ => rfl⟩
      · intro vals W hx hd
        rw [if_neg (by decide)] at hx
        have hW := HF.out W hx
        simp [PDepsG, pdeps, Region.binds, List.idxOf_cons] at hd
        refine ParObD.plain rfl ?_
        go_simp
        first | exact IsLe.refl (leX) _ | exact ⟨IsLe.refl (leX) _, fun _ _ => rfl⟩
      · intro vals W hx hd
        rw [if_pos (by decide)] at hx
        simp [PDepsG, pdeps, Region.binds, List.idxOf_cons] at hd
        refine ParObD.call rfl ?_
        go_simp
        refine Calls.mono (HRec.out 1 1 ⟨i + 1, deep, at_, er⟩ m s2 W rfl (by decide) HR1.out (HP0.out.ext hx)) ?_
        rintro e w9 ⟨y, rfl, hty, hpy, hly⟩
        have hs := hx.size
        exact ⟨_, rfl, hly, fun w3 h3 => ⟨hs, y, rfl, (hty.mono (B := fun g => W.heap.size ≤ g ∧ g < w9.heap.size) fun g h1 h2 => ⟨h1, h2⟩).later (p := p) (fun g h => by omega) (LeP.ofExt h3), hpy.ext h3⟩⟩
      · intro vals W hx hd
        rw [if_neg (by decide)] at hx
        have hW := HF.out W hx
        simp [PDepsG, pdeps, Region.binds, List.idxOf_cons] at hd
        refine ParObD.plain rfl ?_
        obtain ⟨h1, lo, hi, hhi, hlo, y, hvy, hty, hpy⟩ := hd
        replace hvy : vals _ = .agg _ := hvy
        have hs := hx.size
        go_simp
        refine ⟨(Ext.refl _).alloc _, fun w3 h3 => ⟨W.heap.size, y, ?_, rfl, ?_, hs, ?_⟩⟩
        · simp [dv, ldeps, pdeps, Region.binds, List.idxOf_cons, hvy, PN.v]
        · exact h3.blk (Blk.new W _ 196 rfl) (by omega)
        · exact (hty.mono (B := fun g => W0.heap.size ≤ g ∧ g < W.heap.size) fun g h1 h2 => by omega).later (p := p) (fun g h => by omega) ((LeP.ofExt ((Ext.refl W).alloc _)).trans h3)
      · intro vals W hx hd
        rw [if_neg (by decide)] at hx
        have hW := HF.out W hx
        simp [PDepsG, pdeps, Region.binds, List.idxOf_cons] at hd
        refine ParObD.plain rfl ?_
        obtain ⟨h0, gs, y, _, hv4, _⟩ := hd
        go_simp
        exact ⟨IsLe.refl leX _, fun w3 h3 => ⟨.slice (some ⟨gs, 0, none⟩) 2 2, by simp [dv, ldeps, pdeps, Region.binds, List.idxOf_cons, hv4], rfl, rfl⟩⟩
      · intro vals W hx hd
        rw [if_neg (by decide)] at hx
        have hW := HF.out W hx
        simp [PDepsG, pdeps, Region.binds, List.idxOf_cons] at hd
        refine ParObD.made rfl ?_
        have hs := hx.size
        go_simp
        exact ⟨⟨(Ext.refl _).alloc _, fun w3 h3 => ⟨W.heap.size, rfl, hs, h3.blk (Blk.new W _ _ rfl) (by omega)⟩⟩, ⟨W.heap.size, rfl, Nat.le_refl _, by simp⟩⟩
    · simp (maxSteps := 20000000) only [permL, permOp, List.filterMap_cons, List.filterMap_nil, List.getElem?_cons_succ, List.getElem?_cons_zero, Option.map_some, Option.map_none, List.drop_succ_cons, List.drop_zero, List.take_succ_cons, List.take_zero, Nat.reduceSub, ZAll, ParEnd, Act.put, List.setIfInBounds_toArray, List.set_cons_succ, List.set_cons_zero]
    intro vals W hx hap hf hz
    obtain ⟨lo, hi, gq, hRc, hhi, hvq, hgq, hap⟩ := hap
    simp (maxSteps := 20000000) only [permL, permOp, List.filterMap_cons, List.filterMap_nil, List.getElem?_cons_succ, List.getElem?_cons_zero, Option.map_some, Option.map_none, ParFactsG, List.take_succ_cons, List.take_zero, and_true, Nat.reduceAdd] at hf
    obtain ⟨f0, f1, f2, f3, f4, f5, f6⟩ := hf
    clear hz
    simp (maxSteps := 20000000) only [permL, permOp, List.filterMap_cons, List.filterMap_nil, List.getElem?_cons_succ, List.getElem?_cons_zero, Option.map_some, Option.map_none, List.drop_succ_cons, List.drop_zero, List.take_succ_cons, List.take_zero, Nat.reduceSub, ParEnd, ZTail, Act.put, List.setIfInBounds_toArray, List.set_cons_succ, List.set_cons_zero, Nat.reduceAdd, f0, f1, f2]
    clear f0 f1 f2
    obtain ⟨gs, y, hds4, hv4, hB4, hge4, hT4⟩ := f4
    simp [dv, ldeps, pdeps, Region.binds, List.idxOf_cons] at hds4
    obtain ⟨u, hds5, hv5, _⟩ := f5
    simp [dv, ldeps, pdeps, Region.binds, List.idxOf_cons] at hds5
    obtain ⟨ga, hva, hgea, hBa⟩ := f6
    obtain rfl : gq = ga := by
      have := hvq.symm.trans hva
      simpa using this
    obtain ⟨hlo, y2, hv3, hT3, hP3⟩ := hRc
    obtain rfl : y = y2 := PN.v_inj (hds4.symm.trans hv3)
    have hTy := hT3.and hT4
    have hne : gs ≠ gq := by
      intro e
      subst e
      have := hB4.symm.trans hBa
      simp [PN.cells, cellsP] at this
    have hv5b : vals 5 = .agg #[.int .i64 9, .int .i64 0, .string ⟨#[]⟩, .string ⟨#[]⟩, .int .i64 nt, .slice (some ⟨gs, 0, none⟩) 2 2] := by rw [hv5, ← hds5, hv4]
    have hqp : gq ≠ p := by omega
    have hqg : g ≠ gq := by have := HP0.out.tok.1; omega
    have hwq : w.heap.size ≠ gq := by omega
    refine ⟨?_⟩
    refine yields_storeP (g := gq) (cs := #[.int .i64 9, .int .i64 0, .string ⟨#[]⟩, .string ⟨#[]⟩, .int .i64 nt, .slice (some ⟨gs, 0, none⟩) 2 2]) rfl (by simp [Act.eval, hvq]) (by simp [Act.eval, hv5b]) hBa rfl rfl (by simp [Value.oneCell']) ?_
    have HP5 := Lib.hid (hP3.row (Ne.symm hqp) hqg #[.int .i64 9, .int .i64 0, .string ⟨#[]⟩, .string ⟨#[]⟩, .int .i64 nt, .slice (some ⟨gs, 0, none⟩) 2 2])
    have HV5 := Lib.hid (show Blk _ gq #[.int .i64 9, .int .i64 0, .string ⟨#[]⟩, .string ⟨#[]⟩, .int .i64 nt, .slice (some ⟨gs, 0, none⟩) 2 2] 196 from setRow_heap W gq _ #[.int .i64 9, .int .i64 0, .string ⟨#[]⟩, .string ⟨#[]⟩, .int .i64 nt, .slice (some ⟨gs, 0, none⟩) 2 2] _ _ hBa)
    have HR5 := Lib.hid (show Blk _ w.heap.size _ 196 from (setRow_other W gq w.heap.size #[.int .i64 9, .int .i64 0, .string ⟨#[]⟩, .string ⟨#[]⟩, .int .i64 nt, .slice (some ⟨gs, 0, none⟩) 2 2] hwq).trans (hx.blk HR0.out hwp))
    have HL5 := Lib.hid ((HL0.out.trans hx).row (show w.heap.size ≤ gq by omega) #[.int .i64 9, .int .i64 0, .string ⟨#[]⟩, .string ⟨#[]⟩, .int .i64 nt, .slice (some ⟨gs, 0, none⟩) 2 2])
    have HA5 := Lib.hid (show Blk _ b0 _ 137 from (setRow_other W gq b0 #[.int .i64 9, .int .i64 0, .string ⟨#[]⟩, .string ⟨#[]⟩, .int .i64 nt, .slice (some ⟨gs, 0, none⟩) 2 2] (by omega)).trans (hx.blk HA0.out h0p))
    have HN5 := Lib.hid ((pnAt_of [⟨yk, yo, ys, yt, yn, yla, yln, ylc⟩, y] hB4).same (w' := W.setRow gq #[.int .i64 9, .int .i64 0, .string ⟨#[]⟩, .string ⟨#[]⟩, .int .i64 nt, .slice (some ⟨gs, 0, none⟩) 2 2]) (setRow_other W gq gs _ hne) (by simp))
    have HTa := Lib.hid (((HT0.out.mono (B := fun g => g < w.heap.size ∧ g ≠ p ∧ X g) fun g h1 _ => ⟨(HX.out g h1).1, (HX.out g h1).2, h1⟩).later (p := p) (fun g h => h.2.1) hx).row (b := gq) (fun g h => by omega) #[.int .i64 9, .int .i64 0, .string ⟨#[]⟩, .string ⟨#[]⟩, .int .i64 nt, .slice (some ⟨gs, 0, none⟩) 2 2])
    have HTy := Lib.hid ((hTy.mono (B := fun g => g ≠ gq ∧ W0.heap.size ≤ g) fun g h1 _ => by
      obtain ⟨⟨a1, a2⟩, a3, a4⟩ := h1
      omega).row (b := gq) (fun g h => h.1) #[.int .i64 9, .int .i64 0, .string ⟨#[]⟩, .string ⟨#[]⟩, .int .i64 nt, .slice (some ⟨gs, 0, none⟩) 2 2])
    generalize W.setRow gq #[.int .i64 9, .int .i64 0, .string ⟨#[]⟩, .string ⟨#[]⟩, .int .i64 nt, .slice (some ⟨gs, 0, none⟩) 2 2] = W5 at HP5 HV5 HR5 HL5 HA5 HN5 HTa HTy ⊢
    clear hx hT3 hT4 hTy hP3 hB4 hBa HF HP0 HR0 HT0 HL0 HA0 HA1 HA2 hv4 hv5 hv5b hds4 hds5 hva hhi hgq hap hlo f0 c0 hb0l f3 HX
    generalize vals 3 = v3
    generalize vals 4 = v4
    generalize vals 5 = v5
    rw [hvq]
    clear hvq
    obtain ⟨c0, f0⟩ := HA5.out.facts
    have hb0l := HA5.out.lt
    go_simp
    repeat (first | go_values | go_skip | go_guarded | go_step | go_upon)
    refine wp_loop_rounds 1 ?_
    rw [rounds_succ]
    go_simp
    repeat (first | go_values | go_skip | go_guarded | go_step | go_upon)
    refine Calls.mono (KO.out s2 ⟨#[44]⟩ W5 HP5.out) ?_
    rw [show bsl ⟨#[44]⟩ = [44] from rfl, HCm.out]
    rintro e W6 ⟨rfl, hp6, hl6⟩
    have hgp : gs ≠ p := by omega
    have HP6 := Lib.hid (show PsAt W6 p g cap long T s2 from hp6)
    have HV6 := Lib.hid (hl6.blk HV5.out hqp)
    have HR6 := Lib.hid (hl6.blk HR5.out hwp)
    have HL6 := Lib.hid (HL5.out.trans hl6)
    have HA6 := Lib.hid (hl6.blk HA5.out h0p)
    have HN6 := Lib.hid (HN5.out.same (hl6.old _ HN5.out.1 hgp) hl6.size)
    have HTa6 := Lib.hid (HTa.out.later (p := p) (fun g h => h.2.1) hl6)
    have HTy6 := Lib.hid (HTy.out.later (p := p) (fun g h => by omega) hl6)
    clear hp6 hl6 HP5 HV5 HR5 HL5 HA5 HN5 HTa HTy c0 f0 hb0l KO
    obtain ⟨c0, f0⟩ := HA6.out.facts
    have hb0l := HA6.out.lt
    go_simp
    repeat (first | go_values | go_skip | go_guarded | go_step | go_upon)
    refine Calls.mono (KW.out s2 ⟨#[41]⟩ W6 HP6.out) ?_
    rw [show bsl ⟨#[41]⟩ = [41] from rfl]
    rintro e W7 ⟨rfl, hp7, hl7⟩
    have HP7 := Lib.hid hp7
    have HV7 := Lib.hid (hl7.blk HV6.out hqp)
    have HR7 := Lib.hid (hl7.blk HR6.out hwp)
    have HL7 := Lib.hid (HL6.out.trans hl7)
    have HN7 := Lib.hid (HN6.out.same (hl7.old _ HN6.out.1 hgp) hl7.size)
    have HTa7 := Lib.hid (HTa6.out.later (p := p) (fun g h => h.2.1) hl7)
    have HTy7 := Lib.hid (HTy6.out.later (p := p) (fun g h => by omega) hl7)
    clear hp7 hl7 HP6 HV6 HR6 HL6 HA6 HN6 HTa6 HTy6 c0 f0 hb0l KW
    obtain ⟨cv, fv⟩ := HV7.out.facts
    have hvl := HV7.out.lt
    obtain ⟨cr, fr⟩ := HR7.out.facts
    have hrl := HR7.out.lt
    obtain ⟨rfl, rfl⟩ := Prod.mk.inj (Option.some.inj HFf.out)
    go_simp
    repeat (first | go_values | go_skip | go_guarded | go_step | go_upon)
    refine bodyPost_ret (ret_ndP rfl _ rfl rfl (blk6P HR7.out _ _ _ _ _ _)) rfl ?_
    refine ⟨⟨9, 0, ⟨#[]⟩, ⟨#[]⟩, nt, some ⟨gs, 0, none⟩, 2, 2⟩, rfl, ?_, HP7.out.other6 hpw hgw _ _ _ _ _ _, HL7.out.other6 (Nat.le_refl _) _ _ _ _ _ _⟩
    refine ((two_kids (A := fun g => g ≠ w.heap.size ∧ (X g ∨ w.heap.size ≤ g)) (s := []) (t := []) (Nat.le_refl _) ⟨by omega, .inr (by omega)⟩ HN7.out (HTa7.out.mono fun g h _ => ⟨by omega, .inl h.2.2⟩) (HTy7.out.mono fun g h _ => ⟨by omega, .inr (by omega)⟩)).set6 (b := w.heap.size) (fun g h => h.1) _ _ _ _ _ _).mono fun g h _ => h.2
  · rw [if_neg hlt] at hf; cases hf
def inF (rec : Nat → PSt → Option (Tr × PSt)) (T : List Lx.Tok) (long : Nat) (a : Tr) (nt : Int) (s : PSt) : Option (Tr × PSt) := withinF T long (inBody rec T long a nt) (if isB T s 5 [40] then s else wrongP T long 10 s)
set_option maxHeartbeats 16000000 in
theorem in_any (X : Nat → Prop) (ya : PN) (ta : Tr) (nt : Int) (p g cap long : Nat) (T : List Lx.Tok) (rec : Nat → PSt → Option (Tr × PSt)) (hrec : LevOk p g cap long T rec) (s : PSt) (r : Tr) (s' : PSt) (w : World) (hf : inF rec T long ta nt s = some (r, s')) (h : PsAt w p g cap long T s)
    (hX : ∀ g, X g → g < w.heap.size ∧ g ≠ p) (hT : TrAt X w ya ta) :
    Calls Tryz.prog 457 #[.pointer (some ⟨p, 0, none⟩), ya.v, .int .i64 nt] w (LevPostX X p g cap long T r s' w) := by
  have hpl : p < w.heap.size := h.blk.lt
  have hgl : g < w.heap.size := h.tok.1
  have hpw : p ≠ w.heap.size + 1 + 1 + 1 := by omega
  have hgw : g ≠ w.heap.size + 1 + 1 + 1 := by omega
  have hwp : w.heap.size + 1 + 1 + 1 ≠ p := Ne.symm hpw
  have hAp : w.heap.size ≠ p := by omega
  have hBp : w.heap.size + 1 ≠ p := by omega
  have hCp : w.heap.size + 1 + 1 ≠ p := by omega
  obtain ⟨yk, yo, ys, yt, yn, yla, yln, ylc⟩ := ya
  simp only [PN.v]
  have hx0 : Ext w ((((w.alloc (.cells #[.pointer (some ⟨p, 0, none⟩)] 137)).alloc (.cells #[.int .i64 yk, .int .i64 yo, .string ys, .string yt, .int .i64 yn, .slice yla yln ylc] 196)).alloc (.cells #[.int .i64 nt] 2)).alloc (.cells #[.int .i64 0, .int .i64 0, .string ⟨#[]⟩, .string ⟨#[]⟩, .int .i64 0, .slice none 0 0] 196)) := ((((Ext.refl w).alloc _).alloc _).alloc _).alloc _
  have HL0 := Lib.hid (LeP.ofExt (p := p) hx0)
  have HP0 := Lib.hid (h.ext hx0)
  have HA0 := Lib.hid (show Blk ((((w.alloc (.cells #[.pointer (some ⟨p, 0, none⟩)] 137)).alloc (.cells #[.int .i64 yk, .int .i64 yo, .string ys, .string yt, .int .i64 yn, .slice yla yln ylc] 196)).alloc (.cells #[.int .i64 nt] 2)).alloc (.cells #[.int .i64 0, .int .i64 0, .string ⟨#[]⟩, .string ⟨#[]⟩, .int .i64 0, .slice none 0 0] 196)) w.heap.size #[.pointer (some ⟨p, 0, none⟩)] 137 from (((Blk.new w _ _ rfl).alloc _).alloc _).alloc _)
  have HB0 := Lib.hid (show Blk ((((w.alloc (.cells #[.pointer (some ⟨p, 0, none⟩)] 137)).alloc (.cells #[.int .i64 yk, .int .i64 yo, .string ys, .string yt, .int .i64 yn, .slice yla yln ylc] 196)).alloc (.cells #[.int .i64 nt] 2)).alloc (.cells #[.int .i64 0, .int .i64 0, .string ⟨#[]⟩, .string ⟨#[]⟩, .int .i64 0, .slice none 0 0] 196)) (w.heap.size + 1) #[.int .i64 yk, .int .i64 yo, .string ys, .string yt, .int .i64 yn, .slice yla yln ylc] 196 from ((Blk.new (w.alloc (.cells #[.pointer (some ⟨p, 0, none⟩)] 137)) _ _ (by simp)).alloc _).alloc _)
  have HC0 := Lib.hid (show Blk ((((w.alloc (.cells #[.pointer (some ⟨p, 0, none⟩)] 137)).alloc (.cells #[.int .i64 yk, .int .i64 yo, .string ys, .string yt, .int .i64 yn, .slice yla yln ylc] 196)).alloc (.cells #[.int .i64 nt] 2)).alloc (.cells #[.int .i64 0, .int .i64 0, .string ⟨#[]⟩, .string ⟨#[]⟩, .int .i64 0, .slice none 0 0] 196)) (w.heap.size + 1 + 1) #[.int .i64 nt] 2 from (Blk.new ((w.alloc (.cells #[.pointer (some ⟨p, 0, none⟩)] 137)).alloc (.cells #[.int .i64 yk, .int .i64 yo, .string ys, .string yt, .int .i64 yn, .slice yla yln ylc] 196)) _ _ (by simp)).alloc _)
  have HR0 := Lib.hid (show Blk ((((w.alloc (.cells #[.pointer (some ⟨p, 0, none⟩)] 137)).alloc (.cells #[.int .i64 yk, .int .i64 yo, .string ys, .string yt, .int .i64 yn, .slice yla yln ylc] 196)).alloc (.cells #[.int .i64 nt] 2)).alloc (.cells #[.int .i64 0, .int .i64 0, .string ⟨#[]⟩, .string ⟨#[]⟩, .int .i64 0, .slice none 0 0] 196)) (w.heap.size + 1 + 1 + 1) #[.int .i64 0, .int .i64 0, .string ⟨#[]⟩, .string ⟨#[]⟩, .int .i64 0, .slice none 0 0] 196 from Blk.new (((w.alloc (.cells #[.pointer (some ⟨p, 0, none⟩)] 137)).alloc (.cells #[.int .i64 yk, .int .i64 yo, .string ys, .string yt, .int .i64 yn, .slice yla yln ylc] 196)).alloc (.cells #[.int .i64 nt] 2)) _ _ (by simp))
  have HT0 := Lib.hid (hT.later (fun g h => (hX g h).2) HL0.out)
  have HX := Lib.hid hX
  have HRec := Lib.hid hrec
  have HFf := Lib.hid hf
  have KI := Lib.hid (fun W (hW : PsAt W p g cap long T s) => is_any p g cap long T s 5 ⟨#[40]⟩ W hW)
  have KG := Lib.hid (fun W (hW : PsAt W p g cap long T s) => wrong_any p g cap long T s 10 W hW)
  clear h hX hT hrec hf hx0
  obtain ⟨ca, fa⟩ := HA0.out.facts
  have hal := HA0.out.lt
  go_enter Tryz.func457, Tryz.ntmps457
  go_simp
  repeat (first | go_values | go_skip | go_guarded | go_step | go_upon)
  generalize ((((w.alloc (.cells #[.pointer (some ⟨p, 0, none⟩)] 137)).alloc (.cells #[.int .i64 yk, .int .i64 yo, .string ys, .string yt, .int .i64 yn, .slice yla yln ylc] 196)).alloc (.cells #[.int .i64 nt] 2)).alloc (.cells #[.int .i64 0, .int .i64 0, .string ⟨#[]⟩, .string ⟨#[]⟩, .int .i64 0, .slice none 0 0] 196)) = W0 at HL0 HP0 HA0 HB0 HC0 HR0 HT0 ca fa hal ⊢
  refine Calls.mono (KI.out W0 HP0.out) ?_
  rw [show bsl ⟨#[40]⟩ = [40] from rfl]
  have hf := HFf.out
  clear HFf
  unfold inF at hf
  cases hpar : isB T s 5 [40]
  · rw [hpar, if_neg (by decide)] at hf
    rintro e W5 ⟨rfl, hl⟩
    have HP5 := Lib.hid (HP0.out.ext hl)
    have hl := LeP.ofExt (p := p) hl
    have HA5 := Lib.hid (hl.blk HA0.out hAp)
    have HB5 := Lib.hid (hl.blk HB0.out hBp)
    have HC5 := Lib.hid (hl.blk HC0.out hCp)
    have HR5 := Lib.hid (hl.blk HR0.out hwp)
    have HL5 := Lib.hid (HL0.out.trans hl)
    have HT5 := Lib.hid (HT0.out.later (fun g h => (HX.out g h).2) hl)
    clear hl HP0 HA0 HB0 HC0 HR0 HL0 HT0 ca fa hal
    obtain ⟨ca, fa⟩ := HA5.out.facts
    have hal := HA5.out.lt
    go_simp
    repeat (first | go_values | go_skip | go_guarded | go_step | go_upon)
    refine Calls.mono (KG.out W5 HP5.out) ?_
    rintro e W6 ⟨rfl, hp6, hl⟩
    generalize wrongP T long 10 s = s1 at hp6 hf
    have HFf := Lib.hid hf
    have HP6 := Lib.hid hp6
    have HA6 := Lib.hid (hl.blk HA5.out hAp)
    have HB6 := Lib.hid (hl.blk HB5.out hBp)
    have HC6 := Lib.hid (hl.blk HC5.out hCp)
    have HR6 := Lib.hid (hl.blk HR5.out hwp)
    have HL6 := Lib.hid (HL5.out.trans hl)
    have HT6 := Lib.hid (HT5.out.later (fun g h => (HX.out g h).2) hl)
    have hw6 : w.heap.size + 1 + 1 + 1 < W6.heap.size := HR6.out.lt
    clear hl hp6 hf HP5 HA5 HB5 HC5 HR5 HL5 HT5 ca fa hal
    have KL := Lib.hid (within_three X 532 (.pointer (some ⟨w.heap.size, 0, none⟩)) (.pointer (some ⟨w.heap.size + 1 + 1, 0, none⟩)) (.pointer (some ⟨w.heap.size + 1, 0, none⟩)) (fun _ _ => by kernel_rfl) p g cap long T (inBody rec T long ta nt) s1 r s' W6 (fun g h => ⟨by have := (HX.out g h).1; omega, (HX.out g h).2⟩) HFf.out HP6.out (fun s1 r1 s2 W hs hl hp => inclo_any X w.heap.size (w.heap.size + 1 + 1) (w.heap.size + 1) ⟨yk, yo, ys, yt, yn, yla, yln, ylc⟩ ta nt p g cap long T rec HRec.out s1 r1 s2 W hs hp (fun g h => ⟨by have := (HX.out g h).1; have := hl.size; omega, (HX.out g h).2⟩) (HT6.out.later (fun g h => (HX.out g h).2) hl) (hl.blk HA6.out hAp) (hl.blk HC6.out hCp) (hl.blk HB6.out hBp) hAp hCp hBp))
    obtain ⟨ca, fa⟩ := HA6.out.facts
    have hal := HA6.out.lt
    go_simp
    repeat (first | go_values | go_skip | go_guarded | go_step | go_upon)
    refine Calls.mono KL.out ?_
    rintro e W7 ⟨x, rfl, ht, hp7, hl7⟩
    have HR7 := Lib.hid (hl7.blk HR6.out hwp)
    have HL7 := Lib.hid (HL6.out.trans hl7)
    have HT7 := Lib.hid (ht.mono (B := fun g => g ≠ w.heap.size + 1 + 1 + 1 ∧ (X g ∨ w.heap.size ≤ g)) fun g h1 h2 => by
      rcases h1 with h1 | h1
      · exact ⟨by have := (HX.out g h1).1; omega, .inl h1⟩
      · exact ⟨by omega, .inr (by omega)⟩)
    have HP7 := Lib.hid hp7
    clear ht hp7 hl7 HP6 HR6 HL6 HA6 HB6 HC6 HT6 ca fa hal KL
    obtain ⟨xk, xo, xs, xt, xn, xla, xln, xlc⟩ := x
    simp only [PN.v]
    obtain ⟨cr, fr⟩ := HR7.out.facts
    have hrl := HR7.out.lt
    go_simp
    repeat (first | go_values | go_skip | go_guarded | go_step | go_upon)
    refine bodyPost_ret (ret_ndP rfl _ rfl rfl (blk6P HR7.out _ _ _ _ _ _)) rfl ?_
    refine ⟨⟨xk, xo, xs, xt, xn, xla, xln, xlc⟩, rfl, ?_, HP7.out.other6 hpw hgw _ _ _ _ _ _, HL7.out.other6 (by omega) _ _ _ _ _ _⟩
    exact (HT7.out.set6 (b := w.heap.size + 1 + 1 + 1) (fun g h => h.1) _ _ _ _ _ _).mono fun g h _ => h.2
  · rw [hpar, if_pos rfl] at hf
    rintro e W6 ⟨rfl, hl⟩
    have HFf := Lib.hid hf
    have HP6 := Lib.hid (HP0.out.ext hl)
    have hl := LeP.ofExt (p := p) hl
    have HA6 := Lib.hid (hl.blk HA0.out hAp)
    have HB6 := Lib.hid (hl.blk HB0.out hBp)
    have HC6 := Lib.hid (hl.blk HC0.out hCp)
    have HR6 := Lib.hid (hl.blk HR0.out hwp)
    have HL6 := Lib.hid (HL0.out.trans hl)
    have HT6 := Lib.hid (HT0.out.later (fun g h => (HX.out g h).2) hl)
    have hw6 : w.heap.size + 1 + 1 + 1 < W6.heap.size := HR6.out.lt
    clear hl hf HP0 HA0 HB0 HC0 HR0 HL0 HT0 ca fa hal
    obtain ⟨s1, hs1⟩ : ∃ s1, s1 = s := ⟨_, rfl⟩
    rw [← hs1] at HP6 HFf
    clear hs1
    have KL := Lib.hid (within_three X 532 (.pointer (some ⟨w.heap.size, 0, none⟩)) (.pointer (some ⟨w.heap.size + 1 + 1, 0, none⟩)) (.pointer (some ⟨w.heap.size + 1, 0, none⟩)) (fun _ _ => by kernel_rfl) p g cap long T (inBody rec T long ta nt) s1 r s' W6 (fun g h => ⟨by have := (HX.out g h).1; omega, (HX.out g h).2⟩) HFf.out HP6.out (fun s1 r1 s2 W hs hl hp => inclo_any X w.heap.size (w.heap.size + 1 + 1) (w.heap.size + 1) ⟨yk, yo, ys, yt, yn, yla, yln, ylc⟩ ta nt p g cap long T rec HRec.out s1 r1 s2 W hs hp (fun g h => ⟨by have := (HX.out g h).1; have := hl.size; omega, (HX.out g h).2⟩) (HT6.out.later (fun g h => (HX.out g h).2) hl) (hl.blk HA6.out hAp) (hl.blk HC6.out hCp) (hl.blk HB6.out hBp) hAp hCp hBp))
    obtain ⟨ca, fa⟩ := HA6.out.facts
    have hal := HA6.out.lt
    go_simp
    repeat (first | go_values | go_skip | go_guarded | go_step | go_upon)
    refine Calls.mono KL.out ?_
    rintro e W7 ⟨x, rfl, ht, hp7, hl7⟩
    have HR7 := Lib.hid (hl7.blk HR6.out hwp)
    have HL7 := Lib.hid (HL6.out.trans hl7)
    have HT7 := Lib.hid (ht.mono (B := fun g => g ≠ w.heap.size + 1 + 1 + 1 ∧ (X g ∨ w.heap.size ≤ g)) fun g h1 h2 => by
      rcases h1 with h1 | h1
      · exact ⟨by have := (HX.out g h1).1; omega, .inl h1⟩
      · exact ⟨by omega, .inr (by omega)⟩)
    have HP7 := Lib.hid hp7
    clear ht hp7 hl7 HP6 HR6 HL6 HA6 HB6 HC6 HT6 ca fa hal KL
    obtain ⟨xk, xo, xs, xt, xn, xla, xln, xlc⟩ := x
    simp only [PN.v]
    obtain ⟨cr, fr⟩ := HR7.out.facts
    have hrl := HR7.out.lt
    go_simp
    repeat (first | go_values | go_skip | go_guarded | go_step | go_upon)
    refine bodyPost_ret (ret_ndP rfl _ rfl rfl (blk6P HR7.out _ _ _ _ _ _)) rfl ?_
    refine ⟨⟨xk, xo, xs, xt, xn, xla, xln, xlc⟩, rfl, ?_, HP7.out.other6 hpw hgw _ _ _ _ _ _, HL7.out.other6 (by omega) _ _ _ _ _ _⟩
    exact (HT7.out.set6 (b := w.heap.size + 1 + 1 + 1) (fun g h => h.1) _ _ _ _ _ _).mono fun g h _ => h.2
end Go.Proofs.YtchpbdodlbghaaaGreatDoor
namespace Go.Proofs.YtchpbdodlbghaaaGreatDoor
open Go.RowKit Go.Lib
set_option maxRecDepth 100000

def restB (T : List Lx.Tok) (s : PSt) : Bool := isB T s 2 [73, 83] || isB T s 2 [78, 79, 84] || isB T s 2 [76, 73, 75, 69] || isB T s 2 [66, 69, 84, 87, 69, 69, 78]
def testF (rec : Nat → PSt → Option (Tr × PSt)) (T : List Lx.Tok) (long k : Nat) (s : PSt) : Option (Tr × PSt) := (rec (k + 1) s).bind fun n =>
  if (findF T n.2 (binsL k)).1 = 0 then (if restB T (findF T n.2 (binsL k)).2 then none else if isB T (findF T n.2 (binsL k)).2 2 [73, 78] then inF rec T long n.1 0 (advP true (findF T n.2 (binsL k)).2) else some (n.1, (findF T n.2 (binsL k)).2))
  else (rec (k + 1) (findF T n.2 (binsL k)).2).bind fun m => some (.mk 6 (findF T n.2 (binsL k)).1 [] [] 0 [n.1, m.1], m.2)
set_option maxHeartbeats 16000000 in
theorem ptest_any (p g cap long : Nat) (T : List Lx.Tok) (rec : Nat → PSt → Option (Tr × PSt)) (hrec : LevOk p g cap long T rec) (k : Nat) (hk : k ≤ 11) (s : PSt) (r : Tr) (s' : PSt) (w : World) (hf : testF rec T long k s = some (r, s')) (h : PsAt w p g cap long T s) :
    Calls Tryz.prog 366 #[.pointer (some ⟨p, 0, none⟩), .int .i64 k] w (LevPost p g cap long T r s' w) := by
  have mixed : Tryz.prog.follows .mixedOrders = true := by kernel_rfl
  have KF := Lib.hid (fun (s : PSt) W (hW : PsAt W p g cap long T s) => find_any k (by omega) p g cap long T s W hW)
  have hpl : p < w.heap.size := h.blk.lt
  have hpw : p ≠ w.heap.size := by omega
  have hgw : g ≠ w.heap.size := by have := h.tok.1; omega
  have hwp : w.heap.size ≠ p := Ne.symm hpw
  have HR0 := Lib.hid (Blk.new w #[.int .i64 0, .int .i64 0, .string ⟨#[]⟩, .string ⟨#[]⟩, .int .i64 0, .slice none 0 0] 196 rfl)
  have hx0 : Ext w (w.alloc (.cells #[.int .i64 0, .int .i64 0, .string ⟨#[]⟩, .string ⟨#[]⟩, .int .i64 0, .slice none 0 0] 196)) := (Ext.refl w).alloc _
  unfold testF at hf
  cases hr1 : rec (k + 1) s with
  | none => rw [hr1] at hf; cases hf
  | some n1 =>
    obtain ⟨n, s1⟩ := n1
    rw [hr1] at hf
    simp only [Option.bind_some] at hf
    have HFf := Lib.hid hf
    have hk1 := IntWalk.i64_in ((k : Int) + 1) (by omega)
    have KL := Lib.hid (hrec (k + 1) ((k : Int) + 1) s n s1 _ (by omega) (by omega) hr1 (h.ext hx0))
    have HRec := Lib.hid hrec
    have HX0 := Lib.hid hx0
    clear hf hr1 hrec h hx0
    go_enter Tryz.func366, Tryz.ntmps366
    go_simp
    repeat (first | go_values | go_skip | go_guarded | go_step | go_upon)
    refine Calls.mono KL.out ?_
    rintro e W1 ⟨x, rfl, ht1, hp1, hl1⟩
    have HT1 := Lib.hid (ht1.mono (B := blkA w.heap.size W1.heap.size) fun g h1 h2 => ⟨by simp at h1; omega, by omega⟩)
    have HP1 := Lib.hid hp1
    have HL1 := Lib.hid ((LeP.ofExt HX0.out).trans hl1)
    have HR1 := Lib.hid (hl1.blk HR0.out hwp)
    clear ht1 hp1 hl1 KL HR0 HX0
    obtain ⟨xk, xo, xs, xt, xn, xla, xln, xlc⟩ := x
    simp only [PN.v]
    go_simp
    repeat (first | go_values | go_skip | go_guarded | go_step | go_upon)
    have hx1 : Ext W1 (W1.alloc (.cells #[.int .i64 xk, .int .i64 xo, .string xs, .string xt, .int .i64 xn, .slice xla xln xlc] 196)) := (Ext.refl W1).alloc _
    have hp1w : p < W1.heap.size := HP1.out.blk.lt
    have hg1w : g < W1.heap.size := HP1.out.tok.1
    have hw1 : w.heap.size < W1.heap.size := HR1.out.lt
    refine Calls.mono (KF.out s1 _ (HP1.out.ext hx1)) ?_
    rintro e W2 ⟨rfl, hp2, hl2⟩
    have hB5 : W1.heap.size ≠ p := by omega
    have HV2 := Lib.hid (hl2.blk (Blk.new W1 #[.int .i64 xk, .int .i64 xo, .string xs, .string xt, .int .i64 xn, .slice xla xln xlc] 196 rfl) hB5)
    have HR2 := Lib.hid (hl2.blk (HR1.out.keep hx1) hwp)
    have HT2 := Lib.hid (HT1.out.later (p := p) (fun g h => by omega) ((LeP.ofExt hx1).trans hl2))
    have HL2 := Lib.hid ((HL1.out.trans (LeP.ofExt hx1)).trans hl2)
    have HP2 := Lib.hid hp2
    clear hp2 hl2 hx1 HP1 HR1 HL1 HT1
    have hwB : w.heap.size ≠ W1.heap.size := by omega
    clear hp1w hg1w hw1
    generalize W1.heap.size = B5 at HV2 HT2 hB5 hwB ⊢
    generalize (findF T s1 (binsL k)).1 = o at HFf ⊢
    generalize (findF T s1 (binsL k)).2 = s2 at HFf HP2 ⊢
    cases hb : o == 0
    · have hb2 : (o != 0) = true := by simp only [bne, hb]; rfl
      have hf := HFf.out
      rw [if_neg (by intro e; subst e; cases hb)] at hf
      clear HFf
      cases hrm : rec (k + 1) s2 with
      | none => rw [hrm] at hf; cases hf
      | some m1 =>
      obtain ⟨m, s3⟩ := m1
      rw [hrm] at hf
      obtain ⟨rfl, rfl⟩ := Prod.mk.inj (Option.some.inj hf)
      clear hf
      have KM := Lib.hid (fun W (hW : Ext W2 W) => HRec.out (k + 1) ((k : Int) + 1) s2 m s3 W (by omega) (by omega) hrm (HP2.out.ext hW))
      have hBl : B5 < W2.heap.size := HV2.out.lt
      have hWl : w.heap.size < W2.heap.size := HR2.out.lt
      clear hrm
      have HF := Lib.hid (show ∀ W, LeP p W2 W → (∀ j, W.cell? ⟨B5, j, none⟩ = (#[.int .i64 xk, .int .i64 xo, .string xs, .string xt, .int .i64 xn, .slice xla xln xlc] : Array Value)[j]?) from fun W hW => (hW.blk HV2.out hB5).cell)
      go_simp
      repeat (first | go_values | go_skip | go_guarded | go_step | go_upon)
      refine wp_parZC 5 (leX) (leP p) (LeP.ofExt) [0, 1, 2, 3, 4, 5, 6, 7, 8] 8 8 (fun
          | 0 => fun _ v _ => v = .int .i64 o
          | 1 => fun _ v _ => v = .agg #[.int .i64 xk, .int .i64 xo, .string xs, .string xt, .int .i64 xn, .slice xla xln xlc]
          | 2 => fun _ v _ => v = .pointer (some ⟨p, 0, none⟩)
          | 3 => fun _ v _ => v = .int .i64 k
          | 4 => fun _ v _ => v = .int .i64 ((k : Int) + 1)
          | 5 => fun _ => readP (blkA w.heap.size B5) p g cap long T m s3
          | 6 => fun _ => pairP (blkA w.heap.size B5) ⟨xk, xo, xs, xt, xn, xla, xln, xlc⟩ n m
          | 7 => fun _ => treeP (blkA w.heap.size B5) (.mk 6 o [] [] 0 [n, m])
          | _ => fun _ _ _ => True) (fun
          | _ => undef) (by kernel_rfl) (by kernel_rfl) (by kernel_rfl) (by decide) ?_ ?_ ?_
      · simp (maxSteps := 20000000) only [permL, permOp, List.filterMap_cons, List.filterMap_nil, List.getElem?_cons_succ, List.getElem?_cons_zero, Option.map_some, Option.map_none, List.take_succ_cons, List.take_zero, ParAllC, Act.put, List.setIfInBounds_toArray, List.set_cons_succ, List.set_cons_zero]
        refine ⟨?_, ?_, ?_, ?_, ?_, ?_, ?_, ?_, trivial⟩
        · intro vals W hx hd
          rw [if_neg (by decide)] at hx
          have hW := HF.out W hx
          simp [PDepsG, pdeps, Region.binds, List.idxOf_cons] at hd
          refine ParObC.plain rfl ?_
          go_simp
          first | exact IsLe.refl (leX) _ | exact ⟨IsLe.refl (leX) _, fun _ _ => rfl⟩
        · intro vals W hx hd
          rw [if_neg (by decide)] at hx
          have hW := HF.out W hx
          simp [PDepsG, pdeps, Region.binds, List.idxOf_cons] at hd
          refine ParObC.plain rfl ?_
          go_simp
          first | exact IsLe.refl (leX) _ | exact ⟨IsLe.refl (leX) _, fun _ _ => rfl⟩
        · intro vals W hx hd
          rw [if_neg (by decide)] at hx
          have hW := HF.out W hx
          simp [PDepsG, pdeps, Region.binds, List.idxOf_cons] at hd
          refine ParObC.plain rfl ?_
          go_simp
          first | exact IsLe.refl (leX) _ | exact ⟨IsLe.refl (leX) _, fun _ _ => rfl⟩
        · intro vals W hx hd
          rw [if_neg (by decide)] at hx
          have hW := HF.out W hx
          simp [PDepsG, pdeps, Region.binds, List.idxOf_cons] at hd
          refine ParObC.plain rfl ?_
          go_simp
          first | exact IsLe.refl (leX) _ | exact ⟨IsLe.refl (leX) _, fun _ _ => rfl⟩
        · intro vals W hx hd
          rw [if_neg (by decide)] at hx
          have hW := HF.out W hx
          simp [PDepsG, pdeps, Region.binds, List.idxOf_cons] at hd
          refine ParObC.plain rfl ?_
          go_simp
          first | exact IsLe.refl (leX) _ | exact ⟨IsLe.refl (leX) _, fun _ _ => rfl⟩
        · intro vals W hx hd
          rw [if_pos (by decide)] at hx
          simp [PDepsG, pdeps, Region.binds, List.idxOf_cons] at hd
          refine ParObC.call rfl ?_
          go_simp
          refine Calls.mono (KM.out W hx) ?_
          rintro e w9 ⟨y, rfl, hty, hpy, hly⟩
          have hs := hx.size
          exact ⟨_, rfl, hly, fun w3 h3 => ⟨y, rfl, (hty.mono (B := (blkA w.heap.size B5)) fun g h1 h2 => by omega).later (p := p) (fun g h => by omega) (LeP.ofExt h3), hpy.ext h3⟩⟩
        · intro vals W hx hd
          rw [if_neg (by decide)] at hx
          have hW := HF.out W hx
          simp [PDepsG, pdeps, Region.binds, List.idxOf_cons] at hd
          refine ParObC.plain rfl ?_
          obtain ⟨h1, y, hvy, hty, hpy⟩ := hd
          replace hvy : vals _ = .agg _ := hvy
          go_simp
          have hs := hx.size
          refine ⟨(Ext.refl _).alloc _, fun w3 h3 => ⟨_, y, rfl, by omega, ?_, ?_, ?_⟩⟩
          · exact (pnAt_of [⟨xk, xo, xs, xt, xn, xla, xln, xlc⟩, y] (Blk.new W _ 196 rfl)).same (h3.old _ (by simp) (by omega)) h3.size
          · exact HT2.out.later (p := p) (fun g h => by omega) (hx.trans ((LeP.ofExt ((Ext.refl W).alloc _)).trans h3))
          · exact hty.later (p := p) (fun g h => by omega) ((LeP.ofExt ((Ext.refl W).alloc _)).trans h3)
        · intro vals W hx hd
          rw [if_neg (by decide)] at hx
          have hW := HF.out W hx
          simp [PDepsG, pdeps, Region.binds, List.idxOf_cons] at hd
          refine ParObC.plain rfl ?_
          obtain ⟨h0, gs, y, hv6, hA, hP, hTx, hTy⟩ := hd
          go_simp
          refine ⟨IsLe.refl leX _, fun w3 h3 => ⟨⟨6, o, ⟨#[]⟩, ⟨#[]⟩, 0, some ⟨gs, 0, none⟩, 2, 2⟩, rfl, ?_⟩⟩
          refine .node 6 o [] [] 0 gs 2 [⟨xk, xo, xs, xt, xn, xla, xln, xlc⟩, y] [n, m] rfl (by simp) (Nat.le_refl _) hA (hP.same (h3.old _ hP.1 (by omega)) h3.size) fun i x z hx hz => ?_
          have hi : i = 0 ∨ i = 1 := by have := (List.getElem?_eq_some_iff.1 hx).1; simp at this; omega
          rcases hi with rfl | rfl
          · obtain rfl := Option.some.inj hx
            obtain rfl := Option.some.inj hz
            exact hTx.later (p := p) (fun g h => by omega) h3
          · obtain rfl := Option.some.inj hx
            obtain rfl := Option.some.inj hz
            exact hTy.later (p := p) (fun g h => by omega) h3
      · simp (maxSteps := 20000000) only [permL, permOp, List.filterMap_cons, List.filterMap_nil, List.getElem?_cons_succ, List.getElem?_cons_zero, Option.map_some, Option.map_none, List.drop_succ_cons, List.drop_zero, List.take_succ_cons, List.take_zero, Nat.reduceSub, ZAll, ParEnd, Act.put, List.setIfInBounds_toArray, List.set_cons_succ, List.set_cons_zero]
      intro vals W hx hf hz
      simp (maxSteps := 20000000) only [permL, permOp, List.filterMap_cons, List.filterMap_nil, List.getElem?_cons_succ, List.getElem?_cons_zero, Option.map_some, Option.map_none, ParFactsG, List.take_succ_cons, List.take_zero, and_true, Nat.reduceAdd] at hf
      obtain ⟨f0, f1, f2, f3, f4, f5, f6, f7⟩ := hf
      clear hz
      simp (maxSteps := 20000000) only [permL, permOp, List.filterMap_cons, List.filterMap_nil, List.getElem?_cons_succ, List.getElem?_cons_zero, Option.map_some, Option.map_none, List.drop_succ_cons, List.drop_zero, List.take_succ_cons, List.take_zero, Nat.reduceSub, ParEnd, ZTail, Act.put, List.setIfInBounds_toArray, List.set_cons_succ, List.set_cons_zero, Nat.reduceAdd, f0, f1, f2, f3, f4]
      clear f0 f1 f2 f3 f4
      obtain ⟨z, hz, hTz⟩ := f7
      obtain ⟨_, _, _, hPb⟩ := f5
      clear f6
      obtain ⟨zk, zo, zs, zt, zn, zla, zln, zlc⟩ := z
      replace hz : vals 7 = .agg #[.int .i64 zk, .int .i64 zo, .string zs, .string zt, .int .i64 zn, .slice zla zln zlc] := hz
      refine ⟨?_⟩
      refine yields_storeP (g := w.heap.size) (cs := #[.int .i64 zk, .int .i64 zo, .string zs, .string zt, .int .i64 zn, .slice zla zln zlc]) rfl (by simp [Act.eval]) (by simp [Act.eval, hz]) (hx.blk HR2.out hwp) rfl rfl (by simp [Value.oneCell']) ?_
      have HP5 := Lib.hid (hPb.row hpw hgw #[.int .i64 zk, .int .i64 zo, .string zs, .string zt, .int .i64 zn, .slice zla zln zlc])
      have HT5 := Lib.hid (hTz.row (b := w.heap.size) (fun g h => by omega) #[.int .i64 zk, .int .i64 zo, .string zs, .string zt, .int .i64 zn, .slice zla zln zlc])
      have HR5 := Lib.hid (show Blk _ w.heap.size #[.int .i64 zk, .int .i64 zo, .string zs, .string zt, .int .i64 zn, .slice zla zln zlc] 196 from setRow_heap W w.heap.size _ #[.int .i64 zk, .int .i64 zo, .string zs, .string zt, .int .i64 zn, .slice zla zln zlc] _ _ (hx.blk HR2.out hwp))
      have HL5 := Lib.hid ((HL2.out.trans hx).row (Nat.le_refl _) #[.int .i64 zk, .int .i64 zo, .string zs, .string zt, .int .i64 zn, .slice zla zln zlc])
      generalize W.setRow w.heap.size #[.int .i64 zk, .int .i64 zo, .string zs, .string zt, .int .i64 zn, .slice zla zln zlc] = W5 at HP5 HT5 HR5 HL5 ⊢
      clear hx hTz hPb HF KM HP2 HT2 HV2 HR2 HL2 hBl hWl hz
      generalize vals 5 = v5
      generalize vals 6 = v6
      generalize vals 7 = v7
      go_simp
      repeat (first | go_values | go_skip | go_guarded | go_step | go_upon)
      refine bodyPost_ret (ret_ndP rfl _ rfl rfl HR5.out) rfl ?_
      exact ⟨⟨zk, zo, zs, zt, zn, zla, zln, zlc⟩, rfl, HT5.out.mono fun g h _ => Nat.le_of_lt h.1, HP5.out, HL5.out⟩
    · have hb2 : (o != 0) = false := by simp only [bne, hb]; rfl
      obtain rfl : o = 0 := by simpa using hb
      have hf := HFf.out
      rw [if_pos rfl] at hf
      clear HFf
      cases hrb : restB T s2
      case true => rw [hrb] at hf; cases hf
      rw [hrb] at hf
      rw [if_neg (by decide)] at hf
      have HFf := Lib.hid hf
      unfold restB at hrb
      simp only [Bool.or_eq_false_iff] at hrb
      obtain ⟨⟨⟨hq1, hq2⟩, hq3⟩, hq4⟩ := hrb
      have HDIS := Lib.hid hq1
      have HDNOT := Lib.hid hq2
      have HDLIKE := Lib.hid hq3
      have HDBETWEEN := Lib.hid hq4
      have KW := Lib.hid (fun (x : ByteArray) W (hW : PsAt W p g cap long T s2) => pword_any p g cap long T s2 x W hW)
      clear hf hq1 hq2 hq3 hq4 KF
      go_simp
      repeat (first | go_values | go_skip | go_guarded | go_step | go_upon)
      refine Calls.mono (KW.out ⟨#[73, 83]⟩ _ HP2.out) ?_
      rw [show bsl ⟨#[73, 83]⟩ = [73, 83] from rfl, HDIS.out]
      rintro e W3 ⟨rfl, hp, hl⟩
      have HV3 := Lib.hid (hl.blk HV2.out hB5)
      have HR3 := Lib.hid (hl.blk HR2.out hwp)
      have HL3 := Lib.hid (HL2.out.trans hl)
      have HT3 := Lib.hid (HT2.out.later (p := p) (fun g h => by omega) hl)
      have HP3 := Lib.hid (show PsAt W3 p g cap long T s2 from hp)
      clear hp hl HP2 HV2 HR2 HT2 HL2
      go_simp
      repeat (first | go_values | go_skip | go_guarded | go_step | go_upon)
      refine Calls.mono (KW.out ⟨#[78, 79, 84]⟩ _ HP3.out) ?_
      rw [show bsl ⟨#[78, 79, 84]⟩ = [78, 79, 84] from rfl, HDNOT.out]
      rintro e W4 ⟨rfl, hp, hl⟩
      have HV4 := Lib.hid (hl.blk HV3.out hB5)
      have HR4 := Lib.hid (hl.blk HR3.out hwp)
      have HL4 := Lib.hid (HL3.out.trans hl)
      have HT4 := Lib.hid (HT3.out.later (p := p) (fun g h => by omega) hl)
      have HP4 := Lib.hid (show PsAt W4 p g cap long T s2 from hp)
      clear hp hl HP3 HV3 HR3 HT3 HL3
      go_simp
      repeat (first | go_values | go_skip | go_guarded | go_step | go_upon)
      refine Calls.mono (KW.out ⟨#[76, 73, 75, 69]⟩ _ HP4.out) ?_
      rw [show bsl ⟨#[76, 73, 75, 69]⟩ = [76, 73, 75, 69] from rfl, HDLIKE.out]
      rintro e W5 ⟨rfl, hp, hl⟩
      have HV5 := Lib.hid (hl.blk HV4.out hB5)
      have HR5 := Lib.hid (hl.blk HR4.out hwp)
      have HL5 := Lib.hid (HL4.out.trans hl)
      have HT5 := Lib.hid (HT4.out.later (p := p) (fun g h => by omega) hl)
      have HP5 := Lib.hid (show PsAt W5 p g cap long T s2 from hp)
      clear hp hl HP4 HV4 HR4 HT4 HL4
      go_simp
      repeat (first | go_values | go_skip | go_guarded | go_step | go_upon)
      refine Calls.mono (KW.out ⟨#[66, 69, 84, 87, 69, 69, 78]⟩ _ HP5.out) ?_
      rw [show bsl ⟨#[66, 69, 84, 87, 69, 69, 78]⟩ = [66, 69, 84, 87, 69, 69, 78] from rfl, HDBETWEEN.out]
      rintro e W6 ⟨rfl, hp, hl⟩
      have HV6 := Lib.hid (hl.blk HV5.out hB5)
      have HR6 := Lib.hid (hl.blk HR5.out hwp)
      have HL6 := Lib.hid (HL5.out.trans hl)
      have HT6 := Lib.hid (HT5.out.later (p := p) (fun g h => by omega) hl)
      have HP6 := Lib.hid (show PsAt W6 p g cap long T s2 from hp)
      clear hp hl HP5 HV5 HR5 HT5 HL5
      go_simp
      repeat (first | go_values | go_skip | go_guarded | go_step | go_upon)
      refine Calls.mono (KW.out ⟨#[73, 78]⟩ _ HP6.out) ?_
      rw [show bsl ⟨#[73, 78]⟩ = [73, 78] from rfl]
      have hf := HFf.out
      clear HFf
      cases hin : isB T s2 2 [73, 78]
      · rw [hin, if_neg (by decide)] at hf
        obtain ⟨rfl, rfl⟩ := Prod.mk.inj (Option.some.inj hf)
        rintro e W7 ⟨rfl, hp, hl⟩
        have HV7 := Lib.hid (hl.blk HV6.out hB5)
        have HR7 := Lib.hid (hl.blk HR6.out hwp)
        have HL7 := Lib.hid (HL6.out.trans hl)
        have HT7 := Lib.hid (HT6.out.later (p := p) (fun g h => by omega) hl)
        have HP7 := Lib.hid (show PsAt W7 p g cap long T s2 from hp)
        clear hp hl HP6 HV6 HR6 HT6 HL6
        obtain ⟨cv, fv⟩ := HV7.out.facts
        obtain ⟨cr, fr⟩ := HR7.out.facts
        have hvl := HV7.out.lt
        have hrl := HR7.out.lt
        go_simp
        repeat (first | go_values | go_skip | go_guarded | go_step | go_upon)
        refine bodyPost_ret (ret_ndP rfl _ rfl rfl (blk6P HR7.out _ _ _ _ _ _)) rfl ?_
        refine ⟨⟨xk, xo, xs, xt, xn, xla, xln, xlc⟩, rfl, ?_, HP7.out.other6 hpw hgw _ _ _ _ _ _, HL7.out.other6 (Nat.le_refl _) _ _ _ _ _ _⟩
        exact (HT7.out.set6 (b := w.heap.size) (fun g h => by omega) _ _ _ _ _ _).mono fun g h _ => Nat.le_of_lt h.1
      · rw [hin, if_pos rfl] at hf
        rintro e W7 ⟨rfl, hp, hl⟩
        have HV7 := Lib.hid (hl.blk HV6.out hB5)
        have HR7 := Lib.hid (hl.blk HR6.out hwp)
        have HL7 := Lib.hid (HL6.out.trans hl)
        have hwp7 : w.heap.size < W7.heap.size := HR7.out.lt
        have HT7 := Lib.hid ((HT6.out.later (p := p) (fun g h => by omega) hl).mono (B := fun g => w.heap.size < g ∧ g < W7.heap.size ∧ g ≠ p) fun g h1 h2 => ⟨h1.1, h2, by omega⟩)
        have KL := Lib.hid (in_any (fun g => w.heap.size < g ∧ g < W7.heap.size ∧ g ≠ p) ⟨xk, xo, xs, xt, xn, xla, xln, xlc⟩ n 0 p g cap long T rec HRec.out (advP true s2) r s' W7 hf hp (fun g h => ⟨h.2.1, h.2.2⟩) HT7.out)
        simp only [PN.v] at KL
        clear hf hp hl HP6 HV6 HR6 HT6 HL6 HT7
        obtain ⟨cv, fv⟩ := HV7.out.facts
        have hvl := HV7.out.lt
        go_simp
        repeat (first | go_values | go_skip | go_guarded | go_step | go_upon)
        refine Calls.mono KL.out ?_
        rintro e W8 ⟨z, rfl, ht, hp8, hl8⟩
        have HR8 := Lib.hid (hl8.blk HR7.out hwp)
        have HL8 := Lib.hid (HL7.out.trans hl8)
        have HT8 := Lib.hid (ht.mono (B := fun g => w.heap.size < g) fun g h1 h2 => by rcases h1 with h1 | h1 <;> omega)
        have HP8 := Lib.hid hp8
        clear ht hp8 hl8 HR7 HL7 HV7 KL cv fv hvl
        obtain ⟨zk, zo, zs, zt, zn, zla, zln, zlc⟩ := z
        simp only [PN.v]
        obtain ⟨cr, fr⟩ := HR8.out.facts
        have hrl := HR8.out.lt
        go_simp
        repeat (first | go_values | go_skip | go_guarded | go_step | go_upon)
        refine bodyPost_ret (ret_ndP rfl _ rfl rfl (blk6P HR8.out _ _ _ _ _ _)) rfl ?_
        refine ⟨⟨zk, zo, zs, zt, zn, zla, zln, zlc⟩, rfl, ?_, HP8.out.other6 hpw hgw _ _ _ _ _ _, HL8.out.other6 (Nat.le_refl _) _ _ _ _ _ _⟩
        exact (HT8.out.set6 (b := w.heap.size) (fun g h => by omega) _ _ _ _ _ _).mono fun g h _ => Nat.le_of_lt h
end Go.Proofs.YtchpbdodlbghaaaGreatDoor
