import Derived.Test.YtchpbdodlbghaaaGreatDoorPsrI
namespace Go.Proofs.YtchpbdodlbghaaaGreatDoor
open Go.RowKit Go.Lib
set_option maxRecDepth 100000

def withinF (T : List Lx.Tok) (long : Nat) (body : PSt → Option (Tr × PSt)) (s : PSt) : Option (Tr × PSt) :=
  let s1 := if 24 ≤ s.deep then wrongP T long 21 s else s
  if s1.e = 0 then (body { s1 with deep := s1.deep + 1 }).bind fun m => if m.2.deep = 0 ∨ 1000 < m.2.deep then none else some (m.1, { m.2 with deep := m.2.deep - 1 }) else some (zTr, s1)
def LevPostX (X : Nat → Prop) (p g cap long : Nat) (T : List Lx.Tok) (r : Tr) (s' : PSt) (w : World) (e : Ending) (w' : World) : Prop := ∃ x : PN, e = .returned x.v ∧ TrAt (fun g => X g ∨ w.heap.size ≤ g) w' x r ∧ PsAt w' p g cap long T s' ∧ LeP p w w'
set_option maxHeartbeats 8000000 in
theorem within_any (F : FuncId) (a b : Value) (heg : ∀ args W, (callFunc F args).run Tryz.prog W = .ok (.enter F args) W) (p g cap long : Nat) (T : List Lx.Tok) (body : PSt → Option (Tr × PSt)) (s : PSt) (r : Tr) (s' : PSt) (w : World) (hf : withinF T long body s = some (r, s')) (h : PsAt w p g cap long T s)
    (hbody : ∀ (s1 : PSt) (r1 : Tr) (s2 : PSt) W, body s1 = some (r1, s2) → LeP p w W → PsAt W p g cap long T s1 → Calls Tryz.prog F #[a, b] W (LevPost p g cap long T r1 s2 W)) :
    Calls Tryz.prog 455 #[.pointer (some ⟨p, 0, none⟩), .func (.func F) #[] #[a, b]] w (LevPost p g cap long T r s' w) := by
  have hpl : p < w.heap.size := h.blk.lt
  have hpw : p ≠ w.heap.size := by omega
  have hgw : g ≠ w.heap.size := by have := h.tok.1; omega
  have hwp : w.heap.size ≠ p := Ne.symm hpw
  have hx0 : Ext w (w.alloc (.cells #[.int .i64 0, .int .i64 0, .string ⟨#[]⟩, .string ⟨#[]⟩, .int .i64 0, .slice none 0 0] 196)) := (Ext.refl w).alloc _
  have HX0 := Lib.hid hx0
  have HP0 := Lib.hid (h.ext hx0)
  have HR0 := Lib.hid (Blk.new w #[.int .i64 0, .int .i64 0, .string ⟨#[]⟩, .string ⟨#[]⟩, .int .i64 0, .slice none 0 0] 196 rfl)
  have KW := Lib.hid (fun W (hW : PsAt W p g cap long T s) => wrong_any p g cap long T s 21 W hW)
  have KB := Lib.hid hbody
  have HPw := Lib.hid h
  have HEg := Lib.hid heg
  have HFf := Lib.hid hf
  have hb := HP0.out.blk
  clear h hx0 hbody heg hf
  by_cases hd : 24 ≤ s.deep
  · have hf := HFf.out
    unfold withinF at hf
    simp only [if_pos hd] at hf
    have hne : (wrongP T long 21 s).e ≠ 0 := by
      unfold wrongP
      split
      · show (21 : Int) ≠ 0
        decide
      · assumption
    rw [if_neg hne] at hf
    obtain ⟨rfl, rfl⟩ := Prod.mk.inj (Option.some.inj hf)
    clear hf HFf
    generalize wrongP T long 21 s = s1 at KW hne ⊢
    have hb0 : (s1.e != 0) = true := by simpa using hne
    obtain ⟨i1, deep1, at1, er1⟩ := s1
    simp only at hb0 hne
    have HP0b := HP0
    obtain ⟨i, deep, at_, er⟩ := s
    simp only [psC] at hb hd
    obtain ⟨cb, fb⟩ := hb.facts
    have hbl := hb.lt
    have hdI : (24 : Int) ≤ (deep : Int) := by omega
    clear hb
    go_enter Tryz.func455, Tryz.ntmps455
    go_simp
    repeat (first | go_values | go_skip | go_guarded | go_step | go_upon)
    refine Calls.mono (KW.out _ HP0b.out) ?_
    rintro e W1 ⟨rfl, hp1, hl1⟩
    have HP1 := Lib.hid hp1
    have HB1 := Lib.hid hp1.blk
    have HR1 := Lib.hid (hl1.blk HR0.out hwp)
    have HL1 := Lib.hid ((LeP.ofExt HX0.out).trans hl1)
    clear hp1 hl1 HP0 HP0b HR0 HX0 KW cb fb hbl
    simp only [psC] at HB1
    obtain ⟨cb, fb⟩ := HB1.out.facts
    obtain ⟨cr, fr⟩ := HR1.out.facts
    have hbl := HB1.out.lt
    have hrl := HR1.out.lt
    go_simp
    repeat (first | go_values | go_skip | go_guarded | go_step | go_upon)
    refine bodyPost_ret (ret_ndP rfl _ rfl rfl (blk6P HR1.out _ _ _ _ _ _)) rfl ?_
    exact ⟨⟨0, 0, ⟨#[]⟩, ⟨#[]⟩, 0, none, 0, 0⟩, rfl, .leaf 0 0 [] [] 0, HP1.out.other6 hpw hgw _ _ _ _ _ _, HL1.out.other6 (Nat.le_refl _) _ _ _ _ _ _⟩
  · have hf := HFf.out
    unfold withinF at hf
    simp only [if_neg hd] at hf
    cases he : s.e == 0
    · rw [if_neg (by intro e; rw [e] at he; cases he)] at hf
      obtain ⟨rfl, rfl⟩ := Prod.mk.inj (Option.some.inj hf)
      have hb0 : (s.e != 0) = true := by simp only [bne, he]; rfl
      clear hf HFf
      obtain ⟨i, deep, at_, er⟩ := s
      simp only [psC] at hb he hb0 hd
      obtain ⟨cb, fb⟩ := hb.facts
      have hbl := hb.lt
      have hdI : ¬ (24 : Int) ≤ (deep : Int) := by omega
      clear hb
      go_enter Tryz.func455, Tryz.ntmps455
      go_simp
      repeat (first | go_values | go_skip | go_guarded | go_step | go_upon)
      refine bodyPost_ret (ret_ndP rfl _ rfl rfl HR0.out) rfl ?_
      exact ⟨⟨0, 0, ⟨#[]⟩, ⟨#[]⟩, 0, none, 0, 0⟩, rfl, .leaf 0 0 [] [] 0, HP0.out, LeP.ofExt HX0.out⟩
    · have hb0 : (s.e != 0) = false := by simp only [bne, he]; rfl
      rw [if_pos (by simpa using he)] at hf
      obtain ⟨i, deep, at_, er⟩ := s
      simp only [psC] at hb he hb0 hd hf
      obtain ⟨cb, fb⟩ := hb.facts
      have hbl := hb.lt
      have hdI : ¬ (24 : Int) ≤ (deep : Int) := by omega
      have hsum := IntWalk.i64_in ((deep : Int) + 1) (by omega)
      have HB := Lib.hid hb
      clear hb
      go_enter Tryz.func455, Tryz.ntmps455
      have hcf := HEg.out
      go_simp
      repeat (first | go_values | go_skip | go_guarded | go_step | go_upon)
      cases hbd : body ⟨i, deep + 1, at_, er⟩ with
      | none => rw [hbd] at hf; cases hf
      | some m1 =>
      obtain ⟨m, s2⟩ := m1
      rw [hbd] at hf
      simp only [Option.bind_some] at hf
      have HFm := Lib.hid hf
      have hl0 : LeP p w ((w.setCell ⟨p, 3, none⟩ (.int .i64 ((deep : Int) + 1))).alloc (.cells #[.int .i64 0, .int .i64 0, .string ⟨#[]⟩, .string ⟨#[]⟩, .int .i64 0, .slice none 0 0] 196)) := (LeP.set 3 _).trans (LeP.ofExt ((Ext.refl _).alloc _))
      have hp0 : PsAt ((w.setCell ⟨p, 3, none⟩ (.int .i64 ((deep : Int) + 1))).alloc (.cells #[.int .i64 0, .int .i64 0, .string ⟨#[]⟩, .string ⟨#[]⟩, .int .i64 0, .slice none 0 0] 196)) p g cap long T ⟨i, deep + 1, at_, er⟩ := by
        refine PsAt.ext (w := w.setCell ⟨p, 3, none⟩ (.int .i64 ((deep : Int) + 1))) (HPw.out.set (LeP.set 3 _) ?_ HPw.out.le) ((Ext.refl _).alloc _)
        exact HPw.out.blk.set 3 _
      have hr0 : Blk ((w.setCell ⟨p, 3, none⟩ (.int .i64 ((deep : Int) + 1))).alloc (.cells #[.int .i64 0, .int .i64 0, .string ⟨#[]⟩, .string ⟨#[]⟩, .int .i64 0, .slice none 0 0] 196)) w.heap.size #[.int .i64 0, .int .i64 0, .string ⟨#[]⟩, .string ⟨#[]⟩, .int .i64 0, .slice none 0 0] 196 := Blk.new _ _ _ (by simp)
      have hlt0 : w.heap.size < (((w.setCell ⟨p, 3, none⟩ (.int .i64 ((deep : Int) + 1))).alloc (.cells #[.int .i64 0, .int .i64 0, .string ⟨#[]⟩, .string ⟨#[]⟩, .int .i64 0, .slice none 0 0] 196))).heap.size := hr0.lt
      refine Calls.mono (KB.out _ m s2 _ hbd hl0 hp0) ?_
      rintro e W2 ⟨x, rfl, ht2, hp2, hl2⟩
      have HR2 := Lib.hid (hl2.blk hr0 hwp)
      have HL2 := Lib.hid (hl0.trans hl2)
      have HT2 := Lib.hid (ht2.mono (B := fun g => w.heap.size < g) fun g h1 h2 => by omega)
      have HP2 := Lib.hid hp2
      have HBx := Lib.hid hp2.blk
      clear ht2 hp2 hl2 hl0 hp0 hr0 hlt0 hcf cb fb hbl hf hbd HB HP0 HR0 HX0 HPw KW HFf
      obtain ⟨xk, xo, xs, xt, xn, xla, xln, xlc⟩ := x
      simp only [PN.v]
      by_cases hd0 : s2.deep = 0 ∨ 1000 < s2.deep
      · exfalso
        have := HFm.out
        rw [if_pos hd0] at this
        cases this
      · have hFm := HFm.out
        rw [if_neg hd0] at hFm
        obtain ⟨rfl, rfl⟩ := Prod.mk.inj (Option.some.inj hFm)
        clear hFm HFm
        obtain ⟨i2, deep2, at2, er2⟩ := s2
        simp only [psC] at HBx hd0
        have hsub := IntWalk.i64_in ((deep2 : Int) - 1) (by omega)
        obtain ⟨cb, fb⟩ := HBx.out.facts
        obtain ⟨cr, fr⟩ := HR2.out.facts
        have hbl := HBx.out.lt
        have hrl := HR2.out.lt
        go_simp
        repeat (first | go_values | go_skip | go_guarded | go_step | go_upon)
        have hdn : ((deep2 : Int) - 1) = ((deep2 - 1 : Nat) : Int) := by omega
        have hPq : PsAt (W2.setCell ⟨p, 3, none⟩ (.int .i64 ((deep2 : Int) - 1))) p g cap long T ⟨i2, deep2 - 1, at2, er2⟩ := by
          refine HP2.out.set (LeP.set 3 _) ?_ HP2.out.le
          have hB := HBx.out.set 3 (.int .i64 ((deep2 : Int) - 1))
          rw [hdn] at hB ⊢
          exact hB
        have hRq := HR2.out.other (a := ⟨p, 3, none⟩) hwp (.int .i64 ((deep2 : Int) - 1))
        have hTq := HT2.out.later (p := p) (fun g h => by omega) (LeP.set 3 (.int .i64 ((deep2 : Int) - 1)))
        refine bodyPost_ret (ret_ndP rfl _ rfl rfl ((blk6P hRq _ _ _ _ _ _).alloc _)) rfl ?_
        refine ⟨⟨xk, xo, xs, xt, xn, xla, xln, xlc⟩, rfl, ?_, (hPq.other6 hpw hgw _ _ _ _ _ _).ext ((Ext.refl _).alloc _), ((HL2.out.trans (LeP.set 3 _)).other6 (Nat.le_refl _) _ _ _ _ _ _).trans (LeP.ofExt ((Ext.refl _).alloc _))⟩
        exact ((hTq.set6 (b := w.heap.size) (fun g h => by omega) _ _ _ _ _ _).later (p := p) (fun g h => by omega) (LeP.ofExt ((Ext.refl _).alloc _))).mono fun g h _ => Nat.le_of_lt h
set_option maxHeartbeats 8000000 in
theorem within_one (F : FuncId) (a : Value) (heg : ∀ args W, (callFunc F args).run Tryz.prog W = .ok (.enter F args) W) (p g cap long : Nat) (T : List Lx.Tok) (body : PSt → Option (Tr × PSt)) (s : PSt) (r : Tr) (s' : PSt) (w : World) (hf : withinF T long body s = some (r, s')) (h : PsAt w p g cap long T s)
    (hbody : ∀ (s1 : PSt) (r1 : Tr) (s2 : PSt) W, body s1 = some (r1, s2) → LeP p w W → PsAt W p g cap long T s1 → Calls Tryz.prog F #[a] W (LevPost p g cap long T r1 s2 W)) :
    Calls Tryz.prog 455 #[.pointer (some ⟨p, 0, none⟩), .func (.func F) #[] #[a]] w (LevPost p g cap long T r s' w) := by
  have hpl : p < w.heap.size := h.blk.lt
  have hpw : p ≠ w.heap.size := by omega
  have hgw : g ≠ w.heap.size := by have := h.tok.1; omega
  have hwp : w.heap.size ≠ p := Ne.symm hpw
  have hx0 : Ext w (w.alloc (.cells #[.int .i64 0, .int .i64 0, .string ⟨#[]⟩, .string ⟨#[]⟩, .int .i64 0, .slice none 0 0] 196)) := (Ext.refl w).alloc _
  have HX0 := Lib.hid hx0
  have HP0 := Lib.hid (h.ext hx0)
  have HR0 := Lib.hid (Blk.new w #[.int .i64 0, .int .i64 0, .string ⟨#[]⟩, .string ⟨#[]⟩, .int .i64 0, .slice none 0 0] 196 rfl)
  have KW := Lib.hid (fun W (hW : PsAt W p g cap long T s) => wrong_any p g cap long T s 21 W hW)
  have KB := Lib.hid hbody
  have HPw := Lib.hid h
  have HEg := Lib.hid heg
  have HFf := Lib.hid hf
  have hb := HP0.out.blk
  clear h hx0 hbody heg hf
  by_cases hd : 24 ≤ s.deep
  · have hf := HFf.out
    unfold withinF at hf
    simp only [if_pos hd] at hf
    have hne : (wrongP T long 21 s).e ≠ 0 := by
      unfold wrongP
      split
      · show (21 : Int) ≠ 0
        decide
      · assumption
    rw [if_neg hne] at hf
    obtain ⟨rfl, rfl⟩ := Prod.mk.inj (Option.some.inj hf)
    clear hf HFf
    generalize wrongP T long 21 s = s1 at KW hne ⊢
    have hb0 : (s1.e != 0) = true := by simpa using hne
    obtain ⟨i1, deep1, at1, er1⟩ := s1
    simp only at hb0 hne
    have HP0b := HP0
    obtain ⟨i, deep, at_, er⟩ := s
    simp only [psC] at hb hd
    obtain ⟨cb, fb⟩ := hb.facts
    have hbl := hb.lt
    have hdI : (24 : Int) ≤ (deep : Int) := by omega
    clear hb
    go_enter Tryz.func455, Tryz.ntmps455
    go_simp
    repeat (first | go_values | go_skip | go_guarded | go_step | go_upon)
    refine Calls.mono (KW.out _ HP0b.out) ?_
    rintro e W1 ⟨rfl, hp1, hl1⟩
    have HP1 := Lib.hid hp1
    have HB1 := Lib.hid hp1.blk
    have HR1 := Lib.hid (hl1.blk HR0.out hwp)
    have HL1 := Lib.hid ((LeP.ofExt HX0.out).trans hl1)
    clear hp1 hl1 HP0 HP0b HR0 HX0 KW cb fb hbl
    simp only [psC] at HB1
    obtain ⟨cb, fb⟩ := HB1.out.facts
    obtain ⟨cr, fr⟩ := HR1.out.facts
    have hbl := HB1.out.lt
    have hrl := HR1.out.lt
    go_simp
    repeat (first | go_values | go_skip | go_guarded | go_step | go_upon)
    refine bodyPost_ret (ret_ndP rfl _ rfl rfl (blk6P HR1.out _ _ _ _ _ _)) rfl ?_
    exact ⟨⟨0, 0, ⟨#[]⟩, ⟨#[]⟩, 0, none, 0, 0⟩, rfl, .leaf 0 0 [] [] 0, HP1.out.other6 hpw hgw _ _ _ _ _ _, HL1.out.other6 (Nat.le_refl _) _ _ _ _ _ _⟩
  · have hf := HFf.out
    unfold withinF at hf
    simp only [if_neg hd] at hf
    cases he : s.e == 0
    · rw [if_neg (by intro e; rw [e] at he; cases he)] at hf
      obtain ⟨rfl, rfl⟩ := Prod.mk.inj (Option.some.inj hf)
      have hb0 : (s.e != 0) = true := by simp only [bne, he]; rfl
      clear hf HFf
      obtain ⟨i, deep, at_, er⟩ := s
      simp only [psC] at hb he hb0 hd
      obtain ⟨cb, fb⟩ := hb.facts
      have hbl := hb.lt
      have hdI : ¬ (24 : Int) ≤ (deep : Int) := by omega
      clear hb
      go_enter Tryz.func455, Tryz.ntmps455
      go_simp
      repeat (first | go_values | go_skip | go_guarded | go_step | go_upon)
      refine bodyPost_ret (ret_ndP rfl _ rfl rfl HR0.out) rfl ?_
      exact ⟨⟨0, 0, ⟨#[]⟩, ⟨#[]⟩, 0, none, 0, 0⟩, rfl, .leaf 0 0 [] [] 0, HP0.out, LeP.ofExt HX0.out⟩
    · have hb0 : (s.e != 0) = false := by simp only [bne, he]; rfl
      rw [if_pos (by simpa using he)] at hf
      obtain ⟨i, deep, at_, er⟩ := s
      simp only [psC] at hb he hb0 hd hf
      obtain ⟨cb, fb⟩ := hb.facts
      have hbl := hb.lt
      have hdI : ¬ (24 : Int) ≤ (deep : Int) := by omega
      have hsum := IntWalk.i64_in ((deep : Int) + 1) (by omega)
      have HB := Lib.hid hb
      clear hb
      go_enter Tryz.func455, Tryz.ntmps455
      have hcf := HEg.out
      go_simp
      repeat (first | go_values | go_skip | go_guarded | go_step | go_upon)
      cases hbd : body ⟨i, deep + 1, at_, er⟩ with
      | none => rw [hbd] at hf; cases hf
      | some m1 =>
      obtain ⟨m, s2⟩ := m1
      rw [hbd] at hf
      simp only [Option.bind_some] at hf
      have HFm := Lib.hid hf
      have hl0 : LeP p w ((w.setCell ⟨p, 3, none⟩ (.int .i64 ((deep : Int) + 1))).alloc (.cells #[.int .i64 0, .int .i64 0, .string ⟨#[]⟩, .string ⟨#[]⟩, .int .i64 0, .slice none 0 0] 196)) := (LeP.set 3 _).trans (LeP.ofExt ((Ext.refl _).alloc _))
      have hp0 : PsAt ((w.setCell ⟨p, 3, none⟩ (.int .i64 ((deep : Int) + 1))).alloc (.cells #[.int .i64 0, .int .i64 0, .string ⟨#[]⟩, .string ⟨#[]⟩, .int .i64 0, .slice none 0 0] 196)) p g cap long T ⟨i, deep + 1, at_, er⟩ := by
        refine PsAt.ext (w := w.setCell ⟨p, 3, none⟩ (.int .i64 ((deep : Int) + 1))) (HPw.out.set (LeP.set 3 _) ?_ HPw.out.le) ((Ext.refl _).alloc _)
        exact HPw.out.blk.set 3 _
      have hr0 : Blk ((w.setCell ⟨p, 3, none⟩ (.int .i64 ((deep : Int) + 1))).alloc (.cells #[.int .i64 0, .int .i64 0, .string ⟨#[]⟩, .string ⟨#[]⟩, .int .i64 0, .slice none 0 0] 196)) w.heap.size #[.int .i64 0, .int .i64 0, .string ⟨#[]⟩, .string ⟨#[]⟩, .int .i64 0, .slice none 0 0] 196 := Blk.new _ _ _ (by simp)
      have hlt0 : w.heap.size < (((w.setCell ⟨p, 3, none⟩ (.int .i64 ((deep : Int) + 1))).alloc (.cells #[.int .i64 0, .int .i64 0, .string ⟨#[]⟩, .string ⟨#[]⟩, .int .i64 0, .slice none 0 0] 196))).heap.size := hr0.lt
      refine Calls.mono (KB.out _ m s2 _ hbd hl0 hp0) ?_
      rintro e W2 ⟨x, rfl, ht2, hp2, hl2⟩
      have HR2 := Lib.hid (hl2.blk hr0 hwp)
      have HL2 := Lib.hid (hl0.trans hl2)
      have HT2 := Lib.hid (ht2.mono (B := fun g => w.heap.size < g) fun g h1 h2 => by omega)
      have HP2 := Lib.hid hp2
      have HBx := Lib.hid hp2.blk
      clear ht2 hp2 hl2 hl0 hp0 hr0 hlt0 hcf cb fb hbl hf hbd HB HP0 HR0 HX0 HPw KW HFf
      obtain ⟨xk, xo, xs, xt, xn, xla, xln, xlc⟩ := x
      simp only [PN.v]
      by_cases hd0 : s2.deep = 0 ∨ 1000 < s2.deep
      · exfalso
        have := HFm.out
        rw [if_pos hd0] at this
        cases this
      · have hFm := HFm.out
        rw [if_neg hd0] at hFm
        obtain ⟨rfl, rfl⟩ := Prod.mk.inj (Option.some.inj hFm)
        clear hFm HFm
        obtain ⟨i2, deep2, at2, er2⟩ := s2
        simp only [psC] at HBx hd0
        have hsub := IntWalk.i64_in ((deep2 : Int) - 1) (by omega)
        obtain ⟨cb, fb⟩ := HBx.out.facts
        obtain ⟨cr, fr⟩ := HR2.out.facts
        have hbl := HBx.out.lt
        have hrl := HR2.out.lt
        go_simp
        repeat (first | go_values | go_skip | go_guarded | go_step | go_upon)
        have hdn : ((deep2 : Int) - 1) = ((deep2 - 1 : Nat) : Int) := by omega
        have hPq : PsAt (W2.setCell ⟨p, 3, none⟩ (.int .i64 ((deep2 : Int) - 1))) p g cap long T ⟨i2, deep2 - 1, at2, er2⟩ := by
          refine HP2.out.set (LeP.set 3 _) ?_ HP2.out.le
          have hB := HBx.out.set 3 (.int .i64 ((deep2 : Int) - 1))
          rw [hdn] at hB ⊢
          exact hB
        have hRq := HR2.out.other (a := ⟨p, 3, none⟩) hwp (.int .i64 ((deep2 : Int) - 1))
        have hTq := HT2.out.later (p := p) (fun g h => by omega) (LeP.set 3 (.int .i64 ((deep2 : Int) - 1)))
        refine bodyPost_ret (ret_ndP rfl _ rfl rfl ((blk6P hRq _ _ _ _ _ _).alloc _)) rfl ?_
        refine ⟨⟨xk, xo, xs, xt, xn, xla, xln, xlc⟩, rfl, ?_, (hPq.other6 hpw hgw _ _ _ _ _ _).ext ((Ext.refl _).alloc _), ((HL2.out.trans (LeP.set 3 _)).other6 (Nat.le_refl _) _ _ _ _ _ _).trans (LeP.ofExt ((Ext.refl _).alloc _))⟩
        exact ((hTq.set6 (b := w.heap.size) (fun g h => by omega) _ _ _ _ _ _).later (p := p) (fun g h => by omega) (LeP.ofExt ((Ext.refl _).alloc _))).mono fun g h _ => Nat.le_of_lt h
set_option maxHeartbeats 8000000 in
theorem within_self (F : FuncId) (a : Value) (heg : ∀ args W, (callFunc F args).run Tryz.prog W = .ok (.enter F args) W) (p g cap long : Nat) (T : List Lx.Tok) (body : PSt → Option (Tr × PSt)) (s : PSt) (r : Tr) (s' : PSt) (w : World) (hf : withinF T long body s = some (r, s')) (h : PsAt w p g cap long T s)
    (hbody : ∀ (s1 : PSt) (r1 : Tr) (s2 : PSt) W, body s1 = some (r1, s2) → LeP p w W → PsAt W p g cap long T s1 → Calls Tryz.prog F #[a] W (LevPost p g cap long T r1 s2 W)) :
    Calls Tryz.prog 455 #[.pointer (some ⟨p, 0, none⟩), .func (.func F) #[a] #[]] w (LevPost p g cap long T r s' w) := by
  have hpl : p < w.heap.size := h.blk.lt
  have hpw : p ≠ w.heap.size := by omega
  have hgw : g ≠ w.heap.size := by have := h.tok.1; omega
  have hwp : w.heap.size ≠ p := Ne.symm hpw
  have hx0 : Ext w (w.alloc (.cells #[.int .i64 0, .int .i64 0, .string ⟨#[]⟩, .string ⟨#[]⟩, .int .i64 0, .slice none 0 0] 196)) := (Ext.refl w).alloc _
  have HX0 := Lib.hid hx0
  have HP0 := Lib.hid (h.ext hx0)
  have HR0 := Lib.hid (Blk.new w #[.int .i64 0, .int .i64 0, .string ⟨#[]⟩, .string ⟨#[]⟩, .int .i64 0, .slice none 0 0] 196 rfl)
  have KW := Lib.hid (fun W (hW : PsAt W p g cap long T s) => wrong_any p g cap long T s 21 W hW)
  have KB := Lib.hid hbody
  have HPw := Lib.hid h
  have HEg := Lib.hid heg
  have HFf := Lib.hid hf
  have hb := HP0.out.blk
  clear h hx0 hbody heg hf
  by_cases hd : 24 ≤ s.deep
  · have hf := HFf.out
    unfold withinF at hf
    simp only [if_pos hd] at hf
    have hne : (wrongP T long 21 s).e ≠ 0 := by
      unfold wrongP
      split
      · show (21 : Int) ≠ 0
        decide
      · assumption
    rw [if_neg hne] at hf
    obtain ⟨rfl, rfl⟩ := Prod.mk.inj (Option.some.inj hf)
    clear hf HFf
    generalize wrongP T long 21 s = s1 at KW hne ⊢
    have hb0 : (s1.e != 0) = true := by simpa using hne
    obtain ⟨i1, deep1, at1, er1⟩ := s1
    simp only at hb0 hne
    have HP0b := HP0
    obtain ⟨i, deep, at_, er⟩ := s
    simp only [psC] at hb hd
    obtain ⟨cb, fb⟩ := hb.facts
    have hbl := hb.lt
    have hdI : (24 : Int) ≤ (deep : Int) := by omega
    clear hb
    go_enter Tryz.func455, Tryz.ntmps455
    go_simp
    repeat (first | go_values | go_skip | go_guarded | go_step | go_upon)
    refine Calls.mono (KW.out _ HP0b.out) ?_
    rintro e W1 ⟨rfl, hp1, hl1⟩
    have HP1 := Lib.hid hp1
    have HB1 := Lib.hid hp1.blk
    have HR1 := Lib.hid (hl1.blk HR0.out hwp)
    have HL1 := Lib.hid ((LeP.ofExt HX0.out).trans hl1)
    clear hp1 hl1 HP0 HP0b HR0 HX0 KW cb fb hbl
    simp only [psC] at HB1
    obtain ⟨cb, fb⟩ := HB1.out.facts
    obtain ⟨cr, fr⟩ := HR1.out.facts
    have hbl := HB1.out.lt
    have hrl := HR1.out.lt
    go_simp
    repeat (first | go_values | go_skip | go_guarded | go_step | go_upon)
    refine bodyPost_ret (ret_ndP rfl _ rfl rfl (blk6P HR1.out _ _ _ _ _ _)) rfl ?_
    exact ⟨⟨0, 0, ⟨#[]⟩, ⟨#[]⟩, 0, none, 0, 0⟩, rfl, .leaf 0 0 [] [] 0, HP1.out.other6 hpw hgw _ _ _ _ _ _, HL1.out.other6 (Nat.le_refl _) _ _ _ _ _ _⟩
  · have hf := HFf.out
    unfold withinF at hf
    simp only [if_neg hd] at hf
    cases he : s.e == 0
    · rw [if_neg (by intro e; rw [e] at he; cases he)] at hf
      obtain ⟨rfl, rfl⟩ := Prod.mk.inj (Option.some.inj hf)
      have hb0 : (s.e != 0) = true := by simp only [bne, he]; rfl
      clear hf HFf
      obtain ⟨i, deep, at_, er⟩ := s
      simp only [psC] at hb he hb0 hd
      obtain ⟨cb, fb⟩ := hb.facts
      have hbl := hb.lt
      have hdI : ¬ (24 : Int) ≤ (deep : Int) := by omega
      clear hb
      go_enter Tryz.func455, Tryz.ntmps455
      go_simp
      repeat (first | go_values | go_skip | go_guarded | go_step | go_upon)
      refine bodyPost_ret (ret_ndP rfl _ rfl rfl HR0.out) rfl ?_
      exact ⟨⟨0, 0, ⟨#[]⟩, ⟨#[]⟩, 0, none, 0, 0⟩, rfl, .leaf 0 0 [] [] 0, HP0.out, LeP.ofExt HX0.out⟩
    · have hb0 : (s.e != 0) = false := by simp only [bne, he]; rfl
      rw [if_pos (by simpa using he)] at hf
      obtain ⟨i, deep, at_, er⟩ := s
      simp only [psC] at hb he hb0 hd hf
      obtain ⟨cb, fb⟩ := hb.facts
      have hbl := hb.lt
      have hdI : ¬ (24 : Int) ≤ (deep : Int) := by omega
      have hsum := IntWalk.i64_in ((deep : Int) + 1) (by omega)
      have HB := Lib.hid hb
      clear hb
      go_enter Tryz.func455, Tryz.ntmps455
      have hcf := HEg.out
      go_simp
      repeat (first | go_values | go_skip | go_guarded | go_step | go_upon)
      cases hbd : body ⟨i, deep + 1, at_, er⟩ with
      | none => rw [hbd] at hf; cases hf
      | some m1 =>
      obtain ⟨m, s2⟩ := m1
      rw [hbd] at hf
      simp only [Option.bind_some] at hf
      have HFm := Lib.hid hf
      have hl0 : LeP p w ((w.setCell ⟨p, 3, none⟩ (.int .i64 ((deep : Int) + 1))).alloc (.cells #[.int .i64 0, .int .i64 0, .string ⟨#[]⟩, .string ⟨#[]⟩, .int .i64 0, .slice none 0 0] 196)) := (LeP.set 3 _).trans (LeP.ofExt ((Ext.refl _).alloc _))
      have hp0 : PsAt ((w.setCell ⟨p, 3, none⟩ (.int .i64 ((deep : Int) + 1))).alloc (.cells #[.int .i64 0, .int .i64 0, .string ⟨#[]⟩, .string ⟨#[]⟩, .int .i64 0, .slice none 0 0] 196)) p g cap long T ⟨i, deep + 1, at_, er⟩ := by
        refine PsAt.ext (w := w.setCell ⟨p, 3, none⟩ (.int .i64 ((deep : Int) + 1))) (HPw.out.set (LeP.set 3 _) ?_ HPw.out.le) ((Ext.refl _).alloc _)
        exact HPw.out.blk.set 3 _
      have hr0 : Blk ((w.setCell ⟨p, 3, none⟩ (.int .i64 ((deep : Int) + 1))).alloc (.cells #[.int .i64 0, .int .i64 0, .string ⟨#[]⟩, .string ⟨#[]⟩, .int .i64 0, .slice none 0 0] 196)) w.heap.size #[.int .i64 0, .int .i64 0, .string ⟨#[]⟩, .string ⟨#[]⟩, .int .i64 0, .slice none 0 0] 196 := Blk.new _ _ _ (by simp)
      have hlt0 : w.heap.size < (((w.setCell ⟨p, 3, none⟩ (.int .i64 ((deep : Int) + 1))).alloc (.cells #[.int .i64 0, .int .i64 0, .string ⟨#[]⟩, .string ⟨#[]⟩, .int .i64 0, .slice none 0 0] 196))).heap.size := hr0.lt
      refine Calls.mono (KB.out _ m s2 _ hbd hl0 hp0) ?_
      rintro e W2 ⟨x, rfl, ht2, hp2, hl2⟩
      have HR2 := Lib.hid (hl2.blk hr0 hwp)
      have HL2 := Lib.hid (hl0.trans hl2)
      have HT2 := Lib.hid (ht2.mono (B := fun g => w.heap.size < g) fun g h1 h2 => by omega)
      have HP2 := Lib.hid hp2
      have HBx := Lib.hid hp2.blk
      clear ht2 hp2 hl2 hl0 hp0 hr0 hlt0 hcf cb fb hbl hf hbd HB HP0 HR0 HX0 HPw KW HFf
      obtain ⟨xk, xo, xs, xt, xn, xla, xln, xlc⟩ := x
      simp only [PN.v]
      by_cases hd0 : s2.deep = 0 ∨ 1000 < s2.deep
      · exfalso
        have := HFm.out
        rw [if_pos hd0] at this
        cases this
      · have hFm := HFm.out
        rw [if_neg hd0] at hFm
        obtain ⟨rfl, rfl⟩ := Prod.mk.inj (Option.some.inj hFm)
        clear hFm HFm
        obtain ⟨i2, deep2, at2, er2⟩ := s2
        simp only [psC] at HBx hd0
        have hsub := IntWalk.i64_in ((deep2 : Int) - 1) (by omega)
        obtain ⟨cb, fb⟩ := HBx.out.facts
        obtain ⟨cr, fr⟩ := HR2.out.facts
        have hbl := HBx.out.lt
        have hrl := HR2.out.lt
        go_simp
        repeat (first | go_values | go_skip | go_guarded | go_step | go_upon)
        have hdn : ((deep2 : Int) - 1) = ((deep2 - 1 : Nat) : Int) := by omega
        have hPq : PsAt (W2.setCell ⟨p, 3, none⟩ (.int .i64 ((deep2 : Int) - 1))) p g cap long T ⟨i2, deep2 - 1, at2, er2⟩ := by
          refine HP2.out.set (LeP.set 3 _) ?_ HP2.out.le
          have hB := HBx.out.set 3 (.int .i64 ((deep2 : Int) - 1))
          rw [hdn] at hB ⊢
          exact hB
        have hRq := HR2.out.other (a := ⟨p, 3, none⟩) hwp (.int .i64 ((deep2 : Int) - 1))
        have hTq := HT2.out.later (p := p) (fun g h => by omega) (LeP.set 3 (.int .i64 ((deep2 : Int) - 1)))
        refine bodyPost_ret (ret_ndP rfl _ rfl rfl ((blk6P hRq _ _ _ _ _ _).alloc _)) rfl ?_
        refine ⟨⟨xk, xo, xs, xt, xn, xla, xln, xlc⟩, rfl, ?_, (hPq.other6 hpw hgw _ _ _ _ _ _).ext ((Ext.refl _).alloc _), ((HL2.out.trans (LeP.set 3 _)).other6 (Nat.le_refl _) _ _ _ _ _ _).trans (LeP.ofExt ((Ext.refl _).alloc _))⟩
        exact ((hTq.set6 (b := w.heap.size) (fun g h => by omega) _ _ _ _ _ _).later (p := p) (fun g h => by omega) (LeP.ofExt ((Ext.refl _).alloc _))).mono fun g h _ => Nat.le_of_lt h
set_option maxHeartbeats 8000000 in
theorem within_three (X : Nat → Prop) (F : FuncId) (a b c : Value) (heg : ∀ args W, (callFunc F args).run Tryz.prog W = .ok (.enter F args) W) (p g cap long : Nat) (T : List Lx.Tok) (body : PSt → Option (Tr × PSt)) (s : PSt) (r : Tr) (s' : PSt) (w : World) (hX : ∀ g, X g → g < w.heap.size ∧ g ≠ p) (hf : withinF T long body s = some (r, s')) (h : PsAt w p g cap long T s)
    (hbody : ∀ (s1 : PSt) (r1 : Tr) (s2 : PSt) W, body s1 = some (r1, s2) → LeP p w W → PsAt W p g cap long T s1 → Calls Tryz.prog F #[a, b, c] W (LevPostX X p g cap long T r1 s2 W)) :
    Calls Tryz.prog 455 #[.pointer (some ⟨p, 0, none⟩), .func (.func F) #[] #[a, b, c]] w (LevPostX X p g cap long T r s' w) := by
  have hpl : p < w.heap.size := h.blk.lt
  have hpw : p ≠ w.heap.size := by omega
  have hgw : g ≠ w.heap.size := by have := h.tok.1; omega
  have hwp : w.heap.size ≠ p := Ne.symm hpw
  have hx0 : Ext w (w.alloc (.cells #[.int .i64 0, .int .i64 0, .string ⟨#[]⟩, .string ⟨#[]⟩, .int .i64 0, .slice none 0 0] 196)) := (Ext.refl w).alloc _
  have HX0 := Lib.hid hx0
  have HP0 := Lib.hid (h.ext hx0)
  have HR0 := Lib.hid (Blk.new w #[.int .i64 0, .int .i64 0, .string ⟨#[]⟩, .string ⟨#[]⟩, .int .i64 0, .slice none 0 0] 196 rfl)
  have KW := Lib.hid (fun W (hW : PsAt W p g cap long T s) => wrong_any p g cap long T s 21 W hW)
  have KB := Lib.hid hbody
  have HPw := Lib.hid h
  have HEg := Lib.hid heg
  have HFf := Lib.hid hf
  have hb := HP0.out.blk
  clear h hx0 hbody heg hf
  by_cases hd : 24 ≤ s.deep
  · have hf := HFf.out
    unfold withinF at hf
    simp only [if_pos hd] at hf
    have hne : (wrongP T long 21 s).e ≠ 0 := by
      unfold wrongP
      split
      · show (21 : Int) ≠ 0
        decide
      · assumption
    rw [if_neg hne] at hf
    obtain ⟨rfl, rfl⟩ := Prod.mk.inj (Option.some.inj hf)
    clear hf HFf
    generalize wrongP T long 21 s = s1 at KW hne ⊢
    have hb0 : (s1.e != 0) = true := by simpa using hne
    obtain ⟨i1, deep1, at1, er1⟩ := s1
    simp only at hb0 hne
    have HP0b := HP0
    obtain ⟨i, deep, at_, er⟩ := s
    simp only [psC] at hb hd
    obtain ⟨cb, fb⟩ := hb.facts
    have hbl := hb.lt
    have hdI : (24 : Int) ≤ (deep : Int) := by omega
    clear hb
    go_enter Tryz.func455, Tryz.ntmps455
    go_simp
    repeat (first | go_values | go_skip | go_guarded | go_step | go_upon)
    refine Calls.mono (KW.out _ HP0b.out) ?_
    rintro e W1 ⟨rfl, hp1, hl1⟩
    have HP1 := Lib.hid hp1
    have HB1 := Lib.hid hp1.blk
    have HR1 := Lib.hid (hl1.blk HR0.out hwp)
    have HL1 := Lib.hid ((LeP.ofExt HX0.out).trans hl1)
    clear hp1 hl1 HP0 HP0b HR0 HX0 KW cb fb hbl
    simp only [psC] at HB1
    obtain ⟨cb, fb⟩ := HB1.out.facts
    obtain ⟨cr, fr⟩ := HR1.out.facts
    have hbl := HB1.out.lt
    have hrl := HR1.out.lt
    go_simp
    repeat (first | go_values | go_skip | go_guarded | go_step | go_upon)
    refine bodyPost_ret (ret_ndP rfl _ rfl rfl (blk6P HR1.out _ _ _ _ _ _)) rfl ?_
    exact ⟨⟨0, 0, ⟨#[]⟩, ⟨#[]⟩, 0, none, 0, 0⟩, rfl, .leaf 0 0 [] [] 0, HP1.out.other6 hpw hgw _ _ _ _ _ _, HL1.out.other6 (Nat.le_refl _) _ _ _ _ _ _⟩
  · have hf := HFf.out
    unfold withinF at hf
    simp only [if_neg hd] at hf
    cases he : s.e == 0
    · rw [if_neg (by intro e; rw [e] at he; cases he)] at hf
      obtain ⟨rfl, rfl⟩ := Prod.mk.inj (Option.some.inj hf)
      have hb0 : (s.e != 0) = true := by simp only [bne, he]; rfl
      clear hf HFf
      obtain ⟨i, deep, at_, er⟩ := s
      simp only [psC] at hb he hb0 hd
      obtain ⟨cb, fb⟩ := hb.facts
      have hbl := hb.lt
      have hdI : ¬ (24 : Int) ≤ (deep : Int) := by omega
      clear hb
      go_enter Tryz.func455, Tryz.ntmps455
      go_simp
      repeat (first | go_values | go_skip | go_guarded | go_step | go_upon)
      refine bodyPost_ret (ret_ndP rfl _ rfl rfl HR0.out) rfl ?_
      exact ⟨⟨0, 0, ⟨#[]⟩, ⟨#[]⟩, 0, none, 0, 0⟩, rfl, .leaf 0 0 [] [] 0, HP0.out, LeP.ofExt HX0.out⟩
    · have hb0 : (s.e != 0) = false := by simp only [bne, he]; rfl
      rw [if_pos (by simpa using he)] at hf
      obtain ⟨i, deep, at_, er⟩ := s
      simp only [psC] at hb he hb0 hd hf
      obtain ⟨cb, fb⟩ := hb.facts
      have hbl := hb.lt
      have hdI : ¬ (24 : Int) ≤ (deep : Int) := by omega
      have hsum := IntWalk.i64_in ((deep : Int) + 1) (by omega)
      have HB := Lib.hid hb
      clear hb
      go_enter Tryz.func455, Tryz.ntmps455
      have hcf := HEg.out
      go_simp
      repeat (first | go_values | go_skip | go_guarded | go_step | go_upon)
      cases hbd : body ⟨i, deep + 1, at_, er⟩ with
      | none => rw [hbd] at hf; cases hf
      | some m1 =>
      obtain ⟨m, s2⟩ := m1
      rw [hbd] at hf
      simp only [Option.bind_some] at hf
      have HFm := Lib.hid hf
      have hl0 : LeP p w ((w.setCell ⟨p, 3, none⟩ (.int .i64 ((deep : Int) + 1))).alloc (.cells #[.int .i64 0, .int .i64 0, .string ⟨#[]⟩, .string ⟨#[]⟩, .int .i64 0, .slice none 0 0] 196)) := (LeP.set 3 _).trans (LeP.ofExt ((Ext.refl _).alloc _))
      have hp0 : PsAt ((w.setCell ⟨p, 3, none⟩ (.int .i64 ((deep : Int) + 1))).alloc (.cells #[.int .i64 0, .int .i64 0, .string ⟨#[]⟩, .string ⟨#[]⟩, .int .i64 0, .slice none 0 0] 196)) p g cap long T ⟨i, deep + 1, at_, er⟩ := by
        refine PsAt.ext (w := w.setCell ⟨p, 3, none⟩ (.int .i64 ((deep : Int) + 1))) (HPw.out.set (LeP.set 3 _) ?_ HPw.out.le) ((Ext.refl _).alloc _)
        exact HPw.out.blk.set 3 _
      have hr0 : Blk ((w.setCell ⟨p, 3, none⟩ (.int .i64 ((deep : Int) + 1))).alloc (.cells #[.int .i64 0, .int .i64 0, .string ⟨#[]⟩, .string ⟨#[]⟩, .int .i64 0, .slice none 0 0] 196)) w.heap.size #[.int .i64 0, .int .i64 0, .string ⟨#[]⟩, .string ⟨#[]⟩, .int .i64 0, .slice none 0 0] 196 := Blk.new _ _ _ (by simp)
      have hlt0 : w.heap.size < (((w.setCell ⟨p, 3, none⟩ (.int .i64 ((deep : Int) + 1))).alloc (.cells #[.int .i64 0, .int .i64 0, .string ⟨#[]⟩, .string ⟨#[]⟩, .int .i64 0, .slice none 0 0] 196))).heap.size := hr0.lt
      refine Calls.mono (KB.out _ m s2 _ hbd hl0 hp0) ?_
      rintro e W2 ⟨x, rfl, ht2, hp2, hl2⟩
      have HR2 := Lib.hid (hl2.blk hr0 hwp)
      have HL2 := Lib.hid (hl0.trans hl2)
      have HT2 := Lib.hid (ht2.mono (B := fun g => g ≠ p ∧ g ≠ w.heap.size ∧ (X g ∨ w.heap.size ≤ g)) fun g h1 h2 => by
            rcases h1 with h1 | h1
            · exact ⟨(hX g h1).2, by have := (hX g h1).1; omega, .inl h1⟩
            · exact ⟨by omega, by omega, .inr (by omega)⟩)
      have HP2 := Lib.hid hp2
      have HBx := Lib.hid hp2.blk
      clear ht2 hp2 hl2 hl0 hp0 hr0 hlt0 hcf cb fb hbl hf hbd HB HP0 HR0 HX0 HPw KW HFf
      obtain ⟨xk, xo, xs, xt, xn, xla, xln, xlc⟩ := x
      simp only [PN.v]
      by_cases hd0 : s2.deep = 0 ∨ 1000 < s2.deep
      · exfalso
        have := HFm.out
        rw [if_pos hd0] at this
        cases this
      · have hFm := HFm.out
        rw [if_neg hd0] at hFm
        obtain ⟨rfl, rfl⟩ := Prod.mk.inj (Option.some.inj hFm)
        clear hFm HFm
        obtain ⟨i2, deep2, at2, er2⟩ := s2
        simp only [psC] at HBx hd0
        have hsub := IntWalk.i64_in ((deep2 : Int) - 1) (by omega)
        obtain ⟨cb, fb⟩ := HBx.out.facts
        obtain ⟨cr, fr⟩ := HR2.out.facts
        have hbl := HBx.out.lt
        have hrl := HR2.out.lt
        go_simp
        repeat (first | go_values | go_skip | go_guarded | go_step | go_upon)
        have hdn : ((deep2 : Int) - 1) = ((deep2 - 1 : Nat) : Int) := by omega
        have hPq : PsAt (W2.setCell ⟨p, 3, none⟩ (.int .i64 ((deep2 : Int) - 1))) p g cap long T ⟨i2, deep2 - 1, at2, er2⟩ := by
          refine HP2.out.set (LeP.set 3 _) ?_ HP2.out.le
          have hB := HBx.out.set 3 (.int .i64 ((deep2 : Int) - 1))
          rw [hdn] at hB ⊢
          exact hB
        have hRq := HR2.out.other (a := ⟨p, 3, none⟩) hwp (.int .i64 ((deep2 : Int) - 1))
        have hTq := HT2.out.later (p := p) (fun g h => h.1) (LeP.set 3 (.int .i64 ((deep2 : Int) - 1)))
        refine bodyPost_ret (ret_ndP rfl _ rfl rfl ((blk6P hRq _ _ _ _ _ _).alloc _)) rfl ?_
        refine ⟨⟨xk, xo, xs, xt, xn, xla, xln, xlc⟩, rfl, ?_, (hPq.other6 hpw hgw _ _ _ _ _ _).ext ((Ext.refl _).alloc _), ((HL2.out.trans (LeP.set 3 _)).other6 (Nat.le_refl _) _ _ _ _ _ _).trans (LeP.ofExt ((Ext.refl _).alloc _))⟩
        exact ((hTq.set6 (b := w.heap.size) (fun g h => h.2.1) _ _ _ _ _ _).later (p := p) (fun g h => h.1) (LeP.ofExt ((Ext.refl _).alloc _))).mono fun g h _ => h.2.2
end Go.Proofs.YtchpbdodlbghaaaGreatDoor
