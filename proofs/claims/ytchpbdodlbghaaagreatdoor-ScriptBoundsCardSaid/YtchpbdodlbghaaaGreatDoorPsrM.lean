import Derived.Test.YtchpbdodlbghaaaGreatDoorPsrH
namespace Go.Proofs.YtchpbdodlbghaaaGreatDoor
open Go.RowKit Go.Lib
set_option maxRecDepth 100000

def kindB (T : List Lx.Tok) (s : PSt) (k : Int) : Bool := match T[s.i]? with | some t => (t.kind : Int) == k | none => false
def plainF (rec : Nat → PSt → Option (Tr × PSt)) (T : List Lx.Tok) (long : Nat) (s : PSt) : Option (Tr × PSt) :=
  if isB T s 2 [78, 85, 76, 76] then some (.mk 0 0 [] [] 0 [], advP true s)
  else if isB T s 2 [84, 82, 85, 69] then some (.mk 1 0 [] [] 1 [], advP true s)
  else if isB T s 2 [70, 65, 76, 83, 69] then some (.mk 1 0 [] [] 0 [], advP true s)
  else if isB T s 2 [67, 65, 83, 84] then withinF T long (castF rec T long) s
  else if isB T s 5 [40] then withinF T long (parenF rec T long) s
  else if kindB T s 3 then some (.mk 2 0 [] [] (takeT T s 3).n [], takeP T long s 3)
  else if kindB T s 4 then some (.mk 3 0 (takeT T s 4).text [] 0 [], takeP T long s 4)
  else if aheadB T s 0 1 (textP T s) && aheadB T s 1 5 [40] then withinF T long (callF rec T long) s
  else columnF T long s
set_option maxHeartbeats 16000000 in
theorem plain_any (kz : Int) (p g cap long : Nat) (T : List Lx.Tok) (rec : Nat → PSt → Option (Tr × PSt)) (hrec : LevOk p g cap long T rec) (s : PSt) (r : Tr) (s' : PSt) (w : World) (hf : plainF rec T long s = some (r, s')) (h : PsAt w p g cap long T s) :
    Calls Tryz.prog 369 #[.pointer (some ⟨p, 0, none⟩), .int .i64 kz] w (LevPost p g cap long T r s' w) := by
  have mixed : Tryz.prog.follows .mixedOrders = true := by kernel_rfl
  have hpl : p < w.heap.size := h.blk.lt
  have hgl : g < w.heap.size := h.tok.1
  have hpw : p ≠ w.heap.size + 1 := by omega
  have hgw : g ≠ w.heap.size + 1 := by omega
  have hwp : w.heap.size + 1 ≠ p := Ne.symm hpw
  have hAp : w.heap.size ≠ p := by omega
  have hx0 : Ext w ((w.alloc (.cells #[.pointer (some ⟨p, 0, none⟩)] 137)).alloc (.cells #[.int .i64 0, .int .i64 0, .string ⟨#[]⟩, .string ⟨#[]⟩, .int .i64 0, .slice none 0 0] 196)) := (((Ext.refl w).alloc _).alloc _)
  have HL0 := Lib.hid (LeP.ofExt (p := p) hx0)
  have HP0 := Lib.hid (h.ext hx0)
  have HA0 := Lib.hid (show Blk ((w.alloc (.cells #[.pointer (some ⟨p, 0, none⟩)] 137)).alloc (.cells #[.int .i64 0, .int .i64 0, .string ⟨#[]⟩, .string ⟨#[]⟩, .int .i64 0, .slice none 0 0] 196)) w.heap.size #[.pointer (some ⟨p, 0, none⟩)] 137 from (Blk.new w #[.pointer (some ⟨p, 0, none⟩)] 137 rfl).alloc _)
  have HR0 := Lib.hid (show Blk ((w.alloc (.cells #[.pointer (some ⟨p, 0, none⟩)] 137)).alloc (.cells #[.int .i64 0, .int .i64 0, .string ⟨#[]⟩, .string ⟨#[]⟩, .int .i64 0, .slice none 0 0] 196)) (w.heap.size + 1) #[.int .i64 0, .int .i64 0, .string ⟨#[]⟩, .string ⟨#[]⟩, .int .i64 0, .slice none 0 0] 196 from Blk.new (w.alloc (.cells #[.pointer (some ⟨p, 0, none⟩)] 137)) #[.int .i64 0, .int .i64 0, .string ⟨#[]⟩, .string ⟨#[]⟩, .int .i64 0, .slice none 0 0] 196 (n := w.heap.size + 1) (by simp))
  have KW := Lib.hid (fun (x : ByteArray) W (hW : PsAt W p g cap long T s) => pword_any p g cap long T s x W hW)
  have KI := Lib.hid (fun (k : Int) (x : ByteArray) W (hW : PsAt W p g cap long T s) => is_any p g cap long T s k x W hW)
  have HRec := Lib.hid hrec
  unfold plainF at hf
  have HFf0 := Lib.hid hf
  clear h hx0 hrec hf
  have ca := HA0.out.facts.1
  have fa := HA0.out.facts.2
  have hal := HA0.out.lt
  go_enter Tryz.func369, Tryz.ntmps369
  go_simp
  repeat (first | go_values | go_skip | go_guarded | go_step | go_upon)
  refine Calls.mono (KW.out ⟨#[78, 85, 76, 76]⟩ _ HP0.out) ?_
  rw [show bsl ⟨#[78, 85, 76, 76]⟩ = [78, 85, 76, 76] from rfl]
  have hf := HFf0.out
  clear HFf0
  cases hw1 : isB T s 2 [78, 85, 76, 76]
  case true =>
    rw [hw1, if_pos rfl] at hf
    obtain ⟨rfl, rfl⟩ := Prod.mk.inj (Option.some.inj hf)
    rintro e W1 ⟨rfl, hp, hl⟩
    have HP6 := Lib.hid hp
    have HR6 := Lib.hid (hl.blk HR0.out hwp)
    have HL6 := Lib.hid (HL0.out.trans hl)
    clear hp hl HP0 HA0 HR0 HL0 ca fa hal
    obtain ⟨cr, fr⟩ := HR6.out.facts
    have hrl := HR6.out.lt
    go_simp
    repeat (first | go_values | go_skip | go_guarded | go_step | go_upon)
    refine bodyPost_ret (ret_ndP rfl _ rfl rfl (blk6P HR6.out _ _ _ _ _ _)) rfl ?_
    exact ⟨⟨0, 0, ⟨#[]⟩, ⟨#[]⟩, 0, none, 0, 0⟩, rfl, .leaf 0 0 [] [] 0, HP6.out.other6 hpw hgw _ _ _ _ _ _, HL6.out.other6 (by omega) _ _ _ _ _ _⟩
  rw [hw1, if_neg (by decide)] at hf
  have HFf1 := Lib.hid hf
  rintro e W1 ⟨rfl, hp, hl⟩
  clear ca fa hal hf
  have HP1 := Lib.hid (show PsAt _ p g cap long T s from hp)
  have HA1 := Lib.hid (hl.blk HA0.out hAp)
  have HR1 := Lib.hid (hl.blk HR0.out hwp)
  have HL1 := Lib.hid (HL0.out.trans hl)
  clear hp hl HP0 HA0 HR0 HL0
  obtain ⟨ca, fa⟩ := HA1.out.facts
  have hal := HA1.out.lt
  go_simp
  repeat (first | go_values | go_skip | go_guarded | go_step | go_upon)
  refine Calls.mono (KW.out ⟨#[84, 82, 85, 69]⟩ _ HP1.out) ?_
  rw [show bsl ⟨#[84, 82, 85, 69]⟩ = [84, 82, 85, 69] from rfl]
  have hf := HFf1.out
  clear HFf1
  cases hw2 : isB T s 2 [84, 82, 85, 69]
  case true =>
    rw [hw2, if_pos rfl] at hf
    obtain ⟨rfl, rfl⟩ := Prod.mk.inj (Option.some.inj hf)
    rintro e W2 ⟨rfl, hp, hl⟩
    have HP6 := Lib.hid hp
    have HR6 := Lib.hid (hl.blk HR1.out hwp)
    have HL6 := Lib.hid (HL1.out.trans hl)
    clear hp hl HP1 HA1 HR1 HL1 ca fa hal
    obtain ⟨cr, fr⟩ := HR6.out.facts
    have hrl := HR6.out.lt
    go_simp
    repeat (first | go_values | go_skip | go_guarded | go_step | go_upon)
    refine bodyPost_ret (ret_ndP rfl _ rfl rfl (blk6P HR6.out _ _ _ _ _ _)) rfl ?_
    exact ⟨⟨1, 0, ⟨#[]⟩, ⟨#[]⟩, 1, none, 0, 0⟩, rfl, .leaf 1 0 [] [] 1, HP6.out.other6 hpw hgw _ _ _ _ _ _, HL6.out.other6 (by omega) _ _ _ _ _ _⟩
  rw [hw2, if_neg (by decide)] at hf
  have HFf2 := Lib.hid hf
  rintro e W2 ⟨rfl, hp, hl⟩
  clear ca fa hal hf
  have HP2 := Lib.hid (show PsAt _ p g cap long T s from hp)
  have HA2 := Lib.hid (hl.blk HA1.out hAp)
  have HR2 := Lib.hid (hl.blk HR1.out hwp)
  have HL2 := Lib.hid (HL1.out.trans hl)
  clear hp hl HP1 HA1 HR1 HL1
  obtain ⟨ca, fa⟩ := HA2.out.facts
  have hal := HA2.out.lt
  go_simp
  repeat (first | go_values | go_skip | go_guarded | go_step | go_upon)
  refine Calls.mono (KW.out ⟨#[70, 65, 76, 83, 69]⟩ _ HP2.out) ?_
  rw [show bsl ⟨#[70, 65, 76, 83, 69]⟩ = [70, 65, 76, 83, 69] from rfl]
  have hf := HFf2.out
  clear HFf2
  cases hw3 : isB T s 2 [70, 65, 76, 83, 69]
  case true =>
    rw [hw3, if_pos rfl] at hf
    obtain ⟨rfl, rfl⟩ := Prod.mk.inj (Option.some.inj hf)
    rintro e W3 ⟨rfl, hp, hl⟩
    have HP6 := Lib.hid hp
    have HR6 := Lib.hid (hl.blk HR2.out hwp)
    have HL6 := Lib.hid (HL2.out.trans hl)
    clear hp hl HP2 HA2 HR2 HL2 ca fa hal
    obtain ⟨cr, fr⟩ := HR6.out.facts
    have hrl := HR6.out.lt
    go_simp
    repeat (first | go_values | go_skip | go_guarded | go_step | go_upon)
    refine bodyPost_ret (ret_ndP rfl _ rfl rfl (blk6P HR6.out _ _ _ _ _ _)) rfl ?_
    exact ⟨⟨1, 0, ⟨#[]⟩, ⟨#[]⟩, 0, none, 0, 0⟩, rfl, .leaf 1 0 [] [] 0, HP6.out.other6 hpw hgw _ _ _ _ _ _, HL6.out.other6 (by omega) _ _ _ _ _ _⟩
  rw [hw3, if_neg (by decide)] at hf
  have HFf3 := Lib.hid hf
  rintro e W3 ⟨rfl, hp, hl⟩
  clear ca fa hal hf
  have HP3 := Lib.hid (show PsAt _ p g cap long T s from hp)
  have HA3 := Lib.hid (hl.blk HA2.out hAp)
  have HR3 := Lib.hid (hl.blk HR2.out hwp)
  have HL3 := Lib.hid (HL2.out.trans hl)
  clear hp hl HP2 HA2 HR2 HL2
  obtain ⟨ca, fa⟩ := HA3.out.facts
  have hal := HA3.out.lt
  go_simp
  repeat (first | go_values | go_skip | go_guarded | go_step | go_upon)
  refine Calls.mono (KI.out 2 ⟨#[67, 65, 83, 84]⟩ _ HP3.out) ?_
  rw [show bsl ⟨#[67, 65, 83, 84]⟩ = [67, 65, 83, 84] from rfl]
  have hf := HFf3.out
  clear HFf3
  cases hw4 : isB T s 2 [67, 65, 83, 84]
  case true =>
    rw [hw4, if_pos rfl] at hf
    rintro e W5 ⟨rfl, hl⟩
    have HP5 := Lib.hid (HP3.out.ext hl)
    have HA5 := Lib.hid ((LeP.ofExt hl).blk HA3.out hAp)
    have HR5 := Lib.hid ((LeP.ofExt hl).blk HR3.out hwp)
    have HL5 := Lib.hid (HL3.out.trans (LeP.ofExt hl))
    have KL := Lib.hid (within_self 459 (.pointer (some ⟨p, 0, none⟩)) (fun _ _ => by kernel_rfl) p g cap long T (castF rec T long) s r s' W5 hf HP5.out (fun s1 r1 s2 W hs hl hp => cast_any p g cap long T rec HRec.out s1 r1 s2 W hs hp))
    clear hl hf HP3 HA3 HR3 HL3 ca fa hal
    obtain ⟨ca, fa⟩ := HA5.out.facts
    have hal := HA5.out.lt
    have hw5 : w.heap.size + 1 < W5.heap.size := HR5.out.lt
    go_simp
    repeat (first | go_values | go_skip | go_guarded | go_step | go_upon)
    refine Calls.mono KL.out ?_
    rintro e W6 ⟨x, rfl, ht, hp2, hl2⟩
    have HR6 := Lib.hid (hl2.blk HR5.out hwp)
    have HL6 := Lib.hid (HL5.out.trans hl2)
    have HT6 := Lib.hid (ht.mono (B := fun g => w.heap.size + 1 < g) fun g h1 h2 => by omega)
    have HP6 := Lib.hid hp2
    clear ht hp2 hl2 HP5 HR5 HL5 HA5 ca fa hal KL
    obtain ⟨xk, xo, xs, xt, xn, xla, xln, xlc⟩ := x
    simp only [PN.v]
    obtain ⟨cr, fr⟩ := HR6.out.facts
    have hrl := HR6.out.lt
    go_simp
    repeat (first | go_values | go_skip | go_guarded | go_step | go_upon)
    refine bodyPost_ret (ret_ndP rfl _ rfl rfl (blk6P HR6.out _ _ _ _ _ _)) rfl ?_
    refine ⟨⟨xk, xo, xs, xt, xn, xla, xln, xlc⟩, rfl, ?_, HP6.out.other6 hpw hgw _ _ _ _ _ _, HL6.out.other6 (by omega) _ _ _ _ _ _⟩
    exact (HT6.out.set6 (b := w.heap.size + 1) (fun g h => by omega) _ _ _ _ _ _).mono fun g h _ => by omega
  rw [hw4, if_neg (by decide)] at hf
  have HFf := Lib.hid hf
  rintro e W4 ⟨rfl, hl⟩
  clear hf
  have hp := HP3.out.ext hl
  clear ca fa hal
  have HP4 := Lib.hid (show PsAt _ p g cap long T s from hp)
  have HA4 := Lib.hid ((LeP.ofExt hl).blk HA3.out hAp)
  have HR4 := Lib.hid ((LeP.ofExt hl).blk HR3.out hwp)
  have HL4 := Lib.hid (HL3.out.trans (LeP.ofExt hl))
  clear hp hl HP3 HA3 HR3 HL3
  obtain ⟨ca, fa⟩ := HA4.out.facts
  have hal := HA4.out.lt
  go_simp
  repeat (first | go_values | go_skip | go_guarded | go_step | go_upon)
  refine Calls.mono (KI.out 5 ⟨#[40]⟩ _ HP4.out) ?_
  rw [show bsl ⟨#[40]⟩ = [40] from rfl]
  rintro e W5 ⟨rfl, hl⟩
  have hp := HP4.out.ext hl
  clear ca fa hal
  have HP5 := Lib.hid (show PsAt W5 p g cap long T s from hp)
  have HA5 := Lib.hid ((LeP.ofExt hl).blk HA4.out hAp)
  have HR5 := Lib.hid ((LeP.ofExt hl).blk HR4.out hwp)
  have HL5 := Lib.hid (HL4.out.trans (LeP.ofExt hl))
  clear hp hl HP4 HA4 HR4 HL4
  obtain ⟨ca, fa⟩ := HA5.out.facts
  have hal := HA5.out.lt
  have hw5 : w.heap.size + 1 < W5.heap.size := HR5.out.lt
  have hf := HFf.out
  clear HFf
  cases hpar : isB T s 5 [40]
  · rw [hpar, if_neg (by decide)] at hf
    clear hpar
    obtain ⟨cb, fb⟩ := HP5.out.blk.facts
    unfold psC at cb
    have hbl := HP5.out.blk.lt
    have hcap := HP5.out.cap
    have hle := HP5.out.le
    have hfew := HP5.out.few
    have hgl5 := HP5.out.tok.1
    cases hti : T[s.i]? with
    | none =>
      have hge : T.length ≤ s.i := List.getElem?_eq_none_iff.1 hti
      have hnl : decide ((s.i : Int) < (T.length : Int)) = false := by rw [decide_eq_false_iff_not]; omega
      have hnl2 : decide (s.i < T.length) = false := by rw [decide_eq_false_iff_not]; omega
      have hk3 : kindB T s 3 = false := by unfold kindB; rw [hti]
      have hk4 : kindB T s 4 = false := by unfold kindB; rw [hti]
      rw [hk3, hk4, if_neg (by decide), if_neg (by decide)] at hf
      go_simp
      repeat (first | go_values | go_skip | go_guarded | go_step | go_upon)
      go_quiet (fail)
      go_simp
      repeat (first | go_values | go_skip | go_guarded | go_step | go_upon)
      rename Nat => nq1
      have hd1 : Ext W5 (W5.drewN nq1) := bel_drewN _ _
      generalize W5.drewN nq1 = W5d at hd1 ⊢
      have HA5d := Lib.hid (HA5.out.keep hd1)
      have HR5d := Lib.hid (HR5.out.keep hd1)
      have HP5d := Lib.hid (HP5.out.ext hd1)
      have HL5d := Lib.hid (HL5.out.trans (LeP.ofExt hd1))
      clear ca fa hal cb fb hbl hgl5 HA5 HR5 HP5 HL5 hd1
      obtain ⟨ca, fa⟩ := HA5d.out.facts
      have hal := HA5d.out.lt
      obtain ⟨cb, fb⟩ := HP5d.out.blk.facts
      unfold psC at cb
      have hbl := HP5d.out.blk.lt
      have hgl5 := HP5d.out.tok.1
      go_quiet (fail)
      have hd2 : Ext W5d (W5d.drewN nq) := bel_drewN _ _
      generalize W5d.drewN nq = W5e at hd2 ⊢
      have HA5e := Lib.hid (HA5d.out.keep hd2)
      have HR5e := Lib.hid (HR5d.out.keep hd2)
      have HP5e := Lib.hid (HP5d.out.ext hd2)
      have HL5e := Lib.hid (HL5d.out.trans (LeP.ofExt hd2))
      clear ca fa hal cb fb hbl hgl5 HA5d HR5d HP5d HL5d hd2
      obtain ⟨ca, fa⟩ := HA5e.out.facts
      have hal := HA5e.out.lt
      have KX := Lib.hid (fun W (hW : PsAt W p g cap long T s) => ptext_any p g cap long T s W hW)
      have KA0 := Lib.hid (show ∀ W, PsAt W p g cap long T s → Calls Tryz.prog 461 #[.pointer (some ⟨p, 0, none⟩), .int .i64 0, .int .i64 1, .string ⟨(textP T s).toArray⟩] W fun e w' => e = .returned (.bool (aheadB T s 0 1 (bsl ⟨(textP T s).toArray⟩))) ∧ Below W.heap.size W w' from fun W hW => ahead_any p g cap long T s 0 (by omega) 1 ⟨(textP T s).toArray⟩ W hW)
      have KA1 := Lib.hid (show ∀ W, PsAt W p g cap long T s → Calls Tryz.prog 461 #[.pointer (some ⟨p, 0, none⟩), .int .i64 1, .int .i64 5, .string ⟨#[40]⟩] W fun e w' => e = .returned (.bool (aheadB T s 1 5 (bsl ⟨#[40]⟩))) ∧ Below W.heap.size W w' from fun W hW => ahead_any p g cap long T s 1 (by omega) 5 ⟨#[40]⟩ W hW)
      go_simp
      repeat (first | go_values | go_skip | go_guarded | go_step | go_upon)
      have HF := Lib.hid (show ∀ W, Ext W5e W → ∀ j, W.cell? ⟨w.heap.size, j, none⟩ = (#[.pointer (some ⟨p, 0, none⟩)] : Array Value)[j]? from fun W hW => (HA5e.out.keep hW).cell)
      clear ca fa hal
      cases hb1 : aheadB T s 0 1 (textP T s)
      · rw [hb1, Bool.false_and, if_neg (by decide)] at hf
        have KC := Lib.hid (fun W (hW : PsAt W p g cap long T s) => column_any p g cap long T s r s' W hf hW)
        clear hf
        refine wp_par 9 (fun
            | 0 => fun v _ => v = .pointer (some ⟨p, 0, none⟩)
            | 1 => fun v _ => v = .pointer (some ⟨p, 0, none⟩)
            | 2 => fun v _ => v = .string ⟨(textP T s).toArray⟩
            | 3 => fun v _ => v = .bool false
            | 4 => fun v _ => v = .bool false
            | 5 => fun v _ => v = undef
            | 6 => fun v _ => v = undef
            | 7 => fun v _ => v = .bool false
            | 8 => fun v _ => v = .bool false
            | _ => fun _ _ => True) (by kernel_rfl) (by kernel_rfl) (by kernel_rfl) ?_ ?_
        · simp (maxSteps := 20000000) only [List.take_succ_cons, List.take_zero, ParAll, Act.put, List.setIfInBounds_toArray, List.set_cons_succ, List.set_cons_zero]
          refine ⟨?_, ?_, ?_, ?_, ?_, ?_, ?_, ?_, ?_, trivial⟩
          · intro vals W hx hd
            have hW := HF.out W hx
            simp [PDeps, pdeps, Region.binds] at hd
            first
              | refine ParOb.plain rfl ?_
              | refine ParOb.wanted (by simp [Region.wanted, yielded, hd]) ?_
            go_simp
            exact ParPost.same fun _ _ => rfl
          · intro vals W hx hd
            have hW := HF.out W hx
            simp [PDeps, pdeps, Region.binds] at hd
            first
              | refine ParOb.plain rfl ?_
              | refine ParOb.wanted (by simp [Region.wanted, yielded, hd]) ?_
            go_simp
            exact ParPost.same fun _ _ => rfl
          · intro vals W hx hd
            have hW := HF.out W hx
            simp [PDeps, pdeps, Region.binds] at hd
            first
              | refine ParOb.plain rfl ?_
              | refine ParOb.wanted (by simp [Region.wanted, yielded, hd]) ?_
            go_simp
            refine Calls.mono (KX.out W (HP5e.out.ext hx)) ?_
            rintro e w9 ⟨rfl, hb9⟩
            exact ⟨_, rfl, hb9, fun _ _ => rfl⟩
          · intro vals W hx hd
            have hW := HF.out W hx
            simp [PDeps, pdeps, Region.binds] at hd
            first
              | refine ParOb.plain rfl ?_
              | refine ParOb.wanted (by simp [Region.wanted, yielded, hd]) ?_
            go_simp
            refine Calls.mono (KA0.out W (HP5e.out.ext hx)) ?_
            rw [bsl_mk, hb1]
            rintro e w9 ⟨rfl, hb9⟩
            exact ⟨_, rfl, hb9, fun _ _ => rfl⟩
          · intro vals W hx hd
            have hW := HF.out W hx
            simp [PDeps, pdeps, Region.binds] at hd
            first
              | refine ParOb.plain rfl ?_
              | refine ParOb.wanted (by simp [Region.wanted, yielded, hd]) ?_
            go_simp
            exact ParPost.same fun _ _ => rfl
          · intro vals W hx hd
            have hW := HF.out W hx
            simp [PDeps, pdeps, Region.binds] at hd
            exact ParOb.passed (by simp [Region.wanted, yielded, hd] <;> decide) fun _ _ => rfl
          · intro vals W hx hd
            have hW := HF.out W hx
            simp [PDeps, pdeps, Region.binds] at hd
            exact ParOb.passed (by simp [Region.wanted, yielded, hd] <;> decide) fun _ _ => rfl
          · intro vals W hx hd
            have hW := HF.out W hx
            simp [PDeps, pdeps, Region.binds] at hd
            first
              | refine ParOb.plain rfl ?_
              | refine ParOb.wanted (by simp [Region.wanted, yielded, hd]) ?_
            go_simp
            exact ParPost.same fun _ _ => rfl
          · intro vals W hx hd
            have hW := HF.out W hx
            simp [PDeps, pdeps, Region.binds] at hd
            first
              | refine ParOb.plain rfl ?_
              | refine ParOb.wanted (by simp [Region.wanted, yielded, hd]) ?_
            go_simp
            exact ParPost.same fun _ _ => rfl
        intro vals W hx hf
        simp (maxSteps := 20000000) only [ParFacts, List.take_succ_cons, List.take_zero, and_true] at hf
        simp (maxSteps := 20000000) only [List.drop_succ_cons, List.drop_zero, List.take_succ_cons, List.take_zero, ParEnd, Act.put, List.setIfInBounds_toArray, List.set_cons_succ, List.set_cons_zero, hf]
        clear hf
        have HA7 := Lib.hid (HA5e.out.keep hx)
        have HR7 := Lib.hid (HR5e.out.keep hx)
        have HP7 := Lib.hid (HP5e.out.ext hx)
        have HL7 := Lib.hid (HL5e.out.trans (LeP.ofExt hx))
        clear HA5e HR5e HP5e HL5e hx HF KX KA0 KA1
        obtain ⟨ca, fa⟩ := HA7.out.facts
        have hal := HA7.out.lt
        have hw7 : w.heap.size + 1 < W.heap.size := HR7.out.lt
        go_simp
        repeat (first | go_values | go_skip | go_guarded | go_step | go_upon)
        refine Calls.mono (KC.out W HP7.out) ?_
        rintro e W6 ⟨x, rfl, ht, hp2, hl2⟩
        have HR6 := Lib.hid (hl2.blk HR7.out hwp)
        have HL6 := Lib.hid (HL7.out.trans hl2)
        have HT6 := Lib.hid (ht.mono (B := fun g => w.heap.size + 1 < g) fun g h1 h2 => by omega)
        have HP6 := Lib.hid hp2
        clear ht hp2 hl2 HP7 HR7 HL7 HA7 ca fa hal KC
        obtain ⟨xk, xo, xs, xt, xn, xla, xln, xlc⟩ := x
        simp only [PN.v]
        obtain ⟨cr, fr⟩ := HR6.out.facts
        have hrl := HR6.out.lt
        go_simp
        repeat (first | go_values | go_skip | go_guarded | go_step | go_upon)
        refine bodyPost_ret (ret_ndP rfl _ rfl rfl (blk6P HR6.out _ _ _ _ _ _)) rfl ?_
        refine ⟨⟨xk, xo, xs, xt, xn, xla, xln, xlc⟩, rfl, ?_, HP6.out.other6 hpw hgw _ _ _ _ _ _, HL6.out.other6 (by omega) _ _ _ _ _ _⟩
        exact (HT6.out.set6 (b := w.heap.size + 1) (fun g h => by omega) _ _ _ _ _ _).mono fun g h _ => by omega
      · cases hb2 : aheadB T s 1 5 [40]
        · rw [hb1, hb2, Bool.and_false, if_neg (by decide)] at hf
          have KC := Lib.hid (fun W (hW : PsAt W p g cap long T s) => column_any p g cap long T s r s' W hf hW)
          clear hf
          refine wp_par 9 (fun
              | 0 => fun v _ => v = .pointer (some ⟨p, 0, none⟩)
              | 1 => fun v _ => v = .pointer (some ⟨p, 0, none⟩)
              | 2 => fun v _ => v = .string ⟨(textP T s).toArray⟩
              | 3 => fun v _ => v = .bool true
              | 4 => fun v _ => v = .bool true
              | 5 => fun v _ => v = .pointer (some ⟨p, 0, none⟩)
              | 6 => fun v _ => v = .bool false
              | 7 => fun v _ => v = .bool false
              | 8 => fun v _ => v = .bool false
              | _ => fun _ _ => True) (by kernel_rfl) (by kernel_rfl) (by kernel_rfl) ?_ ?_
          · simp (maxSteps := 20000000) only [List.take_succ_cons, List.take_zero, ParAll, Act.put, List.setIfInBounds_toArray, List.set_cons_succ, List.set_cons_zero]
            refine ⟨?_, ?_, ?_, ?_, ?_, ?_, ?_, ?_, ?_, trivial⟩
            · intro vals W hx hd
              have hW := HF.out W hx
              simp [PDeps, pdeps, Region.binds] at hd
              first
                | refine ParOb.plain rfl ?_
                | refine ParOb.wanted (by simp [Region.wanted, yielded, hd]) ?_
              go_simp
              exact ParPost.same fun _ _ => rfl
            · intro vals W hx hd
              have hW := HF.out W hx
              simp [PDeps, pdeps, Region.binds] at hd
              first
                | refine ParOb.plain rfl ?_
                | refine ParOb.wanted (by simp [Region.wanted, yielded, hd]) ?_
              go_simp
              exact ParPost.same fun _ _ => rfl
            · intro vals W hx hd
              have hW := HF.out W hx
              simp [PDeps, pdeps, Region.binds] at hd
              first
                | refine ParOb.plain rfl ?_
                | refine ParOb.wanted (by simp [Region.wanted, yielded, hd]) ?_
              go_simp
              refine Calls.mono (KX.out W (HP5e.out.ext hx)) ?_
              rintro e w9 ⟨rfl, hb9⟩
              exact ⟨_, rfl, hb9, fun _ _ => rfl⟩
            · intro vals W hx hd
              have hW := HF.out W hx
              simp [PDeps, pdeps, Region.binds] at hd
              first
                | refine ParOb.plain rfl ?_
                | refine ParOb.wanted (by simp [Region.wanted, yielded, hd]) ?_
              go_simp
              refine Calls.mono (KA0.out W (HP5e.out.ext hx)) ?_
              rw [bsl_mk, hb1]
              rintro e w9 ⟨rfl, hb9⟩
              exact ⟨_, rfl, hb9, fun _ _ => rfl⟩
            · intro vals W hx hd
              have hW := HF.out W hx
              simp [PDeps, pdeps, Region.binds] at hd
              first
                | refine ParOb.plain rfl ?_
                | refine ParOb.wanted (by simp [Region.wanted, yielded, hd]) ?_
              go_simp
              exact ParPost.same fun _ _ => rfl
            · intro vals W hx hd
              have hW := HF.out W hx
              simp [PDeps, pdeps, Region.binds] at hd
              first
                | refine ParOb.plain rfl ?_
                | refine ParOb.wanted (by simp [Region.wanted, yielded, hd]) ?_
              go_simp
              exact ParPost.same fun _ _ => rfl
            · intro vals W hx hd
              have hW := HF.out W hx
              simp [PDeps, pdeps, Region.binds] at hd
              first
                | refine ParOb.plain rfl ?_
                | refine ParOb.wanted (by simp [Region.wanted, yielded, hd]) ?_
              go_simp
              refine Calls.mono (KA1.out W (HP5e.out.ext hx)) ?_
              rw [show bsl ⟨#[40]⟩ = [40] from rfl, hb2]
              rintro e w9 ⟨rfl, hb9⟩
              exact ⟨_, rfl, hb9, fun _ _ => rfl⟩
            · intro vals W hx hd
              have hW := HF.out W hx
              simp [PDeps, pdeps, Region.binds] at hd
              first
                | refine ParOb.plain rfl ?_
                | refine ParOb.wanted (by simp [Region.wanted, yielded, hd]) ?_
              go_simp
              exact ParPost.same fun _ _ => rfl
            · intro vals W hx hd
              have hW := HF.out W hx
              simp [PDeps, pdeps, Region.binds] at hd
              first
                | refine ParOb.plain rfl ?_
                | refine ParOb.wanted (by simp [Region.wanted, yielded, hd]) ?_
              go_simp
              exact ParPost.same fun _ _ => rfl
          intro vals W hx hf
          simp (maxSteps := 20000000) only [ParFacts, List.take_succ_cons, List.take_zero, and_true] at hf
          simp (maxSteps := 20000000) only [List.drop_succ_cons, List.drop_zero, List.take_succ_cons, List.take_zero, ParEnd, Act.put, List.setIfInBounds_toArray, List.set_cons_succ, List.set_cons_zero, hf]
          clear hf
          have HA7 := Lib.hid (HA5e.out.keep hx)
          have HR7 := Lib.hid (HR5e.out.keep hx)
          have HP7 := Lib.hid (HP5e.out.ext hx)
          have HL7 := Lib.hid (HL5e.out.trans (LeP.ofExt hx))
          clear HA5e HR5e HP5e HL5e hx HF KX KA0 KA1
          obtain ⟨ca, fa⟩ := HA7.out.facts
          have hal := HA7.out.lt
          have hw7 : w.heap.size + 1 < W.heap.size := HR7.out.lt
          go_simp
          repeat (first | go_values | go_skip | go_guarded | go_step | go_upon)
          refine Calls.mono (KC.out W HP7.out) ?_
          rintro e W6 ⟨x, rfl, ht, hp2, hl2⟩
          have HR6 := Lib.hid (hl2.blk HR7.out hwp)
          have HL6 := Lib.hid (HL7.out.trans hl2)
          have HT6 := Lib.hid (ht.mono (B := fun g => w.heap.size + 1 < g) fun g h1 h2 => by omega)
          have HP6 := Lib.hid hp2
          clear ht hp2 hl2 HP7 HR7 HL7 HA7 ca fa hal KC
          obtain ⟨xk, xo, xs, xt, xn, xla, xln, xlc⟩ := x
          simp only [PN.v]
          obtain ⟨cr, fr⟩ := HR6.out.facts
          have hrl := HR6.out.lt
          go_simp
          repeat (first | go_values | go_skip | go_guarded | go_step | go_upon)
          refine bodyPost_ret (ret_ndP rfl _ rfl rfl (blk6P HR6.out _ _ _ _ _ _)) rfl ?_
          refine ⟨⟨xk, xo, xs, xt, xn, xla, xln, xlc⟩, rfl, ?_, HP6.out.other6 hpw hgw _ _ _ _ _ _, HL6.out.other6 (by omega) _ _ _ _ _ _⟩
          exact (HT6.out.set6 (b := w.heap.size + 1) (fun g h => by omega) _ _ _ _ _ _).mono fun g h _ => by omega
        · rw [hb1, hb2, Bool.and_self, if_pos rfl] at hf
          have KC := Lib.hid (fun W (hW : PsAt W p g cap long T s) => within_self 463 (.pointer (some ⟨p, 0, none⟩)) (fun _ _ => by kernel_rfl) p g cap long T (callF rec T long) s r s' W hf hW (fun s1 r1 s2 W hs hl hp => call_any p g cap long T rec HRec.out s1 r1 s2 W hs hp))
          clear hf
          refine wp_par 9 (fun
              | 0 => fun v _ => v = .pointer (some ⟨p, 0, none⟩)
              | 1 => fun v _ => v = .pointer (some ⟨p, 0, none⟩)
              | 2 => fun v _ => v = .string ⟨(textP T s).toArray⟩
              | 3 => fun v _ => v = .bool true
              | 4 => fun v _ => v = .bool true
              | 5 => fun v _ => v = .pointer (some ⟨p, 0, none⟩)
              | 6 => fun v _ => v = .bool true
              | 7 => fun v _ => v = .bool true
              | 8 => fun v _ => v = .bool true
              | _ => fun _ _ => True) (by kernel_rfl) (by kernel_rfl) (by kernel_rfl) ?_ ?_
          · simp (maxSteps := 20000000) only [List.take_succ_cons, List.take_zero, ParAll, Act.put, List.setIfInBounds_toArray, List.set_cons_succ, List.set_cons_zero]
            refine ⟨?_, ?_, ?_, ?_, ?_, ?_, ?_, ?_, ?_, trivial⟩
            · intro vals W hx hd
              have hW := HF.out W hx
              simp [PDeps, pdeps, Region.binds] at hd
              first
                | refine ParOb.plain rfl ?_
                | refine ParOb.wanted (by simp [Region.wanted, yielded, hd]) ?_
              go_simp
              exact ParPost.same fun _ _ => rfl
            · intro vals W hx hd
              have hW := HF.out W hx
              simp [PDeps, pdeps, Region.binds] at hd
              first
                | refine ParOb.plain rfl ?_
                | refine ParOb.wanted (by simp [Region.wanted, yielded, hd]) ?_
              go_simp
              exact ParPost.same fun _ _ => rfl
            · intro vals W hx hd
              have hW := HF.out W hx
              simp [PDeps, pdeps, Region.binds] at hd
              first
                | refine ParOb.plain rfl ?_
                | refine ParOb.wanted (by simp [Region.wanted, yielded, hd]) ?_
              go_simp
              refine Calls.mono (KX.out W (HP5e.out.ext hx)) ?_
              rintro e w9 ⟨rfl, hb9⟩
              exact ⟨_, rfl, hb9, fun _ _ => rfl⟩
            · intro vals W hx hd
              have hW := HF.out W hx
              simp [PDeps, pdeps, Region.binds] at hd
              first
                | refine ParOb.plain rfl ?_
                | refine ParOb.wanted (by simp [Region.wanted, yielded, hd]) ?_
              go_simp
              refine Calls.mono (KA0.out W (HP5e.out.ext hx)) ?_
              rw [bsl_mk, hb1]
              rintro e w9 ⟨rfl, hb9⟩
              exact ⟨_, rfl, hb9, fun _ _ => rfl⟩
            · intro vals W hx hd
              have hW := HF.out W hx
              simp [PDeps, pdeps, Region.binds] at hd
              first
                | refine ParOb.plain rfl ?_
                | refine ParOb.wanted (by simp [Region.wanted, yielded, hd]) ?_
              go_simp
              exact ParPost.same fun _ _ => rfl
            · intro vals W hx hd
              have hW := HF.out W hx
              simp [PDeps, pdeps, Region.binds] at hd
              first
                | refine ParOb.plain rfl ?_
                | refine ParOb.wanted (by simp [Region.wanted, yielded, hd]) ?_
              go_simp
              exact ParPost.same fun _ _ => rfl
            · intro vals W hx hd
              have hW := HF.out W hx
              simp [PDeps, pdeps, Region.binds] at hd
              first
                | refine ParOb.plain rfl ?_
                | refine ParOb.wanted (by simp [Region.wanted, yielded, hd]) ?_
              go_simp
              refine Calls.mono (KA1.out W (HP5e.out.ext hx)) ?_
              rw [show bsl ⟨#[40]⟩ = [40] from rfl, hb2]
              rintro e w9 ⟨rfl, hb9⟩
              exact ⟨_, rfl, hb9, fun _ _ => rfl⟩
            · intro vals W hx hd
              have hW := HF.out W hx
              simp [PDeps, pdeps, Region.binds] at hd
              first
                | refine ParOb.plain rfl ?_
                | refine ParOb.wanted (by simp [Region.wanted, yielded, hd]) ?_
              go_simp
              exact ParPost.same fun _ _ => rfl
            · intro vals W hx hd
              have hW := HF.out W hx
              simp [PDeps, pdeps, Region.binds] at hd
              first
                | refine ParOb.plain rfl ?_
                | refine ParOb.wanted (by simp [Region.wanted, yielded, hd]) ?_
              go_simp
              exact ParPost.same fun _ _ => rfl
          intro vals W hx hf
          simp (maxSteps := 20000000) only [ParFacts, List.take_succ_cons, List.take_zero, and_true] at hf
          simp (maxSteps := 20000000) only [List.drop_succ_cons, List.drop_zero, List.take_succ_cons, List.take_zero, ParEnd, Act.put, List.setIfInBounds_toArray, List.set_cons_succ, List.set_cons_zero, hf]
          clear hf
          have HA7 := Lib.hid (HA5e.out.keep hx)
          have HR7 := Lib.hid (HR5e.out.keep hx)
          have HP7 := Lib.hid (HP5e.out.ext hx)
          have HL7 := Lib.hid (HL5e.out.trans (LeP.ofExt hx))
          clear HA5e HR5e HP5e HL5e hx HF KX KA0 KA1
          obtain ⟨ca, fa⟩ := HA7.out.facts
          have hal := HA7.out.lt
          have hw7 : w.heap.size + 1 < W.heap.size := HR7.out.lt
          go_simp
          repeat (first | go_values | go_skip | go_guarded | go_step | go_upon)
          refine Calls.mono (KC.out W HP7.out) ?_
          rintro e W6 ⟨x, rfl, ht, hp2, hl2⟩
          have HR6 := Lib.hid (hl2.blk HR7.out hwp)
          have HL6 := Lib.hid (HL7.out.trans hl2)
          have HT6 := Lib.hid (ht.mono (B := fun g => w.heap.size + 1 < g) fun g h1 h2 => by omega)
          have HP6 := Lib.hid hp2
          clear ht hp2 hl2 HP7 HR7 HL7 HA7 ca fa hal KC
          obtain ⟨xk, xo, xs, xt, xn, xla, xln, xlc⟩ := x
          simp only [PN.v]
          obtain ⟨cr, fr⟩ := HR6.out.facts
          have hrl := HR6.out.lt
          go_simp
          repeat (first | go_values | go_skip | go_guarded | go_step | go_upon)
          refine bodyPost_ret (ret_ndP rfl _ rfl rfl (blk6P HR6.out _ _ _ _ _ _)) rfl ?_
          refine ⟨⟨xk, xo, xs, xt, xn, xla, xln, xlc⟩, rfl, ?_, HP6.out.other6 hpw hgw _ _ _ _ _ _, HL6.out.other6 (by omega) _ _ _ _ _ _⟩
          exact (HT6.out.set6 (b := w.heap.size + 1) (fun g h => by omega) _ _ _ _ _ _).mono fun g h _ => by omega
    | some tok =>
      have hlt : s.i < T.length := (List.getElem?_eq_some_iff.1 hti).1
      have hltI : (s.i : Int) < (T.length : Int) := by omega
      have hltB : decide ((s.i : Int) < (T.length : Int)) = true := by rw [decide_eq_true_iff]; exact hltI
      obtain ⟨q0, _, _, _⟩ := HP5.out.tok.get hti
      rw [psA_pos (by omega)] at cb
      have hk3 : kindB T s 3 = ((tok.kind : Int) == 3) := by unfold kindB; rw [hti]
      have hk4 : kindB T s 4 = ((tok.kind : Int) == 4) := by unfold kindB; rw [hti]
      rw [hk3, hk4] at hf
      clear hk3 hk4
      obtain ⟨tk, htk⟩ : ∃ z : Int, z = (tok.kind : Int) := ⟨_, rfl⟩
      rw [← htk] at q0 hf
      clear htk
      cases h3 : tk == 3
      · cases h4 : tk == 4
        · rw [h3, h4, if_neg (by decide), if_neg (by decide)] at hf
          go_simp
          repeat (first | go_values | go_skip | go_guarded | go_step | go_upon)
          go_quiet (fail)
          go_simp
          repeat (first | go_values | go_skip | go_guarded | go_step | go_upon)
          rename Nat => nq1
          have hd1 : Ext W5 (W5.drewN nq1) := bel_drewN _ _
          generalize W5.drewN nq1 = W5d at hd1 ⊢
          have HA5d := Lib.hid (HA5.out.keep hd1)
          have HR5d := Lib.hid (HR5.out.keep hd1)
          have HP5d := Lib.hid (HP5.out.ext hd1)
          have HL5d := Lib.hid (HL5.out.trans (LeP.ofExt hd1))
          have q0 := (hd1.cell (p := ⟨g, _, none⟩) hgl5).trans q0
          clear ca fa hal cb fb hbl hgl5 HA5 HR5 HP5 HL5 hd1
          obtain ⟨ca, fa⟩ := HA5d.out.facts
          have hal := HA5d.out.lt
          obtain ⟨cb, fb⟩ := HP5d.out.blk.facts
          unfold psC at cb
          rw [psA_pos (by omega)] at cb
          have hbl := HP5d.out.blk.lt
          have hgl5 := HP5d.out.tok.1
          go_quiet (fail)
          have hd2 : Ext W5d (W5d.drewN nq) := bel_drewN _ _
          generalize W5d.drewN nq = W5e at hd2 ⊢
          have HA5e := Lib.hid (HA5d.out.keep hd2)
          have HR5e := Lib.hid (HR5d.out.keep hd2)
          have HP5e := Lib.hid (HP5d.out.ext hd2)
          have HL5e := Lib.hid (HL5d.out.trans (LeP.ofExt hd2))
          clear ca fa hal cb fb hbl hgl5 HA5d HR5d HP5d HL5d hd2 q0
          obtain ⟨ca, fa⟩ := HA5e.out.facts
          have hal := HA5e.out.lt
          have KX := Lib.hid (fun W (hW : PsAt W p g cap long T s) => ptext_any p g cap long T s W hW)
          have KA0 := Lib.hid (show ∀ W, PsAt W p g cap long T s → Calls Tryz.prog 461 #[.pointer (some ⟨p, 0, none⟩), .int .i64 0, .int .i64 1, .string ⟨(textP T s).toArray⟩] W fun e w' => e = .returned (.bool (aheadB T s 0 1 (bsl ⟨(textP T s).toArray⟩))) ∧ Below W.heap.size W w' from fun W hW => ahead_any p g cap long T s 0 (by omega) 1 ⟨(textP T s).toArray⟩ W hW)
          have KA1 := Lib.hid (show ∀ W, PsAt W p g cap long T s → Calls Tryz.prog 461 #[.pointer (some ⟨p, 0, none⟩), .int .i64 1, .int .i64 5, .string ⟨#[40]⟩] W fun e w' => e = .returned (.bool (aheadB T s 1 5 (bsl ⟨#[40]⟩))) ∧ Below W.heap.size W w' from fun W hW => ahead_any p g cap long T s 1 (by omega) 5 ⟨#[40]⟩ W hW)
          go_simp
          repeat (first | go_values | go_skip | go_guarded | go_step | go_upon)
          have HF := Lib.hid (show ∀ W, Ext W5e W → ∀ j, W.cell? ⟨w.heap.size, j, none⟩ = (#[.pointer (some ⟨p, 0, none⟩)] : Array Value)[j]? from fun W hW => (HA5e.out.keep hW).cell)
          clear ca fa hal
          cases hb1 : aheadB T s 0 1 (textP T s)
          · rw [hb1, Bool.false_and, if_neg (by decide)] at hf
            have KC := Lib.hid (fun W (hW : PsAt W p g cap long T s) => column_any p g cap long T s r s' W hf hW)
            clear hf
            refine wp_par 9 (fun
                | 0 => fun v _ => v = .pointer (some ⟨p, 0, none⟩)
                | 1 => fun v _ => v = .pointer (some ⟨p, 0, none⟩)
                | 2 => fun v _ => v = .string ⟨(textP T s).toArray⟩
                | 3 => fun v _ => v = .bool false
                | 4 => fun v _ => v = .bool false
                | 5 => fun v _ => v = undef
                | 6 => fun v _ => v = undef
                | 7 => fun v _ => v = .bool false
                | 8 => fun v _ => v = .bool false
                | _ => fun _ _ => True) (by kernel_rfl) (by kernel_rfl) (by kernel_rfl) ?_ ?_
            · simp (maxSteps := 20000000) only [List.take_succ_cons, List.take_zero, ParAll, Act.put, List.setIfInBounds_toArray, List.set_cons_succ, List.set_cons_zero]
              refine ⟨?_, ?_, ?_, ?_, ?_, ?_, ?_, ?_, ?_, trivial⟩
              · intro vals W hx hd
                have hW := HF.out W hx
                simp [PDeps, pdeps, Region.binds] at hd
                first
                  | refine ParOb.plain rfl ?_
                  | refine ParOb.wanted (by simp [Region.wanted, yielded, hd]) ?_
                go_simp
                exact ParPost.same fun _ _ => rfl
              · intro vals W hx hd
                have hW := HF.out W hx
                simp [PDeps, pdeps, Region.binds] at hd
                first
                  | refine ParOb.plain rfl ?_
                  | refine ParOb.wanted (by simp [Region.wanted, yielded, hd]) ?_
                go_simp
                exact ParPost.same fun _ _ => rfl
              · intro vals W hx hd
                have hW := HF.out W hx
                simp [PDeps, pdeps, Region.binds] at hd
                first
                  | refine ParOb.plain rfl ?_
                  | refine ParOb.wanted (by simp [Region.wanted, yielded, hd]) ?_
                go_simp
                refine Calls.mono (KX.out W (HP5e.out.ext hx)) ?_
                rintro e w9 ⟨rfl, hb9⟩
                exact ⟨_, rfl, hb9, fun _ _ => rfl⟩
              · intro vals W hx hd
                have hW := HF.out W hx
                simp [PDeps, pdeps, Region.binds] at hd
                first
                  | refine ParOb.plain rfl ?_
                  | refine ParOb.wanted (by simp [Region.wanted, yielded, hd]) ?_
                go_simp
                refine Calls.mono (KA0.out W (HP5e.out.ext hx)) ?_
                rw [bsl_mk, hb1]
                rintro e w9 ⟨rfl, hb9⟩
                exact ⟨_, rfl, hb9, fun _ _ => rfl⟩
              · intro vals W hx hd
                have hW := HF.out W hx
                simp [PDeps, pdeps, Region.binds] at hd
                first
                  | refine ParOb.plain rfl ?_
                  | refine ParOb.wanted (by simp [Region.wanted, yielded, hd]) ?_
                go_simp
                exact ParPost.same fun _ _ => rfl
              · intro vals W hx hd
                have hW := HF.out W hx
                simp [PDeps, pdeps, Region.binds] at hd
                exact ParOb.passed (by simp [Region.wanted, yielded, hd] <;> decide) fun _ _ => rfl
              · intro vals W hx hd
                have hW := HF.out W hx
                simp [PDeps, pdeps, Region.binds] at hd
                exact ParOb.passed (by simp [Region.wanted, yielded, hd] <;> decide) fun _ _ => rfl
              · intro vals W hx hd
                have hW := HF.out W hx
                simp [PDeps, pdeps, Region.binds] at hd
                first
                  | refine ParOb.plain rfl ?_
                  | refine ParOb.wanted (by simp [Region.wanted, yielded, hd]) ?_
                go_simp
                exact ParPost.same fun _ _ => rfl
              · intro vals W hx hd
                have hW := HF.out W hx
                simp [PDeps, pdeps, Region.binds] at hd
                first
                  | refine ParOb.plain rfl ?_
                  | refine ParOb.wanted (by simp [Region.wanted, yielded, hd]) ?_
                go_simp
                exact ParPost.same fun _ _ => rfl
            intro vals W hx hf
            simp (maxSteps := 20000000) only [ParFacts, List.take_succ_cons, List.take_zero, and_true] at hf
            simp (maxSteps := 20000000) only [List.drop_succ_cons, List.drop_zero, List.take_succ_cons, List.take_zero, ParEnd, Act.put, List.setIfInBounds_toArray, List.set_cons_succ, List.set_cons_zero, hf]
            clear hf
            have HA7 := Lib.hid (HA5e.out.keep hx)
            have HR7 := Lib.hid (HR5e.out.keep hx)
            have HP7 := Lib.hid (HP5e.out.ext hx)
            have HL7 := Lib.hid (HL5e.out.trans (LeP.ofExt hx))
            clear HA5e HR5e HP5e HL5e hx HF KX KA0 KA1
            obtain ⟨ca, fa⟩ := HA7.out.facts
            have hal := HA7.out.lt
            have hw7 : w.heap.size + 1 < W.heap.size := HR7.out.lt
            go_simp
            repeat (first | go_values | go_skip | go_guarded | go_step | go_upon)
            refine Calls.mono (KC.out W HP7.out) ?_
            rintro e W6 ⟨x, rfl, ht, hp2, hl2⟩
            have HR6 := Lib.hid (hl2.blk HR7.out hwp)
            have HL6 := Lib.hid (HL7.out.trans hl2)
            have HT6 := Lib.hid (ht.mono (B := fun g => w.heap.size + 1 < g) fun g h1 h2 => by omega)
            have HP6 := Lib.hid hp2
            clear ht hp2 hl2 HP7 HR7 HL7 HA7 ca fa hal KC
            obtain ⟨xk, xo, xs, xt, xn, xla, xln, xlc⟩ := x
            simp only [PN.v]
            obtain ⟨cr, fr⟩ := HR6.out.facts
            have hrl := HR6.out.lt
            go_simp
            repeat (first | go_values | go_skip | go_guarded | go_step | go_upon)
            refine bodyPost_ret (ret_ndP rfl _ rfl rfl (blk6P HR6.out _ _ _ _ _ _)) rfl ?_
            refine ⟨⟨xk, xo, xs, xt, xn, xla, xln, xlc⟩, rfl, ?_, HP6.out.other6 hpw hgw _ _ _ _ _ _, HL6.out.other6 (by omega) _ _ _ _ _ _⟩
            exact (HT6.out.set6 (b := w.heap.size + 1) (fun g h => by omega) _ _ _ _ _ _).mono fun g h _ => by omega
          · cases hb2 : aheadB T s 1 5 [40]
            · rw [hb1, hb2, Bool.and_false, if_neg (by decide)] at hf
              have KC := Lib.hid (fun W (hW : PsAt W p g cap long T s) => column_any p g cap long T s r s' W hf hW)
              clear hf
              refine wp_par 9 (fun
                  | 0 => fun v _ => v = .pointer (some ⟨p, 0, none⟩)
                  | 1 => fun v _ => v = .pointer (some ⟨p, 0, none⟩)
                  | 2 => fun v _ => v = .string ⟨(textP T s).toArray⟩
                  | 3 => fun v _ => v = .bool true
                  | 4 => fun v _ => v = .bool true
                  | 5 => fun v _ => v = .pointer (some ⟨p, 0, none⟩)
                  | 6 => fun v _ => v = .bool false
                  | 7 => fun v _ => v = .bool false
                  | 8 => fun v _ => v = .bool false
                  | _ => fun _ _ => True) (by kernel_rfl) (by kernel_rfl) (by kernel_rfl) ?_ ?_
              · simp (maxSteps := 20000000) only [List.take_succ_cons, List.take_zero, ParAll, Act.put, List.setIfInBounds_toArray, List.set_cons_succ, List.set_cons_zero]
                refine ⟨?_, ?_, ?_, ?_, ?_, ?_, ?_, ?_, ?_, trivial⟩
                · intro vals W hx hd
                  have hW := HF.out W hx
                  simp [PDeps, pdeps, Region.binds] at hd
                  first
                    | refine ParOb.plain rfl ?_
                    | refine ParOb.wanted (by simp [Region.wanted, yielded, hd]) ?_
                  go_simp
                  exact ParPost.same fun _ _ => rfl
                · intro vals W hx hd
                  have hW := HF.out W hx
                  simp [PDeps, pdeps, Region.binds] at hd
                  first
                    | refine ParOb.plain rfl ?_
                    | refine ParOb.wanted (by simp [Region.wanted, yielded, hd]) ?_
                  go_simp
                  exact ParPost.same fun _ _ => rfl
                · intro vals W hx hd
                  have hW := HF.out W hx
                  simp [PDeps, pdeps, Region.binds] at hd
                  first
                    | refine ParOb.plain rfl ?_
                    | refine ParOb.wanted (by simp [Region.wanted, yielded, hd]) ?_
                  go_simp
                  refine Calls.mono (KX.out W (HP5e.out.ext hx)) ?_
                  rintro e w9 ⟨rfl, hb9⟩
                  exact ⟨_, rfl, hb9, fun _ _ => rfl⟩
                · intro vals W hx hd
                  have hW := HF.out W hx
                  simp [PDeps, pdeps, Region.binds] at hd
                  first
                    | refine ParOb.plain rfl ?_
                    | refine ParOb.wanted (by simp [Region.wanted, yielded, hd]) ?_
                  go_simp
                  refine Calls.mono (KA0.out W (HP5e.out.ext hx)) ?_
                  rw [bsl_mk, hb1]
                  rintro e w9 ⟨rfl, hb9⟩
                  exact ⟨_, rfl, hb9, fun _ _ => rfl⟩
                · intro vals W hx hd
                  have hW := HF.out W hx
                  simp [PDeps, pdeps, Region.binds] at hd
                  first
                    | refine ParOb.plain rfl ?_
                    | refine ParOb.wanted (by simp [Region.wanted, yielded, hd]) ?_
                  go_simp
                  exact ParPost.same fun _ _ => rfl
                · intro vals W hx hd
                  have hW := HF.out W hx
                  simp [PDeps, pdeps, Region.binds] at hd
                  first
                    | refine ParOb.plain rfl ?_
                    | refine ParOb.wanted (by simp [Region.wanted, yielded, hd]) ?_
                  go_simp
                  exact ParPost.same fun _ _ => rfl
                · intro vals W hx hd
                  have hW := HF.out W hx
                  simp [PDeps, pdeps, Region.binds] at hd
                  first
                    | refine ParOb.plain rfl ?_
                    | refine ParOb.wanted (by simp [Region.wanted, yielded, hd]) ?_
                  go_simp
                  refine Calls.mono (KA1.out W (HP5e.out.ext hx)) ?_
                  rw [show bsl ⟨#[40]⟩ = [40] from rfl, hb2]
                  rintro e w9 ⟨rfl, hb9⟩
                  exact ⟨_, rfl, hb9, fun _ _ => rfl⟩
                · intro vals W hx hd
                  have hW := HF.out W hx
                  simp [PDeps, pdeps, Region.binds] at hd
                  first
                    | refine ParOb.plain rfl ?_
                    | refine ParOb.wanted (by simp [Region.wanted, yielded, hd]) ?_
                  go_simp
                  exact ParPost.same fun _ _ => rfl
                · intro vals W hx hd
                  have hW := HF.out W hx
                  simp [PDeps, pdeps, Region.binds] at hd
                  first
                    | refine ParOb.plain rfl ?_
                    | refine ParOb.wanted (by simp [Region.wanted, yielded, hd]) ?_
                  go_simp
                  exact ParPost.same fun _ _ => rfl
              intro vals W hx hf
              simp (maxSteps := 20000000) only [ParFacts, List.take_succ_cons, List.take_zero, and_true] at hf
              simp (maxSteps := 20000000) only [List.drop_succ_cons, List.drop_zero, List.take_succ_cons, List.take_zero, ParEnd, Act.put, List.setIfInBounds_toArray, List.set_cons_succ, List.set_cons_zero, hf]
              clear hf
              have HA7 := Lib.hid (HA5e.out.keep hx)
              have HR7 := Lib.hid (HR5e.out.keep hx)
              have HP7 := Lib.hid (HP5e.out.ext hx)
              have HL7 := Lib.hid (HL5e.out.trans (LeP.ofExt hx))
              clear HA5e HR5e HP5e HL5e hx HF KX KA0 KA1
              obtain ⟨ca, fa⟩ := HA7.out.facts
              have hal := HA7.out.lt
              have hw7 : w.heap.size + 1 < W.heap.size := HR7.out.lt
              go_simp
              repeat (first | go_values | go_skip | go_guarded | go_step | go_upon)
              refine Calls.mono (KC.out W HP7.out) ?_
              rintro e W6 ⟨x, rfl, ht, hp2, hl2⟩
              have HR6 := Lib.hid (hl2.blk HR7.out hwp)
              have HL6 := Lib.hid (HL7.out.trans hl2)
              have HT6 := Lib.hid (ht.mono (B := fun g => w.heap.size + 1 < g) fun g h1 h2 => by omega)
              have HP6 := Lib.hid hp2
              clear ht hp2 hl2 HP7 HR7 HL7 HA7 ca fa hal KC
              obtain ⟨xk, xo, xs, xt, xn, xla, xln, xlc⟩ := x
              simp only [PN.v]
              obtain ⟨cr, fr⟩ := HR6.out.facts
              have hrl := HR6.out.lt
              go_simp
              repeat (first | go_values | go_skip | go_guarded | go_step | go_upon)
              refine bodyPost_ret (ret_ndP rfl _ rfl rfl (blk6P HR6.out _ _ _ _ _ _)) rfl ?_
              refine ⟨⟨xk, xo, xs, xt, xn, xla, xln, xlc⟩, rfl, ?_, HP6.out.other6 hpw hgw _ _ _ _ _ _, HL6.out.other6 (by omega) _ _ _ _ _ _⟩
              exact (HT6.out.set6 (b := w.heap.size + 1) (fun g h => by omega) _ _ _ _ _ _).mono fun g h _ => by omega
            · rw [hb1, hb2, Bool.and_self, if_pos rfl] at hf
              have KC := Lib.hid (fun W (hW : PsAt W p g cap long T s) => within_self 463 (.pointer (some ⟨p, 0, none⟩)) (fun _ _ => by kernel_rfl) p g cap long T (callF rec T long) s r s' W hf hW (fun s1 r1 s2 W hs hl hp => call_any p g cap long T rec HRec.out s1 r1 s2 W hs hp))
              clear hf
              refine wp_par 9 (fun
                  | 0 => fun v _ => v = .pointer (some ⟨p, 0, none⟩)
                  | 1 => fun v _ => v = .pointer (some ⟨p, 0, none⟩)
                  | 2 => fun v _ => v = .string ⟨(textP T s).toArray⟩
                  | 3 => fun v _ => v = .bool true
                  | 4 => fun v _ => v = .bool true
                  | 5 => fun v _ => v = .pointer (some ⟨p, 0, none⟩)
                  | 6 => fun v _ => v = .bool true
                  | 7 => fun v _ => v = .bool true
                  | 8 => fun v _ => v = .bool true
                  | _ => fun _ _ => True) (by kernel_rfl) (by kernel_rfl) (by kernel_rfl) ?_ ?_
              · simp (maxSteps := 20000000) only [List.take_succ_cons, List.take_zero, ParAll, Act.put, List.setIfInBounds_toArray, List.set_cons_succ, List.set_cons_zero]
                refine ⟨?_, ?_, ?_, ?_, ?_, ?_, ?_, ?_, ?_, trivial⟩
                · intro vals W hx hd
                  have hW := HF.out W hx
                  simp [PDeps, pdeps, Region.binds] at hd
                  first
                    | refine ParOb.plain rfl ?_
                    | refine ParOb.wanted (by simp [Region.wanted, yielded, hd]) ?_
                  go_simp
                  exact ParPost.same fun _ _ => rfl
                · intro vals W hx hd
                  have hW := HF.out W hx
                  simp [PDeps, pdeps, Region.binds] at hd
                  first
                    | refine ParOb.plain rfl ?_
                    | refine ParOb.wanted (by simp [Region.wanted, yielded, hd]) ?_
                  go_simp
                  exact ParPost.same fun _ _ => rfl
                · intro vals W hx hd
                  have hW := HF.out W hx
                  simp [PDeps, pdeps, Region.binds] at hd
                  first
                    | refine ParOb.plain rfl ?_
                    | refine ParOb.wanted (by simp [Region.wanted, yielded, hd]) ?_
                  go_simp
                  refine Calls.mono (KX.out W (HP5e.out.ext hx)) ?_
                  rintro e w9 ⟨rfl, hb9⟩
                  exact ⟨_, rfl, hb9, fun _ _ => rfl⟩
                · intro vals W hx hd
                  have hW := HF.out W hx
                  simp [PDeps, pdeps, Region.binds] at hd
                  first
                    | refine ParOb.plain rfl ?_
                    | refine ParOb.wanted (by simp [Region.wanted, yielded, hd]) ?_
                  go_simp
                  refine Calls.mono (KA0.out W (HP5e.out.ext hx)) ?_
                  rw [bsl_mk, hb1]
                  rintro e w9 ⟨rfl, hb9⟩
                  exact ⟨_, rfl, hb9, fun _ _ => rfl⟩
                · intro vals W hx hd
                  have hW := HF.out W hx
                  simp [PDeps, pdeps, Region.binds] at hd
                  first
                    | refine ParOb.plain rfl ?_
                    | refine ParOb.wanted (by simp [Region.wanted, yielded, hd]) ?_
                  go_simp
                  exact ParPost.same fun _ _ => rfl
                · intro vals W hx hd
                  have hW := HF.out W hx
                  simp [PDeps, pdeps, Region.binds] at hd
                  first
                    | refine ParOb.plain rfl ?_
                    | refine ParOb.wanted (by simp [Region.wanted, yielded, hd]) ?_
                  go_simp
                  exact ParPost.same fun _ _ => rfl
                · intro vals W hx hd
                  have hW := HF.out W hx
                  simp [PDeps, pdeps, Region.binds] at hd
                  first
                    | refine ParOb.plain rfl ?_
                    | refine ParOb.wanted (by simp [Region.wanted, yielded, hd]) ?_
                  go_simp
                  refine Calls.mono (KA1.out W (HP5e.out.ext hx)) ?_
                  rw [show bsl ⟨#[40]⟩ = [40] from rfl, hb2]
                  rintro e w9 ⟨rfl, hb9⟩
                  exact ⟨_, rfl, hb9, fun _ _ => rfl⟩
                · intro vals W hx hd
                  have hW := HF.out W hx
                  simp [PDeps, pdeps, Region.binds] at hd
                  first
                    | refine ParOb.plain rfl ?_
                    | refine ParOb.wanted (by simp [Region.wanted, yielded, hd]) ?_
                  go_simp
                  exact ParPost.same fun _ _ => rfl
                · intro vals W hx hd
                  have hW := HF.out W hx
                  simp [PDeps, pdeps, Region.binds] at hd
                  first
                    | refine ParOb.plain rfl ?_
                    | refine ParOb.wanted (by simp [Region.wanted, yielded, hd]) ?_
                  go_simp
                  exact ParPost.same fun _ _ => rfl
              intro vals W hx hf
              simp (maxSteps := 20000000) only [ParFacts, List.take_succ_cons, List.take_zero, and_true] at hf
              simp (maxSteps := 20000000) only [List.drop_succ_cons, List.drop_zero, List.take_succ_cons, List.take_zero, ParEnd, Act.put, List.setIfInBounds_toArray, List.set_cons_succ, List.set_cons_zero, hf]
              clear hf
              have HA7 := Lib.hid (HA5e.out.keep hx)
              have HR7 := Lib.hid (HR5e.out.keep hx)
              have HP7 := Lib.hid (HP5e.out.ext hx)
              have HL7 := Lib.hid (HL5e.out.trans (LeP.ofExt hx))
              clear HA5e HR5e HP5e HL5e hx HF KX KA0 KA1
              obtain ⟨ca, fa⟩ := HA7.out.facts
              have hal := HA7.out.lt
              have hw7 : w.heap.size + 1 < W.heap.size := HR7.out.lt
              go_simp
              repeat (first | go_values | go_skip | go_guarded | go_step | go_upon)
              refine Calls.mono (KC.out W HP7.out) ?_
              rintro e W6 ⟨x, rfl, ht, hp2, hl2⟩
              have HR6 := Lib.hid (hl2.blk HR7.out hwp)
              have HL6 := Lib.hid (HL7.out.trans hl2)
              have HT6 := Lib.hid (ht.mono (B := fun g => w.heap.size + 1 < g) fun g h1 h2 => by omega)
              have HP6 := Lib.hid hp2
              clear ht hp2 hl2 HP7 HR7 HL7 HA7 ca fa hal KC
              obtain ⟨xk, xo, xs, xt, xn, xla, xln, xlc⟩ := x
              simp only [PN.v]
              obtain ⟨cr, fr⟩ := HR6.out.facts
              have hrl := HR6.out.lt
              go_simp
              repeat (first | go_values | go_skip | go_guarded | go_step | go_upon)
              refine bodyPost_ret (ret_ndP rfl _ rfl rfl (blk6P HR6.out _ _ _ _ _ _)) rfl ?_
              refine ⟨⟨xk, xo, xs, xt, xn, xla, xln, xlc⟩, rfl, ?_, HP6.out.other6 hpw hgw _ _ _ _ _ _, HL6.out.other6 (by omega) _ _ _ _ _ _⟩
              exact (HT6.out.set6 (b := w.heap.size + 1) (fun g h => by omega) _ _ _ _ _ _).mono fun g h _ => by omega
        · rw [h3, h4, if_neg (by decide), if_pos rfl] at hf
          obtain ⟨rfl, rfl⟩ := Prod.mk.inj (Option.some.inj hf)
          go_simp
          repeat (first | go_values | go_skip | go_guarded | go_step | go_upon)
          go_quiet (fail)
          go_simp
          repeat (first | go_values | go_skip | go_guarded | go_step | go_upon)
          rename Nat => nq1
          have hd1 : Ext W5 (W5.drewN nq1) := bel_drewN _ _
          generalize W5.drewN nq1 = W5d at hd1 ⊢
          have HA5d := Lib.hid (HA5.out.keep hd1)
          have HR5d := Lib.hid (HR5.out.keep hd1)
          have HP5d := Lib.hid (HP5.out.ext hd1)
          have HL5d := Lib.hid (HL5.out.trans (LeP.ofExt hd1))
          have q0 := (hd1.cell (p := ⟨g, _, none⟩) hgl5).trans q0
          clear ca fa hal cb fb hbl hgl5 HA5 HR5 HP5 HL5 hd1
          obtain ⟨ca, fa⟩ := HA5d.out.facts
          have hal := HA5d.out.lt
          obtain ⟨cb, fb⟩ := HP5d.out.blk.facts
          unfold psC at cb
          rw [psA_pos (by omega)] at cb
          have hbl := HP5d.out.blk.lt
          have hgl5 := HP5d.out.tok.1
          go_quiet (fail)
          have hd2 : Ext W5d (W5d.drewN nq) := bel_drewN _ _
          generalize W5d.drewN nq = W5e at hd2 ⊢
          have HA5e := Lib.hid (HA5d.out.keep hd2)
          have HR5e := Lib.hid (HR5d.out.keep hd2)
          have HP5e := Lib.hid (HP5d.out.ext hd2)
          have HL5e := Lib.hid (HL5d.out.trans (LeP.ofExt hd2))
          clear ca fa hal cb fb hbl hgl5 HA5d HR5d HP5d HL5d hd2 q0
          obtain ⟨ca, fa⟩ := HA5e.out.facts
          have hal := HA5e.out.lt
          have KT := Lib.hid (fun W (hW : PsAt W p g cap long T s) => take_any p g cap long T s 4 W hW)
          go_simp
          repeat (first | go_values | go_skip | go_guarded | go_step | go_upon)
          refine Calls.mono (KT.out _ HP5e.out) ?_
          obtain ⟨t, ht⟩ : ∃ t, t = takeT T s 4 := ⟨_, rfl⟩
          rw [← ht]
          have HTk := Lib.hid ht
          clear ht
          obtain ⟨tk', tt, tn, tp⟩ := t
          simp only [tkV]
          rintro e W6 ⟨rfl, hp, hl⟩
          have HR6 := Lib.hid (hl.blk HR5e.out hwp)
          have HL6 := Lib.hid (HL5e.out.trans hl)
          have HP6 := Lib.hid hp
          clear hp hl HP5e HR5e HL5e HA5e ca fa hal KT
          have hfd := tok_field tk' ⟨tt.toArray⟩ tn tp
          obtain ⟨cr, fr⟩ := HR6.out.facts
          have hrl := HR6.out.lt
          go_simp
          repeat (first | go_values | go_skip | go_guarded | go_step | go_upon)
          refine bodyPost_ret (ret_ndP rfl _ rfl rfl (blk6P HR6.out _ _ _ _ _ _)) rfl ?_
          rw [← HTk.out]
          exact ⟨⟨3, 0, ⟨tt.toArray⟩, ⟨#[]⟩, 0, none, 0, 0⟩, rfl, .leaf 3 0 tt [] 0, HP6.out.other6 hpw hgw _ _ _ _ _ _, HL6.out.other6 (by omega) _ _ _ _ _ _⟩
      · rw [h3, if_pos rfl] at hf
        obtain ⟨rfl, rfl⟩ := Prod.mk.inj (Option.some.inj hf)
        have KT := Lib.hid (fun W (hW : PsAt W p g cap long T s) => take_any p g cap long T s 3 W hW)
        clear hf hti
        go_simp
        repeat (first | go_values | go_skip | go_guarded | go_step | go_upon)
        go_quiet (fail)
        have hd1 : Ext W5 (W5.drewN nq) := bel_drewN _ _
        generalize W5.drewN nq = W5d at hd1 ⊢
        have HA5d := Lib.hid (HA5.out.keep hd1)
        have HR5d := Lib.hid (HR5.out.keep hd1)
        have HP5d := Lib.hid (HP5.out.ext hd1)
        have HL5d := Lib.hid (HL5.out.trans (LeP.ofExt hd1))
        clear ca fa hal cb fb hbl q0 hgl5 hd1 HA5 HR5 HP5 HL5
        obtain ⟨ca, fa⟩ := HA5d.out.facts
        have hal := HA5d.out.lt
        go_simp
        repeat (first | go_values | go_skip | go_guarded | go_step | go_upon)
        refine Calls.mono (KT.out _ HP5d.out) ?_
        obtain ⟨t, ht⟩ : ∃ t, t = takeT T s 3 := ⟨_, rfl⟩
        rw [← ht]
        have HTk := Lib.hid ht
        clear ht
        obtain ⟨tk', tt, tn, tp⟩ := t
        simp only [tkV]
        rintro e W6 ⟨rfl, hp, hl⟩
        have HR6 := Lib.hid (hl.blk HR5d.out hwp)
        have HL6 := Lib.hid (HL5d.out.trans hl)
        have HP6 := Lib.hid hp
        clear hp hl HP5d HR5d HL5d HA5d ca fa hal KT
        have hfd := tok_num tk' ⟨tt.toArray⟩ tn tp
        obtain ⟨cr, fr⟩ := HR6.out.facts
        have hrl := HR6.out.lt
        go_simp
        repeat (first | go_values | go_skip | go_guarded | go_step | go_upon)
        refine bodyPost_ret (ret_ndP rfl _ rfl rfl (blk6P HR6.out _ _ _ _ _ _)) rfl ?_
        rw [← HTk.out]
        exact ⟨⟨2, 0, ⟨#[]⟩, ⟨#[]⟩, tn, none, 0, 0⟩, rfl, .leaf 2 0 [] [] tn, HP6.out.other6 hpw hgw _ _ _ _ _ _, HL6.out.other6 (by omega) _ _ _ _ _ _⟩
  · rw [hpar, if_pos rfl] at hf
    have KL := Lib.hid (within_one 460 (.pointer (some ⟨w.heap.size, 0, none⟩)) (fun _ _ => by kernel_rfl) p g cap long T (parenF rec T long) s r s' W5 hf HP5.out (fun s1 r1 s2 W hs hl hp => paren_any w.heap.size p g cap long T rec HRec.out s1 r1 s2 W hs hp (hl.blk HA5.out hAp) hAp))
    clear hf hpar
    go_simp
    repeat (first | go_values | go_skip | go_guarded | go_step | go_upon)
    refine Calls.mono KL.out ?_
    rintro e W6 ⟨x, rfl, ht, hp2, hl2⟩
    have HR6 := Lib.hid (hl2.blk HR5.out hwp)
    have HL6 := Lib.hid (HL5.out.trans hl2)
    have HT6 := Lib.hid (ht.mono (B := fun g => w.heap.size + 1 < g) fun g h1 h2 => by omega)
    have HP6 := Lib.hid hp2
    clear ht hp2 hl2 HP5 HR5 HL5 HA5 ca fa hal KL
    obtain ⟨xk, xo, xs, xt, xn, xla, xln, xlc⟩ := x
    simp only [PN.v]
    obtain ⟨cr, fr⟩ := HR6.out.facts
    have hrl := HR6.out.lt
    go_simp
    repeat (first | go_values | go_skip | go_guarded | go_step | go_upon)
    refine bodyPost_ret (ret_ndP rfl _ rfl rfl (blk6P HR6.out _ _ _ _ _ _)) rfl ?_
    refine ⟨⟨xk, xo, xs, xt, xn, xla, xln, xlc⟩, rfl, ?_, HP6.out.other6 hpw hgw _ _ _ _ _ _, HL6.out.other6 (by omega) _ _ _ _ _ _⟩
    exact (HT6.out.set6 (b := w.heap.size + 1) (fun g h => by omega) _ _ _ _ _ _).mono fun g h _ => by omega
end Go.Proofs.YtchpbdodlbghaaaGreatDoor
