import Derived.Test.YtcgbpmeadohbkaaGreatDoorRpL
namespace Go.Proofs.YtcgbpmeadohbkaaGreatDoor
open Go.RowKit Go.Lib
set_option maxRecDepth 100000
theorem NT0 : (if false = true then (1 : Int) else 0) = 0 := rfl
def opsV4 : Array Value := #[.string ⟨#[61]⟩, .string ⟨#[60, 62]⟩, .string ⟨#[60]⟩, .string ⟨#[60, 61]⟩, .string ⟨#[62]⟩, .string ⟨#[62, 61]⟩]
theorem opsV4_get (j : Nat) (hj : j < 6) : ∃ (z : Int) (x : List UInt8), (binsL 4)[j]? = some (z, x, 1 + (j : Int)) ∧ opsV4[j]? = some (.string ⟨x.toArray⟩) := by
 rcases (by omega : j = 0 ∨ j = 1 ∨ j = 2 ∨ j = 3 ∨ j = 4 ∨ j = 5) with rfl | rfl | rfl | rfl | rfl | rfl <;> exact ⟨_, _, rfl, rfl⟩
def readRD (n0 p g cap long : Nat) (T : List Lx.Tok) (r : Tr) (s' : PSt) (lo hi : Nat) (v : Value) (w : World) : Prop := n0 ≤ lo ∧ ∃ y : PN, v = y.v ∧ TrAt (fun g => lo ≤ g ∧ g < hi) w y r ∧ RsAt w p g cap long T s'
def readR (n0 p g cap long : Nat) (T : List Lx.Tok) (r : Tr) (s' : PSt) (v : Value) (w : World) : Prop := ∃ y : PN, v = y.v ∧ TrAt (n0 ≤ ·) w y r ∧ RsAt w p g cap long T s'
def pairR (n0 : Nat) (x : PN) (m : Tr) (v : Value) (w : World) : Prop := ∃ (gs : Nat) (y : PN), v = .slice (some ⟨gs, 0, none⟩) 2 2 ∧ n0 ≤ gs ∧ PnAt w gs [x, y] ∧ TrAt (n0 ≤ ·) w y m
def overR (n0 : Nat) (k o n : Int) (x : PN) (m : Tr) (v : Value) (w : World) : Prop := ∃ (gs : Nat) (y : PN), v = .agg #[.int .i64 k, .int .i64 o, .string ⟨#[]⟩, .string ⟨#[]⟩, .int .i64 n, .slice (some ⟨gs, 0, none⟩) 2 2] ∧ n0 ≤ gs ∧ PnAt w gs [x, y] ∧ TrAt (n0 ≤ ·) w y m
set_option maxHeartbeats 16000000 in
theorem rcompare_any (A : Nat → Prop) (ya : PN) (ta : Tr) (p g cap long : Nat) (T : List Lx.Tok) (rec : RecR) (hrec : LevOkR p g cap long T rec) (hdp : DeepOk rec) (hinc : IncOk rec) (f : Nat) (s : PSt) (r : Tr) (s' : PSt) (w : World) (hf : compareR rec T long f ta s = some (r, s')) (h : RsAt w p g cap long T s)
 (hA : ∀ g, A g → g < w.heap.size ∧ g ≠ p) (hT : TrAt A w ya ta) :
 Calls Tryz.prog 84 #[.pointer (some ⟨p, 0, none⟩), ya.v] w (CmpPostR A p g cap long T r s' w) := by
 have mixed : Tryz.prog.follows .mixedOrders = true := by kernel_rfl
 obtain ⟨yk, yo, ys, yt, yn, yla, yln, ylc⟩ := ya
 have HC0 := Lib.hid (show Cst w A ⟨yk, yo, ys, yt, yn, yla, yln, ylc⟩ ta p g cap long T s ((w.alloc (.cells #[.int .i64 yk, .int .i64 yo, .string ys, .string yt, .int .i64 yn, .slice yla yln ylc] 24)).alloc (.cells #[.int .i64 0, .int .i64 0, .string ⟨#[]⟩, .string ⟨#[]⟩, .int .i64 0, .slice none 0 0] 24)) from Cst.start h hT hA)
 have KT := Lib.hid (fun (s : PSt) (x : ByteArray) W (hW : RsAt W p g cap long T s) => rtake_any p g cap long T s x W hW)
 have KI := Lib.hid (fun (s : PSt) (x : ByteArray) W (hW : RsAt W p g cap long T s) => ris_any p g cap long T s x W hW)
 have KW := Lib.hid (fun (s : PSt) (x : ByteArray) W (hW : RsAt W p g cap long T s) => rwant_any p g cap long T s x W hW)
 have KF := Lib.hid (fun (s : PSt) W (hW : RsAt W p g cap long T s) => rfail_any p g cap long T s 10 W hW)
 have KL := Lib.hid (fun (s : PSt) (r : List Tr) (s' : PSt) W (hf : listR rec T long f s = some (r, s')) (hW : RsAt W p g cap long T s) => rlist_any p g cap long T rec hrec hdp hinc f s r s' W hf hW)
 have HRec := Lib.hid hrec
 have HInc := Lib.hid hinc
 have HFf := Lib.hid hf
 clear h hrec hdp hinc hf hA hT
 simp only [PN.v]
 go_enter Tryz.func84, Tryz.ntmps84
 go_upto_region 1 with (fail)
 generalize ((w.alloc (.cells #[.int .i64 yk, .int .i64 yo, .string ys, .string yt, .int .i64 yn, .slice yla yln ylc] 24)).alloc (.cells #[.int .i64 0, .int .i64 0, .string ⟨#[]⟩, .string ⟨#[]⟩, .int .i64 0, .slice none 0 0] 24)) = W0 at HC0 ⊢
 obtain ⟨⟨c1, c2, c4⟩, f1, f4, hpl⟩ := HC0.out.rs.cells
 unfold compareR at HFf
 by_cases he : s.e = 0
 ·rw [if_neg (by simpa using he)] at HFf
  rw [he] at c2
  obtain ⟨R, hR⟩ : ∃ R, R = opR T s (binsL 4) := ⟨_, rfl⟩
  have HRf := Lib.hid hR
  rw [← hR] at HFf
  clear hR
  have HX0 := Lib.hid (show Ext W0 (W0.alloc (.cells opsV4 9)) from (Ext.refl W0).alloc _)
  have HBL := Lib.hid (Blk.new W0 opsV4 9 rfl)
  go_simp
  repeat (first | go_values | go_skip | go_guarded | go_step | go_upon)
  clear c1 c2 c4 f1 f4 hpl
  go_loopw [6] (fun i wr => ∃ j : Nat, j ≤ 6 ∧ i = .int .i64 j ∧ Ext (W0.alloc (.cells opsV4 9)) wr ∧ opR T s ((binsL 4).drop j) = R) (fun i _ => 6 - (intOf i).toNat)
  case atStart => exact ⟨0, Nat.zero_le _, rfl, Ext.refl _, HRf.out.symm⟩
  case round =>
   obtain ⟨j, hj, rfl, hx, hfd⟩ := hrel
   have HC1 := Lib.hid (HC0.out.ext (Ext.trans HX0.out hx))
   have hb := HBL.out.keep hx
   have HX := Lib.hid hx
   have HFd := Lib.hid hfd
   clear hx hfd
   by_cases hlt : j < 6
   ·have hltI : (j : Int) < 6 := by omega
    obtain ⟨z, x, hx1, hx2⟩ := opsV4_get j hlt
    have d0 := (hb.cell j).trans hx2
    have hbl := hb.lt
    have HX1 := Lib.hid hx1
    clear hb hx1 hx2
    go_simp
    repeat (first | go_values | go_skip | go_guarded | go_step | go_upon)
    refine Calls.mono (KI.out s _ _ HC1.out.rs) ?_
    rintro e W2 ⟨rfl, hb2⟩
    rw [bsl_mk]
    cases hB : isR T s x
    ·clear d0 hbl
     go_simp
     repeat (first | go_values | go_skip | go_guarded | go_step | go_upon)
     go_roundw
     case measure => simp [intOf]; omega
     case rel =>
     refine ⟨.int .i64 ((j + 1 : Nat) : Int), ⟨j + 1, by omega, rfl, Ext.trans HX.out hb2, ?_⟩, by simp⟩
     rw [← HFd.out]
     exact (opR_drop T s (binsL 4) j _ HX1.out hB).symm
    ·obtain rfl : R = 1 + (j : Int) := by
      have hl6 : j < (binsL 4).length := hlt
      rw [← HFd.out, List.drop_eq_getElem_cons hl6]
      have e := Option.some.inj ((List.getElem?_eq_getElem hl6).symm.trans HX1.out)
      rw [e]
      simp only [opR, hB, if_true]
     have HC2 := Lib.hid (HC1.out.ext hb2)
     have hil := isR_lt hB
     clear d0 hbl HC1 HC0 hb2
     rw [if_pos (by omega)] at HFf
     obtain ⟨m1, hm, hq⟩ := Option.map_eq_some_iff.1 HFf.out
     obtain ⟨m, s4⟩ := m1
     obtain ⟨rfl, hfs⟩ := Prod.mk.inj hq
     subst hfs
     clear hq HFf
     obtain ⟨i, deep, at_, er⟩ := s
     simp only at hil he hm
     subst he
     obtain ⟨⟨c1, c2, c4⟩, f1, f4, hpl⟩ := HC2.out.rs.cells
     simp only at c1 c2 c4
     have hfew := HC2.out.rs.few
     have hsum := IntWalk.i64_in ((i : Int) + 1) (by omega)
     go_simp
     repeat (first | go_values | go_skip | go_guarded | go_step | go_upon)
     have HC3 := Lib.hid (show Cst w A ⟨yk, yo, ys, yt, yn, yla, yln, ylc⟩ ta p g cap long T ⟨i + 1, deep, at_, 0⟩ (W2.setCell ⟨p, 1, none⟩ (.int .i64 ((i : Int) + 1))) from HC2.out.at (i + 1) hil)
     clear c1 c2 c4 f1 f4 hpl HC2 hsum
     generalize W2.setCell ⟨p, 1, none⟩ (.int .i64 ((i : Int) + 1)) = W3 at HC3 ⊢
     have KM := Lib.hid (fun W (hW : Ext W3 W) => HRec.out 5 5 ⟨i + 1, deep, at_, 0⟩ m s4 W rfl (by decide) hm (HC3.out.rs.ext hW))
     clear hm
     have HF := Lib.hid (show ∀ W, LeP p W3 W → (∀ j, W.cell? ⟨w.heap.size, j, none⟩ = (#[.int .i64 yk, .int .i64 yo, .string ys, .string yt, .int .i64 yn, .slice yla yln ylc] : Array Value)[j]?) from fun W hW => (hW.blk HC3.out.bx (by have := HC3.out.hp; omega)).cell)
     have hsum2 := IntWalk.i64_in (1 + (j : Int)) (by omega)
     have hb4 := HC3.out.res.lt
     have hp0 := HC3.out.hp
     refine wp_parZC 4 (leX) (leP p) (LeP.ofExt) [0, 1, 2, 3, 4, 5, 6, 7] 7 7 (fun
      | 0 => fun _ v _ => v = .int .i64 j
      | 1 => fun _ v _ => v = .int .i64 (1 + (j : Int))
      | 2 => fun _ v _ => v = .agg #[.int .i64 yk, .int .i64 yo, .string ys, .string yt, .int .i64 yn, .slice yla yln ylc]
      | 3 => fun _ v _ => v = .pointer (some ⟨p, 0, none⟩)
      | 4 => fun _ => readR W3.heap.size p g cap long T m s4
      | 5 => fun _ => pairR W3.heap.size ⟨yk, yo, ys, yt, yn, yla, yln, ylc⟩ m
      | 6 => fun _ => overR W3.heap.size 6 (1 + (j : Int)) 0 ⟨yk, yo, ys, yt, yn, yla, yln, ylc⟩ m
      | _ => fun _ _ _ => True) (fun
      | _ => undef) (by kernel_rfl) (by kernel_rfl) (by kernel_rfl) (by decide) ?_ ?_ ?_
     ·simp (maxSteps := 20000000) only [permL, permOp, List.filterMap_cons, List.filterMap_nil, List.getElem?_cons_succ, List.getElem?_cons_zero, Option.map_some, Option.map_none, List.take_succ_cons, List.take_zero, ParAllC, Act.put, List.setIfInBounds_toArray, List.set_cons_succ, List.set_cons_zero]
      refine ⟨?_, ?_, ?_, ?_, ?_, ?_, ?_, trivial⟩
      iterate 4
       next =>
        intro vals W hx hd
        rw [if_neg (by decide)] at hx
        have hW := HF.out W hx
        simp [PDepsG, pdeps, Region.binds, List.idxOf_cons] at hd
        refine ParObC.plain rfl ?_
        go_simp
        first | exact IsLe.refl (leX) _ | exact ⟨IsLe.refl (leX) _, fun _ _ => rfl⟩
      ·intro vals W hx hd
       rw [if_pos (by decide)] at hx
       simp [PDepsG, pdeps, Region.binds, List.idxOf_cons] at hd
       refine ParObC.call rfl ?_
       go_simp
       refine Calls.mono (KM.out W hx) ?_
       rintro e w9 ⟨y, rfl, hty, hpy, hly⟩
       have hs := hx.size
       exact ⟨_, rfl, hly, fun w3 h3 => ⟨y, rfl, (hty.mono (B := fun g => W3.heap.size ≤ g ∧ g ≠ p) fun g h1 h2 => by omega).later (p := p) (fun g h => h.2) (LeP.ofExt h3) |>.mono fun g h _ => h.1, hpy.ext h3⟩⟩
      ·intro vals W hx hd
       rw [if_neg (by decide)] at hx
       have hW := HF.out W hx
       simp [PDepsG, pdeps, Region.binds, List.idxOf_cons] at hd
       refine ParObC.plain rfl ?_
       obtain ⟨h1, y, hvy, hty, hpy⟩ := hd
       replace hvy : vals _ = .agg _ := hvy
       go_simp
       have hs := hx.size
       refine ⟨(Ext.refl _).alloc _, fun w3 h3 => ⟨_, y, rfl, by omega, ?_, ?_⟩⟩
       ·exact (pnAt_of [⟨yk, yo, ys, yt, yn, yla, yln, ylc⟩, y] (Blk.new W _ 24 rfl)).same (h3.old _ (by simp) (by omega)) h3.size
       ·exact hty.later (p := p) (fun g h => by omega) ((LeP.ofExt ((Ext.refl W).alloc _)).trans h3)
      ·intro vals W hx hd
       rw [if_neg (by decide)] at hx
       have hW := HF.out W hx
       simp [PDepsG, pdeps, Region.binds, List.idxOf_cons] at hd
       refine ParObC.plain rfl ?_
       obtain ⟨h0, gs, y, hv6, hge, hP, hTy⟩ := hd
       go_simp
       exact ⟨IsLe.refl leX _, fun w3 h3 => ⟨gs, y, rfl, hge, hP.same (h3.old _ hP.1 (by omega)) h3.size, hTy.later (p := p) (fun g h => by omega) h3⟩⟩
     ·simp (maxSteps := 20000000) only [permL, permOp, List.filterMap_cons, List.filterMap_nil, List.getElem?_cons_succ, List.getElem?_cons_zero, Option.map_some, Option.map_none, List.drop_succ_cons, List.drop_zero, List.take_succ_cons, List.take_zero, Nat.reduceSub, ZAll, ParEnd, Act.put, List.setIfInBounds_toArray, List.set_cons_succ, List.set_cons_zero]
     intro vals W hx hf hz
     simp (maxSteps := 20000000) only [permL, permOp, List.filterMap_cons, List.filterMap_nil, List.getElem?_cons_succ, List.getElem?_cons_zero, Option.map_some, Option.map_none, ParFactsG, List.take_succ_cons, List.take_zero, and_true, Nat.reduceAdd] at hf
     obtain ⟨f0, f1, f2, f3, f4, f5, f6⟩ := hf
     clear hz
     simp (maxSteps := 20000000) only [permL, permOp, List.filterMap_cons, List.filterMap_nil, List.getElem?_cons_succ, List.getElem?_cons_zero, Option.map_some, Option.map_none, List.drop_succ_cons, List.drop_zero, List.take_succ_cons, List.take_zero, Nat.reduceSub, ParEnd, ZTail, Act.put, List.setIfInBounds_toArray, List.set_cons_succ, List.set_cons_zero, Nat.reduceAdd, f0, f1, f2, f3]
     clear f0 f1 f2 f3
     obtain ⟨gs, y, hv6, hge, hP, hTy⟩ := f6
     obtain ⟨_, _, _, hPb⟩ := f4
     clear f5
     refine ⟨?_⟩
     refine yields_storeP (g := w.heap.size + 1) (cs := #[.int .i64 6, .int .i64 (1 + (j : Int)), .string ⟨#[]⟩, .string ⟨#[]⟩, .int .i64 0, .slice (some ⟨gs, 0, none⟩) 2 2]) rfl (by simp [Act.eval]) (by simp [Act.eval, hv6]) ((HC3.out.call hPb hx).res) rfl rfl (by simp [Value.oneCell']) ?_
     have HC4 := Lib.hid (HC3.out.call hPb hx)
     have HR5 := Lib.hid (show Blk _ (w.heap.size + 1) #[.int .i64 6, .int .i64 (1 + (j : Int)), .string ⟨#[]⟩, .string ⟨#[]⟩, .int .i64 0, .slice (some ⟨gs, 0, none⟩) 2 2] 24 from setRow_heap W (w.heap.size + 1) _ #[.int .i64 6, .int .i64 (1 + (j : Int)), .string ⟨#[]⟩, .string ⟨#[]⟩, .int .i64 0, .slice (some ⟨gs, 0, none⟩) 2 2] _ _ HC4.out.res)
     have HFin := Lib.hid (HC4.out.finRow ⟨6, 1 + (j : Int), ⟨#[]⟩, ⟨#[]⟩, 0, some ⟨gs, 0, none⟩, 2, 2⟩ (.mk 6 (1 + (j : Int)) [] [] 0 [ta, m]) (two_kids (s := []) (t := []) (Nat.le_refl _) (.inr (by omega)) hP (HC4.out.tr.mono fun g h _ => .inl h) (hTy.mono fun g h _ => .inr (by omega))) #[.int .i64 6, .int .i64 (1 + (j : Int)), .string ⟨#[]⟩, .string ⟨#[]⟩, .int .i64 0, .slice (some ⟨gs, 0, none⟩) 2 2])
     generalize W.setRow (w.heap.size + 1) #[.int .i64 6, .int .i64 (1 + (j : Int)), .string ⟨#[]⟩, .string ⟨#[]⟩, .int .i64 0, .slice (some ⟨gs, 0, none⟩) 2 2] = W5 at HR5 HFin ⊢
     clear hx hTy hPb HF KM HC3 HC4 hP hv6 hb4
     generalize vals 4 = v4
     generalize vals 5 = v5
     generalize vals 6 = v6
     go_simp
     repeat (first | go_values | go_skip | go_guarded | go_step | go_upon)
     refine bodyPost_ret (ret_ndP rfl _ rfl rfl HR5.out) rfl ?_
     exact HFin.out
   ·have hltI : ¬ (j : Int) < 6 := by omega
    obtain rfl : R = 0 := by
     rw [← HFd.out, List.drop_eq_nil_of_le (show (binsL 4).length ≤ j from (show 6 ≤ j by omega))]
     rfl
    rw [if_neg (by decide)] at HFf
    clear hb HC0 HFd HRf HX HX0 HBL
    go_simp
    repeat (first | go_values | go_skip | go_guarded | go_step | go_upon)
    refine Calls.mono (KT.out s ⟨#[73, 83]⟩ wr HC1.out.rs) ?_
    rw [show bsl ⟨#[73, 83]⟩ = [73, 83] from rfl]
    cases his : takeB T s [73, 83]
    ·rw [his, if_neg (by decide)] at HFf
     rintro e W1 ⟨rfl, hp1, hl1⟩
     have HC2 := Lib.hid (HC1.out.call (show RsAt W1 p g cap long T s from hp1) hl1)
     clear hp1 hl1 HC1
     go_simp
     repeat (first | go_values | go_skip | go_guarded | go_step | go_upon)
     refine Calls.mono (KI.out s ⟨#[78, 79, 84]⟩ W1 HC2.out.rs) ?_
     rw [show bsl ⟨#[78, 79, 84]⟩ = [78, 79, 84] from rfl]
     cases hnt : isR T s [78, 79, 84]
     ·rw [hnt] at HFf
      rintro e W3 ⟨rfl, hx3⟩
      have HC3 := Lib.hid (HC2.out.ext hx3)
      clear hx3 HC2
      have HFf := Lib.hid (show wordsR rec T long f ta false s = some (r, s') from HFf.out)
      have he2 : s.e = 0 := he
      obtain ⟨s2, hs2⟩ : ∃ s2, s2 = s := ⟨_, rfl⟩
      rw [← hs2] at HFf HC3 he2
      clear hs2
      go_simp
      repeat (first | go_values | go_skip | go_guarded | go_step | go_upon)
      refine Calls.mono (KT.out s2 ⟨#[76, 73, 75, 69]⟩ W3 HC3.out.rs) ?_
      rw [show bsl ⟨#[76, 73, 75, 69]⟩ = [76, 73, 75, 69] from rfl]
      unfold wordsR at HFf
      cases hlk : takeB T s2 [76, 73, 75, 69]
      ·rw [hlk, if_neg (by decide)] at HFf
       rintro e W4 ⟨rfl, hp4, hl4⟩
       have HC4 := Lib.hid (HC3.out.call (show RsAt W4 p g cap long T s2 from hp4) hl4)
       clear hp4 hl4 HC3
       go_simp
       repeat (first | go_values | go_skip | go_guarded | go_step | go_upon)
       refine Calls.mono (KT.out s2 ⟨#[66, 69, 84, 87, 69, 69, 78]⟩ W4 HC4.out.rs) ?_
       rw [show bsl ⟨#[66, 69, 84, 87, 69, 69, 78]⟩ = [66, 69, 84, 87, 69, 69, 78] from rfl]
       cases hbt : takeB T s2 [66, 69, 84, 87, 69, 69, 78]
       ·rw [hbt, if_neg (by decide)] at HFf
        rintro e W5 ⟨rfl, hp5, hl5⟩
        have HC5 := Lib.hid (HC4.out.call (show RsAt W5 p g cap long T s2 from hp5) hl5)
        clear hp5 hl5 HC4
        go_simp
        repeat (first | go_values | go_skip | go_guarded | go_step | go_upon)
        refine Calls.mono (KI.out s2 ⟨#[73, 78]⟩ W5 HC5.out.rs) ?_
        rw [show bsl ⟨#[73, 78]⟩ = [73, 78] from rfl]
        cases hin : isR T s2 [73, 78]
        ·rw [hin, if_neg (by decide)] at HFf
         rintro e W6 ⟨rfl, hx6⟩
         have HC6 := Lib.hid (HC5.out.ext hx6)
         clear hx6 HC5
         rw [if_neg (by decide)] at HFf
         obtain ⟨rfl, hfs⟩ := Prod.mk.inj (Option.some.inj HFf.out)
         subst hfs
         have HC := HC6
         clear HC6 HFf
         have hcb := HC.out.bx
         have hcr := HC.out.res
         simp only [PN.cells] at hcb
         have HRr := Lib.hid hcr
         obtain ⟨cb, fb⟩ := hcb.facts
         obtain ⟨cr, fr⟩ := hcr.facts
         have hbl := hcb.lt
         have hrl := hcr.lt
         clear hcb hcr
         go_simp
         repeat (first | go_values | go_skip | go_guarded | go_step | go_upon)
         refine bodyPost_ret (ret_ndP rfl _ rfl rfl (blk6P HRr.out _ _ _ _ _ _)) rfl ?_
         exact HC.out.fin ⟨yk, yo, ys, yt, yn, yla, yln, ylc⟩ _ (HC.out.tr.mono fun g h _ => .inl h) _ _ _ _ _ _
        ·rw [hin, if_pos rfl] at HFf
         rintro e W6 ⟨rfl, hx6⟩
         have HC6 := Lib.hid (HC5.out.ext hx6)
         clear hx6 HC5
         have hlt := isR_lt hin
         obtain ⟨q1, hq1, hq2⟩ := Option.map_eq_some_iff.1 HFf.out
         obtain ⟨l, s4⟩ := q1
         obtain ⟨rfl, hfs⟩ := Prod.mk.inj hq2
         simp only at hfs
         subst hfs
         obtain ⟨⟨c1, c2, c4⟩, f1, f4, hpl⟩ := HC6.out.rs.cells
         have hfew := HC6.out.rs.few
         have hcb := HC6.out.bx
         simp only [PN.cells] at hcb
         obtain ⟨cb, fb⟩ := hcb.facts
         have hbl := hcb.lt
         have hrl := HC6.out.res.lt
         have hp0 := HC6.out.hp
         have hsum := IntWalk.i64_in ((s2.i : Int) + 1) (by omega)
         clear hcb hq2 HFf
         have hwp : w.heap.size ≠ p := by omega
         go_simp
         repeat (first | go_values | go_skip | go_guarded | go_step | go_upon)
         have HC7 := Lib.hid (show Cst w A ⟨yk, yo, ys, yt, yn, yla, yln, ylc⟩ ta p g cap long T (advR s2) (W6.setCell ⟨p, 1, none⟩ (.int .i64 ((s2.i : Int) + 1))) from HC6.out.at (s2.i + 1) hlt)
         have hrl7 := HC7.out.res.lt
         clear c1 c2 c4 f1 f4 hpl HC6 hsum cb fb hbl hrl
         have hx8 : Ext (W6.setCell ⟨p, 1, none⟩ (.int .i64 ((s2.i : Int) + 1))) (((W6.setCell ⟨p, 1, none⟩ (.int .i64 ((s2.i : Int) + 1))).alloc (.cells #[.int .i64 yk, .int .i64 yo, .string ys, .string yt, .int .i64 yn, .slice yla yln ylc] 24)).alloc (.cells #[.int .i64 9, .int .i64 0, .string ⟨#[]⟩, .string ⟨#[]⟩, .int .i64 0, .slice (some ⟨W6.heap.size, 0, none⟩) 1 1] 24)) := ((Ext.refl _).alloc _).alloc _
         have HC8 := Lib.hid (HC7.out.ext hx8)
         have HN8 := Lib.hid (show Blk (((W6.setCell ⟨p, 1, none⟩ (.int .i64 ((s2.i : Int) + 1))).alloc (.cells #[.int .i64 yk, .int .i64 yo, .string ys, .string yt, .int .i64 yn, .slice yla yln ylc] 24)).alloc (.cells #[.int .i64 9, .int .i64 0, .string ⟨#[]⟩, .string ⟨#[]⟩, .int .i64 0, .slice (some ⟨W6.heap.size, 0, none⟩) 1 1] 24)) W6.heap.size #[.int .i64 yk, .int .i64 yo, .string ys, .string yt, .int .i64 yn, .slice yla yln ylc] 24 from (show Blk _ W6.heap.size _ _ from by simpa using Blk.new (W6.setCell ⟨p, 1, none⟩ (.int .i64 ((s2.i : Int) + 1))) #[.int .i64 yk, .int .i64 yo, .string ys, .string yt, .int .i64 yn, .slice yla yln ylc] 24 rfl).keep ((Ext.refl _).alloc _))
         have HV8 := Lib.hid (show Blk (((W6.setCell ⟨p, 1, none⟩ (.int .i64 ((s2.i : Int) + 1))).alloc (.cells #[.int .i64 yk, .int .i64 yo, .string ys, .string yt, .int .i64 yn, .slice yla yln ylc] 24)).alloc (.cells #[.int .i64 9, .int .i64 0, .string ⟨#[]⟩, .string ⟨#[]⟩, .int .i64 0, .slice (some ⟨W6.heap.size, 0, none⟩) 1 1] 24)) (W6.heap.size + 1) #[.int .i64 9, .int .i64 0, .string ⟨#[]⟩, .string ⟨#[]⟩, .int .i64 0, .slice (some ⟨W6.heap.size, 0, none⟩) 1 1] 24 from Blk.new ((W6.setCell ⟨p, 1, none⟩ (.int .i64 ((s2.i : Int) + 1))).alloc (.cells #[.int .i64 yk, .int .i64 yo, .string ys, .string yt, .int .i64 yn, .slice yla yln ylc] 24)) _ _ (by simp))
         have hs8 : (((W6.setCell ⟨p, 1, none⟩ (.int .i64 ((s2.i : Int) + 1))).alloc (.cells #[.int .i64 yk, .int .i64 yo, .string ys, .string yt, .int .i64 yn, .slice yla yln ylc] 24)).alloc (.cells #[.int .i64 9, .int .i64 0, .string ⟨#[]⟩, .string ⟨#[]⟩, .int .i64 0, .slice (some ⟨W6.heap.size, 0, none⟩) 1 1] 24)).heap.size = W6.heap.size + 1 + 1 := by simp
         rw [World.size_setCell] at hrl7
         clear hx8 HC7
         generalize (((W6.setCell ⟨p, 1, none⟩ (.int .i64 ((s2.i : Int) + 1))).alloc (.cells #[.int .i64 yk, .int .i64 yo, .string ys, .string yt, .int .i64 yn, .slice yla yln ylc] 24)).alloc (.cells #[.int .i64 9, .int .i64 0, .string ⟨#[]⟩, .string ⟨#[]⟩, .int .i64 0, .slice (some ⟨W6.heap.size, 0, none⟩) 1 1] 24)) = W8 at HC8 HN8 HV8 hs8 ⊢
         generalize W6.heap.size = bs at HN8 HV8 hs8 hrl7 ⊢
         have hbp : bs ≠ p ∧ bs + 1 ≠ p := by omega
         have HS8 := Lib.hid hs8
         clear hs8
         have hll := len_list HInc.out T long f _ l s4 hq1
         have hp8 := HC8.out.rs.blk.lt
         have KM := Lib.hid (fun W (hW : Ext W8 W) => KL.out (advR s2) l s4 W hq1 (HC8.out.rs.ext hW))
         clear hq1
         have HF := Lib.hid (show ∀ W, LeP p W8 W → (∀ j, W.cell? ⟨bs + 1, j, none⟩ = (#[.int .i64 9, .int .i64 0, .string ⟨#[]⟩, .string ⟨#[]⟩, .int .i64 0, .slice (some ⟨bs, 0, none⟩) 1 1] : Array Value)[j]?) from fun W hW => (hW.blk HV8.out hbp.2).cell)
         refine wp_parZC 3 (leX) (leP p) (LeP.ofExt) [0, 1, 2, 3, 4, 5, 6] 4 4 (fun
          | 0 => fun _ v _ => v = .pointer (some ⟨bs + 1, 5, none⟩)
          | 1 => fun _ v _ => v = .slice (some ⟨bs, 0, none⟩) 1 1
          | 2 => fun _ v _ => v = .pointer (some ⟨p, 0, none⟩)
          | 3 => fun _ => listRR W8.heap.size p g cap long T l s4
          | _ => fun _ _ _ => True) (fun
          | _ => undef) (by kernel_rfl) (by kernel_rfl) (by kernel_rfl) (by decide) ?_ ?_ ?_
         ·simp (maxSteps := 20000000) only [permL, permOp, List.filterMap_cons, List.filterMap_nil, List.getElem?_cons_succ, List.getElem?_cons_zero, Option.map_some, Option.map_none, List.take_succ_cons, List.take_zero, ParAllC, Act.put, List.setIfInBounds_toArray, List.set_cons_succ, List.set_cons_zero]
          refine ⟨?_, ?_, ?_, ?_, trivial⟩
          iterate 3
           next =>
            intro vals W hx hd
            rw [if_neg (by decide)] at hx
            have hW := HF.out W hx
            simp [PDepsG, pdeps, Region.binds, List.idxOf_cons] at hd
            refine ParObC.plain rfl ?_
            go_simp
            first | exact IsLe.refl (leX) _ | exact ⟨IsLe.refl (leX) _, fun _ _ => rfl⟩
          ·intro vals W hx hd
           rw [if_pos (by decide)] at hx
           simp [PDepsG, pdeps, Region.binds, List.idxOf_cons] at hd
           refine ParObC.call rfl ?_
           go_simp
           refine Calls.mono (KM.out W hx) ?_
           rintro e w9 ⟨v, L, rfl, hk, hpy, hly⟩
           have hs := hx.size
           exact ⟨_, rfl, hly, fun w3 h3 => ⟨L, (hk.weak hs).later (p := p) (LeP.ofExt h3) hp8, hpy.ext h3⟩⟩
         ·simp (maxSteps := 20000000) only [permL, permOp, List.filterMap_cons, List.filterMap_nil, List.getElem?_cons_succ, List.getElem?_cons_zero, Option.map_some, Option.map_none, List.drop_succ_cons, List.drop_zero, List.take_succ_cons, List.take_zero, Nat.reduceSub, ZAll, ParEnd, Act.put, List.setIfInBounds_toArray, List.set_cons_succ, List.set_cons_zero]
         intro vals W hx hf hz
         simp (maxSteps := 20000000) only [permL, permOp, List.filterMap_cons, List.filterMap_nil, List.getElem?_cons_succ, List.getElem?_cons_zero, Option.map_some, Option.map_none, ParFactsG, List.take_succ_cons, List.take_zero, and_true, Nat.reduceAdd] at hf
         obtain ⟨f0, f1, f2, f3⟩ := hf
         clear hz
         simp (maxSteps := 20000000) only [permL, permOp, List.filterMap_cons, List.filterMap_nil, List.getElem?_cons_succ, List.getElem?_cons_zero, Option.map_some, Option.map_none, List.drop_succ_cons, List.drop_zero, List.take_succ_cons, List.take_zero, Nat.reduceSub, ParEnd, ZTail, Act.put, List.setIfInBounds_toArray, List.set_cons_succ, List.set_cons_zero, Nat.reduceAdd, f0, f1, f2]
         clear f0 f1 f2
         obtain ⟨L, hk, hPb⟩ := f3
         have HC9 := Lib.hid (HC8.out.call hPb hx)
         have HN9 := Lib.hid (hx.blk HN8.out hbp.1)
         have HV9 := Lib.hid (hx.blk HV8.out hbp.2)
         have hs9 := hx.size
         have hs8 := HS8.out
         have hle4 := hPb.le
         refine ⟨?_⟩
         clear hx HC8 HN8 HV8 HF KM hPb
         rcases hk.own.2 with ⟨hv0, hL0⟩ | ⟨gl, cl, cur, hv1, hgl, _, hncl, _, _, _⟩
         ·have hl0 : l = [] := List.eq_nil_of_length_eq_zero (by rw [← hk.len, hL0])
          refine yields_pushNil rfl bs 1 1 (by simp [Act.eval]) (by simp [Act.eval, hv0]) (Nat.le_refl _) ?_
          clear hk
          generalize vals 3 = v3
          obtain ⟨cv, fv⟩ := HV9.out.facts
          have hvl := HV9.out.lt
          have hcr := HC9.out.res
          have hrl := hcr.lt
          obtain ⟨cr, fr⟩ := hcr.facts
          have HC := Lib.hid (HC9.out.store (show w.heap.size + 1 < bs + 1 by omega) 5 (.slice (some ⟨bs, 0, none⟩) 1 1))
          have HR := Lib.hid HC.out.res
          have HN10 := Lib.hid (HN9.out.other (a := ⟨bs + 1, 5, none⟩) (by show bs ≠ bs + 1; omega) (.slice (some ⟨bs, 0, none⟩) 1 1))
          clear hcr
          go_simp
          repeat (first | go_values | go_skip | go_guarded | go_step | go_upon)
          refine bodyPost_ret (ret_ndP rfl _ rfl rfl (blk6P HR.out _ _ _ _ _ _)) rfl ?_
          subst hl0
          exact HC.out.fin ⟨9, 0, ⟨#[]⟩, ⟨#[]⟩, 0, some ⟨bs, 0, none⟩, 1, 1⟩ _ (oneTr _ 9 0 [] [] 0 bs 1 _ ta _ (Nat.le_refl _) (.inr hrl7) (pnAt_of [⟨yk, yo, ys, yt, yn, yla, yln, ylc⟩] (t := 24) (by simpa [PN.cells] using HN10.out)) (HC.out.tr.mono fun g h _ => .inl h)) _ _ _ _ _ _
         ·have hLl : L.length ≤ 90000 := by rw [hk.len]; omega
          have hcl := hk.own
          rw [hv1] at hcl
          refine yields_pushN rfl (w.heap.size + 2) _ [⟨yk, yo, ys, yt, yn, yla, yln, ylc⟩] (by simp [Act.eval]) (own_blk [⟨yk, yo, ys, yt, yn, yla, yln, ylc⟩] (show w.heap.size + 2 ≤ bs by omega) (by simpa [cellsP, PN.cells] using HN9.out) (by simp)) gl cl L (by simp [Act.eval, hv1]) (fun j u hj => by
           have hj2 : j < (cellsP L).length := (List.getElem?_eq_some_iff.1 hj).1
           rw [cellsP_length] at hj2
           rw [hcl.cellAt j hj2]
           exact hj) (by simp; omega) (by have := HN9.out.lt; omega) ?_
          intro v5 w5 hown hgr hat
          obtain ⟨gz, cz, rfl, hgz, hcz, hPz⟩ := pnAt_own (show w5.ownsRow (w.heap.size + 2) 24 6 v5 ([(⟨yk, yo, ys, yt, yn, yla, yln, ylc⟩ : PN)] ++ L).length (cellsP ([(⟨yk, yo, ys, yt, yn, yla, yln, ylc⟩ : PN)] ++ L)) from by rw [List.length_append]; exact hown) (by simp)
          have hgr2 : World.grownBy W w5 (some bs) := hgr
          have HC8 := Lib.hid (HC9.out.grown hgr2 (show w.heap.size + 1 < bs by omega))
          have HV8 := Lib.hid (show Blk w5 (bs + 1) _ _ from (hgr2.block (bs + 1) HV9.out.lt (fun e => by have := Option.some.inj e; omega)).trans HV9.out)
          have hKt := Lib.hid (fun (i : Nat) (x : PN) (y : Tr) (h1 : L[i]? = some x) (h2 : l[i]? = some y) => (hk.tr i x y h1 h2).same (w' := w5) (fun g h hl => hgr2.block g hl (fun e => by have := Option.some.inj e; omega)) hgr2.size)
          have hlen := hk.len
          have hzq : gz ≠ bs + 1 := by
           have h1 := HV9.out.lt
           rcases hat with h2 | h2
           ·have h3 : gz = bs := by simpa [Value.ownBlock] using h2
            omega
           ·have h3 : gz = W.heap.size := by simpa [Value.ownBlock] using h2
            omega
          clear hown hgr hgr2 hat HC9 HN9 HV9 hk hcl
          have hlz : ([(⟨yk, yo, ys, yt, yn, yla, yln, ylc⟩ : PN)] ++ L).length = L.length + 1 := by rw [List.length_append]; simp only [List.length_cons, List.length_nil]; omega
          rw [hlz] at hcz ⊢
          obtain ⟨M, hM⟩ : ∃ M, M = L.length + 1 := ⟨_, rfl⟩
          rw [← hM] at hcz ⊢
          have HM := Lib.hid hM
          clear hlz hM
          generalize vals 3 = v3
          obtain ⟨cv, fv⟩ := HV8.out.facts
          have hvl := HV8.out.lt
          have hcr := HC8.out.res
          have hrl := hcr.lt
          obtain ⟨cr, fr⟩ := hcr.facts
          have HC := Lib.hid (HC8.out.store (show w.heap.size + 1 < bs + 1 by omega) 5 (.slice (some ⟨gz, 0, none⟩) M cz))
          have HR := Lib.hid HC.out.res
          clear hcr
          go_simp
          repeat (first | go_values | go_skip | go_guarded | go_step | go_upon)
          refine bodyPost_ret (ret_ndP rfl _ rfl rfl (blk6P HR.out _ _ _ _ _ _)) rfl ?_
          exact HC.out.fin ⟨9, 0, ⟨#[]⟩, ⟨#[]⟩, 0, some ⟨gz, 0, none⟩, M, cz⟩ _ (cons_kids (s := []) (t := []) (x := ⟨yk, yo, ys, yt, yn, yla, yln, ylc⟩) (L := L) (by rw [HM.out, hlen]; rfl) hlen hcz (.inr (by omega)) (hPz.same (heap_setCell_other w5 ⟨bs + 1, 5, none⟩ gz _ hzq) (by simp)) (HC.out.tr.mono fun g h _ => .inl h) (fun i x y h1 h2 => ((hKt.out i x y h1 h2).same (fun g h _ => heap_setCell_other w5 ⟨bs + 1, 5, none⟩ g _ (by show g ≠ bs + 1; omega)) (by simp)).mono fun g h _ => .inr (by omega))) _ _ _ _ _ _
       ·rw [hbt, if_pos rfl] at HFf
        rintro e W5 ⟨rfl, hp5, hl5⟩
        have HC5 := Lib.hid (HC4.out.call (show RsAt W5 p g cap long T (advR s2) from hp5) hl5)
        clear hp5 hl5 HC4
        obtain ⟨q1, hq1, hq2⟩ := Option.bind_eq_some_iff.1 HFf.out
        obtain ⟨m, s6⟩ := q1
        obtain ⟨q2, hq3, hq4⟩ := Option.map_eq_some_iff.1 hq2
        obtain ⟨m2, s8⟩ := q2
        obtain ⟨rfl, hfs⟩ := Prod.mk.inj hq4
        simp only at hfs
        subst hfs
        have KM := Lib.hid (HRec.out 5 5 (advR s2) m s6 W5 rfl (by decide) hq1 HC5.out.rs)
        have HQ3 := Lib.hid hq3
        clear hq1 hq2 hq3 hq4 HFf
        have hb5 := HC5.out.res.lt
        go_simp
        repeat (first | go_values | go_skip | go_guarded | go_step | go_upon)
        refine Calls.mono KM.out ?_
        rintro e W6 ⟨y1, rfl, hty, hpy, hly⟩
        have HC6 := Lib.hid (HC5.out.call hpy hly)
        have HT6 := Lib.hid (hty.mono (B := fun g => w.heap.size + 1 < g ∧ g < W6.heap.size) fun g h1 h2 => ⟨by omega, h2⟩)
        have hb6 := hly.size
        clear hty hpy hly HC5 KM
        obtain ⟨xk, xo, xs, xt, xn, xla, xln, xlc⟩ := y1
        simp only [PN.v]
        go_simp
        repeat (first | go_values | go_skip | go_guarded | go_step | go_upon)
        have hx7 : Ext W6 (W6.alloc (.cells #[.int .i64 xk, .int .i64 xo, .string xs, .string xt, .int .i64 xn, .slice xla xln xlc] 24)) := (Ext.refl W6).alloc _
        have HV7 := Lib.hid (Blk.new W6 #[.int .i64 xk, .int .i64 xo, .string xs, .string xt, .int .i64 xn, .slice xla xln xlc] 24 rfl)
        have HC7 := Lib.hid (HC6.out.ext hx7)
        have HT7 := Lib.hid (HT6.out.later (p := p) (fun g h => by have := HC6.out.hp; omega) (LeP.ofExt hx7))
        clear hx7 HC6 HT6
        generalize (W6.alloc (.cells #[.int .i64 xk, .int .i64 xo, .string xs, .string xt, .int .i64 xn, .slice xla xln xlc] 24)) = W7 at HV7 HC7 HT7 ⊢
        generalize W6.heap.size = b10 at HV7 HT7 hb6 ⊢
        refine Calls.mono (KW.out s6 ⟨#[65, 78, 68]⟩ W7 HC7.out.rs) ?_
        rw [show bsl ⟨#[65, 78, 68]⟩ = [65, 78, 68] from rfl]
        rintro e W8 ⟨rfl, hp8, hl8⟩
        have h10p : b10 ≠ p := by have := HC7.out.hp; omega
        have HC8 := Lib.hid (HC7.out.call hp8 hl8)
        have HV8 := Lib.hid (hl8.blk HV7.out h10p)
        have HT8 := Lib.hid (HT7.out.later (p := p) (fun g h => by have := HC7.out.hp; omega) hl8)
        clear hp8 hl8 HC7 HV7 HT7
        have KM := Lib.hid (fun W (hW : Ext W8 W) => HRec.out 5 5 (wantR T long s6 [65, 78, 68]) m2 s8 W rfl (by decide) HQ3.out (HC8.out.rs.ext hW))
        have HF := Lib.hid (show ∀ W, LeP p W8 W → (∀ j, W.cell? ⟨w.heap.size, j, none⟩ = (#[.int .i64 yk, .int .i64 yo, .string ys, .string yt, .int .i64 yn, .slice yla yln ylc] : Array Value)[j]?) ∧ (∀ j, W.cell? ⟨b10, j, none⟩ = (#[.int .i64 xk, .int .i64 xo, .string xs, .string xt, .int .i64 xn, .slice xla xln xlc] : Array Value)[j]?) from fun W hW => ⟨(hW.blk HC8.out.bx (by have := HC8.out.hp; omega)).cell, (hW.blk HV8.out h10p).cell⟩)
        have hb8 := HC8.out.res.lt
        have hv8 := HV8.out.lt
        have hp8 := HC8.out.rs.blk.lt
        have hp0 := HC8.out.hp
        go_simp
        repeat (first | go_values | go_skip | go_guarded | go_step | go_upon)
        refine wp_parZC 4 (leX) (leP p) (LeP.ofExt) [0, 1, 2, 3, 4, 5, 6, 7] 7 7 (fun
         | 0 => fun _ v _ => v = .int .i64 0
         | 1 => fun _ v _ => v = .agg #[.int .i64 yk, .int .i64 yo, .string ys, .string yt, .int .i64 yn, .slice yla yln ylc]
         | 2 => fun _ v _ => v = .agg #[.int .i64 xk, .int .i64 xo, .string xs, .string xt, .int .i64 xn, .slice xla xln xlc]
         | 3 => fun _ v _ => v = .pointer (some ⟨p, 0, none⟩)
         | 4 => fun _ => readR W8.heap.size p g cap long T m2 s8
         | 5 => fun _ => tripR W8.heap.size ⟨yk, yo, ys, yt, yn, yla, yln, ylc⟩ ⟨xk, xo, xs, xt, xn, xla, xln, xlc⟩ m2
         | 6 => fun _ => over3R W8.heap.size 10 0 ⟨yk, yo, ys, yt, yn, yla, yln, ylc⟩ ⟨xk, xo, xs, xt, xn, xla, xln, xlc⟩ m2
         | _ => fun _ _ _ => True) (fun
         | _ => undef) (by kernel_rfl) (by kernel_rfl) (by kernel_rfl) (by decide) ?_ ?_ ?_
        ·simp (maxSteps := 20000000) only [permL, permOp, List.filterMap_cons, List.filterMap_nil, List.getElem?_cons_succ, List.getElem?_cons_zero, Option.map_some, Option.map_none, List.take_succ_cons, List.take_zero, ParAllC, Act.put, List.setIfInBounds_toArray, List.set_cons_succ, List.set_cons_zero]
         refine ⟨?_, ?_, ?_, ?_, ?_, ?_, ?_, trivial⟩
         iterate 4
          next =>
           intro vals W hx hd
           rw [if_neg (by decide)] at hx
           have hW := HF.out W hx
           simp [PDepsG, pdeps, Region.binds, List.idxOf_cons] at hd
           refine ParObC.plain rfl ?_
           go_simp
           first | exact IsLe.refl (leX) _ | exact ⟨IsLe.refl (leX) _, fun _ _ => rfl⟩
         ·intro vals W hx hd
          rw [if_pos (by decide)] at hx
          simp [PDepsG, pdeps, Region.binds, List.idxOf_cons] at hd
          refine ParObC.call rfl ?_
          go_simp
          refine Calls.mono (KM.out W hx) ?_
          rintro e w9 ⟨y, rfl, hty, hpy, hly⟩
          have hs := hx.size
          exact ⟨_, rfl, hly, fun w3 h3 => ⟨y, rfl, (((hty.mono (B := fun g => W8.heap.size ≤ g ∧ g ≠ p) fun g h1 h2 => by omega).later (p := p) (fun g h => h.2) (LeP.ofExt h3)).mono fun g h _ => h.1), hpy.ext h3⟩⟩
         ·intro vals W hx hd
          rw [if_neg (by decide)] at hx
          have hW := HF.out W hx
          simp [PDepsG, pdeps, Region.binds, List.idxOf_cons] at hd
          refine ParObC.plain rfl ?_
          obtain ⟨h1, h2, y, hvy, hty, hpy⟩ := hd
          replace hvy : vals _ = .agg _ := hvy
          go_simp
          have hs := hx.size
          refine ⟨(Ext.refl _).alloc _, fun w3 h3 => ⟨_, y, rfl, by omega, ?_, ?_⟩⟩
          ·exact (pnAt_of [⟨yk, yo, ys, yt, yn, yla, yln, ylc⟩, ⟨xk, xo, xs, xt, xn, xla, xln, xlc⟩, y] (Blk.new W _ 24 rfl)).same (h3.old _ (by simp) (by omega)) h3.size
          ·exact hty.later (p := p) (fun g h => by omega) ((LeP.ofExt ((Ext.refl W).alloc _)).trans h3)
         ·intro vals W hx hd
          rw [if_neg (by decide)] at hx
          have hW := HF.out W hx
          simp [PDepsG, pdeps, Region.binds, List.idxOf_cons] at hd
          refine ParObC.plain rfl ?_
          obtain ⟨h0, gs, y, hv6, hge, hP, hTy⟩ := hd
          go_simp
          exact ⟨IsLe.refl leX _, fun w3 h3 => ⟨gs, y, rfl, hge, hP.same (h3.old _ hP.1 (by omega)) h3.size, hTy.later (p := p) (fun g h => by omega) h3⟩⟩
        ·simp (maxSteps := 20000000) only [permL, permOp, List.filterMap_cons, List.filterMap_nil, List.getElem?_cons_succ, List.getElem?_cons_zero, Option.map_some, Option.map_none, List.drop_succ_cons, List.drop_zero, List.take_succ_cons, List.take_zero, Nat.reduceSub, ZAll, ParEnd, Act.put, List.setIfInBounds_toArray, List.set_cons_succ, List.set_cons_zero]
        intro vals W hx hf hz
        simp (maxSteps := 20000000) only [permL, permOp, List.filterMap_cons, List.filterMap_nil, List.getElem?_cons_succ, List.getElem?_cons_zero, Option.map_some, Option.map_none, ParFactsG, List.take_succ_cons, List.take_zero, and_true, Nat.reduceAdd] at hf
        obtain ⟨f0, f1, f2, f3, f4, f5, f6⟩ := hf
        clear hz
        simp (maxSteps := 20000000) only [permL, permOp, List.filterMap_cons, List.filterMap_nil, List.getElem?_cons_succ, List.getElem?_cons_zero, Option.map_some, Option.map_none, List.drop_succ_cons, List.drop_zero, List.take_succ_cons, List.take_zero, Nat.reduceSub, ParEnd, ZTail, Act.put, List.setIfInBounds_toArray, List.set_cons_succ, List.set_cons_zero, Nat.reduceAdd, f0, f1, f2, f3]
        clear f0 f1 f2 f3
        obtain ⟨gs, y, hv6, hge, hP, hTy⟩ := f6
        obtain ⟨_, _, _, hPb⟩ := f4
        clear f5
        refine ⟨?_⟩
        have HC9 := Lib.hid (HC8.out.call hPb hx)
        have HT9 := Lib.hid (HT8.out.later (p := p) (fun g h => by omega) hx)
        refine yields_storeP (g := w.heap.size + 1) (cs := #[.int .i64 10, .int .i64 0, .string ⟨#[]⟩, .string ⟨#[]⟩, .int .i64 0, .slice (some ⟨gs, 0, none⟩) 3 3]) rfl (by simp [Act.eval]) (by simp [Act.eval, hv6]) HC9.out.res rfl rfl (by simp [Value.oneCell']) ?_
        have HR5 := Lib.hid (show Blk _ (w.heap.size + 1) #[.int .i64 10, .int .i64 0, .string ⟨#[]⟩, .string ⟨#[]⟩, .int .i64 0, .slice (some ⟨gs, 0, none⟩) 3 3] 24 from setRow_heap W (w.heap.size + 1) _ #[.int .i64 10, .int .i64 0, .string ⟨#[]⟩, .string ⟨#[]⟩, .int .i64 0, .slice (some ⟨gs, 0, none⟩) 3 3] _ _ HC9.out.res)
        have HFin := Lib.hid (HC9.out.finRow ⟨10, 0, ⟨#[]⟩, ⟨#[]⟩, 0, some ⟨gs, 0, none⟩, 3, 3⟩ (.mk 10 0 [] [] 0 [ta, m, m2]) (three_kids (s := []) (t := []) (Nat.le_refl _) (.inr (by omega)) hP (HC9.out.tr.mono fun g h _ => .inl h) (HT9.out.mono fun g h _ => .inr h.1) (hTy.mono fun g h _ => .inr (by omega))) #[.int .i64 10, .int .i64 0, .string ⟨#[]⟩, .string ⟨#[]⟩, .int .i64 0, .slice (some ⟨gs, 0, none⟩) 3 3])
        generalize W.setRow (w.heap.size + 1) #[.int .i64 10, .int .i64 0, .string ⟨#[]⟩, .string ⟨#[]⟩, .int .i64 0, .slice (some ⟨gs, 0, none⟩) 3 3] = Wr at HR5 HFin ⊢
        clear hx hTy hPb HF KM HC8 HC9 HT8 HT9 hP hv6 hb8
        generalize vals 4 = v4
        generalize vals 5 = v5
        generalize vals 6 = v6
        go_simp
        repeat (first | go_values | go_skip | go_guarded | go_step | go_upon)
        refine bodyPost_ret (ret_ndP rfl _ rfl rfl HR5.out) rfl ?_
        exact HFin.out
      ·rw [hlk, if_pos rfl] at HFf
       rintro e W4 ⟨rfl, hp4, hl4⟩
       have HC4 := Lib.hid (HC3.out.call (show RsAt W4 p g cap long T (advR s2) from hp4) hl4)
       clear hp4 hl4 HC3
       obtain ⟨q1, hq1, hq2⟩ := Option.bind_eq_some_iff.1 HFf.out
       obtain ⟨m, s4⟩ := q1
       have KM := Lib.hid (fun W (hW : Ext W4 W) => HRec.out 5 5 (advR s2) m s4 W rfl (by decide) hq1 (HC4.out.rs.ext hW))
       have HQ := Lib.hid hq2
       clear hq1 hq2 HFf
       simp only [NT0] at HQ
       have HF := Lib.hid (show ∀ W, LeP p W4 W → (∀ j, W.cell? ⟨w.heap.size, j, none⟩ = (#[.int .i64 yk, .int .i64 yo, .string ys, .string yt, .int .i64 yn, .slice yla yln ylc] : Array Value)[j]?) from fun W hW => (hW.blk HC4.out.bx (by have := HC4.out.hp; omega)).cell)
       have hb4 := HC4.out.res.lt
       have hg4 := HC4.out.rs.tok.1
       have hp0 := HC4.out.hp
       have hg0 := HC4.out.hg
       have hAA := Lib.hid HC4.out.hA
       go_simp
       repeat (first | go_values | go_skip | go_guarded | go_step | go_upon)
       refine wp_parZD 3 6 (readRD W4.heap.size p g cap long T m s4) (by decide) (LeP.size) (leX) (leP p) (LeP.ofExt) [0, 1, 2, 3, 4, 5, 6, 7] 7 7 (fun
        | 0 => fun _ v _ => v = .int .i64 0
        | 1 => fun _ v _ => v = .agg #[.int .i64 yk, .int .i64 yo, .string ys, .string yt, .int .i64 yn, .slice yla yln ylc]
        | 2 => fun _ v _ => v = .pointer (some ⟨p, 0, none⟩)
        | 3 => fun _ v w => ∃ lo hi, hi ≤ w.heap.size ∧ (readRD W4.heap.size p g cap long T m s4) lo hi v w
        | 4 => pairD W4.heap.size 1 ⟨yk, yo, ys, yt, yn, yla, yln, ylc⟩ m
        | 5 => builtD 1 0 8 0 ⟨#[]⟩ ⟨#[]⟩ 0
        | 6 => fun _ => allocD W4.heap.size
        | _ => fun _ _ _ => True) (fun
        | _ => undef) (by kernel_rfl) (by kernel_rfl) (by kernel_rfl) (by decide) (by decide) (fun _ _ _ lo hi h1 h2 => ⟨lo, hi, h1, h2⟩) ?_ ?_ ?_
       ·simp (maxSteps := 20000000) only [permL, permOp, List.filterMap_cons, List.filterMap_nil, List.getElem?_cons_succ, List.getElem?_cons_zero, Option.map_some, Option.map_none, List.take_succ_cons, List.take_zero, ParAllD, Act.put, List.setIfInBounds_toArray, List.set_cons_succ, List.set_cons_zero]
        refine ⟨?_, ?_, ?_, ?_, ?_, ?_, ?_, trivial⟩
        iterate 3
         next =>
          intro vals W hx hd
          rw [if_neg (by decide)] at hx
          have hW := HF.out W hx
          simp [PDepsG, pdeps, Region.binds, List.idxOf_cons] at hd
          refine ParObD.plain rfl ?_
          go_simp
          first | exact IsLe.refl (leX) _ | exact ⟨IsLe.refl (leX) _, fun _ _ => rfl⟩
        ·intro vals W hx hd
         rw [if_pos (by decide)] at hx
         simp [PDepsG, pdeps, Region.binds, List.idxOf_cons] at hd
         refine ParObD.call rfl ?_
         go_simp
         refine Calls.mono (KM.out W hx) ?_
         rintro e w9 ⟨y, rfl, hty, hpy, hly⟩
         have hs := hx.size
         exact ⟨_, rfl, hly, fun w3 h3 => ⟨hs, y, rfl, (hty.mono (B := fun g => W.heap.size ≤ g ∧ g < w9.heap.size) fun g h1 h2 => ⟨h1, h2⟩).later (p := p) (fun g h => by omega) (LeP.ofExt h3), hpy.ext h3⟩⟩
        ·intro vals W hx hd
         rw [if_neg (by decide)] at hx
         have hW := HF.out W hx
         simp [PDepsG, pdeps, Region.binds, List.idxOf_cons] at hd
         refine ParObD.plain rfl ?_
         obtain ⟨h1, lo, hi, hhi, hlo, y, hvy, hty, hpy⟩ := hd
         replace hvy : vals _ = .agg _ := hvy
         have hs := hx.size
         go_simp
         refine ⟨(Ext.refl _).alloc _, fun w3 h3 => ⟨W.heap.size, y, ?_, rfl, ?_, hs, ?_⟩⟩
         ·simp [dv, ldeps, pdeps, Region.binds, List.idxOf_cons, hvy, PN.v]
         ·exact h3.blk (Blk.new W _ 24 rfl) (by omega)
         ·exact (hty.mono (B := fun g => W4.heap.size ≤ g ∧ g < W.heap.size) fun g h1 h2 => by omega).later (p := p) (fun g h => by omega) ((LeP.ofExt ((Ext.refl W).alloc _)).trans h3)
        ·intro vals W hx hd
         rw [if_neg (by decide)] at hx
         have hW := HF.out W hx
         simp [PDepsG, pdeps, Region.binds, List.idxOf_cons] at hd
         refine ParObD.plain rfl ?_
         obtain ⟨h0, gs, y, _, hv4, _⟩ := hd
         go_simp
         exact ⟨IsLe.refl leX _, fun w3 h3 => ⟨.slice (some ⟨gs, 0, none⟩) 2 2, by simp [dv, ldeps, pdeps, Region.binds, List.idxOf_cons, hv4], rfl, rfl⟩⟩
        ·intro vals W hx hd
         rw [if_neg (by decide)] at hx
         have hW := HF.out W hx
         simp [PDepsG, pdeps, Region.binds, List.idxOf_cons] at hd
         refine ParObD.made rfl ?_
         have hs := hx.size
         go_simp
         exact ⟨⟨(Ext.refl _).alloc _, fun w3 h3 => ⟨W.heap.size, rfl, hs, h3.blk (Blk.new W _ _ rfl) (by omega)⟩⟩, ⟨W.heap.size, rfl, Nat.le_refl _, by simp⟩⟩
       ·simp (maxSteps := 20000000) only [permL, permOp, List.filterMap_cons, List.filterMap_nil, List.getElem?_cons_succ, List.getElem?_cons_zero, Option.map_some, Option.map_none, List.drop_succ_cons, List.drop_zero, List.take_succ_cons, List.take_zero, Nat.reduceSub, ZAll, ParEnd, Act.put, List.setIfInBounds_toArray, List.set_cons_succ, List.set_cons_zero]
       intro vals W hx hap hf hz
       obtain ⟨lo, hi, gq, hRc, hhi, hvq, hgq, hap⟩ := hap
       simp (maxSteps := 20000000) only [permL, permOp, List.filterMap_cons, List.filterMap_nil, List.getElem?_cons_succ, List.getElem?_cons_zero, Option.map_some, Option.map_none, ParFactsG, List.take_succ_cons, List.take_zero, and_true, Nat.reduceAdd] at hf
       obtain ⟨f0, f1, f2, f3, f4, f5, f6⟩ := hf
       clear hz
       simp (maxSteps := 20000000) only [permL, permOp, List.filterMap_cons, List.filterMap_nil, List.getElem?_cons_succ, List.getElem?_cons_zero, Option.map_some, Option.map_none, List.drop_succ_cons, List.drop_zero, List.take_succ_cons, List.take_zero, Nat.reduceSub, ParEnd, ZTail, Act.put, List.setIfInBounds_toArray, List.set_cons_succ, List.set_cons_zero, Nat.reduceAdd, f0, f1, f2]
       clear f0 f1 f2
       obtain ⟨gs, y, hds4, hv4, hB4, hge4, hT4⟩ := f4
       simp [dv, ldeps, pdeps, Region.binds, List.idxOf_cons] at hds4
       obtain ⟨u, hds5, hv5, _⟩ := f5
       simp [dv, ldeps, pdeps, Region.binds, List.idxOf_cons] at hds5
       obtain ⟨ga, hva, hgea, hBa⟩ := f6
       obtain rfl : gq = ga := by
        have := hvq.symm.trans hva
        simpa using this
       obtain ⟨hlo, y2, hv3, hT3, hP3⟩ := hRc
       obtain rfl : y = y2 := PN.v_inj (hds4.symm.trans hv3)
       have hTy := hT3.and hT4
       have hne : gs ≠ gq := by
        intro e
        subst e
        have := hB4.symm.trans hBa
        simp [PN.cells, cellsP] at this
       have hv5b : vals 5 = .agg #[.int .i64 8, .int .i64 0, .string ⟨#[]⟩, .string ⟨#[]⟩, .int .i64 0, .slice (some ⟨gs, 0, none⟩) 2 2] := by rw [hv5, ← hds5, hv4]
       have hqp : gq ≠ p := by omega
       have hqb : w.heap.size + 1 < gq := by omega
       have hgb : w.heap.size + 1 < gs := by omega
       refine ⟨?_⟩
       refine yields_storeP (g := gq) (cs := #[.int .i64 8, .int .i64 0, .string ⟨#[]⟩, .string ⟨#[]⟩, .int .i64 0, .slice (some ⟨gs, 0, none⟩) 2 2]) rfl (by simp [Act.eval, hvq]) (by simp [Act.eval, hv5b]) hBa rfl rfl (by simp [Value.oneCell']) ?_
       have HC5 := Lib.hid ((HC4.out.call hP3 hx).row hqb #[.int .i64 8, .int .i64 0, .string ⟨#[]⟩, .string ⟨#[]⟩, .int .i64 0, .slice (some ⟨gs, 0, none⟩) 2 2])
       have HV5 := Lib.hid (show Blk _ gq #[.int .i64 8, .int .i64 0, .string ⟨#[]⟩, .string ⟨#[]⟩, .int .i64 0, .slice (some ⟨gs, 0, none⟩) 2 2] 24 from setRow_heap W gq _ #[.int .i64 8, .int .i64 0, .string ⟨#[]⟩, .string ⟨#[]⟩, .int .i64 0, .slice (some ⟨gs, 0, none⟩) 2 2] _ _ hBa)
       have HN5 := Lib.hid (show Blk (W.setRow gq #[.int .i64 8, .int .i64 0, .string ⟨#[]⟩, .string ⟨#[]⟩, .int .i64 0, .slice (some ⟨gs, 0, none⟩) 2 2]) gs (cellsP [⟨yk, yo, ys, yt, yn, yla, yln, ylc⟩, y]).toArray 24 from (setRow_other W gq gs _ hne).trans hB4)
       have HTy := Lib.hid ((hTy.mono (B := fun g => g ≠ gq ∧ g ≠ gs ∧ w.heap.size + 1 < g) fun g h1 _ => by
        obtain ⟨⟨a1, a2⟩, a3, a4⟩ := h1
        omega).row (b := gq) (fun g h => h.1) #[.int .i64 8, .int .i64 0, .string ⟨#[]⟩, .string ⟨#[]⟩, .int .i64 0, .slice (some ⟨gs, 0, none⟩) 2 2])
       generalize W.setRow gq #[.int .i64 8, .int .i64 0, .string ⟨#[]⟩, .string ⟨#[]⟩, .int .i64 0, .slice (some ⟨gs, 0, none⟩) 2 2] = W5 at HC5 HV5 HN5 HTy ⊢
       clear hx hT3 hT4 hTy hP3 hB4 hBa HF HC4 KM hv4 hv5 hv5b hds4 hds5 hva hhi hgq hap hlo f3
       generalize vals 3 = v3
       generalize vals 4 = v4
       generalize vals 5 = v5
       rw [hvq]
       clear hvq
       go_simp
       repeat (first | go_values | go_skip | go_guarded | go_step | go_upon)
       refine Calls.mono (KT.out s4 ⟨#[69, 83, 67, 65, 80, 69]⟩ W5 HC5.out.rs) ?_
       rw [show bsl ⟨#[69, 83, 67, 65, 80, 69]⟩ = [69, 83, 67, 65, 80, 69] from rfl]
       cases hes : takeB T s4 [69, 83, 67, 65, 80, 69]
       ·rw [hes, if_neg (by decide)] at HQ
        obtain ⟨rfl, hfs⟩ := Prod.mk.inj (Option.some.inj HQ.out)
        subst hfs
        rintro e W6 ⟨rfl, hp6, hl6⟩
        have HC := Lib.hid (HC5.out.call (show RsAt W6 p g cap long T s4 from hp6) hl6)
        have hgp : gs ≠ p := by omega
        have HV6 := Lib.hid (hl6.blk HV5.out hqp)
        have HN6 := Lib.hid (hl6.blk HN5.out hgp)
        have HT6 := Lib.hid (HTy.out.later (p := p) (fun g h => by omega) hl6)
        clear hp6 hl6 HC5 HV5 HN5 HTy
        obtain ⟨cv, fv⟩ := HV6.out.facts
        have hvl := HV6.out.lt
        have hcb := HC.out.bx
        have hcr := HC.out.res
        simp only [PN.cells] at hcb
        have HRr := Lib.hid hcr
        obtain ⟨cb, fb⟩ := hcb.facts
        obtain ⟨cr, fr⟩ := hcr.facts
        have hbl := hcb.lt
        have hrl := hcr.lt
        clear hcb hcr
        go_simp
        repeat (first | go_values | go_skip | go_guarded | go_step | go_upon)
        refine bodyPost_ret (ret_ndP rfl _ rfl rfl (blk6P HRr.out _ _ _ _ _ _)) rfl ?_
        exact HC.out.fin ⟨8, 0, ⟨#[]⟩, ⟨#[]⟩, 0, some ⟨gs, 0, none⟩, 2, 2⟩ _ (two_kids (s := []) (t := []) (Nat.le_refl _) (.inr hgb) (pnAt_of [⟨yk, yo, ys, yt, yn, yla, yln, ylc⟩, y] HN6.out) (HC.out.tr.mono fun g h _ => .inl h) (HT6.out.mono fun g h _ => .inr h.2.2)) _ _ _ _ _ _
       ·rw [hes, if_pos rfl] at HQ
        rintro e W6 ⟨rfl, hp6, hl6⟩
        have HC6 := Lib.hid (HC5.out.call (show RsAt W6 p g cap long T (advR s4) from hp6) hl6)
        have hgp : gs ≠ p := by omega
        have HV6 := Lib.hid (hl6.blk HV5.out hqp)
        have HN6 := Lib.hid (hl6.blk HN5.out hgp)
        have HT6 := Lib.hid (HTy.out.later (p := p) (fun g h => by omega) hl6)
        clear hp6 hl6 HC5 HV5 HN5 HTy
        obtain ⟨q2, hq1, hq2⟩ := Option.map_eq_some_iff.1 HQ.out
        obtain ⟨m3, s6⟩ := q2
        obtain ⟨rfl, hfs⟩ := Prod.mk.inj hq2
        subst hfs
        have KM := Lib.hid (fun W (hW : Ext W6 W) => HRec.out 5 5 (advR s4) m3 s6 W rfl (by decide) hq1 (HC6.out.rs.ext hW))
        clear hq1 hq2 HQ
        have HF := Lib.hid (show ∀ W, LeP p W6 W → (∀ j, W.cell? ⟨gq, j, none⟩ = (#[.int .i64 8, .int .i64 0, .string ⟨#[]⟩, .string ⟨#[]⟩, .int .i64 0, .slice (some ⟨gs, 0, none⟩) 2 2] : Array Value)[j]?) from fun W hW => (hW.blk HV6.out hqp).cell)
        have hq6 := HV6.out.lt
        have hg6 := HN6.out.lt
        have hp6 := HC6.out.rs.blk.lt
        go_simp
        repeat (first | go_values | go_skip | go_guarded | go_step | go_upon)
        refine wp_parZC 3 (leX) (leP p) (LeP.ofExt) [0, 1, 2, 3, 4, 5, 6, 7] 5 5 (fun
         | 0 => fun _ v _ => v = .pointer (some ⟨gq, 5, none⟩)
         | 1 => fun _ v _ => v = .slice (some ⟨gs, 0, none⟩) 2 2
         | 2 => fun _ v _ => v = .pointer (some ⟨p, 0, none⟩)
         | 3 => fun _ => readR W6.heap.size p g cap long T m3 s6
         | 4 => fun _ => oneR W6.heap.size m3
         | _ => fun _ _ _ => True) (fun
         | _ => undef) (by kernel_rfl) (by kernel_rfl) (by kernel_rfl) (by decide) ?_ ?_ ?_
        ·simp (maxSteps := 20000000) only [permL, permOp, List.filterMap_cons, List.filterMap_nil, List.getElem?_cons_succ, List.getElem?_cons_zero, Option.map_some, Option.map_none, List.take_succ_cons, List.take_zero, ParAllC, Act.put, List.setIfInBounds_toArray, List.set_cons_succ, List.set_cons_zero]
         refine ⟨?_, ?_, ?_, ?_, ?_, trivial⟩
         iterate 3
          next =>
           intro vals W hx hd
           rw [if_neg (by decide)] at hx
           have hW := HF.out W hx
           simp [PDepsG, pdeps, Region.binds, List.idxOf_cons] at hd
           refine ParObC.plain rfl ?_
           go_simp
           first | exact IsLe.refl (leX) _ | exact ⟨IsLe.refl (leX) _, fun _ _ => rfl⟩
         ·intro vals W hx hd
          rw [if_pos (by decide)] at hx
          simp [PDepsG, pdeps, Region.binds, List.idxOf_cons] at hd
          refine ParObC.call rfl ?_
          go_simp
          refine Calls.mono (KM.out W hx) ?_
          rintro e w9 ⟨y, rfl, hty, hpy, hly⟩
          have hs := hx.size
          exact ⟨_, rfl, hly, fun w3 h3 => ⟨y, rfl, (((hty.mono (B := fun g => W6.heap.size ≤ g ∧ g ≠ p) fun g h1 h2 => by omega).later (p := p) (fun g h => h.2) (LeP.ofExt h3)).mono fun g h _ => h.1), hpy.ext h3⟩⟩
         ·intro vals W hx hd
          rw [if_neg (by decide)] at hx
          have hW := HF.out W hx
          simp [PDepsG, pdeps, Region.binds, List.idxOf_cons] at hd
          refine ParObC.plain rfl ?_
          obtain ⟨y, hvy, hty, hpy⟩ := hd
          replace hvy : vals _ = .agg _ := hvy
          go_simp
          have hs := hx.size
          refine ⟨(Ext.refl _).alloc _, fun w3 h3 => ⟨W.heap.size, y, rfl, by omega, ?_, ?_⟩⟩
          ·exact h3.blk (Blk.new W _ 24 rfl) (by omega)
          ·exact hty.later (p := p) (fun g h => by omega) ((LeP.ofExt ((Ext.refl W).alloc _)).trans h3)
        ·simp (maxSteps := 20000000) only [permL, permOp, List.filterMap_cons, List.filterMap_nil, List.getElem?_cons_succ, List.getElem?_cons_zero, Option.map_some, Option.map_none, List.drop_succ_cons, List.drop_zero, List.take_succ_cons, List.take_zero, Nat.reduceSub, ZAll, ParEnd, Act.put, List.setIfInBounds_toArray, List.set_cons_succ, List.set_cons_zero]
        intro vals W hx hf hz
        simp (maxSteps := 20000000) only [permL, permOp, List.filterMap_cons, List.filterMap_nil, List.getElem?_cons_succ, List.getElem?_cons_zero, Option.map_some, Option.map_none, ParFactsG, List.take_succ_cons, List.take_zero, and_true, Nat.reduceAdd] at hf
        obtain ⟨f0, f1, f2, f3, f4⟩ := hf
        clear hz
        simp (maxSteps := 20000000) only [permL, permOp, List.filterMap_cons, List.filterMap_nil, List.getElem?_cons_succ, List.getElem?_cons_zero, Option.map_some, Option.map_none, List.drop_succ_cons, List.drop_zero, List.take_succ_cons, List.take_zero, Nat.reduceSub, ParEnd, ZTail, Act.put, List.setIfInBounds_toArray, List.set_cons_succ, List.set_cons_zero, Nat.reduceAdd, f0, f1, f2]
        clear f0 f1 f2
        obtain ⟨g1, y1, hv4, hge1, hB1, hT1⟩ := f4
        obtain ⟨_, _, _, hPb⟩ := f3
        have HC7 := Lib.hid (HC6.out.call hPb hx)
        have HV7 := Lib.hid (hx.blk HV6.out hqp)
        have HN7 := Lib.hid (hx.blk HN6.out hgp)
        have HT7 := Lib.hid (HT6.out.later (p := p) (fun g h => by omega) hx)
        have hs7 := hx.size
        refine ⟨?_⟩
        refine yields_pushN rfl (w.heap.size + 2) _ [⟨yk, yo, ys, yt, yn, yla, yln, ylc⟩, y] (by simp [Act.eval]) (own_blk [⟨yk, yo, ys, yt, yn, yla, yln, ylc⟩, y] (show w.heap.size + 2 ≤ gs by omega) HN7.out (by simp)) g1 1 [y1] (by simp [Act.eval, hv4]) (fun j u hj => by rw [hB1.cell]; simpa [cellsP] using hj) (by simp) (by have := HN7.out.lt; omega) ?_
        intro v5 w5 hown hgr hat
        obtain ⟨gz, cz, rfl, hgz, hcz, hPz⟩ := pnAt_own (L := [⟨yk, yo, ys, yt, yn, yla, yln, ylc⟩, y] ++ [y1]) hown (by simp)
        simp only [List.cons_append, List.nil_append, List.length_cons, List.length_nil] at hcz hPz hown
        have hgr2 : World.grownBy W w5 (some gs) := hgr
        have HC8 := Lib.hid (HC7.out.grown hgr2 hgb)
        have HV8 := Lib.hid (show Blk w5 gq _ _ from (hgr2.block gq HV7.out.lt (fun e => hne (Option.some.inj e).symm)).trans HV7.out)
        have HT8 := Lib.hid (HT7.out.same (fun g h hl => hgr2.block g hl (fun e => h.2.1 (Option.some.inj e))) hgr2.size)
        have HT8b := Lib.hid (hT1.same (fun g h hl => hgr2.block g hl (fun e => by have := Option.some.inj e; omega)) hgr2.size)
        have hzq : gz ≠ gq := by
         have h1 := HV7.out.lt
         rcases hat with h2 | h2
         ·have h3 : gz = gs := by simpa [Value.ownBlock] using h2
          omega
         ·have h3 : gz = W.heap.size := by simpa [Value.ownBlock] using h2
          omega
        clear hown hgr hgr2 hat HC6 HV6 HN6 HT6 HC7 HV7 HN7 HT7 hx hT1 hB1 hPb HF KM
        generalize vals 3 = v3
        generalize vals 4 = v4
        obtain ⟨cv, fv⟩ := HV8.out.facts
        have hvl := HV8.out.lt
        have hcb := HC8.out.bx
        have hcr := HC8.out.res
        have hbl := hcb.lt
        have hrl := hcr.lt
        obtain ⟨cr, fr⟩ := hcr.facts
        have HC := Lib.hid (HC8.out.store hqb 5 (.slice (some ⟨gz, 0, none⟩) 3 cz))
        have HR := Lib.hid HC.out.res
        clear hcb hcr
        go_simp
        repeat (first | go_values | go_skip | go_guarded | go_step | go_upon)
        refine bodyPost_ret (ret_ndP rfl _ rfl rfl (blk6P HR.out _ _ _ _ _ _)) rfl ?_
        exact HC.out.fin ⟨8, 0, ⟨#[]⟩, ⟨#[]⟩, 0, some ⟨gz, 0, none⟩, 3, cz⟩ _ (three_kids (s := []) (t := []) hcz (.inr (by omega)) (hPz.same (heap_setCell_other w5 ⟨gq, 5, none⟩ gz _ hzq) (by simp)) (HC.out.tr.mono fun g h _ => .inl h) ((HT8.out.same (fun g h _ => heap_setCell_other w5 ⟨gq, 5, none⟩ g _ h.1) (by simp)).mono fun g h _ => .inr h.2.2) ((HT8b.out.same (fun g h _ => heap_setCell_other w5 ⟨gq, 5, none⟩ g _ (by show g ≠ gq; omega)) (by simp)).mono fun g h _ => .inr (by omega))) _ _ _ _ _ _
     ·rw [hnt] at HFf
      rintro e W2 ⟨rfl, hx2⟩
      have HC2b := Lib.hid (HC2.out.ext hx2)
      clear hx2 HC2
      have hil := isR_lt hnt
      have HFf := Lib.hid (show wordsR rec T long f ta true (advR s) = some (r, s') from HFf.out)
      obtain ⟨i, deep, at_, er⟩ := s
      simp only at hil he
      subst he
      obtain ⟨⟨c1, c2, c4⟩, f1, f4, hpl⟩ := HC2b.out.rs.cells
      simp only at c1 c2 c4
      have hfew := HC2b.out.rs.few
      have hsum := IntWalk.i64_in ((i : Int) + 1) (by omega)
      go_simp
      repeat (first | go_values | go_skip | go_guarded | go_step | go_upon)
      have HC3 := Lib.hid (show Cst w A ⟨yk, yo, ys, yt, yn, yla, yln, ylc⟩ ta p g cap long T (advR ⟨i, deep, at_, 0⟩) (W2.setCell ⟨p, 1, none⟩ (.int .i64 ((i : Int) + 1))) from HC2b.out.at (i + 1) hil)
      clear c1 c2 c4 f1 f4 hpl HC2b hsum
      generalize W2.setCell ⟨p, 1, none⟩ (.int .i64 ((i : Int) + 1)) = W3 at HC3 ⊢
      have he2 : (advR ⟨i, deep, at_, 0⟩).e = 0 := rfl
      generalize (advR ⟨i, deep, at_, 0⟩) = s2 at HFf HC3 he2
      clear hnt
      refine Calls.mono (KT.out s2 ⟨#[76, 73, 75, 69]⟩ W3 HC3.out.rs) ?_
      rw [show bsl ⟨#[76, 73, 75, 69]⟩ = [76, 73, 75, 69] from rfl]
      unfold wordsR at HFf
      cases hlk : takeB T s2 [76, 73, 75, 69]
      ·rw [hlk, if_neg (by decide)] at HFf
       rintro e W4 ⟨rfl, hp4, hl4⟩
       have HC4 := Lib.hid (HC3.out.call (show RsAt W4 p g cap long T s2 from hp4) hl4)
       clear hp4 hl4 HC3
       go_simp
       repeat (first | go_values | go_skip | go_guarded | go_step | go_upon)
       refine Calls.mono (KT.out s2 ⟨#[66, 69, 84, 87, 69, 69, 78]⟩ W4 HC4.out.rs) ?_
       rw [show bsl ⟨#[66, 69, 84, 87, 69, 69, 78]⟩ = [66, 69, 84, 87, 69, 69, 78] from rfl]
       cases hbt : takeB T s2 [66, 69, 84, 87, 69, 69, 78]
       ·rw [hbt, if_neg (by decide)] at HFf
        rintro e W5 ⟨rfl, hp5, hl5⟩
        have HC5 := Lib.hid (HC4.out.call (show RsAt W5 p g cap long T s2 from hp5) hl5)
        clear hp5 hl5 HC4
        go_simp
        repeat (first | go_values | go_skip | go_guarded | go_step | go_upon)
        refine Calls.mono (KI.out s2 ⟨#[73, 78]⟩ W5 HC5.out.rs) ?_
        rw [show bsl ⟨#[73, 78]⟩ = [73, 78] from rfl]
        cases hin : isR T s2 [73, 78]
        ·rw [hin, if_neg (by decide)] at HFf
         rintro e W6 ⟨rfl, hx6⟩
         have HC6 := Lib.hid (HC5.out.ext hx6)
         clear hx6 HC5
         rw [if_pos rfl] at HFf
         obtain ⟨rfl, hfs⟩ := Prod.mk.inj (Option.some.inj HFf.out)
         have HFs := Lib.hid hfs
         clear hfs HFf
         go_simp
         repeat (first | go_values | go_skip | go_guarded | go_step | go_upon)
         refine Calls.mono (KF.out s2 W6 HC6.out.rs) ?_
         rw [HFs.out]
         rintro e W7 ⟨rfl, hp7, hl7⟩
         have HC := Lib.hid (HC6.out.call hp7 hl7)
         clear hp7 hl7 HC6
         have hcb := HC.out.bx
         have hcr := HC.out.res
         simp only [PN.cells] at hcb
         have HRr := Lib.hid hcr
         obtain ⟨cb, fb⟩ := hcb.facts
         obtain ⟨cr, fr⟩ := hcr.facts
         have hbl := hcb.lt
         have hrl := hcr.lt
         clear hcb hcr
         go_simp
         repeat (first | go_values | go_skip | go_guarded | go_step | go_upon)
         refine bodyPost_ret (ret_ndP rfl _ rfl rfl (blk6P HRr.out _ _ _ _ _ _)) rfl ?_
         exact HC.out.fin ⟨yk, yo, ys, yt, yn, yla, yln, ylc⟩ _ (HC.out.tr.mono fun g h _ => .inl h) _ _ _ _ _ _
        ·rw [hin, if_pos rfl] at HFf
         rintro e W6 ⟨rfl, hx6⟩
         have HC6 := Lib.hid (HC5.out.ext hx6)
         clear hx6 HC5
         have hlt := isR_lt hin
         obtain ⟨q1, hq1, hq2⟩ := Option.map_eq_some_iff.1 HFf.out
         obtain ⟨l, s4⟩ := q1
         obtain ⟨rfl, hfs⟩ := Prod.mk.inj hq2
         simp only at hfs
         subst hfs
         obtain ⟨⟨c1, c2, c4⟩, f1, f4, hpl⟩ := HC6.out.rs.cells
         have hfew := HC6.out.rs.few
         have hcb := HC6.out.bx
         simp only [PN.cells] at hcb
         obtain ⟨cb, fb⟩ := hcb.facts
         have hbl := hcb.lt
         have hrl := HC6.out.res.lt
         have hp0 := HC6.out.hp
         have hsum := IntWalk.i64_in ((s2.i : Int) + 1) (by omega)
         clear hcb hq2 HFf
         have hwp : w.heap.size ≠ p := by omega
         go_simp
         repeat (first | go_values | go_skip | go_guarded | go_step | go_upon)
         have HC7 := Lib.hid (show Cst w A ⟨yk, yo, ys, yt, yn, yla, yln, ylc⟩ ta p g cap long T (advR s2) (W6.setCell ⟨p, 1, none⟩ (.int .i64 ((s2.i : Int) + 1))) from HC6.out.at (s2.i + 1) hlt)
         have hrl7 := HC7.out.res.lt
         clear c1 c2 c4 f1 f4 hpl HC6 hsum cb fb hbl hrl
         have hx8 : Ext (W6.setCell ⟨p, 1, none⟩ (.int .i64 ((s2.i : Int) + 1))) (((W6.setCell ⟨p, 1, none⟩ (.int .i64 ((s2.i : Int) + 1))).alloc (.cells #[.int .i64 yk, .int .i64 yo, .string ys, .string yt, .int .i64 yn, .slice yla yln ylc] 24)).alloc (.cells #[.int .i64 9, .int .i64 0, .string ⟨#[]⟩, .string ⟨#[]⟩, .int .i64 1, .slice (some ⟨W6.heap.size, 0, none⟩) 1 1] 24)) := ((Ext.refl _).alloc _).alloc _
         have HC8 := Lib.hid (HC7.out.ext hx8)
         have HN8 := Lib.hid (show Blk (((W6.setCell ⟨p, 1, none⟩ (.int .i64 ((s2.i : Int) + 1))).alloc (.cells #[.int .i64 yk, .int .i64 yo, .string ys, .string yt, .int .i64 yn, .slice yla yln ylc] 24)).alloc (.cells #[.int .i64 9, .int .i64 0, .string ⟨#[]⟩, .string ⟨#[]⟩, .int .i64 1, .slice (some ⟨W6.heap.size, 0, none⟩) 1 1] 24)) W6.heap.size #[.int .i64 yk, .int .i64 yo, .string ys, .string yt, .int .i64 yn, .slice yla yln ylc] 24 from (show Blk _ W6.heap.size _ _ from by simpa using Blk.new (W6.setCell ⟨p, 1, none⟩ (.int .i64 ((s2.i : Int) + 1))) #[.int .i64 yk, .int .i64 yo, .string ys, .string yt, .int .i64 yn, .slice yla yln ylc] 24 rfl).keep ((Ext.refl _).alloc _))
         have HV8 := Lib.hid (show Blk (((W6.setCell ⟨p, 1, none⟩ (.int .i64 ((s2.i : Int) + 1))).alloc (.cells #[.int .i64 yk, .int .i64 yo, .string ys, .string yt, .int .i64 yn, .slice yla yln ylc] 24)).alloc (.cells #[.int .i64 9, .int .i64 0, .string ⟨#[]⟩, .string ⟨#[]⟩, .int .i64 1, .slice (some ⟨W6.heap.size, 0, none⟩) 1 1] 24)) (W6.heap.size + 1) #[.int .i64 9, .int .i64 0, .string ⟨#[]⟩, .string ⟨#[]⟩, .int .i64 1, .slice (some ⟨W6.heap.size, 0, none⟩) 1 1] 24 from Blk.new ((W6.setCell ⟨p, 1, none⟩ (.int .i64 ((s2.i : Int) + 1))).alloc (.cells #[.int .i64 yk, .int .i64 yo, .string ys, .string yt, .int .i64 yn, .slice yla yln ylc] 24)) _ _ (by simp))
         have hs8 : (((W6.setCell ⟨p, 1, none⟩ (.int .i64 ((s2.i : Int) + 1))).alloc (.cells #[.int .i64 yk, .int .i64 yo, .string ys, .string yt, .int .i64 yn, .slice yla yln ylc] 24)).alloc (.cells #[.int .i64 9, .int .i64 0, .string ⟨#[]⟩, .string ⟨#[]⟩, .int .i64 1, .slice (some ⟨W6.heap.size, 0, none⟩) 1 1] 24)).heap.size = W6.heap.size + 1 + 1 := by simp
         rw [World.size_setCell] at hrl7
         clear hx8 HC7
         generalize (((W6.setCell ⟨p, 1, none⟩ (.int .i64 ((s2.i : Int) + 1))).alloc (.cells #[.int .i64 yk, .int .i64 yo, .string ys, .string yt, .int .i64 yn, .slice yla yln ylc] 24)).alloc (.cells #[.int .i64 9, .int .i64 0, .string ⟨#[]⟩, .string ⟨#[]⟩, .int .i64 1, .slice (some ⟨W6.heap.size, 0, none⟩) 1 1] 24)) = W8 at HC8 HN8 HV8 hs8 ⊢
         generalize W6.heap.size = bs at HN8 HV8 hs8 hrl7 ⊢
         have hbp : bs ≠ p ∧ bs + 1 ≠ p := by omega
         have HS8 := Lib.hid hs8
         clear hs8
         have hll := len_list HInc.out T long f _ l s4 hq1
         have hp8 := HC8.out.rs.blk.lt
         have KM := Lib.hid (fun W (hW : Ext W8 W) => KL.out (advR s2) l s4 W hq1 (HC8.out.rs.ext hW))
         clear hq1
         have HF := Lib.hid (show ∀ W, LeP p W8 W → (∀ j, W.cell? ⟨bs + 1, j, none⟩ = (#[.int .i64 9, .int .i64 0, .string ⟨#[]⟩, .string ⟨#[]⟩, .int .i64 1, .slice (some ⟨bs, 0, none⟩) 1 1] : Array Value)[j]?) from fun W hW => (hW.blk HV8.out hbp.2).cell)
         refine wp_parZC 3 (leX) (leP p) (LeP.ofExt) [0, 1, 2, 3, 4, 5, 6] 4 4 (fun
          | 0 => fun _ v _ => v = .pointer (some ⟨bs + 1, 5, none⟩)
          | 1 => fun _ v _ => v = .slice (some ⟨bs, 0, none⟩) 1 1
          | 2 => fun _ v _ => v = .pointer (some ⟨p, 0, none⟩)
          | 3 => fun _ => listRR W8.heap.size p g cap long T l s4
          | _ => fun _ _ _ => True) (fun
          | _ => undef) (by kernel_rfl) (by kernel_rfl) (by kernel_rfl) (by decide) ?_ ?_ ?_
         ·simp (maxSteps := 20000000) only [permL, permOp, List.filterMap_cons, List.filterMap_nil, List.getElem?_cons_succ, List.getElem?_cons_zero, Option.map_some, Option.map_none, List.take_succ_cons, List.take_zero, ParAllC, Act.put, List.setIfInBounds_toArray, List.set_cons_succ, List.set_cons_zero]
          refine ⟨?_, ?_, ?_, ?_, trivial⟩
          iterate 3
           next =>
            intro vals W hx hd
            rw [if_neg (by decide)] at hx
            have hW := HF.out W hx
            simp [PDepsG, pdeps, Region.binds, List.idxOf_cons] at hd
            refine ParObC.plain rfl ?_
            go_simp
            first | exact IsLe.refl (leX) _ | exact ⟨IsLe.refl (leX) _, fun _ _ => rfl⟩
          ·intro vals W hx hd
           rw [if_pos (by decide)] at hx
           simp [PDepsG, pdeps, Region.binds, List.idxOf_cons] at hd
           refine ParObC.call rfl ?_
           go_simp
           refine Calls.mono (KM.out W hx) ?_
           rintro e w9 ⟨v, L, rfl, hk, hpy, hly⟩
           have hs := hx.size
           exact ⟨_, rfl, hly, fun w3 h3 => ⟨L, (hk.weak hs).later (p := p) (LeP.ofExt h3) hp8, hpy.ext h3⟩⟩
         ·simp (maxSteps := 20000000) only [permL, permOp, List.filterMap_cons, List.filterMap_nil, List.getElem?_cons_succ, List.getElem?_cons_zero, Option.map_some, Option.map_none, List.drop_succ_cons, List.drop_zero, List.take_succ_cons, List.take_zero, Nat.reduceSub, ZAll, ParEnd, Act.put, List.setIfInBounds_toArray, List.set_cons_succ, List.set_cons_zero]
         intro vals W hx hf hz
         simp (maxSteps := 20000000) only [permL, permOp, List.filterMap_cons, List.filterMap_nil, List.getElem?_cons_succ, List.getElem?_cons_zero, Option.map_some, Option.map_none, ParFactsG, List.take_succ_cons, List.take_zero, and_true, Nat.reduceAdd] at hf
         obtain ⟨f0, f1, f2, f3⟩ := hf
         clear hz
         simp (maxSteps := 20000000) only [permL, permOp, List.filterMap_cons, List.filterMap_nil, List.getElem?_cons_succ, List.getElem?_cons_zero, Option.map_some, Option.map_none, List.drop_succ_cons, List.drop_zero, List.take_succ_cons, List.take_zero, Nat.reduceSub, ParEnd, ZTail, Act.put, List.setIfInBounds_toArray, List.set_cons_succ, List.set_cons_zero, Nat.reduceAdd, f0, f1, f2]
         clear f0 f1 f2
         obtain ⟨L, hk, hPb⟩ := f3
         have HC9 := Lib.hid (HC8.out.call hPb hx)
         have HN9 := Lib.hid (hx.blk HN8.out hbp.1)
         have HV9 := Lib.hid (hx.blk HV8.out hbp.2)
         have hs9 := hx.size
         have hs8 := HS8.out
         have hle4 := hPb.le
         refine ⟨?_⟩
         clear hx HC8 HN8 HV8 HF KM hPb
         rcases hk.own.2 with ⟨hv0, hL0⟩ | ⟨gl, cl, cur, hv1, hgl, _, hncl, _, _, _⟩
         ·have hl0 : l = [] := List.eq_nil_of_length_eq_zero (by rw [← hk.len, hL0])
          refine yields_pushNil rfl bs 1 1 (by simp [Act.eval]) (by simp [Act.eval, hv0]) (Nat.le_refl _) ?_
          clear hk
          generalize vals 3 = v3
          obtain ⟨cv, fv⟩ := HV9.out.facts
          have hvl := HV9.out.lt
          have hcr := HC9.out.res
          have hrl := hcr.lt
          obtain ⟨cr, fr⟩ := hcr.facts
          have HC := Lib.hid (HC9.out.store (show w.heap.size + 1 < bs + 1 by omega) 5 (.slice (some ⟨bs, 0, none⟩) 1 1))
          have HR := Lib.hid HC.out.res
          have HN10 := Lib.hid (HN9.out.other (a := ⟨bs + 1, 5, none⟩) (by show bs ≠ bs + 1; omega) (.slice (some ⟨bs, 0, none⟩) 1 1))
          clear hcr
          go_simp
          repeat (first | go_values | go_skip | go_guarded | go_step | go_upon)
          refine bodyPost_ret (ret_ndP rfl _ rfl rfl (blk6P HR.out _ _ _ _ _ _)) rfl ?_
          subst hl0
          exact HC.out.fin ⟨9, 0, ⟨#[]⟩, ⟨#[]⟩, 1, some ⟨bs, 0, none⟩, 1, 1⟩ _ (oneTr _ 9 0 [] [] 1 bs 1 _ ta _ (Nat.le_refl _) (.inr hrl7) (pnAt_of [⟨yk, yo, ys, yt, yn, yla, yln, ylc⟩] (t := 24) (by simpa [PN.cells] using HN10.out)) (HC.out.tr.mono fun g h _ => .inl h)) _ _ _ _ _ _
         ·have hLl : L.length ≤ 90000 := by rw [hk.len]; omega
          have hcl := hk.own
          rw [hv1] at hcl
          refine yields_pushN rfl (w.heap.size + 2) _ [⟨yk, yo, ys, yt, yn, yla, yln, ylc⟩] (by simp [Act.eval]) (own_blk [⟨yk, yo, ys, yt, yn, yla, yln, ylc⟩] (show w.heap.size + 2 ≤ bs by omega) (by simpa [cellsP, PN.cells] using HN9.out) (by simp)) gl cl L (by simp [Act.eval, hv1]) (fun j u hj => by
           have hj2 : j < (cellsP L).length := (List.getElem?_eq_some_iff.1 hj).1
           rw [cellsP_length] at hj2
           rw [hcl.cellAt j hj2]
           exact hj) (by simp; omega) (by have := HN9.out.lt; omega) ?_
          intro v5 w5 hown hgr hat
          obtain ⟨gz, cz, rfl, hgz, hcz, hPz⟩ := pnAt_own (show w5.ownsRow (w.heap.size + 2) 24 6 v5 ([(⟨yk, yo, ys, yt, yn, yla, yln, ylc⟩ : PN)] ++ L).length (cellsP ([(⟨yk, yo, ys, yt, yn, yla, yln, ylc⟩ : PN)] ++ L)) from by rw [List.length_append]; exact hown) (by simp)
          have hgr2 : World.grownBy W w5 (some bs) := hgr
          have HC8 := Lib.hid (HC9.out.grown hgr2 (show w.heap.size + 1 < bs by omega))
          have HV8 := Lib.hid (show Blk w5 (bs + 1) _ _ from (hgr2.block (bs + 1) HV9.out.lt (fun e => by have := Option.some.inj e; omega)).trans HV9.out)
          have hKt := Lib.hid (fun (i : Nat) (x : PN) (y : Tr) (h1 : L[i]? = some x) (h2 : l[i]? = some y) => (hk.tr i x y h1 h2).same (w' := w5) (fun g h hl => hgr2.block g hl (fun e => by have := Option.some.inj e; omega)) hgr2.size)
          have hlen := hk.len
          have hzq : gz ≠ bs + 1 := by
           have h1 := HV9.out.lt
           rcases hat with h2 | h2
           ·have h3 : gz = bs := by simpa [Value.ownBlock] using h2
            omega
           ·have h3 : gz = W.heap.size := by simpa [Value.ownBlock] using h2
            omega
          clear hown hgr hgr2 hat HC9 HN9 HV9 hk hcl
          have hlz : ([(⟨yk, yo, ys, yt, yn, yla, yln, ylc⟩ : PN)] ++ L).length = L.length + 1 := by rw [List.length_append]; simp only [List.length_cons, List.length_nil]; omega
          rw [hlz] at hcz ⊢
          obtain ⟨M, hM⟩ : ∃ M, M = L.length + 1 := ⟨_, rfl⟩
          rw [← hM] at hcz ⊢
          have HM := Lib.hid hM
          clear hlz hM
          generalize vals 3 = v3
          obtain ⟨cv, fv⟩ := HV8.out.facts
          have hvl := HV8.out.lt
          have hcr := HC8.out.res
          have hrl := hcr.lt
          obtain ⟨cr, fr⟩ := hcr.facts
          have HC := Lib.hid (HC8.out.store (show w.heap.size + 1 < bs + 1 by omega) 5 (.slice (some ⟨gz, 0, none⟩) M cz))
          have HR := Lib.hid HC.out.res
          clear hcr
          go_simp
          repeat (first | go_values | go_skip | go_guarded | go_step | go_upon)
          refine bodyPost_ret (ret_ndP rfl _ rfl rfl (blk6P HR.out _ _ _ _ _ _)) rfl ?_
          exact HC.out.fin ⟨9, 0, ⟨#[]⟩, ⟨#[]⟩, 1, some ⟨gz, 0, none⟩, M, cz⟩ _ (cons_kids (s := []) (t := []) (x := ⟨yk, yo, ys, yt, yn, yla, yln, ylc⟩) (L := L) (by rw [HM.out, hlen]; rfl) hlen hcz (.inr (by omega)) (hPz.same (heap_setCell_other w5 ⟨bs + 1, 5, none⟩ gz _ hzq) (by simp)) (HC.out.tr.mono fun g h _ => .inl h) (fun i x y h1 h2 => ((hKt.out i x y h1 h2).same (fun g h _ => heap_setCell_other w5 ⟨bs + 1, 5, none⟩ g _ (by show g ≠ bs + 1; omega)) (by simp)).mono fun g h _ => .inr (by omega))) _ _ _ _ _ _
       ·rw [hbt, if_pos rfl] at HFf
        rintro e W5 ⟨rfl, hp5, hl5⟩
        have HC5 := Lib.hid (HC4.out.call (show RsAt W5 p g cap long T (advR s2) from hp5) hl5)
        clear hp5 hl5 HC4
        obtain ⟨q1, hq1, hq2⟩ := Option.bind_eq_some_iff.1 HFf.out
        obtain ⟨m, s6⟩ := q1
        obtain ⟨q2, hq3, hq4⟩ := Option.map_eq_some_iff.1 hq2
        obtain ⟨m2, s8⟩ := q2
        obtain ⟨rfl, hfs⟩ := Prod.mk.inj hq4
        simp only at hfs
        subst hfs
        have KM := Lib.hid (HRec.out 5 5 (advR s2) m s6 W5 rfl (by decide) hq1 HC5.out.rs)
        have HQ3 := Lib.hid hq3
        clear hq1 hq2 hq3 hq4 HFf
        have hb5 := HC5.out.res.lt
        go_simp
        repeat (first | go_values | go_skip | go_guarded | go_step | go_upon)
        refine Calls.mono KM.out ?_
        rintro e W6 ⟨y1, rfl, hty, hpy, hly⟩
        have HC6 := Lib.hid (HC5.out.call hpy hly)
        have HT6 := Lib.hid (hty.mono (B := fun g => w.heap.size + 1 < g ∧ g < W6.heap.size) fun g h1 h2 => ⟨by omega, h2⟩)
        have hb6 := hly.size
        clear hty hpy hly HC5 KM
        obtain ⟨xk, xo, xs, xt, xn, xla, xln, xlc⟩ := y1
        simp only [PN.v]
        go_simp
        repeat (first | go_values | go_skip | go_guarded | go_step | go_upon)
        have hx7 : Ext W6 (W6.alloc (.cells #[.int .i64 xk, .int .i64 xo, .string xs, .string xt, .int .i64 xn, .slice xla xln xlc] 24)) := (Ext.refl W6).alloc _
        have HV7 := Lib.hid (Blk.new W6 #[.int .i64 xk, .int .i64 xo, .string xs, .string xt, .int .i64 xn, .slice xla xln xlc] 24 rfl)
        have HC7 := Lib.hid (HC6.out.ext hx7)
        have HT7 := Lib.hid (HT6.out.later (p := p) (fun g h => by have := HC6.out.hp; omega) (LeP.ofExt hx7))
        clear hx7 HC6 HT6
        generalize (W6.alloc (.cells #[.int .i64 xk, .int .i64 xo, .string xs, .string xt, .int .i64 xn, .slice xla xln xlc] 24)) = W7 at HV7 HC7 HT7 ⊢
        generalize W6.heap.size = b10 at HV7 HT7 hb6 ⊢
        refine Calls.mono (KW.out s6 ⟨#[65, 78, 68]⟩ W7 HC7.out.rs) ?_
        rw [show bsl ⟨#[65, 78, 68]⟩ = [65, 78, 68] from rfl]
        rintro e W8 ⟨rfl, hp8, hl8⟩
        have h10p : b10 ≠ p := by have := HC7.out.hp; omega
        have HC8 := Lib.hid (HC7.out.call hp8 hl8)
        have HV8 := Lib.hid (hl8.blk HV7.out h10p)
        have HT8 := Lib.hid (HT7.out.later (p := p) (fun g h => by have := HC7.out.hp; omega) hl8)
        clear hp8 hl8 HC7 HV7 HT7
        have KM := Lib.hid (fun W (hW : Ext W8 W) => HRec.out 5 5 (wantR T long s6 [65, 78, 68]) m2 s8 W rfl (by decide) HQ3.out (HC8.out.rs.ext hW))
        have HF := Lib.hid (show ∀ W, LeP p W8 W → (∀ j, W.cell? ⟨w.heap.size, j, none⟩ = (#[.int .i64 yk, .int .i64 yo, .string ys, .string yt, .int .i64 yn, .slice yla yln ylc] : Array Value)[j]?) ∧ (∀ j, W.cell? ⟨b10, j, none⟩ = (#[.int .i64 xk, .int .i64 xo, .string xs, .string xt, .int .i64 xn, .slice xla xln xlc] : Array Value)[j]?) from fun W hW => ⟨(hW.blk HC8.out.bx (by have := HC8.out.hp; omega)).cell, (hW.blk HV8.out h10p).cell⟩)
        have hb8 := HC8.out.res.lt
        have hv8 := HV8.out.lt
        have hp8 := HC8.out.rs.blk.lt
        have hp0 := HC8.out.hp
        go_simp
        repeat (first | go_values | go_skip | go_guarded | go_step | go_upon)
        refine wp_parZC 4 (leX) (leP p) (LeP.ofExt) [0, 1, 2, 3, 4, 5, 6, 7] 7 7 (fun
         | 0 => fun _ v _ => v = .int .i64 1
         | 1 => fun _ v _ => v = .agg #[.int .i64 yk, .int .i64 yo, .string ys, .string yt, .int .i64 yn, .slice yla yln ylc]
         | 2 => fun _ v _ => v = .agg #[.int .i64 xk, .int .i64 xo, .string xs, .string xt, .int .i64 xn, .slice xla xln xlc]
         | 3 => fun _ v _ => v = .pointer (some ⟨p, 0, none⟩)
         | 4 => fun _ => readR W8.heap.size p g cap long T m2 s8
         | 5 => fun _ => tripR W8.heap.size ⟨yk, yo, ys, yt, yn, yla, yln, ylc⟩ ⟨xk, xo, xs, xt, xn, xla, xln, xlc⟩ m2
         | 6 => fun _ => over3R W8.heap.size 10 1 ⟨yk, yo, ys, yt, yn, yla, yln, ylc⟩ ⟨xk, xo, xs, xt, xn, xla, xln, xlc⟩ m2
         | _ => fun _ _ _ => True) (fun
         | _ => undef) (by kernel_rfl) (by kernel_rfl) (by kernel_rfl) (by decide) ?_ ?_ ?_
        ·simp (maxSteps := 20000000) only [permL, permOp, List.filterMap_cons, List.filterMap_nil, List.getElem?_cons_succ, List.getElem?_cons_zero, Option.map_some, Option.map_none, List.take_succ_cons, List.take_zero, ParAllC, Act.put, List.setIfInBounds_toArray, List.set_cons_succ, List.set_cons_zero]
         refine ⟨?_, ?_, ?_, ?_, ?_, ?_, ?_, trivial⟩
         iterate 4
          next =>
           intro vals W hx hd
           rw [if_neg (by decide)] at hx
           have hW := HF.out W hx
           simp [PDepsG, pdeps, Region.binds, List.idxOf_cons] at hd
           refine ParObC.plain rfl ?_
           go_simp
           first | exact IsLe.refl (leX) _ | exact ⟨IsLe.refl (leX) _, fun _ _ => rfl⟩
         ·intro vals W hx hd
          rw [if_pos (by decide)] at hx
          simp [PDepsG, pdeps, Region.binds, List.idxOf_cons] at hd
          refine ParObC.call rfl ?_
          go_simp
          refine Calls.mono (KM.out W hx) ?_
          rintro e w9 ⟨y, rfl, hty, hpy, hly⟩
          have hs := hx.size
          exact ⟨_, rfl, hly, fun w3 h3 => ⟨y, rfl, (((hty.mono (B := fun g => W8.heap.size ≤ g ∧ g ≠ p) fun g h1 h2 => by omega).later (p := p) (fun g h => h.2) (LeP.ofExt h3)).mono fun g h _ => h.1), hpy.ext h3⟩⟩
         ·intro vals W hx hd
          rw [if_neg (by decide)] at hx
          have hW := HF.out W hx
          simp [PDepsG, pdeps, Region.binds, List.idxOf_cons] at hd
          refine ParObC.plain rfl ?_
          obtain ⟨h1, h2, y, hvy, hty, hpy⟩ := hd
          replace hvy : vals _ = .agg _ := hvy
          go_simp
          have hs := hx.size
          refine ⟨(Ext.refl _).alloc _, fun w3 h3 => ⟨_, y, rfl, by omega, ?_, ?_⟩⟩
          ·exact (pnAt_of [⟨yk, yo, ys, yt, yn, yla, yln, ylc⟩, ⟨xk, xo, xs, xt, xn, xla, xln, xlc⟩, y] (Blk.new W _ 24 rfl)).same (h3.old _ (by simp) (by omega)) h3.size
          ·exact hty.later (p := p) (fun g h => by omega) ((LeP.ofExt ((Ext.refl W).alloc _)).trans h3)
         ·intro vals W hx hd
          rw [if_neg (by decide)] at hx
          have hW := HF.out W hx
          simp [PDepsG, pdeps, Region.binds, List.idxOf_cons] at hd
          refine ParObC.plain rfl ?_
          obtain ⟨h0, gs, y, hv6, hge, hP, hTy⟩ := hd
          go_simp
          exact ⟨IsLe.refl leX _, fun w3 h3 => ⟨gs, y, rfl, hge, hP.same (h3.old _ hP.1 (by omega)) h3.size, hTy.later (p := p) (fun g h => by omega) h3⟩⟩
        ·simp (maxSteps := 20000000) only [permL, permOp, List.filterMap_cons, List.filterMap_nil, List.getElem?_cons_succ, List.getElem?_cons_zero, Option.map_some, Option.map_none, List.drop_succ_cons, List.drop_zero, List.take_succ_cons, List.take_zero, Nat.reduceSub, ZAll, ParEnd, Act.put, List.setIfInBounds_toArray, List.set_cons_succ, List.set_cons_zero]
        intro vals W hx hf hz
        simp (maxSteps := 20000000) only [permL, permOp, List.filterMap_cons, List.filterMap_nil, List.getElem?_cons_succ, List.getElem?_cons_zero, Option.map_some, Option.map_none, ParFactsG, List.take_succ_cons, List.take_zero, and_true, Nat.reduceAdd] at hf
        obtain ⟨f0, f1, f2, f3, f4, f5, f6⟩ := hf
        clear hz
        simp (maxSteps := 20000000) only [permL, permOp, List.filterMap_cons, List.filterMap_nil, List.getElem?_cons_succ, List.getElem?_cons_zero, Option.map_some, Option.map_none, List.drop_succ_cons, List.drop_zero, List.take_succ_cons, List.take_zero, Nat.reduceSub, ParEnd, ZTail, Act.put, List.setIfInBounds_toArray, List.set_cons_succ, List.set_cons_zero, Nat.reduceAdd, f0, f1, f2, f3]
        clear f0 f1 f2 f3
        obtain ⟨gs, y, hv6, hge, hP, hTy⟩ := f6
        obtain ⟨_, _, _, hPb⟩ := f4
        clear f5
        refine ⟨?_⟩
        have HC9 := Lib.hid (HC8.out.call hPb hx)
        have HT9 := Lib.hid (HT8.out.later (p := p) (fun g h => by omega) hx)
        refine yields_storeP (g := w.heap.size + 1) (cs := #[.int .i64 10, .int .i64 0, .string ⟨#[]⟩, .string ⟨#[]⟩, .int .i64 1, .slice (some ⟨gs, 0, none⟩) 3 3]) rfl (by simp [Act.eval]) (by simp [Act.eval, hv6]) HC9.out.res rfl rfl (by simp [Value.oneCell']) ?_
        have HR5 := Lib.hid (show Blk _ (w.heap.size + 1) #[.int .i64 10, .int .i64 0, .string ⟨#[]⟩, .string ⟨#[]⟩, .int .i64 1, .slice (some ⟨gs, 0, none⟩) 3 3] 24 from setRow_heap W (w.heap.size + 1) _ #[.int .i64 10, .int .i64 0, .string ⟨#[]⟩, .string ⟨#[]⟩, .int .i64 1, .slice (some ⟨gs, 0, none⟩) 3 3] _ _ HC9.out.res)
        have HFin := Lib.hid (HC9.out.finRow ⟨10, 0, ⟨#[]⟩, ⟨#[]⟩, 1, some ⟨gs, 0, none⟩, 3, 3⟩ (.mk 10 0 [] [] 1 [ta, m, m2]) (three_kids (s := []) (t := []) (Nat.le_refl _) (.inr (by omega)) hP (HC9.out.tr.mono fun g h _ => .inl h) (HT9.out.mono fun g h _ => .inr h.1) (hTy.mono fun g h _ => .inr (by omega))) #[.int .i64 10, .int .i64 0, .string ⟨#[]⟩, .string ⟨#[]⟩, .int .i64 1, .slice (some ⟨gs, 0, none⟩) 3 3])
        generalize W.setRow (w.heap.size + 1) #[.int .i64 10, .int .i64 0, .string ⟨#[]⟩, .string ⟨#[]⟩, .int .i64 1, .slice (some ⟨gs, 0, none⟩) 3 3] = Wr at HR5 HFin ⊢
        clear hx hTy hPb HF KM HC8 HC9 HT8 HT9 hP hv6 hb8
        generalize vals 4 = v4
        generalize vals 5 = v5
        generalize vals 6 = v6
        go_simp
        repeat (first | go_values | go_skip | go_guarded | go_step | go_upon)
        refine bodyPost_ret (ret_ndP rfl _ rfl rfl HR5.out) rfl ?_
        exact HFin.out
      ·rw [hlk, if_pos rfl] at HFf
       rintro e W4 ⟨rfl, hp4, hl4⟩
       have HC4 := Lib.hid (HC3.out.call (show RsAt W4 p g cap long T (advR s2) from hp4) hl4)
       clear hp4 hl4 HC3
       obtain ⟨q1, hq1, hq2⟩ := Option.bind_eq_some_iff.1 HFf.out
       obtain ⟨m, s4⟩ := q1
       have KM := Lib.hid (fun W (hW : Ext W4 W) => HRec.out 5 5 (advR s2) m s4 W rfl (by decide) hq1 (HC4.out.rs.ext hW))
       have HQ := Lib.hid hq2
       clear hq1 hq2 HFf
       simp only at HQ
       have HF := Lib.hid (show ∀ W, LeP p W4 W → (∀ j, W.cell? ⟨w.heap.size, j, none⟩ = (#[.int .i64 yk, .int .i64 yo, .string ys, .string yt, .int .i64 yn, .slice yla yln ylc] : Array Value)[j]?) from fun W hW => (hW.blk HC4.out.bx (by have := HC4.out.hp; omega)).cell)
       have hb4 := HC4.out.res.lt
       have hg4 := HC4.out.rs.tok.1
       have hp0 := HC4.out.hp
       have hg0 := HC4.out.hg
       have hAA := Lib.hid HC4.out.hA
       go_simp
       repeat (first | go_values | go_skip | go_guarded | go_step | go_upon)
       refine wp_parZD 3 6 (readRD W4.heap.size p g cap long T m s4) (by decide) (LeP.size) (leX) (leP p) (LeP.ofExt) [0, 1, 2, 3, 4, 5, 6, 7] 7 7 (fun
        | 0 => fun _ v _ => v = .int .i64 1
        | 1 => fun _ v _ => v = .agg #[.int .i64 yk, .int .i64 yo, .string ys, .string yt, .int .i64 yn, .slice yla yln ylc]
        | 2 => fun _ v _ => v = .pointer (some ⟨p, 0, none⟩)
        | 3 => fun _ v w => ∃ lo hi, hi ≤ w.heap.size ∧ (readRD W4.heap.size p g cap long T m s4) lo hi v w
        | 4 => pairD W4.heap.size 1 ⟨yk, yo, ys, yt, yn, yla, yln, ylc⟩ m
        | 5 => builtD 1 0 8 0 ⟨#[]⟩ ⟨#[]⟩ 1
        | 6 => fun _ => allocD W4.heap.size
        | _ => fun _ _ _ => True) (fun
        | _ => undef) (by kernel_rfl) (by kernel_rfl) (by kernel_rfl) (by decide) (by decide) (fun _ _ _ lo hi h1 h2 => ⟨lo, hi, h1, h2⟩) ?_ ?_ ?_
       ·simp (maxSteps := 20000000) only [permL, permOp, List.filterMap_cons, List.filterMap_nil, List.getElem?_cons_succ, List.getElem?_cons_zero, Option.map_some, Option.map_none, List.take_succ_cons, List.take_zero, ParAllD, Act.put, List.setIfInBounds_toArray, List.set_cons_succ, List.set_cons_zero]
        refine ⟨?_, ?_, ?_, ?_, ?_, ?_, ?_, trivial⟩
        iterate 3
         next =>
          intro vals W hx hd
          rw [if_neg (by decide)] at hx
          have hW := HF.out W hx
          simp [PDepsG, pdeps, Region.binds, List.idxOf_cons] at hd
          refine ParObD.plain rfl ?_
          go_simp
          first | exact IsLe.refl (leX) _ | exact ⟨IsLe.refl (leX) _, fun _ _ => rfl⟩
        ·intro vals W hx hd
         rw [if_pos (by decide)] at hx
         simp [PDepsG, pdeps, Region.binds, List.idxOf_cons] at hd
         refine ParObD.call rfl ?_
         go_simp
         refine Calls.mono (KM.out W hx) ?_
         rintro e w9 ⟨y, rfl, hty, hpy, hly⟩
         have hs := hx.size
         exact ⟨_, rfl, hly, fun w3 h3 => ⟨hs, y, rfl, (hty.mono (B := fun g => W.heap.size ≤ g ∧ g < w9.heap.size) fun g h1 h2 => ⟨h1, h2⟩).later (p := p) (fun g h => by omega) (LeP.ofExt h3), hpy.ext h3⟩⟩
        ·intro vals W hx hd
         rw [if_neg (by decide)] at hx
         have hW := HF.out W hx
         simp [PDepsG, pdeps, Region.binds, List.idxOf_cons] at hd
         refine ParObD.plain rfl ?_
         obtain ⟨h1, lo, hi, hhi, hlo, y, hvy, hty, hpy⟩ := hd
         replace hvy : vals _ = .agg _ := hvy
         have hs := hx.size
         go_simp
         refine ⟨(Ext.refl _).alloc _, fun w3 h3 => ⟨W.heap.size, y, ?_, rfl, ?_, hs, ?_⟩⟩
         ·simp [dv, ldeps, pdeps, Region.binds, List.idxOf_cons, hvy, PN.v]
         ·exact h3.blk (Blk.new W _ 24 rfl) (by omega)
         ·exact (hty.mono (B := fun g => W4.heap.size ≤ g ∧ g < W.heap.size) fun g h1 h2 => by omega).later (p := p) (fun g h => by omega) ((LeP.ofExt ((Ext.refl W).alloc _)).trans h3)
        ·intro vals W hx hd
         rw [if_neg (by decide)] at hx
         have hW := HF.out W hx
         simp [PDepsG, pdeps, Region.binds, List.idxOf_cons] at hd
         refine ParObD.plain rfl ?_
         obtain ⟨h0, gs, y, _, hv4, _⟩ := hd
         go_simp
         exact ⟨IsLe.refl leX _, fun w3 h3 => ⟨.slice (some ⟨gs, 0, none⟩) 2 2, by simp [dv, ldeps, pdeps, Region.binds, List.idxOf_cons, hv4], rfl, rfl⟩⟩
        ·intro vals W hx hd
         rw [if_neg (by decide)] at hx
         have hW := HF.out W hx
         simp [PDepsG, pdeps, Region.binds, List.idxOf_cons] at hd
         refine ParObD.made rfl ?_
         have hs := hx.size
         go_simp
         exact ⟨⟨(Ext.refl _).alloc _, fun w3 h3 => ⟨W.heap.size, rfl, hs, h3.blk (Blk.new W _ _ rfl) (by omega)⟩⟩, ⟨W.heap.size, rfl, Nat.le_refl _, by simp⟩⟩
       ·simp (maxSteps := 20000000) only [permL, permOp, List.filterMap_cons, List.filterMap_nil, List.getElem?_cons_succ, List.getElem?_cons_zero, Option.map_some, Option.map_none, List.drop_succ_cons, List.drop_zero, List.take_succ_cons, List.take_zero, Nat.reduceSub, ZAll, ParEnd, Act.put, List.setIfInBounds_toArray, List.set_cons_succ, List.set_cons_zero]
       intro vals W hx hap hf hz
       obtain ⟨lo, hi, gq, hRc, hhi, hvq, hgq, hap⟩ := hap
       simp (maxSteps := 20000000) only [permL, permOp, List.filterMap_cons, List.filterMap_nil, List.getElem?_cons_succ, List.getElem?_cons_zero, Option.map_some, Option.map_none, ParFactsG, List.take_succ_cons, List.take_zero, and_true, Nat.reduceAdd] at hf
       obtain ⟨f0, f1, f2, f3, f4, f5, f6⟩ := hf
       clear hz
       simp (maxSteps := 20000000) only [permL, permOp, List.filterMap_cons, List.filterMap_nil, List.getElem?_cons_succ, List.getElem?_cons_zero, Option.map_some, Option.map_none, List.drop_succ_cons, List.drop_zero, List.take_succ_cons, List.take_zero, Nat.reduceSub, ParEnd, ZTail, Act.put, List.setIfInBounds_toArray, List.set_cons_succ, List.set_cons_zero, Nat.reduceAdd, f0, f1, f2]
       clear f0 f1 f2
       obtain ⟨gs, y, hds4, hv4, hB4, hge4, hT4⟩ := f4
       simp [dv, ldeps, pdeps, Region.binds, List.idxOf_cons] at hds4
       obtain ⟨u, hds5, hv5, _⟩ := f5
       simp [dv, ldeps, pdeps, Region.binds, List.idxOf_cons] at hds5
       obtain ⟨ga, hva, hgea, hBa⟩ := f6
       obtain rfl : gq = ga := by
        have := hvq.symm.trans hva
        simpa using this
       obtain ⟨hlo, y2, hv3, hT3, hP3⟩ := hRc
       obtain rfl : y = y2 := PN.v_inj (hds4.symm.trans hv3)
       have hTy := hT3.and hT4
       have hne : gs ≠ gq := by
        intro e
        subst e
        have := hB4.symm.trans hBa
        simp [PN.cells, cellsP] at this
       have hv5b : vals 5 = .agg #[.int .i64 8, .int .i64 0, .string ⟨#[]⟩, .string ⟨#[]⟩, .int .i64 1, .slice (some ⟨gs, 0, none⟩) 2 2] := by rw [hv5, ← hds5, hv4]
       have hqp : gq ≠ p := by omega
       have hqb : w.heap.size + 1 < gq := by omega
       have hgb : w.heap.size + 1 < gs := by omega
       refine ⟨?_⟩
       refine yields_storeP (g := gq) (cs := #[.int .i64 8, .int .i64 0, .string ⟨#[]⟩, .string ⟨#[]⟩, .int .i64 1, .slice (some ⟨gs, 0, none⟩) 2 2]) rfl (by simp [Act.eval, hvq]) (by simp [Act.eval, hv5b]) hBa rfl rfl (by simp [Value.oneCell']) ?_
       have HC5 := Lib.hid ((HC4.out.call hP3 hx).row hqb #[.int .i64 8, .int .i64 0, .string ⟨#[]⟩, .string ⟨#[]⟩, .int .i64 1, .slice (some ⟨gs, 0, none⟩) 2 2])
       have HV5 := Lib.hid (show Blk _ gq #[.int .i64 8, .int .i64 0, .string ⟨#[]⟩, .string ⟨#[]⟩, .int .i64 1, .slice (some ⟨gs, 0, none⟩) 2 2] 24 from setRow_heap W gq _ #[.int .i64 8, .int .i64 0, .string ⟨#[]⟩, .string ⟨#[]⟩, .int .i64 1, .slice (some ⟨gs, 0, none⟩) 2 2] _ _ hBa)
       have HN5 := Lib.hid (show Blk (W.setRow gq #[.int .i64 8, .int .i64 0, .string ⟨#[]⟩, .string ⟨#[]⟩, .int .i64 1, .slice (some ⟨gs, 0, none⟩) 2 2]) gs (cellsP [⟨yk, yo, ys, yt, yn, yla, yln, ylc⟩, y]).toArray 24 from (setRow_other W gq gs _ hne).trans hB4)
       have HTy := Lib.hid ((hTy.mono (B := fun g => g ≠ gq ∧ g ≠ gs ∧ w.heap.size + 1 < g) fun g h1 _ => by
        obtain ⟨⟨a1, a2⟩, a3, a4⟩ := h1
        omega).row (b := gq) (fun g h => h.1) #[.int .i64 8, .int .i64 0, .string ⟨#[]⟩, .string ⟨#[]⟩, .int .i64 1, .slice (some ⟨gs, 0, none⟩) 2 2])
       generalize W.setRow gq #[.int .i64 8, .int .i64 0, .string ⟨#[]⟩, .string ⟨#[]⟩, .int .i64 1, .slice (some ⟨gs, 0, none⟩) 2 2] = W5 at HC5 HV5 HN5 HTy ⊢
       clear hx hT3 hT4 hTy hP3 hB4 hBa HF HC4 KM hv4 hv5 hv5b hds4 hds5 hva hhi hgq hap hlo f3
       generalize vals 3 = v3
       generalize vals 4 = v4
       generalize vals 5 = v5
       rw [hvq]
       clear hvq
       go_simp
       repeat (first | go_values | go_skip | go_guarded | go_step | go_upon)
       refine Calls.mono (KT.out s4 ⟨#[69, 83, 67, 65, 80, 69]⟩ W5 HC5.out.rs) ?_
       rw [show bsl ⟨#[69, 83, 67, 65, 80, 69]⟩ = [69, 83, 67, 65, 80, 69] from rfl]
       cases hes : takeB T s4 [69, 83, 67, 65, 80, 69]
       ·rw [hes, if_neg (by decide)] at HQ
        obtain ⟨rfl, hfs⟩ := Prod.mk.inj (Option.some.inj HQ.out)
        subst hfs
        rintro e W6 ⟨rfl, hp6, hl6⟩
        have HC := Lib.hid (HC5.out.call (show RsAt W6 p g cap long T s4 from hp6) hl6)
        have hgp : gs ≠ p := by omega
        have HV6 := Lib.hid (hl6.blk HV5.out hqp)
        have HN6 := Lib.hid (hl6.blk HN5.out hgp)
        have HT6 := Lib.hid (HTy.out.later (p := p) (fun g h => by omega) hl6)
        clear hp6 hl6 HC5 HV5 HN5 HTy
        obtain ⟨cv, fv⟩ := HV6.out.facts
        have hvl := HV6.out.lt
        have hcb := HC.out.bx
        have hcr := HC.out.res
        simp only [PN.cells] at hcb
        have HRr := Lib.hid hcr
        obtain ⟨cb, fb⟩ := hcb.facts
        obtain ⟨cr, fr⟩ := hcr.facts
        have hbl := hcb.lt
        have hrl := hcr.lt
        clear hcb hcr
        go_simp
        repeat (first | go_values | go_skip | go_guarded | go_step | go_upon)
        refine bodyPost_ret (ret_ndP rfl _ rfl rfl (blk6P HRr.out _ _ _ _ _ _)) rfl ?_
        exact HC.out.fin ⟨8, 0, ⟨#[]⟩, ⟨#[]⟩, 1, some ⟨gs, 0, none⟩, 2, 2⟩ _ (two_kids (s := []) (t := []) (Nat.le_refl _) (.inr hgb) (pnAt_of [⟨yk, yo, ys, yt, yn, yla, yln, ylc⟩, y] HN6.out) (HC.out.tr.mono fun g h _ => .inl h) (HT6.out.mono fun g h _ => .inr h.2.2)) _ _ _ _ _ _
       ·rw [hes, if_pos rfl] at HQ
        rintro e W6 ⟨rfl, hp6, hl6⟩
        have HC6 := Lib.hid (HC5.out.call (show RsAt W6 p g cap long T (advR s4) from hp6) hl6)
        have hgp : gs ≠ p := by omega
        have HV6 := Lib.hid (hl6.blk HV5.out hqp)
        have HN6 := Lib.hid (hl6.blk HN5.out hgp)
        have HT6 := Lib.hid (HTy.out.later (p := p) (fun g h => by omega) hl6)
        clear hp6 hl6 HC5 HV5 HN5 HTy
        obtain ⟨q2, hq1, hq2⟩ := Option.map_eq_some_iff.1 HQ.out
        obtain ⟨m3, s6⟩ := q2
        obtain ⟨rfl, hfs⟩ := Prod.mk.inj hq2
        subst hfs
        have KM := Lib.hid (fun W (hW : Ext W6 W) => HRec.out 5 5 (advR s4) m3 s6 W rfl (by decide) hq1 (HC6.out.rs.ext hW))
        clear hq1 hq2 HQ
        have HF := Lib.hid (show ∀ W, LeP p W6 W → (∀ j, W.cell? ⟨gq, j, none⟩ = (#[.int .i64 8, .int .i64 0, .string ⟨#[]⟩, .string ⟨#[]⟩, .int .i64 1, .slice (some ⟨gs, 0, none⟩) 2 2] : Array Value)[j]?) from fun W hW => (hW.blk HV6.out hqp).cell)
        have hq6 := HV6.out.lt
        have hg6 := HN6.out.lt
        have hp6 := HC6.out.rs.blk.lt
        go_simp
        repeat (first | go_values | go_skip | go_guarded | go_step | go_upon)
        refine wp_parZC 3 (leX) (leP p) (LeP.ofExt) [0, 1, 2, 3, 4, 5, 6, 7] 5 5 (fun
         | 0 => fun _ v _ => v = .pointer (some ⟨gq, 5, none⟩)
         | 1 => fun _ v _ => v = .slice (some ⟨gs, 0, none⟩) 2 2
         | 2 => fun _ v _ => v = .pointer (some ⟨p, 0, none⟩)
         | 3 => fun _ => readR W6.heap.size p g cap long T m3 s6
         | 4 => fun _ => oneR W6.heap.size m3
         | _ => fun _ _ _ => True) (fun
         | _ => undef) (by kernel_rfl) (by kernel_rfl) (by kernel_rfl) (by decide) ?_ ?_ ?_
        ·simp (maxSteps := 20000000) only [permL, permOp, List.filterMap_cons, List.filterMap_nil, List.getElem?_cons_succ, List.getElem?_cons_zero, Option.map_some, Option.map_none, List.take_succ_cons, List.take_zero, ParAllC, Act.put, List.setIfInBounds_toArray, List.set_cons_succ, List.set_cons_zero]
         refine ⟨?_, ?_, ?_, ?_, ?_, trivial⟩
         iterate 3
          next =>
           intro vals W hx hd
           rw [if_neg (by decide)] at hx
           have hW := HF.out W hx
           simp [PDepsG, pdeps, Region.binds, List.idxOf_cons] at hd
           refine ParObC.plain rfl ?_
           go_simp
           first | exact IsLe.refl (leX) _ | exact ⟨IsLe.refl (leX) _, fun _ _ => rfl⟩
         ·intro vals W hx hd
          rw [if_pos (by decide)] at hx
          simp [PDepsG, pdeps, Region.binds, List.idxOf_cons] at hd
          refine ParObC.call rfl ?_
          go_simp
          refine Calls.mono (KM.out W hx) ?_
          rintro e w9 ⟨y, rfl, hty, hpy, hly⟩
          have hs := hx.size
          exact ⟨_, rfl, hly, fun w3 h3 => ⟨y, rfl, (((hty.mono (B := fun g => W6.heap.size ≤ g ∧ g ≠ p) fun g h1 h2 => by omega).later (p := p) (fun g h => h.2) (LeP.ofExt h3)).mono fun g h _ => h.1), hpy.ext h3⟩⟩
         ·intro vals W hx hd
          rw [if_neg (by decide)] at hx
          have hW := HF.out W hx
          simp [PDepsG, pdeps, Region.binds, List.idxOf_cons] at hd
          refine ParObC.plain rfl ?_
          obtain ⟨y, hvy, hty, hpy⟩ := hd
          replace hvy : vals _ = .agg _ := hvy
          go_simp
          have hs := hx.size
          refine ⟨(Ext.refl _).alloc _, fun w3 h3 => ⟨W.heap.size, y, rfl, by omega, ?_, ?_⟩⟩
          ·exact h3.blk (Blk.new W _ 24 rfl) (by omega)
          ·exact hty.later (p := p) (fun g h => by omega) ((LeP.ofExt ((Ext.refl W).alloc _)).trans h3)
        ·simp (maxSteps := 20000000) only [permL, permOp, List.filterMap_cons, List.filterMap_nil, List.getElem?_cons_succ, List.getElem?_cons_zero, Option.map_some, Option.map_none, List.drop_succ_cons, List.drop_zero, List.take_succ_cons, List.take_zero, Nat.reduceSub, ZAll, ParEnd, Act.put, List.setIfInBounds_toArray, List.set_cons_succ, List.set_cons_zero]
        intro vals W hx hf hz
        simp (maxSteps := 20000000) only [permL, permOp, List.filterMap_cons, List.filterMap_nil, List.getElem?_cons_succ, List.getElem?_cons_zero, Option.map_some, Option.map_none, ParFactsG, List.take_succ_cons, List.take_zero, and_true, Nat.reduceAdd] at hf
        obtain ⟨f0, f1, f2, f3, f4⟩ := hf
        clear hz
        simp (maxSteps := 20000000) only [permL, permOp, List.filterMap_cons, List.filterMap_nil, List.getElem?_cons_succ, List.getElem?_cons_zero, Option.map_some, Option.map_none, List.drop_succ_cons, List.drop_zero, List.take_succ_cons, List.take_zero, Nat.reduceSub, ParEnd, ZTail, Act.put, List.setIfInBounds_toArray, List.set_cons_succ, List.set_cons_zero, Nat.reduceAdd, f0, f1, f2]
        clear f0 f1 f2
        obtain ⟨g1, y1, hv4, hge1, hB1, hT1⟩ := f4
        obtain ⟨_, _, _, hPb⟩ := f3
        have HC7 := Lib.hid (HC6.out.call hPb hx)
        have HV7 := Lib.hid (hx.blk HV6.out hqp)
        have HN7 := Lib.hid (hx.blk HN6.out hgp)
        have HT7 := Lib.hid (HT6.out.later (p := p) (fun g h => by omega) hx)
        have hs7 := hx.size
        refine ⟨?_⟩
        refine yields_pushN rfl (w.heap.size + 2) _ [⟨yk, yo, ys, yt, yn, yla, yln, ylc⟩, y] (by simp [Act.eval]) (own_blk [⟨yk, yo, ys, yt, yn, yla, yln, ylc⟩, y] (show w.heap.size + 2 ≤ gs by omega) HN7.out (by simp)) g1 1 [y1] (by simp [Act.eval, hv4]) (fun j u hj => by rw [hB1.cell]; simpa [cellsP] using hj) (by simp) (by have := HN7.out.lt; omega) ?_
        intro v5 w5 hown hgr hat
        obtain ⟨gz, cz, rfl, hgz, hcz, hPz⟩ := pnAt_own (L := [⟨yk, yo, ys, yt, yn, yla, yln, ylc⟩, y] ++ [y1]) hown (by simp)
        simp only [List.cons_append, List.nil_append, List.length_cons, List.length_nil] at hcz hPz hown
        have hgr2 : World.grownBy W w5 (some gs) := hgr
        have HC8 := Lib.hid (HC7.out.grown hgr2 hgb)
        have HV8 := Lib.hid (show Blk w5 gq _ _ from (hgr2.block gq HV7.out.lt (fun e => hne (Option.some.inj e).symm)).trans HV7.out)
        have HT8 := Lib.hid (HT7.out.same (fun g h hl => hgr2.block g hl (fun e => h.2.1 (Option.some.inj e))) hgr2.size)
        have HT8b := Lib.hid (hT1.same (fun g h hl => hgr2.block g hl (fun e => by have := Option.some.inj e; omega)) hgr2.size)
        have hzq : gz ≠ gq := by
         have h1 := HV7.out.lt
         rcases hat with h2 | h2
         ·have h3 : gz = gs := by simpa [Value.ownBlock] using h2
          omega
         ·have h3 : gz = W.heap.size := by simpa [Value.ownBlock] using h2
          omega
        clear hown hgr hgr2 hat HC6 HV6 HN6 HT6 HC7 HV7 HN7 HT7 hx hT1 hB1 hPb HF KM
        generalize vals 3 = v3
        generalize vals 4 = v4
        obtain ⟨cv, fv⟩ := HV8.out.facts
        have hvl := HV8.out.lt
        have hcb := HC8.out.bx
        have hcr := HC8.out.res
        have hbl := hcb.lt
        have hrl := hcr.lt
        obtain ⟨cr, fr⟩ := hcr.facts
        have HC := Lib.hid (HC8.out.store hqb 5 (.slice (some ⟨gz, 0, none⟩) 3 cz))
        have HR := Lib.hid HC.out.res
        clear hcb hcr
        go_simp
        repeat (first | go_values | go_skip | go_guarded | go_step | go_upon)
        refine bodyPost_ret (ret_ndP rfl _ rfl rfl (blk6P HR.out _ _ _ _ _ _)) rfl ?_
        exact HC.out.fin ⟨8, 0, ⟨#[]⟩, ⟨#[]⟩, 1, some ⟨gz, 0, none⟩, 3, cz⟩ _ (three_kids (s := []) (t := []) hcz (.inr (by omega)) (hPz.same (heap_setCell_other w5 ⟨gq, 5, none⟩ gz _ hzq) (by simp)) (HC.out.tr.mono fun g h _ => .inl h) ((HT8.out.same (fun g h _ => heap_setCell_other w5 ⟨gq, 5, none⟩ g _ h.1) (by simp)).mono fun g h _ => .inr h.2.2) ((HT8b.out.same (fun g h _ => heap_setCell_other w5 ⟨gq, 5, none⟩ g _ (by show g ≠ gq; omega)) (by simp)).mono fun g h _ => .inr (by omega))) _ _ _ _ _ _
    ·rw [his, if_pos rfl] at HFf
     obtain ⟨hrt, hfs⟩ := Prod.mk.inj (Option.some.inj HFf.out)
     have HFs := Lib.hid hfs
     have HRt := Lib.hid hrt
     clear hfs hrt HFf
     rintro e W1 ⟨rfl, hp1, hl1⟩
     have HC2 := Lib.hid (HC1.out.call (show RsAt W1 p g cap long T (advR s) from hp1) hl1)
     clear hp1 hl1 HC1
     have hcb := HC2.out.bx
     simp only [PN.cells] at hcb
     obtain ⟨cb, fb⟩ := hcb.facts
     have hbl := hcb.lt
     have hrl := HC2.out.res.lt
     have hp0 := HC2.out.hp
     clear hcb
     go_simp
     repeat (first | go_values | go_skip | go_guarded | go_step | go_upon)
     have hx3 : Ext W1 ((W1.alloc (.cells #[.int .i64 yk, .int .i64 yo, .string ys, .string yt, .int .i64 yn, .slice yla yln ylc] 24)).alloc (.cells #[.int .i64 7, .int .i64 0, .string ⟨#[]⟩, .string ⟨#[]⟩, .int .i64 0, .slice (some ⟨W1.heap.size, 0, none⟩) 1 1] 24)) := ((Ext.refl W1).alloc _).alloc _
     have HC3 := Lib.hid (HC2.out.ext hx3)
     have HN3 := Lib.hid (show Blk ((W1.alloc (.cells #[.int .i64 yk, .int .i64 yo, .string ys, .string yt, .int .i64 yn, .slice yla yln ylc] 24)).alloc (.cells #[.int .i64 7, .int .i64 0, .string ⟨#[]⟩, .string ⟨#[]⟩, .int .i64 0, .slice (some ⟨W1.heap.size, 0, none⟩) 1 1] 24)) W1.heap.size #[.int .i64 yk, .int .i64 yo, .string ys, .string yt, .int .i64 yn, .slice yla yln ylc] 24 from (Blk.new W1 #[.int .i64 yk, .int .i64 yo, .string ys, .string yt, .int .i64 yn, .slice yla yln ylc] 24 rfl).keep ((Ext.refl _).alloc _))
     have HV3 := Lib.hid (show Blk ((W1.alloc (.cells #[.int .i64 yk, .int .i64 yo, .string ys, .string yt, .int .i64 yn, .slice yla yln ylc] 24)).alloc (.cells #[.int .i64 7, .int .i64 0, .string ⟨#[]⟩, .string ⟨#[]⟩, .int .i64 0, .slice (some ⟨W1.heap.size, 0, none⟩) 1 1] 24)) (W1.heap.size + 1) #[.int .i64 7, .int .i64 0, .string ⟨#[]⟩, .string ⟨#[]⟩, .int .i64 0, .slice (some ⟨W1.heap.size, 0, none⟩) 1 1] 24 from Blk.new (W1.alloc (.cells #[.int .i64 yk, .int .i64 yo, .string ys, .string yt, .int .i64 yn, .slice yla yln ylc] 24)) _ _ (by simp))
     clear hx3 HC2 cb fb hbl
     generalize ((W1.alloc (.cells #[.int .i64 yk, .int .i64 yo, .string ys, .string yt, .int .i64 yn, .slice yla yln ylc] 24)).alloc (.cells #[.int .i64 7, .int .i64 0, .string ⟨#[]⟩, .string ⟨#[]⟩, .int .i64 0, .slice (some ⟨W1.heap.size, 0, none⟩) 1 1] 24)) = W3 at HC3 HN3 HV3 ⊢
     generalize W1.heap.size = b7 at HN3 HV3 hrl ⊢
     have hb7p : b7 ≠ p ∧ b7 + 1 ≠ p := by omega
     have hb7 := hrl
     refine Calls.mono (KT.out (advR s) ⟨#[78, 79, 84]⟩ W3 HC3.out.rs) ?_
     rw [show bsl ⟨#[78, 79, 84]⟩ = [78, 79, 84] from rfl]
     cases hnt : takeB T (advR s) [78, 79, 84]
     ·rw [hnt] at HFs HRt
      have HRt2 := Lib.hid (show Tr.mk 7 0 [] [] 0 [ta] = r from HRt.out)
      rintro e W4 ⟨rfl, hp4, hl4⟩
      have HC4 := Lib.hid (HC3.out.call (show RsAt W4 p g cap long T (advR s) from hp4) hl4)
      have HN4 := Lib.hid (hl4.blk HN3.out hb7p.1)
      have HV4 := Lib.hid (hl4.blk HV3.out hb7p.2)
      have HFs := Lib.hid (show wantR T long (advR s) [78, 85, 76, 76] = s' from HFs.out)
      clear hp4 hl4 HC3 HN3 HV3
      go_simp
      repeat (first | go_values | go_skip | go_guarded | go_step | go_upon)
      refine Calls.mono (KW.out (advR s) ⟨#[78, 85, 76, 76]⟩ W4 HC4.out.rs) ?_
      rw [show bsl ⟨#[78, 85, 76, 76]⟩ = [78, 85, 76, 76] from rfl, HFs.out]
      rintro e W5 ⟨rfl, hp5, hl5⟩
      have HC := Lib.hid (HC4.out.call hp5 hl5)
      have HN5 := Lib.hid (hl5.blk HN4.out hb7p.1)
      have HV5 := Lib.hid (hl5.blk HV4.out hb7p.2)
      clear hp5 hl5 HC4 HN4 HV4
      obtain ⟨cv, fv⟩ := HV5.out.facts
      have hvl := HV5.out.lt
      have hcb := HC.out.bx
      have hcr := HC.out.res
      simp only [PN.cells] at hcb
      have HRr := Lib.hid hcr
      obtain ⟨cb, fb⟩ := hcb.facts
      obtain ⟨cr, fr⟩ := hcr.facts
      have hbl := hcb.lt
      have hrl := hcr.lt
      clear hcb hcr
      go_simp
      repeat (first | go_values | go_skip | go_guarded | go_step | go_upon)
      refine bodyPost_ret (ret_ndP rfl _ rfl rfl (blk6P HRr.out _ _ _ _ _ _)) rfl ?_
      rw [← HRt2.out]
      exact HC.out.fin ⟨7, 0, ⟨#[]⟩, ⟨#[]⟩, 0, some ⟨b7, 0, none⟩, 1, 1⟩ _ (oneTr _ 7 0 [] [] 0 b7 1 _ ta _ (Nat.le_refl _) (.inr hb7) (pnAt_of [⟨yk, yo, ys, yt, yn, yla, yln, ylc⟩] (t := 24) (by simpa [PN.cells] using HN5.out)) (HC.out.tr.mono fun g h _ => .inl h)) _ _ _ _ _ _
     ·rw [hnt] at HFs HRt
      have HRt2 := Lib.hid (show Tr.mk 7 0 [] [] 1 [ta] = r from HRt.out)
      rintro e W4 ⟨rfl, hp4, hl4⟩
      have HC4a := Lib.hid (HC3.out.call (show RsAt W4 p g cap long T (advR (advR s)) from hp4) hl4)
      have HN4a := Lib.hid (hl4.blk HN3.out hb7p.1)
      have HV4a := Lib.hid (hl4.blk HV3.out hb7p.2)
      have HFs := Lib.hid (show wantR T long (advR (advR s)) [78, 85, 76, 76] = s' from HFs.out)
      clear hp4 hl4 HC3 HN3 HV3
      obtain ⟨cv, fv⟩ := HV4a.out.facts
      have hvl := HV4a.out.lt
      go_simp
      repeat (first | go_values | go_skip | go_guarded | go_step | go_upon)
      have HC4 := Lib.hid (HC4a.out.store (show w.heap.size + 1 < b7 + 1 by omega) 4 (.int .i64 1))
      have HN4 := Lib.hid (HN4a.out.other (a := ⟨b7 + 1, 4, none⟩) (by show b7 ≠ b7 + 1; omega) (.int .i64 1))
      have HV4 := Lib.hid (show Blk (W4.setCell ⟨b7 + 1, 4, none⟩ (.int .i64 1)) (b7 + 1) #[.int .i64 7, .int .i64 0, .string ⟨#[]⟩, .string ⟨#[]⟩, .int .i64 1, .slice (some ⟨b7, 0, none⟩) 1 1] 24 from HV4a.out.set 4 (.int .i64 1))
      clear HC4a HN4a HV4a cv fv hvl
      generalize (W4.setCell ⟨b7 + 1, 4, none⟩ (.int .i64 1)) = W4b at HC4 HN4 HV4 ⊢
      refine Calls.mono (KW.out (advR (advR s)) ⟨#[78, 85, 76, 76]⟩ W4b HC4.out.rs) ?_
      rw [show bsl ⟨#[78, 85, 76, 76]⟩ = [78, 85, 76, 76] from rfl, HFs.out]
      rintro e W5 ⟨rfl, hp5, hl5⟩
      have HC := Lib.hid (HC4.out.call hp5 hl5)
      have HN5 := Lib.hid (hl5.blk HN4.out hb7p.1)
      have HV5 := Lib.hid (hl5.blk HV4.out hb7p.2)
      clear hp5 hl5 HC4 HN4 HV4
      obtain ⟨cv, fv⟩ := HV5.out.facts
      have hvl := HV5.out.lt
      have hcb := HC.out.bx
      have hcr := HC.out.res
      simp only [PN.cells] at hcb
      have HRr := Lib.hid hcr
      obtain ⟨cb, fb⟩ := hcb.facts
      obtain ⟨cr, fr⟩ := hcr.facts
      have hbl := hcb.lt
      have hrl := hcr.lt
      clear hcb hcr
      go_simp
      repeat (first | go_values | go_skip | go_guarded | go_step | go_upon)
      refine bodyPost_ret (ret_ndP rfl _ rfl rfl (blk6P HRr.out _ _ _ _ _ _)) rfl ?_
      rw [← HRt2.out]
      exact HC.out.fin ⟨7, 0, ⟨#[]⟩, ⟨#[]⟩, 1, some ⟨b7, 0, none⟩, 1, 1⟩ _ (oneTr _ 7 0 [] [] 1 b7 1 _ ta _ (Nat.le_refl _) (.inr hb7) (pnAt_of [⟨yk, yo, ys, yt, yn, yla, yln, ylc⟩] (t := 24) (by simpa [PN.cells] using HN5.out)) (HC.out.tr.mono fun g h _ => .inl h)) _ _ _ _ _ _
 ·rw [if_pos he] at HFf
  obtain ⟨rfl, hfs⟩ := Prod.mk.inj (Option.some.inj HFf.out)
  subst hfs
  have heb : (s.e != 0) = true := by simpa [bne] using he
  obtain ⟨E, hE⟩ : ∃ E, E = s.e := ⟨_, rfl⟩
  rw [← hE] at c2 heb
  have HC := HC0
  clear hE he HFf HC0
  have hcb := HC.out.bx
  have hcr := HC.out.res
  simp only [PN.cells] at hcb
  have HRr := Lib.hid hcr
  obtain ⟨cb, fb⟩ := hcb.facts
  obtain ⟨cr, fr⟩ := hcr.facts
  have hbl := hcb.lt
  have hrl := hcr.lt
  clear hcb hcr
  go_simp
  repeat (first | go_values | go_skip | go_guarded | go_step | go_upon)
  refine bodyPost_ret (ret_ndP rfl _ rfl rfl (blk6P HRr.out _ _ _ _ _ _)) rfl ?_
  exact HC.out.fin ⟨yk, yo, ys, yt, yn, yla, yln, ylc⟩ _ (HC.out.tr.mono fun g h _ => .inl h) _ _ _ _ _ _
end Go.Proofs.YtcgbpmeadohbkaaGreatDoor
