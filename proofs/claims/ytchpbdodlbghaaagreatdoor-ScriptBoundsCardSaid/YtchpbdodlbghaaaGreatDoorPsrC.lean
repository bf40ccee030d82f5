import Derived.Test.YtchpbdodlbghaaaGreatDoorPsrX
namespace Go.Proofs.YtchpbdodlbghaaaGreatDoor
open Go.RowKit Go.Lib
set_option maxRecDepth 100000

theorem ret_tk {t : Tmp} {fn : Func} (h : fn.results = #[.cell t 259]) (tmps : Array Value) {w : World} {g : Nat} {cs : Array Value} (hc : cs.size = 4) (hp : tmps.getD t undef = .pointer (some ⟨g, 0, none⟩)) (hg : Blk w g cs 259) :
    (results fn tmps).run Tryz.prog w = .ok (.agg cs) w := by
  have hp' : tmps[t]?.getD undef = .pointer (some ⟨g, 0, none⟩) := by simpa using hp
  have hr := run_loadVar_row w g 259 259 cs (0, 0) _ hg Tryz.underlying259 rfl (by rw [hc]; kernel_rfl)
  simp [results, h, hp', asAddr, hr]
theorem blk4P {w : World} {g : Nat} {a b c d : Value} {t : TypeId} (h : Blk w g #[a, b, c, d] t) (a' b' c' d' : Value) : Blk ((((w.setCell ⟨g, 0, none⟩ a').setCell ⟨g, 1, none⟩ b').setCell ⟨g, 2, none⟩ c').setCell ⟨g, 3, none⟩ d') g #[a', b', c', d'] t :=
  (((h.set 0 a').set 1 b').set 2 c').set 3 d'
theorem PsAt.other {w : World} {p g cap long : Nat} {T : List Lx.Tok} {s : PSt} (h : PsAt w p g cap long T s) {x : Nat} (hp : p ≠ x) (hg : g ≠ x) (o : Nat) (v : Value) : PsAt (w.setCell ⟨x, o, none⟩ v) p g cap long T s :=
  ⟨h.blk.other (a := ⟨x, o, none⟩) hp v, h.tok.ext (heap_setCell_other w ⟨x, o, none⟩ g v hg) (by simp), h.ne, h.le, h.cap, h.few⟩
set_option maxHeartbeats 4000000 in
theorem ptext_any (p g cap long : Nat) (T : List Lx.Tok) (s : PSt) (w : World) (h : PsAt w p g cap long T s) :
    Calls Tryz.prog 462 #[.pointer (some ⟨p, 0, none⟩)] w fun e w' => e = .returned (.string ⟨(textP T s).toArray⟩) ∧ Below w.heap.size w w' := by
  have mixed : Tryz.prog.follows .mixedOrders = true := by kernel_rfl
  have HP := Lib.hid h
  have HB := Lib.hid h.blk
  obtain ⟨i, deep, at_, ee⟩ := s
  have hle := h.le
  have hcap := h.cap
  obtain ⟨n, hn⟩ : ∃ n, n = T.length := ⟨_, rfl⟩
  simp only [psC] at HB hle
  rw [← hn] at HB hle hcap
  obtain ⟨ga, hga⟩ : ∃ ga, ga = psA g n := ⟨_, rfl⟩
  rw [← hga] at HB
  clear h
  obtain ⟨cb, fb⟩ := HB.out.facts
  have hbl := HB.out.lt
  obtain ⟨A, hA⟩ : ∃ A, A = textP T ⟨i, deep, at_, ee⟩ := ⟨_, rfl⟩
  rw [← hA]
  unfold textP at hA
  simp only at hA
  cases hti : T[i]? with
  | none =>
    rw [hti] at hA
    subst hA
    have hge : i = n := by have := List.getElem?_eq_none_iff.1 hti; omega
    subst hge
    clear hn hti HP HB
    go_enter Tryz.func462, Tryz.ntmps462
    go_simp
    repeat (first | go_values | go_skip | go_guarded | go_step | go_upon)
    go_quiet (fail)
    go_wp2
    go_returns
    exact ⟨rfl, bel_drewN _ _⟩
  | some tok =>
    have hlt : i < n := by rw [hn]; exact (List.getElem?_eq_some_iff.1 hti).1
    have hltI : (i : Int) < (n : Int) := by omega
    rw [psA_pos (by omega)] at hga
    subst hga
    have hne : ((i : Int) == (n : Int)) = false := by rw [beq_eq_false_iff_ne]; omega
    have hne2 : (i == n) = false := by rw [beq_eq_false_iff_ne]; omega
    obtain ⟨_, q1, _, _⟩ := HP.out.tok.get hti
    have hgl := HP.out.tok.1
    obtain ⟨tk, tt, tn, tp⟩ := tok
    rw [hti] at hA
    simp only at q1 hA
    subst hA
    clear hn hti HP HB hle
    go_enter Tryz.func462, Tryz.ntmps462
    go_simp
    repeat (first | go_values | go_skip | go_guarded | go_step | go_upon)
    go_quiet (fail)
    go_wp2
    go_quiet (fail)
    go_wp2
    go_returns
    exact ⟨rfl, Ext.trans (bel_drewN _ _) (bel_drewN _ _)⟩
def aheadB (T : List Lx.Tok) (s : PSt) (d : Nat) (kind : Int) (x : List UInt8) : Bool := match T[s.i + d]? with | some t => ((t.kind : Int) == kind) && (t.text == x) | none => false
set_option maxHeartbeats 4000000 in
theorem ahead_any (p g cap long : Nat) (T : List Lx.Tok) (s : PSt) (d : Nat) (hd : d ≤ 4) (kind : Int) (text : ByteArray) (w : World) (h : PsAt w p g cap long T s) :
    Calls Tryz.prog 461 #[.pointer (some ⟨p, 0, none⟩), .int .i64 d, .int .i64 kind, .string text] w fun e w' => e = .returned (.bool (aheadB T s d kind (bsl text))) ∧ Below w.heap.size w w' := by
  have mixed : Tryz.prog.follows .mixedOrders = true := by kernel_rfl
  have HP := Lib.hid h
  have HB := Lib.hid h.blk
  obtain ⟨i, deep, at_, ee⟩ := s
  have hle := h.le
  have hcap := h.cap
  have hfew := h.few
  obtain ⟨n, hn⟩ : ∃ n, n = T.length := ⟨_, rfl⟩
  simp only [psC] at HB hle
  rw [← hn] at HB hle hcap hfew
  obtain ⟨ga, hga⟩ : ∃ ga, ga = psA g n := ⟨_, rfl⟩
  rw [← hga] at HB
  clear h
  obtain ⟨cb, fb⟩ := HB.out.facts
  have hbl := HB.out.lt
  unfold aheadB
  simp only
  obtain ⟨J, hJd⟩ : ∃ J, J = i + d := ⟨_, rfl⟩
  obtain ⟨D, hD⟩ : ∃ D : Int, D = (d : Int) := ⟨_, rfl⟩
  rw [← hD, ← hJd]
  have hsum : wrap64 ((i : Int) + D) = (J : Int) := (IntWalk.wrap64_in _ (by omega)).trans (by omega)
  have hsum2 := (IntWalk.i64_in ((i : Int) + D) (by omega)).trans (show (i : Int) + D = (J : Int) by omega)
  cases hti : T[J]? with
  | none =>
    have hge : n ≤ J := by rw [hn]; exact List.getElem?_eq_none_iff.1 hti
    have hnl : decide ((J : Int) < (n : Int)) = false := by rw [decide_eq_false_iff_not]; omega
    have hnl2 : decide (J < n) = false := by rw [decide_eq_false_iff_not]; omega
    simp only
    clear hle hcap hfew hn hti hge HP HB hJd hD hd
    go_enter Tryz.func461, Tryz.ntmps461
    go_simp
    repeat (first | go_values | go_skip | go_guarded | go_step | go_upon)
    go_quiet (fail)
    go_wp2
    go_returns
    exact ⟨rfl, bel_drewN _ _⟩
  | some tok =>
    have hlt : J < n := by rw [hn]; exact (List.getElem?_eq_some_iff.1 hti).1
    have hltI : (J : Int) < (n : Int) := by omega
    rw [psA_pos (by omega)] at hga
    subst hga
    have hltB : decide ((J : Int) < (n : Int)) = true := by rw [decide_eq_true_iff]; exact hltI
    obtain ⟨q0, q1, _, _⟩ := HP.out.tok.get hti
    have hgl := HP.out.tok.1
    obtain ⟨tk', tt, tn, tp⟩ := tok
    simp only at q0 q1 ⊢
    obtain ⟨tk, htk⟩ : ∃ z : Int, z = (tk' : Int) := ⟨_, rfl⟩
    rw [← htk] at q0 ⊢
    have HQ := eq_texts tt text
    clear hle hn hti htk HP HB hJd hD hd hcap hfew
    cases hk : tk == kind
    · rw [Bool.false_and]
      clear HQ
      go_enter Tryz.func461, Tryz.ntmps461
      go_simp
      repeat (first | go_values | go_skip | go_guarded | go_step | go_upon)
      go_quiet (fail)
      go_wp2
      go_returns
      exact ⟨rfl, bel_drewN _ _⟩
    · rw [Bool.true_and]
      go_enter Tryz.func461, Tryz.ntmps461
      go_simp
      repeat (first | go_values | go_skip | go_guarded | go_step | go_upon)
      go_quiet (fail)
      go_wp2
      go_returns
      exact ⟨rfl, bel_drewN _ _⟩
def zTok : Lx.Tok := ⟨0, [], 0, 0⟩
def hasB (T : List Lx.Tok) (s : PSt) (kind : Int) : Bool := (s.e == 0) && (match T[s.i]? with | some t => (t.kind : Int) == kind | none => false)
def takeT (T : List Lx.Tok) (s : PSt) (kind : Int) : Lx.Tok := if hasB T s kind then (T[s.i]?).getD zTok else zTok
def takeP (T : List Lx.Tok) (long : Nat) (s : PSt) (kind : Int) : PSt := if hasB T s kind then { s with i := s.i + 1 } else wrongP T long 10 s
def tkV (t : Lx.Tok) : Value := .agg #[.int .i64 t.kind, .string ⟨t.text.toArray⟩, .int .i64 t.n, .int .i64 t.pos]
set_option maxHeartbeats 8000000 in
theorem take_any (p g cap long : Nat) (T : List Lx.Tok) (s : PSt) (kind : Int) (w : World) (h : PsAt w p g cap long T s) :
    Calls Tryz.prog 196 #[.pointer (some ⟨p, 0, none⟩), .int .i64 kind] w fun e w' => e = .returned (tkV (takeT T s kind)) ∧ PsAt w' p g cap long T (takeP T long s kind) ∧ LeP p w w' := by
  have mixed : Tryz.prog.follows .mixedOrders = true := by kernel_rfl
  have HX0 := Lib.hid (show Ext w (w.alloc (.cells #[.int .i64 0, .string ⟨#[]⟩, .int .i64 0, .int .i64 0] 259)) from (Ext.refl w).alloc _)
  have HR0 := Lib.hid (Blk.new w #[.int .i64 0, .string ⟨#[]⟩, .int .i64 0, .int .i64 0] 259 rfl)
  have hpw : p ≠ w.heap.size := by have := h.blk.lt; omega
  have hgw : g ≠ w.heap.size := by have := h.tok.1; omega
  have hRp : w.heap.size ≠ p := Ne.symm hpw
  have KW := Lib.hid (fun W (hW : Ext w W) => wrong_any p g cap long T s 10 W (h.ext hW))
  have HP := Lib.hid (h.ext HX0.out)
  have HB := Lib.hid HP.out.blk
  obtain ⟨i, deep, at_, ee⟩ := s
  have hle := h.le
  have hcap := h.cap
  have hfew := h.few
  obtain ⟨n, hn⟩ : ∃ n, n = T.length := ⟨_, rfl⟩
  simp only [psC] at HB hle
  rw [← hn] at HB hle hcap hfew
  obtain ⟨ga, hga⟩ : ∃ ga, ga = psA g n := ⟨_, rfl⟩
  rw [← hga] at HB
  clear h
  unfold takeT takeP
  have hhas : hasB T ⟨i, deep, at_, ee⟩ kind = ((ee == 0) && (match T[i]? with | some t => (t.kind : Int) == kind | none => false)) := rfl
  obtain ⟨b, hb⟩ : ∃ b, b = hasB T ⟨i, deep, at_, ee⟩ kind := ⟨_, rfl⟩
  rw [← hb]
  rw [← hb] at hhas
  clear hb
  simp only
  obtain ⟨cb, fb⟩ := HB.out.facts
  have hbl := HB.out.lt
  cases he : ee == 0
  · rw [he, Bool.false_and] at hhas
    subst hhas
    have hb0 : (ee != 0) = true := by simp only [bne, he]; rfl
    simp only [if_neg (show ¬ (false = true) by decide), tkV, zTok]
    clear hle hcap hfew hn
    go_enter Tryz.func196, Tryz.ntmps196
    go_simp
    repeat (first | go_values | go_skip | go_guarded | go_step | go_upon)
    go_quiet (fail)
    go_simp
    repeat (first | go_values | go_skip | go_guarded | go_step | go_upon)
    refine Calls.mono (KW.out _ (HX0.out.trans (bel_drewN _ _))) ?_
    rintro e W2 ⟨rfl, hP2, hL2⟩
    have HR2 := Lib.hid (hL2.blk (HR0.out.keep (bel_drewN _ _)) hRp)
    have HL2 := Lib.hid (((LeP.ofExt HX0.out).trans (LeP.ofExt (bel_drewN _ _))).trans hL2)
    have HP2 := Lib.hid hP2
    clear hP2 hL2 HP HB cb fb hbl HR0 HX0
    obtain ⟨cR, fR⟩ := HR2.out.facts
    have hRl := HR2.out.lt
    go_simp
    repeat (first | go_values | go_skip | go_guarded | go_step | go_upon)
    refine bodyPost_ret (ret_tk rfl _ rfl rfl (blk4P HR2.out _ _ _ _)) rfl ?_
    exact ⟨rfl, (((HP2.out.other hpw hgw 0 _).other hpw hgw 1 _).other hpw hgw 2 _).other hpw hgw 3 _, (((HL2.out.other (Nat.le_refl _) 0 _).other (Nat.le_refl _) 1 _).other (Nat.le_refl _) 2 _).other (Nat.le_refl _) 3 _⟩
  · rw [he, Bool.true_and] at hhas
    have hb0 : (ee != 0) = false := by simp only [bne, he]; rfl
    cases hti : T[i]? with
    | none =>
      rw [hti] at hhas
      simp only at hhas
      subst hhas
      have hge : i = n := by have := List.getElem?_eq_none_iff.1 hti; omega
      subst hge
      have heq : ((i : Int) == (i : Int)) = true := by simp
      simp only [if_neg (show ¬ (false = true) by decide), tkV, zTok]
      clear hle hcap hfew hn hti
      go_enter Tryz.func196, Tryz.ntmps196
      go_simp
      repeat (first | go_values | go_skip | go_guarded | go_step | go_upon)
      go_quiet (fail)
      go_simp
      repeat (first | go_values | go_skip | go_guarded | go_step | go_upon)
      refine Calls.mono (KW.out _ (HX0.out.trans (bel_drewN _ _))) ?_
      rintro e W2 ⟨rfl, hP2, hL2⟩
      have HR2 := Lib.hid (hL2.blk (HR0.out.keep (bel_drewN _ _)) hRp)
      have HL2 := Lib.hid (((LeP.ofExt HX0.out).trans (LeP.ofExt (bel_drewN _ _))).trans hL2)
      have HP2 := Lib.hid hP2
      clear hP2 hL2 HP HB cb fb hbl HR0 HX0
      obtain ⟨cR, fR⟩ := HR2.out.facts
      have hRl := HR2.out.lt
      go_simp
      repeat (first | go_values | go_skip | go_guarded | go_step | go_upon)
      refine bodyPost_ret (ret_tk rfl _ rfl rfl (blk4P HR2.out _ _ _ _)) rfl ?_
      exact ⟨rfl, (((HP2.out.other hpw hgw 0 _).other hpw hgw 1 _).other hpw hgw 2 _).other hpw hgw 3 _, (((HL2.out.other (Nat.le_refl _) 0 _).other (Nat.le_refl _) 1 _).other (Nat.le_refl _) 2 _).other (Nat.le_refl _) 3 _⟩
    | some tok =>
      rw [hti] at hhas
      have hlt : i < n := by rw [hn]; exact (List.getElem?_eq_some_iff.1 hti).1
      have hltI : (i : Int) < (n : Int) := by omega
      rw [psA_pos (by omega)] at hga
      subst hga
      have hne : ((i : Int) == (n : Int)) = false := by rw [beq_eq_false_iff_ne]; omega
      have hne2 : (i == n) = false := by rw [beq_eq_false_iff_ne]; omega
      obtain ⟨q0, q1, q2, q3⟩ := HP.out.tok.get hti
      have hgl := HP.out.tok.1
      obtain ⟨tk', tt, tn, tp⟩ := tok
      simp only at q0 q1 q2 q3 hhas
      obtain ⟨tk, htk⟩ : ∃ z : Int, z = (tk' : Int) := ⟨_, rfl⟩
      rw [← htk] at q0 hhas
      cases hk : tk == kind
      · rw [hk] at hhas
        subst hhas
        have hbk : (tk != kind) = true := by simp only [bne, hk]; rfl
        simp only [if_neg (show ¬ (false = true) by decide), tkV, zTok]
        clear hle hcap hfew hn hti htk
        go_enter Tryz.func196, Tryz.ntmps196
        clear q1 q2 q3
        go_simp
        repeat (first | go_values | go_skip | go_guarded | go_step | go_upon)
        go_quiet (fail)
        go_simp
        repeat (first | go_values | go_skip | go_guarded | go_step | go_upon)
        refine Calls.mono (KW.out _ (HX0.out.trans (bel_drewN _ _))) ?_
        rintro e W2 ⟨rfl, hP2, hL2⟩
        have HR2 := Lib.hid (hL2.blk (HR0.out.keep (bel_drewN _ _)) hRp)
        have HL2 := Lib.hid (((LeP.ofExt HX0.out).trans (LeP.ofExt (bel_drewN _ _))).trans hL2)
        have HP2 := Lib.hid hP2
        clear hP2 hL2 HP HB cb fb hbl HR0 HX0
        obtain ⟨cR, fR⟩ := HR2.out.facts
        have hRl := HR2.out.lt
        go_simp
        repeat (first | go_values | go_skip | go_guarded | go_step | go_upon)
        refine bodyPost_ret (ret_tk rfl _ rfl rfl (blk4P HR2.out _ _ _ _)) rfl ?_
        exact ⟨rfl, (((HP2.out.other hpw hgw 0 _).other hpw hgw 1 _).other hpw hgw 2 _).other hpw hgw 3 _, (((HL2.out.other (Nat.le_refl _) 0 _).other (Nat.le_refl _) 1 _).other (Nat.le_refl _) 2 _).other (Nat.le_refl _) 3 _⟩
      · rw [hk] at hhas
        subst hhas
        have hbk : (tk != kind) = false := by simp only [bne, hk]; rfl
        simp only [if_true, Option.getD_some, tkV]
        rw [← htk]
        have HN := Lib.hid hn
        have HT := Lib.hid HP.out.tok
        have HTI := Lib.hid hti
        have HTK := Lib.hid htk
        clear hn hti htk hle
        have hsum := IntWalk.i64_in ((i : Int) + 1) (by omega)
        have hself := IntWalk.i64_in (i : Int) (by omega)
        have hself2 := IntWalk.wrap64_in (i : Int) (by omega)
        go_enter Tryz.func196, Tryz.ntmps196
        go_simp
        repeat (first | go_values | go_skip | go_guarded | go_step | go_upon)
        go_quiet (fail)
        go_simp
        repeat (first | go_values | go_skip | go_guarded | go_step | go_upon)
        have hx1 := HX0.out.trans (bel_drewN (w.alloc (.cells #[.int .i64 0, .string ⟨#[]⟩, .int .i64 0, .int .i64 0] 259)) nq)
        have HB1 := Lib.hid ((HB.out.keep (bel_drewN _ nq)).set 1 (.int .i64 ((i : Int) + 1)))
        have HR1 := Lib.hid ((HR0.out.keep (bel_drewN _ nq)).other (a := ⟨p, 1, none⟩) hRp (.int .i64 ((i : Int) + 1)))
        have HL1 := Lib.hid ((LeP.ofExt (p := p) hx1).trans (LeP.set 1 (.int .i64 ((i : Int) + 1))))
        have HT1 := Lib.hid (HT.out.ext (w' := ((w.alloc (.cells #[.int .i64 0, .string ⟨#[]⟩, .int .i64 0, .int .i64 0] 259)).drewN nq).setCell ⟨p, 1, none⟩ (.int .i64 ((i : Int) + 1))) (heap_setCell_other _ ⟨p, 1, none⟩ g _ HP.out.ne) (by simp))
        generalize ((w.alloc (.cells #[.int .i64 0, .string ⟨#[]⟩, .int .i64 0, .int .i64 0] 259)).drewN nq).setCell ⟨p, 1, none⟩ (.int .i64 ((i : Int) + 1)) = W1 at HB1 HR1 HL1 HT1 ⊢
        clear cb fb hbl q0 q1 q2 q3 hgl HX0 HR0 KW
        have HF := Lib.hid (show ∀ W, Ext W1 W → (∀ j, W.cell? ⟨p, j, none⟩ = (#[.slice (some ⟨g, 0, none⟩) n cap, .int .i64 ((i : Int) + 1), .int .i64 long, .int .i64 deep, .int .i64 at_, .int .i64 ee] : Array Value)[j]?) ∧ W.cell? ⟨g, i * 4, none⟩ = some (.int .i64 tk) ∧ W.cell? ⟨g, i * 4 + 1, none⟩ = some (.string ⟨tt.toArray⟩) ∧ W.cell? ⟨g, i * 4 + 2, none⟩ = some (.int .i64 tn) ∧ W.cell? ⟨g, i * 4 + 3, none⟩ = some (.int .i64 tp) from fun W hW => by
          obtain ⟨q0, q1, q2, q3⟩ := (HT1.out.ext (hW.block g HT1.out.1) hW.size).get HTI.out
          rw [HTK.out]
          exact ⟨(HB1.out.keep hW).cell, q0, q1, q2, q3⟩)
        refine wp_parZF [] (leX) [0, 1, 2, 3, 4, 5, 6, 7, 8, 9, 10, 11] 11 11 (fun
            | 0 => fun _ v _ => v = .pointer (some ⟨p, 0, none⟩)
            | 1 => fun _ v _ => v = .pointer (some ⟨p, 0, none⟩)
            | 2 => fun _ v _ => v = .pointer (some ⟨p, 0, none⟩)
            | 3 => fun _ v _ => v = .slice (some ⟨g, 0, none⟩) n cap
            | 4 => fun _ v _ => v = .pointer (some ⟨p, 0, none⟩)
            | 5 => fun _ v _ => v = .pointer (some ⟨p, 0, none⟩)
            | 6 => fun _ v _ => v = .pointer (some ⟨p, 1, none⟩)
            | 7 => fun _ v _ => v = .int .i64 ((i : Int) + 1)
            | 8 => fun _ v _ => v = .int .i64 i
            | 9 => fun _ v _ => v = .pointer (some ⟨g, i * 4, none⟩)
            | 10 => fun _ v _ => v = .agg #[.int .i64 tk, .string ⟨tt.toArray⟩, .int .i64 tn, .int .i64 tp]
            | _ => fun _ _ _ => True) (fun
            | _ => undef) (by kernel_rfl) (by kernel_rfl) (by kernel_rfl) ?_ ?_ ?_ ?_ ?_
        · simp (maxSteps := 20000000) only [permL, permOp, List.filterMap_cons, List.filterMap_nil, List.getElem?_cons_succ, List.getElem?_cons_zero, Option.map_some, Option.map_none, List.take_succ_cons, List.take_zero, ParAllG, Act.put, List.setIfInBounds_toArray, List.set_cons_succ, List.set_cons_zero]
          refine ⟨?_, ?_, ?_, ?_, ?_, ?_, ?_, ?_, ?_, ?_, ?_, trivial⟩
          · intro vals W hx hd
            have hW := HF.out W hx
            simp [PDepsG, pdeps, Region.binds, List.idxOf_cons] at hd
            first
              | refine ParObG.plain rfl ?_
              | refine ParObG.wanted (by simp [Region.wanted, yielded, hd]) ?_
            go_simp
            exact ParPostG.same (leX) fun _ _ => rfl
          · intro vals W hx hd
            have hW := HF.out W hx
            simp [PDepsG, pdeps, Region.binds, List.idxOf_cons] at hd
            first
              | refine ParObG.plain rfl ?_
              | refine ParObG.wanted (by simp [Region.wanted, yielded, hd]) ?_
            go_simp
            exact ParPostG.same (leX) fun _ _ => rfl
          · intro vals W hx hd
            have hW := HF.out W hx
            simp [PDepsG, pdeps, Region.binds, List.idxOf_cons] at hd
            first
              | refine ParObG.plain rfl ?_
              | refine ParObG.wanted (by simp [Region.wanted, yielded, hd]) ?_
            go_simp
            exact ParPostG.same (leX) fun _ _ => rfl
          · intro vals W hx hd
            have hW := HF.out W hx
            simp [PDepsG, pdeps, Region.binds, List.idxOf_cons] at hd
            first
              | refine ParObG.plain rfl ?_
              | refine ParObG.wanted (by simp [Region.wanted, yielded, hd]) ?_
            go_simp
            exact ParPostG.same (leX) fun _ _ => rfl
          · intro vals W hx hd
            have hW := HF.out W hx
            simp [PDepsG, pdeps, Region.binds, List.idxOf_cons] at hd
            first
              | refine ParObG.plain rfl ?_
              | refine ParObG.wanted (by simp [Region.wanted, yielded, hd]) ?_
            go_simp
            exact ParPostG.same (leX) fun _ _ => rfl
          · intro vals W hx hd
            have hW := HF.out W hx
            simp [PDepsG, pdeps, Region.binds, List.idxOf_cons] at hd
            first
              | refine ParObG.plain rfl ?_
              | refine ParObG.wanted (by simp [Region.wanted, yielded, hd]) ?_
            go_simp
            exact ParPostG.same (leX) fun _ _ => rfl
          · intro vals W hx hd
            have hW := HF.out W hx
            simp [PDepsG, pdeps, Region.binds, List.idxOf_cons] at hd
            first
              | refine ParObG.plain rfl ?_
              | refine ParObG.wanted (by simp [Region.wanted, yielded, hd]) ?_
            go_simp
            exact ParPostG.same (leX) fun _ _ => rfl
          · intro vals W hx hd
            have hW := HF.out W hx
            simp [PDepsG, pdeps, Region.binds, List.idxOf_cons] at hd
            first
              | refine ParObG.plain rfl ?_
              | refine ParObG.wanted (by simp [Region.wanted, yielded, hd]) ?_
            go_simp
            exact ParPostG.same (leX) fun _ _ => rfl
          · intro vals W hx hd
            have hW := HF.out W hx
            simp [PDepsG, pdeps, Region.binds, List.idxOf_cons] at hd
            first
              | refine ParObG.plain rfl ?_
              | refine ParObG.wanted (by simp [Region.wanted, yielded, hd]) ?_
            go_simp
            exact ParPostG.same (leX) fun _ _ => rfl
          · intro vals W hx hd
            have hW := HF.out W hx
            simp [PDepsG, pdeps, Region.binds, List.idxOf_cons] at hd
            first
              | refine ParObG.plain rfl ?_
              | refine ParObG.wanted (by simp [Region.wanted, yielded, hd]) ?_
            go_simp
            exact ParPostG.same (leX) fun _ _ => rfl
          · intro vals W hx hd
            have hW := HF.out W hx
            simp [PDepsG, pdeps, Region.binds, List.idxOf_cons] at hd
            first
              | refine ParObG.plain rfl ?_
              | refine ParObG.wanted (by simp [Region.wanted, yielded, hd]) ?_
            go_simp
            exact ParPostG.same (leX) fun _ _ => rfl
        · simp (maxSteps := 20000000) only [permL, permOp, List.filterMap_cons, List.filterMap_nil, List.getElem?_cons_succ, List.getElem?_cons_zero, Option.map_some, Option.map_none, List.drop_succ_cons, List.drop_zero, List.take_succ_cons, List.take_zero, Nat.reduceSub, ZAll, ParEnd, Act.put, List.setIfInBounds_toArray, List.set_cons_succ, List.set_cons_zero]
        · intro i hi
          cases hi
        · intro i hi
          cases hi
        intro vals W hx hf hz hdist
        simp (maxSteps := 20000000) only [permL, permOp, List.filterMap_cons, List.filterMap_nil, List.getElem?_cons_succ, List.getElem?_cons_zero, Option.map_some, Option.map_none, ParFactsG, List.take_succ_cons, List.take_zero, and_true, Nat.reduceAdd] at hf
        obtain ⟨f0, f1, f2, f3, f4, f5, f6, f7, f8, f9, f10⟩ := hf
        clear hz
        simp (maxSteps := 20000000) only [permL, permOp, List.filterMap_cons, List.filterMap_nil, List.getElem?_cons_succ, List.getElem?_cons_zero, Option.map_some, Option.map_none, List.drop_succ_cons, List.drop_zero, List.take_succ_cons, List.take_zero, Nat.reduceSub, ParEnd, ZTail, Act.put, List.setIfInBounds_toArray, List.set_cons_succ, List.set_cons_zero, Nat.reduceAdd, f0, f1, f2, f3, f4, f5, f6, f7, f8, f9, f10]
        clear f0 f1 f2 f3 f4 f5 f6 f7 f8 f9 f10
        have HR2 := Lib.hid (HR1.out.keep hx)
        have HL2 := Lib.hid (HL1.out.trans (LeP.ofExt hx))
        have HB2 := Lib.hid (HB1.out.keep hx)
        have HT2 := Lib.hid (HT1.out.ext (hx.block g HT1.out.1) hx.size)
        clear HF HB1 HR1 HL1 HT1
        obtain ⟨cR, fR⟩ := HR2.out.facts
        have hRl := HR2.out.lt
        refine ⟨?_⟩
        go_simp
        repeat (first | go_values | go_skip | go_guarded | go_step | go_upon)
        refine bodyPost_ret (ret_tk rfl _ rfl rfl (blk4P HR2.out _ _ _ _)) rfl ?_
        refine ⟨rfl, ?_, (((HL2.out.other (Nat.le_refl _) 0 _).other (Nat.le_refl _) 1 _).other (Nat.le_refl _) 2 _).other (Nat.le_refl _) 3 _⟩
        have hPs : PsAt W p g cap long T ⟨i + 1, deep, at_, ee⟩ := by
          refine ⟨?_, HT2.out, HP.out.ne, ?_, HP.out.cap, HP.out.few⟩
          · have hB := HB2.out
            rw [← psA_pos (g := g) (show 0 < n by have := HN.out; have := (List.getElem?_eq_some_iff.1 HTI.out).1; omega), HN.out] at hB
            exact hB
          · show i + 1 ≤ T.length
            have := HN.out
            omega
        exact (((hPs.other hpw hgw 0 _).other hpw hgw 1 _).other hpw hgw 2 _).other hpw hgw 3 _
end Go.Proofs.YtchpbdodlbghaaaGreatDoor
