import Derived.Test.YtchpbdodlbghaaaGreatDoorPsrM
namespace Go.Proofs.YtchpbdodlbghaaaGreatDoor
open Go.RowKit Go.Lib
set_option maxRecDepth 100000

def ownF (rec : Nat → PSt → Option (Tr × PSt)) (T : List Lx.Tok) (long f k : Nat) (s : PSt) : Option (Tr × PSt) :=
  if k = 3 then notF rec T long 3 2 [78, 79, 84] 21 s
  else if k = 4 then testF rec T long 4 s
  else if k = 10 then notF rec T long 10 5 [45] 20 s
  else if k = 11 then collF rec T long f 11 s
  else if k = 12 then plainF rec T long s
  else if 1 ≤ k ∧ k ≤ 9 then rowF rec T f k s else none
def lev (T : List Lx.Tok) (long : Nat) : Nat → Nat → PSt → Option (Tr × PSt)
  | 0, _, _ => none
  | f + 1, k, s => if s.e = 0 then ownF (lev T long f) T long f k s else some (zTr, s)
theorem lev_ok (p g cap long : Nat) (T : List Lx.Tok) : ∀ f, LevOk p g cap long T (lev T long f)
  | 0 => fun k kz s r s' w _ _ hf _ => by cases hf
  | f + 1 => fun k kz s r s' w hkz hk hf h => by
    have ih := lev_ok p g cap long T f
    subst hkz
    rw [lev] at hf
    by_cases he : s.e = 0
    · rw [if_pos he] at hf
      have hb : (s.e == 0) = true := by simpa using he
      unfold ownF at hf
      by_cases k3 : k = 3
      · subst k3
        rw [if_pos rfl] at hf
        exact level_own _ 365 (fun _ => by kernel_rfl) (fun _ _ => by kernel_rfl) p g cap long T s hb r s' w h fun W hW => pnot_any p g cap long T _ ih 3 (by decide) s r s' W hf hW
      rw [if_neg k3] at hf
      by_cases k4 : k = 4
      · subst k4
        rw [if_pos rfl] at hf
        exact level_own _ 366 (fun _ => by kernel_rfl) (fun _ _ => by kernel_rfl) p g cap long T s hb r s' w h fun W hW => ptest_any p g cap long T _ ih 4 (by decide) s r s' W hf hW
      rw [if_neg k4] at hf
      by_cases k10 : k = 10
      · subst k10
        rw [if_pos rfl] at hf
        exact level_own _ 367 (fun _ => by kernel_rfl) (fun _ _ => by kernel_rfl) p g cap long T s hb r s' w h fun W hW => pneg_any p g cap long T _ ih 10 (by decide) s r s' W hf hW
      rw [if_neg k10] at hf
      by_cases k11 : k = 11
      · subst k11
        rw [if_pos rfl] at hf
        exact level_own _ 368 (fun _ => by kernel_rfl) (fun _ _ => by kernel_rfl) p g cap long T s hb r s' w h fun W hW => collate_any p g cap long T _ ih f 11 (by decide) s r s' W hf hW
      rw [if_neg k11] at hf
      by_cases k12 : k = 12
      · subst k12
        rw [if_pos rfl] at hf
        exact level_own _ 369 (fun _ => by kernel_rfl) (fun _ _ => by kernel_rfl) p g cap long T s hb r s' w h fun W hW => plain_any _ p g cap long T _ ih s r s' W hf hW
      rw [if_neg k12] at hf
      by_cases k9 : 1 ≤ k ∧ k ≤ 9
      · rw [if_pos k9] at hf
        have hrow : ∀ W, PsAt W p g cap long T s → Calls Tryz.prog 364 #[.pointer (some ⟨p, 0, none⟩), .int .i64 k] W (LevPost p g cap long T r s' W) := fun W hW => row_any p g cap long T _ ih f k (by omega) s r s' W hf hW
        rcases (by omega : k = 1 ∨ k = 2 ∨ k = 5 ∨ k = 6 ∨ k = 7 ∨ k = 8 ∨ k = 9) with rfl | rfl | rfl | rfl | rfl | rfl | rfl
        all_goals exact level_own _ 364 (fun _ => by kernel_rfl) (fun _ _ => by kernel_rfl) p g cap long T s hb r s' w h hrow
      · rw [if_neg k9] at hf; cases hf
    · rw [if_neg he] at hf
      obtain ⟨rfl, rfl⟩ := Prod.mk.inj (Option.some.inj hf)
      exact level_err _ p g cap long T s (by simpa using he) w h
end Go.Proofs.YtchpbdodlbghaaaGreatDoor
namespace Go.Proofs.YtchpbdodlbghaaaGreatDoor
open Go.RowKit Go.Lib
set_option maxRecDepth 100000

theorem tokAt_own {w : World} {B : Nat} {v : Value} {L : List Lx.Tok} (h : w.ownsRow B 259 4 v L.length (tokCs L)) (h0 : L ≠ []) : ∃ g cap, v = .slice (some ⟨g, 0, none⟩) L.length cap ∧ L.length ≤ cap ∧ B ≤ g ∧ TokAt w g L := by
  obtain ⟨_, ho⟩ := h
  rcases ho with ⟨_, h1⟩ | ⟨g, cap, cur, rfl, hge, hb, hn, _, hs, ht⟩
  · exact absurd (List.eq_nil_of_length_eq_zero h1) h0
  · refine ⟨g, cap, rfl, by omega, hge, lt_of_block hb, fun j hj => ?_⟩
    rw [cell_of_row w g _ cur _ (0, 0) hb, ← ht, List.getElem?_take, if_pos (by omega), Array.getElem?_toList]
def BeginPost (T : List Lx.Tok) (long : Nat) (w : World) (e : Ending) (w' : World) : Prop := ∃ p g cap, e = .returned (.pointer (some ⟨p, 0, none⟩)) ∧ w.heap.size ≤ p ∧ w.heap.size ≤ g ∧ PsAt w' p g cap long T ⟨0, 0, 0, 0⟩ ∧ Below w.heap.size w w'
set_option maxHeartbeats 4000000 in
theorem begin_any (s : ByteArray) (T : List Lx.Tok) (hl : Lx.lex (bsl s) = .ok T) (h0 : T ≠ []) (hT : T.length ≤ 4000) (w : World) (hG : GlobL w) (hs : s.size ≤ 4000) :
    Calls Tryz.prog 47 #[.string s] w (BeginPost T s.size w) := by
  have KT := Lib.hid (tokens_any s w hG hs)
  rw [hl] at KT
  clear hG hl
  go_enter Tryz.func47, Tryz.ntmps47
  go_simp
  repeat (first | go_values | go_skip | go_guarded | go_step | go_upon)
  refine Calls.mono KT.out ?_
  rintro e W1 ⟨⟨v, rfl, hown⟩, hb1⟩
  obtain ⟨g, cap, rfl, hcap, hge, hat⟩ := tokAt_own hown h0
  have HT := Lib.hid hat
  have HX := Lib.hid hb1
  clear hown hat hb1 KT
  go_simp
  repeat (first | go_values | go_skip | go_guarded | go_step | go_upon)
  go_returns
  have hx1 : Ext W1 (W1.alloc (.cells #[.slice (some ⟨g, 0, none⟩) T.length cap, .int .i64 0, .int .i64 s.size, .int .i64 0, .int .i64 0, .int .i64 0] 168)) := (Ext.refl W1).alloc _
  refine ⟨W1.heap.size, g, cap, rfl, HX.out.size, hge, ⟨by
    unfold psC
    rw [psA_pos (List.length_pos_iff.2 h0)]
    exact Blk.new W1 _ 168 rfl, HT.out.ext (hx1.block g HT.out.1) hx1.size, by have := HT.out.1; omega, Nat.zero_le _, hcap, hT⟩, Ext.trans HX.out hx1⟩
def endP (T : List Lx.Tok) (long : Nat) (s : PSt) : PSt := if s.e = 0 ∧ s.i < T.length then wrongP T long 10 s else s
def endA (s : PSt) : Int := if s.e = 0 then 0 else s.at_
set_option maxHeartbeats 8000000 in
theorem end_any (p g cap long : Nat) (T : List Lx.Tok) (s : PSt) (w : World) (h : PsAt w p g cap long T s) :
    Calls Tryz.prog 50 #[.pointer (some ⟨p, 0, none⟩)] w fun e w' => e = .returned (.tuple #[.int .i64 (endA (endP T long s)), .int .i64 (endP T long s).e]) ∧ LeP p w w' := by
  have mixed : Tryz.prog.follows .mixedOrders = true := by kernel_rfl
  have KW := Lib.hid (fun W (hW : PsAt W p g cap long T s) => wrong_any p g cap long T s 10 W hW)
  have HP := Lib.hid h
  have hle := h.le
  have hcap := h.cap
  have hfew := h.few
  obtain ⟨E, hE⟩ : ∃ E, E = endP T long s := ⟨_, rfl⟩
  rw [← hE]
  unfold endP at hE
  obtain ⟨cb, fb⟩ := h.blk.facts
  unfold psC at cb
  have hbl := h.blk.lt
  clear h
  cases he : s.e == 0
  · have he2 : ¬ s.e = 0 := by intro e; rw [e] at he; cases he
    rw [if_neg (fun h => he2 h.1)] at hE
    have hA : endA E = s.at_ := by rw [hE]; unfold endA; rw [if_neg he2]
    have hEe : E.e = s.e := by rw [hE]
    rw [hA, hEe]
    clear hE
    go_enter Tryz.func50, Tryz.ntmps50
    go_simp
    repeat (first | go_values | go_skip | go_guarded | go_step | go_upon)
    go_quiet (fail)
    go_simp
    repeat (first | go_values | go_skip | go_guarded | go_step | go_upon)
    go_quiet (fail)
    go_wp2
    go_returns
    exact ⟨rfl, LeP.ofExt (Ext.trans (bel_drewN _ _) (bel_drewN _ _))⟩
  · have he2 : s.e = 0 := by simpa using he
    by_cases hlt : s.i < T.length
    · rw [if_pos ⟨he2, hlt⟩] at hE
      have hltI : (s.i : Int) < (T.length : Int) := by omega
      have hltB : decide ((s.i : Int) < (T.length : Int)) = true := by rw [decide_eq_true_iff]; exact hltI
      have hw : wrongP T long 10 s = E := hE.symm
      rw [hw] at KW
      have hEe : (E.e == 0) = false := by
        rw [hE]
        unfold wrongP
        rw [if_pos he2]
        rfl
      have hA : endA E = E.at_ := by unfold endA; rw [if_neg (by intro e; rw [e] at hEe; cases hEe)]
      rw [hA]
      clear hE hw hA
      obtain ⟨i2, d2, a2, e2⟩ := E
      simp only at hEe ⊢
      go_enter Tryz.func50, Tryz.ntmps50
      go_simp
      repeat (first | go_values | go_skip | go_guarded | go_step | go_upon)
      go_quiet (fail)
      go_simp
      repeat (first | go_values | go_skip | go_guarded | go_step | go_upon)
      refine Calls.mono (KW.out _ (HP.out.ext (bel_drewN _ _))) ?_
      rintro e W2 ⟨rfl, hp2, hl2⟩
      have hl3 : LeP p w W2 := (LeP.ofExt (bel_drewN _ _)).trans hl2
      have HB2 := Lib.hid hp2.blk
      have HL2 := Lib.hid hl3
      clear hp2 hl2 hl3 cb fb hbl KW HP
      simp only [psC] at HB2
      obtain ⟨cb, fb⟩ := HB2.out.facts
      have hbl := HB2.out.lt
      go_simp
      repeat (first | go_values | go_skip | go_guarded | go_step | go_upon)
      go_quiet (fail)
      go_wp2
      go_returns
      exact ⟨rfl, HL2.out.trans (LeP.ofExt (bel_drewN _ _))⟩
    · rw [if_neg (fun h => hlt h.2)] at hE
      have hnl : decide ((s.i : Int) < (T.length : Int)) = false := by rw [decide_eq_false_iff_not]; omega
      have hnl2 : decide (s.i < T.length) = false := by rw [decide_eq_false_iff_not]; omega
      have hA : endA E = 0 := by rw [hE]; unfold endA; rw [if_pos he2]
      have hEe : E.e = 0 := by rw [hE]; exact he2
      rw [hA, hEe]
      clear hE
      go_enter Tryz.func50, Tryz.ntmps50
      go_simp
      repeat (first | go_values | go_skip | go_guarded | go_step | go_upon)
      go_quiet (fail)
      go_simp
      repeat (first | go_values | go_skip | go_guarded | go_step | go_upon)
      go_returns
      exact ⟨rfl, LeP.ofExt (bel_drewN _ _)⟩
end Go.Proofs.YtchpbdodlbghaaaGreatDoor
namespace Go.Proofs.YtchpbdodlbghaaaGreatDoor
open Go.RowKit Go.Lib
set_option maxRecDepth 100000

theorem infoSt : (Tryz.prog.info? 102).map (·.size) = some 19 := by kernel_rfl
theorem ret_stP {t : Tmp} {fn : Func} (h : fn.results = #[.cell t 102]) (tmps : Array Value) {w : World} {g : Nat} {cs : Array Value} (hc : cs.size = 19) (hp : tmps.getD t undef = .pointer (some ⟨g, 0, none⟩)) (hg : Blk w g cs 102) :
    (results fn tmps).run Tryz.prog w = .ok (.agg cs) w := by
  have hp' : tmps[t]?.getD undef = .pointer (some ⟨g, 0, none⟩) := by simpa using hp
  have hr := run_loadVar_row w g 102 102 cs (0, 0) _ hg Tryz.underlying102 rfl (by rw [hc]; kernel_rfl)
  simp [results, h, hp', asAddr, hr]
set_option maxHeartbeats 4000000 in
theorem name_anyP (p g cap long : Nat) (T : List Lx.Tok) (s : PSt) (w : World) (h : PsAt w p g cap long T s) :
    Calls Tryz.prog 125 #[.pointer (some ⟨p, 0, none⟩)] w fun e w' => e = .returned (.string ⟨(takeT T s 1).text.toArray⟩) ∧ PsAt w' p g cap long T (takeP T long s 1) ∧ LeP p w w' := by
  have KT := Lib.hid (take_any p g cap long T s 1 w h)
  generalize takeT T s 1 = t at KT ⊢
  generalize takeP T long s 1 = s1 at KT ⊢
  clear h
  obtain ⟨tk, tt, tn, tp⟩ := t
  simp only [tkV] at KT ⊢
  have hfd := tok_field tk ⟨tt.toArray⟩ tn tp
  go_enter Tryz.func125, Tryz.ntmps125
  go_simp
  repeat (first | go_values | go_skip | go_guarded | go_step | go_upon)
  refine Calls.mono KT.out ?_
  rintro e W1 ⟨rfl, hp1, hl1⟩
  have HP1 := Lib.hid hp1
  have HL1 := Lib.hid hl1
  clear hp1 hl1 KT
  go_simp
  repeat (first | go_values | go_skip | go_guarded | go_step | go_upon)
  go_returns
  exact ⟨rfl, HP1.out, HL1.out⟩
def dropV (x : List UInt8) : Value := .agg #[.int .i64 4, .string ⟨x.toArray⟩, .string ⟨#[]⟩, .string ⟨#[]⟩, .int .i64 0, .int .i64 0, .slice none 0 0, .bool false, .bool false, .slice none 0 0, .slice none 0 0, .slice none 0 0, .slice none 0 0, .pointer none, .pointer none, .slice none 0 0, .slice none 0 0, .int .i64 0, .int .i64 0]
def DropPost (p g cap long : Nat) (T : List Lx.Tok) (x : List UInt8) (s' : PSt) (w : World) (e : Ending) (w' : World) : Prop := e = .returned (dropV x) ∧ PsAt w' p g cap long T s' ∧ LeP p w w'
set_option maxHeartbeats 8000000 in
theorem drop_any (p g cap long : Nat) (T : List Lx.Tok) (s : PSt) (hq : isB T s 2 [84, 65, 66, 76, 69] = true) (w : World) (h : PsAt w p g cap long T s) :
    Calls Tryz.prog 73 #[.pointer (some ⟨p, 0, none⟩)] w (DropPost p g cap long T (takeT T { s with i := s.i + 1 } 1).text (takeP T long { s with i := s.i + 1 } 1) w) := by
  have hpl : p < w.heap.size := h.blk.lt
  have hpw : p ≠ w.heap.size := by omega
  have hgw : g ≠ w.heap.size := by have := h.tok.1; omega
  have hwp : w.heap.size ≠ p := Ne.symm hpw
  have HR0 := Lib.hid (Blk.new w #[.int .i64 0, .string ⟨#[]⟩, .string ⟨#[]⟩, .string ⟨#[]⟩, .int .i64 0, .int .i64 0, .slice none 0 0, .bool false, .bool false, .slice none 0 0, .slice none 0 0, .slice none 0 0, .slice none 0 0, .pointer none, .pointer none, .slice none 0 0, .slice none 0 0, .int .i64 0, .int .i64 0] 102 rfl)
  have hx0 : Ext w (w.alloc (.cells #[.int .i64 0, .string ⟨#[]⟩, .string ⟨#[]⟩, .string ⟨#[]⟩, .int .i64 0, .int .i64 0, .slice none 0 0, .bool false, .bool false, .slice none 0 0, .slice none 0 0, .slice none 0 0, .slice none 0 0, .pointer none, .pointer none, .slice none 0 0, .slice none 0 0, .int .i64 0, .int .i64 0] 102)) := (Ext.refl w).alloc _
  have KW := Lib.hid (pword_any p g cap long T s ⟨#[84, 65, 66, 76, 69]⟩ _ (h.ext hx0))
  rw [show bsl ⟨#[84, 65, 66, 76, 69]⟩ = [84, 65, 66, 76, 69] from rfl, hq] at KW
  have KN := Lib.hid (fun W (hW : PsAt W p g cap long T { s with i := s.i + 1 }) => name_anyP p g cap long T { s with i := s.i + 1 } W hW)
  have HX0 := Lib.hid hx0
  generalize (takeT T { s with i := s.i + 1 } 1).text = tt at KN ⊢
  generalize takeP T long { s with i := s.i + 1 } 1 = s2 at KN ⊢
  clear h hx0 hq
  go_enter Tryz.func73, Tryz.ntmps73
  go_simp
  repeat (first | go_values | go_skip | go_guarded | go_step | go_upon)
  refine Calls.mono KW.out ?_
  rintro e W1 ⟨rfl, hp1, hl1⟩
  have HP1 := Lib.hid (show PsAt W1 p g cap long T { s with i := s.i + 1 } from hp1)
  have HR1 := Lib.hid (hl1.blk HR0.out hwp)
  have HL1 := Lib.hid ((LeP.ofExt HX0.out).trans hl1)
  clear hp1 hl1 HR0 HX0 KW
  go_simp
  repeat (first | go_values | go_skip | go_guarded | go_step | go_upon)
  refine Calls.mono (KN.out W1 HP1.out) ?_
  rintro e W2 ⟨rfl, hp2, hl2⟩
  have HP2 := Lib.hid hp2
  have HR2 := Lib.hid (hl2.blk HR1.out hwp)
  have HL2 := Lib.hid (HL1.out.trans hl2)
  clear hp2 hl2 HP1 HR1 HL1 KN
  go_wp2_with (refine wpList_store_row rfl 102 (.tmp 2) (.tmp 7) rfl w.heap.size #[.int .i64 4, .string ⟨tt.toArray⟩, .string ⟨#[]⟩, .string ⟨#[]⟩, .int .i64 0, .int .i64 0, .slice none 0 0, .bool false, .bool false, .slice none 0 0, .slice none 0 0, .slice none 0 0, .slice none 0 0, .pointer none, .pointer none, .slice none 0 0, .slice none 0 0, .int .i64 0, .int .i64 0] rfl rfl 102 #[.int .i64 0, .string ⟨#[]⟩, .string ⟨#[]⟩, .string ⟨#[]⟩, .int .i64 0, .int .i64 0, .slice none 0 0, .bool false, .bool false, .slice none 0 0, .slice none 0 0, .slice none 0 0, .slice none 0 0, .pointer none, .pointer none, .slice none 0 0, .slice none 0 0, .int .i64 0, .int .i64 0] HR2.out infoSt rfl (by simp [Value.oneCell']) ?_)
  have HR3 := Lib.hid (setRow_heap W2 w.heap.size _ #[.int .i64 4, .string ⟨tt.toArray⟩, .string ⟨#[]⟩, .string ⟨#[]⟩, .int .i64 0, .int .i64 0, .slice none 0 0, .bool false, .bool false, .slice none 0 0, .slice none 0 0, .slice none 0 0, .slice none 0 0, .pointer none, .pointer none, .slice none 0 0, .slice none 0 0, .int .i64 0, .int .i64 0] _ _ HR2.out)
  have HP3 := Lib.hid (HP2.out.row hpw hgw #[.int .i64 4, .string ⟨tt.toArray⟩, .string ⟨#[]⟩, .string ⟨#[]⟩, .int .i64 0, .int .i64 0, .slice none 0 0, .bool false, .bool false, .slice none 0 0, .slice none 0 0, .slice none 0 0, .slice none 0 0, .pointer none, .pointer none, .slice none 0 0, .slice none 0 0, .int .i64 0, .int .i64 0])
  have HL3 := Lib.hid (HL2.out.row (Nat.le_refl _) #[.int .i64 4, .string ⟨tt.toArray⟩, .string ⟨#[]⟩, .string ⟨#[]⟩, .int .i64 0, .int .i64 0, .slice none 0 0, .bool false, .bool false, .slice none 0 0, .slice none 0 0, .slice none 0 0, .slice none 0 0, .pointer none, .pointer none, .slice none 0 0, .slice none 0 0, .int .i64 0, .int .i64 0])
  generalize W2.setRow w.heap.size #[.int .i64 4, .string ⟨tt.toArray⟩, .string ⟨#[]⟩, .string ⟨#[]⟩, .int .i64 0, .int .i64 0, .slice none 0 0, .bool false, .bool false, .slice none 0 0, .slice none 0 0, .slice none 0 0, .slice none 0 0, .pointer none, .pointer none, .slice none 0 0, .slice none 0 0, .int .i64 0, .int .i64 0] = W3 at HR3 HP3 HL3 ⊢
  refine bodyPost_ret (ret_stP rfl _ rfl rfl HR3.out) rfl ?_
  exact ⟨rfl, HP3.out, HL3.out⟩
set_option maxHeartbeats 8000000 in
theorem statement_any (p g cap long : Nat) (T : List Lx.Tok) (s : PSt) (hq1 : isB T s 2 [67, 82, 69, 65, 84, 69] = false) (hq2 : isB T s 2 [68, 82, 79, 80] = true) (hq3 : isB T { s with i := s.i + 1 } 2 [84, 65, 66, 76, 69] = true) (w : World) (h : PsAt w p g cap long T s) :
    Calls Tryz.prog 48 #[.pointer (some ⟨p, 0, none⟩)] w (DropPost p g cap long T (takeT T { s with i := s.i + 1 + 1 } 1).text (takeP T long { s with i := s.i + 1 + 1 } 1) w) := by
  have hpl : p < w.heap.size := h.blk.lt
  have hpw : p ≠ w.heap.size := by omega
  have hgw : g ≠ w.heap.size := by have := h.tok.1; omega
  have hwp : w.heap.size ≠ p := Ne.symm hpw
  have HR0 := Lib.hid (Blk.new w #[.int .i64 0, .string ⟨#[]⟩, .string ⟨#[]⟩, .string ⟨#[]⟩, .int .i64 0, .int .i64 0, .slice none 0 0, .bool false, .bool false, .slice none 0 0, .slice none 0 0, .slice none 0 0, .slice none 0 0, .pointer none, .pointer none, .slice none 0 0, .slice none 0 0, .int .i64 0, .int .i64 0] 102 rfl)
  have hx0 : Ext w (w.alloc (.cells #[.int .i64 0, .string ⟨#[]⟩, .string ⟨#[]⟩, .string ⟨#[]⟩, .int .i64 0, .int .i64 0, .slice none 0 0, .bool false, .bool false, .slice none 0 0, .slice none 0 0, .slice none 0 0, .slice none 0 0, .pointer none, .pointer none, .slice none 0 0, .slice none 0 0, .int .i64 0, .int .i64 0] 102)) := (Ext.refl w).alloc _
  have KW1 := Lib.hid (pword_any p g cap long T s ⟨#[67, 82, 69, 65, 84, 69]⟩ _ (h.ext hx0))
  rw [show bsl ⟨#[67, 82, 69, 65, 84, 69]⟩ = [67, 82, 69, 65, 84, 69] from rfl, hq1] at KW1
  have KW2 := Lib.hid (fun W (hW : PsAt W p g cap long T s) => pword_any p g cap long T s ⟨#[68, 82, 79, 80]⟩ W hW)
  rw [show bsl ⟨#[68, 82, 79, 80]⟩ = [68, 82, 79, 80] from rfl, hq2] at KW2
  have KD := Lib.hid (fun W (hW : PsAt W p g cap long T { s with i := s.i + 1 }) => drop_any p g cap long T { s with i := s.i + 1 } hq3 W hW)
  have HX0 := Lib.hid hx0
  simp only at KD
  generalize (takeT T { s with i := s.i + 1 + 1 } 1).text = tt at KD ⊢
  generalize takeP T long { s with i := s.i + 1 + 1 } 1 = s2 at KD ⊢
  clear h hx0 hq1 hq2 hq3
  go_enter Tryz.func48, Tryz.ntmps48
  go_simp
  repeat (first | go_values | go_skip | go_guarded | go_step | go_upon)
  refine Calls.mono KW1.out ?_
  rintro e W1 ⟨rfl, hp1, hl1⟩
  have HP1 := Lib.hid (show PsAt W1 p g cap long T s from hp1)
  have HR1 := Lib.hid (hl1.blk HR0.out hwp)
  have HL1 := Lib.hid ((LeP.ofExt HX0.out).trans hl1)
  clear hp1 hl1 HR0 HX0 KW1
  go_simp
  repeat (first | go_values | go_skip | go_guarded | go_step | go_upon)
  refine Calls.mono (KW2.out W1 HP1.out) ?_
  rintro e W2 ⟨rfl, hp2, hl2⟩
  have HP2 := Lib.hid (show PsAt W2 p g cap long T { s with i := s.i + 1 } from hp2)
  have HR2 := Lib.hid (hl2.blk HR1.out hwp)
  have HL2 := Lib.hid (HL1.out.trans hl2)
  clear hp2 hl2 HP1 HR1 HL1 KW2
  go_simp
  repeat (first | go_values | go_skip | go_guarded | go_step | go_upon)
  refine Calls.mono (KD.out W2 HP2.out) ?_
  rintro e W3 ⟨rfl, hp3, hl3⟩
  unfold dropV
  have HP3 := Lib.hid hp3
  have HR3 := Lib.hid (hl3.blk HR2.out hwp)
  have HL3 := Lib.hid (HL2.out.trans hl3)
  clear hp3 hl3 HP2 HR2 HL2 KD
  go_wp2_with (refine wpList_store_row rfl 102 (.tmp 2) (.tmp 12) rfl w.heap.size #[.int .i64 4, .string ⟨tt.toArray⟩, .string ⟨#[]⟩, .string ⟨#[]⟩, .int .i64 0, .int .i64 0, .slice none 0 0, .bool false, .bool false, .slice none 0 0, .slice none 0 0, .slice none 0 0, .slice none 0 0, .pointer none, .pointer none, .slice none 0 0, .slice none 0 0, .int .i64 0, .int .i64 0] rfl rfl 102 #[.int .i64 0, .string ⟨#[]⟩, .string ⟨#[]⟩, .string ⟨#[]⟩, .int .i64 0, .int .i64 0, .slice none 0 0, .bool false, .bool false, .slice none 0 0, .slice none 0 0, .slice none 0 0, .slice none 0 0, .pointer none, .pointer none, .slice none 0 0, .slice none 0 0, .int .i64 0, .int .i64 0] HR3.out infoSt rfl (by simp [Value.oneCell']) ?_)
  have HR4 := Lib.hid (setRow_heap W3 w.heap.size _ #[.int .i64 4, .string ⟨tt.toArray⟩, .string ⟨#[]⟩, .string ⟨#[]⟩, .int .i64 0, .int .i64 0, .slice none 0 0, .bool false, .bool false, .slice none 0 0, .slice none 0 0, .slice none 0 0, .slice none 0 0, .pointer none, .pointer none, .slice none 0 0, .slice none 0 0, .int .i64 0, .int .i64 0] _ _ HR3.out)
  have HP4 := Lib.hid (HP3.out.row hpw hgw #[.int .i64 4, .string ⟨tt.toArray⟩, .string ⟨#[]⟩, .string ⟨#[]⟩, .int .i64 0, .int .i64 0, .slice none 0 0, .bool false, .bool false, .slice none 0 0, .slice none 0 0, .slice none 0 0, .slice none 0 0, .pointer none, .pointer none, .slice none 0 0, .slice none 0 0, .int .i64 0, .int .i64 0])
  have HL4 := Lib.hid (HL3.out.row (Nat.le_refl _) #[.int .i64 4, .string ⟨tt.toArray⟩, .string ⟨#[]⟩, .string ⟨#[]⟩, .int .i64 0, .int .i64 0, .slice none 0 0, .bool false, .bool false, .slice none 0 0, .slice none 0 0, .slice none 0 0, .slice none 0 0, .pointer none, .pointer none, .slice none 0 0, .slice none 0 0, .int .i64 0, .int .i64 0])
  generalize W3.setRow w.heap.size #[.int .i64 4, .string ⟨tt.toArray⟩, .string ⟨#[]⟩, .string ⟨#[]⟩, .int .i64 0, .int .i64 0, .slice none 0 0, .bool false, .bool false, .slice none 0 0, .slice none 0 0, .slice none 0 0, .slice none 0 0, .pointer none, .pointer none, .slice none 0 0, .slice none 0 0, .int .i64 0, .int .i64 0] = W4 at HR4 HP4 HL4 ⊢
  refine bodyPost_ret (ret_stP rfl _ rfl rfl HR4.out) rfl ?_
  exact ⟨rfl, HP4.out, HL4.out⟩
end Go.Proofs.YtchpbdodlbghaaaGreatDoor
namespace Go.Proofs.YtchpbdodlbghaaaGreatDoor
open Go.RowKit Go.Lib
set_option maxRecDepth 100000

theorem ret_stP3 {t u v : Tmp} {fn : Func} (h : fn.results = #[.cell t 102, .tmp u, .tmp v]) (tmps : Array Value) {w : World} {g : Nat} {cs : Array Value} (hc : cs.size = 19) (hp : tmps.getD t undef = .pointer (some ⟨g, 0, none⟩)) (hg : Blk w g cs 102) :
    (results fn tmps).run Tryz.prog w = .ok (.tuple #[.agg cs, tmps.getD u undef, tmps.getD v undef]) w := by
  have hp' : tmps[t]?.getD undef = .pointer (some ⟨g, 0, none⟩) := by simpa using hp
  have hr := run_loadVar_row w g 102 102 cs (0, 0) _ hg Tryz.underlying102 rfl (by rw [hc]; kernel_rfl)
  simp [results, h, hp', asAddr, hr]
theorem below_row {B : Nat} {w0 w : World} (h : Below B w0 w) {g : Nat} (hg : B ≤ g) (V : Array Value) : Below B w0 (w.setRow g V) :=
  ⟨h.os, h.tape, h.output, by simpa using h.size, fun i hi => (setRow_other w g i V (by omega)).trans (h.block i hi)⟩
def dropS (T : List Lx.Tok) (long : Nat) : PSt := takeP T long ⟨2, 0, 0, 0⟩ 1
set_option maxHeartbeats 8000000 in
theorem stmt_any (s : ByteArray) (T : List Lx.Tok) (hl : Lx.lex (bsl s) = .ok T) (h0 : T ≠ []) (hT : T.length ≤ 4000)
    (hq1 : isB T ⟨0, 0, 0, 0⟩ 2 [67, 82, 69, 65, 84, 69] = false) (hq2 : isB T ⟨0, 0, 0, 0⟩ 2 [68, 82, 79, 80] = true) (hq3 : isB T ⟨1, 0, 0, 0⟩ 2 [84, 65, 66, 76, 69] = true) (hq4 : isB T (dropS T s.size) 5 [59] = false) (hq5 : (endP T s.size (dropS T s.size)).e = 0)
    (w : World) (hG : GlobL w) (hs : s.size ≤ 4000) :
    Calls Tryz.prog 34 #[.string s] w fun e w' => e = .returned (.tuple #[dropV (takeT T ⟨2, 0, 0, 0⟩ 1).text, .int .i64 0, .int .i64 0]) ∧ Below w.heap.size w w' := by
  have HR0 := Lib.hid (Blk.new w #[.int .i64 0, .string ⟨#[]⟩, .string ⟨#[]⟩, .string ⟨#[]⟩, .int .i64 0, .int .i64 0, .slice none 0 0, .bool false, .bool false, .slice none 0 0, .slice none 0 0, .slice none 0 0, .slice none 0 0, .pointer none, .pointer none, .slice none 0 0, .slice none 0 0, .int .i64 0, .int .i64 0] 102 rfl)
  have hx0 : Ext w (w.alloc (.cells #[.int .i64 0, .string ⟨#[]⟩, .string ⟨#[]⟩, .string ⟨#[]⟩, .int .i64 0, .int .i64 0, .slice none 0 0, .bool false, .bool false, .slice none 0 0, .slice none 0 0, .slice none 0 0, .slice none 0 0, .pointer none, .pointer none, .slice none 0 0, .slice none 0 0, .int .i64 0, .int .i64 0] 102)) := (Ext.refl w).alloc _
  have KB := Lib.hid (begin_any s T hl h0 hT _ (hG.keep hx0) hs)
  have HX0 := Lib.hid hx0
  have KS := Lib.hid (fun p g cap W (hW : PsAt W p g cap s.size T ⟨0, 0, 0, 0⟩) => statement_any p g cap s.size T ⟨0, 0, 0, 0⟩ hq1 hq2 hq3 W hW)
  simp only [Nat.zero_add, Nat.reduceAdd] at KS
  unfold dropS at hq4 hq5
  generalize (takeT T ⟨2, 0, 0, 0⟩ 1).text = tt at KS ⊢
  generalize takeP T s.size ⟨2, 0, 0, 0⟩ 1 = s2 at KS hq4 hq5
  have KO := Lib.hid (fun p g cap W (hW : PsAt W p g cap s.size T s2) => pop_any p g cap s.size T s2 ⟨#[59]⟩ W hW)
  rw [show bsl ⟨#[59]⟩ = [59] from rfl, hq4] at KO
  have KE := Lib.hid (fun p g cap W (hW : PsAt W p g cap s.size T s2) => end_any p g cap s.size T s2 W hW)
  have hA : endA (endP T s.size s2) = 0 := by unfold endA; rw [if_pos hq5]
  rw [hq5, hA] at KE
  clear hx0 hG hl h0 hT hq1 hq2 hq3 hq4 hq5 hA
  unfold dropV
  go_enter Tryz.func34, Tryz.ntmps34
  go_simp
  repeat (first | go_values | go_skip | go_guarded | go_step | go_upon)
  refine Calls.mono KB.out ?_
  rintro e W1 ⟨p, g, cap, rfl, hpw, hgw0, hp1, hb1⟩
  have hwp : w.heap.size ≠ p := by simp at hpw; omega
  have hwl : w.heap.size + 1 ≤ p := by simpa using hpw
  have hgw : g ≠ w.heap.size := by simp at hgw0; omega
  have HP1 := Lib.hid hp1
  have HR1 := Lib.hid (HR0.out.keep hb1)
  have HX1 := Lib.hid (HX0.out.trans hb1)
  clear hp1 hb1 HR0 HX0 KB hpw hgw0
  go_simp
  repeat (first | go_values | go_skip | go_guarded | go_step | go_upon)
  refine Calls.mono (KS.out p g cap W1 HP1.out) ?_
  rintro e W2 ⟨rfl, hp2, hl2⟩
  unfold dropV
  have HP2 := Lib.hid hp2
  have HR2 := Lib.hid (hl2.blk HR1.out hwp)
  have HL2 := Lib.hid (LeP.below HX1.out hl2 (by omega))
  clear hp2 hl2 HP1 HR1 HX1 KS
  go_wp2_with (refine wpList_store_row rfl 102 (.tmp 2) (.tmp 9) rfl w.heap.size #[.int .i64 4, .string ⟨tt.toArray⟩, .string ⟨#[]⟩, .string ⟨#[]⟩, .int .i64 0, .int .i64 0, .slice none 0 0, .bool false, .bool false, .slice none 0 0, .slice none 0 0, .slice none 0 0, .slice none 0 0, .pointer none, .pointer none, .slice none 0 0, .slice none 0 0, .int .i64 0, .int .i64 0] rfl rfl 102 #[.int .i64 0, .string ⟨#[]⟩, .string ⟨#[]⟩, .string ⟨#[]⟩, .int .i64 0, .int .i64 0, .slice none 0 0, .bool false, .bool false, .slice none 0 0, .slice none 0 0, .slice none 0 0, .slice none 0 0, .pointer none, .pointer none, .slice none 0 0, .slice none 0 0, .int .i64 0, .int .i64 0] HR2.out infoSt rfl (by simp [Value.oneCell']) ?_; have HR3 := Lib.hid (setRow_heap W2 w.heap.size _ #[.int .i64 4, .string ⟨tt.toArray⟩, .string ⟨#[]⟩, .string ⟨#[]⟩, .int .i64 0, .int .i64 0, .slice none 0 0, .bool false, .bool false, .slice none 0 0, .slice none 0 0, .slice none 0 0, .slice none 0 0, .pointer none, .pointer none, .slice none 0 0, .slice none 0 0, .int .i64 0, .int .i64 0] _ _ HR2.out); have HP3 := Lib.hid (HP2.out.row (Ne.symm hwp) hgw #[.int .i64 4, .string ⟨tt.toArray⟩, .string ⟨#[]⟩, .string ⟨#[]⟩, .int .i64 0, .int .i64 0, .slice none 0 0, .bool false, .bool false, .slice none 0 0, .slice none 0 0, .slice none 0 0, .slice none 0 0, .pointer none, .pointer none, .slice none 0 0, .slice none 0 0, .int .i64 0, .int .i64 0]); have HL3 := Lib.hid (below_row HL2.out (Nat.le_refl _) #[.int .i64 4, .string ⟨tt.toArray⟩, .string ⟨#[]⟩, .string ⟨#[]⟩, .int .i64 0, .int .i64 0, .slice none 0 0, .bool false, .bool false, .slice none 0 0, .slice none 0 0, .slice none 0 0, .slice none 0 0, .pointer none, .pointer none, .slice none 0 0, .slice none 0 0, .int .i64 0, .int .i64 0]); generalize W2.setRow w.heap.size #[.int .i64 4, .string ⟨tt.toArray⟩, .string ⟨#[]⟩, .string ⟨#[]⟩, .int .i64 0, .int .i64 0, .slice none 0 0, .bool false, .bool false, .slice none 0 0, .slice none 0 0, .slice none 0 0, .slice none 0 0, .pointer none, .pointer none, .slice none 0 0, .slice none 0 0, .int .i64 0, .int .i64 0] = W3 at HR3 HP3 HL3 ⊢; clear HR2 HP2 HL2)
  refine Calls.mono (KO.out p g cap W3 HP3.out) ?_
  rintro e W4 ⟨rfl, hp4, hl4⟩
  have HP4 := Lib.hid (show PsAt W4 p g cap s.size T s2 from hp4)
  have HR4 := Lib.hid (hl4.blk HR3.out hwp)
  have HL4 := Lib.hid (LeP.below HL3.out hl4 (by omega))
  clear hp4 hl4 HP3 HR3 HL3 KO
  go_simp
  repeat (first | go_values | go_skip | go_guarded | go_step | go_upon)
  refine Calls.mono (KE.out p g cap W4 HP4.out) ?_
  rintro e W5 ⟨rfl, hl5⟩
  have HR5 := Lib.hid (hl5.blk HR4.out hwp)
  have HL5 := Lib.hid (LeP.below HL4.out hl5 (by omega))
  clear hl5 HP4 HR4 HL4 KE
  have HR6 := Lib.hid (setRow_heap W5 w.heap.size _ #[.int .i64 4, .string ⟨tt.toArray⟩, .string ⟨#[]⟩, .string ⟨#[]⟩, .int .i64 0, .int .i64 0, .slice none 0 0, .bool false, .bool false, .slice none 0 0, .slice none 0 0, .slice none 0 0, .slice none 0 0, .pointer none, .pointer none, .slice none 0 0, .slice none 0 0, .int .i64 0, .int .i64 0] _ _ HR5.out)
  have HL6 := Lib.hid (below_row HL5.out (Nat.le_refl _) #[.int .i64 4, .string ⟨tt.toArray⟩, .string ⟨#[]⟩, .string ⟨#[]⟩, .int .i64 0, .int .i64 0, .slice none 0 0, .bool false, .bool false, .slice none 0 0, .slice none 0 0, .slice none 0 0, .slice none 0 0, .pointer none, .pointer none, .slice none 0 0, .slice none 0 0, .int .i64 0, .int .i64 0])
  go_wp2_with (first
    | refine wpList_load_row rfl 102 (.tmp 2) rfl w.heap.size rfl 102 #[.int .i64 4, .string ⟨tt.toArray⟩, .string ⟨#[]⟩, .string ⟨#[]⟩, .int .i64 0, .int .i64 0, .slice none 0 0, .bool false, .bool false, .slice none 0 0, .slice none 0 0, .slice none 0 0, .slice none 0 0, .pointer none, .pointer none, .slice none 0 0, .slice none 0 0, .int .i64 0, .int .i64 0] (0, 0) _ HR5.out Tryz.underlying102 rfl (by kernel_rfl) ?_
    | (refine wpList_store_row rfl 102 (.tmp 2) (.tmp 22) rfl w.heap.size #[.int .i64 4, .string ⟨tt.toArray⟩, .string ⟨#[]⟩, .string ⟨#[]⟩, .int .i64 0, .int .i64 0, .slice none 0 0, .bool false, .bool false, .slice none 0 0, .slice none 0 0, .slice none 0 0, .slice none 0 0, .pointer none, .pointer none, .slice none 0 0, .slice none 0 0, .int .i64 0, .int .i64 0] rfl rfl 102 #[.int .i64 4, .string ⟨tt.toArray⟩, .string ⟨#[]⟩, .string ⟨#[]⟩, .int .i64 0, .int .i64 0, .slice none 0 0, .bool false, .bool false, .slice none 0 0, .slice none 0 0, .slice none 0 0, .slice none 0 0, .pointer none, .pointer none, .slice none 0 0, .slice none 0 0, .int .i64 0, .int .i64 0] HR5.out infoSt rfl (by simp [Value.oneCell']) ?_; generalize W5.setRow w.heap.size #[.int .i64 4, .string ⟨tt.toArray⟩, .string ⟨#[]⟩, .string ⟨#[]⟩, .int .i64 0, .int .i64 0, .slice none 0 0, .bool false, .bool false, .slice none 0 0, .slice none 0 0, .slice none 0 0, .slice none 0 0, .pointer none, .pointer none, .slice none 0 0, .slice none 0 0, .int .i64 0, .int .i64 0] = W6 at HR6 HL6 ⊢; clear HR5 HL5)
    | (refine bodyPost_ret (ret_stP3 rfl _ rfl rfl HR6.out) rfl ?_))
  exact HL6.out
end Go.Proofs.YtchpbdodlbghaaaGreatDoor
