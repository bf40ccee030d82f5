/-
  The parser's leaves: words, signs, what is wrong, what is taken.
-/
import Derived.Test.YtlhkmdchjklaeaaGreatDoorPsrA
import Derived.Test.YtlhkmdchjklaeaaGreatDoorParF
namespace Go.Proofs.YtlhkmdchjklaeaaGreatDoor
open Go.RowKit Go.Lib
set_option maxRecDepth 100000

/-- Later: all but the parser's block is as it was. -/
structure LeP (p : Nat) (w w' : World) : Prop where
  os : w'.os = w.os
  tape : w'.tape = w.tape
  out : w'.output = w.output
  size : w.heap.size ≤ w'.heap.size
  old : ∀ i, i < w.heap.size → i ≠ p → w'.heap[i]? = w.heap[i]?
theorem leX : IsLe Ext := ⟨Ext.refl, Ext.trans, fun h => ⟨h.os, h.tape, h.output, h.size, h.block⟩⟩
theorem LeP.refl (p : Nat) (w : World) : LeP p w w := ⟨rfl, rfl, rfl, Nat.le_refl _, fun _ _ _ => rfl⟩
theorem LeP.trans {p : Nat} {a b c : World} (h : LeP p a b) (k : LeP p b c) : LeP p a c :=
  ⟨k.os.trans h.os, k.tape.trans h.tape, k.out.trans h.out, Nat.le_trans h.size k.size, fun i h1 h2 => (k.old i (Nat.lt_of_lt_of_le h1 h.size) h2).trans (h.old i h1 h2)⟩
theorem LeP.ofExt {p : Nat} {w w' : World} (h : Ext w w') : LeP p w w' := ⟨h.os, h.tape, h.output, h.size, fun i hi _ => h.block i hi⟩
theorem LeP.set {p : Nat} {w : World} (o : Nat) (v : Value) : LeP p w (w.setCell ⟨p, o, none⟩ v) := ⟨rfl, rfl, rfl, by simp, fun i _ hn => heap_setCell_other w ⟨p, o, none⟩ i v hn⟩
theorem LeP.blk {p : Nat} {w w' : World} (h : LeP p w w') {i : Nat} {cs : Array Value} {t : TypeId} (hb : Blk w i cs t) (hn : i ≠ p) : Blk w' i cs t := (h.old i hb.lt hn).trans hb
theorem LeP.below {p : Nat} {w0 w w' : World} (h0 : Below w0.heap.size w0 w) (h : LeP p w w') (hp : w0.heap.size ≤ p) : Below w0.heap.size w0 w' :=
  ⟨h.os.trans h0.os, h.tape.trans h0.tape, h.out.trans h0.output, Nat.le_trans h0.size h.size, fun i hi => (h.old i (Nat.lt_of_lt_of_le hi h0.size) (by omega)).trans (h0.block i hi)⟩
/-- The parser, later, in this state. -/
theorem PsAt.set {w w' : World} {p g cap long : Nat} {T : List Lx.Tok} {s s' : PSt} (h : PsAt w p g cap long T s) (hx : LeP p w w') (hb : Blk w' p (psC g cap T.length long s') 80) (hi : s'.i ≤ T.length) : PsAt w' p g cap long T s' :=
  ⟨hb, h.tok.ext (hx.old g h.tok.1 h.ne) hx.size, h.ne, hi, h.cap, h.few⟩
def advP (b : Bool) (s : PSt) : PSt := if b then { s with i := s.i + 1 } else s
theorem isB_lt {T : List Lx.Tok} {s : PSt} {k : Int} {x : List UInt8} (h : isB T s k x = true) : s.i < T.length := by
  unfold isB at h
  rw [Bool.and_eq_true] at h
  obtain ⟨_, h⟩ := h
  split at h
  · rename_i t ht
    exact (List.getElem?_eq_some_iff.1 ht).1
  · cases h
set_option maxHeartbeats 4000000 in
theorem pword_any (p g cap long : Nat) (T : List Lx.Tok) (s : PSt) (text : ByteArray) (w : World) (h : PsAt w p g cap long T s) :
    Calls Tryz.prog 80 #[.pointer (some ⟨p, 0, none⟩), .string text] w fun e w' => e = .returned (.bool (isB T s 2 (bsl text))) ∧ PsAt w' p g cap long T (advP (isB T s 2 (bsl text)) s) ∧ LeP p w w' := by
  have KI := Lib.hid (fun W (hW : Ext w W) => is_any p g cap long T s 2 text W (h.ext hW))
  have HP := Lib.hid h
  have hlt := fun hb => isB_lt (T := T) (s := s) (k := 2) (x := bsl text) hb
  generalize isB T s 2 (bsl text) = b at KI hlt ⊢
  clear h
  go_enter Tryz.func80, Tryz.ntmps80
  go_wp2_with fail
  refine Calls.mono (KI.out _ (Ext.refl _)) ?_
  rintro e W ⟨rfl, hb⟩
  cases b
  · go_simp
    repeat (first | go_values | go_skip | go_guarded | go_step | go_upon)
    go_returns
    exact ⟨rfl, HP.out.ext hb, LeP.ofExt hb⟩
  · have hP := HP.out.ext hb
    have hl := hlt rfl
    have hle := hP.few
    have HB := Lib.hid hP.blk
    obtain ⟨i, deep, at_, er⟩ := s
    simp only [psC] at HB hl
    obtain ⟨cb, fb⟩ := HB.out.facts
    have hbl := HB.out.lt
    have hsum := IntWalk.i64_in ((i : Int) + 1) (by omega)
    go_simp
    repeat (first | go_values | go_skip | go_guarded | go_step | go_upon)
    go_returns
    refine ⟨rfl, hP.set (LeP.set 1 _) ?_ hl, (LeP.ofExt hb).trans (LeP.set 1 _)⟩
    exact HB.out.set 1 _
set_option maxHeartbeats 4000000 in
theorem pop_any (p g cap long : Nat) (T : List Lx.Tok) (s : PSt) (text : ByteArray) (w : World) (h : PsAt w p g cap long T s) :
    Calls Tryz.prog 46 #[.pointer (some ⟨p, 0, none⟩), .string text] w fun e w' => e = .returned (.bool (isB T s 5 (bsl text))) ∧ PsAt w' p g cap long T (advP (isB T s 5 (bsl text)) s) ∧ LeP p w w' := by
  have KI := Lib.hid (fun W (hW : Ext w W) => is_any p g cap long T s 5 text W (h.ext hW))
  have HP := Lib.hid h
  have hlt := fun hb => isB_lt (T := T) (s := s) (k := 5) (x := bsl text) hb
  generalize isB T s 5 (bsl text) = b at KI hlt ⊢
  clear h
  go_enter Tryz.func46, Tryz.ntmps46
  go_wp2_with fail
  refine Calls.mono (KI.out _ (Ext.refl _)) ?_
  rintro e W ⟨rfl, hb⟩
  cases b
  · go_simp
    repeat (first | go_values | go_skip | go_guarded | go_step | go_upon)
    go_returns
    exact ⟨rfl, HP.out.ext hb, LeP.ofExt hb⟩
  · have hP := HP.out.ext hb
    have hl := hlt rfl
    have hle := hP.few
    have HB := Lib.hid hP.blk
    obtain ⟨i, deep, at_, er⟩ := s
    simp only [psC] at HB hl
    obtain ⟨cb, fb⟩ := HB.out.facts
    have hbl := HB.out.lt
    have hsum := IntWalk.i64_in ((i : Int) + 1) (by omega)
    go_simp
    repeat (first | go_values | go_skip | go_guarded | go_step | go_upon)
    go_returns
    refine ⟨rfl, hP.set (LeP.set 1 _) ?_ hl, (LeP.ofExt hb).trans (LeP.set 1 _)⟩
    exact HB.out.set 1 _
def wrongP (T : List Lx.Tok) (long : Nat) (er : Int) (s : PSt) : PSt := if s.e = 0 then { s with e := er, at_ := match T[s.i]? with | some t => (t.pos : Int) | none => (long : Int) } else s
set_option maxHeartbeats 4000000 in
theorem wrong_any (p g cap long : Nat) (T : List Lx.Tok) (s : PSt) (er : Int) (w : World) (h : PsAt w p g cap long T s) :
    Calls Tryz.prog 35 #[.pointer (some ⟨p, 0, none⟩), .int .i64 er] w fun e w' => e = .returned (.tuple #[]) ∧ PsAt w' p g cap long T (wrongP T long er s) ∧ LeP p w w' := by
  have mixed : Tryz.prog.follows .mixedOrders = true := by kernel_rfl
  have HP := Lib.hid h
  have HB := Lib.hid h.blk
  obtain ⟨i, deep, at_, ee⟩ := s
  have hle := h.le
  have hcap := h.cap
  obtain ⟨n, hn⟩ : ∃ n, n = T.length := ⟨_, rfl⟩
  simp only [psC] at HB hle
  rw [← hn] at HB hle hcap
  obtain ⟨ga, hga⟩ : ∃ ga, ga = psA g n := ⟨_, rfl⟩
  rw [← hga] at HB
  clear h
  unfold wrongP
  simp only
  obtain ⟨cb, fb⟩ := HB.out.facts
  have hbl := HB.out.lt
  by_cases he : ee = 0
  · subst he
    rw [if_pos rfl]
    obtain ⟨A, hA⟩ : ∃ A : Int, A = (match T[i]? with | some t => (t.pos : Int) | none => (long : Int)) := ⟨_, rfl⟩
    rw [← hA]
    have HA := Lib.hid hA
    clear hA
    go_enter Tryz.func35, Tryz.ntmps35
    go_simp
    repeat (first | go_values | go_skip | go_guarded | go_step | go_upon)
    have HB1 := Lib.hid (show Blk ((w.setCell ⟨p, 5, none⟩ (.int .i64 er)).setCell ⟨p, 4, none⟩ (.int .i64 long)) p #[.slice ga n cap, .int .i64 i, .int .i64 long, .int .i64 deep, .int .i64 long, .int .i64 er] 80 from (HB.out.set 5 _).set 4 _)
    have HL1 := Lib.hid (show LeP p w ((w.setCell ⟨p, 5, none⟩ (.int .i64 er)).setCell ⟨p, 4, none⟩ (.int .i64 long)) from (LeP.set 5 _).trans (LeP.set 4 _))
    generalize ((w.setCell ⟨p, 5, none⟩ (.int .i64 er)).setCell ⟨p, 4, none⟩ (.int .i64 long)) = W1 at HB1 HL1 ⊢
    have HT1 := Lib.hid (HP.out.tok.ext (HL1.out.old g HP.out.tok.1 HP.out.ne) HL1.out.size)
    clear cb fb hbl
    obtain ⟨cb, fb⟩ := HB1.out.facts
    have hbl := HB1.out.lt
    cases hti : T[i]? with
    | none =>
      have hge : n ≤ i := by rw [hn]; exact List.getElem?_eq_none_iff.1 hti
      have hnl : decide ((i : Int) < (n : Int)) = false := by rw [decide_eq_false_iff_not]; omega
      have hnl2 : decide (i < n) = false := by rw [decide_eq_false_iff_not]; omega
      go_quiet (fail)
      go_wp2
      go_returns
      refine ⟨rfl, HP.out.set (HL1.out.trans (LeP.ofExt (bel_drewN _ _))) ?_ HP.out.le, HL1.out.trans (LeP.ofExt (bel_drewN _ _))⟩
      have hB := HB1.out.keep (bel_drewN W1 nq)
      have hA := HA.out
      rw [hti] at hA
      subst hA
      rw [hga, hn] at hB
      exact hB
    | some tok =>
      have hlt : i < n := by rw [hn]; exact (List.getElem?_eq_some_iff.1 hti).1
      have hltI : (i : Int) < (n : Int) := by omega
      rw [psA_pos (by omega)] at hga
      subst hga
      have hltB : decide ((i : Int) < (n : Int)) = true := by rw [decide_eq_true_iff]; exact hltI
      obtain ⟨_, _, _, q3⟩ := HT1.out.get hti
      have hgl := HT1.out.1
      obtain ⟨tk, tt, tn, tp⟩ := tok
      simp only at q3
      go_quiet (fail)
      have HF := Lib.hid (show ∀ W, Ext (W1.drewN nq) W → (∀ j, W.cell? ⟨p, j, none⟩ = (#[.slice (some ⟨g, 0, none⟩) n cap, .int .i64 i, .int .i64 long, .int .i64 deep, .int .i64 long, .int .i64 er] : Array Value)[j]?) ∧ (∀ j, W.frozen? ⟨p, j, none⟩ = false) ∧ W.cell? ⟨g, i * 4 + 3, none⟩ = some (.int .i64 tp) from fun W hW => by
        have hx := Ext.trans (bel_drewN W1 nq) hW
        exact ⟨(HB1.out.keep hx).cell, (HB1.out.keep hx).free, (hx.cell (p := ⟨g, _, none⟩) hgl).trans q3⟩)
      go_simp
      repeat (first | go_values | go_skip | go_guarded | go_step | go_upon)
      refine wp_parZF [] (leX) [0, 1, 2, 3, 4, 5, 6, 7, 8, 9, 10, 11, 12, 13, 14] 14 14 (fun
          | 0 => fun _ v _ => v = .pointer (some ⟨p, 0, none⟩)
          | 1 => fun _ v _ => v = .pointer (some ⟨p, 0, none⟩)
          | 2 => fun _ v _ => v = .pointer (some ⟨p, 0, none⟩)
          | 3 => fun _ v _ => v = .pointer (some ⟨p, 0, none⟩)
          | 4 => fun _ v _ => v = .slice (some ⟨g, 0, none⟩) n cap
          | 5 => fun _ v _ => v = .pointer (some ⟨p, 0, none⟩)
          | 6 => fun _ v _ => v = .pointer (some ⟨p, 0, none⟩)
          | 7 => fun _ v _ => v = .pointer (some ⟨p, 1, none⟩)
          | 8 => fun _ v _ => v = .int .i64 i
          | 9 => fun _ v _ => v = .pointer (some ⟨g, i * 4, none⟩)
          | 10 => fun _ v _ => v = .pointer (some ⟨g, i * 4 + 3, none⟩)
          | 11 => fun _ v _ => v = .int .i64 tp
          | 12 => fun _ v _ => v = .pointer (some ⟨p, 0, none⟩)
          | 13 => fun _ v _ => v = .pointer (some ⟨p, 4, none⟩)
          | _ => fun _ _ _ => True) (fun
          | _ => undef) (by kernel_rfl) (by kernel_rfl) (by kernel_rfl) ?_ ?_ ?_ ?_ ?_
      · simp (maxSteps := 20000000) only [permL, permOp, List.filterMap_cons, List.filterMap_nil, List.getElem?_cons_succ, List.getElem?_cons_zero, Option.map_some, Option.map_none, List.take_succ_cons, List.take_zero, ParAllG, Act.put, List.setIfInBounds_toArray, List.set_cons_succ, List.set_cons_zero]
        refine ⟨?_, ?_, ?_, ?_, ?_, ?_, ?_, ?_, ?_, ?_, ?_, ?_, ?_, ?_, trivial⟩
        · intro vals W hx hd
          have hW := HF.out W hx
          simp [PDepsG, pdeps, Region.binds, List.idxOf_cons] at hd
          first
            | refine ParObG.plain rfl ?_
            | refine ParObG.wanted (by simp [Region.wanted, yielded, hd]) ?_
          go_simp
          exact ParPostG.same (leX) fun _ _ => rfl
        · intro vals W hx hd
          have hW := HF.out W hx
          simp [PDepsG, pdeps, Region.binds, List.idxOf_cons] at hd
          first
            | refine ParObG.plain rfl ?_
            | refine ParObG.wanted (by simp [Region.wanted, yielded, hd]) ?_
          go_simp
          exact ParPostG.same (leX) fun _ _ => rfl
        · intro vals W hx hd
          have hW := HF.out W hx
          simp [PDepsG, pdeps, Region.binds, List.idxOf_cons] at hd
          first
            | refine ParObG.plain rfl ?_
            | refine ParObG.wanted (by simp [Region.wanted, yielded, hd]) ?_
          go_simp
          exact ParPostG.same (leX) fun _ _ => rfl
        · intro vals W hx hd
          have hW := HF.out W hx
          simp [PDepsG, pdeps, Region.binds, List.idxOf_cons] at hd
          first
            | refine ParObG.plain rfl ?_
            | refine ParObG.wanted (by simp [Region.wanted, yielded, hd]) ?_
          go_simp
          exact ParPostG.same (leX) fun _ _ => rfl
        · intro vals W hx hd
          have hW := HF.out W hx
          simp [PDepsG, pdeps, Region.binds, List.idxOf_cons] at hd
          first
            | refine ParObG.plain rfl ?_
            | refine ParObG.wanted (by simp [Region.wanted, yielded, hd]) ?_
          go_simp
          exact ParPostG.same (leX) fun _ _ => rfl
        · intro vals W hx hd
          have hW := HF.out W hx
          simp [PDepsG, pdeps, Region.binds, List.idxOf_cons] at hd
          first
            | refine ParObG.plain rfl ?_
            | refine ParObG.wanted (by simp [Region.wanted, yielded, hd]) ?_
          go_simp
          exact ParPostG.same (leX) fun _ _ => rfl
        · intro vals W hx hd
          have hW := HF.out W hx
          simp [PDepsG, pdeps, Region.binds, List.idxOf_cons] at hd
          first
            | refine ParObG.plain rfl ?_
            | refine ParObG.wanted (by simp [Region.wanted, yielded, hd]) ?_
          go_simp
          exact ParPostG.same (leX) fun _ _ => rfl
        · intro vals W hx hd
          have hW := HF.out W hx
          simp [PDepsG, pdeps, Region.binds, List.idxOf_cons] at hd
          first
            | refine ParObG.plain rfl ?_
            | refine ParObG.wanted (by simp [Region.wanted, yielded, hd]) ?_
          go_simp
          exact ParPostG.same (leX) fun _ _ => rfl
        · intro vals W hx hd
          have hW := HF.out W hx
          simp [PDepsG, pdeps, Region.binds, List.idxOf_cons] at hd
          first
            | refine ParObG.plain rfl ?_
            | refine ParObG.wanted (by simp [Region.wanted, yielded, hd]) ?_
          go_simp
          exact ParPostG.same (leX) fun _ _ => rfl
        · intro vals W hx hd
          have hW := HF.out W hx
          simp [PDepsG, pdeps, Region.binds, List.idxOf_cons] at hd
          first
            | refine ParObG.plain rfl ?_
            | refine ParObG.wanted (by simp [Region.wanted, yielded, hd]) ?_
          go_simp
          exact ParPostG.same (leX) fun _ _ => rfl
        · intro vals W hx hd
          have hW := HF.out W hx
          simp [PDepsG, pdeps, Region.binds, List.idxOf_cons] at hd
          first
            | refine ParObG.plain rfl ?_
            | refine ParObG.wanted (by simp [Region.wanted, yielded, hd]) ?_
          go_simp
          exact ParPostG.same (leX) fun _ _ => rfl
        · intro vals W hx hd
          have hW := HF.out W hx
          simp [PDepsG, pdeps, Region.binds, List.idxOf_cons] at hd
          first
            | refine ParObG.plain rfl ?_
            | refine ParObG.wanted (by simp [Region.wanted, yielded, hd]) ?_
          go_simp
          exact ParPostG.same (leX) fun _ _ => rfl
        · intro vals W hx hd
          have hW := HF.out W hx
          simp [PDepsG, pdeps, Region.binds, List.idxOf_cons] at hd
          first
            | refine ParObG.plain rfl ?_
            | refine ParObG.wanted (by simp [Region.wanted, yielded, hd]) ?_
          go_simp
          exact ParPostG.same (leX) fun _ _ => rfl
        · intro vals W hx hd
          have hW := HF.out W hx
          simp [PDepsG, pdeps, Region.binds, List.idxOf_cons] at hd
          first
            | refine ParObG.plain rfl ?_
            | refine ParObG.wanted (by simp [Region.wanted, yielded, hd]) ?_
          go_simp
          exact ParPostG.same (leX) fun _ _ => rfl
      · simp (maxSteps := 20000000) only [permL, permOp, List.filterMap_cons, List.filterMap_nil, List.getElem?_cons_succ, List.getElem?_cons_zero, Option.map_some, Option.map_none, List.drop_succ_cons, List.drop_zero, List.take_succ_cons, List.take_zero, Nat.reduceSub, ZAll, ParEnd, Act.put, List.setIfInBounds_toArray, List.set_cons_succ, List.set_cons_zero]
      · intro i hi
        cases hi
      · intro i hi
        cases hi
      intro vals W hx hf hz hdist
      simp (maxSteps := 20000000) only [permL, permOp, List.filterMap_cons, List.filterMap_nil, List.getElem?_cons_succ, List.getElem?_cons_zero, Option.map_some, Option.map_none, ParFactsG, List.take_succ_cons, List.take_zero, and_true, Nat.reduceAdd] at hf
      obtain ⟨f0, f1, f2, f3, f4, f5, f6, f7, f8, f9, f10, f11, f12, f13⟩ := hf
      clear hz
      simp (maxSteps := 20000000) only [permL, permOp, List.filterMap_cons, List.filterMap_nil, List.getElem?_cons_succ, List.getElem?_cons_zero, Option.map_some, Option.map_none, List.drop_succ_cons, List.drop_zero, List.take_succ_cons, List.take_zero, Nat.reduceSub, ParEnd, ZTail, Act.put, List.setIfInBounds_toArray, List.set_cons_succ, List.set_cons_zero, Nat.reduceAdd, f0, f1, f2, f3, f4, f5, f6, f7, f8, f9, f10, f11, f12, f13]
      clear f0 f1 f2 f3 f4 f5 f6 f7 f8 f9 f10 f11 f12 f13
      have hW := HF.out W hx
      have hx2 := Ext.trans (bel_drewN W1 nq) hx
      have HB2 := Lib.hid (HB1.out.keep hx2)
      clear cb fb hbl q3 hgl HF
      have hbl := HB2.out.lt
      refine ⟨?_⟩
      go_simp
      repeat (first | go_values | go_skip | go_guarded | go_step | go_upon)
      go_returns
      have hl2 : LeP p w (W.setCell ⟨p, 4, none⟩ (.int .i64 tp)) := (HL1.out.trans (LeP.ofExt hx2)).trans (LeP.set 4 _)
      refine ⟨rfl, HP.out.set hl2 ?_ HP.out.le, hl2⟩
      have hB := HB2.out.set 4 (.int .i64 tp)
      have hA := HA.out
      rw [hti] at hA
      subst hA
      rw [← psA_pos (g := g) (show 0 < n by omega), hn] at hB
      exact hB
  · rw [if_neg he]
    go_enter Tryz.func35, Tryz.ntmps35
    go_wp2_with fail
    go_returns
    exact ⟨rfl, HP.out, LeP.refl _ _⟩
end Go.Proofs.YtlhkmdchjklaeaaGreatDoor
