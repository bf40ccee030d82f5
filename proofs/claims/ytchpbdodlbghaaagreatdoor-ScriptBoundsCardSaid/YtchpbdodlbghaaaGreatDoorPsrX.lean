import Derived.Deep.LoopGhost
import Derived.Test.YtchpbdodlbghaaaGreatDoorParD
import Derived.Test.YtchpbdodlbghaaaGreatDoorParF
import Derived.Test.YtchpbdodlbghaaaGreatDoorPsrA
namespace Go.Proofs.YtchpbdodlbghaaaGreatDoor
open Go.RowKit Go.Lib
set_option maxRecDepth 100000

structure LeP (p : Nat) (w w' : World) : Prop where
  os : w'.os = w.os
  tape : w'.tape = w.tape
  out : w'.output = w.output
  size : w.heap.size ≤ w'.heap.size
  old : ∀ i, i < w.heap.size → i ≠ p → w'.heap[i]? = w.heap[i]?
theorem leX : IsLe Ext := ⟨Ext.refl, Ext.trans, fun h => ⟨h.os, h.tape, h.output, h.size, h.block⟩⟩
theorem LeP.refl (p : Nat) (w : World) : LeP p w w := ⟨rfl, rfl, rfl, Nat.le_refl _, fun _ _ _ => rfl⟩
theorem LeP.trans {p : Nat} {a b c : World} (h : LeP p a b) (k : LeP p b c) : LeP p a c :=
  ⟨k.os.trans h.os, k.tape.trans h.tape, k.out.trans h.out, Nat.le_trans h.size k.size, fun i h1 h2 => (k.old i (Nat.lt_of_lt_of_le h1 h.size) h2).trans (h.old i h1 h2)⟩
theorem LeP.ofExt {p : Nat} {w w' : World} (h : Ext w w') : LeP p w w' := ⟨h.os, h.tape, h.output, h.size, fun i hi _ => h.block i hi⟩
theorem LeP.set {p : Nat} {w : World} (o : Nat) (v : Value) : LeP p w (w.setCell ⟨p, o, none⟩ v) := ⟨rfl, rfl, rfl, by simp, fun i _ hn => heap_setCell_other w ⟨p, o, none⟩ i v hn⟩
theorem LeP.blk {p : Nat} {w w' : World} (h : LeP p w w') {i : Nat} {cs : Array Value} {t : TypeId} (hb : Blk w i cs t) (hn : i ≠ p) : Blk w' i cs t := (h.old i hb.lt hn).trans hb
theorem LeP.below {p : Nat} {w0 w w' : World} (h0 : Below w0.heap.size w0 w) (h : LeP p w w') (hp : w0.heap.size ≤ p) : Below w0.heap.size w0 w' :=
  ⟨h.os.trans h0.os, h.tape.trans h0.tape, h.out.trans h0.output, Nat.le_trans h0.size h.size, fun i hi => (h.old i (Nat.lt_of_lt_of_le hi h0.size) (by omega)).trans (h0.block i hi)⟩
theorem PsAt.set {w w' : World} {p g cap long : Nat} {T : List Lx.Tok} {s s' : PSt} (h : PsAt w p g cap long T s) (hx : LeP p w w') (hb : Blk w' p (psC g cap T.length long s') 168) (hi : s'.i ≤ T.length) : PsAt w' p g cap long T s' :=
  ⟨hb, h.tok.ext (hx.old g h.tok.1 h.ne) hx.size, h.ne, hi, h.cap, h.few⟩
def advP (b : Bool) (s : PSt) : PSt := if b then { s with i := s.i + 1 } else s
theorem isB_lt {T : List Lx.Tok} {s : PSt} {k : Int} {x : List UInt8} (h : isB T s k x = true) : s.i < T.length := by
  unfold isB at h
  rw [Bool.and_eq_true] at h
  obtain ⟨_, h⟩ := h
  split at h
  · rename_i t ht
    exact (List.getElem?_eq_some_iff.1 ht).1
  · cases h
set_option maxHeartbeats 4000000 in
theorem pword_any (p g cap long : Nat) (T : List Lx.Tok) (s : PSt) (text : ByteArray) (w : World) (h : PsAt w p g cap long T s) :
    Calls Tryz.prog 71 #[.pointer (some ⟨p, 0, none⟩), .string text] w fun e w' => e = .returned (.bool (isB T s 2 (bsl text))) ∧ PsAt w' p g cap long T (advP (isB T s 2 (bsl text)) s) ∧ LeP p w w' := by
  have KI := Lib.hid (fun W (hW : Ext w W) => is_any p g cap long T s 2 text W (h.ext hW))
  have HP := Lib.hid h
  have hlt := fun hb => isB_lt (T := T) (s := s) (k := 2) (x := bsl text) hb
  generalize isB T s 2 (bsl text) = b at KI hlt ⊢
  clear h
  go_enter Tryz.func71, Tryz.ntmps71
  go_wp2_with fail
  refine Calls.mono (KI.out _ (Ext.refl _)) ?_
  rintro e W ⟨rfl, hb⟩
  cases b
  · go_simp
    repeat (first | go_values | go_skip | go_guarded | go_step | go_upon)
    go_returns
    exact ⟨rfl, HP.out.ext hb, LeP.ofExt hb⟩
  · have hP := HP.out.ext hb
    have hl := hlt rfl
    have hle := hP.few
    have HB := Lib.hid hP.blk
    obtain ⟨i, deep, at_, er⟩ := s
    simp only [psC] at HB hl
    obtain ⟨cb, fb⟩ := HB.out.facts
    have hbl := HB.out.lt
    have hsum := IntWalk.i64_in ((i : Int) + 1) (by omega)
    go_simp
    repeat (first | go_values | go_skip | go_guarded | go_step | go_upon)
    go_returns
    refine ⟨rfl, hP.set (LeP.set 1 _) ?_ hl, (LeP.ofExt hb).trans (LeP.set 1 _)⟩
    exact HB.out.set 1 _
set_option maxHeartbeats 4000000 in
theorem pop_any (p g cap long : Nat) (T : List Lx.Tok) (s : PSt) (text : ByteArray) (w : World) (h : PsAt w p g cap long T s) :
    Calls Tryz.prog 49 #[.pointer (some ⟨p, 0, none⟩), .string text] w fun e w' => e = .returned (.bool (isB T s 5 (bsl text))) ∧ PsAt w' p g cap long T (advP (isB T s 5 (bsl text)) s) ∧ LeP p w w' := by
  have KI := Lib.hid (fun W (hW : Ext w W) => is_any p g cap long T s 5 text W (h.ext hW))
  have HP := Lib.hid h
  have hlt := fun hb => isB_lt (T := T) (s := s) (k := 5) (x := bsl text) hb
  generalize isB T s 5 (bsl text) = b at KI hlt ⊢
  clear h
  go_enter Tryz.func49, Tryz.ntmps49
  go_wp2_with fail
  refine Calls.mono (KI.out _ (Ext.refl _)) ?_
  rintro e W ⟨rfl, hb⟩
  cases b
  · go_simp
    repeat (first | go_values | go_skip | go_guarded | go_step | go_upon)
    go_returns
    exact ⟨rfl, HP.out.ext hb, LeP.ofExt hb⟩
  · have hP := HP.out.ext hb
    have hl := hlt rfl
    have hle := hP.few
    have HB := Lib.hid hP.blk
    obtain ⟨i, deep, at_, er⟩ := s
    simp only [psC] at HB hl
    obtain ⟨cb, fb⟩ := HB.out.facts
    have hbl := HB.out.lt
    have hsum := IntWalk.i64_in ((i : Int) + 1) (by omega)
    go_simp
    repeat (first | go_values | go_skip | go_guarded | go_step | go_upon)
    go_returns
    refine ⟨rfl, hP.set (LeP.set 1 _) ?_ hl, (LeP.ofExt hb).trans (LeP.set 1 _)⟩
    exact HB.out.set 1 _
def wrongP (T : List Lx.Tok) (long : Nat) (er : Int) (s : PSt) : PSt := if s.e = 0 then { s with e := er, at_ := match T[s.i]? with | some t => (t.pos : Int) | none => (long : Int) } else s
set_option maxHeartbeats 4000000 in
theorem wrong_any (p g cap long : Nat) (T : List Lx.Tok) (s : PSt) (er : Int) (w : World) (h : PsAt w p g cap long T s) :
    Calls Tryz.prog 80 #[.pointer (some ⟨p, 0, none⟩), .int .i64 er] w fun e w' => e = .returned (.tuple #[]) ∧ PsAt w' p g cap long T (wrongP T long er s) ∧ LeP p w w' := by
  have mixed : Tryz.prog.follows .mixedOrders = true := by kernel_rfl
  have HP := Lib.hid h
  have HB := Lib.hid h.blk
  obtain ⟨i, deep, at_, ee⟩ := s
  have hle := h.le
  have hcap := h.cap
  obtain ⟨n, hn⟩ : ∃ n, n = T.length := ⟨_, rfl⟩
  simp only [psC] at HB hle
  rw [← hn] at HB hle hcap
  obtain ⟨ga, hga⟩ : ∃ ga, ga = psA g n := ⟨_, rfl⟩
  rw [← hga] at HB
  clear h
  unfold wrongP
  simp only
  obtain ⟨cb, fb⟩ := HB.out.facts
  have hbl := HB.out.lt
  by_cases he : ee = 0
  · subst he
    rw [if_pos rfl]
    obtain ⟨A, hA⟩ : ∃ A : Int, A = (match T[i]? with | some t => (t.pos : Int) | none => (long : Int)) := ⟨_, rfl⟩
    rw [← hA]
    have HA := Lib.hid hA
    clear hA
    go_enter Tryz.func80, Tryz.ntmps80
    go_simp
    repeat (first | go_values | go_skip | go_guarded | go_step | go_upon)
    have HB1 := Lib.hid (show Blk ((w.setCell ⟨p, 5, none⟩ (.int .i64 er)).setCell ⟨p, 4, none⟩ (.int .i64 long)) p #[.slice ga n cap, .int .i64 i, .int .i64 long, .int .i64 deep, .int .i64 long, .int .i64 er] 168 from (HB.out.set 5 _).set 4 _)
    have HL1 := Lib.hid (show LeP p w ((w.setCell ⟨p, 5, none⟩ (.int .i64 er)).setCell ⟨p, 4, none⟩ (.int .i64 long)) from (LeP.set 5 _).trans (LeP.set 4 _))
    generalize ((w.setCell ⟨p, 5, none⟩ (.int .i64 er)).setCell ⟨p, 4, none⟩ (.int .i64 long)) = W1 at HB1 HL1 ⊢
    have HT1 := Lib.hid (HP.out.tok.ext (HL1.out.old g HP.out.tok.1 HP.out.ne) HL1.out.size)
    clear cb fb hbl
    obtain ⟨cb, fb⟩ := HB1.out.facts
    have hbl := HB1.out.lt
    cases hti : T[i]? with
    | none =>
      have hge : n ≤ i := by rw [hn]; exact List.getElem?_eq_none_iff.1 hti
      have hnl : decide ((i : Int) < (n : Int)) = false := by rw [decide_eq_false_iff_not]; omega
      have hnl2 : decide (i < n) = false := by rw [decide_eq_false_iff_not]; omega
      go_quiet (fail)
      go_wp2
      go_returns
      refine ⟨rfl, HP.out.set (HL1.out.trans (LeP.ofExt (bel_drewN _ _))) ?_ HP.out.le, HL1.out.trans (LeP.ofExt (bel_drewN _ _))⟩
      have hB := HB1.out.keep (bel_drewN W1 nq)
      have hA := HA.out
      rw [hti] at hA
      subst hA
      rw [hga, hn] at hB
      exact hB
    | some tok =>
      have hlt : i < n := by rw [hn]; exact (List.getElem?_eq_some_iff.1 hti).1
      have hltI : (i : Int) < (n : Int) := by omega
      rw [psA_pos (by omega)] at hga
      subst hga
      have hltB : decide ((i : Int) < (n : Int)) = true := by rw [decide_eq_true_iff]; exact hltI
      obtain ⟨_, _, _, q3⟩ := HT1.out.get hti
      have hgl := HT1.out.1
      obtain ⟨tk, tt, tn, tp⟩ := tok
      simp only at q3
      go_quiet (fail)
      have HF := Lib.hid (show ∀ W, Ext (W1.drewN nq) W → (∀ j, W.cell? ⟨p, j, none⟩ = (#[.slice (some ⟨g, 0, none⟩) n cap, .int .i64 i, .int .i64 long, .int .i64 deep, .int .i64 long, .int .i64 er] : Array Value)[j]?) ∧ (∀ j, W.frozen? ⟨p, j, none⟩ = false) ∧ W.cell? ⟨g, i * 4 + 3, none⟩ = some (.int .i64 tp) from fun W hW => by
        have hx := Ext.trans (bel_drewN W1 nq) hW
        exact ⟨(HB1.out.keep hx).cell, (HB1.out.keep hx).free, (hx.cell (p := ⟨g, _, none⟩) hgl).trans q3⟩)
      go_simp
      repeat (first | go_values | go_skip | go_guarded | go_step | go_upon)
      refine wp_parZF [] (leX) [0, 1, 2, 3, 4, 5, 6, 7, 8, 9, 10, 11, 12, 13, 14] 14 14 (fun
          | 0 => fun _ v _ => v = .pointer (some ⟨p, 0, none⟩)
          | 1 => fun _ v _ => v = .pointer (some ⟨p, 0, none⟩)
          | 2 => fun _ v _ => v = .pointer (some ⟨p, 0, none⟩)
          | 3 => fun _ v _ => v = .pointer (some ⟨p, 0, none⟩)
          | 4 => fun _ v _ => v = .slice (some ⟨g, 0, none⟩) n cap
          | 5 => fun _ v _ => v = .pointer (some ⟨p, 0, none⟩)
          | 6 => fun _ v _ => v = .pointer (some ⟨p, 0, none⟩)
          | 7 => fun _ v _ => v = .pointer (some ⟨p, 1, none⟩)
          | 8 => fun _ v _ => v = .int .i64 i
          | 9 => fun _ v _ => v = .pointer (some ⟨g, i * 4, none⟩)
          | 10 => fun _ v _ => v = .pointer (some ⟨g, i * 4 + 3, none⟩)
          | 11 => fun _ v _ => v = .int .i64 tp
          | 12 => fun _ v _ => v = .pointer (some ⟨p, 0, none⟩)
          | 13 => fun _ v _ => v = .pointer (some ⟨p, 4, none⟩)
          | _ => fun _ _ _ => True) (fun
          | _ => undef) (by kernel_rfl) (by kernel_rfl) (by kernel_rfl) ?_ ?_ ?_ ?_ ?_
      · simp (maxSteps := 20000000) only [permL, permOp, List.filterMap_cons, List.filterMap_nil, List.getElem?_cons_succ, List.getElem?_cons_zero, Option.map_some, Option.map_none, List.take_succ_cons, List.take_zero, ParAllG, Act.put, List.setIfInBounds_toArray, List.set_cons_succ, List.set_cons_zero]
        refine ⟨?_, ?_, ?_, ?_, ?_, ?_, ?_, ?_, ?_, ?_, ?_, ?_, ?_, ?_, trivial⟩
        · intro vals W hx hd
          have hW := HF.out W hx
          simp [PDepsG, pdeps, Region.binds, List.idxOf_cons] at hd
          first
            | refine ParObG.plain rfl ?_
            | refine ParObG.wanted (by simp [Region.wanted, yielded, hd]) ?_
          go_simp
          exact ParPostG.same (leX) fun _ _ => rfl
        · intro vals W hx hd
          have hW := HF.out W hx
          simp [PDepsG, pdeps, Region.binds, List.idxOf_cons] at hd
          first
            | refine ParObG.plain rfl ?_
            | refine ParObG.wanted (by simp [Region.wanted, yielded, hd]) ?_
          go_simp
          exact ParPostG.same (leX) fun _ _ => rfl
        · intro vals W hx hd
          have hW := HF.out W hx
          simp [PDepsG, pdeps, Region.binds, List.idxOf_cons] at hd
          first
            | refine ParObG.plain rfl ?_
            | refine ParObG.wanted (by simp [Region.wanted, yielded, hd]) ?_
          go_simp
          exact ParPostG.same (leX) fun _ _ => rfl
        · intro vals W hx hd
          have hW := HF.out W hx
          simp [PDepsG, pdeps, Region.binds, List.idxOf_cons] at hd
          first
            | refine ParObG.plain rfl ?_
            | refine ParObG.wanted (by simp [Region.wanted, yielded, hd]) ?_
          go_simp
          exact ParPostG.same (leX) fun _ _ => rfl
        · intro vals W hx hd
          have hW := HF.out W hx
          simp [PDepsG, pdeps, Region.binds, List.idxOf_cons] at hd
          first
            | refine ParObG.plain rfl ?_
            | refine ParObG.wanted (by simp [Region.wanted, yielded, hd]) ?_
          go_simp
          exact ParPostG.same (leX) fun _ _ => rfl
        · intro vals W hx hd
          have hW := HF.out W hx
          simp [PDepsG, pdeps, Region.binds, List.idxOf_cons] at hd
          first
            | refine ParObG.plain rfl ?_
            | refine ParObG.wanted (by simp [Region.wanted, yielded, hd]) ?_
          go_simp
          exact ParPostG.same (leX) fun _ _ => rfl
        · intro vals W hx hd
          have hW := HF.out W hx
          simp [PDepsG, pdeps, Region.binds, List.idxOf_cons] at hd
          first
            | refine ParObG.plain rfl ?_
            | refine ParObG.wanted (by simp [Region.wanted, yielded, hd]) ?_
          go_simp
          exact ParPostG.same (leX) fun _ _ => rfl
        · intro vals W hx hd
          have hW := HF.out W hx
          simp [PDepsG, pdeps, Region.binds, List.idxOf_cons] at hd
          first
            | refine ParObG.plain rfl ?_
            | refine ParObG.wanted (by simp [Region.wanted, yielded, hd]) ?_
          go_simp
          exact ParPostG.same (leX) fun _ _ => rfl
        · intro vals W hx hd
          have hW := HF.out W hx
          simp [PDepsG, pdeps, Region.binds, List.idxOf_cons] at hd
          first
            | refine ParObG.plain rfl ?_
            | refine ParObG.wanted (by simp [Region.wanted, yielded, hd]) ?_
          go_simp
          exact ParPostG.same (leX) fun _ _ => rfl
        · intro vals W hx hd
          have hW := HF.out W hx
          simp [PDepsG, pdeps, Region.binds, List.idxOf_cons] at hd
          first
            | refine ParObG.plain rfl ?_
            | refine ParObG.wanted (by simp [Region.wanted, yielded, hd]) ?_
          go_simp
          exact ParPostG.same (leX) fun _ _ => rfl
        · intro vals W hx hd
          have hW := HF.out W hx
          simp [PDepsG, pdeps, Region.binds, List.idxOf_cons] at hd
          first
            | refine ParObG.plain rfl ?_
            | refine ParObG.wanted (by simp [Region.wanted, yielded, hd]) ?_
          go_simp
          exact ParPostG.same (leX) fun _ _ => rfl
        · intro vals W hx hd
          have hW := HF.out W hx
          simp [PDepsG, pdeps, Region.binds, List.idxOf_cons] at hd
          first
            | refine ParObG.plain rfl ?_
            | refine ParObG.wanted (by simp [Region.wanted, yielded, hd]) ?_
          go_simp
          exact ParPostG.same (leX) fun _ _ => rfl
        · intro vals W hx hd
          have hW := HF.out W hx
          simp [PDepsG, pdeps, Region.binds, List.idxOf_cons] at hd
          first
            | refine ParObG.plain rfl ?_
            | refine ParObG.wanted (by simp [Region.wanted, yielded, hd]) ?_
          go_simp
          exact ParPostG.same (leX) fun _ _ => rfl
        · intro vals W hx hd
          have hW := HF.out W hx
          simp [PDepsG, pdeps, Region.binds, List.idxOf_cons] at hd
          first
            | refine ParObG.plain rfl ?_
            | refine ParObG.wanted (by simp [Region.wanted, yielded, hd]) ?_
          go_simp
          exact ParPostG.same (leX) fun _ _ => rfl
      · simp (maxSteps := 20000000) only [permL, permOp, List.filterMap_cons, List.filterMap_nil, List.getElem?_cons_succ, List.getElem?_cons_zero, Option.map_some, Option.map_none, List.drop_succ_cons, List.drop_zero, List.take_succ_cons, List.take_zero, Nat.reduceSub, ZAll, ParEnd, Act.put, List.setIfInBounds_toArray, List.set_cons_succ, List.set_cons_zero]
      · intro i hi
        cases hi
      · intro i hi
        cases hi
      intro vals W hx hf hz hdist
      simp (maxSteps := 20000000) only [permL, permOp, List.filterMap_cons, List.filterMap_nil, List.getElem?_cons_succ, List.getElem?_cons_zero, Option.map_some, Option.map_none, ParFactsG, List.take_succ_cons, List.take_zero, and_true, Nat.reduceAdd] at hf
      obtain ⟨f0, f1, f2, f3, f4, f5, f6, f7, f8, f9, f10, f11, f12, f13⟩ := hf
      clear hz
      simp (maxSteps := 20000000) only [permL, permOp, List.filterMap_cons, List.filterMap_nil, List.getElem?_cons_succ, List.getElem?_cons_zero, Option.map_some, Option.map_none, List.drop_succ_cons, List.drop_zero, List.take_succ_cons, List.take_zero, Nat.reduceSub, ParEnd, ZTail, Act.put, List.setIfInBounds_toArray, List.set_cons_succ, List.set_cons_zero, Nat.reduceAdd, f0, f1, f2, f3, f4, f5, f6, f7, f8, f9, f10, f11, f12, f13]
      clear f0 f1 f2 f3 f4 f5 f6 f7 f8 f9 f10 f11 f12 f13
      have hW := HF.out W hx
      have hx2 := Ext.trans (bel_drewN W1 nq) hx
      have HB2 := Lib.hid (HB1.out.keep hx2)
      clear cb fb hbl q3 hgl HF
      have hbl := HB2.out.lt
      refine ⟨?_⟩
      go_simp
      repeat (first | go_values | go_skip | go_guarded | go_step | go_upon)
      go_returns
      have hl2 : LeP p w (W.setCell ⟨p, 4, none⟩ (.int .i64 tp)) := (HL1.out.trans (LeP.ofExt hx2)).trans (LeP.set 4 _)
      refine ⟨rfl, HP.out.set hl2 ?_ HP.out.le, hl2⟩
      have hB := HB2.out.set 4 (.int .i64 tp)
      have hA := HA.out
      rw [hti] at hA
      subst hA
      rw [← psA_pos (g := g) (show 0 < n by omega), hn] at hB
      exact hB
  · rw [if_neg he]
    go_enter Tryz.func80, Tryz.ntmps80
    go_wp2_with fail
    go_returns
    exact ⟨rfl, HP.out, LeP.refl _ _⟩
end Go.Proofs.YtchpbdodlbghaaaGreatDoor
namespace Go.Proofs.YtchpbdodlbghaaaGreatDoor
open Go.RowKit Go.Lib
set_option maxRecDepth 100000

def textP (T : List Lx.Tok) (s : PSt) : List UInt8 := match T[s.i]? with | some t => t.text | none => []
def binsL : Nat → List (Int × List UInt8 × Int)
  | 1 => [(2, [79, 82], 19), (2, [88, 79, 82], 22)]
  | 2 => [(2, [65, 78, 68], 18)]
  | 4 => [(5, [61], 1), (5, [60, 62], 2), (5, [60], 3), (5, [60, 61], 4), (5, [62], 5), (5, [62, 61], 6)]
  | 5 => [(5, [124], 15), (5, [94], 16)]
  | 6 => [(5, [38], 14)]
  | 7 => [(5, [60, 60], 12), (5, [62, 62], 13)]
  | 8 => [(5, [43], 7), (5, [45], 8), (5, [124, 124], 17)]
  | 9 => [(5, [42], 9), (5, [47], 10), (5, [37], 11)]
  | _ => []
inductive Tr where
  | mk (k o : Int) (s t : List UInt8) (n : Int) (l : List Tr)
structure PN where
  k : Int
  o : Int
  s : ByteArray
  t : ByteArray
  n : Int
  la : Option Addr
  ln : Nat
  lc : Nat
def PN.cells (x : PN) : Array Value := #[.int .i64 x.k, .int .i64 x.o, .string x.s, .string x.t, .int .i64 x.n, .slice x.la x.ln x.lc]
def PN.v (x : PN) : Value := .agg #[.int .i64 x.k, .int .i64 x.o, .string x.s, .string x.t, .int .i64 x.n, .slice x.la x.ln x.lc]
def PnAt (w : World) (g : Nat) (L : List PN) : Prop := g < w.heap.size ∧ ∀ (i : Nat) (x : PN), L[i]? = some x → ∀ j, j < 6 → w.cell? ⟨g, i * 6 + j, none⟩ = x.cells[j]?
inductive TrAt (A : Nat → Prop) (w : World) : PN → Tr → Prop
  | leaf (k o : Int) (s t : List UInt8) (n : Int) : TrAt A w ⟨k, o, ⟨s.toArray⟩, ⟨t.toArray⟩, n, none, 0, 0⟩ (.mk k o s t n [])
  | node (k o : Int) (s t : List UInt8) (n : Int) (g lc : Nat) (L : List PN) (l : List Tr) (hl : L.length = l.length) (h0 : 0 < l.length) (hc : l.length ≤ lc) (hg : A g) (hN : PnAt w g L) (h : ∀ (i : Nat) (x : PN) (y : Tr), L[i]? = some x → l[i]? = some y → TrAt A w x y) :
      TrAt A w ⟨k, o, ⟨s.toArray⟩, ⟨t.toArray⟩, n, some ⟨g, 0, none⟩, l.length, lc⟩ (.mk k o s t n l)
theorem PnAt.same {w w' : World} {g : Nat} {L : List PN} (h : PnAt w g L) (hx : w'.heap[g]? = w.heap[g]?) (hs : w.heap.size ≤ w'.heap.size) : PnAt w' g L :=
  ⟨Nat.lt_of_lt_of_le h.1 hs, fun i x hi j hj => by
    rw [show w'.cell? ⟨g, i * 6 + j, none⟩ = w.cell? ⟨g, i * 6 + j, none⟩ by simp [World.cell?, hx]]
    exact h.2 i x hi j hj⟩
theorem TrAt.same {A : Nat → Prop} {w w' : World} {x : PN} {t : Tr} (h : TrAt A w x t) (hx : ∀ g, A g → g < w.heap.size → w'.heap[g]? = w.heap[g]?) (hs : w.heap.size ≤ w'.heap.size) : TrAt A w' x t := by
  induction h with
  | leaf k o s t n => exact .leaf k o s t n
  | node k o s t n g lc L l hl h0 hc hg hN _ ih => exact .node k o s t n g lc L l hl h0 hc hg (hN.same (hx g hg hN.1) hs) ih
theorem TrAt.later {A : Nat → Prop} {p : Nat} {w w' : World} {x : PN} {t : Tr} (h : TrAt A w x t) (hA : ∀ g, A g → g ≠ p) (hx : LeP p w w') : TrAt A w' x t := h.same (fun g hg hl => hx.old g hl (hA g hg)) hx.size
theorem TrAt.mono {A B : Nat → Prop} {w : World} {x : PN} {t : Tr} (h : TrAt A w x t) (hA : ∀ g, A g → g < w.heap.size → B g) : TrAt B w x t := by
  induction h with
  | leaf k o s t n => exact .leaf k o s t n
  | node k o s t n g lc L l hl h0 hc hg hN _ ih => exact .node k o s t n g lc L l hl h0 hc (hA g hg hN.1) hN ih
theorem TrAt.set6 {A : Nat → Prop} {w : World} {x : PN} {t : Tr} (h : TrAt A w x t) {b : Nat} (hA : ∀ g, A g → g ≠ b) (c0 c1 c2 c3 c4 c5 : Value) : TrAt A ((((((w.setCell ⟨b, 0, none⟩ c0).setCell ⟨b, 1, none⟩ c1).setCell ⟨b, 2, none⟩ c2).setCell ⟨b, 3, none⟩ c3).setCell ⟨b, 4, none⟩ c4).setCell ⟨b, 5, none⟩ c5) x t :=
  h.same (fun g hg _ => by
    have hn := hA g hg
    rw [heap_setCell_other _ ⟨b, 5, none⟩ g _ hn, heap_setCell_other _ ⟨b, 4, none⟩ g _ hn, heap_setCell_other _ ⟨b, 3, none⟩ g _ hn, heap_setCell_other _ ⟨b, 2, none⟩ g _ hn, heap_setCell_other _ ⟨b, 1, none⟩ g _ hn, heap_setCell_other _ ⟨b, 0, none⟩ g _ hn]) (by simp)
theorem cells6_get : ∀ (L : List PN) (i : Nat) (x : PN), L[i]? = some x → ∀ j, j < 6 → (L.flatMap fun x => x.cells.toList)[i * 6 + j]? = x.cells[j]?
  | y :: L, 0, x, h, j, hj => by
    obtain rfl : y = x := by simpa using h
    rw [Nat.zero_mul, Nat.zero_add]
    simp only [List.flatMap_cons]
    rw [List.getElem?_append_left (by simp [PN.cells]; omega)]
    simp
  | y :: L, i + 1, x, h, j, hj => by
    have ih := cells6_get L i x (by simpa using h) j hj
    simp only [List.flatMap_cons]
    rw [List.getElem?_append_right (by simp [PN.cells]; omega), ← ih]
    congr 1
    simp [PN.cells]; omega
theorem pnAt_of {w : World} {g : Nat} {t : TypeId} (L : List PN) (h : Blk w g (L.flatMap fun x => x.cells.toList).toArray t) : PnAt w g L :=
  ⟨h.lt, fun i x hx j hj => by rw [h.cell, List.getElem?_toArray, cells6_get L i x hx j hj]⟩
theorem ret_ndP {t : Tmp} {fn : Func} (h : fn.results = #[.cell t 196]) (tmps : Array Value) {w : World} {g : Nat} {cs : Array Value} (hc : cs.size = 6) (hp : tmps.getD t undef = .pointer (some ⟨g, 0, none⟩)) (hg : Blk w g cs 196) :
    (results fn tmps).run Tryz.prog w = .ok (.agg cs) w := by
  have hp' : tmps[t]?.getD undef = .pointer (some ⟨g, 0, none⟩) := by simpa using hp
  have hr := run_loadVar_row w g 196 196 cs (0, 0) _ hg Tryz.underlying196 rfl (by rw [hc]; kernel_rfl)
  simp [results, h, hp', asAddr, hr]
theorem blk6P {w : World} {g : Nat} {a b c d e f : Value} {t : TypeId} (h : Blk w g #[a, b, c, d, e, f] t) (a' b' c' d' e' f' : Value) : Blk ((((((w.setCell ⟨g, 0, none⟩ a').setCell ⟨g, 1, none⟩ b').setCell ⟨g, 2, none⟩ c').setCell ⟨g, 3, none⟩ d').setCell ⟨g, 4, none⟩ e').setCell ⟨g, 5, none⟩ f') g #[a', b', c', d', e', f'] t :=
  (((((h.set 0 a').set 1 b').set 2 c').set 3 d').set 4 e').set 5 f'
theorem LeP.other {p : Nat} {w0 w : World} (h : LeP p w0 w) {g : Nat} (hg : w0.heap.size ≤ g) (o : Nat) (v : Value) : LeP p w0 (w.setCell ⟨g, o, none⟩ v) :=
  ⟨h.os, h.tape, h.out, by simpa using h.size, fun i hi hn => (heap_setCell_other w ⟨g, o, none⟩ i v (by show i ≠ g; omega)).trans (h.old i hi hn)⟩
theorem LeP.other6 {p : Nat} {w0 w : World} (h : LeP p w0 w) {g : Nat} (hg : w0.heap.size ≤ g) (a b c d e f : Value) : LeP p w0 ((((((w.setCell ⟨g, 0, none⟩ a).setCell ⟨g, 1, none⟩ b).setCell ⟨g, 2, none⟩ c).setCell ⟨g, 3, none⟩ d).setCell ⟨g, 4, none⟩ e).setCell ⟨g, 5, none⟩ f) :=
  (((((h.other hg 0 a).other hg 1 b).other hg 2 c).other hg 3 d).other hg 4 e).other hg 5 f
theorem leP (p : Nat) : IsLe (LeP p) := ⟨LeP.refl p, LeP.trans, fun h => ⟨h.os, h.tape, h.out, h.size, h.old⟩⟩
theorem yields_storeP {o : Oper} {ρ : Operand → Value} {w : World} {Y : Value → World → Prop} {x y : Operand} {g : Nat} {old cs : Array Value} (ho : o.op = .store 196 x y) (hx : ρ x = .pointer (some ⟨g, 0, none⟩)) (hy : ρ y = .agg cs) (hg : Blk w g old 196) (hold : old.size = 6) (hcs : cs.size = 6)
    (h1 : cs.all (·.oneCell') = true) (h : Y undef (w.setRow g cs)) : yields Tryz.prog o ρ w Y := by
  have hr := run_storeVar_row (P := Tryz.prog) w g 196 196 old cs hg (by rw [hcs]; kernel_rfl) (by omega) h1
  unfold yields execOp
  simp only [ho, hx, hy, Instr.storeAt, Instr.sureAddr, Sem.run_bind, Sem.run_pure, Result.andThen_ok, hr]
  exact h
theorem LeP.row {p : Nat} {w0 w : World} (h : LeP p w0 w) {g : Nat} (hg : w0.heap.size ≤ g) (V : Array Value) : LeP p w0 (w.setRow g V) :=
  ⟨h.os, h.tape, h.out, by simpa using h.size, fun i hi hn => (setRow_other w g i V (by omega)).trans (h.old i hi hn)⟩
theorem TrAt.row {A : Nat → Prop} {w : World} {x : PN} {t : Tr} (h : TrAt A w x t) {b : Nat} (hA : ∀ g, A g → g ≠ b) (V : Array Value) : TrAt A (w.setRow b V) x t :=
  h.same (fun g hg _ => setRow_other w b g V (hA g hg)) (by simp)
def zTr : Tr := .mk 0 0 [] [] 0 []
def aggB (x : List UInt8) : Bool := x == [99, 111, 117, 110, 116] || x == [115, 117, 109] || x == [109, 105, 110] || x == [109, 97, 120]
theorem oneTr (A : Nat → Prop) (k o : Int) (s t : List UInt8) (n : Int) (g lc : Nat) (x : PN) (m : Tr) (w : World) (hc : 1 ≤ lc) (hA : A g) (hP : PnAt w g [x]) (hT : TrAt A w x m) : TrAt A w ⟨k, o, ⟨s.toArray⟩, ⟨t.toArray⟩, n, some ⟨g, 0, none⟩, 1, lc⟩ (.mk k o s t n [m]) :=
  .node k o s t n g lc [x] [m] rfl (by simp) hc hA hP fun i y z hy hz => by
    have hi : i = 0 := by have := (List.getElem?_eq_some_iff.1 hy).1; simp at this; omega
    subst hi
    obtain rfl := Option.some.inj hy
    obtain rfl := Option.some.inj hz
    exact hT
def callK (x : List UInt8) : Int := if aggB x then 14 else 13
theorem infoNd : (Tryz.prog.info? 196).map (fun i => (i.zero, i.size, i.bytes)) = some (some (.agg #[.int .i64 0, .int .i64 0, .string ⟨#[]⟩, .string ⟨#[]⟩, .int .i64 0, .slice none 0 0]), 6, 80) := by kernel_rfl
abbrev cellsP (L : List PN) : List Value := L.flatMap fun x => x.cells.toList
theorem cellsP_length (L : List PN) : (cellsP L).length = L.length * 6 := by
  induction L with
  | nil => rfl
  | cons x L ih => simp only [cellsP, List.flatMap_cons, List.length_append, List.length_cons] at ih ⊢; rw [ih]; simp [PN.cells]; omega
theorem TrAt.kids {B : Nat → Prop} {w : World} {k o k2 o2 n n2 : Int} {s t : ByteArray} {s2 t2 : List UInt8} {g ln lc : Nat} {l : List Tr} (h : TrAt B w ⟨k, o, s, t, n, some ⟨g, 0, none⟩, ln, lc⟩ (.mk k2 o2 s2 t2 n2 l)) :
    ∃ L : List PN, L.length = l.length ∧ B g ∧ PnAt w g L ∧ ∀ (i : Nat) (x : PN) (y : Tr), L[i]? = some x → l[i]? = some y → TrAt B w x y := by
  cases h with
  | node _ _ _ _ _ _ _ L _ hl _ _ hg hN h => exact ⟨L, hl, hg, hN, h⟩
theorem pn_of_cells {w : World} {g i : Nat} {L L2 : List PN} {x y : PN} (h : PnAt w g L) (k : PnAt w g L2) (hx : L[i]? = some x) (hy : L2[i]? = some y) : y = x := by
  have q := fun j hj => (k.2 i y hy j hj).symm.trans (h.2 i x hx j hj)
  have q0 := q 0 (by omega)
  have q1 := q 1 (by omega)
  have q2 := q 2 (by omega)
  have q3 := q 3 (by omega)
  have q4 := q 4 (by omega)
  have q5 := q 5 (by omega)
  obtain ⟨a1, a2, a3, a4, a5, a6, a7, a8⟩ := y
  obtain ⟨b1, b2, b3, b4, b5, b6, b7, b8⟩ := x
  simp [PN.cells] at q0 q1 q2 q3 q4 q5
  obtain ⟨q6, q7, q8⟩ := q5
  subst q0 q1 q2 q3 q4 q6 q7 q8
  rfl
theorem TrAt.and {A B : Nat → Prop} {w : World} {x : PN} {t : Tr} (h : TrAt A w x t) (hk : TrAt B w x t) : TrAt (fun g => A g ∧ B g) w x t := by
  induction h with
  | leaf kd o s t n => exact .leaf kd o s t n
  | node kd o s t n g lc L l hl h0 hc hg hN hch ih =>
    obtain ⟨L2, hl2, hg2, hN2, h2⟩ := TrAt.kids hk
    refine .node kd o s t n g lc L l hl h0 hc ⟨hg, hg2⟩ hN fun i x y hx hy => ih i x y hx hy ?_
    have hi : i < L2.length := by have := (List.getElem?_eq_some_iff.1 hx).1; omega
    have e2 := List.getElem?_eq_getElem hi
    rw [← pn_of_cells hN hN2 hx e2]
    exact h2 i _ y e2 hy
theorem PN.v_inj {x y : PN} (h : x.v = y.v) : x = y := by
  obtain ⟨a1, a2, a3, a4, a5, a6, a7, a8⟩ := x
  obtain ⟨b1, b2, b3, b4, b5, b6, b7, b8⟩ := y
  simp [PN.v] at h
  obtain ⟨q0, q1, q2, q3, q4, q6, q7, q8⟩ := h
  subst q0 q1 q2 q3 q4 q6 q7 q8
  rfl
def pairD (n0 k : Nat) (x : PN) (m : Tr) (ds : List Value) (v : Value) (w : World) : Prop := ∃ (gs : Nat) (y : PN), ds[k]? = some y.v ∧ v = .slice (some ⟨gs, 0, none⟩) 2 2 ∧ Blk w gs (cellsP [x, y]).toArray 196 ∧ n0 ≤ gs ∧ TrAt (fun g => n0 ≤ g ∧ g < gs) w y m
def builtD (k j : Nat) (kd o : Int) (s t : ByteArray) (nt : Int) (ds : List Value) (v : Value) (_ : World) : Prop := ∃ u, ds[k]? = some u ∧ v = .agg #[.int .i64 kd, .int .i64 o, .string s, .string t, .int .i64 nt, u] ∧ j = j
def allocD (n0 : Nat) (v : Value) (w : World) : Prop := ∃ g, v = .pointer (some ⟨g, 0, none⟩) ∧ n0 ≤ g ∧ Blk w g #[.int .i64 0, .int .i64 0, .string ⟨#[]⟩, .string ⟨#[]⟩, .int .i64 0, .slice none 0 0] 196
theorem two_kids {A : Nat → Prop} {w : World} {k o n : Int} {s t : List UInt8} {g lc : Nat} {x y : PN} {a b : Tr} (hc : 2 ≤ lc) (hg : A g) (hP : PnAt w g [x, y]) (hx : TrAt A w x a) (hy : TrAt A w y b) : TrAt A w ⟨k, o, ⟨s.toArray⟩, ⟨t.toArray⟩, n, some ⟨g, 0, none⟩, 2, lc⟩ (.mk k o s t n [a, b]) :=
  .node k o s t n g lc [x, y] [a, b] rfl (by simp) hc hg hP fun i u v hu hv => by
    have hi : i = 0 ∨ i = 1 := by have := (List.getElem?_eq_some_iff.1 hu).1; simp at this; omega
    rcases hi with rfl | rfl
    · obtain rfl := Option.some.inj hu
      obtain rfl := Option.some.inj hv
      exact hx
    · obtain rfl := Option.some.inj hu
      obtain rfl := Option.some.inj hv
      exact hy
end Go.Proofs.YtchpbdodlbghaaaGreatDoor
