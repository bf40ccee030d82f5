import Derived.Test.YtchpbdodlbghaaaGreatDoorPsrF
namespace Go.Proofs.YtchpbdodlbghaaaGreatDoor
open Go.RowKit Go.Lib
set_option maxRecDepth 100000

def colonP : List UInt8 := [46]
def collP : List UInt8 := [67, 79, 76, 76, 65, 84, 69]
def columnF (T : List Lx.Tok) (long : Nat) (s : PSt) : Option (Tr × PSt) :=
  if isB T (takeP T long s 1) 5 [46] then some (.mk 4 0 (takeT T (advP true (takeP T long s 1)) 1).text (takeT T s 1).text 0 [], takeP T long (advP true (takeP T long s 1)) 1)
  else some (.mk 4 0 (takeT T s 1).text [] 0 [], takeP T long s 1)
def tokP (p g cap long : Nat) (T : List Lx.Tok) (t : Lx.Tok) (s' : PSt) (v : Value) (w : World) : Prop := v = tkV t ∧ PsAt w p g cap long T s'
theorem tok_field (k : Int) (t : ByteArray) (n p : Int) : ∀ w : World, (Instr.field 259 (.agg #[.int .i64 k, .string t, .int .i64 n, .int .i64 p]) 1).run Tryz.prog w = .ok (.string t) w := fun _ => by kernel_rfl
theorem tok_num (k : Int) (t : ByteArray) (n p : Int) : ∀ w : World, (Instr.field 259 (.agg #[.int .i64 k, .string t, .int .i64 n, .int .i64 p]) 2).run Tryz.prog w = .ok (.int .i64 n) w := fun _ => by kernel_rfl
structure LeS (p b : Nat) (V : Value) (w w' : World) : Prop where
  os : w'.os = w.os
  tape : w'.tape = w.tape
  out : w'.output = w.output
  size : w.heap.size ≤ w'.heap.size
  old : ∀ i, i < w.heap.size → i ≠ p → i ≠ b → w'.heap[i]? = w.heap[i]?
  keep : ∀ cs t, Blk w b cs t → Blk w' b cs t ∨ Blk w' b (cs.setIfInBounds 3 V) t
theorem LeS.refl (p b : Nat) (V : Value) (w : World) : LeS p b V w w := ⟨rfl, rfl, rfl, Nat.le_refl _, fun _ _ _ _ => rfl, fun _ _ h => .inl h⟩
theorem set3_twice (cs : Array Value) (V : Value) : (cs.setIfInBounds 3 V).setIfInBounds 3 V = cs.setIfInBounds 3 V := by simp
theorem LeS.trans {p b : Nat} {V : Value} {u v w : World} (h : LeS p b V u v) (k : LeS p b V v w) : LeS p b V u w :=
  ⟨k.os.trans h.os, k.tape.trans h.tape, k.out.trans h.out, Nat.le_trans h.size k.size, fun i h1 h2 h3 => (k.old i (Nat.lt_of_lt_of_le h1 h.size) h2 h3).trans (h.old i h1 h2 h3), fun cs t hb => by
    rcases h.keep cs t hb with h1 | h1
    · exact k.keep cs t h1
    · rcases k.keep _ t h1 with h2 | h2
      · exact .inr h2
      · rw [set3_twice] at h2
        exact .inr h2⟩
theorem LeS.ofLeP {p b : Nat} {V : Value} {w w' : World} (hb : b ≠ p) (h : LeP p w w') : LeS p b V w w' := ⟨h.os, h.tape, h.out, h.size, fun i h1 h2 _ => h.old i h1 h2, fun _ _ hB => .inl (h.blk hB hb)⟩
theorem LeS.ofExt {p b : Nat} {V : Value} {w w' : World} (h : Ext w w') : LeS p b V w w' := ⟨h.os, h.tape, h.output, h.size, fun i h1 _ _ => h.block i h1, fun _ _ hB => .inl (hB.keep h)⟩
theorem leS (p b : Nat) (V : Value) : IsLe (LeS p b V) := ⟨LeS.refl p b V, LeS.trans, fun h => ⟨h.os, h.tape, h.out, h.size, h.old, h.keep⟩⟩
theorem LeS.wide {p b : Nat} {V : Value} {w w' : World} (h : LeS b b V w w') : LeS p b V w w' := ⟨h.os, h.tape, h.out, h.size, fun i h1 _ h3 => h.old i h1 h3 h3, h.keep⟩
theorem LeS.set {p b : Nat} {V : Value} {w : World} : LeS p b V w (w.setCell ⟨b, 3, none⟩ V) := ⟨rfl, rfl, rfl, by simp, fun i _ _ hn => heap_setCell_other w ⟨b, 3, none⟩ i V hn, fun _ _ hB => .inr (hB.set 3 V)⟩
theorem LeS.blk {p b : Nat} {V : Value} {w w' : World} (h : LeS p b V w w') {i : Nat} {cs : Array Value} {t : TypeId} (hb : Blk w i cs t) (hn : i ≠ p) (hm : i ≠ b) : Blk w' i cs t := (h.old i hb.lt hn hm).trans hb
theorem LeS.low {p b : Nat} {V : Value} {w0 w w' : World} (h : LeP p w0 w) (k : LeS p b V w w') (hb : w0.heap.size ≤ b) : LeP p w0 w' :=
  ⟨k.os.trans h.os, k.tape.trans h.tape, k.out.trans h.out, Nat.le_trans h.size k.size, fun i h1 h2 => (k.old i (Nat.lt_of_lt_of_le h1 h.size) h2 (by omega)).trans (h.old i h1 h2)⟩
theorem LeS.ps {p b : Nat} {V : Value} {w w' : World} (h : LeS b b V w w') {g cap long : Nat} {T : List Lx.Tok} {s : PSt} (hP : PsAt w p g cap long T s) (hp : p ≠ b) (hg : g ≠ b) : PsAt w' p g cap long T s :=
  ⟨h.blk hP.blk hp hp, hP.tok.ext (h.old g hP.tok.1 hg hg) h.size, hP.ne, hP.le, hP.cap, hP.few⟩
def storedP (b : Nat) (cs : Array Value) (_ : Value) (w : World) : Prop := Blk w b cs 196
set_option maxHeartbeats 8000000 in
theorem column_any (p g cap long : Nat) (T : List Lx.Tok) (s : PSt) (r : Tr) (s' : PSt) (w : World) (hf : columnF T long s = some (r, s')) (h : PsAt w p g cap long T s) :
    Calls Tryz.prog 464 #[.pointer (some ⟨p, 0, none⟩)] w (LevPost p g cap long T r s' w) := by
  have mixed : Tryz.prog.follows .mixedOrders = true := by kernel_rfl
  have hpw : p ≠ w.heap.size := by have := h.blk.lt; omega
  have hgw : g ≠ w.heap.size := by have := h.tok.1; omega
  have hwp : w.heap.size ≠ p := Ne.symm hpw
  have HR0 := Lib.hid (Blk.new w #[.int .i64 0, .int .i64 0, .string ⟨#[]⟩, .string ⟨#[]⟩, .int .i64 0, .slice none 0 0] 196 rfl)
  have hx0 : Ext w (w.alloc (.cells #[.int .i64 0, .int .i64 0, .string ⟨#[]⟩, .string ⟨#[]⟩, .int .i64 0, .slice none 0 0] 196)) := (Ext.refl w).alloc _
  have KT := Lib.hid (take_any p g cap long T s 1 _ (h.ext hx0))
  have HX0 := Lib.hid hx0
  have KO := Lib.hid (fun (s : PSt) W (hW : PsAt W p g cap long T s) => pop_any p g cap long T s ⟨#[46]⟩ W hW)
  have HFf := Lib.hid hf
  clear hf
  have hf := HFf.out
  unfold columnF at hf
  clear HFf
  generalize takeT T s 1 = t at KT hf ⊢
  generalize takeP T long s 1 = s1 at KT hf ⊢
  have HFf := Lib.hid hf
  clear hf h hx0
  obtain ⟨tk, tt, tn, tp⟩ := t
  simp only [tkV] at KT HFf
  have hfd := tok_field tk ⟨tt.toArray⟩ tn tp
  go_enter Tryz.func464, Tryz.ntmps464
  go_simp
  repeat (first | go_values | go_skip | go_guarded | go_step | go_upon)
  refine Calls.mono KT.out ?_
  rintro e W1 ⟨rfl, hp1, hl1⟩
  have HP1 := Lib.hid hp1
  have HL1 := Lib.hid ((LeP.ofExt HX0.out).trans hl1)
  have HR1 := Lib.hid (hl1.blk HR0.out hwp)
  clear hp1 hl1 KT HR0 HX0
  go_simp
  repeat (first | go_values | go_skip | go_guarded | go_step | go_upon)
  have hx1 : Ext W1 (W1.alloc (.cells #[.int .i64 4, .int .i64 0, .string ⟨tt.toArray⟩, .string ⟨#[]⟩, .int .i64 0, .slice none 0 0] 196)) := (Ext.refl W1).alloc _
  have hB5 : W1.heap.size ≠ p := by have := HP1.out.blk.lt; omega
  have hgB : g ≠ W1.heap.size := by have := HP1.out.tok.1; omega
  have hwB : w.heap.size ≠ W1.heap.size := by have := HR1.out.lt; omega
  have hwl : w.heap.size ≤ W1.heap.size := by have := HR1.out.lt; omega
  refine Calls.mono (KO.out s1 _ (HP1.out.ext hx1)) ?_
  rw [show bsl ⟨#[46]⟩ = [46] from rfl]
  have hf := HFf.out
  clear HFf
  cases hd : isB T s1 5 [46]
  · rw [hd, if_neg (by decide)] at hf
    obtain ⟨rfl, rfl⟩ := Prod.mk.inj (Option.some.inj hf)
    rintro e W2 ⟨rfl, hp2, hl2⟩
    have HV2 := Lib.hid (hl2.blk (Blk.new W1 #[.int .i64 4, .int .i64 0, .string ⟨tt.toArray⟩, .string ⟨#[]⟩, .int .i64 0, .slice none 0 0] 196 rfl) hB5)
    have HR2 := Lib.hid (hl2.blk (HR1.out.keep hx1) hwp)
    have HL2 := Lib.hid ((HL1.out.trans (LeP.ofExt hx1)).trans hl2)
    have HP2 := Lib.hid (show PsAt W2 p g cap long T s1 from hp2)
    clear hp2 hl2 hx1 HP1 HR1 HL1 hfd
    obtain ⟨cv, fv⟩ := HV2.out.facts
    obtain ⟨cr, fr⟩ := HR2.out.facts
    have hvl := HV2.out.lt
    have hrl := HR2.out.lt
    go_simp
    repeat (first | go_values | go_skip | go_guarded | go_step | go_upon)
    refine bodyPost_ret (ret_ndP rfl _ rfl rfl (blk6P HR2.out _ _ _ _ _ _)) rfl ?_
    exact ⟨⟨4, 0, ⟨tt.toArray⟩, ⟨#[]⟩, 0, none, 0, 0⟩, rfl, .leaf 4 0 tt [] 0, HP2.out.other6 hpw hgw _ _ _ _ _ _, HL2.out.other6 (Nat.le_refl _) _ _ _ _ _ _⟩
  · rw [hd, if_pos rfl] at hf
    obtain ⟨hfr, hfs⟩ := Prod.mk.inj (Option.some.inj hf)
    rintro e W2 ⟨rfl, hp2, hl2⟩
    clear hf
    generalize advP true s1 = s2 at hp2 hfr hfs
    have HV2 := Lib.hid (hl2.blk (Blk.new W1 #[.int .i64 4, .int .i64 0, .string ⟨tt.toArray⟩, .string ⟨#[]⟩, .int .i64 0, .slice none 0 0] 196 rfl) hB5)
    have HR2 := Lib.hid (hl2.blk (HR1.out.keep hx1) hwp)
    have HL2 := Lib.hid ((HL1.out.trans (LeP.ofExt hx1)).trans hl2)
    have HP2 := Lib.hid hp2
    clear hp2 hl2 hx1 HP1 HR1 HL1 hfd
    generalize W1.heap.size = B5 at HV2 hB5 hgB hwB hwl ⊢
    have KM := Lib.hid (fun W (hW : PsAt W p g cap long T s2) => take_any p g cap long T s2 1 W hW)
    generalize takeT T s2 1 = t2 at KM hfr
    generalize takeP T long s2 1 = s3 at KM hfs
    obtain ⟨uk, ut, un, up⟩ := t2
    have HFR := Lib.hid (And.intro hfr hfs)
    clear hfr hfs
    have hfd := tok_field uk ⟨ut.toArray⟩ un up
    have hpB : p ≠ B5 := Ne.symm hB5
    have HF := Lib.hid (show ∀ W, LeS p B5 (.string ⟨tt.toArray⟩) W2 W → W.cell? ⟨B5, 2, none⟩ = some (.string ⟨tt.toArray⟩) from fun W hW => by
      rcases hW.keep _ _ HV2.out with hB | hB
      · exact hB.cell 2
      · exact hB.cell 2)
    go_simp
    repeat (first | go_values | go_skip | go_guarded | go_step | go_upon)
    refine wp_parZC 3 (leS B5 B5 (.string ⟨tt.toArray⟩)) (leS p B5 (.string ⟨tt.toArray⟩)) (LeS.wide) [0, 1, 2, 3, 4, 5, 6, 7, 8] 7 7 (fun
        | 0 => fun _ v _ => v = .pointer (some ⟨B5, 2, none⟩)
        | 1 => fun _ v _ => v = .string ⟨tt.toArray⟩
        | 2 => fun _ v _ => v = .pointer (some ⟨p, 0, none⟩)
        | 3 => fun _ => tokP p g cap long T ⟨uk, ut, un, up⟩ s3
        | 4 => fun _ v _ => v = .string ⟨ut.toArray⟩
        | 5 => fun _ v _ => v = .pointer (some ⟨B5, 3, none⟩)
        | 6 => fun _ => storedP B5 #[.int .i64 4, .int .i64 0, .string ⟨tt.toArray⟩, .string ⟨tt.toArray⟩, .int .i64 0, .slice none 0 0]
        | _ => fun _ _ _ => True) (fun
        | _ => undef) (by kernel_rfl) (by kernel_rfl) (by kernel_rfl) (by decide) ?_ ?_ ?_
    · simp (maxSteps := 20000000) only [permL, permOp, List.filterMap_cons, List.filterMap_nil, List.getElem?_cons_succ, List.getElem?_cons_zero, Option.map_some, Option.map_none, List.take_succ_cons, List.take_zero, ParAllC, Act.put, List.setIfInBounds_toArray, List.set_cons_succ, List.set_cons_zero]
      refine ⟨?_, ?_, ?_, ?_, ?_, ?_, ?_, trivial⟩
      · intro vals W hx hd
        rw [if_neg (by decide)] at hx
        have hW := HF.out W hx
        simp [PDepsG, pdeps, Region.binds, List.idxOf_cons] at hd
        refine ParObC.plain rfl ?_
        go_simp
        first | exact IsLe.refl (leS B5 B5 (.string ⟨tt.toArray⟩)) _ | exact ⟨IsLe.refl (leS B5 B5 (.string ⟨tt.toArray⟩)) _, fun _ _ => rfl⟩
      · intro vals W hx hd
        rw [if_neg (by decide)] at hx
        have hW := HF.out W hx
        simp [PDepsG, pdeps, Region.binds, List.idxOf_cons] at hd
        refine ParObC.plain rfl ?_
        go_simp
        first | exact IsLe.refl (leS B5 B5 (.string ⟨tt.toArray⟩)) _ | exact ⟨IsLe.refl (leS B5 B5 (.string ⟨tt.toArray⟩)) _, fun _ _ => rfl⟩
      · intro vals W hx hd
        rw [if_neg (by decide)] at hx
        have hW := HF.out W hx
        simp [PDepsG, pdeps, Region.binds, List.idxOf_cons] at hd
        refine ParObC.plain rfl ?_
        go_simp
        first | exact IsLe.refl (leS B5 B5 (.string ⟨tt.toArray⟩)) _ | exact ⟨IsLe.refl (leS B5 B5 (.string ⟨tt.toArray⟩)) _, fun _ _ => rfl⟩
      · intro vals W hx hd
        rw [if_pos (by decide)] at hx
        simp [PDepsG, pdeps, Region.binds, List.idxOf_cons] at hd
        refine ParObC.call rfl ?_
        go_simp
        refine Calls.mono (KM.out W (hx.ps HP2.out hpB hgB)) ?_
        rintro e w9 ⟨rfl, hpy, hly⟩
        exact ⟨_, rfl, LeS.ofLeP hB5 hly, fun w3 h3 => ⟨rfl, h3.ps hpy hpB hgB⟩⟩
      · intro vals W hx hd
        rw [if_neg (by decide)] at hx
        have hW := HF.out W hx
        simp [PDepsG, pdeps, Region.binds, List.idxOf_cons] at hd
        refine ParObC.plain rfl ?_
        obtain ⟨hv, _⟩ := hd
        unfold tkV at hv
        simp only at hv
        go_simp
        first | exact IsLe.refl (leS B5 B5 _) _ | exact ⟨IsLe.refl (leS B5 B5 _) _, fun _ _ => rfl⟩
      · intro vals W hx hd
        rw [if_neg (by decide)] at hx
        have hW := HF.out W hx
        simp [PDepsG, pdeps, Region.binds, List.idxOf_cons] at hd
        refine ParObC.plain rfl ?_
        go_simp
        first | exact IsLe.refl (leS B5 B5 (.string ⟨tt.toArray⟩)) _ | exact ⟨IsLe.refl (leS B5 B5 (.string ⟨tt.toArray⟩)) _, fun _ _ => rfl⟩
      · intro vals W hx hd
        rw [if_neg (by decide)] at hx
        have hW := HF.out W hx
        simp [PDepsG, pdeps, Region.binds, List.idxOf_cons] at hd
        refine ParObC.plain rfl ?_
        clear hW
        rcases hx.keep _ _ HV2.out with hB | hB
        all_goals
          obtain ⟨cv, fv⟩ := hB.facts
          have hvl := hB.lt
          go_simp
          refine ⟨LeS.set, fun w3 h3 => ?_⟩
          rcases h3.keep _ _ (hB.set 3 (.string ⟨tt.toArray⟩)) with h4 | h4
          all_goals exact h4
    · simp (maxSteps := 20000000) only [permL, permOp, List.filterMap_cons, List.filterMap_nil, List.getElem?_cons_succ, List.getElem?_cons_zero, Option.map_some, Option.map_none, List.drop_succ_cons, List.drop_zero, List.take_succ_cons, List.take_zero, Nat.reduceSub, ZAll, ParEnd, Act.put, List.setIfInBounds_toArray, List.set_cons_succ, List.set_cons_zero]
    intro vals W hx hf hz
    simp (maxSteps := 20000000) only [permL, permOp, List.filterMap_cons, List.filterMap_nil, List.getElem?_cons_succ, List.getElem?_cons_zero, Option.map_some, Option.map_none, ParFactsG, List.take_succ_cons, List.take_zero, and_true, Nat.reduceAdd] at hf
    obtain ⟨f0, f1, f2, f3, f4, f5, f6⟩ := hf
    clear hz
    simp (maxSteps := 20000000) only [permL, permOp, List.filterMap_cons, List.filterMap_nil, List.getElem?_cons_succ, List.getElem?_cons_zero, Option.map_some, Option.map_none, List.drop_succ_cons, List.drop_zero, List.take_succ_cons, List.take_zero, Nat.reduceSub, ParEnd, ZTail, Act.put, List.setIfInBounds_toArray, List.set_cons_succ, List.set_cons_zero, Nat.reduceAdd, f0, f1, f2, f4, f5]
    clear f0 f1 f2 f4 f5
    obtain ⟨_, hP3⟩ := f3
    have HP3 := Lib.hid hP3
    have HV3 := Lib.hid f6
    have HR3 := Lib.hid (hx.blk HR2.out hwp hwB)
    have HL3 := Lib.hid (LeS.low HL2.out hx hwl)
    clear hP3 hx HF KM HP2 HV2 HR2 HL2 hfd f6
    obtain ⟨cv, fv⟩ := HV3.out.facts
    have hvl := HV3.out.lt
    obtain ⟨cr, fr⟩ := HR3.out.facts
    have hrl := HR3.out.lt
    refine ⟨?_⟩
    go_simp
    repeat (first | go_values | go_skip | go_guarded | go_step | go_upon)
    refine bodyPost_ret (ret_ndP rfl _ rfl rfl (blk6P (HR3.out.other (a := ⟨B5, 2, none⟩) hwB (.string ⟨ut.toArray⟩)) _ _ _ _ _ _)) rfl ?_
    rw [← HFR.out.1, ← HFR.out.2]
    exact ⟨⟨4, 0, ⟨ut.toArray⟩, ⟨tt.toArray⟩, 0, none, 0, 0⟩, rfl, .leaf 4 0 ut tt 0, (HP3.out.other hpB hgB 2 _).other6 hpw hgw _ _ _ _ _ _, (HL3.out.other hwl 2 _).other6 (Nat.le_refl _) _ _ _ _ _ _⟩
def collLoop (T : List Lx.Tok) (long : Nat) : Nat → Tr → PSt → Option (Tr × PSt)
  | 0, _, _ => none
  | f + 1, n, s => if isB T s 2 collP then collLoop T long f (.mk 11 0 (takeT T (advP true s) 1).text [] 0 [n]) (takeP T long (advP true s) 1) else some (n, s)
def collF (rec : Nat → PSt → Option (Tr × PSt)) (T : List Lx.Tok) (long f k : Nat) (s : PSt) : Option (Tr × PSt) := (rec (k + 1) s).bind fun n => collLoop T long f n.1 n.2
def oneP (A : Nat → Prop) (x : PN) (n : Tr) (v : Value) (w : World) : Prop := ∃ gs : Nat, v = .slice (some ⟨gs, 0, none⟩) 1 1 ∧ A gs ∧ PnAt w gs [x] ∧ TrAt A w x n
set_option maxHeartbeats 8000000 in
theorem collate_any (p g cap long : Nat) (T : List Lx.Tok) (rec : Nat → PSt → Option (Tr × PSt)) (hrec : LevOk p g cap long T rec) (f k : Nat) (hk : k ≤ 11) (s : PSt) (r : Tr) (s' : PSt) (w : World) (hf : collF rec T long f k s = some (r, s')) (h : PsAt w p g cap long T s) :
    Calls Tryz.prog 368 #[.pointer (some ⟨p, 0, none⟩), .int .i64 k] w (LevPost p g cap long T r s' w) := by
  have mixed : Tryz.prog.follows .mixedOrders = true := by kernel_rfl
  have hpl : p < w.heap.size := h.blk.lt
  have hpw : p ≠ w.heap.size := by omega
  have hgw : g ≠ w.heap.size := by have := h.tok.1; omega
  have hwp : w.heap.size ≠ p := Ne.symm hpw
  have HR0 := Lib.hid (Blk.new w #[.int .i64 0, .int .i64 0, .string ⟨#[]⟩, .string ⟨#[]⟩, .int .i64 0, .slice none 0 0] 196 rfl)
  have hx0 : Ext w (w.alloc (.cells #[.int .i64 0, .int .i64 0, .string ⟨#[]⟩, .string ⟨#[]⟩, .int .i64 0, .slice none 0 0] 196)) := (Ext.refl w).alloc _
  unfold collF at hf
  cases hr1 : rec (k + 1) s with
  | none => rw [hr1] at hf; cases hf
  | some n1 =>
    obtain ⟨n, s1⟩ := n1
    rw [hr1] at hf
    simp only [Option.bind_some] at hf
    have HFf := Lib.hid hf
    have hk1 := IntWalk.i64_in ((k : Int) + 1) (by omega)
    have KL := Lib.hid (hrec (k + 1) ((k : Int) + 1) s n s1 _ (by omega) (by omega) hr1 (h.ext hx0))
    have KW := Lib.hid (fun (s : PSt) W (hW : PsAt W p g cap long T s) => pword_any p g cap long T s ⟨#[67, 79, 76, 76, 65, 84, 69]⟩ W hW)
    have HX0 := Lib.hid hx0
    clear hf hr1 hrec h hx0
    go_enter Tryz.func368, Tryz.ntmps368
    go_simp
    repeat (first | go_values | go_skip | go_guarded | go_step | go_upon)
    refine Calls.mono KL.out ?_
    rintro e W1 ⟨x, rfl, ht1, hp1, hl1⟩
    have HT1 := Lib.hid (ht1.mono (B := blkA w.heap.size W1.heap.size) fun g h1 h2 => ⟨by simp at h1; omega, by omega⟩)
    have HP1 := Lib.hid hp1
    have HL1 := Lib.hid ((LeP.ofExt HX0.out).trans hl1)
    have HR1 := Lib.hid (hl1.blk HR0.out hwp)
    clear ht1 hp1 hl1 KL HR0 HX0
    obtain ⟨xk, xo, xs, xt, xn, xla, xln, xlc⟩ := x
    simp only [PN.v]
    go_simp
    repeat (first | go_values | go_skip | go_guarded | go_step | go_upon)
    have hx1 : Ext W1 (W1.alloc (.cells #[.int .i64 xk, .int .i64 xo, .string xs, .string xt, .int .i64 xn, .slice xla xln xlc] 196)) := (Ext.refl W1).alloc _
    have hB5 : W1.heap.size ≠ p := by have := HP1.out.blk.lt; omega
    have hgB : g ≠ W1.heap.size := by have := HP1.out.tok.1; omega
    have hwB : w.heap.size ≠ W1.heap.size := by have := HR1.out.lt; omega
    have hwl : w.heap.size ≤ W1.heap.size := by have := HR1.out.lt; omega
    have HP1b := Lib.hid (HP1.out.ext hx1)
    have HV1b := Lib.hid (Blk.new W1 #[.int .i64 xk, .int .i64 xo, .string xs, .string xt, .int .i64 xn, .slice xla xln xlc] 196 rfl)
    have HR1b := Lib.hid (HR1.out.keep hx1)
    have HT1b := Lib.hid (HT1.out.later (p := p) (fun g h => by omega) (LeP.ofExt hx1))
    have HL1b := Lib.hid (HL1.out.trans (LeP.ofExt hx1))
    clear hx1 HP1 HR1 HT1 HL1
    generalize W1.alloc (.cells #[.int .i64 xk, .int .i64 xo, .string xs, .string xt, .int .i64 xn, .slice xla xln xlc] 196) = W1b at HP1b HV1b HR1b HT1b HL1b ⊢
    generalize W1.heap.size = B5 at HV1b HT1b hB5 hgB hwB hwl ⊢
    go_loopg [] f (fun kk wr => ∃ (sa : PSt) (na : Tr) (xa : PN), PsAt wr p g cap long T sa ∧ TrAt (blkA w.heap.size B5) wr xa na ∧ Blk wr B5 xa.cells 196 ∧ Blk wr w.heap.size #[.int .i64 0, .int .i64 0, .string ⟨#[]⟩, .string ⟨#[]⟩, .int .i64 0, .slice none 0 0] 196 ∧ LeP p w wr ∧ collLoop T long kk na sa = some (r, s'))
    case atStart => exact ⟨s1, n, ⟨xk, xo, xs, xt, xn, xla, xln, xlc⟩, HP1b.out, HT1b.out, HV1b.out, HR1b.out, HL1b.out, HFf.out⟩
    case round =>
      obtain ⟨sa, na, xa, hp, ht, hv, hr, hl, hst⟩ := hrel
      obtain ⟨f2, hf2⟩ : ∃ f2, gk = f2 + 1 := by
        cases gk with
        | zero => exact absurd hst (by simp [collLoop])
        | succ f2 => exact ⟨f2, rfl⟩
      rw [hf2, collLoop] at hst
      have HF2 := Lib.hid hf2
      have HPa := Lib.hid hp
      have HTa := Lib.hid ht
      have HVa := Lib.hid hv
      have HRa := Lib.hid hr
      have HLa := Lib.hid hl
      have HSa := Lib.hid hst
      clear hp ht hv hr hl hst HP1b HT1b HV1b HR1b HL1b HFf hf2
      obtain ⟨yk, yo, ys, yt, yn, yla, yln, ylc⟩ := xa
      simp only [PN.cells] at HVa
      go_simp
      repeat (first | go_values | go_skip | go_guarded | go_step | go_upon)
      refine Calls.mono (KW.out sa _ HPa.out) ?_
      rw [show bsl ⟨#[67, 79, 76, 76, 65, 84, 69]⟩ = collP from rfl]
      have hst := HSa.out
      clear HSa
      cases hd : isB T sa 2 collP
      · rw [hd, if_neg (by decide)] at hst
        obtain ⟨rfl, rfl⟩ := Prod.mk.inj (Option.some.inj hst)
        rintro e W2 ⟨rfl, hp2, hl2⟩
        have HV2 := Lib.hid (hl2.blk HVa.out hB5)
        have HR2 := Lib.hid (hl2.blk HRa.out hwp)
        have HL2 := Lib.hid (HLa.out.trans hl2)
        have HT2 := Lib.hid (HTa.out.later (p := p) (fun g h => by omega) hl2)
        have HP2 := Lib.hid (show PsAt W2 p g cap long T sa from hp2)
        clear hp2 hl2 HPa HVa HRa HTa HLa
        obtain ⟨cv, fv⟩ := HV2.out.facts
        obtain ⟨cr, fr⟩ := HR2.out.facts
        have hvl := HV2.out.lt
        have hrl := HR2.out.lt
        go_simp
        repeat (first | go_values | go_skip | go_guarded | go_step | go_upon)
        refine bodyPost_ret (ret_ndP rfl _ rfl rfl (blk6P HR2.out _ _ _ _ _ _)) rfl ?_
        refine ⟨⟨yk, yo, ys, yt, yn, yla, yln, ylc⟩, rfl, ?_, HP2.out.other6 hpw hgw _ _ _ _ _ _, HL2.out.other6 (Nat.le_refl _) _ _ _ _ _ _⟩
        exact (HT2.out.set6 (b := w.heap.size) (fun g h => by omega) _ _ _ _ _ _).mono fun g h _ => Nat.le_of_lt h.1
      · rw [hd, if_pos rfl] at hst
        rintro e W2 ⟨rfl, hp2, hl2⟩
        have HSa := Lib.hid hst
        clear hst hd
        generalize advP true sa = s2 at hp2 HSa
        have HV2 := Lib.hid (hl2.blk HVa.out hB5)
        have HR2 := Lib.hid (hl2.blk HRa.out hwp)
        have HL2 := Lib.hid (HLa.out.trans hl2)
        have HT2 := Lib.hid (HTa.out.later (p := p) (fun g h => by omega) hl2)
        have HP2 := Lib.hid hp2
        clear hp2 hl2 HPa HVa HRa HTa HLa
        have KM := Lib.hid (fun W (hW : PsAt W p g cap long T s2) => take_any p g cap long T s2 1 W hW)
        generalize takeT T s2 1 = t2 at KM HSa
        generalize takeP T long s2 1 = s3 at KM HSa
        obtain ⟨uk, ut, un, up⟩ := t2
        have hfd := tok_field uk ⟨ut.toArray⟩ un up
        have hBl : B5 < W2.heap.size := HV2.out.lt
        have hWl : w.heap.size < W2.heap.size := HR2.out.lt
        have HF := Lib.hid (show ∀ W, LeP p W2 W → (∀ j, W.cell? ⟨B5, j, none⟩ = (#[.int .i64 yk, .int .i64 yo, .string ys, .string yt, .int .i64 yn, .slice yla yln ylc] : Array Value)[j]?) from fun W hW => (hW.blk HV2.out hB5).cell)
        go_simp
        repeat (first | go_values | go_skip | go_guarded | go_step | go_upon)
        refine wp_parZC 1 (leX) (leP p) (LeP.ofExt) [0, 1, 2, 3, 4, 5, 6] 6 6 (fun
            | 0 => fun _ v _ => v = .pointer (some ⟨p, 0, none⟩)
            | 1 => fun _ => tokP p g cap long T ⟨uk, ut, un, up⟩ s3
            | 2 => fun _ v _ => v = .string ⟨ut.toArray⟩
            | 3 => fun _ v _ => v = .agg #[.int .i64 yk, .int .i64 yo, .string ys, .string yt, .int .i64 yn, .slice yla yln ylc]
            | 4 => fun _ => oneP (blkA w.heap.size B5) ⟨yk, yo, ys, yt, yn, yla, yln, ylc⟩ na
            | 5 => fun _ => treeP (blkA w.heap.size B5) (.mk 11 0 ut [] 0 [na])
            | _ => fun _ _ _ => True) (fun
            | _ => undef) (by kernel_rfl) (by kernel_rfl) (by kernel_rfl) (by decide) ?_ ?_ ?_
        · simp (maxSteps := 20000000) only [permL, permOp, List.filterMap_cons, List.filterMap_nil, List.getElem?_cons_succ, List.getElem?_cons_zero, Option.map_some, Option.map_none, List.take_succ_cons, List.take_zero, ParAllC, Act.put, List.setIfInBounds_toArray, List.set_cons_succ, List.set_cons_zero]
          refine ⟨?_, ?_, ?_, ?_, ?_, ?_, trivial⟩
          · intro vals W hx hd
            rw [if_neg (by decide)] at hx
            have hW := HF.out W hx
            simp [PDepsG, pdeps, Region.binds, List.idxOf_cons] at hd
            refine ParObC.plain rfl ?_
            go_simp
            first | exact IsLe.refl (leX) _ | exact ⟨IsLe.refl (leX) _, fun _ _ => rfl⟩
          · intro vals W hx hd
            rw [if_pos (by decide)] at hx
            simp [PDepsG, pdeps, Region.binds, List.idxOf_cons] at hd
            refine ParObC.call rfl ?_
            go_simp
            refine Calls.mono (KM.out W (HP2.out.ext hx)) ?_
            rintro e w9 ⟨rfl, hpy, hly⟩
            exact ⟨_, rfl, hly, fun w3 h3 => ⟨rfl, hpy.ext h3⟩⟩
          · intro vals W hx hd
            rw [if_neg (by decide)] at hx
            have hW := HF.out W hx
            simp [PDepsG, pdeps, Region.binds, List.idxOf_cons] at hd
            refine ParObC.plain rfl ?_
            obtain ⟨hv, _⟩ := hd
            unfold tkV at hv
            simp only at hv
            go_simp
            first | exact IsLe.refl leX _ | exact ⟨IsLe.refl leX _, fun _ _ => rfl⟩
          · intro vals W hx hd
            rw [if_neg (by decide)] at hx
            have hW := HF.out W hx
            simp [PDepsG, pdeps, Region.binds, List.idxOf_cons] at hd
            refine ParObC.plain rfl ?_
            go_simp
            first | exact IsLe.refl (leX) _ | exact ⟨IsLe.refl (leX) _, fun _ _ => rfl⟩
          · intro vals W hx hd
            rw [if_neg (by decide)] at hx
            have hW := HF.out W hx
            simp [PDepsG, pdeps, Region.binds, List.idxOf_cons] at hd
            refine ParObC.plain rfl ?_
            go_simp
            have hs := hx.size
            refine ⟨(Ext.refl _).alloc _, fun w3 h3 => ⟨_, rfl, by omega, ?_, ?_⟩⟩
            · exact (pnAt_of [⟨yk, yo, ys, yt, yn, yla, yln, ylc⟩] (Blk.new W _ 196 rfl)).same (h3.old _ (by simp) (by omega)) h3.size
            · exact HT2.out.later (p := p) (fun g h => by omega) (hx.trans ((LeP.ofExt ((Ext.refl W).alloc _)).trans h3))
          · intro vals W hx hd
            rw [if_neg (by decide)] at hx
            have hW := HF.out W hx
            simp [PDepsG, pdeps, Region.binds, List.idxOf_cons] at hd
            refine ParObC.plain rfl ?_
            obtain ⟨h0, gs, hv6, hA, hP, hTx⟩ := hd
            go_simp
            refine ⟨IsLe.refl leX _, fun w3 h3 => ⟨⟨11, 0, ⟨ut.toArray⟩, ⟨#[]⟩, 0, some ⟨gs, 0, none⟩, 1, 1⟩, rfl, ?_⟩⟩
            refine .node 11 0 ut [] 0 gs 1 [⟨yk, yo, ys, yt, yn, yla, yln, ylc⟩] [na] rfl (by simp) (Nat.le_refl _) hA (hP.same (h3.old _ hP.1 (by omega)) h3.size) fun i x z hx hz => ?_
            have hi : i = 0 := by have := (List.getElem?_eq_some_iff.1 hx).1; simp at this; omega
            subst hi
            obtain rfl := Option.some.inj hx
            obtain rfl := Option.some.inj hz
            exact hTx.later (p := p) (fun g h => by omega) h3
        · simp (maxSteps := 20000000) only [permL, permOp, List.filterMap_cons, List.filterMap_nil, List.getElem?_cons_succ, List.getElem?_cons_zero, Option.map_some, Option.map_none, List.drop_succ_cons, List.drop_zero, List.take_succ_cons, List.take_zero, Nat.reduceSub, ZAll, ParEnd, Act.put, List.setIfInBounds_toArray, List.set_cons_succ, List.set_cons_zero]
        intro vals W hx hf hz
        simp (maxSteps := 20000000) only [permL, permOp, List.filterMap_cons, List.filterMap_nil, List.getElem?_cons_succ, List.getElem?_cons_zero, Option.map_some, Option.map_none, ParFactsG, List.take_succ_cons, List.take_zero, and_true, Nat.reduceAdd] at hf
        obtain ⟨f0, f1, f2, f3, f4, f5⟩ := hf
        clear hz
        simp (maxSteps := 20000000) only [permL, permOp, List.filterMap_cons, List.filterMap_nil, List.getElem?_cons_succ, List.getElem?_cons_zero, Option.map_some, Option.map_none, List.drop_succ_cons, List.drop_zero, List.take_succ_cons, List.take_zero, Nat.reduceSub, ParEnd, ZTail, Act.put, List.setIfInBounds_toArray, List.set_cons_succ, List.set_cons_zero, Nat.reduceAdd, f0, f2, f3]
        clear f0 f2 f3
        obtain ⟨z, hz, hTz⟩ := f5
        obtain ⟨_, hPb⟩ := f1
        clear f4
        obtain ⟨zk, zo, zs, zt, zn, zla, zln, zlc⟩ := z
        replace hz : vals 5 = .agg #[.int .i64 zk, .int .i64 zo, .string zs, .string zt, .int .i64 zn, .slice zla zln zlc] := hz
        refine ⟨?_⟩
        refine yields_storeP (g := B5) (cs := #[.int .i64 zk, .int .i64 zo, .string zs, .string zt, .int .i64 zn, .slice zla zln zlc]) rfl (by simp [Act.eval]) (by simp [Act.eval, hz]) (hx.blk HV2.out hB5) rfl rfl (by simp [Value.oneCell']) ?_
        have HP5 := Lib.hid (hPb.row (Ne.symm hB5) hgB #[.int .i64 zk, .int .i64 zo, .string zs, .string zt, .int .i64 zn, .slice zla zln zlc])
        have HT5 := Lib.hid (hTz.row (fun g h => h.2) #[.int .i64 zk, .int .i64 zo, .string zs, .string zt, .int .i64 zn, .slice zla zln zlc])
        have HV5 := Lib.hid (show Blk _ B5 #[.int .i64 zk, .int .i64 zo, .string zs, .string zt, .int .i64 zn, .slice zla zln zlc] 196 from setRow_heap W B5 _ #[.int .i64 zk, .int .i64 zo, .string zs, .string zt, .int .i64 zn, .slice zla zln zlc] _ _ (hx.blk HV2.out hB5))
        have HR5 := Lib.hid (show Blk _ w.heap.size _ 196 from (setRow_other W B5 w.heap.size #[.int .i64 zk, .int .i64 zo, .string zs, .string zt, .int .i64 zn, .slice zla zln zlc] hwB).trans (hx.blk HR2.out hwp))
        have HL5 := Lib.hid ((HL2.out.trans hx).row hwl #[.int .i64 zk, .int .i64 zo, .string zs, .string zt, .int .i64 zn, .slice zla zln zlc])
        generalize W.setRow B5 #[.int .i64 zk, .int .i64 zo, .string zs, .string zt, .int .i64 zn, .slice zla zln zlc] = W5 at HP5 HT5 HV5 HR5 HL5 ⊢
        clear hx hTz hPb HF KM HP2 HT2 HV2 HR2 HL2 hBl hWl hz hfd
        generalize vals 1 = v1
        generalize vals 4 = v4
        generalize vals 5 = v5
        go_simp
        repeat (first | go_values | go_skip | go_guarded | go_step | go_upon)
        go_roundg f2
        case measure => have := HF2.out; omega
        case rel => exact ⟨s3, _, ⟨zk, zo, zs, zt, zn, zla, zln, zlc⟩, HP5.out, HT5.out, HV5.out, HR5.out, HL5.out, HSa.out⟩
end Go.Proofs.YtchpbdodlbghaaaGreatDoor
