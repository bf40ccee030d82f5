/-
  The document's reading of no rules: the first table (Table.Apply of no rules, Read of the empty text).
-/
import Derived.Test.YtipokgedmfnlaaaGreatDoorRef5R
import Derived.Test.YtipokgedmfnlaaaGreatDoorRef5H
import Derived.Test.YtipokgedmfnlaaaGreatDoorParL
namespace Go.Proofs.YtipokgedmfnlaaaGreatDoor
open Go.RowKit Go.Lib
set_option maxRecDepth 100000

/-- Blocks that hold one slice may be another one: a list of entries is one still. -/
theorem EntsR.agree {w w' : World} {v : Value} {t : TypeId} {L : List (Nat × List El)} (h : EntsR w v L) (hs : w.heap.size ≤ w'.heap.size)
    (hh : ∀ i, i < w.heap.size → w'.heap[i]? = w.heap[i]? ∨ ∃ p n c, Blk w i #[.slice p n c] t) : EntsR w' v L := by
  have hcell : ∀ g o u, w.cell? ⟨g, o, none⟩ = some u → (∃ o2 u2, w.cell? ⟨g, o2, none⟩ = some u2 ∧ (o2 ≠ 0 ∨ ∀ p n c, u2 ≠ .slice p n c)) → w'.cell? ⟨g, o, none⟩ = some u := by
    intro g o u hc ⟨o2, u2, h2, h3⟩
    rcases hh g (World.block_lt_of_cell? w _ hc) with h4 | ⟨p, n, c, h4⟩
    · have : w'.cell? ⟨g, o, none⟩ = w.cell? ⟨g, o, none⟩ := by unfold World.cell?; rw [h4]
      rw [this]; exact hc
    · exfalso
      rw [h4.cell] at h2
      have h5 := (Array.getElem?_eq_some_iff.1 h2)
      obtain ⟨h6, h7⟩ := h5
      have h0 : o2 = 0 := by simpa using h6
      subst h0
      rcases h3 with h3 | h3
      · exact h3 rfl
      · exact h3 p n c (by simpa using h7.symm)
  obtain ⟨vs, h1, h2, h3⟩ := h
  refine ⟨vs, ?_, h2, fun j p y hp hy => ?_⟩
  · rcases h1 with h1 | ⟨g, c, e1, e2, e3, e4⟩
    · exact .inl h1
    · refine .inr ⟨g, c, e1, e2, Nat.lt_of_lt_of_le e3 hs, fun j u hj => ?_⟩
      have hl : j < (flatE vs).length := (List.getElem?_eq_some_iff.1 hj).1
      rw [flatE_length] at hl
      have h1l : 1 < (flatE vs).length := by rw [flatE_length]; omega
      exact hcell g j u (e4 j u hj) ⟨1, _, e4 1 _ (List.getElem?_eq_getElem h1l), .inl (by decide)⟩
  · obtain ⟨⟨g, k, e1, e2, e3⟩, h5⟩ := h3 j p y hp hy
    refine ⟨⟨g, k, e1, e2, hcell g 0 _ e3 ⟨0, _, e3, .inr (by simp)⟩⟩, ?_⟩
    rcases h5 with h5 | ⟨g2, c2, f1, f2, f3, f4⟩
    · exact .inl h5
    · refine .inr ⟨g2, c2, f1, f2, Nat.lt_of_lt_of_le f3 hs, fun j2 u hj2 => ?_⟩
      have hl : j2 < (flatR y.2).length := (List.getElem?_eq_some_iff.1 hj2).1
      cases hy2 : y.2 with
      | nil => rw [hy2] at hl; simp [flatR] at hl
      | cons e0 es0 =>
        exact hcell g2 j2 u (f4 j2 u hj2) ⟨0, _, f4 0 (.int .i64 (e0.p : Int)) (by rw [hy2]; simp [flatR, cellsR]), .inr (by simp)⟩
/-- Later: what lay before B is as it was; of the rest a table's cell may be turned, and one that holds the list L holds it still. -/
structure LeS (B : Nat) (L : List (Nat × List El)) (w w' : World) : Prop where
  os : w'.os = w.os
  tape : w'.tape = w.tape
  out : w'.output = w.output
  size : w.heap.size ≤ w'.heap.size
  old : ∀ i, i < w.heap.size → w'.heap[i]? = w.heap[i]? ∨ (B ≤ i ∧ (∃ p n c, Blk w i #[.slice p n c] 28) ∧ ∃ p n c, Blk w' i #[.slice p n c] 28)
  keep : ∀ g s, Blk w g #[s] 28 → EntsR w s L → ∃ s', Blk w' g #[s'] 28 ∧ EntsR w' s' L
theorem EntsR.les {B : Nat} {L L' : List (Nat × List El)} {w w' : World} {v : Value} (h : EntsR w v L') (hl : LeS B L w w') : EntsR w' v L' :=
  h.agree (t := 28) hl.size fun i hi => (hl.old i hi).imp id fun h => h.2.1
theorem leS (B : Nat) (L : List (Nat × List El)) : IsLe (LeS B L) :=
  ⟨fun _ => ⟨rfl, rfl, rfl, Nat.le_refl _, fun _ _ => .inl rfl, fun _ s h k => ⟨s, h, k⟩⟩,
   fun {a b c} h k => ⟨k.os.trans h.os, k.tape.trans h.tape, k.out.trans h.out, Nat.le_trans h.size k.size, fun i hi => by
      rcases h.old i hi with h1 | ⟨h1, h2, h3⟩
      · rcases k.old i (Nat.lt_of_lt_of_le hi h.size) with k1 | ⟨k1, ⟨p, n, c, k2⟩, k3⟩
        · exact .inl (k1.trans h1)
        · exact .inr ⟨k1, ⟨p, n, c, h1.symm.trans k2⟩, k3⟩
      · rcases k.old i (Nat.lt_of_lt_of_le hi h.size) with k1 | ⟨k1, k2, k3⟩
        · obtain ⟨p, n, c, h3⟩ := h3
          exact .inr ⟨h1, h2, p, n, c, k1.trans h3⟩
        · exact .inr ⟨h1, h2, k3⟩, fun g s h1 h2 => by
      obtain ⟨s1, h3, h4⟩ := h.keep g s h1 h2
      exact k.keep g s1 h3 h4⟩,
   fun {a b} h => ⟨h.os, h.tape, h.out, h.size, h.old, h.keep⟩⟩
theorem LeS.ofExt {B : Nat} {L : List (Nat × List El)} {w w' : World} (h : Ext w w') : LeS B L w w' :=
  ⟨h.os, h.tape, h.output, h.size, fun i hi => .inl (h.block i hi), fun _ s h1 h2 => ⟨s, h1.keep h, h2.ext h⟩⟩
theorem LeS.ext {L : List (Nat × List El)} {w w' : World} (h : LeS w.heap.size L w w') : Ext w w' :=
  ⟨h.os, h.tape, h.out, h.size, fun i hi => by
    rcases h.old i hi with h1 | ⟨h1, _⟩
    · exact h1
    · omega⟩
theorem setRow_size (w : World) (g : Nat) (cs : Array Value) : (w.setRow g cs).heap.size = w.heap.size := by simp [World.setRow]
theorem LeS.setRow {B g : Nat} {L : List (Nat × List El)} {w : World} {s s' : Value} (hg : Blk w g #[s] 28) (hs : ∃ p n c, s = .slice p n c) (hB : B ≤ g) (hs' : EntsR w s' L) : LeS B L w (w.setRow g #[s']) := by
  obtain ⟨p, n, c, rfl⟩ := hs
  have hag : ∀ i, i < w.heap.size → (w.setRow g #[s']).heap[i]? = w.heap[i]? ∨ ∃ p n c, Blk w i #[.slice p n c] 28 := fun i _ => by
    by_cases he : i = g
    · subst he; exact .inr ⟨p, n, c, hg⟩
    · exact .inl (setRow_other w g i _ he)
  have hE : ∀ v, EntsR w v L → EntsR (w.setRow g #[s']) v L := fun v h => h.agree (t := 28) (by rw [setRow_size]; exact Nat.le_refl _) hag
  refine ⟨rfl, rfl, rfl, by rw [setRow_size]; exact Nat.le_refl _, fun i _ => ?_, fun k u h1 h2 => ?_⟩
  · by_cases he : i = g
    · subst he
      obtain ⟨p', n', c', rfl⟩ := hs'.slice
      exact .inr ⟨hB, ⟨p, n, c, hg⟩, p', n', c', setRow_heap w i _ _ _ _ hg⟩
    · exact .inl (setRow_other w g i _ he)
  · by_cases he : k = g
    · subst he; exact ⟨s', setRow_heap w k _ _ _ _ hg, hE _ hs'⟩
    · exact ⟨u, (setRow_other w g k _ he).trans h1, hE _ h2⟩
theorem yields_storeR {o : Oper} {ρ : Operand → Value} {w : World} {Y : Value → World → Prop} {x y : Operand} {g : Nat} {old cs : Array Value} (ho : o.op = .store 28 x y) (hx : ρ x = .pointer (some ⟨g, 0, none⟩)) (hy : ρ y = .agg cs) (hg : Blk w g old 28) (hold : old.size = 1) (hcs : cs.size = 1)
    (h1 : cs.all (·.oneCell') = true) (h : Y undef (w.setRow g cs)) : yields Tryz.prog o ρ w Y := by
  have hr := run_storeVar_row (P := Tryz.prog) w g 28 28 old cs hg (by rw [hcs]; kernel_rfl) (by omega) h1
  unfold yields execOp
  simp only [ho, hx, hy, Instr.storeAt, Instr.sureAddr, Sem.run_bind, Sem.run_pure, Result.andThen_ok, hr]
  exact h
def newTab (B : Nat) (v : Value) (w : World) : Prop := ∃ g p n c, v = .pointer (some ⟨g, 0, none⟩) ∧ B ≤ g ∧ Blk w g #[.slice p n c] 28
def apTab (L : List (Nat × List El)) (v : Value) (w : World) : Prop := ∃ s, v = .tuple #[.agg #[s], .int .i64 0] ∧ EntsR w s L
def storedR (B : Nat) (L : List (Nat × List El)) (ds : List Value) (_ : Value) (w : World) : Prop := ∃ g s, ds.head? = some (.pointer (some ⟨g, 0, none⟩)) ∧ B ≤ g ∧ Blk w g #[s] 28 ∧ EntsR w s L
theorem newTab.le {B : Nat} {L : List (Nat × List El)} {v : Value} {w w' : World} (h : newTab B v w) (hl : LeS B L w w') : newTab B v w' := by
  obtain ⟨g, p, n, c, h1, h2, h3⟩ := h
  rcases hl.old g h3.lt with h4 | ⟨_, _, p', n', c', h4⟩
  · exact ⟨g, p, n, c, h1, h2, h4.trans h3⟩
  · exact ⟨g, p', n', c', h1, h2, h4⟩
theorem ret_tab2 {t u : Tmp} {fn : Func} (h : fn.results = #[.cell t 28, .tmp u]) (tmps : Array Value) {w : World} {g : Nat} {cs : Array Value} (hc : cs.size = 1) (hp : tmps.getD t undef = .pointer (some ⟨g, 0, none⟩)) (hg : Blk w g cs 28) :
    (results fn tmps).run Tryz.prog w = .ok (.tuple #[.agg cs, tmps.getD u undef]) w := by
  have hp' : tmps[t]?.getD undef = .pointer (some ⟨g, 0, none⟩) := by simpa using hp
  have hr := run_loadVar_row w g 28 28 cs (0, 0) _ hg Tryz.underlying28 rfl (by rw [hc]; kernel_rfl)
  simp [results, h, hp', asAddr, hr]
theorem ret_tab3 {t u x : Tmp} {fn : Func} (h : fn.results = #[.cell t 28, .tmp u, .tmp x]) (tmps : Array Value) {w : World} {g : Nat} {cs : Array Value} (hc : cs.size = 1) (hp : tmps.getD t undef = .pointer (some ⟨g, 0, none⟩)) (hg : Blk w g cs 28) :
    (results fn tmps).run Tryz.prog w = .ok (.tuple #[.agg cs, tmps.getD u undef, tmps.getD x undef]) w := by
  have hp' : tmps[t]?.getD undef = .pointer (some ⟨g, 0, none⟩) := by simpa using hp
  have hr := run_loadVar_row w g 28 28 cs (0, 0) _ hg Tryz.underlying28 rfl (by rw [hc]; kernel_rfl)
  simp [results, h, hp', asAddr, hr]
theorem rootS_ne : rootS ≠ [] := fun h => by have := rootS_length; rw [h] at this; simp at this
set_option maxHeartbeats 4000000 in
theorem applyR_none (tv : Value) (w : World) (h : EntsR w tv rootS) :
    Calls Tryz.prog 74 #[.agg #[tv], .slice none 0 0] w fun e w' => e = .returned (.tuple #[.agg #[tv], .int .i64 0]) ∧ Below w.heap.size w w' := by
  obtain ⟨p1, n1, k1, rfl⟩ := h.slice
  have HE := Lib.hid h
  clear h
  go_enter Tryz.func74, Tryz.ntmps74
  go_wp2_with fail
  refine wp_loop_rounds 1 ?_
  rw [rounds_succ]
  go_wp2_with fail
  refine Calls.mono (checkR_any (.slice p1 n1 k1) rootS _ (HE.out.ext (((Ext.refl _).alloc _).alloc _)) rootS_ne (by rw [rootS_length]; decide) rootS_good) ?_
  rintro e w2 ⟨rfl, hb2⟩
  have hQ := ((Blk.new w #[.slice p1 n1 k1] 28 rfl).alloc (.cells #[.slice none 0 0] 28)).keep hb2
  have hR := (Blk.new (w.alloc (.cells #[.slice p1 n1 k1] 28)) #[.slice none 0 0] 28 (n := w.heap.size + 1) (by simp)).keep hb2
  have HB := Lib.hid (show Below w.heap.size w w2 from Ext.trans (((Ext.refl w).alloc _).alloc _) hb2)
  have HR9 := Lib.hid (show Blk (w2.setCell ⟨w.heap.size + 1, 0, none⟩ (.slice p1 n1 k1)) (w.heap.size + 1) #[.slice p1 n1 k1] 28 by simpa using hR.set 0 (.slice p1 n1 k1))
  have HB9 := Lib.hid (HB.out.setCell (p := ⟨w.heap.size + 1, 0, none⟩) (by simp) (.slice p1 n1 k1))
  obtain ⟨cq, fq⟩ := hQ.facts
  obtain ⟨cr, fr⟩ := hR.facts
  have hql := hQ.lt
  have hrl := hR.lt
  clear hb2 hQ hR
  go_simp
  repeat (first | go_values | go_skip | go_guarded | go_step | go_upon)
  refine bodyPost_ret (ret_tab2 rfl _ rfl rfl HR9.out) rfl ?_
  exact ⟨rfl, HB9.out⟩
def ReadRR (w : World) (e : Ending) (w' : World) : Prop := (∃ v, e = .returned (.tuple #[.agg #[v], .int .i64 0, .int .i64 0]) ∧ EntsR w' v rootS) ∧ Below w.heap.size w w'
set_option maxHeartbeats 8000000 in
theorem readR_none (w : World) : Calls Tryz.prog 40 #[.string ⟨#[]⟩] w (ReadRR w) := by
  go_enter Tryz.func40, Tryz.ntmps40
  go_wp2_with fail
  refine Calls.mono (parseR_none _) ?_
  rintro e w1 ⟨rfl, hb1⟩
  have hR := (Blk.new w #[.slice none 0 0] 28 rfl).keep hb1
  have HX1 := Lib.hid (show Ext w w1 from Ext.trans ((Ext.refl w).alloc _) hb1)
  have HR1 := Lib.hid hR
  obtain ⟨cr, fr⟩ := hR.facts
  have hrl := hR.lt
  clear hb1 hR
  go_simp
  repeat (first | go_values | go_skip | go_guarded | go_step | go_upon)
  have hQ : Blk (w1.alloc (.cells #[.slice none 0 0, .int .i64 0, .int .i64 0] 139)) w1.heap.size #[.slice none 0 0, .int .i64 0, .int .i64 0] 139 := Blk.new _ _ _ rfl
  have HR2 := Lib.hid (HR1.out.alloc (.cells #[.slice none 0 0, .int .i64 0, .int .i64 0] 139))
  have HX2 := Lib.hid (HX1.out.alloc (.cells #[.slice none 0 0, .int .i64 0, .int .i64 0] 139))
  generalize (w1.alloc (.cells #[.slice none 0 0, .int .i64 0, .int .i64 0] 139)) = W2 at hQ HR2 HX2 ⊢
  generalize w1.heap.size = q at hQ ⊢
  have HQ := Lib.hid hQ
  clear hQ cr fr hrl HX1 HR1
  have HF := Lib.hid (show ∀ W, LeS W2.heap.size rootS W2 W → W.cell? ⟨q, 0, none⟩ = some (.slice none 0 0) from fun W hW => (HQ.out.keep hW.ext).cell 0)
  refine wp_parZG (leS W2.heap.size rootS) [0, 1, 2, 3, 4, 5, 6, 7, 8, 9] 10 10 (fun
      | 0 => fun _ => TabV rootS
      | 1 => fun _ v _ => v = .pointer (some ⟨q, 0, none⟩)
      | 2 => fun _ v _ => v = .slice none 0 0
      | 3 => fun _ => apTab rootS
      | 4 => fun _ => apTab rootS
      | 5 => fun _ => TabV rootS
      | 6 => fun _ v _ => v = .int .i64 0
      | 7 => fun _ => newTab W2.heap.size
      | 8 => storedR W2.heap.size rootS
      | 9 => fun _ v _ => v = .int .i64 0
      | _ => fun _ _ _ => True) (fun
      | _ => undef) (by kernel_rfl) (by kernel_rfl) (by kernel_rfl) ?_ ?_ ?_
  · simp (maxSteps := 20000000) only [permL, permOp, List.filterMap_cons, List.filterMap_nil, List.getElem?_cons_succ, List.getElem?_cons_zero, Option.map_some, Option.map_none, List.take_succ_cons, List.take_zero, ParAllG, Act.put, List.setIfInBounds_toArray, List.set_cons_succ, List.set_cons_zero]
    refine ⟨?_, ?_, ?_, ?_, ?_, ?_, ?_, ?_, ?_, ?_, trivial⟩
    · intro vals W hx hd
      have hW := HF.out W hx
      simp [PDepsG, pdeps, Region.binds, List.idxOf_cons] at hd
      first
        | refine ParObG.plain rfl ?_
        | refine ParObG.wanted (by simp [Region.wanted, yielded, hd]) ?_
      go_simp
      refine Calls.mono (Y.rootR_any W) ?_
      rintro e w9 ⟨⟨v9, rfl, hv⟩, hb9⟩
      exact ⟨_, rfl, LeS.ofExt hb9, fun w2 h2 => ⟨v9, rfl, hv.les h2⟩⟩
    · intro vals W hx hd
      have hW := HF.out W hx
      simp [PDepsG, pdeps, Region.binds, List.idxOf_cons] at hd
      first
        | refine ParObG.plain rfl ?_
        | refine ParObG.wanted (by simp [Region.wanted, yielded, hd]) ?_
      go_simp
      exact ParPostG.same (leS W2.heap.size rootS) fun _ _ => rfl
    · intro vals W hx hd
      have hW := HF.out W hx
      simp [PDepsG, pdeps, Region.binds, List.idxOf_cons] at hd
      first
        | refine ParObG.plain rfl ?_
        | refine ParObG.wanted (by simp [Region.wanted, yielded, hd]) ?_
      go_simp
      exact ParPostG.same (leS W2.heap.size rootS) fun _ _ => rfl
    · intro vals W hx hd
      have hW := HF.out W hx
      simp [PDepsG, pdeps, Region.binds, List.idxOf_cons] at hd
      first
        | refine ParObG.plain rfl ?_
        | refine ParObG.wanted (by simp [Region.wanted, yielded, hd]) ?_
      obtain ⟨⟨s, he, hs⟩, _⟩ := hd
      go_simp
      refine Calls.mono (applyR_none s W hs) ?_
      rintro e w9 ⟨rfl, hb9⟩
      exact ⟨_, rfl, LeS.ofExt hb9, fun w2 h2 => ⟨s, rfl, (hs.ext hb9).les h2⟩⟩
    · intro vals W hx hd
      have hW := HF.out W hx
      simp [PDepsG, pdeps, Region.binds, List.idxOf_cons] at hd
      first
        | refine ParObG.plain rfl ?_
        | refine ParObG.wanted (by simp [Region.wanted, yielded, hd]) ?_
      obtain ⟨s, he, hs⟩ := hd
      go_simp
      exact ⟨(leS _ _).refl _, fun w2 h2 => ⟨s, rfl, hs.les h2⟩⟩
    · intro vals W hx hd
      have hW := HF.out W hx
      simp [PDepsG, pdeps, Region.binds, List.idxOf_cons] at hd
      first
        | refine ParObG.plain rfl ?_
        | refine ParObG.wanted (by simp [Region.wanted, yielded, hd]) ?_
      obtain ⟨s, he, hs⟩ := hd
      go_simp
      exact ⟨(leS _ _).refl _, fun w2 h2 => ⟨s, rfl, hs.les h2⟩⟩
    · intro vals W hx hd
      have hW := HF.out W hx
      simp [PDepsG, pdeps, Region.binds, List.idxOf_cons] at hd
      first
        | refine ParObG.plain rfl ?_
        | refine ParObG.wanted (by simp [Region.wanted, yielded, hd]) ?_
      obtain ⟨s, he, hs⟩ := hd
      go_simp
      exact ⟨(leS _ _).refl _, fun _ _ => rfl⟩
    · intro vals W hx hd
      have hW := HF.out W hx
      simp [PDepsG, pdeps, Region.binds, List.idxOf_cons] at hd
      first
        | refine ParObG.plain rfl ?_
        | refine ParObG.wanted (by simp [Region.wanted, yielded, hd]) ?_
      go_simp
      exact ⟨LeS.ofExt ((Ext.refl _).alloc _), fun w3 h3 => newTab.le ⟨_, none, 0, 0, rfl, hx.size, Blk.new _ _ _ rfl⟩ h3⟩
    · intro vals W hx hd
      have hW := HF.out W hx
      simp [PDepsG, pdeps, Region.binds, List.idxOf_cons] at hd
      first
        | refine ParObG.plain rfl ?_
        | refine ParObG.wanted (by simp [Region.wanted, yielded, hd]) ?_
      obtain ⟨⟨g, p, n, c, hgv, hge, hgb⟩, ⟨s, he, hs⟩, _⟩ := hd
      refine yields_storeR rfl (by simpa [Act.eval] using hgv) (by simpa [Act.eval] using he) hgb rfl rfl (by obtain ⟨p', n', c', rfl⟩ := hs.slice; simp [Value.oneCell']) ?_
      have hl := LeS.setRow hgb ⟨p, n, c, rfl⟩ hge hs
      refine ⟨hl, fun w10 h10 => ?_⟩
      obtain ⟨s', k1, k2⟩ := h10.keep g s (setRow_heap W g _ _ _ _ hgb) (hs.les hl)
      exact ⟨g, s', by simp [dv, ldeps, pdeps, Region.binds, List.idxOf_cons, hgv], hge, k1, k2⟩
    · intro vals W hx hd
      have hW := HF.out W hx
      simp [PDepsG, pdeps, Region.binds, List.idxOf_cons] at hd
      first
        | refine ParObG.plain rfl ?_
        | refine ParObG.wanted (by simp [Region.wanted, yielded, hd]) ?_
      go_simp
      exact ParPostG.same (leS W2.heap.size rootS) fun _ _ => rfl
  · simp (maxSteps := 20000000) only [permL, permOp, List.filterMap_cons, List.filterMap_nil, List.getElem?_cons_succ, List.getElem?_cons_zero, Option.map_some, Option.map_none, List.drop_succ_cons, List.drop_zero, List.take_succ_cons, List.take_zero, Nat.reduceSub, ZAll, ParEnd, Act.put, List.setIfInBounds_toArray, List.set_cons_succ, List.set_cons_zero]
  intro vals W hx hf hz
  simp (maxSteps := 20000000) only [permL, permOp, List.filterMap_cons, List.filterMap_nil, List.getElem?_cons_succ, List.getElem?_cons_zero, Option.map_some, Option.map_none, ParFactsG, List.take_succ_cons, List.take_zero, and_true, Nat.reduceAdd] at hf
  obtain ⟨f0, f1, f2, f3, f4, f5, f6, f7, f8, f9⟩ := hf
  clear hz
  simp (maxSteps := 20000000) only [permL, permOp, List.filterMap_cons, List.filterMap_nil, List.getElem?_cons_succ, List.getElem?_cons_zero, Option.map_some, Option.map_none, List.drop_succ_cons, List.drop_zero, List.take_succ_cons, List.take_zero, Nat.reduceSub, ParEnd, ZTail, Act.put, List.setIfInBounds_toArray, List.set_cons_succ, List.set_cons_zero, Nat.reduceAdd, f1, f2, f6, f9]
  clear f1 f2 f6 f9
  obtain ⟨g8, s8, hds, hge8, hb8, hE8⟩ := f8
  simp [dv, ldeps, pdeps, Region.binds, List.idxOf_cons] at hds
  obtain ⟨p8, n8, k8, rfl⟩ := hE8.slice
  have hxe := hx.ext
  have HX3 := Lib.hid (Ext.trans HX2.out hxe)
  have HR3 := Lib.hid (HR2.out.keep hxe)
  have HE8 := Lib.hid hE8
  have H8 := Lib.hid hb8
  obtain ⟨c8, _⟩ := hb8.facts
  obtain ⟨cr, fr⟩ := HR3.out.facts
  have hrl := HR3.out.lt
  have hne : g8 ≠ w.heap.size := by
    have := HR2.out.lt
    omega
  clear f0 f3 f4 f5 f7 hx hxe hE8 hb8 HF
  rw [hds]
  have HR9 := Lib.hid (show Blk (W.setCell ⟨w.heap.size, 0, none⟩ (.slice p8 n8 k8)) w.heap.size #[.slice p8 n8 k8] 28 by simpa using HR3.out.set 0 (.slice p8 n8 k8))
  have HE9 := Lib.hid (HE8.out.set (x := .slice p8 n8 k8) HR3.out ⟨_, _, _, rfl⟩)
  have HB9 := Lib.hid ((show Below w.heap.size w W from HX3.out).setCell (p := ⟨w.heap.size, 0, none⟩) (Nat.le_refl _) (.slice p8 n8 k8))
  go_simp
  repeat (first | go_values | go_skip | go_guarded | go_step | go_upon)
  refine bodyPost_ret (ret_tab3 rfl _ rfl rfl HR9.out) rfl ?_
  exact ⟨⟨_, rfl, HE9.out⟩, HB9.out⟩
end Go.Proofs.YtipokgedmfnlaaaGreatDoor
