/-
  A new registry's map is its own.
-/
import Derived.Test.YtaoikbpolckobaaGreatDoorRegE
namespace Go.Proofs.YtaoikbpolckobaaGreatDoor
open Go.RowKit
set_option maxRecDepth 100000

def RegPostM (w : World) (e : Ending) (w' : World) : Prop := ∃ q M, e = .returned (.pointer (some ⟨q, 0, none⟩)) ∧ w.heap.size ≤ q ∧ w.heap.size ≤ M ∧ Blk w' q #[.map (some M)] 132 ∧ RegAt w' q ∧ Below w.heap.size w w'
set_option maxHeartbeats 4000000 in
theorem regnewM_any (w : World) : Calls Tryz.prog 16 #[] w (RegPostM w) := by
  have hmm := @run_makeMap Tryz.prog
  have HF := Lib.hid (show ∀ W, LeM w.heap.size w W → w.heap.size ≤ W.heap.size from fun W h => h.size)
  go_enter Tryz.func16, Tryz.ntmps16
  go_wp2_with fail
  refine wp_parZG (leM w.heap.size) [0, 1, 2, 3, 4, 5, 6, 7, 8, 9, 10, 11, 12, 13, 14] 11 11 (fun
      | 0 => fun _ => isMap w.heap.size
      | 1 => fun _ v _ => v = kB
      | 2 => fun _ v _ => v = cB
      | 3 => hasKey w.heap.size kB
      | 4 => fun _ v _ => v = kF
      | 5 => fun _ v _ => v = cF
      | 6 => hasKey w.heap.size kF
      | 7 => fun _ v _ => v = kR
      | 8 => fun _ => isRoot
      | 9 => fun _ => isColl
      | 10 => hasKey w.heap.size kR
      | _ => fun _ _ _ => True) (fun
      | _ => undef) (by kernel_rfl) (by kernel_rfl) (by kernel_rfl) ?_ ?_ ?_
  · simp (maxSteps := 20000000) only [permL, permOp, List.filterMap_cons, List.filterMap_nil, List.getElem?_cons_succ, List.getElem?_cons_zero, Option.map_some, Option.map_none, List.take_succ_cons, List.take_zero, ParAllG, Act.put, List.setIfInBounds_toArray, List.set_cons_succ, List.set_cons_zero]
    refine ⟨?_, ?_, ?_, ?_, ?_, ?_, ?_, ?_, ?_, ?_, ?_, trivial⟩
    · intro vals W hx hd
      have hW := HF.out W hx
      simp [PDepsG, pdeps, Region.binds, List.idxOf_cons] at hd
      first
        | refine ParObG.plain rfl ?_
        | refine ParObG.wanted (by simp [Region.wanted, yielded, hd]) ?_
      go_simp
      exact ⟨LeM.ofExt ((Ext.refl _).alloc _), fun w2 h2 => ⟨_, rfl, h2.reg _ _ ⟨hW, [], GMap.new _ _ _ rfl, by simp, by simp⟩⟩⟩
    · intro vals W hx hd
      have hW := HF.out W hx
      simp [PDepsG, pdeps, Region.binds, List.idxOf_cons] at hd
      first
        | refine ParObG.plain rfl ?_
        | refine ParObG.wanted (by simp [Region.wanted, yielded, hd]) ?_
      go_simp
      exact ParPostG.same (leM w.heap.size) fun _ _ => rfl
    · intro vals W hx hd
      have hW := HF.out W hx
      simp [PDepsG, pdeps, Region.binds, List.idxOf_cons] at hd
      first
        | refine ParObG.plain rfl ?_
        | refine ParObG.wanted (by simp [Region.wanted, yielded, hd]) ?_
      go_simp
      exact ParPostG.same (leM w.heap.size) fun _ _ => rfl
    · intro vals W hx hd
      have hW := HF.out W hx
      simp [PDepsG, pdeps, Region.binds, List.idxOf_cons] at hd
      first
        | refine ParObG.plain rfl ?_
        | refine ParObG.wanted (by simp [Region.wanted, yielded, hd]) ?_
      obtain ⟨⟨M, hv, hR⟩, h1, h2⟩ := hd
      refine yields_ins (k := kB) (v := cB) _ _ _ _ rfl (by simpa [Act.eval] using hv) (by simpa [Act.eval] using h1) (by simpa [Act.eval] using h2) _ (reg_put hR (keyName _ (by decide)) (.inl rfl)) ?_
      rintro w2 ⟨g1, g2⟩
      exact ⟨g1, fun w3 h3 => ⟨M, by simp [dv, ldeps, pdeps, Region.binds, List.idxOf_cons, hv], h3.reg _ _ g2⟩⟩
    · intro vals W hx hd
      have hW := HF.out W hx
      simp [PDepsG, pdeps, Region.binds, List.idxOf_cons] at hd
      first
        | refine ParObG.plain rfl ?_
        | refine ParObG.wanted (by simp [Region.wanted, yielded, hd]) ?_
      go_simp
      exact ParPostG.same (leM w.heap.size) fun _ _ => rfl
    · intro vals W hx hd
      have hW := HF.out W hx
      simp [PDepsG, pdeps, Region.binds, List.idxOf_cons] at hd
      first
        | refine ParObG.plain rfl ?_
        | refine ParObG.wanted (by simp [Region.wanted, yielded, hd]) ?_
      go_simp
      exact ParPostG.same (leM w.heap.size) fun _ _ => rfl
    · intro vals W hx hd
      have hW := HF.out W hx
      simp [PDepsG, pdeps, Region.binds, List.idxOf_cons] at hd
      first
        | refine ParObG.plain rfl ?_
        | refine ParObG.wanted (by simp [Region.wanted, yielded, hd]) ?_
      obtain ⟨⟨M, hv, hR⟩, h1, h2⟩ := hd
      refine yields_ins (k := kF) (v := cF) _ _ _ _ rfl (by simpa [Act.eval] using hv) (by simpa [Act.eval] using h1) (by simpa [Act.eval] using h2) _ (reg_put hR (keyName _ (by decide)) (.inr (.inl rfl))) ?_
      rintro w2 ⟨g1, g2⟩
      exact ⟨g1, fun w3 h3 => ⟨M, by simp [dv, ldeps, pdeps, Region.binds, List.idxOf_cons, hv], h3.reg _ _ g2⟩⟩
    · intro vals W hx hd
      have hW := HF.out W hx
      simp [PDepsG, pdeps, Region.binds, List.idxOf_cons] at hd
      first
        | refine ParObG.plain rfl ?_
        | refine ParObG.wanted (by simp [Region.wanted, yielded, hd]) ?_
      go_simp
      exact ParPostG.same (leM w.heap.size) fun _ _ => rfl
    · intro vals W hx hd
      have hW := HF.out W hx
      simp [PDepsG, pdeps, Region.binds, List.idxOf_cons] at hd
      first
        | refine ParObG.plain rfl ?_
        | refine ParObG.wanted (by simp [Region.wanted, yielded, hd]) ?_
      go_simp
      refine (root_any W).mono ?_
      rintro e w2 ⟨p, rfl, h1, h2, h3⟩
      exact ⟨_, rfl, LeM.ofExt h3, fun w4 h4 => ⟨p, rfl, h4.root p h2⟩⟩
    · intro vals W hx hd
      have hW := HF.out W hx
      simp [PDepsG, pdeps, Region.binds, List.idxOf_cons] at hd
      first
        | refine ParObG.plain rfl ?_
        | refine ParObG.wanted (by simp [Region.wanted, yielded, hd]) ?_
      obtain ⟨p, hv, hp⟩ := hd
      go_simp
      exact ⟨(leM _).refl _, fun w2 h2 => ⟨p, rfl, h2.root p hp⟩⟩
    · intro vals W hx hd
      have hW := HF.out W hx
      simp [PDepsG, pdeps, Region.binds, List.idxOf_cons] at hd
      first
        | refine ParObG.plain rfl ?_
        | refine ParObG.wanted (by simp [Region.wanted, yielded, hd]) ?_
      obtain ⟨⟨M, hv, hR⟩, h1, p, h2, hp⟩ := hd
      refine yields_ins (k := kR) (v := cR p) _ _ _ _ rfl (by simpa [Act.eval] using hv) (by simpa [Act.eval] using h1) (by simpa [Act.eval] using h2) _ (reg_put hR (keyName _ (by decide)) (.inr (.inr ⟨rfl, p, rfl, hp⟩))) ?_
      rintro w2 ⟨g1, g2⟩
      exact ⟨g1, fun w3 h3 => ⟨M, by simp [dv, ldeps, pdeps, Region.binds, List.idxOf_cons, hv], h3.reg _ _ g2⟩⟩
  · simp (maxSteps := 20000000) only [permL, permOp, List.filterMap_cons, List.filterMap_nil, List.getElem?_cons_succ, List.getElem?_cons_zero, Option.map_some, Option.map_none, List.drop_succ_cons, List.drop_zero, List.take_succ_cons, List.take_zero, Nat.reduceSub, ZAll, ParEnd, Act.put, List.setIfInBounds_toArray, List.set_cons_succ, List.set_cons_zero]
  intro vals W hx hf hz
  simp (maxSteps := 20000000) only [permL, permOp, List.filterMap_cons, List.filterMap_nil, List.getElem?_cons_succ, List.getElem?_cons_zero, Option.map_some, Option.map_none, ParFactsG, List.take_succ_cons, List.take_zero, and_true, Nat.reduceAdd] at hf
  obtain ⟨f0, f1, f2, f3, f4, f5, f6, f7, f8, f9, f10⟩ := hf
  clear hz
  simp (maxSteps := 20000000) only [permL, permOp, List.filterMap_cons, List.filterMap_nil, List.getElem?_cons_succ, List.getElem?_cons_zero, Option.map_some, Option.map_none, List.drop_succ_cons, List.drop_zero, List.take_succ_cons, List.take_zero, Nat.reduceSub, ParEnd, ZTail, Act.put, List.setIfInBounds_toArray, List.set_cons_succ, List.set_cons_zero, Nat.reduceAdd, f1, f2, f4, f5, f7]
  clear f1 f2 f4 f5 f7
  have hb : Below w.heap.size w W := ⟨hx.os, hx.tape, hx.out, hx.size, fun i hi => hx.old i hi hi⟩
  obtain ⟨M, hM, hR0⟩ := f0
  have link : ∀ {k : Value} {ds : List Value} {v : Value}, hasKey w.heap.size k ds v W → ds.head? = some (vals 0) → RegOk w.heap.size W M [k] := by
    rintro k ds v ⟨M', h1, h2⟩ h3
    rw [h3, hM] at h1
    simp only [Option.some.injEq, Value.map.injEq] at h1
    subst h1
    exact h2
  have r3 := link f3 (by simp [dv, ldeps, pdeps, Region.binds, List.idxOf_cons])
  have r6 := link f6 (by simp [dv, ldeps, pdeps, Region.binds, List.idxOf_cons])
  have r10 := link f10 (by simp [dv, ldeps, pdeps, Region.binds, List.idxOf_cons])
  clear f3 f6 f8 f9 f10 link hx
  rw [hM]
  clear hM
  have HQ := Lib.hid (regOf r3 r6 r10)
  have HMB := Lib.hid r3.1
  have HB := Lib.hid hb
  clear r3 r6 r10 hb hR0
  go_simp
  go_wp2_with fail
  go_ret
  exact ⟨W.heap.size, M, rfl, HB.out.size, HMB.out, Blk.new W _ _ rfl, HQ.out _ _ (Blk.new W _ _ rfl) ((Ext.refl _).alloc _), HB.out.alloc HB.out.size _⟩

theorem Blk.same {w : World} {g : Nat} {a b : Array Value} {t u : TypeId} (h : Blk w g a t) (k : Blk w g b u) : a = b := by
  unfold Blk at h k
  rw [h] at k
  simp at k
  exact k.1
/-- A new registry: its map, its entries. -/
theorem regnew_regs (w : World) : Calls Tryz.prog 16 #[] w fun e w' => ∃ q M l, e = .returned (.pointer (some ⟨q, 0, none⟩)) ∧ w.heap.size ≤ q ∧ w.heap.size ≤ M ∧ RegsAt w' q M l ∧ (l.map (·.1)).Perm ([bB, bF, bR].map kN) ∧ Below w.heap.size w w' := by
  refine (regnewM_any w).mono ?_
  rintro e w' ⟨q, M, rfl, h1, h2, h3, h4, h5⟩
  obtain ⟨M', l, k1, k2, _⟩ := h4.regs
  have := h3.same k1.blk
  simp at this
  subst this
  exact ⟨q, M, l, rfl, h1, h2, k1, k2, h5⟩
end Go.Proofs.YtaoikbpolckobaaGreatDoor
