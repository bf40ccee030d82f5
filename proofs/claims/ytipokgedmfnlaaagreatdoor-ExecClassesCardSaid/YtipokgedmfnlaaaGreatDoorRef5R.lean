/-
  The document's first table is made (Root).
-/
import Derived.Test.YtipokgedmfnlaaaGreatDoorRef5Q
import Derived.Test.YtipokgedmfnlaaaGreatDoorRef5S
namespace Go.Proofs.YtipokgedmfnlaaaGreatDoor
open Go.RowKit Go.Lib
set_option maxRecDepth 100000

/-- Under way: the cell of the table. -/
structure RtSt (w0 w : World) (r q : Nat) (L : List (Nat × List El)) : Prop where
  ex : ∃ v, Blk w q #[v] 28 ∧ EntsR w v L
  res : Blk w r #[.slice none 0 0] 28
  below : Below w0.heap.size w0 w
  hq : w0.heap.size ≤ q
  hr : w0.heap.size ≤ r
  ne : q ≠ r
theorem RtSt.ext {w0 w w' : World} {r q : Nat} {L : List (Nat × List El)} (h : RtSt w0 w r q L) (hx : Ext w w') : RtSt w0 w' r q L := by
  obtain ⟨v, h1, h2⟩ := h.ex
  exact ⟨⟨v, h1.keep hx, h2.ext hx⟩, h.res.keep hx, h.below.trans (Below.mono hx h.below.size), h.hq, h.hr, h.ne⟩
/-- A table is put back. -/
theorem RtSt.put {w0 w : World} {r q : Nat} {L L' : List (Nat × List El)} {s : Value} (h : RtSt w0 w r q L) (hs : EntsR w s L') : RtSt w0 (w.setCell ⟨q, 0, none⟩ s) r q L' := by
  obtain ⟨v, h1, h2⟩ := h.ex
  exact ⟨⟨s, by simpa using h1.set 0 s, hs.set h1 h2.slice⟩, h.res.other (a := ⟨q, 0, none⟩) h.ne.symm s, h.below.setCell h.hq s, h.hq, h.hr, h.ne⟩
/-- An element's cell of the call's own is turned. -/
theorem RtSt.setEl {w0 w : World} {r q g : Nat} {L : List (Nat × List El)} {e : El} {t : TypeId} {x : Value} (h : RtSt w0 w r q L) (hg : Blk w g #[.int .i64 (e.p : Int), .int .i64 (e.s : Int), .int .i64 (e.t : Int), .bool e.v] t)
    (hne : ∀ y ∈ L, y.2 ≠ [e]) (hq : g ≠ q) (hr : g ≠ r) (hb : w0.heap.size ≤ g) : RtSt w0 (w.setCell ⟨g, 2, none⟩ x) r q L := by
  obtain ⟨v, h1, h2⟩ := h.ex
  exact ⟨⟨v, h1.other (a := ⟨g, 2, none⟩) hq.symm x, h2.setEl hg hne⟩, h.res.other (a := ⟨g, 2, none⟩) hr.symm x, h.below.setCell (p := ⟨g, 2, none⟩) hb x, h.hq, h.hr, h.ne⟩
theorem tabK2_a : ∀ y ∈ tabK2, y.2 ≠ [low 0 4] := by decide +kernel
theorem tabK2_e : ∀ y ∈ tabK2, y.2 ≠ [low 4 4] := by decide +kernel
/-- Beside it: slices that the call has made. -/
structure RtMs (w0 w : World) (r q : Nat) (L : List (Nat × List El)) (bs : List (Nat × Array Value)) : Prop where
  st : RtSt w0 w r q L
  bl : ∀ x ∈ bs, Blk w x.1 x.2 3 ∧ x.1 ≠ q
theorem RtMs.ext {w0 w w' : World} {r q : Nat} {L : List (Nat × List El)} {bs : List (Nat × Array Value)} (h : RtMs w0 w r q L bs) (hx : Ext w w') : RtMs w0 w' r q L bs :=
  ⟨h.st.ext hx, fun x hm => ⟨(h.bl x hm).1.keep hx, (h.bl x hm).2⟩⟩
theorem RtMs.put {w0 w : World} {r q : Nat} {L L' : List (Nat × List El)} {bs : List (Nat × Array Value)} {s : Value} (h : RtMs w0 w r q L bs) (hs : EntsR w s L') : RtMs w0 (w.setCell ⟨q, 0, none⟩ s) r q L' bs :=
  ⟨h.st.put hs, fun x hm => ⟨(h.bl x hm).1.other (a := ⟨q, 0, none⟩) (h.bl x hm).2 s, (h.bl x hm).2⟩⟩
theorem RtMs.new {w0 w : World} {r q n : Nat} {L : List (Nat × List El)} {bs : List (Nat × Array Value)} (h : RtMs w0 w r q L bs) (cs : Array Value) (hn : n = w.heap.size) : RtMs w0 (w.alloc (.cells cs 3)) r q L ((n, cs) :: bs) := by
  refine ⟨h.st.ext ((Ext.refl _).alloc _), fun x hm => ?_⟩
  rcases List.mem_cons.1 hm with rfl | hm
  · refine ⟨Blk.new _ _ _ hn, ?_⟩
    obtain ⟨v, hq, _⟩ := h.st.ex
    have := hq.lt
    simp only
    omega
  · exact ⟨(h.bl x hm).1.alloc _, (h.bl x hm).2⟩
theorem RtMs.ex {w0 w : World} {r q : Nat} {L : List (Nat × List El)} {bs : List (Nat × Array Value)} (h : RtMs w0 w r q L bs) : ∃ v, Blk w q #[v] 28 ∧ EntsR w v L := h.st.ex
def cs8 : Array Value := #[.int .i64 768, .int .i64 769, .int .i64 770, .int .i64 771, .int .i64 772, .int .i64 776, .int .i64 778, .int .i64 807]
def cs6 : Array Value := #[.int .i64 768, .int .i64 769, .int .i64 770, .int .i64 771, .int .i64 776, .int .i64 778]
def cs4 : Array Value := #[.int .i64 768, .int .i64 769, .int .i64 770, .int .i64 776]
theorem cs8_at (k : Nat) (h : k < 8) : cs8[k]? = some (.int .i64 ((mkD k).1 : Int)) := by
  rcases (show k = 0 ∨ k = 1 ∨ k = 2 ∨ k = 3 ∨ k = 4 ∨ k = 5 ∨ k = 6 ∨ k = 7 by omega) with rfl | rfl | rfl | rfl | rfl | rfl | rfl | rfl <;> rfl
theorem cs6_at (k : Nat) (h : k < 6) : cs6[k]? = some (.int .i64 ((mkE6 k).1 : Int)) := by
  rcases (show k = 0 ∨ k = 1 ∨ k = 2 ∨ k = 3 ∨ k = 4 ∨ k = 5 by omega) with rfl | rfl | rfl | rfl | rfl | rfl <;> rfl
theorem cs4_at (k : Nat) (h : k < 4) : cs4[k]? = some (.int .i64 ((mkG4 k).1 : Int)) := by
  rcases (show k = 0 ∨ k = 1 ∨ k = 2 ∨ k = 3 by omega) with rfl | rfl | rfl | rfl <;> rfl
namespace Y
set_option maxHeartbeats 64000000 in
theorem rootR_any (w : World) : Calls Tryz.prog 42 #[] w (PutR w rootS) := by
  go_enter Tryz.func42, Tryz.ntmps42
  go_wp2_with fail
  have HS0 := Lib.hid (show RtSt w ((w.alloc (.cells #[.slice none 0 0] 28)).alloc (.cells #[.slice none 0 0] 28)) w.heap.size (w.heap.size + 1) [] from
    ⟨⟨.slice none 0 0, Blk.new _ _ _ (by simp), [], .inl ⟨rfl, rfl, rfl⟩, rfl, fun j p x h => by simp at h⟩, (Blk.new w _ _ rfl).alloc _, ((Ext.refl w).alloc _).alloc _, by omega, by omega, by omega⟩)
  generalize ((w.alloc (.cells #[.slice none 0 0] 28)).alloc (.cells #[.slice none 0 0] 28)) = W0 at HS0 ⊢
  generalize hqe : w.heap.size + 1 = q at HS0 ⊢
  generalize hre : w.heap.size = r at HS0 ⊢
  go_loopw [2] (fun i wr => ∃ k : Nat, k ≤ 6 ∧ i = .int .i64 k ∧ RtSt w wr r q (rnds rndA k [])) (fun i _ => 6 - (intOf i).toNat)
  case atStart => exact ⟨0, by omega, rfl, HS0.out⟩
  case round =>
    obtain ⟨k, hk, rfl, hst⟩ := hrel
    have HR := Lib.hid hst
    clear hst
    by_cases hlt : k < 6
    · have hltI : (k : Int) < 6 := by omega
      have HLen := Lib.hid (lenA k (by omega))
      have HLen2 := Lib.hid (lenA (k + 1) (by omega))
      go_wp2_with fail
      obtain ⟨v, hq, he⟩ := HR.out.ex
      obtain ⟨pv, nv, kv, rfl⟩ := he.slice
      have HQ := Lib.hid hq
      have HE := Lib.hid he
      clear hq he
      have HF := Lib.hid (show ∀ W, Ext wr W → W.cell? ⟨q, 0, none⟩ = some (.slice pv nv kv) ∧ W.cell? ⟨q, 1, none⟩ = none from fun W hW => ⟨by simpa using (HQ.out.keep hW).cell 0, by simpa using (HQ.out.keep hW).cell 1⟩)
      refine wp_parZH [0, 1, 2, 3, 4, 5, 6, 7, 8, 9, 10, 11] 11 11 (fun
          | 0 => fun v _ => v = .agg #[.slice pv nv kv]
          | 1 => fun v _ => v = .int .i64 (k : Int)
          | 2 => fun v _ => v = .int .u8 (sgA k : Int)
          | 3 => fun v _ => v = .int .i64 (sgA k : Int)
          | 4 => SeqV (sgA k)
          | 5 => fun v _ => v = .int .i64 (k : Int)
          | 6 => fun v _ => v = .int .i64 (4 * (k : Int))
          | 7 => fun v _ => v = .int .i64 (16 + 4 * (k : Int))
          | 8 => fun v _ => v = .agg #[.int .i64 (16 + 4 * (k : Int)), .int .i64 32, .int .i64 2, .bool true]
          | 9 => ElsV [⟨16 + 4 * k, 32, 2, true⟩]
          | 10 => TabV (insE (sgA k) [⟨16 + 4 * k, 32, 2, true⟩] (rnds rndA k []))
          | _ => fun _ _ => True) (fun
          | _ => undef) (by kernel_rfl) (by kernel_rfl) (by kernel_rfl) ?_ ?_ ?_
      · simp (maxSteps := 20000000) only [permL, permOp, List.filterMap_cons, List.filterMap_nil, List.getElem?_cons_succ, List.getElem?_cons_zero, Option.map_some, Option.map_none, List.take_succ_cons, List.take_zero, ParAll, Act.put, List.setIfInBounds_toArray, List.set_cons_succ, List.set_cons_zero]
        refine ⟨?_, ?_, ?_, ?_, ?_, ?_, ?_, ?_, ?_, ?_, ?_, trivial⟩
        · intro vals W hx hd
          have hW := HF.out W hx
          simp [PDeps, pdeps, Region.binds, List.idxOf_cons] at hd
          first
            | refine ParOb.plain rfl ?_
            | refine ParOb.wanted (by simp [Region.wanted, yielded, hd]) ?_
          go_simp
          exact ParPost.same fun _ _ => rfl
        · intro vals W hx hd
          have hW := HF.out W hx
          simp [PDeps, pdeps, Region.binds, List.idxOf_cons] at hd
          first
            | refine ParOb.plain rfl ?_
            | refine ParOb.wanted (by simp [Region.wanted, yielded, hd]) ?_
          go_simp
          exact ParPost.same fun _ _ => rfl
        · intro vals W hx hd
          have hW := HF.out W hx
          simp [PDeps, pdeps, Region.binds, List.idxOf_cons] at hd
          first
            | refine ParOb.plain rfl ?_
            | refine ParOb.wanted (by simp [Region.wanted, yielded, hd]) ?_
          rcases (show k = 0 ∨ k = 1 ∨ k = 2 ∨ k = 3 ∨ k = 4 ∨ k = 5 by omega) with rfl | rfl | rfl | rfl | rfl | rfl
          all_goals
            go_simp
            exact ParPost.same fun _ _ => rfl
        · intro vals W hx hd
          have hW := HF.out W hx
          simp [PDeps, pdeps, Region.binds, List.idxOf_cons] at hd
          first
            | refine ParOb.plain rfl ?_
            | refine ParOb.wanted (by simp [Region.wanted, yielded, hd]) ?_
          have hsum := IntWalk.i64_in (sgA k : Int) (by have := sgA_lt k; omega)
          go_simp
          exact ParPost.same fun _ _ => rfl
        · intro vals W hx hd
          have hW := HF.out W hx
          simp [PDeps, pdeps, Region.binds, List.idxOf_cons] at hd
          first
            | refine ParOb.plain rfl ?_
            | refine ParOb.wanted (by simp [Region.wanted, yielded, hd]) ?_
          go_simp
          exact ⟨(Ext.refl _).alloc _, fun w2 h2 => seq_new.ext h2⟩
        · intro vals W hx hd
          have hW := HF.out W hx
          simp [PDeps, pdeps, Region.binds, List.idxOf_cons] at hd
          first
            | refine ParOb.plain rfl ?_
            | refine ParOb.wanted (by simp [Region.wanted, yielded, hd]) ?_
          go_simp
          exact ParPost.same fun _ _ => rfl
        · intro vals W hx hd
          have hW := HF.out W hx
          simp [PDeps, pdeps, Region.binds, List.idxOf_cons] at hd
          first
            | refine ParOb.plain rfl ?_
            | refine ParOb.wanted (by simp [Region.wanted, yielded, hd]) ?_
          have hsum := IntWalk.i64_in (4 * (k : Int)) (by omega)
          go_simp
          exact ParPost.same fun _ _ => rfl
        · intro vals W hx hd
          have hW := HF.out W hx
          simp [PDeps, pdeps, Region.binds, List.idxOf_cons] at hd
          first
            | refine ParOb.plain rfl ?_
            | refine ParOb.wanted (by simp [Region.wanted, yielded, hd]) ?_
          have hsum := IntWalk.i64_in (16 + 4 * (k : Int)) (by omega)
          go_simp
          exact ParPost.same fun _ _ => rfl
        · intro vals W hx hd
          have hW := HF.out W hx
          simp [PDeps, pdeps, Region.binds, List.idxOf_cons] at hd
          first
            | refine ParOb.plain rfl ?_
            | refine ParOb.wanted (by simp [Region.wanted, yielded, hd]) ?_
          go_simp
          exact ParPost.same fun _ _ => rfl
        · intro vals W hx hd
          have hW := HF.out W hx
          simp [PDeps, pdeps, Region.binds, List.idxOf_cons] at hd
          first
            | refine ParOb.plain rfl ?_
            | refine ParOb.wanted (by simp [Region.wanted, yielded, hd]) ?_
          go_simp
          exact ⟨(Ext.refl _).alloc _, fun w2 h2 => (els_new [⟨16 + 4 * k, 32, 2, true⟩]).ext h2⟩
        · intro vals W hx hd
          have hW := HF.out W hx
          simp [PDeps, pdeps, Region.binds, List.idxOf_cons] at hd
          first
            | refine ParOb.plain rfl ?_
            | refine ParOb.wanted (by simp [Region.wanted, yielded, hd]) ?_
          go_simp
          refine (putR_any (.slice pv nv kv) _ _ (rnds rndA k []) (sgA k) [⟨16 + 4 * k, 32, 2, true⟩] W (HE.out.ext hx) hd.2.1 hd.2.2 (by have := HLen.out; omega) (by simp)).mono ?_
          intro e w9 h9
          exact tab_put h9
      · simp (maxSteps := 20000000) only [permL, permOp, List.filterMap_cons, List.filterMap_nil, List.getElem?_cons_succ, List.getElem?_cons_zero, Option.map_some, Option.map_none, List.drop_succ_cons, List.drop_zero, List.take_succ_cons, List.take_zero, Nat.reduceSub, ZAll, ParEnd, Act.put, List.setIfInBounds_toArray, List.set_cons_succ, List.set_cons_zero]
      intro vals W hx hf hz
      simp (maxSteps := 20000000) only [permL, permOp, List.filterMap_cons, List.filterMap_nil, List.getElem?_cons_succ, List.getElem?_cons_zero, Option.map_some, Option.map_none, ParFacts, List.take_succ_cons, List.take_zero, and_true, Nat.reduceAdd] at hf
      obtain ⟨f0, f1, f2, f3, f4, f5, f6, f7, f8, f9, f10⟩ := hf
      clear hz
      simp (maxSteps := 20000000) only [permL, permOp, List.filterMap_cons, List.filterMap_nil, List.getElem?_cons_succ, List.getElem?_cons_zero, Option.map_some, Option.map_none, List.drop_succ_cons, List.drop_zero, List.take_succ_cons, List.take_zero, Nat.reduceSub, ParEnd, ZTail, Act.put, List.setIfInBounds_toArray, List.set_cons_succ, List.set_cons_zero, Nat.reduceAdd, f0, f1, f2, f3, f5, f6, f7, f8]
      clear f0 f1 f2 f3 f5 f6 f7 f8
      generalize vals 4 = y4 at f4 ⊢
      generalize vals 9 = y9 at f9 ⊢
      generalize vals 10 = y10 at f10 ⊢
      obtain ⟨s, rfl, hs⟩ := f10
      obtain ⟨p1, n1, k1, rfl⟩ := hs.slice
      have HS := Lib.hid ((HR.out.ext hx).put hs)
      obtain ⟨cq, fq⟩ := (HQ.out.keep hx).facts
      have hql := (HQ.out.keep hx).lt
      refine ⟨?_⟩
      go_simp
      clear f4 f9 cq fq hql hx HF HQ HE hs
      generalize W.setCell ⟨q, 0, none⟩ (.slice p1 n1 k1) = W1 at HS ⊢
      repeat (first | go_values | go_skip | go_guarded | go_step | go_upon)
      go_roundw
      case rel => exact ⟨k + 1, by omega, by go_num, HS.out⟩
      case measure => simp [intOf]; omega
    · obtain rfl : k = 6 := by omega
      rw [show ((6 : Nat) : Int) = 6 from rfl]
      have HA := Lib.hid (show RtSt w wr r q tabA from HR.out)
      clear HR
      repeat (first | go_values | go_skip | go_guarded | go_step | go_upon)
      go_loopw [3] (fun i wr => ∃ k : Nat, k ≤ 10 ∧ i = .int .i64 k ∧ RtSt w wr r q (rnds rndB k tabA)) (fun i _ => 10 - (intOf i).toNat)
      case atStart => exact ⟨0, by omega, rfl, HA.out⟩
      case round =>
        obtain ⟨k, hk, rfl, hst⟩ := hrel
        have HR := Lib.hid hst
        clear hst
        by_cases hlt : k < 10
        · have hltI : (k : Int) < 10 := by omega
          have HLen := Lib.hid (lenB k (by omega))
          have HLen2 := Lib.hid (lenB (k + 1) (by omega))
          have hsum1 := IntWalk.i64_in (48 + (k : Int)) (by omega)
          have hsum2 := IntWalk.i64_in (4 * (k : Int)) (by omega)
          have hsum3 := IntWalk.i64_in (128 + 4 * (k : Int)) (by omega)
          obtain ⟨v, hq, he⟩ := HR.out.ex
          obtain ⟨pv, nv, kv, rfl⟩ := he.slice
          have HQ := Lib.hid hq
          have HE := Lib.hid he
          clear hq he
          obtain ⟨cq, fq⟩ := HQ.out.facts
          have hql := HQ.out.lt
          go_wp2_with fail
          refine Calls.mono (putR_any (.slice pv nv kv) _ _ (rnds rndB k tabA) (48 + k) [⟨128 + 4 * k, 32, 2, false⟩] _ (HE.out.ext (((Ext.refl _).alloc _).alloc _)) (seq_new.ext ((Ext.refl _).alloc _)) (els_newAt [⟨128 + 4 * k, 32, 2, false⟩] (by simp)) (by have := HLen.out; omega) (by simp)) ?_
          rintro e w9 ⟨⟨s, rfl, hs⟩, hb9⟩
          have hx := Ext.trans (((Ext.refl _).alloc _).alloc _) hb9
          obtain ⟨p1, n1, k1, rfl⟩ := hs.slice
          have HS := Lib.hid ((HR.out.ext hx).put hs)
          clear cq fq hql
          obtain ⟨cq, fq⟩ := (HQ.out.keep hx).facts
          have hql := (HQ.out.keep hx).lt
          go_simp
          repeat (first | go_values | go_skip | go_guarded | go_step | go_upon)
          repeat (first | go_values | go_skip | go_guarded | go_step | go_upon)
          go_roundw
          case rel => exact ⟨k + 1, by omega, by go_num, HS.out⟩
          case measure => simp [intOf]; omega
        · obtain rfl : k = 10 := by omega
          rw [show ((10 : Nat) : Int) = 10 from rfl]
          have HB := Lib.hid (show RtSt w wr r q tabB from HR.out)
          clear HR HA
          repeat (first | go_values | go_skip | go_guarded | go_step | go_upon)
          go_loopw [4] (fun i wr => ∃ k : Nat, k ≤ 26 ∧ i = .int .i64 k ∧ RtSt w wr r q (rnds rndC k tabB)) (fun i _ => 26 - (intOf i).toNat)
          case atStart => exact ⟨0, by omega, rfl, HB.out⟩
          case round =>
            obtain ⟨k, hk, rfl, hst⟩ := hrel
            have HR := Lib.hid hst
            clear hst
            by_cases hlt : k < 26
            · have hltI : (k : Int) < 26 := by omega
              have HLen := Lib.hid (lenC k (by omega))
              have HLen2 := Lib.hid (lenC (k + 1) (by omega))
              go_wp2_with fail
              have KS := Lib.hid (letterR_small k (by omega))
              have KG := Lib.hid (letterR_great k (by omega))
              unfold elV at KS KG
              obtain ⟨v, hq, he⟩ := HR.out.ex
              obtain ⟨pv, nv, kv, rfl⟩ := he.slice
              have HQ := Lib.hid hq
              have HE := Lib.hid he
              clear hq he
              have HF := Lib.hid (show ∀ W, Ext wr W → W.cell? ⟨q, 0, none⟩ = some (.slice pv nv kv) ∧ W.cell? ⟨q, 1, none⟩ = none from fun W hW => ⟨by simpa using (HQ.out.keep hW).cell 0, by simpa using (HQ.out.keep hW).cell 1⟩)
              refine wp_parZH [0, 1, 2, 3, 4, 5, 6, 7, 8, 9] 9 9 (fun
                  | 0 => fun v _ => v = .agg #[.slice pv nv kv]
                  | 1 => fun v _ => v = .int .i64 (k : Int)
                  | 2 => fun v _ => v = .int .i64 (97 + (k : Int))
                  | 3 => SeqV (97 + k)
                  | 4 => fun v _ => v = .int .i64 (k : Int)
                  | 5 => fun v _ => v = .int .i64 (97 + (k : Int))
                  | 6 => fun v _ => v = .agg #[.int .i64 ((low k 2).p : Int), .int .i64 ((low k 2).s : Int), .int .i64 ((low k 2).t : Int), .bool (low k 2).v]
                  | 7 => ElsV [low k 2]
                  | 8 => TabV (insE (97 + k) [low k 2] (rnds rndC k tabB))
                  | _ => fun _ _ => True) (fun
                  | _ => undef) (by kernel_rfl) (by kernel_rfl) (by kernel_rfl) ?_ ?_ ?_
              · simp (maxSteps := 20000000) only [permL, permOp, List.filterMap_cons, List.filterMap_nil, List.getElem?_cons_succ, List.getElem?_cons_zero, Option.map_some, Option.map_none, List.take_succ_cons, List.take_zero, ParAll, Act.put, List.setIfInBounds_toArray, List.set_cons_succ, List.set_cons_zero]
                refine ⟨?_, ?_, ?_, ?_, ?_, ?_, ?_, ?_, ?_, trivial⟩
                · intro vals W hx hd
                  have hW := HF.out W hx
                  simp [PDeps, pdeps, Region.binds, List.idxOf_cons] at hd
                  first
                    | refine ParOb.plain rfl ?_
                    | refine ParOb.wanted (by simp [Region.wanted, yielded, hd]) ?_
                  go_simp
                  exact ParPost.same fun _ _ => rfl
                · intro vals W hx hd
                  have hW := HF.out W hx
                  simp [PDeps, pdeps, Region.binds, List.idxOf_cons] at hd
                  first
                    | refine ParOb.plain rfl ?_
                    | refine ParOb.wanted (by simp [Region.wanted, yielded, hd]) ?_
                  go_simp
                  exact ParPost.same fun _ _ => rfl
                · intro vals W hx hd
                  have hW := HF.out W hx
                  simp [PDeps, pdeps, Region.binds, List.idxOf_cons] at hd
                  first
                    | refine ParOb.plain rfl ?_
                    | refine ParOb.wanted (by simp [Region.wanted, yielded, hd]) ?_
                  have hsum := IntWalk.i64_in (97 + (k : Int)) (by omega)
                  go_simp
                  exact ParPost.same fun _ _ => rfl
                · intro vals W hx hd
                  have hW := HF.out W hx
                  simp [PDeps, pdeps, Region.binds, List.idxOf_cons] at hd
                  first
                    | refine ParOb.plain rfl ?_
                    | refine ParOb.wanted (by simp [Region.wanted, yielded, hd]) ?_
                  go_simp
                  exact ⟨(Ext.refl _).alloc _, fun w2 h2 => seq_new.ext h2⟩
                · intro vals W hx hd
                  have hW := HF.out W hx
                  simp [PDeps, pdeps, Region.binds, List.idxOf_cons] at hd
                  first
                    | refine ParOb.plain rfl ?_
                    | refine ParOb.wanted (by simp [Region.wanted, yielded, hd]) ?_
                  go_simp
                  exact ParPost.same fun _ _ => rfl
                · intro vals W hx hd
                  have hW := HF.out W hx
                  simp [PDeps, pdeps, Region.binds, List.idxOf_cons] at hd
                  first
                    | refine ParOb.plain rfl ?_
                    | refine ParOb.wanted (by simp [Region.wanted, yielded, hd]) ?_
                  have hsum := IntWalk.i64_in (97 + (k : Int)) (by omega)
                  go_simp
                  exact ParPost.same fun _ _ => rfl
                · intro vals W hx hd
                  have hW := HF.out W hx
                  simp [PDeps, pdeps, Region.binds, List.idxOf_cons] at hd
                  first
                    | refine ParOb.plain rfl ?_
                    | refine ParOb.wanted (by simp [Region.wanted, yielded, hd]) ?_
                  go_simp
                  refine (KS.out W).mono ?_
                  rintro e w9 ⟨rfl, hb9⟩
                  exact ⟨_, rfl, hb9, fun _ _ => rfl⟩
                · intro vals W hx hd
                  have hW := HF.out W hx
                  simp [PDeps, pdeps, Region.binds, List.idxOf_cons] at hd
                  first
                    | refine ParOb.plain rfl ?_
                    | refine ParOb.wanted (by simp [Region.wanted, yielded, hd]) ?_
                  go_simp
                  exact ⟨(Ext.refl _).alloc _, fun w2 h2 => (els_new [low k 2]).ext h2⟩
                · intro vals W hx hd
                  have hW := HF.out W hx
                  simp [PDeps, pdeps, Region.binds, List.idxOf_cons] at hd
                  first
                    | refine ParOb.plain rfl ?_
                    | refine ParOb.wanted (by simp [Region.wanted, yielded, hd]) ?_
                  go_simp
                  refine (putR_any (.slice pv nv kv) _ _ (rnds rndC k tabB) (97 + k) [low k 2] W (HE.out.ext hx) hd.2.1 hd.2.2.1 (by have := HLen.out; have := insE_length (97 + k) [low k 2] (rnds rndC k tabB); omega) (by simp)).mono ?_
                  intro e w9 h9
                  exact tab_put h9
              · simp (maxSteps := 20000000) only [permL, permOp, List.filterMap_cons, List.filterMap_nil, List.getElem?_cons_succ, List.getElem?_cons_zero, Option.map_some, Option.map_none, List.drop_succ_cons, List.drop_zero, List.take_succ_cons, List.take_zero, Nat.reduceSub, ZAll, ParEnd, Act.put, List.setIfInBounds_toArray, List.set_cons_succ, List.set_cons_zero]
              intro vals W hx hf hz
              simp (maxSteps := 20000000) only [permL, permOp, List.filterMap_cons, List.filterMap_nil, List.getElem?_cons_succ, List.getElem?_cons_zero, Option.map_some, Option.map_none, ParFacts, List.take_succ_cons, List.take_zero, and_true, Nat.reduceAdd] at hf
              obtain ⟨f0, f1, f2, f3, f4, f5, f6, f7, f8⟩ := hf
              clear hz
              simp (maxSteps := 20000000) only [permL, permOp, List.filterMap_cons, List.filterMap_nil, List.getElem?_cons_succ, List.getElem?_cons_zero, Option.map_some, Option.map_none, List.drop_succ_cons, List.drop_zero, List.take_succ_cons, List.take_zero, Nat.reduceSub, ParEnd, ZTail, Act.put, List.setIfInBounds_toArray, List.set_cons_succ, List.set_cons_zero, Nat.reduceAdd, f0, f1, f2, f4, f5, f6]
              clear f0 f1 f2 f4 f5 f6
              generalize vals 3 = y3 at f3 ⊢
              generalize vals 7 = y7 at f7 ⊢
              generalize vals 8 = y8 at f8 ⊢
              obtain ⟨s, rfl, hs⟩ := f8
              obtain ⟨p1, n1, k1, rfl⟩ := hs.slice
              have HS0 := Lib.hid ((HR.out.ext hx).put hs)
              obtain ⟨cq, fq⟩ := (HQ.out.keep hx).facts
              have hql := (HQ.out.keep hx).lt
              refine ⟨?_⟩
              go_simp
              clear f3 f7 cq fq hql hx HF HQ HE hs
              generalize W.setCell ⟨q, 0, none⟩ (.slice p1 n1 k1) = W1 at HS0 ⊢
              repeat (first | go_values | go_skip | go_guarded | go_step | go_upon)
              obtain ⟨v, hq, he⟩ := HS0.out.ex
              obtain ⟨pv, nv, kv, rfl⟩ := he.slice
              have HQ := Lib.hid hq
              have HE := Lib.hid he
              clear hq he
              have HF := Lib.hid (show ∀ W, Ext W1 W → W.cell? ⟨q, 0, none⟩ = some (.slice pv nv kv) ∧ W.cell? ⟨q, 1, none⟩ = none from fun W hW => ⟨by simpa using (HQ.out.keep hW).cell 0, by simpa using (HQ.out.keep hW).cell 1⟩)
              refine wp_parZH [0, 1, 2, 3, 4, 5, 6, 7, 8, 9] 9 9 (fun
                  | 0 => fun v _ => v = .agg #[.slice pv nv kv]
                  | 1 => fun v _ => v = .int .i64 (k : Int)
                  | 2 => fun v _ => v = .int .i64 (65 + (k : Int))
                  | 3 => SeqV (65 + k)
                  | 4 => fun v _ => v = .int .i64 (k : Int)
                  | 5 => fun v _ => v = .int .i64 (65 + (k : Int))
                  | 6 => fun v _ => v = .agg #[.int .i64 ((low k 8).p : Int), .int .i64 ((low k 8).s : Int), .int .i64 ((low k 8).t : Int), .bool (low k 8).v]
                  | 7 => ElsV [low k 8]
                  | 8 => TabV (insE (65 + k) [low k 8] (insE (97 + k) [low k 2] (rnds rndC k tabB)))
                  | _ => fun _ _ => True) (fun
                  | _ => undef) (by kernel_rfl) (by kernel_rfl) (by kernel_rfl) ?_ ?_ ?_
              · simp (maxSteps := 20000000) only [permL, permOp, List.filterMap_cons, List.filterMap_nil, List.getElem?_cons_succ, List.getElem?_cons_zero, Option.map_some, Option.map_none, List.take_succ_cons, List.take_zero, ParAll, Act.put, List.setIfInBounds_toArray, List.set_cons_succ, List.set_cons_zero]
                refine ⟨?_, ?_, ?_, ?_, ?_, ?_, ?_, ?_, ?_, trivial⟩
                · intro vals W hx hd
                  have hW := HF.out W hx
                  simp [PDeps, pdeps, Region.binds, List.idxOf_cons] at hd
                  first
                    | refine ParOb.plain rfl ?_
                    | refine ParOb.wanted (by simp [Region.wanted, yielded, hd]) ?_
                  go_simp
                  exact ParPost.same fun _ _ => rfl
                · intro vals W hx hd
                  have hW := HF.out W hx
                  simp [PDeps, pdeps, Region.binds, List.idxOf_cons] at hd
                  first
                    | refine ParOb.plain rfl ?_
                    | refine ParOb.wanted (by simp [Region.wanted, yielded, hd]) ?_
                  go_simp
                  exact ParPost.same fun _ _ => rfl
                · intro vals W hx hd
                  have hW := HF.out W hx
                  simp [PDeps, pdeps, Region.binds, List.idxOf_cons] at hd
                  first
                    | refine ParOb.plain rfl ?_
                    | refine ParOb.wanted (by simp [Region.wanted, yielded, hd]) ?_
                  have hsum := IntWalk.i64_in (65 + (k : Int)) (by omega)
                  go_simp
                  exact ParPost.same fun _ _ => rfl
                · intro vals W hx hd
                  have hW := HF.out W hx
                  simp [PDeps, pdeps, Region.binds, List.idxOf_cons] at hd
                  first
                    | refine ParOb.plain rfl ?_
                    | refine ParOb.wanted (by simp [Region.wanted, yielded, hd]) ?_
                  go_simp
                  exact ⟨(Ext.refl _).alloc _, fun w2 h2 => seq_new.ext h2⟩
                · intro vals W hx hd
                  have hW := HF.out W hx
                  simp [PDeps, pdeps, Region.binds, List.idxOf_cons] at hd
                  first
                    | refine ParOb.plain rfl ?_
                    | refine ParOb.wanted (by simp [Region.wanted, yielded, hd]) ?_
                  go_simp
                  exact ParPost.same fun _ _ => rfl
                · intro vals W hx hd
                  have hW := HF.out W hx
                  simp [PDeps, pdeps, Region.binds, List.idxOf_cons] at hd
                  first
                    | refine ParOb.plain rfl ?_
                    | refine ParOb.wanted (by simp [Region.wanted, yielded, hd]) ?_
                  have hsum := IntWalk.i64_in (65 + (k : Int)) (by omega)
                  go_simp
                  exact ParPost.same fun _ _ => rfl
                · intro vals W hx hd
                  have hW := HF.out W hx
                  simp [PDeps, pdeps, Region.binds, List.idxOf_cons] at hd
                  first
                    | refine ParOb.plain rfl ?_
                    | refine ParOb.wanted (by simp [Region.wanted, yielded, hd]) ?_
                  go_simp
                  refine (KG.out W).mono ?_
                  rintro e w9 ⟨rfl, hb9⟩
                  exact ⟨_, rfl, hb9, fun _ _ => rfl⟩
                · intro vals W hx hd
                  have hW := HF.out W hx
                  simp [PDeps, pdeps, Region.binds, List.idxOf_cons] at hd
                  first
                    | refine ParOb.plain rfl ?_
                    | refine ParOb.wanted (by simp [Region.wanted, yielded, hd]) ?_
                  go_simp
                  exact ⟨(Ext.refl _).alloc _, fun w2 h2 => (els_new [low k 8]).ext h2⟩
                · intro vals W hx hd
                  have hW := HF.out W hx
                  simp [PDeps, pdeps, Region.binds, List.idxOf_cons] at hd
                  first
                    | refine ParOb.plain rfl ?_
                    | refine ParOb.wanted (by simp [Region.wanted, yielded, hd]) ?_
                  go_simp
                  refine (putR_any (.slice pv nv kv) _ _ (insE (97 + k) [low k 2] (rnds rndC k tabB)) (65 + k) [low k 8] W (HE.out.ext hx) hd.2.1 hd.2.2.1 (by have := HLen.out; have := insE_length (97 + k) [low k 2] (rnds rndC k tabB); omega) (by simp)).mono ?_
                  intro e w9 h9
                  exact tab_put h9
              · simp (maxSteps := 20000000) only [permL, permOp, List.filterMap_cons, List.filterMap_nil, List.getElem?_cons_succ, List.getElem?_cons_zero, Option.map_some, Option.map_none, List.drop_succ_cons, List.drop_zero, List.take_succ_cons, List.take_zero, Nat.reduceSub, ZAll, ParEnd, Act.put, List.setIfInBounds_toArray, List.set_cons_succ, List.set_cons_zero]
              intro vals W hx hf hz
              simp (maxSteps := 20000000) only [permL, permOp, List.filterMap_cons, List.filterMap_nil, List.getElem?_cons_succ, List.getElem?_cons_zero, Option.map_some, Option.map_none, ParFacts, List.take_succ_cons, List.take_zero, and_true, Nat.reduceAdd] at hf
              obtain ⟨f0, f1, f2, f3, f4, f5, f6, f7, f8⟩ := hf
              clear hz
              simp (maxSteps := 20000000) only [permL, permOp, List.filterMap_cons, List.filterMap_nil, List.getElem?_cons_succ, List.getElem?_cons_zero, Option.map_some, Option.map_none, List.drop_succ_cons, List.drop_zero, List.take_succ_cons, List.take_zero, Nat.reduceSub, ParEnd, ZTail, Act.put, List.setIfInBounds_toArray, List.set_cons_succ, List.set_cons_zero, Nat.reduceAdd, f0, f1, f2, f4, f5, f6]
              clear f0 f1 f2 f4 f5 f6
              generalize vals 3 = y3 at f3 ⊢
              generalize vals 7 = y7 at f7 ⊢
              generalize vals 8 = y8 at f8 ⊢
              obtain ⟨s, rfl, hs⟩ := f8
              obtain ⟨p1, n1, k1, rfl⟩ := hs.slice
              have HS1 := Lib.hid ((HS0.out.ext hx).put hs)
              obtain ⟨cq, fq⟩ := (HQ.out.keep hx).facts
              have hql := (HQ.out.keep hx).lt
              refine ⟨?_⟩
              go_simp
              clear f3 f7 cq fq hql hx HF HQ HE hs
              generalize W.setCell ⟨q, 0, none⟩ (.slice p1 n1 k1) = W2 at HS1 ⊢
              repeat (first | go_values | go_skip | go_guarded | go_step | go_upon)
              go_roundw
              case rel => exact ⟨k + 1, by omega, by go_num, HS1.out⟩
              case measure => simp [intOf]; omega
            · obtain rfl : k = 26 := by omega
              rw [show ((26 : Nat) : Int) = 26 from rfl]
              have HC := Lib.hid (RtMs.mk (bs := []) (show RtSt w wr r q tabC from HR.out) (fun x h => by cases h))
              clear HR HB
              repeat (first | go_values | go_skip | go_guarded | go_step | go_upon)
              have HC2 := Lib.hid (HC.out.new cs8 rfl)
              rw [show cs8 = #[.int .i64 768, .int .i64 769, .int .i64 770, .int .i64 771, .int .i64 772, .int .i64 776, .int .i64 778, .int .i64 807] from rfl] at HC2
              generalize wr.alloc (.cells #[.int .i64 768, .int .i64 769, .int .i64 770, .int .i64 771, .int .i64 772, .int .i64 776, .int .i64 778, .int .i64 807] 3) = W5 at HC2 ⊢
              rw [show (#[.int .i64 768, .int .i64 769, .int .i64 770, .int .i64 771, .int .i64 772, .int .i64 776, .int .i64 778, .int .i64 807] : Array Value) = cs8 from rfl] at HC2
              generalize wr.heap.size = gm at HC2 ⊢
              clear HC
              go_loopw [6] (fun i wr => ∃ k : Nat, k ≤ 8 ∧ i = .int .i64 k ∧ RtMs w wr r q (rnds rndD k tabC) [(gm, cs8)]) (fun i _ => 8 - (intOf i).toNat)
              case atStart => exact ⟨0, by omega, rfl, HC2.out⟩
              case round =>
                obtain ⟨k, hk, rfl, hst⟩ := hrel
                have HR := Lib.hid hst
                clear hst
                by_cases hlt : k < 8
                · have hltI : (k : Int) < 8 := by omega
                  have HLen := Lib.hid (lenD k (by omega))
                  have HBm := Lib.hid (HR.out.bl (gm, cs8) (by simp)).1
                  obtain ⟨cm, fm⟩ := HBm.out.facts
                  go_wp2_with fail
                  clear cm fm
                  obtain ⟨v, hq, he⟩ := HR.out.ex
                  obtain ⟨pv, nv, kv, rfl⟩ := he.slice
                  have HQ := Lib.hid hq
                  have HE := Lib.hid he
                  clear hq he
                  have HF := Lib.hid (show ∀ W, Ext wr W → (W.cell? ⟨q, 0, none⟩ = some (.slice pv nv kv) ∧ W.cell? ⟨q, 1, none⟩ = none) ∧ W.cell? ⟨gm, k, none⟩ = some (.int .i64 ((mkD k).1 : Int)) from fun W hW => ⟨⟨by simpa using (HQ.out.keep hW).cell 0, by simpa using (HQ.out.keep hW).cell 1⟩, by rw [(HBm.out.keep hW).cell]; exact cs8_at k (by omega)⟩)
                  have KM := Lib.hid (fun W => markR_any (mkD k).1 (mkD k).2 W (mkD_mem k (by omega)))
                  unfold elV at KM
                  refine wp_parZH [0, 1, 2, 3, 4, 5, 6, 7, 8, 9, 10, 11, 12, 13] 13 13 (fun
                      | 0 => fun v _ => v = .agg #[.slice pv nv kv]
                      | 1 => fun v _ => v = .slice (some ⟨gm, 0, none⟩) 8 8
                      | 2 => fun v _ => v = .int .i64 (k : Int)
                      | 3 => fun v _ => v = .pointer (some ⟨gm, k, none⟩)
                      | 4 => fun v _ => v = .int .i64 ((mkD k).1 : Int)
                      | 5 => SeqV ((mkD k).1)
                      | 6 => fun v _ => v = .slice (some ⟨gm, 0, none⟩) 8 8
                      | 7 => fun v _ => v = .int .i64 (k : Int)
                      | 8 => fun v _ => v = .pointer (some ⟨gm, k, none⟩)
                      | 9 => fun v _ => v = .int .i64 ((mkD k).1 : Int)
                      | 10 => fun v _ => v = .agg #[.int .i64 ((mk (mkD k).2).p : Int), .int .i64 ((mk (mkD k).2).s : Int), .int .i64 ((mk (mkD k).2).t : Int), .bool (mk (mkD k).2).v]
                      | 11 => ElsV [mk (mkD k).2]
                      | 12 => TabV (insE ((mkD k).1) [mk (mkD k).2] (rnds rndD k tabC))
                      | _ => fun _ _ => True) (fun
                      | _ => undef) (by kernel_rfl) (by kernel_rfl) (by kernel_rfl) ?_ ?_ ?_
                  · simp (maxSteps := 20000000) only [permL, permOp, List.filterMap_cons, List.filterMap_nil, List.getElem?_cons_succ, List.getElem?_cons_zero, Option.map_some, Option.map_none, List.take_succ_cons, List.take_zero, ParAll, Act.put, List.setIfInBounds_toArray, List.set_cons_succ, List.set_cons_zero]
                    refine ⟨?_, ?_, ?_, ?_, ?_, ?_, ?_, ?_, ?_, ?_, ?_, ?_, ?_, trivial⟩
                    · intro vals W hx hd
                      have hW := HF.out W hx
                      simp [PDeps, pdeps, Region.binds, List.idxOf_cons] at hd
                      first
                        | refine ParOb.plain rfl ?_
                        | refine ParOb.wanted (by simp [Region.wanted, yielded, hd]) ?_
                      go_simp
                      exact ParPost.same fun _ _ => rfl
                    · intro vals W hx hd
                      have hW := HF.out W hx
                      simp [PDeps, pdeps, Region.binds, List.idxOf_cons] at hd
                      first
                        | refine ParOb.plain rfl ?_
                        | refine ParOb.wanted (by simp [Region.wanted, yielded, hd]) ?_
                      go_simp
                      exact ParPost.same fun _ _ => rfl
                    · intro vals W hx hd
                      have hW := HF.out W hx
                      simp [PDeps, pdeps, Region.binds, List.idxOf_cons] at hd
                      first
                        | refine ParOb.plain rfl ?_
                        | refine ParOb.wanted (by simp [Region.wanted, yielded, hd]) ?_
                      go_simp
                      exact ParPost.same fun _ _ => rfl
                    · intro vals W hx hd
                      have hW := HF.out W hx
                      simp [PDeps, pdeps, Region.binds, List.idxOf_cons] at hd
                      first
                        | refine ParOb.plain rfl ?_
                        | refine ParOb.wanted (by simp [Region.wanted, yielded, hd]) ?_
                      go_simp
                      exact ParPost.same fun _ _ => rfl
                    · intro vals W hx hd
                      have hW := HF.out W hx
                      simp [PDeps, pdeps, Region.binds, List.idxOf_cons] at hd
                      first
                        | refine ParOb.plain rfl ?_
                        | refine ParOb.wanted (by simp [Region.wanted, yielded, hd]) ?_
                      go_simp
                      exact ParPost.same fun _ _ => rfl
                    · intro vals W hx hd
                      have hW := HF.out W hx
                      simp [PDeps, pdeps, Region.binds, List.idxOf_cons] at hd
                      first
                        | refine ParOb.plain rfl ?_
                        | refine ParOb.wanted (by simp [Region.wanted, yielded, hd]) ?_
                      go_simp
                      exact ⟨(Ext.refl _).alloc _, fun w2 h2 => seq_new.ext h2⟩
                    · intro vals W hx hd
                      have hW := HF.out W hx
                      simp [PDeps, pdeps, Region.binds, List.idxOf_cons] at hd
                      first
                        | refine ParOb.plain rfl ?_
                        | refine ParOb.wanted (by simp [Region.wanted, yielded, hd]) ?_
                      go_simp
                      exact ParPost.same fun _ _ => rfl
                    · intro vals W hx hd
                      have hW := HF.out W hx
                      simp [PDeps, pdeps, Region.binds, List.idxOf_cons] at hd
                      first
                        | refine ParOb.plain rfl ?_
                        | refine ParOb.wanted (by simp [Region.wanted, yielded, hd]) ?_
                      go_simp
                      exact ParPost.same fun _ _ => rfl
                    · intro vals W hx hd
                      have hW := HF.out W hx
                      simp [PDeps, pdeps, Region.binds, List.idxOf_cons] at hd
                      first
                        | refine ParOb.plain rfl ?_
                        | refine ParOb.wanted (by simp [Region.wanted, yielded, hd]) ?_
                      go_simp
                      exact ParPost.same fun _ _ => rfl
                    · intro vals W hx hd
                      have hW := HF.out W hx
                      simp [PDeps, pdeps, Region.binds, List.idxOf_cons] at hd
                      first
                        | refine ParOb.plain rfl ?_
                        | refine ParOb.wanted (by simp [Region.wanted, yielded, hd]) ?_
                      go_simp
                      exact ParPost.same fun _ _ => rfl
                    · intro vals W hx hd
                      have hW := HF.out W hx
                      simp [PDeps, pdeps, Region.binds, List.idxOf_cons] at hd
                      first
                        | refine ParOb.plain rfl ?_
                        | refine ParOb.wanted (by simp [Region.wanted, yielded, hd]) ?_
                      go_simp
                      refine (KM.out W).mono ?_
                      rintro e w9 ⟨rfl, hb9⟩
                      exact ⟨_, rfl, hb9, fun _ _ => rfl⟩
                    · intro vals W hx hd
                      have hW := HF.out W hx
                      simp [PDeps, pdeps, Region.binds, List.idxOf_cons] at hd
                      first
                        | refine ParOb.plain rfl ?_
                        | refine ParOb.wanted (by simp [Region.wanted, yielded, hd]) ?_
                      go_simp
                      exact ⟨(Ext.refl _).alloc _, fun w2 h2 => (els_new [mk (mkD k).2]).ext h2⟩
                    · intro vals W hx hd
                      have hW := HF.out W hx
                      simp [PDeps, pdeps, Region.binds, List.idxOf_cons] at hd
                      first
                        | refine ParOb.plain rfl ?_
                        | refine ParOb.wanted (by simp [Region.wanted, yielded, hd]) ?_
                      go_simp
                      refine (putR_any (.slice pv nv kv) _ _ (rnds rndD k tabC) ((mkD k).1) [mk (mkD k).2] W (HE.out.ext hx) hd.2.1 hd.2.2.1 (by have := HLen.out; omega) (by simp)).mono ?_
                      intro e w9 h9
                      exact tab_put h9
                  · simp (maxSteps := 20000000) only [permL, permOp, List.filterMap_cons, List.filterMap_nil, List.getElem?_cons_succ, List.getElem?_cons_zero, Option.map_some, Option.map_none, List.drop_succ_cons, List.drop_zero, List.take_succ_cons, List.take_zero, Nat.reduceSub, ZAll, ParEnd, Act.put, List.setIfInBounds_toArray, List.set_cons_succ, List.set_cons_zero]
                  intro vals W hx hf hz
                  simp (maxSteps := 20000000) only [permL, permOp, List.filterMap_cons, List.filterMap_nil, List.getElem?_cons_succ, List.getElem?_cons_zero, Option.map_some, Option.map_none, ParFacts, List.take_succ_cons, List.take_zero, and_true, Nat.reduceAdd] at hf
                  obtain ⟨f0, f1, f2, f3, f4, f5, f6, f7, f8, f9, f10, f11, f12⟩ := hf
                  clear hz
                  simp (maxSteps := 20000000) only [permL, permOp, List.filterMap_cons, List.filterMap_nil, List.getElem?_cons_succ, List.getElem?_cons_zero, Option.map_some, Option.map_none, List.drop_succ_cons, List.drop_zero, List.take_succ_cons, List.take_zero, Nat.reduceSub, ParEnd, ZTail, Act.put, List.setIfInBounds_toArray, List.set_cons_succ, List.set_cons_zero, Nat.reduceAdd, f0, f1, f2, f3, f4, f6, f7, f8, f9, f10]
                  clear f0 f1 f2 f3 f4 f6 f7 f8 f9 f10
                  generalize vals 5 = y5 at f5 ⊢
                  generalize vals 11 = y11 at f11 ⊢
                  generalize vals 12 = y12 at f12 ⊢
                  obtain ⟨s, rfl, hs⟩ := f12
                  obtain ⟨p1, n1, k1, rfl⟩ := hs.slice
                  have HS := Lib.hid ((HR.out.ext hx).put hs)
                  obtain ⟨cq, fq⟩ := (HQ.out.keep hx).facts
                  have hql := (HQ.out.keep hx).lt
                  refine ⟨?_⟩
                  go_simp
                  clear f5 f11 HBm cq fq hql hx HF HQ HE hs
                  generalize W.setCell ⟨q, 0, none⟩ (.slice p1 n1 k1) = W1 at HS ⊢
                  repeat (first | go_values | go_skip | go_guarded | go_step | go_upon)
                  go_roundw
                  case rel => exact ⟨k + 1, by omega, by go_num, HS.out⟩
                  case measure => simp [intOf]; omega
                · obtain rfl : k = 8 := by omega
                  rw [show ((8 : Nat) : Int) = 8 from rfl]
                  have HD := Lib.hid (show RtMs w wr r q tabD [(gm, cs8)] from HR.out)
                  clear HR HC2
                  repeat (first | go_values | go_skip | go_guarded | go_step | go_upon)
                  have HD2 := Lib.hid ((HD.out.new cs6 rfl).new cs4 (n := wr.heap.size + 1) (by simp))
                  rw [show cs6 = #[.int .i64 768, .int .i64 769, .int .i64 770, .int .i64 771, .int .i64 776, .int .i64 778] from rfl, show cs4 = #[.int .i64 768, .int .i64 769, .int .i64 770, .int .i64 776] from rfl] at HD2
                  generalize (wr.alloc (.cells #[.int .i64 768, .int .i64 769, .int .i64 770, .int .i64 771, .int .i64 776, .int .i64 778] 3)).alloc (.cells #[.int .i64 768, .int .i64 769, .int .i64 770, .int .i64 776] 3) = W6 at HD2 ⊢
                  rw [show (#[.int .i64 768, .int .i64 769, .int .i64 770, .int .i64 771, .int .i64 776, .int .i64 778] : Array Value) = cs6 from rfl, show (#[.int .i64 768, .int .i64 769, .int .i64 770, .int .i64 776] : Array Value) = cs4 from rfl] at HD2
                  generalize wr.heap.size + 1 = g4 at HD2 ⊢
                  generalize wr.heap.size = g6 at HD2 ⊢
                  clear HD
                  go_loopw [9] (fun i wr => ∃ k : Nat, k ≤ 6 ∧ i = .int .i64 k ∧ RtMs w wr r q (rnds rndE k tabD) [(g4, cs4), (g6, cs6), (gm, cs8)]) (fun i _ => 6 - (intOf i).toNat)
                  case atStart => exact ⟨0, by omega, rfl, HD2.out⟩
                  case round =>
                    obtain ⟨k, hk, rfl, hst⟩ := hrel
                    have HR := Lib.hid hst
                    clear hst
                    by_cases hlt : k < 6
                    · have hltI : (k : Int) < 6 := by omega
                      have HLen := Lib.hid (lenE k (by omega))
                      have HBm := Lib.hid (HR.out.bl (g6, cs6) (by simp)).1
                      obtain ⟨cm, fm⟩ := HBm.out.facts
                      go_wp2_with fail
                      clear cm fm
                      obtain ⟨v, hq, he⟩ := HR.out.ex
                      obtain ⟨pv, nv, kv, rfl⟩ := he.slice
                      have HQ := Lib.hid hq
                      have HE := Lib.hid he
                      clear hq he
                      have HF := Lib.hid (show ∀ W, Ext wr W → (W.cell? ⟨q, 0, none⟩ = some (.slice pv nv kv) ∧ W.cell? ⟨q, 1, none⟩ = none) ∧ W.cell? ⟨g6, k, none⟩ = some (.int .i64 ((mkE6 k).1 : Int)) from fun W hW => ⟨⟨by simpa using (HQ.out.keep hW).cell 0, by simpa using (HQ.out.keep hW).cell 1⟩, by rw [(HBm.out.keep hW).cell]; exact cs6_at k (by omega)⟩)
                      refine wp_parZH [0, 1, 2, 3, 4, 5, 6, 7, 8] 8 8 (fun
                          | 0 => fun v _ => v = .agg #[.slice pv nv kv]
                          | 1 => fun v _ => v = .int .i64 (k : Int)
                          | 2 => fun v _ => v = .int .i64 (192 + (k : Int))
                          | 3 => fun v _ => v = .slice (some ⟨g6, 0, none⟩) 6 6
                          | 4 => fun v _ => v = .int .i64 (k : Int)
                          | 5 => fun v _ => v = .pointer (some ⟨g6, k, none⟩)
                          | 6 => fun v _ => v = .int .i64 ((mkE6 k).1 : Int)
                          | 7 => TabV (putM (192 + k) 0 (mkE6 k).2 (rnds rndE k tabD))
                          | _ => fun _ _ => True) (fun
                          | _ => undef) (by kernel_rfl) (by kernel_rfl) (by kernel_rfl) ?_ ?_ ?_
                      · simp (maxSteps := 20000000) only [permL, permOp, List.filterMap_cons, List.filterMap_nil, List.getElem?_cons_succ, List.getElem?_cons_zero, Option.map_some, Option.map_none, List.take_succ_cons, List.take_zero, ParAll, Act.put, List.setIfInBounds_toArray, List.set_cons_succ, List.set_cons_zero]
                        refine ⟨?_, ?_, ?_, ?_, ?_, ?_, ?_, ?_, trivial⟩
                        · intro vals W hx hd
                          have hW := HF.out W hx
                          simp [PDeps, pdeps, Region.binds, List.idxOf_cons] at hd
                          first
                            | refine ParOb.plain rfl ?_
                            | refine ParOb.wanted (by simp [Region.wanted, yielded, hd]) ?_
                          go_simp
                          exact ParPost.same fun _ _ => rfl
                        · intro vals W hx hd
                          have hW := HF.out W hx
                          simp [PDeps, pdeps, Region.binds, List.idxOf_cons] at hd
                          first
                            | refine ParOb.plain rfl ?_
                            | refine ParOb.wanted (by simp [Region.wanted, yielded, hd]) ?_
                          go_simp
                          exact ParPost.same fun _ _ => rfl
                        · intro vals W hx hd
                          have hW := HF.out W hx
                          simp [PDeps, pdeps, Region.binds, List.idxOf_cons] at hd
                          first
                            | refine ParOb.plain rfl ?_
                            | refine ParOb.wanted (by simp [Region.wanted, yielded, hd]) ?_
                          have hsum := IntWalk.i64_in (192 + (k : Int)) (by omega)
                          go_simp
                          exact ParPost.same fun _ _ => rfl
                        · intro vals W hx hd
                          have hW := HF.out W hx
                          simp [PDeps, pdeps, Region.binds, List.idxOf_cons] at hd
                          first
                            | refine ParOb.plain rfl ?_
                            | refine ParOb.wanted (by simp [Region.wanted, yielded, hd]) ?_
                          go_simp
                          exact ParPost.same fun _ _ => rfl
                        · intro vals W hx hd
                          have hW := HF.out W hx
                          simp [PDeps, pdeps, Region.binds, List.idxOf_cons] at hd
                          first
                            | refine ParOb.plain rfl ?_
                            | refine ParOb.wanted (by simp [Region.wanted, yielded, hd]) ?_
                          go_simp
                          exact ParPost.same fun _ _ => rfl
                        · intro vals W hx hd
                          have hW := HF.out W hx
                          simp [PDeps, pdeps, Region.binds, List.idxOf_cons] at hd
                          first
                            | refine ParOb.plain rfl ?_
                            | refine ParOb.wanted (by simp [Region.wanted, yielded, hd]) ?_
                          go_simp
                          exact ParPost.same fun _ _ => rfl
                        · intro vals W hx hd
                          have hW := HF.out W hx
                          simp [PDeps, pdeps, Region.binds, List.idxOf_cons] at hd
                          first
                            | refine ParOb.plain rfl ?_
                            | refine ParOb.wanted (by simp [Region.wanted, yielded, hd]) ?_
                          go_simp
                          exact ParPost.same fun _ _ => rfl
                        · intro vals W hx hd
                          have hW := HF.out W hx
                          simp [PDeps, pdeps, Region.binds, List.idxOf_cons] at hd
                          first
                            | refine ParOb.plain rfl ?_
                            | refine ParOb.wanted (by simp [Region.wanted, yielded, hd]) ?_
                          go_simp
                          refine Calls.mono (markedR_at (.slice pv nv kv) (rnds rndE k tabD) (192 + k) 0 (mkE6 k).1 (mkE6 k).2 _ _ _ (by omega) (by omega) rfl (by omega) (by omega) (mkE6_mem k (by omega)) W (HE.out.ext hx) (by have := HLen.out; omega)) ?_
                          intro e w9 h9
                          exact tab_put h9
                      · simp (maxSteps := 20000000) only [permL, permOp, List.filterMap_cons, List.filterMap_nil, List.getElem?_cons_succ, List.getElem?_cons_zero, Option.map_some, Option.map_none, List.drop_succ_cons, List.drop_zero, List.take_succ_cons, List.take_zero, Nat.reduceSub, ZAll, ParEnd, Act.put, List.setIfInBounds_toArray, List.set_cons_succ, List.set_cons_zero]
                      intro vals W hx hf hz
                      simp (maxSteps := 20000000) only [permL, permOp, List.filterMap_cons, List.filterMap_nil, List.getElem?_cons_succ, List.getElem?_cons_zero, Option.map_some, Option.map_none, ParFacts, List.take_succ_cons, List.take_zero, and_true, Nat.reduceAdd] at hf
                      obtain ⟨f0, f1, f2, f3, f4, f5, f6, f7⟩ := hf
                      clear hz
                      simp (maxSteps := 20000000) only [permL, permOp, List.filterMap_cons, List.filterMap_nil, List.getElem?_cons_succ, List.getElem?_cons_zero, Option.map_some, Option.map_none, List.drop_succ_cons, List.drop_zero, List.take_succ_cons, List.take_zero, Nat.reduceSub, ParEnd, ZTail, Act.put, List.setIfInBounds_toArray, List.set_cons_succ, List.set_cons_zero, Nat.reduceAdd, f0, f1, f2, f3, f4, f5, f6]
                      clear f0 f1 f2 f3 f4 f5 f6
                      generalize vals 7 = y7 at f7 ⊢
                      obtain ⟨s, rfl, hs⟩ := f7
                      obtain ⟨p1, n1, k1, rfl⟩ := hs.slice
                      have HS := Lib.hid ((HR.out.ext hx).put hs)
                      obtain ⟨cq, fq⟩ := (HQ.out.keep hx).facts
                      have hql := (HQ.out.keep hx).lt
                      refine ⟨?_⟩
                      go_simp
                      clear cq fq hql hx HF HQ HE hs
                      generalize W.setCell ⟨q, 0, none⟩ (.slice p1 n1 k1) = W1 at HS ⊢
                      repeat (first | go_values | go_skip | go_guarded | go_step | go_upon)
                      go_roundw
                      case rel => exact ⟨k + 1, by omega, by go_num, HS.out⟩
                      case measure => simp [intOf]; omega
                    · obtain rfl : k = 6 := by omega
                      rw [show ((6 : Nat) : Int) = 6 from rfl]
                      have HE6 := Lib.hid (show RtMs w wr r q tabE [(g4, cs4), (g6, cs6), (gm, cs8)] from HR.out)
                      clear HR HD2
                      obtain ⟨v, hq, he⟩ := HE6.out.ex
                      obtain ⟨pv, nv, kv, rfl⟩ := he.slice
                      have HQ := Lib.hid hq
                      have HE := Lib.hid he
                      clear hq he
                      obtain ⟨cq, fq⟩ := HQ.out.facts
                      have hql := HQ.out.lt
                      go_wp2_with fail
                      refine Calls.mono (markedR_at (.slice pv nv kv) tabE 199 2 807 48 _ _ _ rfl rfl rfl (by omega) (by omega) (by simp) _ HE.out (by have := lenF; omega)) ?_
                      rintro e w9 ⟨⟨s, rfl, hs⟩, hb9⟩
                      have hx : Ext _ w9 := hb9
                      obtain ⟨p1, n1, k1, rfl⟩ := hs.slice
                      have HF6 := Lib.hid (show RtMs w _ r q tabF [(g4, cs4), (g6, cs6), (gm, cs8)] from (HE6.out.ext hx).put hs)
                      clear cq fq hql
                      obtain ⟨cq, fq⟩ := (HQ.out.keep hx).facts
                      have hql := (HQ.out.keep hx).lt
                      go_simp
                      repeat (first | go_values | go_skip | go_guarded | go_step | go_upon)
                      clear cq fq hql hx HQ HE hs hb9
                      generalize w9.setCell ⟨q, 0, none⟩ (.slice p1 n1 k1) = W7 at HF6 ⊢
                      repeat (first | go_values | go_skip | go_guarded | go_step | go_upon)
                      go_loopw [10] (fun i wr => ∃ k : Nat, k ≤ 4 ∧ i = .int .i64 k ∧ RtMs w wr r q (rnds rndG k tabF) [(g4, cs4), (g6, cs6), (gm, cs8)]) (fun i _ => 4 - (intOf i).toNat)
                      case atStart => exact ⟨0, by omega, rfl, HF6.out⟩
                      case round =>
                        obtain ⟨k, hk, rfl, hst⟩ := hrel
                        have HR := Lib.hid hst
                        clear hst
                        by_cases hlt : k < 4
                        · have hltI : (k : Int) < 4 := by omega
                          have HLen := Lib.hid (lenG k (by omega))
                          have HBm := Lib.hid (HR.out.bl (g4, cs4) (by simp)).1
                          obtain ⟨cm, fm⟩ := HBm.out.facts
                          go_wp2_with fail
                          clear cm fm
                          obtain ⟨v, hq, he⟩ := HR.out.ex
                          obtain ⟨pv, nv, kv, rfl⟩ := he.slice
                          have HQ := Lib.hid hq
                          have HE := Lib.hid he
                          clear hq he
                          have HF := Lib.hid (show ∀ W, Ext wr W → (W.cell? ⟨q, 0, none⟩ = some (.slice pv nv kv) ∧ W.cell? ⟨q, 1, none⟩ = none) ∧ W.cell? ⟨g4, k, none⟩ = some (.int .i64 ((mkG4 k).1 : Int)) from fun W hW => ⟨⟨by simpa using (HQ.out.keep hW).cell 0, by simpa using (HQ.out.keep hW).cell 1⟩, by rw [(HBm.out.keep hW).cell]; exact cs4_at k (by omega)⟩)
                          refine wp_parZH [0, 1, 2, 3, 4, 5, 6, 7, 8] 8 8 (fun
                              | 0 => fun v _ => v = .agg #[.slice pv nv kv]
                              | 1 => fun v _ => v = .int .i64 (k : Int)
                              | 2 => fun v _ => v = .int .i64 (200 + (k : Int))
                              | 3 => fun v _ => v = .slice (some ⟨g4, 0, none⟩) 4 4
                              | 4 => fun v _ => v = .int .i64 (k : Int)
                              | 5 => fun v _ => v = .pointer (some ⟨g4, k, none⟩)
                              | 6 => fun v _ => v = .int .i64 ((mkG4 k).1 : Int)
                              | 7 => TabV (putM (200 + k) 4 (mkG4 k).2 (rnds rndG k tabF))
                              | _ => fun _ _ => True) (fun
                              | _ => undef) (by kernel_rfl) (by kernel_rfl) (by kernel_rfl) ?_ ?_ ?_
                          · simp (maxSteps := 20000000) only [permL, permOp, List.filterMap_cons, List.filterMap_nil, List.getElem?_cons_succ, List.getElem?_cons_zero, Option.map_some, Option.map_none, List.take_succ_cons, List.take_zero, ParAll, Act.put, List.setIfInBounds_toArray, List.set_cons_succ, List.set_cons_zero]
                            refine ⟨?_, ?_, ?_, ?_, ?_, ?_, ?_, ?_, trivial⟩
                            · intro vals W hx hd
                              have hW := HF.out W hx
                              simp [PDeps, pdeps, Region.binds, List.idxOf_cons] at hd
                              first
                                | refine ParOb.plain rfl ?_
                                | refine ParOb.wanted (by simp [Region.wanted, yielded, hd]) ?_
                              go_simp
                              exact ParPost.same fun _ _ => rfl
                            · intro vals W hx hd
                              have hW := HF.out W hx
                              simp [PDeps, pdeps, Region.binds, List.idxOf_cons] at hd
                              first
                                | refine ParOb.plain rfl ?_
                                | refine ParOb.wanted (by simp [Region.wanted, yielded, hd]) ?_
                              go_simp
                              exact ParPost.same fun _ _ => rfl
                            · intro vals W hx hd
                              have hW := HF.out W hx
                              simp [PDeps, pdeps, Region.binds, List.idxOf_cons] at hd
                              first
                                | refine ParOb.plain rfl ?_
                                | refine ParOb.wanted (by simp [Region.wanted, yielded, hd]) ?_
                              have hsum := IntWalk.i64_in (200 + (k : Int)) (by omega)
                              go_simp
                              exact ParPost.same fun _ _ => rfl
                            · intro vals W hx hd
                              have hW := HF.out W hx
                              simp [PDeps, pdeps, Region.binds, List.idxOf_cons] at hd
                              first
                                | refine ParOb.plain rfl ?_
                                | refine ParOb.wanted (by simp [Region.wanted, yielded, hd]) ?_
                              go_simp
                              exact ParPost.same fun _ _ => rfl
                            · intro vals W hx hd
                              have hW := HF.out W hx
                              simp [PDeps, pdeps, Region.binds, List.idxOf_cons] at hd
                              first
                                | refine ParOb.plain rfl ?_
                                | refine ParOb.wanted (by simp [Region.wanted, yielded, hd]) ?_
                              go_simp
                              exact ParPost.same fun _ _ => rfl
                            · intro vals W hx hd
                              have hW := HF.out W hx
                              simp [PDeps, pdeps, Region.binds, List.idxOf_cons] at hd
                              first
                                | refine ParOb.plain rfl ?_
                                | refine ParOb.wanted (by simp [Region.wanted, yielded, hd]) ?_
                              go_simp
                              exact ParPost.same fun _ _ => rfl
                            · intro vals W hx hd
                              have hW := HF.out W hx
                              simp [PDeps, pdeps, Region.binds, List.idxOf_cons] at hd
                              first
                                | refine ParOb.plain rfl ?_
                                | refine ParOb.wanted (by simp [Region.wanted, yielded, hd]) ?_
                              go_simp
                              exact ParPost.same fun _ _ => rfl
                            · intro vals W hx hd
                              have hW := HF.out W hx
                              simp [PDeps, pdeps, Region.binds, List.idxOf_cons] at hd
                              first
                                | refine ParOb.plain rfl ?_
                                | refine ParOb.wanted (by simp [Region.wanted, yielded, hd]) ?_
                              go_simp
                              refine Calls.mono (markedR_at (.slice pv nv kv) (rnds rndG k tabF) (200 + k) 4 (mkG4 k).1 (mkG4 k).2 _ _ _ (by omega) (by omega) rfl (by omega) (by omega) (mkG4_mem k (by omega)) W (HE.out.ext hx) (by have := HLen.out; omega)) ?_
                              intro e w9 h9
                              exact tab_put h9
                          · simp (maxSteps := 20000000) only [permL, permOp, List.filterMap_cons, List.filterMap_nil, List.getElem?_cons_succ, List.getElem?_cons_zero, Option.map_some, Option.map_none, List.drop_succ_cons, List.drop_zero, List.take_succ_cons, List.take_zero, Nat.reduceSub, ZAll, ParEnd, Act.put, List.setIfInBounds_toArray, List.set_cons_succ, List.set_cons_zero]
                          intro vals W hx hf hz
                          simp (maxSteps := 20000000) only [permL, permOp, List.filterMap_cons, List.filterMap_nil, List.getElem?_cons_succ, List.getElem?_cons_zero, Option.map_some, Option.map_none, ParFacts, List.take_succ_cons, List.take_zero, and_true, Nat.reduceAdd] at hf
                          obtain ⟨f0, f1, f2, f3, f4, f5, f6, f7⟩ := hf
                          clear hz
                          simp (maxSteps := 20000000) only [permL, permOp, List.filterMap_cons, List.filterMap_nil, List.getElem?_cons_succ, List.getElem?_cons_zero, Option.map_some, Option.map_none, List.drop_succ_cons, List.drop_zero, List.take_succ_cons, List.take_zero, Nat.reduceSub, ParEnd, ZTail, Act.put, List.setIfInBounds_toArray, List.set_cons_succ, List.set_cons_zero, Nat.reduceAdd, f0, f1, f2, f3, f4, f5, f6]
                          clear f0 f1 f2 f3 f4 f5 f6
                          generalize vals 7 = y7 at f7 ⊢
                          obtain ⟨s, rfl, hs⟩ := f7
                          obtain ⟨p1, n1, k1, rfl⟩ := hs.slice
                          have HS0 := Lib.hid ((HR.out.ext hx).put hs)
                          obtain ⟨cq, fq⟩ := (HQ.out.keep hx).facts
                          have hql := (HQ.out.keep hx).lt
                          refine ⟨?_⟩
                          go_simp
                          clear cq fq hql hx HF HQ HE hs
                          generalize W.setCell ⟨q, 0, none⟩ (.slice p1 n1 k1) = W20 at HS0 ⊢
                          clear HBm
                          have HBm := Lib.hid (HS0.out.bl (g4, cs4) (by simp)).1
                          obtain ⟨cm, fm⟩ := HBm.out.facts
                          repeat (first | go_values | go_skip | go_guarded | go_step | go_upon)
                          clear cm fm
                          obtain ⟨v, hq, he⟩ := HS0.out.ex
                          obtain ⟨pv, nv, kv, rfl⟩ := he.slice
                          have HQ := Lib.hid hq
                          have HE := Lib.hid he
                          clear hq he
                          have HF := Lib.hid (show ∀ W, Ext W20 W → (W.cell? ⟨q, 0, none⟩ = some (.slice pv nv kv) ∧ W.cell? ⟨q, 1, none⟩ = none) ∧ W.cell? ⟨g4, k, none⟩ = some (.int .i64 ((mkG4 k).1 : Int)) from fun W hW => ⟨⟨by simpa using (HQ.out.keep hW).cell 0, by simpa using (HQ.out.keep hW).cell 1⟩, by rw [(HBm.out.keep hW).cell]; exact cs4_at k (by omega)⟩)
                          refine wp_parZH [0, 1, 2, 3, 4, 5, 6, 7, 8] 8 8 (fun
                              | 0 => fun v _ => v = .agg #[.slice pv nv kv]
                              | 1 => fun v _ => v = .int .i64 (k : Int)
                              | 2 => fun v _ => v = .int .i64 (204 + (k : Int))
                              | 3 => fun v _ => v = .slice (some ⟨g4, 0, none⟩) 4 4
                              | 4 => fun v _ => v = .int .i64 (k : Int)
                              | 5 => fun v _ => v = .pointer (some ⟨g4, k, none⟩)
                              | 6 => fun v _ => v = .int .i64 ((mkG4 k).1 : Int)
                              | 7 => TabV (putM (204 + k) 8 (mkG4 k).2 (putM (200 + k) 4 (mkG4 k).2 (rnds rndG k tabF)))
                              | _ => fun _ _ => True) (fun
                              | _ => undef) (by kernel_rfl) (by kernel_rfl) (by kernel_rfl) ?_ ?_ ?_
                          · simp (maxSteps := 20000000) only [permL, permOp, List.filterMap_cons, List.filterMap_nil, List.getElem?_cons_succ, List.getElem?_cons_zero, Option.map_some, Option.map_none, List.take_succ_cons, List.take_zero, ParAll, Act.put, List.setIfInBounds_toArray, List.set_cons_succ, List.set_cons_zero]
                            refine ⟨?_, ?_, ?_, ?_, ?_, ?_, ?_, ?_, trivial⟩
                            · intro vals W hx hd
                              have hW := HF.out W hx
                              simp [PDeps, pdeps, Region.binds, List.idxOf_cons] at hd
                              first
                                | refine ParOb.plain rfl ?_
                                | refine ParOb.wanted (by simp [Region.wanted, yielded, hd]) ?_
                              go_simp
                              exact ParPost.same fun _ _ => rfl
                            · intro vals W hx hd
                              have hW := HF.out W hx
                              simp [PDeps, pdeps, Region.binds, List.idxOf_cons] at hd
                              first
                                | refine ParOb.plain rfl ?_
                                | refine ParOb.wanted (by simp [Region.wanted, yielded, hd]) ?_
                              go_simp
                              exact ParPost.same fun _ _ => rfl
                            · intro vals W hx hd
                              have hW := HF.out W hx
                              simp [PDeps, pdeps, Region.binds, List.idxOf_cons] at hd
                              first
                                | refine ParOb.plain rfl ?_
                                | refine ParOb.wanted (by simp [Region.wanted, yielded, hd]) ?_
                              have hsum := IntWalk.i64_in (204 + (k : Int)) (by omega)
                              go_simp
                              exact ParPost.same fun _ _ => rfl
                            · intro vals W hx hd
                              have hW := HF.out W hx
                              simp [PDeps, pdeps, Region.binds, List.idxOf_cons] at hd
                              first
                                | refine ParOb.plain rfl ?_
                                | refine ParOb.wanted (by simp [Region.wanted, yielded, hd]) ?_
                              go_simp
                              exact ParPost.same fun _ _ => rfl
                            · intro vals W hx hd
                              have hW := HF.out W hx
                              simp [PDeps, pdeps, Region.binds, List.idxOf_cons] at hd
                              first
                                | refine ParOb.plain rfl ?_
                                | refine ParOb.wanted (by simp [Region.wanted, yielded, hd]) ?_
                              go_simp
                              exact ParPost.same fun _ _ => rfl
                            · intro vals W hx hd
                              have hW := HF.out W hx
                              simp [PDeps, pdeps, Region.binds, List.idxOf_cons] at hd
                              first
                                | refine ParOb.plain rfl ?_
                                | refine ParOb.wanted (by simp [Region.wanted, yielded, hd]) ?_
                              go_simp
                              exact ParPost.same fun _ _ => rfl
                            · intro vals W hx hd
                              have hW := HF.out W hx
                              simp [PDeps, pdeps, Region.binds, List.idxOf_cons] at hd
                              first
                                | refine ParOb.plain rfl ?_
                                | refine ParOb.wanted (by simp [Region.wanted, yielded, hd]) ?_
                              go_simp
                              exact ParPost.same fun _ _ => rfl
                            · intro vals W hx hd
                              have hW := HF.out W hx
                              simp [PDeps, pdeps, Region.binds, List.idxOf_cons] at hd
                              first
                                | refine ParOb.plain rfl ?_
                                | refine ParOb.wanted (by simp [Region.wanted, yielded, hd]) ?_
                              go_simp
                              refine Calls.mono (markedR_at (.slice pv nv kv) (putM (200 + k) 4 (mkG4 k).2 (rnds rndG k tabF)) (204 + k) 8 (mkG4 k).1 (mkG4 k).2 _ _ _ (by omega) (by omega) rfl (by omega) (by omega) (mkG4_mem k (by omega)) W (HE.out.ext hx) (by have := HLen.out; have := putM_length (200 + k) 4 (mkG4 k).2 (rnds rndG k tabF); omega)) ?_
                              intro e w9 h9
                              exact tab_put h9
                          · simp (maxSteps := 20000000) only [permL, permOp, List.filterMap_cons, List.filterMap_nil, List.getElem?_cons_succ, List.getElem?_cons_zero, Option.map_some, Option.map_none, List.drop_succ_cons, List.drop_zero, List.take_succ_cons, List.take_zero, Nat.reduceSub, ZAll, ParEnd, Act.put, List.setIfInBounds_toArray, List.set_cons_succ, List.set_cons_zero]
                          intro vals W hx hf hz
                          simp (maxSteps := 20000000) only [permL, permOp, List.filterMap_cons, List.filterMap_nil, List.getElem?_cons_succ, List.getElem?_cons_zero, Option.map_some, Option.map_none, ParFacts, List.take_succ_cons, List.take_zero, and_true, Nat.reduceAdd] at hf
                          obtain ⟨f0, f1, f2, f3, f4, f5, f6, f7⟩ := hf
                          clear hz
                          simp (maxSteps := 20000000) only [permL, permOp, List.filterMap_cons, List.filterMap_nil, List.getElem?_cons_succ, List.getElem?_cons_zero, Option.map_some, Option.map_none, List.drop_succ_cons, List.drop_zero, List.take_succ_cons, List.take_zero, Nat.reduceSub, ParEnd, ZTail, Act.put, List.setIfInBounds_toArray, List.set_cons_succ, List.set_cons_zero, Nat.reduceAdd, f0, f1, f2, f3, f4, f5, f6]
                          clear f0 f1 f2 f3 f4 f5 f6
                          generalize vals 7 = y7 at f7 ⊢
                          obtain ⟨s, rfl, hs⟩ := f7
                          obtain ⟨p1, n1, k1, rfl⟩ := hs.slice
                          have HS1 := Lib.hid ((HS0.out.ext hx).put hs)
                          obtain ⟨cq, fq⟩ := (HQ.out.keep hx).facts
                          have hql := (HQ.out.keep hx).lt
                          refine ⟨?_⟩
                          go_simp
                          clear cq fq hql hx HF HQ HE hs
                          generalize W.setCell ⟨q, 0, none⟩ (.slice p1 n1 k1) = W21 at HS1 ⊢
                          clear HBm
                          have HBm := Lib.hid (HS1.out.bl (g4, cs4) (by simp)).1
                          obtain ⟨cm, fm⟩ := HBm.out.facts
                          repeat (first | go_values | go_skip | go_guarded | go_step | go_upon)
                          clear cm fm
                          obtain ⟨v, hq, he⟩ := HS1.out.ex
                          obtain ⟨pv, nv, kv, rfl⟩ := he.slice
                          have HQ := Lib.hid hq
                          have HE := Lib.hid he
                          clear hq he
                          have HF := Lib.hid (show ∀ W, Ext W21 W → (W.cell? ⟨q, 0, none⟩ = some (.slice pv nv kv) ∧ W.cell? ⟨q, 1, none⟩ = none) ∧ W.cell? ⟨g4, k, none⟩ = some (.int .i64 ((mkG4 k).1 : Int)) from fun W hW => ⟨⟨by simpa using (HQ.out.keep hW).cell 0, by simpa using (HQ.out.keep hW).cell 1⟩, by rw [(HBm.out.keep hW).cell]; exact cs4_at k (by omega)⟩)
                          refine wp_parZH [0, 1, 2, 3, 4, 5, 6, 7, 8] 8 8 (fun
                              | 0 => fun v _ => v = .agg #[.slice pv nv kv]
                              | 1 => fun v _ => v = .int .i64 (k : Int)
                              | 2 => fun v _ => v = .int .i64 (217 + (k : Int))
                              | 3 => fun v _ => v = .slice (some ⟨g4, 0, none⟩) 4 4
                              | 4 => fun v _ => v = .int .i64 (k : Int)
                              | 5 => fun v _ => v = .pointer (some ⟨g4, k, none⟩)
                              | 6 => fun v _ => v = .int .i64 ((mkG4 k).1 : Int)
                              | 7 => TabV (putM (217 + k) 20 (mkG4 k).2 (putM (204 + k) 8 (mkG4 k).2 (putM (200 + k) 4 (mkG4 k).2 (rnds rndG k tabF))))
                              | _ => fun _ _ => True) (fun
                              | _ => undef) (by kernel_rfl) (by kernel_rfl) (by kernel_rfl) ?_ ?_ ?_
                          · simp (maxSteps := 20000000) only [permL, permOp, List.filterMap_cons, List.filterMap_nil, List.getElem?_cons_succ, List.getElem?_cons_zero, Option.map_some, Option.map_none, List.take_succ_cons, List.take_zero, ParAll, Act.put, List.setIfInBounds_toArray, List.set_cons_succ, List.set_cons_zero]
                            refine ⟨?_, ?_, ?_, ?_, ?_, ?_, ?_, ?_, trivial⟩
                            · intro vals W hx hd
                              have hW := HF.out W hx
                              simp [PDeps, pdeps, Region.binds, List.idxOf_cons] at hd
                              first
                                | refine ParOb.plain rfl ?_
                                | refine ParOb.wanted (by simp [Region.wanted, yielded, hd]) ?_
                              go_simp
                              exact ParPost.same fun _ _ => rfl
                            · intro vals W hx hd
                              have hW := HF.out W hx
                              simp [PDeps, pdeps, Region.binds, List.idxOf_cons] at hd
                              first
                                | refine ParOb.plain rfl ?_
                                | refine ParOb.wanted (by simp [Region.wanted, yielded, hd]) ?_
                              go_simp
                              exact ParPost.same fun _ _ => rfl
                            · intro vals W hx hd
                              have hW := HF.out W hx
                              simp [PDeps, pdeps, Region.binds, List.idxOf_cons] at hd
                              first
                                | refine ParOb.plain rfl ?_
                                | refine ParOb.wanted (by simp [Region.wanted, yielded, hd]) ?_
                              have hsum := IntWalk.i64_in (217 + (k : Int)) (by omega)
                              go_simp
                              exact ParPost.same fun _ _ => rfl
                            · intro vals W hx hd
                              have hW := HF.out W hx
                              simp [PDeps, pdeps, Region.binds, List.idxOf_cons] at hd
                              first
                                | refine ParOb.plain rfl ?_
                                | refine ParOb.wanted (by simp [Region.wanted, yielded, hd]) ?_
                              go_simp
                              exact ParPost.same fun _ _ => rfl
                            · intro vals W hx hd
                              have hW := HF.out W hx
                              simp [PDeps, pdeps, Region.binds, List.idxOf_cons] at hd
                              first
                                | refine ParOb.plain rfl ?_
                                | refine ParOb.wanted (by simp [Region.wanted, yielded, hd]) ?_
                              go_simp
                              exact ParPost.same fun _ _ => rfl
                            · intro vals W hx hd
                              have hW := HF.out W hx
                              simp [PDeps, pdeps, Region.binds, List.idxOf_cons] at hd
                              first
                                | refine ParOb.plain rfl ?_
                                | refine ParOb.wanted (by simp [Region.wanted, yielded, hd]) ?_
                              go_simp
                              exact ParPost.same fun _ _ => rfl
                            · intro vals W hx hd
                              have hW := HF.out W hx
                              simp [PDeps, pdeps, Region.binds, List.idxOf_cons] at hd
                              first
                                | refine ParOb.plain rfl ?_
                                | refine ParOb.wanted (by simp [Region.wanted, yielded, hd]) ?_
                              go_simp
                              exact ParPost.same fun _ _ => rfl
                            · intro vals W hx hd
                              have hW := HF.out W hx
                              simp [PDeps, pdeps, Region.binds, List.idxOf_cons] at hd
                              first
                                | refine ParOb.plain rfl ?_
                                | refine ParOb.wanted (by simp [Region.wanted, yielded, hd]) ?_
                              go_simp
                              refine Calls.mono (markedR_at (.slice pv nv kv) (putM (204 + k) 8 (mkG4 k).2 (putM (200 + k) 4 (mkG4 k).2 (rnds rndG k tabF))) (217 + k) 20 (mkG4 k).1 (mkG4 k).2 _ _ _ (by omega) (by omega) rfl (by omega) (by omega) (mkG4_mem k (by omega)) W (HE.out.ext hx) (by have := HLen.out; have := putM_length (200 + k) 4 (mkG4 k).2 (rnds rndG k tabF); have := putM_length (204 + k) 8 (mkG4 k).2 (putM (200 + k) 4 (mkG4 k).2 (rnds rndG k tabF)); omega)) ?_
                              intro e w9 h9
                              exact tab_put h9
                          · simp (maxSteps := 20000000) only [permL, permOp, List.filterMap_cons, List.filterMap_nil, List.getElem?_cons_succ, List.getElem?_cons_zero, Option.map_some, Option.map_none, List.drop_succ_cons, List.drop_zero, List.take_succ_cons, List.take_zero, Nat.reduceSub, ZAll, ParEnd, Act.put, List.setIfInBounds_toArray, List.set_cons_succ, List.set_cons_zero]
                          intro vals W hx hf hz
                          simp (maxSteps := 20000000) only [permL, permOp, List.filterMap_cons, List.filterMap_nil, List.getElem?_cons_succ, List.getElem?_cons_zero, Option.map_some, Option.map_none, ParFacts, List.take_succ_cons, List.take_zero, and_true, Nat.reduceAdd] at hf
                          obtain ⟨f0, f1, f2, f3, f4, f5, f6, f7⟩ := hf
                          clear hz
                          simp (maxSteps := 20000000) only [permL, permOp, List.filterMap_cons, List.filterMap_nil, List.getElem?_cons_succ, List.getElem?_cons_zero, Option.map_some, Option.map_none, List.drop_succ_cons, List.drop_zero, List.take_succ_cons, List.take_zero, Nat.reduceSub, ParEnd, ZTail, Act.put, List.setIfInBounds_toArray, List.set_cons_succ, List.set_cons_zero, Nat.reduceAdd, f0, f1, f2, f3, f4, f5, f6]
                          clear f0 f1 f2 f3 f4 f5 f6
                          generalize vals 7 = y7 at f7 ⊢
                          obtain ⟨s, rfl, hs⟩ := f7
                          obtain ⟨p1, n1, k1, rfl⟩ := hs.slice
                          have HS2 := Lib.hid ((HS1.out.ext hx).put hs)
                          obtain ⟨cq, fq⟩ := (HQ.out.keep hx).facts
                          have hql := (HQ.out.keep hx).lt
                          refine ⟨?_⟩
                          go_simp
                          clear cq fq hql hx HF HQ HE hs
                          generalize W.setCell ⟨q, 0, none⟩ (.slice p1 n1 k1) = W22 at HS2 ⊢
                          clear HBm
                          repeat (first | go_values | go_skip | go_guarded | go_step | go_upon)
                          go_roundw
                          case rel => exact ⟨k + 1, by omega, by go_num, HS2.out⟩
                          case measure => simp [intOf]; omega
                        · obtain rfl : k = 4 := by omega
                          rw [show ((4 : Nat) : Int) = 4 from rfl]
                          have HG6 := Lib.hid (show RtMs w wr r q tabG [(g4, cs4), (g6, cs6), (gm, cs8)] from HR.out)
                          clear HR HF6
                          obtain ⟨v, hq, he⟩ := HG6.out.ex
                          obtain ⟨pv, nv, kv, rfl⟩ := he.slice
                          have HQ := Lib.hid hq
                          have HE := Lib.hid he
                          clear hq he
                          obtain ⟨cq, fq⟩ := HQ.out.facts
                          have hql := HQ.out.lt
                          go_wp2_with fail
                          refine Calls.mono (markedR_at (.slice pv nv kv) tabG 209 13 771 45 _ _ _ rfl rfl rfl (by omega) (by omega) (by simp) _ HE.out (by have := lenH; omega)) ?_
                          rintro e w9 ⟨⟨s, rfl, hs⟩, hb9⟩
                          have hx : Ext _ w9 := hb9
                          obtain ⟨p1, n1, k1, rfl⟩ := hs.slice
                          have HH6 := Lib.hid (show RtMs w _ r q tabH [(g4, cs4), (g6, cs6), (gm, cs8)] from (HG6.out.ext hx).put hs)
                          clear cq fq hql
                          obtain ⟨cq, fq⟩ := (HQ.out.keep hx).facts
                          have hql := (HQ.out.keep hx).lt
                          go_simp
                          repeat (first | go_values | go_skip | go_guarded | go_step | go_upon)
                          clear cq fq hql hx HQ HE hs hb9
                          generalize w9.setCell ⟨q, 0, none⟩ (.slice p1 n1 k1) = W8 at HH6 ⊢
                          repeat (first | go_values | go_skip | go_guarded | go_step | go_upon)
                          go_loopw [11] (fun i wr => ∃ k : Nat, k ≤ 5 ∧ i = .int .i64 k ∧ RtMs w wr r q (rnds rndI k tabH) [(g4, cs4), (g6, cs6), (gm, cs8)]) (fun i _ => 5 - (intOf i).toNat)
                          case atStart => exact ⟨0, by omega, rfl, HH6.out⟩
                          case round =>
                            obtain ⟨k, hk, rfl, hst⟩ := hrel
                            have HR := Lib.hid hst
                            clear hst
                            by_cases hlt : k < 5
                            · have hltI : (k : Int) < 5 := by omega
                              have HLen := Lib.hid (lenI k (by omega))
                              have hlt6 : (k : Int) < 6 := by omega
                              have HBm := Lib.hid (HR.out.bl (g6, cs6) (by simp)).1
                              obtain ⟨cm, fm⟩ := HBm.out.facts
                              go_wp2_with fail
                              clear cm fm
                              obtain ⟨v, hq, he⟩ := HR.out.ex
                              obtain ⟨pv, nv, kv, rfl⟩ := he.slice
                              have HQ := Lib.hid hq
                              have HE := Lib.hid he
                              clear hq he
                              have HF := Lib.hid (show ∀ W, Ext wr W → (W.cell? ⟨q, 0, none⟩ = some (.slice pv nv kv) ∧ W.cell? ⟨q, 1, none⟩ = none) ∧ W.cell? ⟨g6, k, none⟩ = some (.int .i64 ((mkE6 k).1 : Int)) from fun W hW => ⟨⟨by simpa using (HQ.out.keep hW).cell 0, by simpa using (HQ.out.keep hW).cell 1⟩, by rw [(HBm.out.keep hW).cell]; exact cs6_at k (by omega)⟩)
                              refine wp_parZH [0, 1, 2, 3, 4, 5, 6, 7, 8] 8 8 (fun
                                  | 0 => fun v _ => v = .agg #[.slice pv nv kv]
                                  | 1 => fun v _ => v = .int .i64 (k : Int)
                                  | 2 => fun v _ => v = .int .i64 (210 + (k : Int))
                                  | 3 => fun v _ => v = .slice (some ⟨g6, 0, none⟩) 6 6
                                  | 4 => fun v _ => v = .int .i64 (k : Int)
                                  | 5 => fun v _ => v = .pointer (some ⟨g6, k, none⟩)
                                  | 6 => fun v _ => v = .int .i64 ((mkE6 k).1 : Int)
                                  | 7 => TabV (putM (210 + k) 14 (mkE6 k).2 (rnds rndI k tabH))
                                  | _ => fun _ _ => True) (fun
                                  | _ => undef) (by kernel_rfl) (by kernel_rfl) (by kernel_rfl) ?_ ?_ ?_
                              · simp (maxSteps := 20000000) only [permL, permOp, List.filterMap_cons, List.filterMap_nil, List.getElem?_cons_succ, List.getElem?_cons_zero, Option.map_some, Option.map_none, List.take_succ_cons, List.take_zero, ParAll, Act.put, List.setIfInBounds_toArray, List.set_cons_succ, List.set_cons_zero]
                                refine ⟨?_, ?_, ?_, ?_, ?_, ?_, ?_, ?_, trivial⟩
                                · intro vals W hx hd
                                  have hW := HF.out W hx
                                  simp [PDeps, pdeps, Region.binds, List.idxOf_cons] at hd
                                  first
                                    | refine ParOb.plain rfl ?_
                                    | refine ParOb.wanted (by simp [Region.wanted, yielded, hd]) ?_
                                  go_simp
                                  exact ParPost.same fun _ _ => rfl
                                · intro vals W hx hd
                                  have hW := HF.out W hx
                                  simp [PDeps, pdeps, Region.binds, List.idxOf_cons] at hd
                                  first
                                    | refine ParOb.plain rfl ?_
                                    | refine ParOb.wanted (by simp [Region.wanted, yielded, hd]) ?_
                                  go_simp
                                  exact ParPost.same fun _ _ => rfl
                                · intro vals W hx hd
                                  have hW := HF.out W hx
                                  simp [PDeps, pdeps, Region.binds, List.idxOf_cons] at hd
                                  first
                                    | refine ParOb.plain rfl ?_
                                    | refine ParOb.wanted (by simp [Region.wanted, yielded, hd]) ?_
                                  have hsum := IntWalk.i64_in (210 + (k : Int)) (by omega)
                                  go_simp
                                  exact ParPost.same fun _ _ => rfl
                                · intro vals W hx hd
                                  have hW := HF.out W hx
                                  simp [PDeps, pdeps, Region.binds, List.idxOf_cons] at hd
                                  first
                                    | refine ParOb.plain rfl ?_
                                    | refine ParOb.wanted (by simp [Region.wanted, yielded, hd]) ?_
                                  go_simp
                                  exact ParPost.same fun _ _ => rfl
                                · intro vals W hx hd
                                  have hW := HF.out W hx
                                  simp [PDeps, pdeps, Region.binds, List.idxOf_cons] at hd
                                  first
                                    | refine ParOb.plain rfl ?_
                                    | refine ParOb.wanted (by simp [Region.wanted, yielded, hd]) ?_
                                  go_simp
                                  exact ParPost.same fun _ _ => rfl
                                · intro vals W hx hd
                                  have hW := HF.out W hx
                                  simp [PDeps, pdeps, Region.binds, List.idxOf_cons] at hd
                                  first
                                    | refine ParOb.plain rfl ?_
                                    | refine ParOb.wanted (by simp [Region.wanted, yielded, hd]) ?_
                                  go_simp
                                  exact ParPost.same fun _ _ => rfl
                                · intro vals W hx hd
                                  have hW := HF.out W hx
                                  simp [PDeps, pdeps, Region.binds, List.idxOf_cons] at hd
                                  first
                                    | refine ParOb.plain rfl ?_
                                    | refine ParOb.wanted (by simp [Region.wanted, yielded, hd]) ?_
                                  go_simp
                                  exact ParPost.same fun _ _ => rfl
                                · intro vals W hx hd
                                  have hW := HF.out W hx
                                  simp [PDeps, pdeps, Region.binds, List.idxOf_cons] at hd
                                  first
                                    | refine ParOb.plain rfl ?_
                                    | refine ParOb.wanted (by simp [Region.wanted, yielded, hd]) ?_
                                  go_simp
                                  refine Calls.mono (markedR_at (.slice pv nv kv) (rnds rndI k tabH) (210 + k) 14 (mkE6 k).1 (mkE6 k).2 _ _ _ (by omega) (by omega) rfl (by omega) (by omega) (mkE6_mem k (by omega)) W (HE.out.ext hx) (by have := HLen.out; omega)) ?_
                                  intro e w9 h9
                                  exact tab_put h9
                              · simp (maxSteps := 20000000) only [permL, permOp, List.filterMap_cons, List.filterMap_nil, List.getElem?_cons_succ, List.getElem?_cons_zero, Option.map_some, Option.map_none, List.drop_succ_cons, List.drop_zero, List.take_succ_cons, List.take_zero, Nat.reduceSub, ZAll, ParEnd, Act.put, List.setIfInBounds_toArray, List.set_cons_succ, List.set_cons_zero]
                              intro vals W hx hf hz
                              simp (maxSteps := 20000000) only [permL, permOp, List.filterMap_cons, List.filterMap_nil, List.getElem?_cons_succ, List.getElem?_cons_zero, Option.map_some, Option.map_none, ParFacts, List.take_succ_cons, List.take_zero, and_true, Nat.reduceAdd] at hf
                              obtain ⟨f0, f1, f2, f3, f4, f5, f6, f7⟩ := hf
                              clear hz
                              simp (maxSteps := 20000000) only [permL, permOp, List.filterMap_cons, List.filterMap_nil, List.getElem?_cons_succ, List.getElem?_cons_zero, Option.map_some, Option.map_none, List.drop_succ_cons, List.drop_zero, List.take_succ_cons, List.take_zero, Nat.reduceSub, ParEnd, ZTail, Act.put, List.setIfInBounds_toArray, List.set_cons_succ, List.set_cons_zero, Nat.reduceAdd, f0, f1, f2, f3, f4, f5, f6]
                              clear f0 f1 f2 f3 f4 f5 f6
                              generalize vals 7 = y7 at f7 ⊢
                              obtain ⟨s, rfl, hs⟩ := f7
                              obtain ⟨p1, n1, k1, rfl⟩ := hs.slice
                              have HS := Lib.hid ((HR.out.ext hx).put hs)
                              obtain ⟨cq, fq⟩ := (HQ.out.keep hx).facts
                              have hql := (HQ.out.keep hx).lt
                              refine ⟨?_⟩
                              go_simp
                              clear cq fq hql hx HF HQ HE hs
                              generalize W.setCell ⟨q, 0, none⟩ (.slice p1 n1 k1) = W1 at HS ⊢
                              repeat (first | go_values | go_skip | go_guarded | go_step | go_upon)
                              go_roundw
                              case rel => exact ⟨k + 1, by omega, by go_num, HS.out⟩
                              case measure => simp [intOf]; omega
                            · obtain rfl : k = 5 := by omega
                              rw [show ((5 : Nat) : Int) = 5 from rfl]
                              have HI6 := Lib.hid (show RtMs w wr r q tabI [(g4, cs4), (g6, cs6), (gm, cs8)] from HR.out)
                              clear HR HH6
                              obtain ⟨v, hq, he⟩ := HI6.out.ex
                              obtain ⟨pv, nv, kv, rfl⟩ := he.slice
                              have HQ := Lib.hid hq
                              have HE := Lib.hid he
                              clear hq he
                              obtain ⟨cq, fq⟩ := HQ.out.facts
                              have hql := HQ.out.lt
                              go_wp2_with fail
                              refine Calls.mono (markedR_at (.slice pv nv kv) tabI 221 24 769 36 _ _ _ rfl rfl rfl (by omega) (by omega) (by simp) _ HE.out (by have := lenK; omega)) ?_
                              rintro e w9 ⟨⟨s, rfl, hs⟩, hb9⟩
                              have hx : Ext _ w9 := hb9
                              obtain ⟨p1, n1, k1, rfl⟩ := hs.slice
                              have HJ6 := Lib.hid (show RtMs w _ r q tabJ [(g4, cs4), (g6, cs6), (gm, cs8)] from (HI6.out.ext hx).put hs)
                              clear cq fq hql
                              obtain ⟨cq, fq⟩ := (HQ.out.keep hx).facts
                              have hql := (HQ.out.keep hx).lt
                              go_simp
                              repeat (first | go_values | go_skip | go_guarded | go_step | go_upon)
                              clear cq fq hql hx HQ HE hs hb9
                              generalize w9.setCell ⟨q, 0, none⟩ (.slice p1 n1 k1) = W9 at HJ6 ⊢
                              have KL := Lib.hid (letterR_at 18 115 rfl (by omega))
                              rw [show elV (low 18 2) = .agg #[.int .i64 400, .int .i64 32, .int .i64 2, .bool false] from rfl] at KL
                              refine Calls.mono (KL.out _) ?_
                              rintro e wa ⟨rfl, hba⟩
                              have HXa := Lib.hid ((show Ext W9 wa from hba))
                              clear hba KL
                              go_simp
                              repeat (first | go_values | go_skip | go_guarded | go_step | go_upon)
                              have KL := Lib.hid (letterR_at 0 97 rfl (by omega))
                              rw [show elV (low 0 2) = .agg #[.int .i64 256, .int .i64 32, .int .i64 2, .bool false] from rfl] at KL
                              refine Calls.mono (KL.out _) ?_
                              rintro e wb ⟨rfl, hbb⟩
                              have HXb := Lib.hid (Ext.trans HXa.out hbb)
                              clear hbb KL
                              go_simp
                              repeat (first | go_values | go_skip | go_guarded | go_step | go_upon)
                              have KL := Lib.hid (letterR_at 4 101 rfl (by omega))
                              rw [show elV (low 4 2) = .agg #[.int .i64 288, .int .i64 32, .int .i64 2, .bool false] from rfl] at KL
                              refine Calls.mono (KL.out _) ?_
                              rintro e wc ⟨rfl, hbc⟩
                              have HXc := Lib.hid (Ext.trans HXb.out hbc)
                              clear hbc KL
                              have HW := Lib.hid (HJ6.out.ext HXc.out).st
                              clear HJ6 HXa HXb HXc
                              obtain ⟨v, hq, he⟩ := HW.out.ex
                              obtain ⟨pv, nv, kv, rfl⟩ := he.slice
                              have HQ := Lib.hid hq
                              have HE := Lib.hid he
                              clear hq he
                              obtain ⟨cq, fq⟩ := HQ.out.facts
                              have hql := HQ.out.lt
                              have hqB := HW.out.hq
                              have c3 : ∀ o1 o2 o3 o, (((wc.alloc o1).alloc o2).alloc o3).cell? ⟨q, o, none⟩ = #[Value.slice pv nv kv][o]? := fun o1 o2 o3 => (((HQ.out.alloc o1).alloc o2).alloc o3).cell
                              go_simp
                              repeat (first | go_values | go_skip | go_guarded | go_step | go_upon)
                              clear c3
                              refine Calls.mono (putR_any (.slice pv nv kv) _ _ tabJ 223 [low 18 4, low 18 4] _ (HE.out.ext (((((Ext.refl _).alloc _).alloc _).alloc _).alloc _ |>.alloc _)) ((seq_newAt (by simp)).ext ((Ext.refl _).alloc _)) (els_newAt [low 18 4, low 18 4] (by simp)) (by have := lenK; omega) (by simp)) ?_
                              rintro e wd ⟨⟨s, rfl, hs⟩, hbd⟩
                              have hx5 := Ext.trans (((Ext.refl (((wc.alloc (.cells #[.int .i64 400, .int .i64 32, .int .i64 4, .bool false] 159)).alloc (.cells #[.int .i64 256, .int .i64 32, .int .i64 4, .bool false] 159)).alloc (.cells #[.int .i64 288, .int .i64 32, .int .i64 4, .bool false] 159))).alloc _).alloc _) hbd
                              have hx := Ext.trans ((((Ext.refl wc).alloc _).alloc _).alloc _) hx5
                              have hA := (((Blk.new (wc.alloc (.cells #[.int .i64 400, .int .i64 32, .int .i64 4, .bool false] 159)) #[.int .i64 256, .int .i64 32, .int .i64 4, .bool false] 159 (n := wc.heap.size + 1) (by simp)).alloc (.cells #[.int .i64 288, .int .i64 32, .int .i64 4, .bool false] 159)).keep hx5)
                              have hE := ((Blk.new ((wc.alloc (.cells #[.int .i64 400, .int .i64 32, .int .i64 4, .bool false] 159)).alloc (.cells #[.int .i64 256, .int .i64 32, .int .i64 4, .bool false] 159)) #[.int .i64 288, .int .i64 32, .int .i64 4, .bool false] 159 (n := wc.heap.size + 1 + 1) (by simp)).keep hx5)
                              obtain ⟨p1, n1, k1, rfl⟩ := hs.slice
                              have HK1 := Lib.hid (show RtSt w _ r q tabK1 from (HW.out.ext hx).put hs)
                              have HA1 := Lib.hid (hA.other (a := ⟨q, 0, none⟩) (show wc.heap.size + 1 ≠ q by omega) (.slice p1 n1 k1))
                              have HE1 := Lib.hid (hE.other (a := ⟨q, 0, none⟩) (show wc.heap.size + 1 + 1 ≠ q by omega) (.slice p1 n1 k1))
                              have hgq : q < wc.heap.size + 1 := by omega
                              have hgw : w.heap.size ≤ wc.heap.size := HW.out.below.size
                              clear cq fq
                              obtain ⟨cq, fq⟩ := (HQ.out.keep hx).facts
                              have hql2 := (HQ.out.keep hx).lt
                              have HQ1 := Lib.hid (show Blk (wd.setCell ⟨q, 0, none⟩ (.slice p1 n1 k1)) q #[.slice p1 n1 k1] 28 by simpa using (HQ.out.keep hx).set 0 (.slice p1 n1 k1))
                              clear hx hx5 hbd hA hE HQ HE HW
                              have hgne : wc.heap.size + 1 ≠ wc.heap.size + 1 + 1 := by omega
                              have hgae : q < wc.heap.size + 1 + 1 := by omega
                              generalize hge : wc.heap.size + 1 + 1 = ge at *
                              generalize hga : wc.heap.size + 1 = ga at *
                              obtain ⟨ca, fa⟩ := HA1.out.facts
                              obtain ⟨ce, fe⟩ := HE1.out.facts
                              obtain ⟨cq1, fq1⟩ := HQ1.out.facts
                              have la := HA1.out.lt
                              have le := HE1.out.lt
                              have lq := HQ1.out.lt
                              have ca' : ∀ o1 o, ((wd.setCell ⟨q, 0, none⟩ (.slice p1 n1 k1)).alloc o1).cell? ⟨ga, o, none⟩ = #[Value.int .i64 256, .int .i64 32, .int .i64 4, .bool false][o]? := fun o1 => (HA1.out.alloc o1).cell
                              have ce' : ∀ o1 o, ((wd.setCell ⟨q, 0, none⟩ (.slice p1 n1 k1)).alloc o1).cell? ⟨ge, o, none⟩ = #[Value.int .i64 288, .int .i64 32, .int .i64 4, .bool false][o]? := fun o1 => (HE1.out.alloc o1).cell
                              go_simp
                              repeat (first | go_values | go_skip | go_guarded | go_step | go_upon)
                              clear ca fa ce fe cq1 fq1 la le lq ca' ce' cq fq hql hql2
                              have hsz : (wd.setCell ⟨q, 0, none⟩ (.slice p1 n1 k1)).heap.size = wd.heap.size := by simp
                              generalize wd.setCell ⟨q, 0, none⟩ (.slice p1 n1 k1) = W10 at HK1 HA1 HE1 HQ1 hsz ⊢
                              obtain ⟨v1, hv1, he1⟩ := HK1.out.ex
                              obtain rfl : v1 = .slice p1 n1 k1 := by have := hv1.cell 0; rw [HQ1.out.cell 0] at this; simpa using this.symm
                              have HEn := Lib.hid he1
                              clear hv1 he1
                              refine Calls.mono (putR_any (.slice p1 n1 k1) _ _ tabK1 230 [low 0 4, low 4 4] _ (HEn.out.ext (((Ext.refl _).alloc _).alloc _)) ((seq_newAt (w := W10) hsz.symm).ext ((Ext.refl _).alloc _)) (els_newAt [low 0 4, low 4 4] (by simp [hsz])) (by have := lenK; omega) (by simp)) ?_
                              rintro e w2 ⟨⟨s, rfl, hs⟩, hb2⟩
                              have hx := Ext.trans (((Ext.refl W10).alloc _).alloc _) hb2
                              obtain ⟨p2, n2, k2, rfl⟩ := hs.slice
                              have HK2 := Lib.hid (show RtSt w _ r q tabK2 from (HK1.out.ext hx).put hs)
                              have HA2 := Lib.hid ((HA1.out.keep hx).other (a := ⟨q, 0, none⟩) (show ga ≠ q by omega) (.slice p2 n2 k2))
                              have HE2 := Lib.hid ((HE1.out.keep hx).other (a := ⟨q, 0, none⟩) (show ge ≠ q by omega) (.slice p2 n2 k2))
                              have HQ2 := Lib.hid (show Blk (w2.setCell ⟨q, 0, none⟩ (.slice p2 n2 k2)) q #[.slice p2 n2 k2] 28 by simpa using (HQ1.out.keep hx).set 0 (.slice p2 n2 k2))
                              obtain ⟨cq, fq⟩ := (HQ1.out.keep hx).facts
                              have hql := (HQ1.out.keep hx).lt
                              clear HK1 HA1 HE1 hx hb2 hs HEn
                              obtain ⟨ca, fa⟩ := HA2.out.facts
                              have la := HA2.out.lt
                              have HA3 := Lib.hid (show Blk ((w2.setCell ⟨q, 0, none⟩ (.slice p2 n2 k2)).setCell ⟨ga, 2, none⟩ (.int .i64 10)) ga #[.int .i64 256, .int .i64 32, .int .i64 10, .bool false] 159 by simpa using HA2.out.set 2 (.int .i64 10))
                              have HE3 := Lib.hid (HE2.out.other (a := ⟨ga, 2, none⟩) (show ge ≠ ga by omega) (.int .i64 10))
                              obtain ⟨ce, fe⟩ := HE3.out.facts
                              have le := HE3.out.lt
                              have HK3 := Lib.hid (HK2.out.setEl (e := low 0 4) (x := .int .i64 10) (show Blk _ ga #[.int .i64 ((low 0 4).p : Int), .int .i64 ((low 0 4).s : Int), .int .i64 ((low 0 4).t : Int), .bool (low 0 4).v] 159 from HA2.out) tabK2_a (by omega) (by omega) (by omega))
                              have HK4 := Lib.hid (HK3.out.setEl (e := low 4 4) (x := .int .i64 10) (show Blk _ ge #[.int .i64 ((low 4 4).p : Int), .int .i64 ((low 4 4).s : Int), .int .i64 ((low 4 4).t : Int), .bool (low 4 4).v] 159 from HE3.out) tabK2_e (by omega) (by omega) (by omega))
                              have HA4 := Lib.hid (HA3.out.other (a := ⟨ge, 2, none⟩) (show ga ≠ ge by omega) (.int .i64 10))
                              have HE4 := Lib.hid (show Blk (((w2.setCell ⟨q, 0, none⟩ (.slice p2 n2 k2)).setCell ⟨ga, 2, none⟩ (.int .i64 10)).setCell ⟨ge, 2, none⟩ (.int .i64 10)) ge #[.int .i64 288, .int .i64 32, .int .i64 10, .bool false] 159 by simpa using HE3.out.set 2 (.int .i64 10))
                              have HQ4 := Lib.hid ((HQ2.out.other (a := ⟨ga, 2, none⟩) (show q ≠ ga by omega) (.int .i64 10)).other (a := ⟨ge, 2, none⟩) (show q ≠ ge by omega) (.int .i64 10))
                              obtain ⟨cq4, fq4⟩ := HQ4.out.facts
                              have ca4 : ∀ o1 o, ((((w2.setCell ⟨q, 0, none⟩ (.slice p2 n2 k2)).setCell ⟨ga, 2, none⟩ (.int .i64 10)).setCell ⟨ge, 2, none⟩ (.int .i64 10)).alloc o1).cell? ⟨ga, o, none⟩ = #[Value.int .i64 256, .int .i64 32, .int .i64 10, .bool false][o]? := fun o1 => (HA4.out.alloc o1).cell
                              have ce4 : ∀ o1 o, ((((w2.setCell ⟨q, 0, none⟩ (.slice p2 n2 k2)).setCell ⟨ga, 2, none⟩ (.int .i64 10)).setCell ⟨ge, 2, none⟩ (.int .i64 10)).alloc o1).cell? ⟨ge, o, none⟩ = #[Value.int .i64 288, .int .i64 32, .int .i64 10, .bool false][o]? := fun o1 => (HE4.out.alloc o1).cell
                              go_simp
                              repeat (first | go_values | go_skip | go_guarded | go_step | go_upon)
                              clear ca fa ce fe la le cq4 fq4 ca4 ce4 cq fq hql HA2 HE2 HQ2 HA3 HE3 HA4 HE4 HK2 HK3
                              have hsz4 : (((w2.setCell ⟨q, 0, none⟩ (.slice p2 n2 k2)).setCell ⟨ga, 2, none⟩ (.int .i64 10)).setCell ⟨ge, 2, none⟩ (.int .i64 10)).heap.size = w2.heap.size := by simp
                              generalize ((w2.setCell ⟨q, 0, none⟩ (.slice p2 n2 k2)).setCell ⟨ga, 2, none⟩ (.int .i64 10)).setCell ⟨ge, 2, none⟩ (.int .i64 10) = W12 at HK4 HQ4 hsz4 ⊢
                              obtain ⟨v1, hv1, he1⟩ := HK4.out.ex
                              obtain rfl : v1 = .slice p2 n2 k2 := by have := hv1.cell 0; rw [HQ4.out.cell 0] at this; simpa using this.symm
                              have HEn := Lib.hid he1
                              clear hv1 he1
                              refine Calls.mono (putR_any (.slice p2 n2 k2) _ _ tabK2 198 [low 0 10, low 4 10] _ (HEn.out.ext (((Ext.refl _).alloc _).alloc _)) ((seq_newAt (w := W12) hsz4.symm).ext ((Ext.refl _).alloc _)) (els_newAt [low 0 10, low 4 10] (by simp [hsz4])) (by have := lenK; omega) (by simp)) ?_
                              rintro e w3 ⟨⟨s, rfl, hs⟩, hb3⟩
                              have hx := Ext.trans (((Ext.refl W12).alloc _).alloc _) hb3
                              obtain ⟨p3, n3, k3, rfl⟩ := hs.slice
                              have HK5 := Lib.hid (show RtSt w _ r q tabK3 from (HK4.out.ext hx).put hs)
                              have HQ5 := Lib.hid (show Blk (w3.setCell ⟨q, 0, none⟩ (.slice p3 n3 k3)) q #[.slice p3 n3 k3] 28 by simpa using (HQ4.out.keep hx).set 0 (.slice p3 n3 k3))
                              obtain ⟨cq, fq⟩ := (HQ4.out.keep hx).facts
                              have hql := (HQ4.out.keep hx).lt
                              obtain ⟨cq5, fq5⟩ := HQ5.out.facts
                              clear HK4 hx hb3 hs HEn
                              go_simp
                              repeat (first | go_values | go_skip | go_guarded | go_step | go_upon)
                              clear cq5 fq5 cq fq hql
                              have hsz5 : (w3.setCell ⟨q, 0, none⟩ (.slice p3 n3 k3)).heap.size = w3.heap.size := by simp
                              generalize w3.setCell ⟨q, 0, none⟩ (.slice p3 n3 k3) = W13 at HK5 HQ5 hsz5 ⊢
                              obtain ⟨v1, hv1, he1⟩ := HK5.out.ex
                              obtain rfl : v1 = .slice p3 n3 k3 := by have := hv1.cell 0; rw [HQ5.out.cell 0] at this; simpa using this.symm
                              have HEn := Lib.hid he1
                              clear hv1 he1
                              refine Calls.mono (putR_any (.slice p3 n3 k3) _ _ tabK3 173 [] _ (HEn.out.ext ((Ext.refl _).alloc _)) (seq_newAt (w := W13) hsz5.symm) (.inl ⟨rfl, rfl, rfl⟩) (by have := lenK; omega) (by simp)) ?_
                              rintro e w4 ⟨⟨s, rfl, hs⟩, hb4⟩
                              have hx := Ext.trans ((Ext.refl W13).alloc _) hb4
                              obtain ⟨p4, n4, k4, rfl⟩ := hs.slice
                              have hR := HK5.out.res.keep hx
                              have HE9 := Lib.hid (hs.set (x := .slice p4 n4 k4) hR ⟨_, _, _, rfl⟩)
                              have HR9 := Lib.hid (show Blk (w4.setCell ⟨r, 0, none⟩ (.slice p4 n4 k4)) r #[.slice p4 n4 k4] 28 by simpa using hR.set 0 (.slice p4 n4 k4))
                              have HB9 := Lib.hid ((HK5.out.ext hx).below.setCell (p := ⟨r, 0, none⟩) HK5.out.hr (.slice p4 n4 k4))
                              obtain ⟨cr, fr⟩ := hR.facts
                              have hrl := hR.lt
                              clear hR hs hb4 hx HK5 HQ5
                              go_simp
                              repeat (first | go_values | go_skip | go_guarded | go_step | go_upon)
                              refine bodyPost_ret (ret_tab rfl _ rfl rfl HR9.out) rfl ?_
                              exact ⟨⟨_, rfl, by rw [← tabK]; exact HE9.out⟩, HB9.out⟩
end Y
end Go.Proofs.YtipokgedmfnlaaaGreatDoor
