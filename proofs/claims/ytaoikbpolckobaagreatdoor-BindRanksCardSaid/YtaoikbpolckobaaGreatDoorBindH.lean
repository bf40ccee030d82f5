/-
  The statements' columns (umlautlaw20.Fields).
-/
import Derived.Test.YtaoikbpolckobaaGreatDoorBindG
import Derived.Test.YtaoikbpolckobaaGreatDoorTrieE
import Derived.Test.YtaoikbpolckobaaGreatDoorParY
import Derived.Great.BuildSlice
namespace Go.Proofs.YtaoikbpolckobaaGreatDoor
open Go.RowKit
set_option maxRecDepth 100000

def bs (l : List UInt8) : ByteArray := ⟨l.toArray⟩
def noC : ByteArray := ⟨#[110, 111, 99, 97, 115, 101]⟩
def rooC : ByteArray := ⟨#[114, 111, 111, 116]⟩
/-- The seven columns. -/
def fds : List FdR :=
  [⟨⟨#[116]⟩, ⟨#[97]⟩, binS, 2⟩, ⟨⟨#[116]⟩, ⟨#[98]⟩, binS, 3⟩, ⟨⟨#[116]⟩, ⟨#[99]⟩, noC, 3⟩, ⟨⟨#[116]⟩, ⟨#[100]⟩, rooC, 3⟩, ⟨⟨#[116]⟩, ⟨#[101]⟩, binS, 1⟩, ⟨⟨#[117]⟩, ⟨#[97]⟩, binS, 2⟩, ⟨⟨#[117]⟩, ⟨#[102]⟩, noC, 3⟩]
def fcs (l : List FdR) : List Value := l.flatMap fun x => [.string x.tb, .string x.nm, .string x.cl, .int .i64 x.ty]
def oneFd (x : FdR) (v : Value) (w : World) : Prop := ∃ g, v = .slice (some ⟨g, 0, none⟩) 1 1 ∧ Blk w g x.cells 51
theorem infoFd : (Tryz.prog.info? 51).map (fun i => (i.zero, i.size, i.bytes)) = some (some (.agg #[.string ⟨#[]⟩, .string ⟨#[]⟩, .string ⟨#[]⟩, .int .i64 0]), 4, 56) := by kernel_rfl
def c28 : Array Value := (fcs fds).toArray
namespace Y
set_option maxHeartbeats 8000000 in
theorem fields_any (w : World) : Calls Tryz.prog 15 #[] w fun e w' => (∃ g c v2, e = .returned (.tuple #[.slice (some ⟨g, 0, none⟩) 7 c, v2]) ∧ FldsAt w' g fds) ∧ Below w.heap.size w w' := by
  go_enter Tryz.func15, Tryz.ntmps15
  go_wp2_with fail
  have hA : Blk (w.alloc (.cells c28 126)) w.heap.size c28 126 := Blk.new w _ _ rfl
  have hb0 : Below w.heap.size w (w.alloc (.cells c28 126)) := by go_grown
  have e0 : (#[.string ⟨#[116]⟩, .string ⟨#[97]⟩, .string ⟨#[98, 105, 110, 97, 114, 121]⟩, .int .i64 2, .string ⟨#[116]⟩, .string ⟨#[98]⟩, .string ⟨#[98, 105, 110, 97, 114, 121]⟩, .int .i64 3, .string ⟨#[116]⟩, .string ⟨#[99]⟩, .string ⟨#[110, 111, 99, 97, 115, 101]⟩, .int .i64 3, .string ⟨#[116]⟩, .string ⟨#[100]⟩, .string ⟨#[114, 111, 111, 116]⟩, .int .i64 3, .string ⟨#[116]⟩, .string ⟨#[101]⟩, .string ⟨#[98, 105, 110, 97, 114, 121]⟩, .int .i64 1, .string ⟨#[117]⟩, .string ⟨#[97]⟩, .string ⟨#[98, 105, 110, 97, 114, 121]⟩, .int .i64 2, .string ⟨#[117]⟩, .string ⟨#[102]⟩, .string ⟨#[110, 111, 99, 97, 115, 101]⟩, .int .i64 3] : Array Value) = c28 := rfl
  rw [e0]
  clear e0
  generalize w.alloc (.cells c28 126) = W0 at hA hb0 ⊢
  go_loopw [3, 4] (fun v i W => ∃ j : Nat, j ≤ 7 ∧ i = .int .i64 j ∧ W.ownsRow (w.heap.size + 1) 51 4 v j (fcs (fds.take j)) ∧ Blk W w.heap.size c28 126 ∧ Below w.heap.size w W) (fun _ i _ => 7 - (intOf i).toNat)
  case atStart => exact ⟨0, by omega, rfl, World.ownsRow_nil _ _ _ _, hA, hb0⟩
  case round =>
    obtain ⟨j, hj, rfl, hown, hN, hX⟩ := hrel
    have HO := Lib.hid hown
    have HN := Lib.hid hN
    have HX := Lib.hid hX
    clear hown hA hb0 hX
    by_cases hlt : j < 7
    · obtain ⟨x, hx⟩ : ∃ x, fds[j]? = some x := ⟨_, List.getElem?_eq_getElem (show j < fds.length from hlt)⟩
      have hcs : ∀ i, i < 4 → c28[j * 4 + i]? = x.cells[i]? := fun i hi => by
        have := flat_get (fun x : FdR => [Value.string x.tb, .string x.nm, .string x.cl, .int .i64 x.ty]) 4 (fun _ => rfl) fds j x hx i hi
        rw [c28, List.getElem?_toArray]
        exact this.trans (by simp [FdR.cells])
      have c0 := hcs 0 (by decide)
      have c1 := hcs 1 (by decide)
      have c2 := hcs 2 (by decide)
      have c3 := hcs 3 (by decide)
      have HI := Lib.hid hx
      obtain ⟨xt, xn, xc, xty⟩ := x
      simp only [Nat.add_zero] at c0
      have HF := Lib.hid (show ∀ W, Ext wr W → W.cell? ⟨w.heap.size, j * 4, none⟩ = some (.string xt) ∧ W.cell? ⟨w.heap.size, j * 4 + 1, none⟩ = some (.string xn) ∧ W.cell? ⟨w.heap.size, j * 4 + 2, none⟩ = some (.string xc) ∧ W.cell? ⟨w.heap.size, j * 4 + 3, none⟩ = some (.int .i64 xty) from
        fun W hW => by have hc := (HN.out.keep hW).cell; exact ⟨(hc _).trans c0, (hc _).trans c1, (hc _).trans c2, (hc _).trans c3⟩)
      clear hcs hx c0 c1 c2 c3 hN
      generalize hvo : (u3 : Value) = vo at *
      go_wp2_with fail
      refine wp_parZ [1, 2, 3, 4, 5, 6, 7, 8, 9, 10, 11, 12, 13, 14, 15, 16, 17, 18, 19, 20, 21, 22, 0, 23, 24] 22 23 (fun
          | 0 => fun v _ => v = .slice (some ⟨w.heap.size, 0, none⟩) 7 7
          | 1 => fun v _ => v = .int .i64 j
          | 2 => fun v _ => v = .pointer (some ⟨w.heap.size, j * 4, none⟩)
          | 3 => fun v _ => v = .pointer (some ⟨w.heap.size, j * 4, none⟩)
          | 4 => fun v _ => v = .string xt
          | 5 => fun v _ => v = .slice (some ⟨w.heap.size, 0, none⟩) 7 7
          | 6 => fun v _ => v = .int .i64 j
          | 7 => fun v _ => v = .pointer (some ⟨w.heap.size, j * 4, none⟩)
          | 8 => fun v _ => v = .pointer (some ⟨w.heap.size, j * 4 + 1, none⟩)
          | 9 => fun v _ => v = .string xn
          | 10 => fun v _ => v = .slice (some ⟨w.heap.size, 0, none⟩) 7 7
          | 11 => fun v _ => v = .int .i64 j
          | 12 => fun v _ => v = .pointer (some ⟨w.heap.size, j * 4, none⟩)
          | 13 => fun v _ => v = .pointer (some ⟨w.heap.size, j * 4 + 2, none⟩)
          | 14 => fun v _ => v = .string xc
          | 15 => fun v _ => v = .slice (some ⟨w.heap.size, 0, none⟩) 7 7
          | 16 => fun v _ => v = .int .i64 j
          | 17 => fun v _ => v = .pointer (some ⟨w.heap.size, j * 4, none⟩)
          | 18 => fun v _ => v = .pointer (some ⟨w.heap.size, j * 4 + 3, none⟩)
          | 19 => fun v _ => v = .int .i64 xty
          | 20 => fun v _ => v = .agg #[.string xt, .string xn, .string xc, .int .i64 xty]
          | 21 => oneFd ⟨xt, xn, xc, xty⟩
          | _ => fun _ _ => True) (fun
          | 22 => vo
          | _ => undef) (by kernel_rfl) (by kernel_rfl) (by kernel_rfl) ?_ ?_ ?_
      · simp (maxSteps := 20000000) only [permL, permOp, List.filterMap_cons, List.filterMap_nil, List.getElem?_cons_succ, List.getElem?_cons_zero, Option.map_some, Option.map_none, List.take_succ_cons, List.take_zero, ParAll, Act.put, List.setIfInBounds_toArray, List.set_cons_succ, List.set_cons_zero]
        refine ⟨?_, ?_, ?_, ?_, ?_, ?_, ?_, ?_, ?_, ?_, ?_, ?_, ?_, ?_, ?_, ?_, ?_, ?_, ?_, ?_, ?_, ?_, trivial⟩
        · intro vals W hx hd
          have hW := HF.out W hx
          simp [PDeps, pdeps, Region.binds, List.idxOf_cons] at hd
          first
            | refine ParOb.plain rfl ?_
            | refine ParOb.wanted (by simp [Region.wanted, yielded, hd]) ?_
          go_simp
          exact ParPost.same fun _ _ => rfl
        · intro vals W hx hd
          have hW := HF.out W hx
          simp [PDeps, pdeps, Region.binds, List.idxOf_cons] at hd
          first
            | refine ParOb.plain rfl ?_
            | refine ParOb.wanted (by simp [Region.wanted, yielded, hd]) ?_
          go_simp
          exact ParPost.same fun _ _ => rfl
        · intro vals W hx hd
          have hW := HF.out W hx
          simp [PDeps, pdeps, Region.binds, List.idxOf_cons] at hd
          first
            | refine ParOb.plain rfl ?_
            | refine ParOb.wanted (by simp [Region.wanted, yielded, hd]) ?_
          go_simp
          exact ParPost.same fun _ _ => rfl
        · intro vals W hx hd
          have hW := HF.out W hx
          simp [PDeps, pdeps, Region.binds, List.idxOf_cons] at hd
          first
            | refine ParOb.plain rfl ?_
            | refine ParOb.wanted (by simp [Region.wanted, yielded, hd]) ?_
          go_simp
          exact ParPost.same fun _ _ => rfl
        · intro vals W hx hd
          have hW := HF.out W hx
          simp [PDeps, pdeps, Region.binds, List.idxOf_cons] at hd
          first
            | refine ParOb.plain rfl ?_
            | refine ParOb.wanted (by simp [Region.wanted, yielded, hd]) ?_
          go_simp
          exact ParPost.same fun _ _ => rfl
        · intro vals W hx hd
          have hW := HF.out W hx
          simp [PDeps, pdeps, Region.binds, List.idxOf_cons] at hd
          first
            | refine ParOb.plain rfl ?_
            | refine ParOb.wanted (by simp [Region.wanted, yielded, hd]) ?_
          go_simp
          exact ParPost.same fun _ _ => rfl
        · intro vals W hx hd
          have hW := HF.out W hx
          simp [PDeps, pdeps, Region.binds, List.idxOf_cons] at hd
          first
            | refine ParOb.plain rfl ?_
            | refine ParOb.wanted (by simp [Region.wanted, yielded, hd]) ?_
          go_simp
          exact ParPost.same fun _ _ => rfl
        · intro vals W hx hd
          have hW := HF.out W hx
          simp [PDeps, pdeps, Region.binds, List.idxOf_cons] at hd
          first
            | refine ParOb.plain rfl ?_
            | refine ParOb.wanted (by simp [Region.wanted, yielded, hd]) ?_
          go_simp
          exact ParPost.same fun _ _ => rfl
        · intro vals W hx hd
          have hW := HF.out W hx
          simp [PDeps, pdeps, Region.binds, List.idxOf_cons] at hd
          first
            | refine ParOb.plain rfl ?_
            | refine ParOb.wanted (by simp [Region.wanted, yielded, hd]) ?_
          go_simp
          exact ParPost.same fun _ _ => rfl
        · intro vals W hx hd
          have hW := HF.out W hx
          simp [PDeps, pdeps, Region.binds, List.idxOf_cons] at hd
          first
            | refine ParOb.plain rfl ?_
            | refine ParOb.wanted (by simp [Region.wanted, yielded, hd]) ?_
          go_simp
          exact ParPost.same fun _ _ => rfl
        · intro vals W hx hd
          have hW := HF.out W hx
          simp [PDeps, pdeps, Region.binds, List.idxOf_cons] at hd
          first
            | refine ParOb.plain rfl ?_
            | refine ParOb.wanted (by simp [Region.wanted, yielded, hd]) ?_
          go_simp
          exact ParPost.same fun _ _ => rfl
        · intro vals W hx hd
          have hW := HF.out W hx
          simp [PDeps, pdeps, Region.binds, List.idxOf_cons] at hd
          first
            | refine ParOb.plain rfl ?_
            | refine ParOb.wanted (by simp [Region.wanted, yielded, hd]) ?_
          go_simp
          exact ParPost.same fun _ _ => rfl
        · intro vals W hx hd
          have hW := HF.out W hx
          simp [PDeps, pdeps, Region.binds, List.idxOf_cons] at hd
          first
            | refine ParOb.plain rfl ?_
            | refine ParOb.wanted (by simp [Region.wanted, yielded, hd]) ?_
          go_simp
          exact ParPost.same fun _ _ => rfl
        · intro vals W hx hd
          have hW := HF.out W hx
          simp [PDeps, pdeps, Region.binds, List.idxOf_cons] at hd
          first
            | refine ParOb.plain rfl ?_
            | refine ParOb.wanted (by simp [Region.wanted, yielded, hd]) ?_
          go_simp
          exact ParPost.same fun _ _ => rfl
        · intro vals W hx hd
          have hW := HF.out W hx
          simp [PDeps, pdeps, Region.binds, List.idxOf_cons] at hd
          first
            | refine ParOb.plain rfl ?_
            | refine ParOb.wanted (by simp [Region.wanted, yielded, hd]) ?_
          go_simp
          exact ParPost.same fun _ _ => rfl
        · intro vals W hx hd
          have hW := HF.out W hx
          simp [PDeps, pdeps, Region.binds, List.idxOf_cons] at hd
          first
            | refine ParOb.plain rfl ?_
            | refine ParOb.wanted (by simp [Region.wanted, yielded, hd]) ?_
          go_simp
          exact ParPost.same fun _ _ => rfl
        · intro vals W hx hd
          have hW := HF.out W hx
          simp [PDeps, pdeps, Region.binds, List.idxOf_cons] at hd
          first
            | refine ParOb.plain rfl ?_
            | refine ParOb.wanted (by simp [Region.wanted, yielded, hd]) ?_
          go_simp
          exact ParPost.same fun _ _ => rfl
        · intro vals W hx hd
          have hW := HF.out W hx
          simp [PDeps, pdeps, Region.binds, List.idxOf_cons] at hd
          first
            | refine ParOb.plain rfl ?_
            | refine ParOb.wanted (by simp [Region.wanted, yielded, hd]) ?_
          go_simp
          exact ParPost.same fun _ _ => rfl
        · intro vals W hx hd
          have hW := HF.out W hx
          simp [PDeps, pdeps, Region.binds, List.idxOf_cons] at hd
          first
            | refine ParOb.plain rfl ?_
            | refine ParOb.wanted (by simp [Region.wanted, yielded, hd]) ?_
          go_simp
          exact ParPost.same fun _ _ => rfl
        · intro vals W hx hd
          have hW := HF.out W hx
          simp [PDeps, pdeps, Region.binds, List.idxOf_cons] at hd
          first
            | refine ParOb.plain rfl ?_
            | refine ParOb.wanted (by simp [Region.wanted, yielded, hd]) ?_
          go_simp
          exact ParPost.same fun _ _ => rfl
        · intro vals W hx hd
          have hW := HF.out W hx
          simp [PDeps, pdeps, Region.binds, List.idxOf_cons] at hd
          first
            | refine ParOb.plain rfl ?_
            | refine ParOb.wanted (by simp [Region.wanted, yielded, hd]) ?_
          go_simp
          exact ParPost.same fun _ _ => rfl
        · intro vals W hx hd
          have hW := HF.out W hx
          simp [PDeps, pdeps, Region.binds, List.idxOf_cons] at hd
          first
            | refine ParOb.plain rfl ?_
            | refine ParOb.wanted (by simp [Region.wanted, yielded, hd]) ?_
          go_simp
          exact ⟨(Ext.refl _).alloc _, fun w2 h2 => ⟨_, rfl, (Blk.new _ _ _ rfl).keep h2⟩⟩
      · simp (maxSteps := 20000000) only [permL, permOp, List.filterMap_cons, List.filterMap_nil, List.getElem?_cons_succ, List.getElem?_cons_zero, Option.map_some, Option.map_none, List.drop_succ_cons, List.drop_zero, List.take_succ_cons, List.take_zero, Nat.reduceSub, ZAll, ParEnd, Act.put, List.setIfInBounds_toArray, List.set_cons_succ, List.set_cons_zero]
        refine ⟨?_, trivial⟩
        · intro vals W hd
          simp [ZDeps, pdeps, Region.binds, List.idxOf_cons] at hd
          first | (go_simp; done) | (go_simp; exact ⟨rfl, rfl⟩)
      intro vals W hx hf hz
      simp (maxSteps := 20000000) only [permL, permOp, List.filterMap_cons, List.filterMap_nil, List.getElem?_cons_succ, List.getElem?_cons_zero, Option.map_some, Option.map_none, ParFacts, List.take_succ_cons, List.take_zero, and_true, Nat.reduceAdd] at hf
      simp (maxSteps := 20000000) only [permL, permOp, List.filterMap_cons, List.filterMap_nil, List.getElem?_cons_succ, List.getElem?_cons_zero, Option.map_some, Option.map_none, ZEqs, List.drop_succ_cons, List.drop_zero, List.take_succ_cons, List.take_zero, Nat.reduceSub, and_true] at hz
      obtain ⟨f0, f1, f2, f3, f4, f5, f6, f7, f8, f9, f10, f11, f12, f13, f14, f15, f16, f17, f18, f19, f20, f21⟩ := hf
      have z22 := hz
      simp (maxSteps := 20000000) only [permL, permOp, List.filterMap_cons, List.filterMap_nil, List.getElem?_cons_succ, List.getElem?_cons_zero, Option.map_some, Option.map_none, List.drop_succ_cons, List.drop_zero, List.take_succ_cons, List.take_zero, Nat.reduceSub, ParEnd, ZTail, Act.put, List.setIfInBounds_toArray, List.set_cons_succ, List.set_cons_zero, Nat.reduceAdd, f0, f1, f2, f3, f4, f5, f6, f7, f8, f9, f10, f11, f12, f13, f14, f15, f16, f17, f18, f19, f20, z22]
      clear f0 f1 f2 f3 f4 f5 f6 f7 f8 f9 f10 f11 f12 f13 f14 f15 f16 f17 f18 f19 f20 z22
      generalize vals 21 = y21 at f21 ⊢
      obtain ⟨gn, rfl, hbn⟩ := f21
      have HBN := Lib.hid hbn
      have HO2 := Lib.hid (ownsRow_ext HO.out hx)
      have HN2 := Lib.hid (HN.out.keep hx)
      have HX2 : Hid (Below w.heap.size w W) := Lib.hid (HX.out.trans (hx.mono HX.out.size))
      clear hx hbn
      refine yields_push (.tmp 19) (.tmp 41) _ rfl (w.heap.size + 1) 51 (.agg #[.string ⟨#[]⟩, .string ⟨#[]⟩, .string ⟨#[]⟩, .int .i64 0]) 4 56 Tryz.underlying22 infoFd rfl (by decide) _ j (fcs (fds.take j)) rfl HO2.out gn 51 #[.string xt, .string xn, .string xc, .int .i64 xty] rfl HBN.out rfl (by simp [Value.oneCell']) (by unfold maxLen; omega) (by omega) HN2.out.lt ?_
      intro v2 w2 hown2 hgr hat
      have hb2 : Below w.heap.size w w2 := HX2.out.grown hgr HX2.out.size (fun g hg => by have := (HO2.out.lt g hg).1; omega)
      have hn2 : Blk w2 w.heap.size c28 126 := (hgr.block _ HN2.out.lt (fun e => by have := (HO2.out.lt _ e.symm).1; omega)).trans HN2.out
      have HO3 := Lib.hid hown2
      have HB3 := Lib.hid hb2
      have HN3 := Lib.hid hn2
      clear hown2 hgr hat hb2 hn2
      go_simp
      repeat (first | go_values | go_skip | go_guarded | go_step | go_upon)
      go_roundw
      case rel =>
        refine ⟨j + 1, by omega, by go_num, ?_, HN3.out, HB3.out⟩
        have := HO3.out
        have ht := List.take_succ_eq_append_getElem (l := fds) (i := j) hlt
        have hxe : fds[j]'hlt = ⟨xt, xn, xc, xty⟩ := by
          have := HI.out
          rw [List.getElem?_eq_getElem hlt] at this
          exact Option.some.inj this
        rw [ht, hxe]
        simpa [fcs] using this
      case measure => simp [intOf]; omega
    · obtain rfl : j = 7 := by omega
      repeat (first | go_values | go_skip | go_guarded | go_step | go_upon)
      go_ret2
      obtain ⟨g, c, hv⟩ := own_form' HO.out (by omega)
      have ho := HO.out
      rw [hv] at ho
      have hgl := (ho.lt g rfl).2
      refine ⟨⟨g, c, .slice (some ⟨w.heap.size, 0, none⟩) 7 7, by rw [hv]; rfl, hgl, fun j x hj i hi => ?_⟩, HX.out⟩
      have hl : j < 7 := (List.getElem?_eq_some_iff.1 hj).1
      rw [ho.cellAt (j * 4 + i) (by omega), show fds.take 7 = fds from rfl, fcs, flat_get (fun x : FdR => [Value.string x.tb, .string x.nm, .string x.cl, .int .i64 x.ty]) 4 (fun _ => rfl) fds j x hj i hi]
      simp [FdR.cells]
end Y
end Go.Proofs.YtaoikbpolckobaaGreatDoor
