/-
  COLLATE (binder.collate), for the first three collations.
-/
import Derived.Test.YtaoikbpolckobaaGreatDoorNameB
import Derived.Test.YtaoikbpolckobaaGreatDoorParL
namespace Go.Proofs.YtaoikbpolckobaaGreatDoor
open Go.RowKit Go.Lib
set_option maxRecDepth 100000

/-- Later: what lay before B is as it was; a collation's row is one still. -/
structure LeC (B : Nat) (w w' : World) : Prop where
  os : w'.os = w.os
  tape : w'.tape = w.tape
  out : w'.output = w.output
  size : w.heap.size ≤ w'.heap.size
  old : ∀ i, i < B → i < w.heap.size → w'.heap[i]? = w.heap[i]?
  row : ∀ g cs, Blk w g cs 56 → cs.size = 5 → ∃ cs', Blk w' g cs' 56 ∧ cs'.size = 5
theorem leC (B : Nat) : IsLe (LeC B) :=
  ⟨fun _ => ⟨rfl, rfl, rfl, Nat.le_refl _, fun _ _ _ => rfl, fun g cs h hs => ⟨cs, h, hs⟩⟩,
   fun {a b c} h k => ⟨k.os.trans h.os, k.tape.trans h.tape, k.out.trans h.out, Nat.le_trans h.size k.size, fun i h1 h2 => (k.old i h1 (Nat.lt_of_lt_of_le h2 h.size)).trans (h.old i h1 h2), fun g cs hb hs => by
      obtain ⟨cs1, h1, h2⟩ := h.row g cs hb hs
      exact k.row g cs1 h1 h2⟩,
   fun {a b} h => ⟨h.os, h.tape, h.out, h.size, h.old, h.row⟩⟩
theorem LeC.ofExt {B : Nat} {w w' : World} (h : Ext w w') : LeC B w w' :=
  ⟨h.os, h.tape, h.output, h.size, fun i _ hi => h.block i hi, fun _ cs hb hs => ⟨cs, hb.keep h, hs⟩⟩
theorem LeC.ext {w w' : World} (h : LeC w.heap.size w w') : Ext w w' := ⟨h.os, h.tape, h.out, h.size, fun i hi => h.old i hi hi⟩
def newColl (B : Nat) (v : Value) (w : World) : Prop := ∃ g cs, v = .pointer (some ⟨g, 0, none⟩) ∧ B ≤ g ∧ Blk w g cs 56 ∧ cs.size = 5
def anyV (_ : Value) (_ : World) : Prop := True
theorem yields_store {o : Oper} {ρ : Operand → Value} {w : World} {Y : Value → World → Prop} {x y : Operand} {g : Nat} {old cs : Array Value} (ho : o.op = .store 56 x y) (hx : ρ x = .pointer (some ⟨g, 0, none⟩)) (hy : ρ y = .agg cs) (hg : Blk w g old 56) (hold : old.size = 5) (hcs : cs.size = 5)
    (h1 : cs.all (·.oneCell') = true) (h : Y undef (w.setRow g cs)) : yields Tryz.prog o ρ w Y := by
  have hr := run_storeVar_row (P := Tryz.prog) w g 56 56 old cs hg (by rw [hcs]; kernel_rfl) (by omega) h1
  unfold yields execOp
  simp only [ho, hx, hy, Instr.storeAt, Instr.sureAddr, Sem.run_bind, Sem.run_pure, Result.andThen_ok, hr]
  exact h
theorem LeC.setRow {B g : Nat} {w : World} {old cs : Array Value} (hg : Blk w g old 56) (hB : B ≤ g) (hs : cs.size = 5) : LeC B w (w.setRow g cs) :=
  ⟨rfl, rfl, rfl, by simp, fun i hi _ => setRow_other w g i cs (by omega), fun k ck hb hk => by
    by_cases he : k = g
    · subst he
      exact ⟨cs, setRow_heap w k old cs _ _ hg, hs⟩
    · exact ⟨ck, (setRow_other w g k cs he).trans hb, hk⟩⟩
def isC (v : Value) (_ : World) : Prop := IsColl v
def gotColl (v : Value) (_ : World) : Prop := ∃ c, IsColl c ∧ v = .tuple #[c, .bool true]
set_option maxHeartbeats 8000000 in
theorem collate_any (b g c nf q : Nat) (k o : Int) (s t : ByteArray) (n : Int) (lp : Option Addr) (ll lc : Nat) (v : Value) (y : TyR) (w : World) (hk : Known s)
    (hB : Blk w b #[.slice (some ⟨g, 0, none⟩) nf c, .pointer (some ⟨q, 0, none⟩), .nilFunc] 136) (hR : RegAt w q) (hG : Glob w) (hv : TypsAt w v [y]) (hy : isText y.ty = true) :
    Calls Tryz.prog 96 #[.pointer (some ⟨b, 0, none⟩), ndV k o s t n (.slice lp ll lc), v] w fun e w' => e = .returned (.tuple #[tyV k o s t n (.slice lp ll lc) y.ty 3 s, .int .i64 0]) ∧ Below w.heap.size w w' := by
  have HB := Lib.hid hB
  have HR := Lib.hid hR
  have HG := Lib.hid hG
  have HK := Lib.hid hk
  rcases hv with ⟨_, h⟩ | ⟨gy, cy, rfl, hc1, hgl, hcell⟩
  · cases h
  have hcy := hcell 0 y rfl 6 (by decide)
  have HY : Hid (w.cell? ⟨gy, 6, none⟩ = some (.int .i64 y.ty)) := Lib.hid (by simpa [TyR.cells] using hcy)
  clear hB hR hG hk hcell hcy hc1
  simp only [List.length_singleton]
  obtain ⟨yk, yo, ys, yt, yn, ylp, yll, ylc, yty, yr, yc⟩ := y
  simp only at hy HY ⊢
  rw [show ndV k o s t n (.slice lp ll lc) = .agg #[.int .i64 k, .int .i64 o, .string s, .string t, .int .i64 n, .slice lp ll lc] from rfl]
  go_enter Tryz.func96, Tryz.ntmps96
  have hc6 := HY.out
  repeat (first | go_values | go_skip | go_guarded | go_step | go_upon)
  have hA : Blk ((w.alloc (.cells #[.int .i64 k, .int .i64 o, .string s, .string t, .int .i64 n, .slice lp ll lc] 31)).alloc (.cells #[.int .i64 0, .int .i64 0, .string ⟨#[]⟩, .string ⟨#[]⟩, .int .i64 0, .slice none 0 0, .int .i64 0, .int .i64 0, .string ⟨#[]⟩] 36)) w.heap.size #[.int .i64 k, .int .i64 o, .string s, .string t, .int .i64 n, .slice lp ll lc] 31 := (Blk.new w #[.int .i64 k, .int .i64 o, .string s, .string t, .int .i64 n, .slice lp ll lc] 31 rfl).alloc _
  have hR0 : Blk ((w.alloc (.cells #[.int .i64 k, .int .i64 o, .string s, .string t, .int .i64 n, .slice lp ll lc] 31)).alloc (.cells #[.int .i64 0, .int .i64 0, .string ⟨#[]⟩, .string ⟨#[]⟩, .int .i64 0, .slice none 0 0, .int .i64 0, .int .i64 0, .string ⟨#[]⟩] 36)) (w.heap.size + 1) #[.int .i64 0, .int .i64 0, .string ⟨#[]⟩, .string ⟨#[]⟩, .int .i64 0, .slice none 0 0, .int .i64 0, .int .i64 0, .string ⟨#[]⟩] 36 := Blk.new (w.alloc (.cells #[.int .i64 k, .int .i64 o, .string s, .string t, .int .i64 n, .slice lp ll lc] 31)) #[.int .i64 0, .int .i64 0, .string ⟨#[]⟩, .string ⟨#[]⟩, .int .i64 0, .slice none 0 0, .int .i64 0, .int .i64 0, .string ⟨#[]⟩] 36 (by simp)
  have hb0 : Below w.heap.size w ((w.alloc (.cells #[.int .i64 k, .int .i64 o, .string s, .string t, .int .i64 n, .slice lp ll lc] 31)).alloc (.cells #[.int .i64 0, .int .i64 0, .string ⟨#[]⟩, .string ⟨#[]⟩, .int .i64 0, .slice none 0 0, .int .i64 0, .int .i64 0, .string ⟨#[]⟩] 36)) := by go_grown
  generalize ((w.alloc (.cells #[.int .i64 k, .int .i64 o, .string s, .string t, .int .i64 n, .slice lp ll lc] 31)).alloc (.cells #[.int .i64 0, .int .i64 0, .string ⟨#[]⟩, .string ⟨#[]⟩, .int .i64 0, .slice none 0 0, .int .i64 0, .int .i64 0, .string ⟨#[]⟩] 36)) = W0 at hA hR0 hb0 ⊢
  refine (bindtext_any yty W0).mono ?_
  rintro e w1 ⟨rfl, rfl⟩
  rw [hy]
  obtain ⟨ca, fa⟩ := hA.facts
  go_simp
  repeat (first | go_values | go_skip | go_guarded | go_step | go_upon)
  refine (known_name HK.out W0 (HG.out.keep hb0)).mono ?_
  rintro e w2 ⟨rfl, hb2⟩
  have hA2 := hA.keep hb2
  have hR2 := hR0.keep hb2
  have HA2 := Lib.hid hA2
  have HR2 := Lib.hid hR2
  have HX2 : Hid (Below w.heap.size w w2) := Lib.hid (hb0.trans (hb2.mono hb0.size))
  clear hA hR0 hb0 hb2 hA2 hR2 ca fa hc6
  go_simp
  repeat (first | go_values | go_skip | go_guarded | go_step | go_upon)
  have HF := Lib.hid (show ∀ W, LeC w2.heap.size w2 W → (∀ j, W.cell? ⟨b, j, none⟩ = (#[.slice (some ⟨g, 0, none⟩) nf c, .pointer (some ⟨q, 0, none⟩), .nilFunc] : Array Value)[j]?) ∧ (∀ j, W.cell? ⟨w.heap.size, j, none⟩ = (#[.int .i64 k, .int .i64 o, .string s, .string t, .int .i64 n, .slice lp ll lc] : Array Value)[j]?) from
    fun W hW => ⟨(HB.out.keep (HX2.out.trans (hW.ext.mono HX2.out.size))).cell, (HA2.out.keep hW.ext).cell⟩)
  refine wp_parZG (leC w2.heap.size) [0, 1, 2, 3, 4, 5, 6, 7, 8, 9, 10, 11, 12] 13 13 (fun
      | 0 => fun _ v _ => v = .pointer (some ⟨b, 0, none⟩)
      | 1 => fun _ v _ => v = .pointer (some ⟨b, 0, none⟩)
      | 2 => fun _ v _ => v = .pointer (some ⟨b, 1, none⟩)
      | 3 => fun _ v _ => v = .pointer (some ⟨q, 0, none⟩)
      | 4 => fun _ v _ => v = .pointer (some ⟨w.heap.size, 2, none⟩)
      | 5 => fun _ v _ => v = .string s
      | 6 => fun _ => gotColl
      | 7 => fun _ => gotColl
      | 8 => fun _ => isC
      | 9 => fun _ v _ => v = .bool true
      | 10 => fun _ => newColl w2.heap.size
      | 11 => fun _ => anyV
      | 12 => fun _ v _ => v = .bool true
      | _ => fun _ _ _ => True) (fun
      | _ => undef) (by kernel_rfl) (by kernel_rfl) (by kernel_rfl) ?_ ?_ ?_
  · simp (maxSteps := 20000000) only [permL, permOp, List.filterMap_cons, List.filterMap_nil, List.getElem?_cons_succ, List.getElem?_cons_zero, Option.map_some, Option.map_none, List.take_succ_cons, List.take_zero, ParAllG, Act.put, List.setIfInBounds_toArray, List.set_cons_succ, List.set_cons_zero]
    refine ⟨?_, ?_, ?_, ?_, ?_, ?_, ?_, ?_, ?_, ?_, ?_, ?_, ?_, trivial⟩
    · intro vals W hx hd
      have hW := HF.out W hx
      simp [PDepsG, pdeps, Region.binds, List.idxOf_cons] at hd
      first
        | refine ParObG.plain rfl ?_
        | refine ParObG.wanted (by simp [Region.wanted, yielded, hd]) ?_
      go_simp
      exact ParPostG.same (leC w2.heap.size) fun _ _ => rfl
    · intro vals W hx hd
      have hW := HF.out W hx
      simp [PDepsG, pdeps, Region.binds, List.idxOf_cons] at hd
      first
        | refine ParObG.plain rfl ?_
        | refine ParObG.wanted (by simp [Region.wanted, yielded, hd]) ?_
      go_simp
      exact ParPostG.same (leC w2.heap.size) fun _ _ => rfl
    · intro vals W hx hd
      have hW := HF.out W hx
      simp [PDepsG, pdeps, Region.binds, List.idxOf_cons] at hd
      first
        | refine ParObG.plain rfl ?_
        | refine ParObG.wanted (by simp [Region.wanted, yielded, hd]) ?_
      go_simp
      exact ParPostG.same (leC w2.heap.size) fun _ _ => rfl
    · intro vals W hx hd
      have hW := HF.out W hx
      simp [PDepsG, pdeps, Region.binds, List.idxOf_cons] at hd
      first
        | refine ParObG.plain rfl ?_
        | refine ParObG.wanted (by simp [Region.wanted, yielded, hd]) ?_
      go_simp
      exact ParPostG.same (leC w2.heap.size) fun _ _ => rfl
    · intro vals W hx hd
      have hW := HF.out W hx
      simp [PDepsG, pdeps, Region.binds, List.idxOf_cons] at hd
      first
        | refine ParObG.plain rfl ?_
        | refine ParObG.wanted (by simp [Region.wanted, yielded, hd]) ?_
      go_simp
      exact ParPostG.same (leC w2.heap.size) fun _ _ => rfl
    · intro vals W hx hd
      have hW := HF.out W hx
      simp [PDepsG, pdeps, Region.binds, List.idxOf_cons] at hd
      first
        | refine ParObG.plain rfl ?_
        | refine ParObG.wanted (by simp [Region.wanted, yielded, hd]) ?_
      go_simp
      exact ParPostG.same (leC w2.heap.size) fun _ _ => rfl
    · intro vals W hx hd
      have hW := HF.out W hx
      simp [PDepsG, pdeps, Region.binds, List.idxOf_cons] at hd
      first
        | refine ParObG.plain rfl ?_
        | refine ParObG.wanted (by simp [Region.wanted, yielded, hd]) ?_
      have hxW : Below w.heap.size w W := HX2.out.trans (hx.ext.mono HX2.out.size)
      go_simp
      refine (get_any q s W (HR.out.ext hxW) HK.out (HG.out.keep hxW)).mono ?_
      rintro e w9 ⟨⟨cv, hcv, rfl⟩, hb9⟩
      exact ⟨_, rfl, LeC.ofExt hb9, fun _ _ => ⟨cv, hcv, rfl⟩⟩
    · intro vals W hx hd
      have hW := HF.out W hx
      simp [PDepsG, pdeps, Region.binds, List.idxOf_cons] at hd
      first
        | refine ParObG.plain rfl ?_
        | refine ParObG.wanted (by simp [Region.wanted, yielded, hd]) ?_
      go_simp
      exact ⟨(leC _).refl _, fun _ _ => hd⟩
    · intro vals W hx hd
      have hW := HF.out W hx
      simp [PDepsG, pdeps, Region.binds, List.idxOf_cons] at hd
      first
        | refine ParObG.plain rfl ?_
        | refine ParObG.wanted (by simp [Region.wanted, yielded, hd]) ?_
      obtain ⟨cv, hcv, he⟩ := hd
      go_simp
      exact ⟨(leC _).refl _, fun _ _ => hcv⟩
    · intro vals W hx hd
      have hW := HF.out W hx
      simp [PDepsG, pdeps, Region.binds, List.idxOf_cons] at hd
      first
        | refine ParObG.plain rfl ?_
        | refine ParObG.wanted (by simp [Region.wanted, yielded, hd]) ?_
      obtain ⟨cv, hcv, he⟩ := hd
      go_simp
      exact ⟨(leC _).refl _, fun _ _ => rfl⟩
    · intro vals W hx hd
      have hW := HF.out W hx
      simp [PDepsG, pdeps, Region.binds, List.idxOf_cons] at hd
      first
        | refine ParObG.plain rfl ?_
        | refine ParObG.wanted (by simp [Region.wanted, yielded, hd]) ?_
      go_simp
      exact ⟨LeC.ofExt ((Ext.refl _).alloc _), fun w3 h3 => by
        obtain ⟨cs, h4, h5⟩ := h3.row _ _ (Blk.new W #[.int .i64 0, .int .i64 0, .bool false, .bool false, .pointer none] 56 rfl) rfl
        exact ⟨_, cs, rfl, hx.size, h4, h5⟩⟩
    · intro vals W hx hd
      have hW := HF.out W hx
      simp [PDepsG, pdeps, Region.binds, List.idxOf_cons] at hd
      first
        | refine ParObG.plain rfl ?_
        | refine ParObG.wanted (by simp [Region.wanted, yielded, hd]) ?_
      obtain ⟨⟨gc, old, hgv, hge, hgb, hgs⟩, ⟨k9, l9, a9, b9, p9, hcv⟩, _⟩ := hd
      refine yields_store rfl (by simpa [Act.eval] using hgv) (by simpa [Act.eval] using hcv) hgb hgs rfl (by simp [Value.oneCell']) ?_
      exact ⟨LeC.setRow hgb hge rfl, fun _ _ => trivial⟩
    · intro vals W hx hd
      have hW := HF.out W hx
      simp [PDepsG, pdeps, Region.binds, List.idxOf_cons] at hd
      first
        | refine ParObG.plain rfl ?_
        | refine ParObG.wanted (by simp [Region.wanted, yielded, hd]) ?_
      go_simp
      exact ParPostG.same (leC w2.heap.size) fun _ _ => rfl
  · simp (maxSteps := 20000000) only [permL, permOp, List.filterMap_cons, List.filterMap_nil, List.getElem?_cons_succ, List.getElem?_cons_zero, Option.map_some, Option.map_none, List.drop_succ_cons, List.drop_zero, List.take_succ_cons, List.take_zero, Nat.reduceSub, ZAll, ParEnd, Act.put, List.setIfInBounds_toArray, List.set_cons_succ, List.set_cons_zero]
  intro vals W hx hf hz
  simp (maxSteps := 20000000) only [permL, permOp, List.filterMap_cons, List.filterMap_nil, List.getElem?_cons_succ, List.getElem?_cons_zero, Option.map_some, Option.map_none, ParFactsG, List.take_succ_cons, List.take_zero, and_true, Nat.reduceAdd] at hf
  obtain ⟨f0, f1, f2, f3, f4, f5, f6, f7, f8, f9, f10, f11, f12⟩ := hf
  clear hz
  simp (maxSteps := 20000000) only [permL, permOp, List.filterMap_cons, List.filterMap_nil, List.getElem?_cons_succ, List.getElem?_cons_zero, Option.map_some, Option.map_none, List.drop_succ_cons, List.drop_zero, List.take_succ_cons, List.take_zero, Nat.reduceSub, ParEnd, ZTail, Act.put, List.setIfInBounds_toArray, List.set_cons_succ, List.set_cons_zero, Nat.reduceAdd, f0, f1, f2, f3, f4, f5, f9, f12]
  clear f0 f1 f2 f3 f4 f5 f9 f12
  have hb3 : Ext w2 W := hx.ext
  obtain ⟨gc, cs10, hgv, _⟩ := f10
  have HA3 := Lib.hid (HA2.out.keep hb3)
  have HR3 := Lib.hid (HR2.out.keep hb3)
  have HX3 : Hid (Below w.heap.size w W) := Lib.hid (HX2.out.trans (hb3.mono HX2.out.size))
  obtain ⟨c3, f3⟩ := HA3.out.facts
  clear hx hb3 f6 f7 f8 f11
  go_simp
  repeat (first | go_values | go_skip | go_guarded | go_step | go_upon)
  have hA4 : Blk (W.setCell ⟨w.heap.size, 2, none⟩ (.string s)) w.heap.size #[.int .i64 k, .int .i64 o, .string s, .string t, .int .i64 n, .slice lp ll lc] 31 := HA3.out.set 2 (.string s)
  have hR4 : Blk (W.setCell ⟨w.heap.size, 2, none⟩ (.string s)) (w.heap.size + 1) _ 36 := HR3.out.other (a := ⟨w.heap.size, 2, none⟩) (by simp) (.string s)
  have hX4 : Below w.heap.size w (W.setCell ⟨w.heap.size, 2, none⟩ (.string s)) := by have hb := HX3.out; go_grown
  generalize (W.setCell ⟨w.heap.size, 2, none⟩ (.string s)) = W4 at hA4 hR4 hX4 ⊢
  have HR4 := Lib.hid hR4
  have HX4 := Lib.hid hX4
  have HF4 := Lib.hid (show ∀ W, Ext W4 W → (∀ j, W.cell? ⟨w.heap.size, j, none⟩ = (#[.int .i64 k, .int .i64 o, .string s, .string t, .int .i64 n, .slice lp ll lc] : Array Value)[j]?) ∧ W.cell? ⟨gy, 6, none⟩ = some (.int .i64 yty) from
    fun W hW => ⟨(hA4.keep hW).cell, by rw [(hX4.trans (hW.mono hX4.size)).cell (p := ⟨gy, 6, none⟩) hgl]; exact HY.out⟩)
  clear hA4 hR4 hX4 c3 f3 HF
  refine wp_par 8 (fun
      | 0 => fun v _ => v = .agg #[.int .i64 k, .int .i64 o, .string s, .string t, .int .i64 n, .slice lp ll lc]
      | 1 => fun v _ => v = .slice (some ⟨gy, 0, none⟩) 1 cy
      | 2 => fun v _ => v = .pointer (some ⟨gy, 0, none⟩)
      | 3 => fun v _ => v = .pointer (some ⟨gy, 6, none⟩)
      | 4 => fun v _ => v = .int .i64 yty
      | 5 => fun v _ => v = .string s
      | 6 => fun v _ => v = .agg #[.int .i64 3, .string s]
      | 7 => fun v _ => v = .agg #[.int .i64 k, .int .i64 o, .string s, .string t, .int .i64 n, .slice lp ll lc, .int .i64 yty, .int .i64 3, .string s]
      | _ => fun _ _ => True) (by kernel_rfl) (by kernel_rfl) (by kernel_rfl) ?_ ?_
  · simp (maxSteps := 20000000) only [List.take_succ_cons, List.take_zero, ParAll, Act.put, List.setIfInBounds_toArray, List.set_cons_succ, List.set_cons_zero]
    refine ⟨?_, ?_, ?_, ?_, ?_, ?_, ?_, ?_, trivial⟩
    · intro vals W hx hd
      have hW := HF4.out W hx
      simp [PDeps, pdeps, Region.binds] at hd
      first
        | refine ParOb.plain rfl ?_
        | refine ParOb.wanted (by simp [Region.wanted, yielded, hd]) ?_
      go_simp
      exact ParPost.same fun _ _ => rfl
    · intro vals W hx hd
      have hW := HF4.out W hx
      simp [PDeps, pdeps, Region.binds] at hd
      first
        | refine ParOb.plain rfl ?_
        | refine ParOb.wanted (by simp [Region.wanted, yielded, hd]) ?_
      go_simp
      exact ParPost.same fun _ _ => rfl
    · intro vals W hx hd
      have hW := HF4.out W hx
      simp [PDeps, pdeps, Region.binds] at hd
      first
        | refine ParOb.plain rfl ?_
        | refine ParOb.wanted (by simp [Region.wanted, yielded, hd]) ?_
      go_simp
      exact ParPost.same fun _ _ => rfl
    · intro vals W hx hd
      have hW := HF4.out W hx
      simp [PDeps, pdeps, Region.binds] at hd
      first
        | refine ParOb.plain rfl ?_
        | refine ParOb.wanted (by simp [Region.wanted, yielded, hd]) ?_
      go_simp
      exact ParPost.same fun _ _ => rfl
    · intro vals W hx hd
      have hW := HF4.out W hx
      simp [PDeps, pdeps, Region.binds] at hd
      first
        | refine ParOb.plain rfl ?_
        | refine ParOb.wanted (by simp [Region.wanted, yielded, hd]) ?_
      go_simp
      exact ParPost.same fun _ _ => rfl
    · intro vals W hx hd
      have hW := HF4.out W hx
      simp [PDeps, pdeps, Region.binds] at hd
      first
        | refine ParOb.plain rfl ?_
        | refine ParOb.wanted (by simp [Region.wanted, yielded, hd]) ?_
      go_simp
      exact ParPost.same fun _ _ => rfl
    · intro vals W hx hd
      have hW := HF4.out W hx
      simp [PDeps, pdeps, Region.binds] at hd
      first
        | refine ParOb.plain rfl ?_
        | refine ParOb.wanted (by simp [Region.wanted, yielded, hd]) ?_
      go_simp
      exact ParPost.same fun _ _ => rfl
    · intro vals W hx hd
      have hW := HF4.out W hx
      simp [PDeps, pdeps, Region.binds] at hd
      first
        | refine ParOb.plain rfl ?_
        | refine ParOb.wanted (by simp [Region.wanted, yielded, hd]) ?_
      go_simp
      exact ParPost.same fun _ _ => rfl
  intro vals W hx hf
  simp (maxSteps := 20000000) only [ParFacts, List.take_succ_cons, List.take_zero, and_true] at hf
  simp (maxSteps := 20000000) only [List.drop_succ_cons, List.drop_zero, List.take_succ_cons, List.take_zero, ParEnd, Act.put, List.setIfInBounds_toArray, List.set_cons_succ, List.set_cons_zero, hf]
  clear hf
  rename_i W5 _
  have hR5 := HR4.out.keep hx
  have HR5 := Lib.hid hR5
  obtain ⟨c5, f5⟩ := hR5.facts
  have hb := HX4.out.trans (hx.mono HX4.out.size)
  have HB5 := Lib.hid hb
  clear hx hb hR5
  go_simp
  repeat (first | go_values | go_skip | go_guarded | go_step | go_upon)
  have hb := HB5.out
  refine bodyPost_ret (ret_typed2 rfl _ rfl rfl (blk9 HR5.out _ _ _ _ _ _ _ _ _)) rfl ?_
  exact ⟨rfl, by go_grown⟩
end Go.Proofs.YtaoikbpolckobaaGreatDoor
