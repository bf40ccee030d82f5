/-
  Drawn regions that fill two blocks of the call's own in any order: a notion of later; what tables read is not touched. A collation by weights of both sides, without rules (umlautlaw8.Make at kind 3): the first table and the document's.
-/
import Derived.Test.YtipokgedmfnlaaaGreatDoorRef5T
import Derived.Test.YtipokgedmfnlaaaGreatDoorParH
import Derived.Test.YtipokgedmfnlaaaGreatDoorValB
namespace Go.Proofs.YtipokgedmfnlaaaGreatDoor
open Go.RowKit Go.Lib
set_option maxRecDepth 100000

/-- Later: all but the blocks a and b are as they were; these have rows of their lengths, and keep them once they are filled. -/
structure LeZ (a b : Nat) (ta tb : TypeId) (VA VB : Array Value) (w w' : World) : Prop where
  os : w'.os = w.os
  tape : w'.tape = w.tape
  out : w'.output = w.output
  size : w.heap.size ≤ w'.heap.size
  old : ∀ i, i < w.heap.size → i ≠ a → i ≠ b → w'.heap[i]? = w.heap[i]?
  ra : ∀ cs, Blk w a cs ta → cs.size = VA.size → ∃ cs', Blk w' a cs' ta ∧ cs'.size = VA.size
  rb : ∀ cs, Blk w b cs tb → cs.size = VB.size → ∃ cs', Blk w' b cs' tb ∧ cs'.size = VB.size
  ka : Blk w a VA ta → Blk w' a VA ta
  kb : Blk w b VB tb → Blk w' b VB tb
theorem leZ (a b : Nat) (ta tb : TypeId) (VA VB : Array Value) : IsLe (LeZ a b ta tb VA VB) :=
  ⟨fun _ => ⟨rfl, rfl, rfl, Nat.le_refl _, fun _ _ _ _ => rfl, fun cs h k => ⟨cs, h, k⟩, fun cs h k => ⟨cs, h, k⟩, id, id⟩,
   fun {x y z} h k => ⟨k.os.trans h.os, k.tape.trans h.tape, k.out.trans h.out, Nat.le_trans h.size k.size, fun i h1 h2 h3 => (k.old i (Nat.lt_of_lt_of_le h1 h.size) h2 h3).trans (h.old i h1 h2 h3), fun cs h1 h2 => by
      obtain ⟨c1, h3, h4⟩ := h.ra cs h1 h2
      exact k.ra c1 h3 h4, fun cs h1 h2 => by
      obtain ⟨c1, h3, h4⟩ := h.rb cs h1 h2
      exact k.rb c1 h3 h4, fun h1 => k.ka (h.ka h1), fun h1 => k.kb (h.kb h1)⟩,
   fun {x y} h => ⟨h.os, h.tape, h.out, h.size, h.old, h.ra, h.rb, h.ka, h.kb⟩⟩
section
variable {a b g : Nat} {ta tb t : TypeId} {VA VB cs old : Array Value} {w w' : World}
theorem LeZ.ofExt (h : Ext w w') : LeZ a b ta tb VA VB w w' :=
  ⟨h.os, h.tape, h.output, h.size, fun i hi _ _ => h.block i hi, fun cs h1 h2 => ⟨cs, h1.keep h, h2⟩, fun cs h1 h2 => ⟨cs, h1.keep h, h2⟩, fun h1 => h1.keep h, fun h1 => h1.keep h⟩
theorem LeZ.blk (h : LeZ a b ta tb VA VB w w') (hg : Blk w g cs t) (h1 : g ≠ a) (h2 : g ≠ b) : Blk w' g cs t := (h.old g hg.lt h1 h2).trans hg
theorem LeZ.setA (hg : Blk w a old ta) (hab : a ≠ b) : LeZ a b ta tb VA VB w (w.setRow a VA) :=
  ⟨rfl, rfl, rfl, by rw [setRow_size]; exact Nat.le_refl _, fun i _ h1 _ => setRow_other w a i _ h1, fun _ _ _ => ⟨VA, setRow_heap w a old VA _ _ hg, rfl⟩, fun cs h1 h2 => ⟨cs, (setRow_other w a b _ hab.symm).trans h1, h2⟩,
    fun _ => setRow_heap w a old VA _ _ hg, fun h1 => (setRow_other w a b _ hab.symm).trans h1⟩
theorem LeZ.setB (hg : Blk w b old tb) (hab : a ≠ b) : LeZ a b ta tb VA VB w (w.setRow b VB) :=
  ⟨rfl, rfl, rfl, by rw [setRow_size]; exact Nat.le_refl _, fun i _ _ h2 => setRow_other w b i _ h2, fun cs h1 h2 => ⟨cs, (setRow_other w b a _ hab).trans h1, h2⟩, fun _ _ _ => ⟨VB, setRow_heap w b old VB _ _ hg, rfl⟩,
    fun h1 => (setRow_other w b a _ hab).trans h1, fun _ => setRow_heap w b old VB _ _ hg⟩
theorem yields_storeG {o : Oper} {ρ : Operand → Value} {Y : Value → World → Prop} {x y : Operand} (ho : o.op = .store t x y) (hx : ρ x = .pointer (some ⟨g, 0, none⟩)) (hy : ρ y = .agg cs) (hg : Blk w g old t) (hold : old.size = cs.size)
    (hi : (Tryz.prog.info? t).map (·.size) = some cs.size) (h1 : cs.all (·.oneCell') = true) (h : Y undef (w.setRow g cs)) : yields Tryz.prog o ρ w Y := by
  have hr := run_storeVar_row (P := Tryz.prog) w g t t old cs hg hi hold h1
  unfold yields execOp
  simp only [ho, hx, hy, Instr.storeAt, Instr.sureAddr, Sem.run_bind, Sem.run_pure, Result.andThen_ok, hr]
  exact h
end
def isBlk (g : Nat) (cs : Array Value) (t : TypeId) (_ : List Value) (_ : Value) (w : World) : Prop := Blk w g cs t
/-- A block that begins with a nought and holds a truth at its third place. -/
def NoTab (w : World) (i : Nat) : Prop := ∃ cs t, Blk w i cs t ∧ cs[0]? = some (.int .i64 0) ∧ ∃ x, cs[2]? = some (.bool x)
theorem NoTab.mk5 {w : World} {i : Nat} {x z : Value} {u : Bool} {y : Value} {t : TypeId} (h : Blk w i #[.int .i64 0, x, .bool u, y, z] t) : NoTab w i := ⟨_, t, h, rfl, u, rfl⟩
theorem EntsR.agreeZ {w w' : World} {v : Value} {L : List (Nat × List El)} (h : EntsR w v L) (h0 : ∀ y ∈ L, y.1 ≠ 0) (hs : w.heap.size ≤ w'.heap.size)
    (hh : ∀ i, i < w.heap.size → w'.heap[i]? = w.heap[i]? ∨ NoTab w i) : EntsR w' v L := by
  have hcell : ∀ g o u, w.cell? ⟨g, o, none⟩ = some u → ((∃ u2, w.cell? ⟨g, 0, none⟩ = some u2 ∧ u2 ≠ .int .i64 0) ∨ ∃ u2, w.cell? ⟨g, 2, none⟩ = some u2 ∧ ∀ x, u2 ≠ .bool x) → w'.cell? ⟨g, o, none⟩ = some u := by
    intro g o u hc h2
    rcases hh g (World.block_lt_of_cell? w _ hc) with h4 | ⟨cs, t, h4, h5, x, h6⟩
    · have : w'.cell? ⟨g, o, none⟩ = w.cell? ⟨g, o, none⟩ := by unfold World.cell?; rw [h4]
      rw [this]; exact hc
    · exfalso
      rcases h2 with ⟨u2, h2, h3⟩ | ⟨u2, h2, h3⟩
      · rw [h4.cell, h5] at h2
        exact h3 (Option.some.inj h2).symm
      · rw [h4.cell, h6] at h2
        exact h3 x (Option.some.inj h2).symm
  obtain ⟨vs, h1, h2, h3⟩ := h
  refine ⟨vs, ?_, h2, fun j p y hp hy => ?_⟩
  · rcases h1 with h1 | ⟨g, c, e1, e2, e3, e4⟩
    · exact .inl h1
    · refine .inr ⟨g, c, e1, e2, Nat.lt_of_lt_of_le e3 hs, fun j u hj => ?_⟩
      have hl : j < (flatE vs).length := (List.getElem?_eq_some_iff.1 hj).1
      rw [flatE_length] at hl
      have hv0 : 0 < vs.length := by omega
      obtain ⟨g7, k7, h7, _⟩ := (h3 0 vs[0] (L[0]'(by omega)) (List.getElem?_eq_getElem hv0) (List.getElem?_eq_getElem (by omega))).1
      refine hcell g j u (e4 j u hj) (.inl ⟨vs[0].1, e4 0 _ (flatE_get vs 0 hv0).1, ?_⟩)
      rw [h7]; simp
  · obtain ⟨⟨g, k, e1, e2, e3⟩, h5⟩ := h3 j p y hp hy
    have hy0 := h0 y (List.mem_of_getElem? hy)
    refine ⟨⟨g, k, e1, e2, hcell g 0 _ e3 (.inl ⟨_, e3, by simp; omega⟩)⟩, ?_⟩
    rcases h5 with h5 | ⟨g2, c2, f1, f2, f3, f4⟩
    · exact .inl h5
    · refine .inr ⟨g2, c2, f1, f2, Nat.lt_of_lt_of_le f3 hs, fun j2 u hj2 => ?_⟩
      have hl : j2 < (flatR y.2).length := (List.getElem?_eq_some_iff.1 hj2).1
      cases hy2 : y.2 with
      | nil => rw [hy2] at hl; simp [flatR] at hl
      | cons e0 es0 => exact hcell g2 j2 u (f4 j2 u hj2) (.inr ⟨_, f4 2 (.int .i64 (e0.t : Int)) (by rw [hy2]; simp [flatR, cellsR]), by simp⟩)
theorem rootS_pos : ∀ y ∈ rootS, y.1 ≠ 0 := by decide +kernel
theorem RootAt.agreeZ {w w' : World} {p : Nat} (h : RootAt w p) (hs : w.heap.size ≤ w'.heap.size) (hh : ∀ i, i < w.heap.size → w'.heap[i]? = w.heap[i]? ∨ NoTab w i) : RootAt w' p := by
  have hcell : ∀ g o u, w.cell? ⟨g, o, none⟩ = some u → (∃ u2, w.cell? ⟨g, 0, none⟩ = some u2 ∧ u2 ≠ .int .i64 0) → w'.cell? ⟨g, o, none⟩ = some u := by
    intro g o u hc ⟨u2, h2, h3⟩
    rcases hh g (World.block_lt_of_cell? w _ hc) with h4 | ⟨cs, t, h4, h5, _⟩
    · have : w'.cell? ⟨g, o, none⟩ = w.cell? ⟨g, o, none⟩ := by unfold World.cell?; rw [h4]
      rw [this]; exact hc
    · exfalso
      rw [h4.cell, h5] at h2
      exact h3 (Option.some.inj h2).symm
  have hblk : ∀ g cs t, Blk w g cs t → cs[0]? ≠ some (.int .i64 0) → Blk w' g cs t := by
    intro g cs t hb hne
    rcases hh g hb.lt with h4 | ⟨cs', t', h4, h5, _⟩
    · exact h4.trans hb
    · unfold Blk at hb h4
      rw [hb] at h4
      injection h4 with h4
      injection h4 with h4
      subst h4
      exact absurd h5 hne
  have hmap : ∀ k g l, GMap Tryz.prog k w g l → GMap Tryz.prog k w' g l := by
    intro k g l hm
    rcases hh g hm.lt with h4 | ⟨cs', t', h4, _⟩
    · exact hm.block h4
    · obtain ⟨es, cl, h5, _⟩ := hm.ex
      unfold Blk at h4
      rw [h5] at h4
      cases h4
  obtain ⟨b, T, f, h1, h2, h3, h4⟩ := h
  refine ⟨b, T, f, hblk _ _ _ h1 (by simp), ?_, ?_, h4⟩
  · obtain ⟨L, k1, k2, k3, k4⟩ := h2
    refine ⟨L, hmap _ _ _ k1, k2, k3, fun i c es hi hr => ?_⟩
    obtain ⟨v, k5, k6⟩ := k4 i c es hi hr
    refine ⟨v, k5, ?_⟩
    rcases k6 with k6 | ⟨g, cap, k6, k7, k8⟩
    · exact .inl k6
    · refine .inr ⟨g, cap, k6, k7, fun j u hj => ?_⟩
      have hl : j < (wordsV es).length := (List.getElem?_eq_some_iff.1 hj).1
      cases es with
      | nil => simp [wordsV] at hl
      | cons e es =>
        exact hcell g j u (k8 j u hj) ⟨_, k8 0 (.int .u32 (e.word : Int)) (by simp [wordsV]), by simp⟩
  · obtain ⟨M, g, c, is, k1, k2, k3, k4, k5⟩ := h3
    refine ⟨M, g, c, is, hblk _ _ _ k1 (by simp), hmap _ _ _ k2, Nat.lt_of_lt_of_le k3 hs, fun k j hk hj => ?_, k5⟩
    exact hcell g _ _ (k4 k j hk hj) ⟨_, by simpa using k4 0 0 (by omega) (by decide), by simp⟩
end Go.Proofs.YtipokgedmfnlaaaGreatDoor

namespace Go.Proofs.YtipokgedmfnlaaaGreatDoor
open Go.RowKit Go.Lib
set_option maxRecDepth 100000

theorem and_mask16m (n : Int) : bits BinOp.and IntKind.i64 n 65535 = n % 65536 := by
  have e : (BitVec.ofInt 64 n &&& BitVec.ofInt 64 65535).toNat = (n % 65536).toNat := by
    rw [BitVec.toNat_and]
    have h : (BitVec.ofInt 64 65535).toNat = 2 ^ 16 - 1 := by decide
    rw [h, Nat.and_two_pow_sub_one_eq_mod, BitVec.toNat_ofInt]
    omega
  show IntKind.i64.wrap ((BitVec.ofInt 64 n &&& BitVec.ofInt 64 65535).toNat : Int) = _
  rw [e, IntKind.wrap_i64]
  omega
/-- The level that is made of a number. -/
def lvl (level : Int) : Nat := (level % 65536 % 3).toNat + 1
theorem lvl_13 (level : Int) : 1 ≤ lvl level ∧ lvl level ≤ 3 := by unfold lvl; omega
theorem lvl_eq (level : Int) : wrap64 ((bits BinOp.and IntKind.i64 level 65535).tmod 3 + 1) = (lvl level : Int) := by
  rw [and_mask16m, Int.tmod_eq_emod_of_nonneg (by omega)]
  have h : wrap64 (level % 65536 % 3 + 1) = level % 65536 % 3 + 1 := IntWalk.wrap64_in _ (by omega)
  unfold lvl
  rw [show ((((level % 65536 % 3).toNat + 1 : Nat)) : Int) = level % 65536 % 3 + 1 by omega]
  exact h
theorem ret_make {t u x : Tmp} {fn : Func} (h : fn.results = #[.cell t 25, .cell u 30, .tmp x]) (tmps : Array Value) {w : World} {g g' : Nat} {cs cs' : Array Value} (hc : cs.size = 5) (hp : tmps.getD t undef = .pointer (some ⟨g, 0, none⟩)) (hg : Blk w g cs 25)
    (hc' : cs'.size = 5) (hp' : tmps.getD u undef = .pointer (some ⟨g', 0, none⟩)) (hg' : Blk w g' cs' 30) : (results fn tmps).run Tryz.prog w = .ok (.tuple #[.agg cs, .agg cs', tmps.getD x undef]) w := by
  have h1 : tmps[t]?.getD undef = .pointer (some ⟨g, 0, none⟩) := by simpa using hp
  have h2 : tmps[u]?.getD undef = .pointer (some ⟨g', 0, none⟩) := by simpa using hp'
  have hr := run_loadVar_row w g 25 25 cs (0, 0) _ hg Tryz.underlying25 rfl (by rw [hc]; kernel_rfl)
  have hr' := run_loadVar_row w g' 30 30 cs' (0, 0) _ hg' Tryz.underlying30 rfl (by rw [hc']; kernel_rfl)
  simp [results, h, h1, h2, asAddr, hr, hr']
def MakeR (lv : Nat) (shift back : Bool) (w : World) (e : Ending) (w' : World) : Prop :=
  (∃ p v, e = .returned (.tuple #[cV 3 lv shift back (some ⟨p, 0, none⟩), rV 3 lv shift back v, .bool true]) ∧ RootAt w' p ∧ EntsR w' v rootS) ∧ Below w.heap.size w w'
set_option maxHeartbeats 8000000 in
theorem make_table (kind level : Int) (shift back : Bool) (w : World) (h1 : kind ≠ 1) (h2 : kind ≠ 2) :
    Calls Tryz.prog 10 #[.int .i64 kind, .int .i64 level, .bool shift, .bool back, .string ⟨#[]⟩] w (MakeR (lvl level) shift back w) := by
  have k1 : (kind == 1) = false := by simpa using h1
  have k2 : (kind == 2) = false := by simpa using h2
  have hlv := lvl_eq level
  go_enter Tryz.func10, Tryz.ntmps10
  go_wp2_with fail
  have hA := (Blk.new w #[.int .i64 0, .int .i64 0, .bool false, .bool false, .pointer none] 25 rfl).alloc (.cells #[.int .i64 0, .int .i64 0, .bool false, .bool false, .slice none 0 0] 30)
  have hB := Blk.new (w.alloc (.cells #[.int .i64 0, .int .i64 0, .bool false, .bool false, .pointer none] 25)) #[.int .i64 0, .int .i64 0, .bool false, .bool false, .slice none 0 0] 30 (n := w.heap.size + 1) (by simp)
  have hx0 := ((Ext.refl w).alloc (.cells #[.int .i64 0, .int .i64 0, .bool false, .bool false, .pointer none] 25)).alloc (.cells #[.int .i64 0, .int .i64 0, .bool false, .bool false, .slice none 0 0] 30)
  generalize (w.alloc (.cells #[.int .i64 0, .int .i64 0, .bool false, .bool false, .pointer none] 25)).alloc (.cells #[.int .i64 0, .int .i64 0, .bool false, .bool false, .slice none 0 0] 30) = W0 at hA hB hx0 ⊢
  generalize wrap64 ((bits BinOp.and IntKind.i64 level 65535).tmod 3 + 1) = LV at hlv ⊢
  subst hlv
  refine (read_none W0).mono ?_
  rintro e w1 ⟨p, rfl, hp1, hp2, hb1⟩
  have HP := Lib.hid hp2
  have HA1 := Lib.hid (hA.keep hb1)
  have HB1 := Lib.hid (hB.keep hb1)
  have HX1 := Lib.hid (Ext.trans hx0 hb1)
  clear hA hB hx0 hb1 hp1 hp2
  go_simp
  repeat (first | go_values | go_skip | go_guarded | go_step | go_upon)
  refine Calls.mono (readR_none w1) ?_
  rintro e w2 ⟨⟨tv, rfl, htv⟩, hb2⟩
  obtain ⟨p8, n8, k8, rfl⟩ := htv.slice
  have HP2 := Lib.hid (HP.out.ext hb2)
  have HA2 := Lib.hid (HA1.out.keep hb2)
  have HB2 := Lib.hid (HB1.out.keep hb2)
  have HX2 := Lib.hid (Ext.trans HX1.out hb2)
  have HE2 := Lib.hid htv
  clear hb2 htv HP HA1 HB1 HX1
  go_simp
  repeat (first | go_values | go_skip | go_guarded | go_step | go_upon)
  have hC := Blk.new w2 #[.slice p8 n8 k8] 28 rfl
  have HP3 := Lib.hid (HP2.out.ext ((Ext.refl _).alloc (.cells #[.slice p8 n8 k8] 28)))
  have HA3 := Lib.hid (HA2.out.alloc (.cells #[.slice p8 n8 k8] 28))
  have HB3 := Lib.hid (HB2.out.alloc (.cells #[.slice p8 n8 k8] 28))
  have HX3 := Lib.hid (HX2.out.alloc (.cells #[.slice p8 n8 k8] 28))
  have HE3 := Lib.hid (HE2.out.ext ((Ext.refl _).alloc (.cells #[.slice p8 n8 k8] 28)))
  generalize w2.alloc (.cells #[.slice p8 n8 k8] 28) = W3 at hC HP3 HA3 HB3 HX3 HE3 ⊢
  generalize w2.heap.size = c at hC ⊢
  have HC := Lib.hid hC
  clear hC HP2 HA2 HB2 HX2 HE2
  have hca : c ≠ w.heap.size := by intro h; subst h; have h1 := HC.out; have h2 := HA3.out; unfold Blk at h1 h2; rw [h1] at h2; simp at h2
  have hcb : c ≠ w.heap.size + 1 := by intro h; subst h; have h1 := HC.out; have h2 := HB3.out; unfold Blk at h1 h2; rw [h1] at h2; simp at h2
  have HF := Lib.hid (show ∀ W, LeZ w.heap.size (w.heap.size + 1) 25 30 #[.int .i64 3, .int .i64 (lvl level : Int), .bool shift, .bool back, .pointer (some ⟨p, 0, none⟩)] #[.int .i64 3, .int .i64 (lvl level : Int), .bool shift, .bool back, .slice p8 n8 k8] W3 W → W.cell? ⟨c, 0, none⟩ = some (.slice p8 n8 k8) ∧ W.cell? ⟨c, 1, none⟩ = none from fun W hW => ⟨by simpa using (hW.blk HC.out hca hcb).cell 0, by simpa using (hW.blk HC.out hca hcb).cell 1⟩)
  refine wp_parZG (leZ w.heap.size (w.heap.size + 1) 25 30 #[.int .i64 3, .int .i64 (lvl level : Int), .bool shift, .bool back, .pointer (some ⟨p, 0, none⟩)] #[.int .i64 3, .int .i64 (lvl level : Int), .bool shift, .bool back, .slice p8 n8 k8]) [0, 1, 2, 3, 4, 5, 6, 7, 8, 9, 10, 11, 12, 13, 14] 15 15 (fun
      | 0 => fun _ v _ => v = .int .i64 (lvl level : Int)
      | 1 => fun _ v _ => v = .bool shift
      | 2 => fun _ v _ => v = .bool back
      | 3 => fun _ v _ => v = .pointer (some ⟨p, 0, none⟩)
      | 4 => fun _ v _ => v = .agg #[.int .i64 3, .int .i64 (lvl level : Int), .bool shift, .bool back, .pointer (some ⟨p, 0, none⟩)]
      | 5 => fun _ v _ => v = .int .i64 (lvl level : Int)
      | 6 => fun _ v _ => v = .bool shift
      | 7 => fun _ v _ => v = .bool back
      | 8 => fun _ v _ => v = .agg #[.slice p8 n8 k8]
      | 9 => fun _ v _ => v = .agg #[.int .i64 3, .int .i64 (lvl level : Int), .bool shift, .bool back, .slice p8 n8 k8]
      | 10 => fun _ v _ => v = .pointer (some ⟨p, 0, none⟩)
      | 11 => fun _ v _ => v = .bool true
      | 12 => isBlk w.heap.size #[.int .i64 3, .int .i64 (lvl level : Int), .bool shift, .bool back, .pointer (some ⟨p, 0, none⟩)] 25
      | 13 => isBlk (w.heap.size + 1) #[.int .i64 3, .int .i64 (lvl level : Int), .bool shift, .bool back, .slice p8 n8 k8] 30
      | 14 => fun _ v _ => v = .bool true
      | _ => fun _ _ _ => True) (fun
      | _ => undef) (by kernel_rfl) (by kernel_rfl) (by kernel_rfl) ?_ ?_ ?_
  · simp (maxSteps := 20000000) only [permL, permOp, List.filterMap_cons, List.filterMap_nil, List.getElem?_cons_succ, List.getElem?_cons_zero, Option.map_some, Option.map_none, List.take_succ_cons, List.take_zero, ParAllG, Act.put, List.setIfInBounds_toArray, List.set_cons_succ, List.set_cons_zero]
    refine ⟨?_, ?_, ?_, ?_, ?_, ?_, ?_, ?_, ?_, ?_, ?_, ?_, ?_, ?_, ?_, trivial⟩
    · intro vals W hx hd
      have hW := HF.out W hx
      simp [PDepsG, pdeps, Region.binds, List.idxOf_cons] at hd
      first
        | refine ParObG.plain rfl ?_
        | refine ParObG.wanted (by simp [Region.wanted, yielded, hd]) ?_
      go_simp
      exact ParPostG.same (leZ w.heap.size (w.heap.size + 1) 25 30 #[.int .i64 3, .int .i64 (lvl level : Int), .bool shift, .bool back, .pointer (some ⟨p, 0, none⟩)] #[.int .i64 3, .int .i64 (lvl level : Int), .bool shift, .bool back, .slice p8 n8 k8]) fun _ _ => rfl
    · intro vals W hx hd
      have hW := HF.out W hx
      simp [PDepsG, pdeps, Region.binds, List.idxOf_cons] at hd
      first
        | refine ParObG.plain rfl ?_
        | refine ParObG.wanted (by simp [Region.wanted, yielded, hd]) ?_
      go_simp
      exact ParPostG.same (leZ w.heap.size (w.heap.size + 1) 25 30 #[.int .i64 3, .int .i64 (lvl level : Int), .bool shift, .bool back, .pointer (some ⟨p, 0, none⟩)] #[.int .i64 3, .int .i64 (lvl level : Int), .bool shift, .bool back, .slice p8 n8 k8]) fun _ _ => rfl
    · intro vals W hx hd
      have hW := HF.out W hx
      simp [PDepsG, pdeps, Region.binds, List.idxOf_cons] at hd
      first
        | refine ParObG.plain rfl ?_
        | refine ParObG.wanted (by simp [Region.wanted, yielded, hd]) ?_
      go_simp
      exact ParPostG.same (leZ w.heap.size (w.heap.size + 1) 25 30 #[.int .i64 3, .int .i64 (lvl level : Int), .bool shift, .bool back, .pointer (some ⟨p, 0, none⟩)] #[.int .i64 3, .int .i64 (lvl level : Int), .bool shift, .bool back, .slice p8 n8 k8]) fun _ _ => rfl
    · intro vals W hx hd
      have hW := HF.out W hx
      simp [PDepsG, pdeps, Region.binds, List.idxOf_cons] at hd
      first
        | refine ParObG.plain rfl ?_
        | refine ParObG.wanted (by simp [Region.wanted, yielded, hd]) ?_
      go_simp
      exact ParPostG.same (leZ w.heap.size (w.heap.size + 1) 25 30 #[.int .i64 3, .int .i64 (lvl level : Int), .bool shift, .bool back, .pointer (some ⟨p, 0, none⟩)] #[.int .i64 3, .int .i64 (lvl level : Int), .bool shift, .bool back, .slice p8 n8 k8]) fun _ _ => rfl
    · intro vals W hx hd
      have hW := HF.out W hx
      simp [PDepsG, pdeps, Region.binds, List.idxOf_cons] at hd
      first
        | refine ParObG.plain rfl ?_
        | refine ParObG.wanted (by simp [Region.wanted, yielded, hd]) ?_
      go_simp
      exact ParPostG.same (leZ w.heap.size (w.heap.size + 1) 25 30 #[.int .i64 3, .int .i64 (lvl level : Int), .bool shift, .bool back, .pointer (some ⟨p, 0, none⟩)] #[.int .i64 3, .int .i64 (lvl level : Int), .bool shift, .bool back, .slice p8 n8 k8]) fun _ _ => rfl
    · intro vals W hx hd
      have hW := HF.out W hx
      simp [PDepsG, pdeps, Region.binds, List.idxOf_cons] at hd
      first
        | refine ParObG.plain rfl ?_
        | refine ParObG.wanted (by simp [Region.wanted, yielded, hd]) ?_
      go_simp
      exact ParPostG.same (leZ w.heap.size (w.heap.size + 1) 25 30 #[.int .i64 3, .int .i64 (lvl level : Int), .bool shift, .bool back, .pointer (some ⟨p, 0, none⟩)] #[.int .i64 3, .int .i64 (lvl level : Int), .bool shift, .bool back, .slice p8 n8 k8]) fun _ _ => rfl
    · intro vals W hx hd
      have hW := HF.out W hx
      simp [PDepsG, pdeps, Region.binds, List.idxOf_cons] at hd
      first
        | refine ParObG.plain rfl ?_
        | refine ParObG.wanted (by simp [Region.wanted, yielded, hd]) ?_
      go_simp
      exact ParPostG.same (leZ w.heap.size (w.heap.size + 1) 25 30 #[.int .i64 3, .int .i64 (lvl level : Int), .bool shift, .bool back, .pointer (some ⟨p, 0, none⟩)] #[.int .i64 3, .int .i64 (lvl level : Int), .bool shift, .bool back, .slice p8 n8 k8]) fun _ _ => rfl
    · intro vals W hx hd
      have hW := HF.out W hx
      simp [PDepsG, pdeps, Region.binds, List.idxOf_cons] at hd
      first
        | refine ParObG.plain rfl ?_
        | refine ParObG.wanted (by simp [Region.wanted, yielded, hd]) ?_
      go_simp
      exact ParPostG.same (leZ w.heap.size (w.heap.size + 1) 25 30 #[.int .i64 3, .int .i64 (lvl level : Int), .bool shift, .bool back, .pointer (some ⟨p, 0, none⟩)] #[.int .i64 3, .int .i64 (lvl level : Int), .bool shift, .bool back, .slice p8 n8 k8]) fun _ _ => rfl
    · intro vals W hx hd
      have hW := HF.out W hx
      simp [PDepsG, pdeps, Region.binds, List.idxOf_cons] at hd
      first
        | refine ParObG.plain rfl ?_
        | refine ParObG.wanted (by simp [Region.wanted, yielded, hd]) ?_
      go_simp
      exact ParPostG.same (leZ w.heap.size (w.heap.size + 1) 25 30 #[.int .i64 3, .int .i64 (lvl level : Int), .bool shift, .bool back, .pointer (some ⟨p, 0, none⟩)] #[.int .i64 3, .int .i64 (lvl level : Int), .bool shift, .bool back, .slice p8 n8 k8]) fun _ _ => rfl
    · intro vals W hx hd
      have hW := HF.out W hx
      simp [PDepsG, pdeps, Region.binds, List.idxOf_cons] at hd
      first
        | refine ParObG.plain rfl ?_
        | refine ParObG.wanted (by simp [Region.wanted, yielded, hd]) ?_
      go_simp
      exact ParPostG.same (leZ w.heap.size (w.heap.size + 1) 25 30 #[.int .i64 3, .int .i64 (lvl level : Int), .bool shift, .bool back, .pointer (some ⟨p, 0, none⟩)] #[.int .i64 3, .int .i64 (lvl level : Int), .bool shift, .bool back, .slice p8 n8 k8]) fun _ _ => rfl
    · intro vals W hx hd
      have hW := HF.out W hx
      simp [PDepsG, pdeps, Region.binds, List.idxOf_cons] at hd
      first
        | refine ParObG.plain rfl ?_
        | refine ParObG.wanted (by simp [Region.wanted, yielded, hd]) ?_
      go_simp
      exact ParPostG.same (leZ w.heap.size (w.heap.size + 1) 25 30 #[.int .i64 3, .int .i64 (lvl level : Int), .bool shift, .bool back, .pointer (some ⟨p, 0, none⟩)] #[.int .i64 3, .int .i64 (lvl level : Int), .bool shift, .bool back, .slice p8 n8 k8]) fun _ _ => rfl
    · intro vals W hx hd
      have hW := HF.out W hx
      simp [PDepsG, pdeps, Region.binds, List.idxOf_cons] at hd
      first
        | refine ParObG.plain rfl ?_
        | refine ParObG.wanted (by simp [Region.wanted, yielded, hd]) ?_
      go_simp
      exact ParPostG.same (leZ w.heap.size (w.heap.size + 1) 25 30 #[.int .i64 3, .int .i64 (lvl level : Int), .bool shift, .bool back, .pointer (some ⟨p, 0, none⟩)] #[.int .i64 3, .int .i64 (lvl level : Int), .bool shift, .bool back, .slice p8 n8 k8]) fun _ _ => rfl
    · intro vals W hx hd
      have hW := HF.out W hx
      simp [PDepsG, pdeps, Region.binds, List.idxOf_cons] at hd
      first
        | refine ParObG.plain rfl ?_
        | refine ParObG.wanted (by simp [Region.wanted, yielded, hd]) ?_
      obtain ⟨old, ho, hos⟩ := hx.ra _ HA3.out rfl
      refine yields_storeG rfl rfl (by simpa [Act.eval] using hd.1) ho hos (by kernel_rfl) (by simp [Value.oneCell']) ?_
      exact ⟨LeZ.setA ho (by omega), fun w10 h10 => h10.ka (setRow_heap W _ _ _ _ _ ho)⟩
    · intro vals W hx hd
      have hW := HF.out W hx
      simp [PDepsG, pdeps, Region.binds, List.idxOf_cons] at hd
      first
        | refine ParObG.plain rfl ?_
        | refine ParObG.wanted (by simp [Region.wanted, yielded, hd]) ?_
      obtain ⟨old, ho, hos⟩ := hx.rb _ HB3.out rfl
      refine yields_storeG rfl rfl (by simpa [Act.eval] using hd.1) ho hos (by kernel_rfl) (by simp [Value.oneCell']) ?_
      exact ⟨LeZ.setB ho (by omega), fun w10 h10 => h10.kb (setRow_heap W _ _ _ _ _ ho)⟩
    · intro vals W hx hd
      have hW := HF.out W hx
      simp [PDepsG, pdeps, Region.binds, List.idxOf_cons] at hd
      first
        | refine ParObG.plain rfl ?_
        | refine ParObG.wanted (by simp [Region.wanted, yielded, hd]) ?_
      go_simp
      exact ParPostG.same (leZ w.heap.size (w.heap.size + 1) 25 30 #[.int .i64 3, .int .i64 (lvl level : Int), .bool shift, .bool back, .pointer (some ⟨p, 0, none⟩)] #[.int .i64 3, .int .i64 (lvl level : Int), .bool shift, .bool back, .slice p8 n8 k8]) fun _ _ => rfl
  · simp (maxSteps := 20000000) only [permL, permOp, List.filterMap_cons, List.filterMap_nil, List.getElem?_cons_succ, List.getElem?_cons_zero, Option.map_some, Option.map_none, List.drop_succ_cons, List.drop_zero, List.take_succ_cons, List.take_zero, Nat.reduceSub, ZAll, ParEnd, Act.put, List.setIfInBounds_toArray, List.set_cons_succ, List.set_cons_zero]
  intro vals W hx hf hz
  simp (maxSteps := 20000000) only [permL, permOp, List.filterMap_cons, List.filterMap_nil, List.getElem?_cons_succ, List.getElem?_cons_zero, Option.map_some, Option.map_none, ParFactsG, List.take_succ_cons, List.take_zero, and_true, Nat.reduceAdd] at hf
  obtain ⟨f0, f1, f2, f3, f4, f5, f6, f7, f8, f9, f10, f11, f12, f13, f14⟩ := hf
  clear hz
  simp (maxSteps := 20000000) only [permL, permOp, List.filterMap_cons, List.filterMap_nil, List.getElem?_cons_succ, List.getElem?_cons_zero, Option.map_some, Option.map_none, List.drop_succ_cons, List.drop_zero, List.take_succ_cons, List.take_zero, Nat.reduceSub, ParEnd, ZTail, Act.put, List.setIfInBounds_toArray, List.set_cons_succ, List.set_cons_zero, Nat.reduceAdd, f0, f1, f2, f3, f4, f5, f6, f7, f8, f9, f10, f11, f14]
  clear f0 f1 f2 f3 f4 f5 f6 f7 f8 f9 f10 f11 f14
  have hag : ∀ i, i < W3.heap.size → W.heap[i]? = W3.heap[i]? ∨ NoTab W3 i := fun i hi => by
    by_cases h1 : i = w.heap.size
    · subst h1; exact .inr (.mk5 HA3.out)
    · by_cases h2 : i = w.heap.size + 1
      · subst h2; exact .inr (.mk5 HB3.out)
      · exact .inl (hx.old i hi h1 h2)
  have HP4 := Lib.hid (HP3.out.agreeZ hx.size hag)
  have HE4 := Lib.hid (HE3.out.agreeZ rootS_pos hx.size hag)
  have HA4 := Lib.hid (show Blk W w.heap.size _ 25 from f12)
  have HB4 := Lib.hid (show Blk W (w.heap.size + 1) _ 30 from f13)
  have HX4 : Hid (Ext w W) := Lib.hid ⟨hx.os.trans HX3.out.os, hx.tape.trans HX3.out.tape, hx.out.trans HX3.out.output, Nat.le_trans HX3.out.size hx.size, fun i hi => (hx.old i (Nat.lt_of_lt_of_le hi HX3.out.size) (by omega) (by omega)).trans (HX3.out.block i hi)⟩
  clear hag hx HF f12 f13 hca hcb
  go_simp
  repeat (first | go_values | go_skip | go_guarded | go_step | go_upon)
  refine bodyPost_ret (ret_make rfl _ rfl rfl HA4.out rfl rfl HB4.out) rfl ?_
  exact ⟨⟨p, .slice p8 n8 k8, rfl, HP4.out, HE4.out⟩, HX4.out⟩
end Go.Proofs.YtipokgedmfnlaaaGreatDoor
